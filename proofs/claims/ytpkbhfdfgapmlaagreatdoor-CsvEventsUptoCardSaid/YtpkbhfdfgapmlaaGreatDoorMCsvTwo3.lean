/-
Part 3 of the proof of the law CsvTwo: texts ExtVq, PvUnq, ExtPI, ExtV1, Prx6, PvRead, ExtCl, ExtEv1, Prx7, ExtEv2.
-/
import Derived.Laws.EntriesVeiled
import Derived.Laws.MakeOwn
import Derived.Laws.Rows
import Derived.Lib.AtoiErrMem
import Derived.Lib.BufferWrite
import Derived.Lib.ItoaLen
import Derived.Lib.ItoaNum
import Derived.Lib.ParseIntBCases
import Derived.Lib.ParseIntBTie
import Derived.Lib.UnsafeStr
import Derived.Test.YtpkbhfdfgapmlaaGreatDoorMCsvTwo0
import Derived.Test.YtpkbhfdfgapmlaaGreatDoorMCsvTwo2
/-! ## text ExtVq -/
section
namespace Go.Proofs.YtpkbhfdfgapmlaaGreatDoor.Pr
open Go.RowKit Go.Proofs.YtpkbhfdfgapmlaaGreatDoor.Pu Go.Proofs.YtpkbhfdfgapmlaaGreatDoorW.PrintWords Go.Proofs.YtpkbhfdfgapmlaaGreatDoorW.PrintLast Go.Proofs.YtpkbhfdfgapmlaaGreatDoorW.PrintMore
set_option linter.unusedVariables false
set_option linter.unusedSimpArgs false
/-- A hexadecimal digit. -/
def hexd (n : Nat) : UInt8 := UInt8.ofNat (if n < 10 then 48 + n else 87 + n)
/-- A byte as it is written within a string. -/
def qv (c : UInt8) : List UInt8 :=
  if c.toNat = 34 ∨ c.toNat = 92 then [92, c] else if c.toNat = 10 then [92, 110] else if c.toNat = 9 then [92, 116]
  else if c.toNat < 32 ∨ 126 < c.toNat then [92, 120, hexd (c.toNat / 16), hexd (c.toNat % 16)] else [c]
/-- A string as it is written. -/
def qvs (l : List UInt8) : List UInt8 := 34 :: (l.flatMap qv ++ [34])

theorem builder_belowQ {T e : TypeId} {B b : Nat} {bs : List Value} {w w' : World} (h : Lib.IsBuilderF T e B b bs w) (hb : Below w.heap.size w w') : Lib.IsBuilderF T e B b bs w' := by
  have lt : ∀ k o, w.heap[k]? = some o → w'.heap[k]? = some o := fun k o h => by rw [hb.block k (Array.getElem?_eq_some_iff.1 h).1]; exact h
  have key : ∀ p, Lib.BuilderAtF T e B b p bs w → Lib.BuilderAtF T e B b p bs w' := by
    rintro p ⟨h1, v, h2, ⟨h3, h4⟩, h5⟩
    refine ⟨h1, v, lt _ _ h2, ⟨h3, ?_⟩, h5⟩
    rcases h4 with hn | ⟨g, cap, cur, fz, hv, hbg, hgg, rest⟩
    · exact .inl hn
    · exact .inr ⟨g, cap, cur, fz, hv, hbg, lt _ _ hgg, rest⟩
  rcases h with h | h
  · exact .inl (key _ h)
  · exact .inr (key _ h)
theorem bc_snoc (a : List UInt8) (c : UInt8) : Lib.byteCells (a ++ [c]) = Lib.byteCells a ++ [.int .u8 (c.toNat : Int)] := by simp [Lib.byteCells]
theorem bc_str (a : List UInt8) (s : ByteArray) : Lib.byteCells (a ++ s.data.toList) = Lib.byteCells a ++ Lib.strCells s := by simp [Lib.byteCells, Lib.strCells]
/-- What the builder holds behind the bytes of l. -/
theorem qv_len (c : UInt8) : (qv c).length ≤ 4 := by unfold qv; repeat' split
                                                     all_goals simp
theorem fm_len (l : List UInt8) : (l.flatMap qv).length ≤ 4 * l.length := by
  induction l with
  | nil => simp
  | cons c t ih => have := qv_len c; simp only [List.flatMap_cons, List.length_append, List.length_cons]; omega

theorem esc_tab : ∀ n : Nat, n < 256 → value_escape.f 1 (n : Int) = some (if n = 34 ∨ n = 92 then ((n : Int), true) else if n = 10 then (110, true) else if n = 9 then (116, true) else (0, false)) := by decide +kernel
theorem esc_cases (c : UInt8) : (∃ L : UInt8, value_escape.f 1 (c.toNat : Int) = some ((L.toNat : Int), true) ∧ qv c = [92, L]) ∨
    (value_escape.f 1 (c.toNat : Int) = some (0, false) ∧ (c.toNat < 32 ∨ 126 < c.toNat) ∧ qv c = [92, 120, hexd (c.toNat / 16), hexd (c.toNat % 16)]) ∨
    (value_escape.f 1 (c.toNat : Int) = some (0, false) ∧ 32 ≤ c.toNat ∧ c.toNat ≤ 126 ∧ qv c = [c]) := by
  have h := esc_tab c.toNat c.toNat_lt
  unfold qv
  by_cases h1 : c.toNat = 34 ∨ c.toNat = 92
  · rw [if_pos h1] at h ⊢; exact .inl ⟨c, h, rfl⟩
  rw [if_neg h1] at h ⊢
  by_cases h2 : c.toNat = 10
  · rw [if_pos h2] at h ⊢; exact .inl ⟨110, h, rfl⟩
  rw [if_neg h2] at h ⊢
  by_cases h3 : c.toNat = 9
  · rw [if_pos h3] at h ⊢; exact .inl ⟨116, h, rfl⟩
  rw [if_neg h3] at h ⊢
  by_cases h4 : c.toNat < 32 ∨ 126 < c.toNat
  · rw [if_pos h4]; exact .inr (.inl ⟨h, h4, rfl⟩)
  · rw [if_neg h4]; exact .inr (.inr ⟨h, by omega, by omega, rfl⟩)
def lowH : ByteArray := ⟨#[48, 49, 50, 51, 52, 53, 54, 55, 56, 57, 97, 98, 99, 100, 101, 102]⟩
theorem hex_tab : ∀ n : Nat, n < 256 → bt lowH ((n : Int) / 16) = ((hexd (n / 16)).toNat : Int) ∧ bt lowH ((n : Int) % 16) = ((hexd (n % 16)).toNat : Int) ∧ (0 : Int) ≤ n / 16 ∧ (n : Int) / 16 < 16 ∧ 0 ≤ (n : Int) % 16 ∧ (n : Int) % 16 < 16 := by decide +kernel
set_option maxHeartbeats 4000000 in
theorem value_quoted_walk (s : ByteArray) (w : World) (hs : s.size ≤ 17592186044416) :
    Calls Tryz.prog 83 #[.string s] w fun e w' => e = .returned (.string ⟨(qvs s.data.toList).toArray⟩) ∧ Below w.heap.size w w' := by
  obtain ⟨R, hR⟩ : ∃ R, R = qvs s.data.toList := ⟨_, rfl⟩
  have HR := Aside0.mk hR
  rw [← hR]
  clear hR
  go_enter Tryz.func83, Tryz.ntmps83
  go_upto_region 2 with (fail)
  have hfresh := Lib.IsBuilderF.of (Lib.fresh_isBuilder 94 5 w)
  have HB1 := below_alloc (Below.refl w.heap.size w) (.cells #[.pointer none, .slice none 0 0] 94)
  have hsz : w.heap.size < (w.alloc (.cells #[.pointer none, .slice none 0 0] 94)).heap.size := by simp
  generalize w.alloc (.cells #[.pointer none, .slice none 0 0] 94) = w1 at *
  generalize hbq : w.heap.size = b at *
  have HBQ := Aside0.mk hbq
  clear hbq
  have HBD := Aside0.mk hfresh
  have HBL := Aside0.mk HB1
  clear hfresh HB1
  go_upto_region 3 with (go_at_call 38; (with_reducible refine (Tryz.Builder_WriteByte_k b b _ 34 _ HBD.out (by simp) (by omega)).mono ?_); rintro e w3 ⟨rfl, hw2, hw3, hw4⟩)
  replace HBD : Aside0 (Lib.IsBuilderF 94 5 b b (Lib.byteCells (34 :: (s.data.toList.take 0).flatMap qv)) w3) := ⟨Or.inr hw2⟩
  replace hsz : b < w3.heap.size := by have := hw3.size; omega
  replace HBL := Aside0.mk (HBL.out.trans hw3)
  clear hw2 hw3 hw4
  have hl0 : s.data.toList.length = s.size := by simp
  go_upto_region 4 with (fail)
  go_loopw [11] (fun v w' => ∃ (i : Nat) (acc : List UInt8), v = .int .i64 i ∧ i ≤ s.size ∧ acc.length ≤ 4 * i + 1 ∧ Aside0 (acc = 34 :: (s.data.toList.take i).flatMap qv) ∧ Aside0 (Lib.IsBuilderF 94 5 b b (Lib.byteCells acc) w') ∧ b < w'.heap.size ∧ Aside0 (Below b w w')) (fun v _ => s.size - (match v with | .int _ i => i.toNat | _ => 0))
  case atStart => exact ⟨0, _, rfl, by omega, by simp, ⟨rfl⟩, HBD, hsz, HBL⟩
  case round =>
    clear HBD hsz HBL
    obtain ⟨i, acc, rfl, hi, hal, HA, HBD, hsz, HBL⟩ := hrel
    by_cases hlt : i < s.size
    · as_aux_lemma =>
      have hp : 0 ≤ (i : Int) := by omega
      have hq : (i : Int) < (s.size : Int) := by omega
      have hn : ∃ c : UInt8, s.data.toList[i]? = some c ∧ ∀ h : i < s.size, ((s[i]'h).toNat : Int) = (c.toNat : Int) := by
        have h1 : i < s.data.toList.length := by omega
        refine ⟨s.data.toList[i], List.getElem?_eq_getElem h1, fun h => ?_⟩
        simp only [Array.getElem_toList]
        rfl
      obtain ⟨c, hc1, hx⟩ := hn
      have HA2 : Aside0 (acc ++ qv c = 34 :: (s.data.toList.take (i + 1)).flatMap qv) := ⟨by rw [HA.out, List.take_add_one, hc1]; simp⟩
      have hw64 : wrap64 ((i : Int) + 1) = ((i + 1 : Nat) : Int) := by unfold wrap64; omega
      have HW := Aside0.mk hw64
      have HLT := Aside0.mk hlt
      have hcl := c.toNat_lt
      replace hp := eq_true hp
      replace hq := eq_true hq
      clear hc1 hw64 HA
      have hbl := Lib.byteCells_length acc
      rcases esc_cases c with ⟨L, he, hq2⟩ | ⟨he, hx2, hq2⟩ | ⟨he, hx2, hx3, hq2⟩
      all_goals
        have HQ := Aside0.mk hq2
        have HE := Aside0.mk he
        clear hq2 he
      · go_upto_region 10 with (go_at_call 97; (with_reducible refine (value_escape.calls 1 _ _ _ _ HE.out).mono ?_); rintro e w4 ⟨rfl, hd⟩)
        replace HBD := Aside0.mk (builder_belowQ HBD.out hd.below)
        replace HBL := Aside0.mk (HBL.out.trans (hd.below.mono (Nat.le_of_lt hsz)))
        replace hsz : b < w4.heap.size := by have := hd.below.size; omega
        clear hd
        go_upto_region 11 with (go_at_call 38; (with_reducible refine (Tryz.Builder_WriteByte_k b b _ 92 _ HBD.out (by simp only [Lib.byteCells_length, List.length_append, List.length_singleton, List.length_cons, List.length_nil]; omega) (by omega)).mono ?_); rintro e w5 ⟨rfl, hw2, hw3, hw4⟩)
        replace HBD : Aside0 (Lib.IsBuilderF 94 5 b b (Lib.byteCells (acc ++ [92])) w5) := ⟨by rw [bc_snoc]; exact Or.inr hw2⟩
        replace HBL := Aside0.mk (HBL.out.trans hw3)
        replace hsz : b < w5.heap.size := by have := hw3.size; omega
        clear hw2 hw3 hw4
        go_upto_region 16 with (go_at_call 38; (with_reducible refine (Tryz.Builder_WriteByte_k b b _ (L.toNat : Int) _ HBD.out (by simp only [Lib.byteCells_length, List.length_append, List.length_singleton, List.length_cons, List.length_nil]; omega) (by omega)).mono ?_); rintro e w6 ⟨rfl, hw2, hw3, hw4⟩)
        replace HBD : Aside0 (Lib.IsBuilderF 94 5 b b (Lib.byteCells (acc ++ [92] ++ [L])) w6) := ⟨by rw [bc_snoc]; exact Or.inr hw2⟩
        replace HBL := Aside0.mk (HBL.out.trans hw3)
        replace hsz : b < w6.heap.size := by have := hw3.size; omega
        clear hw2 hw3 hw4
        go_wp2
        exact ⟨⟨i + 1, acc ++ [92] ++ [L], congrArg (Value.int .i64) (by omega), by have := HLT.out; omega, by have h5 := hal; simp only [List.length_append, List.length_singleton]; omega, ⟨by rw [← HA2.out, HQ.out]; try simp⟩, HBD, hsz, HBL⟩, by have := HLT.out; simp; omega⟩
      · obtain ⟨ht1, ht2, ht3, ht4, ht5, ht6⟩ := hex_tab c.toNat hcl
        have hb1 := bt_at lowH ((c.toNat : Int) / 16)
        have hb2 := bt_at lowH ((c.toNat : Int) % 16)
        rw [ht1] at hb1
        rw [ht2] at hb2
        unfold lowH at hb1 hb2
        clear ht1 ht2
        have hk : ((c.toNat : Int) < 32) = True ∨ ((c.toNat : Int) < 32) = False ∧ ((126 : Int) < (c.toNat : Int)) = True := by
          by_cases h : c.toNat < 32
          · exact .inl (eq_true (by omega))
          · exact .inr ⟨eq_false (by omega), eq_true (by omega)⟩
        clear hx2
        have hz0 : 0 ≤ (c.toNat : Int) := by omega
        have hz1 : (c.toNat : Int) ≤ 255 := by omega
        generalize (c.toNat : Int) = z at hx HE hb1 hb2 ht3 ht4 ht5 ht6 hk hz0 hz1
        replace ht3 := eq_true ht3
        replace ht4 := eq_true ht4
        replace ht5 := eq_true ht5
        replace ht6 := eq_true ht6
        rcases hk with hk | ⟨hk, hk2⟩
        all_goals
          go_upto_region 13 with (go_at_call 97; (with_reducible refine (value_escape.calls 1 _ _ _ _ HE.out).mono ?_); rintro e w4 ⟨rfl, hd⟩)
          replace HBD := Aside0.mk (builder_belowQ HBD.out hd.below)
          replace HBL := Aside0.mk (HBL.out.trans (hd.below.mono (Nat.le_of_lt hsz)))
          replace hsz : b < w4.heap.size := by have := hd.below.size; omega
          clear hd
          have h8 : (Lib.byteCells acc).length + (⟨#[92, 120]⟩ : ByteArray).size ≤ 140737488355328 := by rw [Lib.byteCells_length]; show acc.length + 2 ≤ 140737488355328; omega
          have H8 := Aside0.mk h8
          clear h8
          go_upto_region 14 with (go_at_call 39; (with_reducible refine (Tryz.Builder_WriteString_k b b (Lib.byteCells acc) ⟨#[92, 120]⟩ _ HBD.out H8.out (by omega)).mono ?_); rintro e w5 ⟨rfl, hw2, hw3, hw4⟩)
          replace HBD : Aside0 (Lib.IsBuilderF 94 5 b b (Lib.byteCells (acc ++ [92, 120])) w5) := ⟨by have h7 := bc_str acc ⟨#[92, 120]⟩; rw [show acc ++ [92, 120] = acc ++ (⟨#[92, 120]⟩ : ByteArray).data.toList from rfl, h7]; exact Or.inr hw2⟩
          replace HBL := Aside0.mk (HBL.out.trans hw3)
          replace hsz : b < w5.heap.size := by have := hw3.size; omega
          clear hw2 hw3 hw4
          go_upto_region 15 with (go_at_call 38; (with_reducible refine (Tryz.Builder_WriteByte_k b b _ ((hexd (c.toNat / 16)).toNat : Int) _ HBD.out (by simp only [Lib.byteCells_length, List.length_append, List.length_singleton, List.length_cons, List.length_nil]; omega) (by omega)).mono ?_); rintro e w6 ⟨rfl, hw2, hw3, hw4⟩)
          replace HBD : Aside0 (Lib.IsBuilderF 94 5 b b (Lib.byteCells (acc ++ [92, 120] ++ [hexd (c.toNat / 16)])) w6) := ⟨by rw [bc_snoc]; exact Or.inr hw2⟩
          replace HBL := Aside0.mk (HBL.out.trans hw3)
          replace hsz : b < w6.heap.size := by have := hw3.size; omega
          clear hw2 hw3 hw4
          go_upto_region 16 with (go_at_call 38; (with_reducible refine (Tryz.Builder_WriteByte_k b b _ ((hexd (c.toNat % 16)).toNat : Int) _ HBD.out (by simp only [Lib.byteCells_length, List.length_append, List.length_singleton, List.length_cons, List.length_nil]; omega) (by omega)).mono ?_); rintro e w7 ⟨rfl, hw2, hw3, hw4⟩)
          replace HBD : Aside0 (Lib.IsBuilderF 94 5 b b (Lib.byteCells (acc ++ [92, 120] ++ [hexd (c.toNat / 16)] ++ [hexd (c.toNat % 16)])) w7) := ⟨by rw [bc_snoc]; exact Or.inr hw2⟩
          replace HBL := Aside0.mk (HBL.out.trans hw3)
          replace hsz : b < w7.heap.size := by have := hw3.size; omega
          clear hw2 hw3 hw4
          go_wp2
          exact ⟨⟨i + 1, acc ++ [92, 120] ++ [hexd (c.toNat / 16)] ++ [hexd (c.toNat % 16)], congrArg (Value.int .i64) (by omega), by have := HLT.out; omega, by have h5 := hal; simp only [List.length_append, List.length_singleton, List.length_cons, List.length_nil]; omega, ⟨by rw [← HA2.out, HQ.out]; try simp⟩, HBD, hsz, HBL⟩, by have := HLT.out; simp; omega⟩
      · have hk : ((c.toNat : Int) < 32) = False := eq_false (by omega)
        have hk2 : ((126 : Int) < (c.toNat : Int)) = False := eq_false (by omega)
        clear hx2 hx3
        go_upto_region 8 with (go_at_call 97; (with_reducible refine (value_escape.calls 1 _ _ _ _ HE.out).mono ?_); rintro e w4 ⟨rfl, hd⟩)
        replace HBD := Aside0.mk (builder_belowQ HBD.out hd.below)
        replace HBL := Aside0.mk (HBL.out.trans (hd.below.mono (Nat.le_of_lt hsz)))
        replace hsz : b < w4.heap.size := by have := hd.below.size; omega
        clear hd
        go_upto_region 16 with (go_at_call 38; (with_reducible refine (Tryz.Builder_WriteByte_k b b _ (c.toNat : Int) _ HBD.out (by simp only [Lib.byteCells_length, List.length_append, List.length_singleton, List.length_cons, List.length_nil]; omega) (by omega)).mono ?_); rintro e w5 ⟨rfl, hw2, hw3, hw4⟩)
        replace HBD : Aside0 (Lib.IsBuilderF 94 5 b b (Lib.byteCells (acc ++ [c])) w5) := ⟨by rw [bc_snoc]; exact Or.inr hw2⟩
        replace HBL := Aside0.mk (HBL.out.trans hw3)
        replace hsz : b < w5.heap.size := by have := hw3.size; omega
        clear hw2 hw3 hw4
        go_wp2
        exact ⟨⟨i + 1, acc ++ [c], congrArg (Value.int .i64) (by omega), by have := HLT.out; omega, by have h5 := hal; simp only [List.length_append, List.length_singleton, List.length_cons, List.length_nil]; omega, ⟨by rw [← HA2.out, HQ.out]; try simp⟩, HBD, hsz, HBL⟩, by have := HLT.out; simp; omega⟩
    · as_aux_lemma =>
      have hq : ((i : Int) < (s.size : Int)) = False := eq_false (by omega)
      have hbl := Lib.byteCells_length acc
      have hr : R = acc ++ [34] := by rw [HR.out, HA.out, List.take_of_length_le (by omega)]; rfl
      subst hr
      clear HR HA
      go_upto_region 18 with (go_at_call 38; (with_reducible refine (Tryz.Builder_WriteByte_k b b _ 34 _ HBD.out (by omega) (by omega)).mono ?_); rintro e w3 ⟨rfl, hw2, hw3, hw4⟩)
      replace HBD : Aside0 (Lib.IsBuilderF 94 5 b b (Lib.byteCells (acc ++ [34])) w3) := ⟨by rw [bc_snoc]; exact Or.inr hw2⟩
      replace HBL := Aside0.mk (HBL.out.trans hw3)
      have hsz3 : b ≤ w3.heap.size := by have := hw3.size; omega
      clear hw2 hw3 hw4
      go_wp2_with (go_at_call 42; (with_reducible refine (Tryz.Builder_String_any_k b b (acc ++ [34]) _ HBD.out hsz3).mono ?_); rintro e w2 ⟨rfl, hw2, hw3, hw4⟩)
      go_ret
      exact ⟨rfl, by rw [HBQ.out]; exact HBL.out.trans hw3⟩
end Go.Proofs.YtpkbhfdfgapmlaaGreatDoor.Pr
end

/-! ## text PvUnq -/
section
namespace Go.Proofs.YtpkbhfdfgapmlaaGreatDoor.Pv
open Go.RowKit Go.Proofs.YtpkbhfdfgapmlaaGreatDoor.Pu Go.Proofs.YtpkbhfdfgapmlaaGreatDoorW.PrintWords Go.Proofs.YtpkbhfdfgapmlaaGreatDoorW.PrintLast Go.Proofs.YtpkbhfdfgapmlaaGreatDoorW.PrintMore
set_option linter.unusedVariables false
set_option linter.unusedSimpArgs false

/-- A decimal numeral is read as the number that it spells. No program, no memory. -/
theorem pum_append (M : Nat) : ∀ (l : List UInt8) (acc : Nat) (r : List UInt8) (a : Nat), Lib.parseUintM M acc l = .ok a → Lib.parseUintM M acc (l ++ r) = Lib.parseUintM M a r := by
  intro l
  induction l with
  | nil => intro acc r a h; simp only [Lib.parseUintM] at h; injection h with h; subst h; rfl
  | cons c t ih =>
    intro acc r a h
    rw [List.cons_append]
    rw [Lib.parseUintM] at h
    rw [Lib.parseUintM]
    by_cases h1 : 48 ≤ c.toNat ∧ c.toNat ≤ 57
    · rw [if_pos h1] at h
      rw [if_pos h1]
      by_cases h2 : 1844674407370955162 ≤ acc
      · rw [if_pos h2] at h; cases h
      · rw [if_neg h2] at h
        rw [if_neg h2]
        by_cases h3 : M < acc * 10 + (c.toNat - 48)
        · rw [if_pos h3] at h; cases h
        · rw [if_neg h3] at h
          rw [if_neg h3]
          exact ih _ r a h
    · rw [if_neg h1] at h; cases h
theorem digc (d : Nat) (h : d < 10) : (UInt8.ofNat (48 + d)).toNat = 48 + d := by
  rw [UInt8.toNat_ofNat']; omega
theorem pum_dec (u : Nat) (h : u ≤ 18446744073709551615) : Lib.parseUintM 18446744073709551615 0 (Lib.decDigits u) = .ok u := by
  induction u using Nat.strongRecOn with
  | _ u ih =>
    by_cases h1 : u < 10
    · rw [Lib.decDigits, dif_pos h1, Lib.parseUintM, digc u h1, if_pos (by omega), if_neg (by omega), if_neg (by omega), Lib.parseUintM]
      congr 1
      omega
    · rw [Lib.decDigits, dif_neg h1, pum_append _ _ _ _ _ (ih (u / 10) (by omega) (by omega)), Lib.parseUintM, digc (u % 10) (by omega), if_pos (by omega), if_neg (by omega), if_neg (by omega), Lib.parseUintM]
      congr 1
      omega
theorem dec_digits (u : Nat) : ∀ c ∈ Lib.decDigits u, 48 ≤ c.toNat ∧ c.toNat ≤ 57 := by
  induction u using Nat.strongRecOn with
  | _ u ih =>
    intro c hc
    by_cases h1 : u < 10
    · rw [Lib.decDigits, dif_pos h1, List.mem_singleton] at hc
      rw [hc, digc u h1]; omega
    · rw [Lib.decDigits, dif_neg h1, List.mem_append, List.mem_singleton] at hc
      rcases hc with hc | hc
      · exact ih (u / 10) (by omega) c hc
      · rw [hc, digc _ (by omega)]; omega
theorem dec_ne (u : Nat) : Lib.decDigits u ≠ [] := by
  rw [Lib.decDigits]; split <;> simp
theorem dec_cons (u : Nat) : ∃ c r, Lib.decDigits u = c :: r ∧ 48 ≤ c.toNat ∧ c.toNat ≤ 57 := by
  cases h : Lib.decDigits u with
  | nil => exact absurd h (dec_ne u)
  | cons c r => exact ⟨c, r, rfl, dec_digits u c (by rw [h]; simp)⟩
theorem pub_dec (u : Nat) (h : u ≤ 18446744073709551615) : Lib.parseUintB 64 (Lib.decDigits u) = .ok u := by
  unfold Lib.parseUintB
  rw [if_neg (dec_ne u)]
  exact pum_dec u h
theorem parse_itoa (n : Int) (h0 : -9223372036854775808 ≤ n) (h1 : n ≤ 9223372036854775807) : Lib.parseIntB 64 (Lib.itoa n) = .ok n := by
  unfold Lib.itoa
  by_cases hn : n < 0
  · rw [if_pos hn, Lib.parseIntB_minus, pub_dec _ (by omega)]
    simp only [Lib.signedC]
    rw [if_neg (by omega)]
    congr 1
    omega
  · rw [if_neg hn]
    obtain ⟨c, r, hc, h2, h3⟩ := dec_cons n.toNat
    rw [hc, Lib.parseIntB_plain _ _ _ (by omega) (by omega), ← hc, pub_dec _ (by omega)]
    simp only [Lib.signlessC]
    rw [if_neg (by omega)]
    congr 1
    omega
end Go.Proofs.YtpkbhfdfgapmlaaGreatDoor.Pv
namespace Go.Proofs.YtpkbhfdfgapmlaaGreatDoor.Pv
open Go.RowKit Go.Proofs.YtpkbhfdfgapmlaaGreatDoor.Pu Go.Proofs.YtpkbhfdfgapmlaaGreatDoor.Pr Go.Proofs.YtpkbhfdfgapmlaaGreatDoorW.PrintWords Go.Proofs.YtpkbhfdfgapmlaaGreatDoorW.PrintLast Go.Proofs.YtpkbhfdfgapmlaaGreatDoorW.PrintMore
set_option linter.unusedVariables false
set_option linter.unusedSimpArgs false

/-- What value.unquoted makes of the bytes between the quotes, behind what it has; none: it refuses. -/
def uqP (acc : List UInt8) : List UInt8 → Option (List UInt8)
  | [] => some acc
  | c :: t => if c.toNat = 92 then (match t with
      | [] => none
      | d :: t2 => if d.toNat = 110 then uqP (acc ++ [10]) t2 else if d.toNat = 116 then uqP (acc ++ [9]) t2 else if d.toNat = 120 then (match t2 with
          | a :: b :: t3 => (match resH 0 [a, b] with
              | some u => uqP (acc ++ [UInt8.ofNat u]) t3
              | none => none)
          | _ => none) else uqP (acc ++ [d]) t2)
    else uqP (acc ++ [c]) t
termination_by l => l.length
decreasing_by all_goals simp_wf; all_goals omega

theorem resH_lt {a b : UInt8} {u : Nat} (h : resH 0 [a, b] = some u) : u < 256 := by
  simp only [resH] at h
  cases ha : hexV a with
  | none => rw [ha] at h; cases h
  | some x =>
    rw [ha] at h
    simp only at h
    cases hb : hexV b with
    | none => rw [hb] at h; cases h
    | some y =>
      rw [hb] at h
      have := hexV_lt ha
      have := hexV_lt hb
      injection h with h
      omega
def unB (o : Option (List UInt8)) : ByteArray × Bool := match o with
  | some r => (B r, true)
  | none => (⟨#[]⟩, false)
def nat8 (l : List UInt8) : List Int := l.map fun b => (b.toNat : Int)
theorem nat8_snoc (l : List UInt8) (c : UInt8) : nat8 (l ++ [c]) = nat8 l ++ [(c.toNat : Int)] := by simp [nat8]
theorem nat8_len (l : List UInt8) : (nat8 l).length = l.length := by simp [nat8]
set_option maxHeartbeats 1000000 in
theorem unq_step (K : Nat) (s : ByteArray) (acc : List Int) (i : Nat) (hs : s.size ≤ 140737488351232) (hi : i < s.size) (ha : acc.length < 140737488355328) :
    value_unquoted.l0 (K + 1) s acc (i : Int) =
      if bt s (i : Int) = 92 then
        (if s.size ≤ i + 1 then some ((⟨#[]⟩ : ByteArray), false) else
          if bt s ((i + 1 : Nat) : Int) = 110 then value_unquoted.l0 K s (acc ++ [10]) ((i + 2 : Nat) : Int) else
          if bt s ((i + 1 : Nat) : Int) = 116 then value_unquoted.l0 K s (acc ++ [9]) ((i + 2 : Nat) : Int) else
          if bt s ((i + 1 : Nat) : Int) = 120 then
            (if s.size ≤ i + 3 then some ((⟨#[]⟩ : ByteArray), false) else (strconv_ParseUint.f (s.extract (i + 2) (i + 4)) 16 8).bind fun b => if b.2.isNone = true then value_unquoted.l0 K s (acc ++ [b.1 % 256]) ((i + 4 : Nat) : Int) else some ((⟨#[]⟩ : ByteArray), false))
          else value_unquoted.l0 K s (acc ++ [bt s ((i + 1 : Nat) : Int)]) ((i + 2 : Nat) : Int))
      else value_unquoted.l0 K s (acc ++ [bt s (i : Int)]) ((i + 1 : Nat) : Int) := by
  have w1 : wrap64 ((i : Int) + 1) = ((i + 1 : Nat) : Int) := by rw [w64 (by omega) (by omega)]; omega
  have w2 : wrap64 (((i + 1 : Nat) : Int) + 1) = ((i + 2 : Nat) : Int) := by rw [w64 (by omega) (by omega)]; omega
  have w3 : wrap64 (((i + 1 : Nat) : Int) + 2) = ((i + 3 : Nat) : Int) := by rw [w64 (by omega) (by omega)]; omega
  have w4 : wrap64 (((i + 1 : Nat) : Int) + 3) = ((i + 4 : Nat) : Int) := by rw [w64 (by omega) (by omega)]; omega
  have w5 : wrap64 (((i + 3 : Nat) : Int) + 1) = ((i + 4 : Nat) : Int) := by rw [w64 (by omega) (by omega)]; omega
  rw [value_unquoted.l0, if_pos (by omega), if_pos (by omega)]
  by_cases h : bt s (i : Int) = 92
  · rw [if_pos h, if_pos h, w1]
    by_cases h1 : s.size ≤ i + 1
    · rw [if_pos (by omega), if_pos h1]
    rw [if_neg (by omega), if_neg h1, if_pos (by omega), if_pos (by omega)]
    by_cases h2 : bt s ((i + 1 : Nat) : Int) = 110
    · rw [if_pos h2, if_pos h2, if_pos ha, w2]
    rw [if_neg h2, if_neg h2]
    by_cases h3 : bt s ((i + 1 : Nat) : Int) = 116
    · rw [if_pos h3, if_pos h3, if_pos ha, w2]
    rw [if_neg h3, if_neg h3]
    by_cases h4 : bt s ((i + 1 : Nat) : Int) = 120
    · rw [if_pos h4, if_pos h4, w3]
      by_cases h5 : s.size ≤ i + 3
      · rw [if_pos (by omega), if_pos h5]
      rw [if_neg (by omega), if_neg h5, w2, w4, if_pos (by omega), if_pos (by omega), if_pos (by omega), w5, Int.toNat_natCast, Int.toNat_natCast]
      cases strconv_ParseUint.f (s.extract (i + 2) (i + 4)) 16 8 with
      | none => rfl
      | some b =>
        rw [Option.bind_some, Option.bind_some]
        by_cases h6 : b.2.isNone = true
        · rw [if_pos h6, if_pos h6, if_pos ha]
        · rw [if_neg h6, if_neg h6]
    · rw [if_neg h4, if_neg h4, if_pos ha, w2]
  · rw [if_neg h, if_neg h, if_pos ha, w1]
theorem pu_two (a b : UInt8) : strconv_ParseUint.f (B [a, b]) 16 8 = match resH 0 [a, b] with
    | some u => some ((u : Int), none)
    | none => some (0, some 0) := by
  unfold strconv_ParseUint.f
  rw [if_pos ⟨rfl, rfl, rfl⟩]
  rfl
theorem bt_at2 (l : List UInt8) (i : Nat) (c : UInt8) (t : List UInt8) (h : l.drop i = c :: t) : bt (B l) (i : Int) = (c.toNat : Int) := by
  have hlt : i < l.length := by
    rcases Nat.lt_or_ge i l.length with h1 | h1
    · exact h1
    · rw [List.drop_eq_nil_of_le h1] at h; cases h
  have e : l = l.take i ++ c :: t := by rw [← h, List.take_append_drop]
  have hl : (l.take i).length = i := by rw [List.length_take]; omega
  have := bt_mid (l.take i) c t
  rw [← e, hl] at this
  exact this
theorem drop_next {l : List UInt8} {i : Nat} {c : UInt8} {t : List UInt8} (h : l.drop i = c :: t) : l.drop (i + 1) = t ∧ i < l.length := by
  constructor
  · rw [← List.drop_drop, h]; rfl
  · rcases Nat.lt_or_ge i l.length with h1 | h1
    · exact h1
    · rw [List.drop_eq_nil_of_le h1] at h; cases h
theorem drop_len {l : List UInt8} {i : Nat} {t : List UInt8} (h : l.drop i = t) : l.length - i = t.length := by rw [← h, List.length_drop]
set_option maxHeartbeats 1000000 in
theorem unq_loop (l : List UInt8) (hN : l.length ≤ 140737488351232) : ∀ (m i : Nat) (rest acc : List UInt8), rest.length = m → l.drop i = rest → acc.length ≤ i → i ≤ l.length →
    Ev (fun k => value_unquoted.l0 k (B l) (nat8 acc) (i : Int)) (unB (uqP acc rest)) := by
  intro m
  induction m using Nat.strongRecOn with
  | _ m ih =>
    intro i rest acc hm hd ha hi
    have hal := nat8_len acc
    have hdl := drop_len hd
    cases rest with
    | nil =>
      refine Ev.step (f := fun _ => some (unB (uqP acc []))) ?_ (Ev.now _)
      intro K
      rw [value_unquoted.l0, if_neg (by rw [B_size]; simp at hdl; omega), uqP]
      unfold nat8 unB
      rw [strOfNums_bytes]
    | cons c t =>
      obtain ⟨hd1, hlt⟩ := drop_next hd
      have hb := bt_at2 l i c t hd
      have hm1 : t.length + 1 = m := by simpa using hm
      have st := fun K => unq_step K (B l) (nat8 acc) i (by rw [B_size]; exact hN) (by rw [B_size]; exact hlt) (by omega)
      rw [hb, B_size] at st
      have one : ∀ (x : UInt8), Ev (fun k => value_unquoted.l0 k (B l) (nat8 acc ++ [(x.toNat : Int)]) ((i + 1 : Nat) : Int)) (unB (uqP (acc ++ [x]) t)) := fun x => by
        rw [← nat8_snoc]
        exact ih t.length (by omega) (i + 1) t (acc ++ [x]) rfl hd1 (by simp; omega) (by omega)
      by_cases h92 : c.toNat = 92
      · have hc : ((c.toNat : Nat) : Int) = 92 := by omega
        simp only [if_pos hc] at st
        rw [uqP.eq_def]; dsimp only; rw [if_pos h92]
        cases t with
        | nil =>
          have h1 : l.length ≤ i + 1 := by simp at hdl; omega
          simp only [if_pos h1] at st
          exact Ev.step st (Ev.now _)
        | cons d t2 =>
          obtain ⟨hd2, hlt2⟩ := drop_next hd1
          have hb2 := bt_at2 l (i + 1) d t2 hd1
          rw [hb2] at st
          simp only [if_neg (show ¬ l.length ≤ i + 1 by omega)] at st
          have hm2 : t2.length + 2 = m := by simp at hm1; omega
          have go : ∀ (x : UInt8), Ev (fun k => value_unquoted.l0 k (B l) (nat8 acc ++ [(x.toNat : Int)]) ((i + 2 : Nat) : Int)) (unB (uqP (acc ++ [x]) t2)) := fun x => by
            rw [← nat8_snoc]
            exact ih t2.length (by omega) (i + 2) t2 (acc ++ [x]) rfl hd2 (by simp; omega) (by omega)
          by_cases h110 : d.toNat = 110
          · simp only [if_pos (show ((d.toNat : Nat) : Int) = 110 by omega)] at st
            simp only [if_pos h110]
            exact Ev.step st (go 10)
          simp only [if_neg (show ¬ ((d.toNat : Nat) : Int) = 110 by omega)] at st
          simp only [if_neg h110]
          by_cases h116 : d.toNat = 116
          · simp only [if_pos (show ((d.toNat : Nat) : Int) = 116 by omega)] at st
            simp only [if_pos h116]
            exact Ev.step st (go 9)
          simp only [if_neg (show ¬ ((d.toNat : Nat) : Int) = 116 by omega)] at st
          simp only [if_neg h116]
          by_cases h120 : d.toNat = 120
          · simp only [if_pos (show ((d.toNat : Nat) : Int) = 120 by omega)] at st
            simp only [if_pos h120]
            have hdl2 := drop_len hd2
            match t2, hd2, hm2, hdl2 with
            | [], hd2, hm2, hdl2 =>
              simp only [if_pos (show l.length ≤ i + 3 by simp at hdl2; omega)] at st
              exact Ev.step st (Ev.now _)
            | [a], hd2, hm2, hdl2 =>
              simp only [if_pos (show l.length ≤ i + 3 by simp at hdl2; omega)] at st
              exact Ev.step st (Ev.now _)
            | a :: b :: t3, hd2, hm2, hdl2 =>
              have h3 : ¬ l.length ≤ i + 3 := by simp at hdl2; omega
              simp only [if_neg h3] at st
              have hd3 : l.drop (i + 4) = t3 := by rw [show i + 4 = (i + 2) + 2 by omega, ← List.drop_drop, hd2]; rfl
              have hx : (B l).extract (i + 2) (i + 4) = B [a, b] := by
                rw [B_extract, List.drop_take, hd2, show i + 4 - (i + 2) = 2 by omega]
                rfl
              rw [hx, pu_two] at st
              cases hr : resH 0 [a, b] with
              | none =>
                rw [hr] at st
                dsimp only
                rw [hr]
                exact Ev.step (f := fun _ => some ((⟨#[]⟩ : ByteArray), false)) (fun K => (st K).trans rfl) (Ev.now _)
              | some u =>
                rw [hr] at st
                dsimp only
                rw [hr]
                dsimp only
                have hu := resH_lt hr
                have h5 := ih t3.length (by simp at hm2; omega) (i + 4) t3 (acc ++ [UInt8.ofNat u]) rfl hd3 (by simp; omega) (by simp at hdl2; omega)
                rw [nat8_snoc, show ((UInt8.ofNat u).toNat : Int) = (u : Int) % 256 by rw [UInt8.toNat_ofNat']; omega] at h5
                exact Ev.step (f := fun k => value_unquoted.l0 k (B l) (nat8 acc ++ [(u : Int) % 256]) ((i + 4 : Nat) : Int)) (fun K => (st K).trans rfl) h5
          · simp only [if_neg (show ¬ ((d.toNat : Nat) : Int) = 120 by omega)] at st
            simp only [if_neg h120]
            exact Ev.step st (go d)
      · simp only [if_neg (show ¬ ((c.toNat : Nat) : Int) = 92 by omega)] at st
        rw [uqP.eq_def]; dsimp only; rw [if_neg h92]
        exact Ev.step st (one c)
/-- value.unquoted, on bytes. -/
def unqP (l : List UInt8) : Option (List UInt8) := if l.length < 2 ∨ l.head? ≠ some 34 ∨ l.getLast? ≠ some 34 then none else uqP [] ((l.drop 1).take (l.length - 2))
theorem bt_last (l : List UInt8) (h : l ≠ []) : bt (B l) ((l.length : Int) - 1) = ((l.getLast h).toNat : Int) := by
  have hl := List.length_pos_iff.mpr h
  have := bt_at2 l (l.length - 1) (l.getLast h) [] (by rw [List.drop_eq_getElem_cons (by omega), List.getLast_eq_getElem, List.drop_eq_nil_of_le (by omega)])
  rw [← this]
  congr 1
  omega
set_option maxHeartbeats 1000000 in
theorem unquoted_ev (l : List UInt8) (hl : l.length ≤ 140737488351232) : Ev (fun k => value_unquoted.f k (B l)) (unB (unqP l)) := by
  have no : Ev (fun k => value_unquoted.j0 k (B l) true) (unB none) := by
    refine Ev.step (f := fun _ => some ((⟨#[]⟩ : ByteArray), false)) ?_ (Ev.now _)
    intro K
    rw [value_unquoted.j0, if_pos rfl]
  unfold unqP
  by_cases h2 : l.length < 2
  · rw [if_pos (.inl h2)]
    refine Ev.congr (fun k => ?_) no
    rw [value_unquoted.f, if_pos (by rw [B_size]; omega)]
  have hne : l ≠ [] := fun e => by rw [e] at h2; simp at h2
  obtain ⟨c, t, rfl⟩ : ∃ c t, l = c :: t := by cases l with
    | nil => exact absurd rfl hne
    | cons c t => exact ⟨c, t, rfl⟩
  have hb0 := bt_head c t
  by_cases h34 : c.toNat = 34
  rotate_left
  · rw [if_pos (.inr (.inl (by simp; intro e; rw [e] at h34; exact h34 rfl)))]
    refine Ev.congr (fun k => ?_) no
    rw [value_unquoted.f, if_neg (by rw [B_size]; omega), if_pos (by rw [B_size]; omega), hb0, if_neg (by omega)]
  have hw : wrap64 (((B (c :: t)).size : Int) - 1) = (((c :: t).length : Int) - 1) := by rw [B_size, w64 (by omega) (by omega)]
  have hbl := bt_last (c :: t) hne
  have st : ∀ k, value_unquoted.f k (B (c :: t)) = value_unquoted.j0 k (B (c :: t)) (((((c :: t).getLast hne).toNat : Nat) : Int) != 34) := fun k => by
    rw [value_unquoted.f, if_neg (by rw [B_size]; omega), if_pos (by rw [B_size]; omega), hb0, if_pos (by omega), if_pos (by rw [hw]; omega), if_pos (by rw [hw, B_size]; omega), hw, hbl]
  have hlast : (c :: t).getLast? = some ((c :: t).getLast hne) := List.getLast?_eq_some_getLast hne
  by_cases hl34 : ((c :: t).getLast hne).toNat = 34
  · have hc : c = 34 := UInt8.toNat_inj.mp h34
    have hlc : (c :: t).getLast hne = 34 := UInt8.toNat_inj.mp hl34
    rw [if_neg (fun h => by rcases h with h | h | h; exact h2 h; exact h (by rw [hc]; rfl); exact h (by rw [hlast, hlc]))]
    refine Ev.congr st ?_
    have hm : (((((c :: t).getLast hne).toNat : Nat) : Int) != 34) = false := by simp; omega
    rw [hm]
    have hx : (B (c :: t)).extract 1 ((((c :: t).length : Int) - 1)).toNat = B (((c :: t).drop 1).take ((c :: t).length - 2)) := by
      rw [B_extract, List.drop_take, show (((c :: t).length : Int) - 1).toNat - 1 = (c :: t).length - 2 by omega]
    have hin := unq_loop (((c :: t).drop 1).take ((c :: t).length - 2)) (by rw [List.length_take, List.length_drop]; omega) _ 0 _ [] rfl rfl (by simp) (by omega)
    refine Ev.step ?_ hin
    intro K
    rw [value_unquoted.j0, if_neg (by simp), if_pos (by rw [hw]; omega), if_pos (by rw [hw, B_size]; omega), hw, hx]
    rfl
  · rw [if_pos (.inr (.inr (by rw [hlast]; simp; intro e; rw [e] at hl34; exact hl34 rfl)))]
    refine Ev.congr st ?_
    have hm : (((((c :: t).getLast hne).toNat : Nat) : Int) != 34) = true := by simp; omega
    rw [hm]
    exact no
/-- What is written of a string is read back. -/
theorem uqP_qv (c : UInt8) (acc rest : List UInt8) : uqP acc (qv c ++ rest) = uqP (acc ++ [c]) rest := by
  have h92 : (92 : UInt8).toNat = 92 := rfl
  unfold qv
  by_cases h1 : c.toNat = 34 ∨ c.toNat = 92
  · rw [if_pos h1]
    rw [uqP.eq_def]
    simp only [List.cons_append, List.nil_append, h92, if_true]
    rw [if_neg (by omega), if_neg (by omega), if_neg (by omega)]
  rw [if_neg h1]
  by_cases h2 : c.toNat = 10
  · rw [if_pos h2, uqP.eq_def]
    have : c = 10 := UInt8.toNat_inj.mp h2
    subst this
    simp only [List.cons_append, List.nil_append, h92, if_true]
    rfl
  rw [if_neg h2]
  by_cases h3 : c.toNat = 9
  · rw [if_pos h3, uqP.eq_def]
    have : c = 9 := UInt8.toNat_inj.mp h3
    subst this
    simp only [List.cons_append, List.nil_append, h92, if_true]
    rfl
  rw [if_neg h3]
  by_cases h4 : c.toNat < 32 ∨ 126 < c.toNat
  · rw [if_pos h4, uqP.eq_def]
    have hx : ∀ n : Nat, n < 256 → resH 0 [hexd (n / 16), hexd (n % 16)] = some n := by decide +kernel
    simp only [List.cons_append, List.nil_append, h92, if_true]
    rw [if_neg (by decide), if_neg (by decide), if_pos (by decide), hx c.toNat c.toNat_lt]
    simp
  · rw [if_neg h4, List.singleton_append, uqP.eq_def]
    dsimp only
    rw [if_neg (by omega)]
theorem uqP_qvs (l : List UInt8) : ∀ acc, uqP acc (l.flatMap qv) = some (acc ++ l) := by
  induction l with
  | nil => intro acc; rw [List.flatMap_nil, uqP.eq_def, List.append_nil]
  | cons c t ih => intro acc; rw [List.flatMap_cons, uqP_qv, ih]; simp
theorem unqP_qvs (l : List UInt8) : unqP (qvs l) = some l := by
  unfold unqP qvs
  have hl : (34 :: (l.flatMap qv ++ [34])).getLast? = some 34 := by rw [← List.cons_append, List.getLast?_append]; rfl
  rw [if_neg (by rw [hl]; simp)]
  have : ((34 :: (l.flatMap qv ++ [34])).drop 1).take ((34 :: (l.flatMap qv ++ [34])).length - 2) = l.flatMap qv := by simp
  rw [this, uqP_qvs]
  simp
end Go.Proofs.YtpkbhfdfgapmlaaGreatDoor.Pv
end

/-! ## text ExtPI -/
section
namespace Go.Proofs.YtpkbhfdfgapmlaaGreatDoor.Pr
open Go.RowKit Go.Proofs.YtpkbhfdfgapmlaaGreatDoorW.PrintWords Go.Proofs.YtpkbhfdfgapmlaaGreatDoorW.PrintLast Go.Proofs.YtpkbhfdfgapmlaaGreatDoorW.PrintMore
set_option linter.unusedVariables false
set_option linter.unusedSimpArgs false
/-- strconv.ParseInt(s, 10, 64), by the library's contracts. -/
def strconv_ParseInt.f (a0 : ByteArray) (a1 a2 : Int) : Option (Int × Option Int) :=
  if a1 = 10 ∧ a2 = 64 ∧ a0.size ≤ 281474976710656 then
    match Lib.parseIntB 64 a0.data.toList with
    | .ok v => some (v, none)
    | .range => some (Lib.intSat 64 a0.data.toList, some 0)
    | _ => some (0, some 0)
  else none
theorem below_bytesP {w w1 : World} {e : TypeId} (h : w1 = w ∨ ∃ t, w1 = Lib.bytesWorld w e t) : Below w.heap.size w w1 := by
  rcases h with rfl | ⟨t, rfl⟩
  · exact Below.refl _ _
  · exact Lib.bytesWorld_below _ _ _
theorem strconv_ParseInt.calls (a0 : ByteArray) (a1 a2 : Int) (r1 : Int) (r2 : Option Int) (w : World) (HL_LErr : Aside0 (LErr w)) (HL_LSyn : Aside0 (LSyn w)) (h : strconv_ParseInt.f a0 a1 a2 = some (r1, r2)) :
    Calls Tryz.prog 95 #[.string a0, .int .i64 a1, .int .i64 a2] w fun e w' => ∃ ev_, ErrX r2 ev_ ∧ e = .returned (.tuple #[.int .i64 r1, ev_]) ∧ Below w.heap.size w w' := by
  unfold strconv_ParseInt.f at h
  by_cases hc : a1 = 10 ∧ a2 = 64 ∧ a0.size ≤ 281474976710656
  · rw [if_pos hc] at h
    obtain ⟨rfl, rfl, hs⟩ := hc
    cases hp : Lib.parseIntB 64 a0.data.toList with
    | ok v =>
      rw [hp] at h
      obtain ⟨rfl, rfl⟩ := Prod.mk.inj (Option.some.inj h)
      exact (Tryz.strconv_ParseInt_10_at64_ok a0 (by omega) v hp w).mono fun e w' ⟨h1, h2⟩ => ⟨_, rfl, h1, below_bytesP h2⟩
    | range =>
      rw [hp] at h
      obtain ⟨rfl, rfl⟩ := Prod.mk.inj (Option.some.inj h)
      obtain ⟨g, ev, hg, hv, hev⟩ := HL_LErr.out
      have hgg : g = 6 := Option.some.inj (hg.symm.trans (by kernel_rfl))
      subst hgg
      exact (Tryz.strconv_ParseInt_10_at64_range a0 hs hp ev w hv hev).mono fun e w' ⟨N, h1, h2, h3, h4⟩ => ⟨_, ⟨N, rfl⟩, h1, h4⟩
    | _ =>
      rw [hp] at h
      obtain ⟨rfl, rfl⟩ := Prod.mk.inj (Option.some.inj h)
      obtain ⟨g, ev, hg, hv, hev⟩ := HL_LSyn.out
      have hgg : g = 5 := Option.some.inj (hg.symm.trans (by kernel_rfl))
      subst hgg
      exact (Tryz.strconv_ParseInt_10_at64_syntax a0 hs (fun v e => by rw [hp] at e; cases e) (fun e => by rw [hp] at e; cases e) ev w hv hev).mono fun e w' ⟨N, h1, h2, h3, h4⟩ => ⟨_, ⟨N, rfl⟩, h1, h4⟩
  · rw [if_neg hc] at h
    cases h
end Go.Proofs.YtpkbhfdfgapmlaaGreatDoor.Pr
end

/-! ## text ExtV1 -/
section
namespace Go.Proofs.YtpkbhfdfgapmlaaGreatDoor.Pr
open Go.RowKit Go.Proofs.YtpkbhfdfgapmlaaGreatDoor.Pu Go.Proofs.YtpkbhfdfgapmlaaGreatDoorW.PrintWords Go.Proofs.YtpkbhfdfgapmlaaGreatDoorW.PrintLast Go.Proofs.YtpkbhfdfgapmlaaGreatDoorW.PrintMore
set_option linter.unusedVariables false
set_option linter.unusedSimpArgs false
/-- May a value be? -/
def validV (kd n : Int) (s : ByteArray) (b : Bool) : Bool :=
  if kd = 1 then s.toList == [] && b == false else if kd = 2 then n == 0 && b == false && decide (s.size ≤ 256) else if kd = 3 then n == 0 && s.toList == [] else false
/-- A value's text and error, as value.Show tells them. -/
def showV (kd n : Int) (s : ByteArray) (b : Bool) : ByteArray × Int :=
  if validV kd n s b = false then (⟨#[]⟩, 12)
  else if kd = 1 then (⟨(Lib.itoa n).toArray⟩, 0)
  else if kd = 2 then (⟨(qvs s.data.toList).toArray⟩, 0)
  else (if b then ⟨#[84, 82, 85, 69]⟩ else ⟨#[70, 65, 76, 83, 69]⟩, 0)
def value_Show.f (a0_0 a0_1 : Int) (a0_2 : ByteArray) (a0_3 : Bool) : Option (ByteArray × Int) := if -9223372036854775808 ≤ a0_1 ∧ a0_1 ≤ 9223372036854775807 then some (showV a0_0 a0_1 a0_2 a0_3) else none
theorem valid_f (kd n : Int) (s : ByteArray) (b : Bool) : value_Valid.f kd n s b = some (validV kd n s b) := by
  unfold value_Valid.f validV value_number.f value_text.f value_truth.f
  by_cases h1 : kd = 1
  · subst h1; simp
  rw [if_neg h1, if_neg h1]
  by_cases h2 : kd = 2
  · subst h2
    simp
    by_cases h3 : n = 0
    · by_cases h4 : b = false
      · simp [h3, h4]; omega
      · simp [h3, h4]
    · simp [h3]
  rw [if_neg h2, if_neg h2]
  by_cases h3 : kd = 3
  · subst h3; simp
  · rw [if_neg h3, if_neg h3]
theorem tab_of {w : World} (h : LG0 w) : Lib.TabIs Tryz.prog w "internal/strconv.uint64pow10" .u64 Lib.pow10Tab := h
theorem up_size (b : Bool) : (⟨(Lib.formatBool b).toArray⟩ : ByteArray).size ≤ 140737488355328 := by cases b <;> decide
theorem up_ascii (b : Bool) : ∀ (j : Nat) (c : UInt8), (⟨(Lib.formatBool b).toArray⟩ : ByteArray).data.toList[j]? = some c → c.toNat < 128 := by
  intro j c h
  have hm : c ∈ Lib.formatBool b := by have := List.mem_of_getElem? h; simpa using this
  clear h
  cases b
  · revert hm; revert c; decide
  · revert hm; revert c; decide
theorem bel_grow (w : World) (k : Nat) (os : Array Obj) : Below w.heap.size w (Sort.grow (w.drewN k) os) :=
  ⟨rfl, rfl, rfl, by show w.heap.size ≤ (w.heap ++ os).size; rw [Array.size_append]; omega, fun j hj => by show (w.heap ++ os)[j]? = w.heap[j]?; rw [Array.getElem?_append_left hj]⟩
set_option maxHeartbeats 2000000 in
theorem value_Show.calls (a0_0 a0_1 : Int) (a0_2 : ByteArray) (a0_3 : Bool) (r1 : ByteArray) (r2 : Int) (w : World) (HL_LG0 : Aside0 (LG0 w)) (h : value_Show.f a0_0 a0_1 a0_2 a0_3 = some (r1, r2)) :
    Calls Tryz.prog 66 #[.agg #[.int .i64 a0_0, .int .i64 a0_1, .string a0_2, .bool a0_3]] w fun e w' => e = .returned (.tuple #[.string r1, .int .i64 r2]) ∧ Below w.heap.size w w' := by
  unfold value_Show.f at h
  by_cases hb : -9223372036854775808 ≤ a0_1 ∧ a0_1 ≤ 9223372036854775807
  rotate_left
  · rw [if_neg hb] at h; cases h
  rw [if_pos hb] at h
  have HR := Aside0.mk (Option.some.inj h)
  have HBD := Aside0.mk hb
  have HV := Aside0.mk (valid_f a0_0 a0_1 a0_2 a0_3)
  have HTAB := HL_LG0
  clear h hb HL_LG0
  go_enter Tryz.func66, Tryz.ntmps66
  go_upto_region 1 with (fail)
  have hcell : (w.alloc (.cells #[.int .i64 a0_0, .int .i64 a0_1, .string a0_2, .bool a0_3] 43)).heap[w.heap.size]? = some (.cells #[.int .i64 a0_0, .int .i64 a0_1, .string a0_2, .bool a0_3] 43 (0, 0)) := heap_alloc_new w _
  have HB1 := Aside0.mk (below_alloc (Below.refl w.heap.size w) (.cells #[.int .i64 a0_0, .int .i64 a0_1, .string a0_2, .bool a0_3] 43))
  have hsz : w.heap.size < (w.alloc (.cells #[.int .i64 a0_0, .int .i64 a0_1, .string a0_2, .bool a0_3] 43)).heap.size := by simp
  generalize w.alloc (.cells #[.int .i64 a0_0, .int .i64 a0_1, .string a0_2, .bool a0_3] 43) = w1 at *
  have hx0 : w1.cell? ⟨w.heap.size, 0, none⟩ = some (.int .i64 a0_0) := by simp [World.cell?, hcell]
  have hx1 : w1.cell? ⟨w.heap.size, 1, none⟩ = some (.int .i64 a0_1) := by simp [World.cell?, hcell]
  have hx2 : w1.cell? ⟨w.heap.size, 2, none⟩ = some (.string a0_2) := by simp [World.cell?, hcell]
  have hx3 : w1.cell? ⟨w.heap.size, 3, none⟩ = some (.bool a0_3) := by simp [World.cell?, hcell]
  clear hcell
  have HR2 : Aside0 ((if validV a0_0 a0_1 a0_2 a0_3 = false then ((⟨#[]⟩ : ByteArray), (12 : Int)) else if a0_0 = 1 then (⟨(Lib.itoa a0_1).toArray⟩, 0) else if a0_0 = 2 then (⟨(qvs a0_2.data.toList).toArray⟩, 0) else (if a0_3 then ⟨#[84, 82, 85, 69]⟩ else ⟨#[70, 65, 76, 83, 69]⟩, 0)) = (r1, r2)) := HR
  have HS2 : Aside0 (validV a0_0 a0_1 a0_2 a0_3 = true → a0_0 = 2 → a0_2.size ≤ 256) := ⟨fun hv h2 => by
    unfold validV at hv
    rw [if_neg (by omega), if_pos h2] at hv
    simp only [Bool.and_eq_true, decide_eq_true_eq] at hv
    exact hv.2⟩
  clear HR
  generalize validV a0_0 a0_1 a0_2 a0_3 = vb at *
  cases vb with
  | false =>
    have hr := HR2.out
    rw [if_pos rfl] at hr
    obtain ⟨rfl, rfl⟩ := Prod.mk.inj hr
    clear hr HR2 HS2
    go_wp2_with (go_at_call 17; (with_reducible refine (value_Valid.calls _ _ _ _ _ _ HV.out).mono ?_); rintro e w2 ⟨rfl, hb2⟩)
    go_ret2
    exact ⟨rfl, HB1.out.trans (hb2.mono (Nat.le_of_lt hsz))⟩
  | true =>
    have hr := HR2.out
    rw [if_neg (by simp)] at hr
    have HR3 := Aside0.mk hr
    clear hr HR2
    go_upto_region 3 with (go_at_call 17; (with_reducible refine (value_Valid.calls _ _ _ _ _ _ HV.out).mono ?_); rintro e w2 ⟨rfl, hb2⟩)
    replace hx0 := (hb2.cell (p := ⟨w.heap.size, 0, none⟩) hsz).trans hx0
    replace hx1 := (hb2.cell (p := ⟨w.heap.size, 1, none⟩) hsz).trans hx1
    replace hx2 := (hb2.cell (p := ⟨w.heap.size, 2, none⟩) hsz).trans hx2
    replace hx3 := (hb2.cell (p := ⟨w.heap.size, 3, none⟩) hsz).trans hx3
    replace HB1 := Aside0.mk (HB1.out.trans (hb2.mono (Nat.le_of_lt hsz)))
    replace hsz : w.heap.size < w2.heap.size := by have := hb2.size; omega
    have hle := Nat.le_of_lt hsz
    replace HTAB := Aside0.mk (HTAB.out.below HB1.out)
    clear hb2
    by_cases k1 : a0_0 = 1
    · have k1b : (a0_0 == 1) = true := beq_iff_eq.mpr k1
      have hr := HR3.out
      rw [if_pos k1] at hr
      obtain ⟨rfl, rfl⟩ := Prod.mk.inj hr
      clear hr HR3 k1 HS2 HV
      go_wp2_with (go_at_call 82; (with_reducible refine (Tryz.strconv_FormatInt_10 _ HBD.out.1 HBD.out.2 _ (tab_of HTAB.out)).mono ?_); rintro e w3 ⟨rfl, hgr⟩)
      go_ret2
      obtain ⟨kk, os, rfl⟩ := hgr
      exact ⟨rfl, HB1.out.trans ((bel_grow _ _ _).mono hle)⟩
    have k1b : (a0_0 == 1) = false := beq_eq_false_iff_ne.mpr k1
    have hr := HR3.out
    rw [if_neg k1] at hr
    replace HR3 := Aside0.mk hr
    clear hr k1
    by_cases k2 : a0_0 = 2
    · have k2b : (a0_0 == 2) = true := beq_iff_eq.mpr k2
      have hr := HR3.out
      rw [if_pos k2] at hr
      obtain ⟨rfl, rfl⟩ := Prod.mk.inj hr
      have hs := HS2.out (by trivial) k2
      have HS3 := Aside0.mk hs
      clear hr HR3 k2 HS2 HV hs
      go_wp2_with (go_at_call 83; (with_reducible refine (value_quoted_walk _ _ (by have := HS3.out; omega)).mono ?_); rintro e w3 ⟨rfl, hb3⟩)
      go_ret2
      exact ⟨rfl, HB1.out.trans (hb3.mono hle)⟩
    have k2b : (a0_0 == 2) = false := beq_eq_false_iff_ne.mpr k2
    have hr := HR3.out
    rw [if_neg k2] at hr
    obtain ⟨hr1, rfl⟩ := Prod.mk.inj hr
    have HR4 := Aside0.mk hr1
    clear hr HR3 k2 HS2 HV hr1
    go_wp2_with (first | (go_at_call 85; (with_reducible refine (Tryz.strconv_FormatBool _ _).mono ?_); rintro e w3 ⟨rfl, rfl⟩) | (go_at_call 84; (with_reducible refine (Tryz.strings_ToUpper_ascii _ _ (up_size _) (up_ascii _)).mono ?_); rintro e w4 ⟨rfl, hb4⟩))
    go_ret2
    refine ⟨?_, HB1.out.trans (hb4.mono hle)⟩
    rw [← HR4.out]
    cases a0_3 <;> rfl
end Go.Proofs.YtpkbhfdfgapmlaaGreatDoor.Pr
end

/-! ## text Prx6 -/
section
namespace Go.Proofs.YtpkbhfdfgapmlaaGreatDoor.Pr
open Go.RowKit Go.Proofs.YtpkbhfdfgapmlaaGreatDoorW.PrintWords Go.Proofs.YtpkbhfdfgapmlaaGreatDoorW.PrintLast Go.Proofs.YtpkbhfdfgapmlaaGreatDoorW.PrintMore
attribute [local go_sem] max2_int min2_int max_two min_two max_three min_three max_four min_four   -- for this text's walks alone
attribute [local go_sem high] Go.Proofs.YtpkbhfdfgapmlaaGreatDoor.isSome_setCell
set_option maxRecDepth 100000
set_option linter.unusedVariables false
set_option linter.unusedSimpArgs false

/-! ### value_guess: function 79 -/
def value_guess.j0 : Nat → ByteArray → Bool → Option (Int × Int × ByteArray × Bool × Bool)
  | 0, _, _ => none
  | k + 1, x0, x8 => if x8 = true then ((value_truth.f (x0.toList == ([84, 82, 85, 69] : List UInt8))).bind fun bt151 => (some (bt151.1, bt151.2.1, bt151.2.2.1, bt151.2.2.2, true))) else ((strings_HasPrefix.f x0 (⟨#[34]⟩ : ByteArray)).bind fun t155 => (if t155 = true then ((value_unquoted.f k x0).bind fun bt156 => ((value_text.f bt156.1).bind fun bt158 => (some (bt158.1, bt158.2.1, bt158.2.2.1, bt158.2.2.2, bt156.2)))) else ((strconv_ParseInt.f x0 10 64).bind fun bt162 => ((value_number.f bt162.1).bind fun bt164 => (if bt162.2.isNone = true then (some (bt164.1, bt164.2.1, bt164.2.2.1, bt164.2.2.2, true)) else (some (bt164.1, bt164.2.1, bt164.2.2.1, bt164.2.2.2, false)))))))
def value_guess.f (k : Nat) (a0 : ByteArray) : Option (Int × Int × ByteArray × Bool × Bool) := if a0.toList = ([84, 82, 85, 69] : List UInt8) then (value_guess.j0 k a0 true) else (value_guess.j0 k a0 (a0.toList == ([70, 65, 76, 83, 69] : List UInt8)))
set_option maxRecDepth 100000 in
theorem value_guess.j0_zero : ∀ y0 y1, value_guess.j0 0 y0 y1 = none := fun _ _ => rfl
set_option maxRecDepth 100000 in
theorem value_guess.mono_l : ∀ k, (∀ y0 y1, LeO (value_guess.j0 k y0 y1) (value_guess.j0 (k + 1) y0 y1))
  | 0 => fun _ _ r h => by (unfold value_guess.j0 at h; cases h)
  | k + 1 => by
    have ih0 := value_guess.mono_l k
    · intro y0 y1
      unfold value_guess.j0
      repeat' first
      | (with_reducible exact ih0 _ _)
      | (with_reducible exact value_unquoted.mono _ _)
      | (with_reducible exact LeO.refl _)
      | (with_reducible exact LeO.none _)
      | (with_reducible refine LeO.ite ?_ ?_)
      | (with_reducible refine LeO.bind ?_ (fun _ => ?_))
      | exact ih0 _ _
      | exact value_unquoted.mono _ _
      | exact LeO.none _
      | refine LeO.ite ?_ ?_
      | refine LeO.bind ?_ (fun _ => ?_)
set_option maxRecDepth 100000 in
theorem value_guess.mono : ∀ a0 k, LeO (value_guess.f k a0) (value_guess.f (k + 1) a0) := by
  intro a0 k
  have ih0 := value_guess.mono_l k
  unfold value_guess.f
  repeat' first
      | (with_reducible exact ih0 _ _)
      | (with_reducible exact value_unquoted.mono _ _)
      | (with_reducible exact LeO.refl _)
      | (with_reducible exact LeO.none _)
      | (with_reducible refine LeO.ite ?_ ?_)
      | (with_reducible refine LeO.bind ?_ (fun _ => ?_))
      | exact ih0 _ _
      | exact value_unquoted.mono _ _
      | exact LeO.none _
      | refine LeO.ite ?_ ?_
      | refine LeO.bind ?_ (fun _ => ?_)
set_option maxHeartbeats 8000000 in
set_option maxRecDepth 100000 in
theorem value_guess.calls (k : Nat) (a0 : ByteArray) (r1 : Int) (r2 : Int) (r3 : ByteArray) (r4 : Bool) (r5 : Bool) (w : World) (HL_LErr : Aside0 (LErr w)) (HL_LSyn : Aside0 (LSyn w)) (h : value_guess.f k a0 = some (r1, r2, r3, r4, r5)) :
    Calls Tryz.prog 79 #[.string a0] w fun e w' => e = .returned (.tuple #[.agg #[.int .i64 r1, .int .i64 r2, .string r3, .bool r4], .bool r5]) ∧ Below w.heap.size w w' := by
  have hu43 := Tryz.underlying43
  have hu96 := Tryz.underlying96
  have HB := Aside0.mk (Below.refl w.heap.size w)
  have H : (if a0.toList = ([84, 82, 85, 69] : List UInt8) then (value_guess.j0 k a0 true) else (value_guess.j0 k a0 (a0.toList == ([70, 65, 76, 83, 69] : List UInt8)))) = some (r1, r2, r3, r4, r5) := h
  clear h
  have HC2 := Aside0.mk H
  clear H
  go_enter Tryz.func79, Tryz.ntmps79
  go_upto_region 1 with (first | ((with_reducible refine gate_dst (N := 2) rfl ?_); refine box_event ?hg (N := 2) ?hd (cs := #[.int .i64 0, .int .i64 0, .string (⟨#[]⟩ : ByteArray), .bool false]) (t := 43) ?hr ?_; (case hd => rfl); (case hg => rfl); (case hr => first | (go_simp; done) | (go_simp; rfl)); intro gb150 hg w3 hbox hb; have BK150 := Aside0.mk hbox; have GW150 := geA hg HB; have GE150 := geA hg HB; replace HB := bsA HB hb; clear hb hbox hg))
  (try simp only [Act.put, List.setIfInBounds_toArray, List.set_cons_zero, List.set_cons_succ])
  go_cut [8] (fun v8 wc => ∃ (kq : Nat) (x8_1 : Bool), v8 = .bool x8_1 ∧ Aside0 (value_guess.j0 kq a0 x8_1 = some (r1, r2, r3, r4, r5)) ∧ Aside0 (kq ≤ k) ∧ Aside0 (wc.heap[gb150]? = some (.cells #[.int .i64 0, .int .i64 0, .string (⟨#[]⟩ : ByteArray), .bool false] 43 (0, 0))) ∧ Aside0 (Below w.heap.size w wc))
  case first =>
    have H := HC2.out
    clear HC2
    by_cases c4 : a0.toList = ([84, 82, 85, 69] : List UInt8)
    · rw [if_pos c4] at H
      have c4b0 : (a0.toList == ([84, 82, 85, 69] : List UInt8)) = true := beq_iff_eq.mpr c4
      have c4b1 : (a0.toList != ([84, 82, 85, 69] : List UInt8)) = false := bne_eq_false_iff_eq.mpr c4
      clear c4
      (first | rw [c4b0] | (simp only [i64_w, i32_w, IntKind.wrap_u8, IntKind.wrap_u16, IntKind.wrap_u32]; rw [c4b0]) | skip)
      have H' := Aside0.mk H
      clear H
      go_wp2
      go_meet
      case rel => exact ⟨_, (true), (by first | rfl | (simp; done) | (simp [*]; done) | (simp; unfold wrap64; omega) | (congr 1; (try rw [Bool.eq_iff_iff]); simp [List.isEmpty_iff]; done)), H', ⟨by first | omega | exact Nat.le_refl _⟩, ⟨bkT BK150.out⟩, ⟨hbT HB.out⟩⟩
    · rw [if_neg c4] at H
      have c4b0 : (a0.toList == ([84, 82, 85, 69] : List UInt8)) = false := beq_eq_false_iff_ne.mpr c4
      have c4b1 : (a0.toList != ([84, 82, 85, 69] : List UInt8)) = true := bne_iff_ne.mpr c4
      (first | rw [c4b0] | (simp only [i64_w, i32_w, IntKind.wrap_u8, IntKind.wrap_u16, IntKind.wrap_u32]; rw [c4b0]) | skip)
      have H' := Aside0.mk H
      clear H
      go_wp2
      go_meet
      case rel => exact ⟨_, ((a0.toList == ([70, 65, 76, 83, 69] : List UInt8))), (by first | rfl | (simp; done) | (simp [*]; done) | (simp; unfold wrap64; omega) | (congr 1; (try rw [Bool.eq_iff_iff]); simp [List.isEmpty_iff]; done)), H', ⟨by first | omega | exact Nat.le_refl _⟩, ⟨bkT BK150.out⟩, ⟨hbT HB.out⟩⟩
  case rest =>
    clear HC2
    try clear p2
    try clear c4
    try clear c4b0
    try clear c4b1
    obtain ⟨kq, x8_1, rfl, HA, HJ1, BK150, HB⟩ := hcut
    cases kq with
    | zero => (have HA2 := HA.out; clear HA; revert HA2; rw [value_guess.j0_zero]; intro h_; cases h_)
    | succ kj1 =>
      have H := HA.out
      clear HA
      simp only [value_guess.j0] at H
      by_cases c5 : x8_1 = true
      · subst c5
        have H1 : ((value_truth.f (a0.toList == ([84, 82, 85, 69] : List UInt8))).bind fun bt151 => (some (bt151.1, bt151.2.1, bt151.2.2.1, bt151.2.2.2, true))) = some (r1, r2, r3, r4, r5) := by rw [if_pos rfl] at H; exact H
        clear H
        have H := H1
        clear H1
        replace H := Option.bind_eq_some_iff.mp H
        obtain ⟨⟨t151, t152, t153, t154⟩, A60, H⟩ := H
        replace H : (some (t151, t152, t153, t154, true)) = some (r1, r2, r3, r4, r5) := H
        have A6 := Aside0.mk A60
        clear A60
        simp only [Option.some.injEq, Prod.mk.injEq] at H
        obtain ⟨rfl, rfl, rfl, rfl, rfl⟩ := H
        go_wp2_with (first | ((with_reducible refine gate_callee (f := 37) rfl ?_); refine goesT (some 17) Tryz.func37 #[.bool (a0.toList == ([84, 82, 85, 69] : List UInt8))] ?_; (with_reducible refine (value_truth.calls (a0.toList == ([84, 82, 85, 69] : List UInt8)) t151 t152 t153 t154 _ A6.out).mono ?_); rintro e w7 ⟨rfl, hb⟩; refine ⟨_, rfl, ?_⟩; replace BK150 := bbA BK150 hb; replace HB := bsA HB hb; (try clear hb); (try clear hb2); (try clear hk); (try clear hi); have hcz8_0 : w7.cell? ⟨gb150, 0, none⟩ = some (.int .i64 0) := (blk_cell BK150.out 0).trans rfl; have hcz8_1 : w7.cell? ⟨gb150, 1, none⟩ = some (.int .i64 0) := (blk_cell BK150.out 1).trans rfl; have hcz8_2 : w7.cell? ⟨gb150, 2, none⟩ = some (.string (⟨#[]⟩ : ByteArray)) := (blk_cell BK150.out 2).trans rfl; have hcz8_3 : w7.cell? ⟨gb150, 3, none⟩ = some (.bool false) := (blk_cell BK150.out 3).trans rfl; have hfz8_0 := blk_frozen BK150.out 0; have hfz8_1 := blk_frozen BK150.out 1; have hfz8_2 := blk_frozen BK150.out 2; have hfz8_3 := blk_frozen BK150.out 3))
        refine bodyPost_ret (results_ct rfl _ _ gb150 43 #[.int .i64 t151, .int .i64 t152, .string t153, .bool t154] (0, 0) _ rfl (by (with_reducible repeat (first | refine blk_drewN ?_ _ | refine blk_drew ?_ | refine blk_alloc ?_ _)); refine blk_put (cs := #[.int .i64 t151, .int .i64 t152, .string t153, .bool false]) ?_ 3 _ rfl; (with_reducible repeat (first | refine blk_drewN ?_ _ | refine blk_drew ?_ | refine blk_alloc ?_ _)); refine blk_put (cs := #[.int .i64 t151, .int .i64 t152, .string (⟨#[]⟩ : ByteArray), .bool false]) ?_ 2 _ rfl; (with_reducible repeat (first | refine blk_drewN ?_ _ | refine blk_drew ?_ | refine blk_alloc ?_ _)); refine blk_put (cs := #[.int .i64 t151, .int .i64 0, .string (⟨#[]⟩ : ByteArray), .bool false]) ?_ 1 _ rfl; (with_reducible repeat (first | refine blk_drewN ?_ _ | refine blk_drew ?_ | refine blk_alloc ?_ _)); refine blk_put (cs := #[.int .i64 0, .int .i64 0, .string (⟨#[]⟩ : ByteArray), .bool false]) ?_ 0 _ rfl; (with_reducible repeat (first | refine blk_drewN ?_ _ | refine blk_drew ?_ | refine blk_alloc ?_ _)); exact BK150.out) Tryz.underlying43 rfl (by kernel_rfl)) rfl ?_
        exact ⟨by first | rfl | (simp [errW_none, errW_some] <;> rfl) | (simp [*, errW_none, errW_some] <;> rfl), hbT HB.out⟩
      · replace c5 := Bool.eq_false_iff.mpr c5
        subst c5
        have H1 : ((strings_HasPrefix.f a0 (⟨#[34]⟩ : ByteArray)).bind fun t155 => (if t155 = true then ((value_unquoted.f kj1 a0).bind fun bt156 => ((value_text.f bt156.1).bind fun bt158 => (some (bt158.1, bt158.2.1, bt158.2.2.1, bt158.2.2.2, bt156.2)))) else ((strconv_ParseInt.f a0 10 64).bind fun bt162 => ((value_number.f bt162.1).bind fun bt164 => (if bt162.2.isNone = true then (some (bt164.1, bt164.2.1, bt164.2.2.1, bt164.2.2.2, true)) else (some (bt164.1, bt164.2.1, bt164.2.2.1, bt164.2.2.2, false))))))) = some (r1, r2, r3, r4, r5) := by rw [if_neg (show ¬ (false = true) by decide)] at H; exact H
        clear H
        have H := H1
        clear H1
        replace H := Option.bind_eq_some_iff.mp H
        obtain ⟨t155, A90, H⟩ := H
        replace H : (if t155 = true then ((value_unquoted.f kj1 a0).bind fun bt156 => ((value_text.f bt156.1).bind fun bt158 => (some (bt158.1, bt158.2.1, bt158.2.2.1, bt158.2.2.2, bt156.2)))) else ((strconv_ParseInt.f a0 10 64).bind fun bt162 => ((value_number.f bt162.1).bind fun bt164 => (if bt162.2.isNone = true then (some (bt164.1, bt164.2.1, bt164.2.2.1, bt164.2.2.2, true)) else (some (bt164.1, bt164.2.1, bt164.2.2.1, bt164.2.2.2, false)))))) = some (r1, r2, r3, r4, r5) := H
        have A9 := Aside0.mk A90
        clear A90
        by_cases c10 : t155 = true
        · subst c10
          have H1 : ((value_unquoted.f kj1 a0).bind fun bt156 => ((value_text.f bt156.1).bind fun bt158 => (some (bt158.1, bt158.2.1, bt158.2.2.1, bt158.2.2.2, bt156.2)))) = some (r1, r2, r3, r4, r5) := by rw [if_pos rfl] at H; exact H
          clear H
          have H := H1
          clear H1
          replace H := Option.bind_eq_some_iff.mp H
          obtain ⟨⟨t156, t157⟩, A110, H⟩ := H
          replace H : ((value_text.f t156).bind fun bt158 => (some (bt158.1, bt158.2.1, bt158.2.2.1, bt158.2.2.2, t157))) = some (r1, r2, r3, r4, r5) := H
          have A11 := Aside0.mk A110
          clear A110
          replace H := Option.bind_eq_some_iff.mp H
          obtain ⟨⟨t158, t159, t160, t161⟩, A120, H⟩ := H
          replace H : (some (t158, t159, t160, t161, t157)) = some (r1, r2, r3, r4, r5) := H
          have A12 := Aside0.mk A120
          clear A120
          simp only [Option.some.injEq, Prod.mk.injEq] at H
          obtain ⟨rfl, rfl, rfl, rfl, rfl⟩ := H
          go_wp2_with (first | ((with_reducible refine gate_callee (f := 74) rfl ?_); refine goesT (some 20) Tryz.func74 #[.string a0, .string (⟨#[34]⟩ : ByteArray)] ?_; (with_reducible refine (strings_HasPrefix.calls a0 (⟨#[34]⟩ : ByteArray) true _ A9.out).mono ?_); rintro e w' ⟨rfl, ⟨nd, rfl⟩⟩; refine ⟨_, rfl, ?_⟩; (try (rw [drewN_self wc]; generalize hq_ : World.drewN wc _ = wc; have n0_ : Aside0 (wc.heap[gb150]? = some (.cells #[.int .i64 0, .int .i64 0, .string (⟨#[]⟩ : ByteArray), .bool false] 43 (0, 0))) := ⟨by rw [← hq_]; exact (bkT BK150.out)⟩; have n1_ : Aside0 (Below w.heap.size w wc) := ⟨by rw [← hq_]; exact (hbT HB.out)⟩; clear BK150 HB hq_; have BK150 := n0_; have HB := n1_; clear n0_ n1_))) | ((with_reducible refine gate_callee (f := 94) rfl ?_); refine goesT (some 23) Tryz.func94 #[.string a0] ?_; (with_reducible refine (value_unquoted.calls kj1 a0 t156 t157 _ ?side1 A11.out).mono ?_); (case side1 => first | (with_reducible exact HL_LSyn) | exact ⟨LSyn.below HL_LSyn.out (hbT HB.out)⟩); rintro e w13 ⟨rfl, hb⟩; refine ⟨_, rfl, ?_⟩; replace BK150 := bbA BK150 hb; replace HB := bsA HB hb; (try clear hb); (try clear hb2); (try clear hk); (try clear hi)) | ((with_reducible refine gate_callee (f := 36) rfl ?_); refine goesT (some 27) Tryz.func36 #[.string t156] ?_; (with_reducible refine (value_text.calls t156 t158 t159 t160 t161 _ A12.out).mono ?_); rintro e w14 ⟨rfl, hb⟩; refine ⟨_, rfl, ?_⟩; replace BK150 := bbA BK150 hb; replace HB := bsA HB hb; (try clear hb); (try clear hb2); (try clear hk); (try clear hi); have hcz15_0 : w14.cell? ⟨gb150, 0, none⟩ = some (.int .i64 0) := (blk_cell BK150.out 0).trans rfl; have hcz15_1 : w14.cell? ⟨gb150, 1, none⟩ = some (.int .i64 0) := (blk_cell BK150.out 1).trans rfl; have hcz15_2 : w14.cell? ⟨gb150, 2, none⟩ = some (.string (⟨#[]⟩ : ByteArray)) := (blk_cell BK150.out 2).trans rfl; have hcz15_3 : w14.cell? ⟨gb150, 3, none⟩ = some (.bool false) := (blk_cell BK150.out 3).trans rfl; have hfz15_0 := blk_frozen BK150.out 0; have hfz15_1 := blk_frozen BK150.out 1; have hfz15_2 := blk_frozen BK150.out 2; have hfz15_3 := blk_frozen BK150.out 3))
          refine bodyPost_ret (results_ct rfl _ _ gb150 43 #[.int .i64 t158, .int .i64 t159, .string t160, .bool t161] (0, 0) _ rfl (by (with_reducible repeat (first | refine blk_drewN ?_ _ | refine blk_drew ?_ | refine blk_alloc ?_ _)); refine blk_put (cs := #[.int .i64 t158, .int .i64 t159, .string t160, .bool false]) ?_ 3 _ rfl; (with_reducible repeat (first | refine blk_drewN ?_ _ | refine blk_drew ?_ | refine blk_alloc ?_ _)); refine blk_put (cs := #[.int .i64 t158, .int .i64 t159, .string (⟨#[]⟩ : ByteArray), .bool false]) ?_ 2 _ rfl; (with_reducible repeat (first | refine blk_drewN ?_ _ | refine blk_drew ?_ | refine blk_alloc ?_ _)); refine blk_put (cs := #[.int .i64 t158, .int .i64 0, .string (⟨#[]⟩ : ByteArray), .bool false]) ?_ 1 _ rfl; (with_reducible repeat (first | refine blk_drewN ?_ _ | refine blk_drew ?_ | refine blk_alloc ?_ _)); refine blk_put (cs := #[.int .i64 0, .int .i64 0, .string (⟨#[]⟩ : ByteArray), .bool false]) ?_ 0 _ rfl; (with_reducible repeat (first | refine blk_drewN ?_ _ | refine blk_drew ?_ | refine blk_alloc ?_ _)); exact BK150.out) Tryz.underlying43 rfl (by kernel_rfl)) rfl ?_
          exact ⟨by first | rfl | (simp [errW_none, errW_some] <;> rfl) | (simp [*, errW_none, errW_some] <;> rfl), hbT HB.out⟩
        · replace c10 := Bool.eq_false_iff.mpr c10
          subst c10
          have H1 : ((strconv_ParseInt.f a0 10 64).bind fun bt162 => ((value_number.f bt162.1).bind fun bt164 => (if bt162.2.isNone = true then (some (bt164.1, bt164.2.1, bt164.2.2.1, bt164.2.2.2, true)) else (some (bt164.1, bt164.2.1, bt164.2.2.1, bt164.2.2.2, false))))) = some (r1, r2, r3, r4, r5) := by rw [if_neg (show ¬ (false = true) by decide)] at H; exact H
          clear H
          have H := H1
          clear H1
          replace H := Option.bind_eq_some_iff.mp H
          obtain ⟨⟨t162, t163⟩, A160, H⟩ := H
          replace H : ((value_number.f t162).bind fun bt164 => (if t163.isNone = true then (some (bt164.1, bt164.2.1, bt164.2.2.1, bt164.2.2.2, true)) else (some (bt164.1, bt164.2.1, bt164.2.2.1, bt164.2.2.2, false)))) = some (r1, r2, r3, r4, r5) := H
          have A16 := Aside0.mk A160
          clear A160
          replace H := Option.bind_eq_some_iff.mp H
          obtain ⟨⟨t164, t165, t166, t167⟩, A170, H⟩ := H
          replace H : (if t163.isNone = true then (some (t164, t165, t166, t167, true)) else (some (t164, t165, t166, t167, false))) = some (r1, r2, r3, r4, r5) := H
          have A17 := Aside0.mk A170
          clear A170
          rcases t163 with _ | q168
          · have H1 : (some (t164, t165, t166, t167, true)) = some (r1, r2, r3, r4, r5) := by rw [if_pos (show (none : Option Int).isNone = true by rfl)] at H; exact H
            clear H
            have H := H1
            clear H1
            try simp only [errW_none, errW_some]
            simp only [Option.some.injEq, Prod.mk.injEq] at H
            obtain ⟨rfl, rfl, rfl, rfl, rfl⟩ := H
            try go_wp2_with (first | ((with_reducible refine gate_callee (f := 74) rfl ?_); refine goesT (some 20) Tryz.func74 #[.string a0, .string (⟨#[34]⟩ : ByteArray)] ?_; (with_reducible refine (strings_HasPrefix.calls a0 (⟨#[34]⟩ : ByteArray) false _ A9.out).mono ?_); rintro e w' ⟨rfl, ⟨nd, rfl⟩⟩; refine ⟨_, rfl, ?_⟩; (try (rw [drewN_self wc]; generalize hq_ : World.drewN wc _ = wc; have n0_ : Aside0 (wc.heap[gb150]? = some (.cells #[.int .i64 0, .int .i64 0, .string (⟨#[]⟩ : ByteArray), .bool false] 43 (0, 0))) := ⟨by rw [← hq_]; exact (bkT BK150.out)⟩; have n1_ : Aside0 (Below w.heap.size w wc) := ⟨by rw [← hq_]; exact (hbT HB.out)⟩; clear BK150 HB hq_; have BK150 := n0_; have HB := n1_; clear n0_ n1_))) | ((with_reducible refine gate_callee (f := 95) rfl ?_); refine goesT (some 31) Tryz.func95 #[.string a0, .int .i64 10, .int .i64 64] ?_; (with_reducible refine (strconv_ParseInt.calls a0 10 64 t162 none _ ?side1 ?side2 A16.out).mono ?_); (case side1 => first | (with_reducible exact HL_LErr) | exact ⟨LErr.below HL_LErr.out (hbT HB.out)⟩); (case side2 => first | (with_reducible exact HL_LSyn) | exact ⟨LSyn.below HL_LSyn.out (hbT HB.out)⟩); rintro e w18 ⟨ev_, hev_, rfl, hb⟩; refine ⟨_, rfl, ?_⟩; (first | obtain rfl := ErrX_none hev_ | obtain ⟨N_, rfl⟩ := ErrX_some hev_); replace BK150 := bbA BK150 hb; replace HB := bsA HB hb; (try clear hb); (try clear hb2); (try clear hk); (try clear hi)))
            replace BK150 := bdA BK150; replace HB := Aside0.mk (below_drew1 HB.out)
            refine start_ (n := 6) (S := fun w' => True) (ds := []) #[false, false, false, false, false, false] (by kernel_rfl) rfl rfl trivial (fun hHeld => ?_)
            generalize w18.drew = w19 at BK150 HB hHeld ⊢
            refine pure_ (i := 0) (N := some 34) (v := ?_) (a' := ?_) #[true, false, false, false, false, false] rfl rfl (by kernel_rfl) (fun _ _ _ h => h) (Or.inl ⟨by rfl, ?_⟩) ?_ ?_
            rotate_left; (focus (intro w'; go_simp; with_reducible rfl)); rotate_left; (focus (simp only [Act.put, List.setIfInBounds_toArray, List.set_cons_zero, List.set_cons_succ, i64_w, i32_w, IntKind.wrap_u8, IntKind.wrap_u16, IntKind.wrap_u32]; rfl))
            refine pure_ (i := 2) (N := some 36) (v := ?_) (a' := ?_) #[true, false, true, false, false, false] rfl rfl (by kernel_rfl) (fun _ _ _ h => h) (Or.inl ⟨by rfl, ?_⟩) ?_ ?_
            rotate_left; (focus (intro w'; go_simp; with_reducible rfl)); rotate_left; (focus (simp only [Act.put, List.setIfInBounds_toArray, List.set_cons_zero, List.set_cons_succ, i64_w, i32_w, IntKind.wrap_u8, IntKind.wrap_u16, IntKind.wrap_u32]; rfl))
            refine pure_ (i := 3) (N := some 37) (v := ?_) (a' := ?_) #[true, false, true, true, false, false] rfl rfl (by kernel_rfl) (fun _ _ _ h => h) (Or.inl ⟨by rfl, ?_⟩) ?_ ?_
            rotate_left; (focus (intro w'; go_simp; with_reducible rfl)); rotate_left; (focus (simp only [Act.put, List.setIfInBounds_toArray, List.set_cons_zero, List.set_cons_succ, i64_w, i32_w, IntKind.wrap_u8, IntKind.wrap_u16, IntKind.wrap_u32]; rfl))
            refine one_ (i := 1) (N := some 35) #[true, true, true, true, false, false] rfl rfl (by kernel_rfl) (by decide) (fun K hK => ?_)
            refine goes_ Tryz.func35 (by kernel_rfl) rfl #[.int .i64 t162] (by rfl) rfl rfl (by (try simp only [List.map_toArray, List.map_cons, List.map_nil]); first | done | rfl | (simp only [List.length_drop, List.length_take]; rfl)) ?_
            with_reducible refine (value_number.calls t162 t164 t165 t166 t167 _ A17.out).mono ?_
            rintro e w20 ⟨rfl, hb⟩
            refine ⟨_, rfl, ?_⟩
            replace BK150 := bbA BK150 hb; replace HB := bsA HB hb
            (try clear hb); (try clear hb2); (try clear hk); (try clear hi)
            refine hK.out _ _ trivial (fun hHeld => ?_)
            clear hK K
            refine norm_ (a' := ?_) ?_ ?_
            rotate_left
            · show Act.put _ (some 35) _ = _
              simp only [Act.put, List.setIfInBounds_toArray, List.set_cons_zero, List.set_cons_succ, i64_w, i32_w, IntKind.wrap_u8, IntKind.wrap_u16, IntKind.wrap_u32]
              rfl
            refine one_ (i := 4) (N := none) #[true, true, true, true, true, false] rfl rfl (by kernel_rfl) (by decide) (fun K hK => ?_)
            have hs21 : w20.cell? ⟨gb150, 0, none⟩ = some (.int .i64 0) := (blk_cell BK150.out 0).trans rfl
            have hfs21 := blk_frozen BK150.out 0
            have hs22 : w20.cell? ⟨gb150, 1, none⟩ = some (.int .i64 0) := (blk_cell BK150.out 1).trans rfl
            have hfs22 := blk_frozen BK150.out 1
            have hs23 : w20.cell? ⟨gb150, 2, none⟩ = some (.string (⟨#[]⟩ : ByteArray)) := (blk_cell BK150.out 2).trans rfl
            have hfs23 := blk_frozen BK150.out 2
            have hs24 : w20.cell? ⟨gb150, 3, none⟩ = some (.bool false) := (blk_cell BK150.out 3).trans rfl
            have hfs24 := blk_frozen BK150.out 3
            refine skip_ (w1 := ?_) (by rfl) rfl ?_ ?_
            rotate_left
            · go_simp
              rfl
            refine hK.out _ _ trivial (fun hHeld => ?_)
            clear hK K
            refine pure_ (i := 5) (N := some 3) (v := ?_) (a' := ?_) #[true, true, true, true, true, true] rfl rfl (by kernel_rfl) (fun _ _ _ h => h) (Or.inl ⟨by rfl, ?_⟩) ?_ ?_
            rotate_left; (focus (intro w'; go_simp; with_reducible rfl)); rotate_left; (focus (simp only [Act.put, List.setIfInBounds_toArray, List.set_cons_zero, List.set_cons_succ, i64_w, i32_w, IntKind.wrap_u8, IntKind.wrap_u16, IntKind.wrap_u32]; rfl))
            refine done_ (by kernel_rfl) ?_
            try go_wp2
            refine bodyPost_ret (results_ct rfl _ _ gb150 43 #[.int .i64 t164, .int .i64 t165, .string t166, .bool t167] (0, 0) _ rfl (by (with_reducible repeat (first | refine blk_drewN ?_ _ | refine blk_drew ?_ | refine blk_alloc ?_ _)); refine blk_put (cs := #[.int .i64 t164, .int .i64 t165, .string t166, .bool false]) ?_ 3 _ rfl; (with_reducible repeat (first | refine blk_drewN ?_ _ | refine blk_drew ?_ | refine blk_alloc ?_ _)); refine blk_put (cs := #[.int .i64 t164, .int .i64 t165, .string (⟨#[]⟩ : ByteArray), .bool false]) ?_ 2 _ rfl; (with_reducible repeat (first | refine blk_drewN ?_ _ | refine blk_drew ?_ | refine blk_alloc ?_ _)); refine blk_put (cs := #[.int .i64 t164, .int .i64 0, .string (⟨#[]⟩ : ByteArray), .bool false]) ?_ 1 _ rfl; (with_reducible repeat (first | refine blk_drewN ?_ _ | refine blk_drew ?_ | refine blk_alloc ?_ _)); refine blk_put (cs := #[.int .i64 0, .int .i64 0, .string (⟨#[]⟩ : ByteArray), .bool false]) ?_ 0 _ rfl; (with_reducible repeat (first | refine blk_drewN ?_ _ | refine blk_drew ?_ | refine blk_alloc ?_ _)); exact BK150.out) Tryz.underlying43 rfl (by kernel_rfl)) rfl ?_
            exact ⟨by first | rfl | (simp [errW_none, errW_some] <;> rfl) | (simp [*, errW_none, errW_some] <;> rfl), hbT HB.out⟩
          · have H1 : (some (t164, t165, t166, t167, false)) = some (r1, r2, r3, r4, r5) := by rw [if_neg (show ¬ (some q168).isNone = true by simp)] at H; exact H
            clear H
            have H := H1
            clear H1
            try simp only [errW_none, errW_some]
            simp only [Option.some.injEq, Prod.mk.injEq] at H
            obtain ⟨rfl, rfl, rfl, rfl, rfl⟩ := H
            try go_wp2_with (first | ((with_reducible refine gate_callee (f := 74) rfl ?_); refine goesT (some 20) Tryz.func74 #[.string a0, .string (⟨#[34]⟩ : ByteArray)] ?_; (with_reducible refine (strings_HasPrefix.calls a0 (⟨#[34]⟩ : ByteArray) false _ A9.out).mono ?_); rintro e w' ⟨rfl, ⟨nd, rfl⟩⟩; refine ⟨_, rfl, ?_⟩; (try (rw [drewN_self wc]; generalize hq_ : World.drewN wc _ = wc; have n0_ : Aside0 (wc.heap[gb150]? = some (.cells #[.int .i64 0, .int .i64 0, .string (⟨#[]⟩ : ByteArray), .bool false] 43 (0, 0))) := ⟨by rw [← hq_]; exact (bkT BK150.out)⟩; have n1_ : Aside0 (Below w.heap.size w wc) := ⟨by rw [← hq_]; exact (hbT HB.out)⟩; clear BK150 HB hq_; have BK150 := n0_; have HB := n1_; clear n0_ n1_))) | ((with_reducible refine gate_callee (f := 95) rfl ?_); refine goesT (some 31) Tryz.func95 #[.string a0, .int .i64 10, .int .i64 64] ?_; (with_reducible refine (strconv_ParseInt.calls a0 10 64 t162 (some q168) _ ?side1 ?side2 A16.out).mono ?_); (case side1 => first | (with_reducible exact HL_LErr) | exact ⟨LErr.below HL_LErr.out (hbT HB.out)⟩); (case side2 => first | (with_reducible exact HL_LSyn) | exact ⟨LSyn.below HL_LSyn.out (hbT HB.out)⟩); rintro e w25 ⟨ev_, hev_, rfl, hb⟩; refine ⟨_, rfl, ?_⟩; (first | obtain rfl := ErrX_none hev_ | obtain ⟨N_, rfl⟩ := ErrX_some hev_); replace BK150 := bbA BK150 hb; replace HB := bsA HB hb; (try clear hb); (try clear hb2); (try clear hk); (try clear hi)))
            replace BK150 := bdA BK150; replace HB := Aside0.mk (below_drew1 HB.out)
            refine start_ (n := 6) (S := fun w' => True) (ds := []) #[false, false, false, false, false, false] (by kernel_rfl) rfl rfl trivial (fun hHeld => ?_)
            generalize w25.drew = w26 at BK150 HB hHeld ⊢
            refine pure_ (i := 0) (N := some 34) (v := ?_) (a' := ?_) #[true, false, false, false, false, false] rfl rfl (by kernel_rfl) (fun _ _ _ h => h) (Or.inl ⟨by rfl, ?_⟩) ?_ ?_
            rotate_left; (focus (intro w'; go_simp; with_reducible rfl)); rotate_left; (focus (simp only [Act.put, List.setIfInBounds_toArray, List.set_cons_zero, List.set_cons_succ, i64_w, i32_w, IntKind.wrap_u8, IntKind.wrap_u16, IntKind.wrap_u32]; rfl))
            refine pure_ (i := 2) (N := some 36) (v := ?_) (a' := ?_) #[true, false, true, false, false, false] rfl rfl (by kernel_rfl) (fun _ _ _ h => h) (Or.inl ⟨by rfl, ?_⟩) ?_ ?_
            rotate_left; (focus (intro w'; go_simp; with_reducible rfl)); rotate_left; (focus (simp only [Act.put, List.setIfInBounds_toArray, List.set_cons_zero, List.set_cons_succ, i64_w, i32_w, IntKind.wrap_u8, IntKind.wrap_u16, IntKind.wrap_u32]; rfl))
            refine pure_ (i := 3) (N := some 37) (v := ?_) (a' := ?_) #[true, false, true, true, false, false] rfl rfl (by kernel_rfl) (fun _ _ _ h => h) (Or.inl ⟨by rfl, ?_⟩) ?_ ?_
            rotate_left; (focus (intro w'; go_simp; with_reducible rfl)); rotate_left; (focus (simp only [Act.put, List.setIfInBounds_toArray, List.set_cons_zero, List.set_cons_succ, i64_w, i32_w, IntKind.wrap_u8, IntKind.wrap_u16, IntKind.wrap_u32]; rfl))
            refine one_ (i := 1) (N := some 35) #[true, true, true, true, false, false] rfl rfl (by kernel_rfl) (by decide) (fun K hK => ?_)
            refine goes_ Tryz.func35 (by kernel_rfl) rfl #[.int .i64 t162] (by rfl) rfl rfl (by (try simp only [List.map_toArray, List.map_cons, List.map_nil]); first | done | rfl | (simp only [List.length_drop, List.length_take]; rfl)) ?_
            with_reducible refine (value_number.calls t162 t164 t165 t166 t167 _ A17.out).mono ?_
            rintro e w27 ⟨rfl, hb⟩
            refine ⟨_, rfl, ?_⟩
            replace BK150 := bbA BK150 hb; replace HB := bsA HB hb
            (try clear hb); (try clear hb2); (try clear hk); (try clear hi)
            refine hK.out _ _ trivial (fun hHeld => ?_)
            clear hK K
            refine norm_ (a' := ?_) ?_ ?_
            rotate_left
            · show Act.put _ (some 35) _ = _
              simp only [Act.put, List.setIfInBounds_toArray, List.set_cons_zero, List.set_cons_succ, i64_w, i32_w, IntKind.wrap_u8, IntKind.wrap_u16, IntKind.wrap_u32]
              rfl
            refine one_ (i := 4) (N := none) #[true, true, true, true, true, false] rfl rfl (by kernel_rfl) (by decide) (fun K hK => ?_)
            have hs28 : w27.cell? ⟨gb150, 0, none⟩ = some (.int .i64 0) := (blk_cell BK150.out 0).trans rfl
            have hfs28 := blk_frozen BK150.out 0
            have hs29 : w27.cell? ⟨gb150, 1, none⟩ = some (.int .i64 0) := (blk_cell BK150.out 1).trans rfl
            have hfs29 := blk_frozen BK150.out 1
            have hs30 : w27.cell? ⟨gb150, 2, none⟩ = some (.string (⟨#[]⟩ : ByteArray)) := (blk_cell BK150.out 2).trans rfl
            have hfs30 := blk_frozen BK150.out 2
            have hs31 : w27.cell? ⟨gb150, 3, none⟩ = some (.bool false) := (blk_cell BK150.out 3).trans rfl
            have hfs31 := blk_frozen BK150.out 3
            refine skip_ (w1 := ?_) (by rfl) rfl ?_ ?_
            rotate_left
            · go_simp
              rfl
            refine hK.out _ _ trivial (fun hHeld => ?_)
            clear hK K
            refine pure_ (i := 5) (N := some 3) (v := ?_) (a' := ?_) #[true, true, true, true, true, true] rfl rfl (by kernel_rfl) (fun _ _ _ h => h) (Or.inl ⟨by rfl, ?_⟩) ?_ ?_
            rotate_left; (focus (intro w'; go_simp; with_reducible rfl)); rotate_left; (focus (simp only [Act.put, List.setIfInBounds_toArray, List.set_cons_zero, List.set_cons_succ, i64_w, i32_w, IntKind.wrap_u8, IntKind.wrap_u16, IntKind.wrap_u32]; rfl))
            refine done_ (by kernel_rfl) ?_
            try go_wp2
            refine bodyPost_ret (results_ct rfl _ _ gb150 43 #[.int .i64 t164, .int .i64 t165, .string t166, .bool t167] (0, 0) _ rfl (by (with_reducible repeat (first | refine blk_drewN ?_ _ | refine blk_drew ?_ | refine blk_alloc ?_ _)); refine blk_put (cs := #[.int .i64 t164, .int .i64 t165, .string t166, .bool false]) ?_ 3 _ rfl; (with_reducible repeat (first | refine blk_drewN ?_ _ | refine blk_drew ?_ | refine blk_alloc ?_ _)); refine blk_put (cs := #[.int .i64 t164, .int .i64 t165, .string (⟨#[]⟩ : ByteArray), .bool false]) ?_ 2 _ rfl; (with_reducible repeat (first | refine blk_drewN ?_ _ | refine blk_drew ?_ | refine blk_alloc ?_ _)); refine blk_put (cs := #[.int .i64 t164, .int .i64 0, .string (⟨#[]⟩ : ByteArray), .bool false]) ?_ 1 _ rfl; (with_reducible repeat (first | refine blk_drewN ?_ _ | refine blk_drew ?_ | refine blk_alloc ?_ _)); refine blk_put (cs := #[.int .i64 0, .int .i64 0, .string (⟨#[]⟩ : ByteArray), .bool false]) ?_ 0 _ rfl; (with_reducible repeat (first | refine blk_drewN ?_ _ | refine blk_drew ?_ | refine blk_alloc ?_ _)); exact BK150.out) Tryz.underlying43 rfl (by kernel_rfl)) rfl ?_
            exact ⟨by first | rfl | (simp [errW_none, errW_some] <;> rfl) | (simp [*, errW_none, errW_some] <;> rfl), hbT HB.out⟩

/-! ### value_Read: function 58 -/
def value_Read.f (k : Nat) (a0 : ByteArray) : Option (Int × Int × ByteArray × Bool × Int) := (value_guess.f k a0).bind fun bt170 => (if bt170.2.2.2.2 = true then ((value_Show.f bt170.1 bt170.2.1 bt170.2.2.1 bt170.2.2.2.1).bind fun bt176 => (if bt176.2 = 0 then (if bt176.1.toList = a0.toList then (some (bt170.1, bt170.2.1, bt170.2.2.1, bt170.2.2.2.1, 0)) else (some (0, 0, (⟨#[]⟩ : ByteArray), false, 12))) else (some (0, 0, (⟨#[]⟩ : ByteArray), false, 12)))) else (some (0, 0, (⟨#[]⟩ : ByteArray), false, 12)))
set_option maxRecDepth 100000 in
theorem value_Read.mono : ∀ a0 k, LeO (value_Read.f k a0) (value_Read.f (k + 1) a0) := by
  intro a0 k
  unfold value_Read.f
  repeat' first
      | (with_reducible exact value_guess.mono _ _)
      | (with_reducible exact LeO.refl _)
      | (with_reducible exact LeO.none _)
      | (with_reducible refine LeO.ite ?_ ?_)
      | (with_reducible refine LeO.bind ?_ (fun _ => ?_))
      | exact value_guess.mono _ _
      | exact LeO.none _
      | refine LeO.ite ?_ ?_
      | refine LeO.bind ?_ (fun _ => ?_)
set_option maxHeartbeats 8000000 in
set_option maxRecDepth 100000 in
theorem value_Read.calls (k : Nat) (a0 : ByteArray) (r1 : Int) (r2 : Int) (r3 : ByteArray) (r4 : Bool) (r5 : Int) (w : World) (HL_LErr : Aside0 (LErr w)) (HL_LG0 : Aside0 (LG0 w)) (HL_LSyn : Aside0 (LSyn w)) (h : value_Read.f k a0 = some (r1, r2, r3, r4, r5)) :
    Calls Tryz.prog 58 #[.string a0] w fun e w' => e = .returned (.tuple #[.agg #[.int .i64 r1, .int .i64 r2, .string r3, .bool r4], .int .i64 r5]) ∧ Below w.heap.size w w' := by
  have hu43 := Tryz.underlying43
  have HB := Aside0.mk (Below.refl w.heap.size w)
  have H : ((value_guess.f k a0).bind fun bt170 => (if bt170.2.2.2.2 = true then ((value_Show.f bt170.1 bt170.2.1 bt170.2.2.1 bt170.2.2.2.1).bind fun bt176 => (if bt176.2 = 0 then (if bt176.1.toList = a0.toList then (some (bt170.1, bt170.2.1, bt170.2.2.1, bt170.2.2.2.1, 0)) else (some (0, 0, (⟨#[]⟩ : ByteArray), false, 12))) else (some (0, 0, (⟨#[]⟩ : ByteArray), false, 12)))) else (some (0, 0, (⟨#[]⟩ : ByteArray), false, 12)))) = some (r1, r2, r3, r4, r5) := h
  clear h
  replace H := Option.bind_eq_some_iff.mp H
  obtain ⟨⟨t170, t171, t172, t173, t174⟩, A20, H⟩ := H
  replace H : (if t174 = true then ((value_Show.f t170 t171 t172 t173).bind fun bt176 => (if bt176.2 = 0 then (if bt176.1.toList = a0.toList then (some (t170, t171, t172, t173, 0)) else (some (0, 0, (⟨#[]⟩ : ByteArray), false, 12))) else (some (0, 0, (⟨#[]⟩ : ByteArray), false, 12)))) else (some (0, 0, (⟨#[]⟩ : ByteArray), false, 12))) = some (r1, r2, r3, r4, r5) := H
  have A2 := Aside0.mk A20
  clear A20
  by_cases c3 : t174 = true
  · subst c3
    have H1 : ((value_Show.f t170 t171 t172 t173).bind fun bt176 => (if bt176.2 = 0 then (if bt176.1.toList = a0.toList then (some (t170, t171, t172, t173, 0)) else (some (0, 0, (⟨#[]⟩ : ByteArray), false, 12))) else (some (0, 0, (⟨#[]⟩ : ByteArray), false, 12)))) = some (r1, r2, r3, r4, r5) := by rw [if_pos rfl] at H; exact H
    clear H
    have H := H1
    clear H1
    replace H := Option.bind_eq_some_iff.mp H
    obtain ⟨⟨t176, t177⟩, A40, H⟩ := H
    replace H : (if t177 = 0 then (if t176.toList = a0.toList then (some (t170, t171, t172, t173, 0)) else (some (0, 0, (⟨#[]⟩ : ByteArray), false, 12))) else (some (0, 0, (⟨#[]⟩ : ByteArray), false, 12))) = some (r1, r2, r3, r4, r5) := H
    have A4 := Aside0.mk A40
    clear A40
    by_cases c5 : t177 = 0
    · rw [if_pos c5] at H
      have c5b0 : (t177 == 0) = true := beq_iff_eq.mpr c5
      have c5b1 : (t177 != 0) = false := bne_eq_false_iff_eq.mpr c5
      clear c5
      by_cases c6 : t176.toList = a0.toList
      · rw [if_pos c6] at H
        have c6b0 : (t176.toList == a0.toList) = true := beq_iff_eq.mpr c6
        have c6b1 : (t176.toList != a0.toList) = false := bne_eq_false_iff_eq.mpr c6
        clear c6
        simp only [Option.some.injEq, Prod.mk.injEq] at H
        obtain ⟨rfl, rfl, rfl, rfl, rfl⟩ := H
        go_enter Tryz.func58, Tryz.ntmps58
        go_wp2_with (first | ((with_reducible refine gate_dst (N := 2) rfl ?_); refine box_event ?hg (N := 2) ?hd (cs := #[.int .i64 0, .int .i64 0, .string (⟨#[]⟩ : ByteArray), .bool false]) (t := 43) ?hr ?_; (case hd => rfl); (case hg => rfl); (case hr => first | (go_simp; done) | (go_simp; rfl)); intro gb169 hg w7 hbox hb; have BK169 := Aside0.mk hbox; have GW169 := geA hg HB; have GE169 := geA hg HB; replace HB := bsA HB hb; clear hb hbox hg) | ((with_reducible refine gate_callee (f := 79) rfl ?_); refine goesT (some 10) Tryz.func79 #[.string a0] ?_; (with_reducible refine (value_guess.calls k a0 t170 t171 t172 t173 true _ ?side1 ?side2 A2.out).mono ?_); (case side1 => first | (with_reducible exact HL_LErr) | exact ⟨LErr.below HL_LErr.out (hbT HB.out)⟩); (case side2 => first | (with_reducible exact HL_LSyn) | exact ⟨LSyn.below HL_LSyn.out (hbT HB.out)⟩); rintro e w8 ⟨rfl, hb⟩; refine ⟨_, rfl, ?_⟩; replace BK169 := bbA BK169 hb; replace HB := bsA HB hb; (try clear hb); (try clear hb2); (try clear hk); (try clear hi)) | ((with_reducible refine gate_dst (N := 4) rfl ?_); refine box_event ?hg (N := 4) ?hd (cs := #[.int .i64 0, .int .i64 0, .string (⟨#[]⟩ : ByteArray), .bool false]) (t := 43) ?hr ?_; (case hd => rfl); (case hg => rfl); (case hr => first | (go_simp; done) | (go_simp; rfl)); intro gb175 hg w9 hbox hb; have BK175 := Aside0.mk hbox; have GW175 := geA hg HB; have GE175 := geA hg HB; have NB169_175 := neA hg BK169; have NB175_169 := neB hg BK169; replace BK169 := bbA BK169 hb; replace HB := bsA HB hb; clear hb hbox hg; have hnb10 := NB175_169.out; have hnc10 := NB169_175.out; have hcz11_0 : w9.cell? ⟨gb175, 0, none⟩ = some (.int .i64 0) := (blk_cell BK175.out 0).trans rfl; have hcz11_1 : w9.cell? ⟨gb175, 1, none⟩ = some (.int .i64 0) := (blk_cell BK175.out 1).trans rfl; have hcz11_2 : w9.cell? ⟨gb175, 2, none⟩ = some (.string (⟨#[]⟩ : ByteArray)) := (blk_cell BK175.out 2).trans rfl; have hcz11_3 : w9.cell? ⟨gb175, 3, none⟩ = some (.bool false) := (blk_cell BK175.out 3).trans rfl; have hfz11_0 := blk_frozen BK175.out 0; have hfz11_1 := blk_frozen BK175.out 1; have hfz11_2 := blk_frozen BK175.out 2; have hfz11_3 := blk_frozen BK175.out 3) | ((with_reducible refine gate_callee (f := 66) rfl ?_); refine goesT (some 18) Tryz.func66 #[.agg #[.int .i64 t170, .int .i64 t171, .string t172, .bool t173]] ?_; (with_reducible refine (value_Show.calls t170 t171 t172 t173 t176 t177 _ ?side1 A4.out).mono ?_); (case side1 => first | (with_reducible exact HL_LG0) | exact ⟨LG0.below HL_LG0.out (hbT HB.out)⟩); rintro e w12 ⟨rfl, hb⟩; refine ⟨_, rfl, ?_⟩; replace BK169 := Aside0.mk (blk_below (g := gb169) (o := .cells #[.int .i64 0, .int .i64 0, .string (⟨#[]⟩ : ByteArray), .bool false] 43 (0, 0)) (bfT NB169_175.out BK169.out) hb); replace BK175 := Aside0.mk (blk_below (g := gb175) (o := .cells #[.int .i64 t170, .int .i64 t171, .string t172, .bool t173] 43 (0, 0)) (by (with_reducible repeat (first | refine blk_drewN ?_ _ | refine blk_drew ?_ | refine blk_alloc ?_ _)); refine blk_put (cs := #[.int .i64 t170, .int .i64 t171, .string t172, .bool false]) ?_ 3 _ rfl; (with_reducible repeat (first | refine blk_drewN ?_ _ | refine blk_drew ?_ | refine blk_alloc ?_ _)); refine blk_put (cs := #[.int .i64 t170, .int .i64 t171, .string (⟨#[]⟩ : ByteArray), .bool false]) ?_ 2 _ rfl; (with_reducible repeat (first | refine blk_drewN ?_ _ | refine blk_drew ?_ | refine blk_alloc ?_ _)); refine blk_put (cs := #[.int .i64 t170, .int .i64 0, .string (⟨#[]⟩ : ByteArray), .bool false]) ?_ 1 _ rfl; (with_reducible repeat (first | refine blk_drewN ?_ _ | refine blk_drew ?_ | refine blk_alloc ?_ _)); refine blk_put (cs := #[.int .i64 0, .int .i64 0, .string (⟨#[]⟩ : ByteArray), .bool false]) ?_ 0 _ rfl; (with_reducible repeat (first | refine blk_drewN ?_ _ | refine blk_drew ?_ | refine blk_alloc ?_ _)); exact BK175.out) hb); replace HB := bsA HB hb; (try clear hb); (try clear hb2); (try clear hk); (try clear hi); have hcz13_0 : w12.cell? ⟨gb175, 0, none⟩ = some (.int .i64 t170) := (blk_cell BK175.out 0).trans rfl; have hcz13_1 : w12.cell? ⟨gb175, 1, none⟩ = some (.int .i64 t171) := (blk_cell BK175.out 1).trans rfl; have hcz13_2 : w12.cell? ⟨gb175, 2, none⟩ = some (.string t172) := (blk_cell BK175.out 2).trans rfl; have hcz13_3 : w12.cell? ⟨gb175, 3, none⟩ = some (.bool t173) := (blk_cell BK175.out 3).trans rfl; have hfz13_0 := blk_frozen BK175.out 0; have hfz13_1 := blk_frozen BK175.out 1; have hfz13_2 := blk_frozen BK175.out 2; have hfz13_3 := blk_frozen BK175.out 3; have hcz14_0 : w12.cell? ⟨gb169, 0, none⟩ = some (.int .i64 0) := (blk_cell BK169.out 0).trans rfl; have hcz14_1 : w12.cell? ⟨gb169, 1, none⟩ = some (.int .i64 0) := (blk_cell BK169.out 1).trans rfl; have hcz14_2 : w12.cell? ⟨gb169, 2, none⟩ = some (.string (⟨#[]⟩ : ByteArray)) := (blk_cell BK169.out 2).trans rfl; have hcz14_3 : w12.cell? ⟨gb169, 3, none⟩ = some (.bool false) := (blk_cell BK169.out 3).trans rfl; have hfz14_0 := blk_frozen BK169.out 0; have hfz14_1 := blk_frozen BK169.out 1; have hfz14_2 := blk_frozen BK169.out 2; have hfz14_3 := blk_frozen BK169.out 3))
        refine bodyPost_ret (results_ct rfl _ _ gb169 43 #[.int .i64 t170, .int .i64 t171, .string t172, .bool t173] (0, 0) _ rfl (by (with_reducible repeat (first | refine blk_drewN ?_ _ | refine blk_drew ?_ | refine blk_alloc ?_ _)); refine blk_put (cs := #[.int .i64 t170, .int .i64 t171, .string t172, .bool false]) ?_ 3 _ rfl; (with_reducible repeat (first | refine blk_drewN ?_ _ | refine blk_drew ?_ | refine blk_alloc ?_ _)); refine blk_put (cs := #[.int .i64 t170, .int .i64 t171, .string (⟨#[]⟩ : ByteArray), .bool false]) ?_ 2 _ rfl; (with_reducible repeat (first | refine blk_drewN ?_ _ | refine blk_drew ?_ | refine blk_alloc ?_ _)); refine blk_put (cs := #[.int .i64 t170, .int .i64 0, .string (⟨#[]⟩ : ByteArray), .bool false]) ?_ 1 _ rfl; (with_reducible repeat (first | refine blk_drewN ?_ _ | refine blk_drew ?_ | refine blk_alloc ?_ _)); refine blk_put (cs := #[.int .i64 0, .int .i64 0, .string (⟨#[]⟩ : ByteArray), .bool false]) ?_ 0 _ rfl; (with_reducible repeat (first | refine blk_drewN ?_ _ | refine blk_drew ?_ | refine blk_alloc ?_ _)); exact BK169.out) Tryz.underlying43 rfl (by kernel_rfl)) rfl ?_
        exact ⟨by first | rfl | (simp [errW_none, errW_some] <;> rfl) | (simp [*, errW_none, errW_some] <;> rfl), hbT HB.out⟩
      · rw [if_neg c6] at H
        have c6b0 : (t176.toList == a0.toList) = false := beq_eq_false_iff_ne.mpr c6
        have c6b1 : (t176.toList != a0.toList) = true := bne_iff_ne.mpr c6
        simp only [Option.some.injEq, Prod.mk.injEq] at H
        obtain ⟨rfl, rfl, rfl, rfl, rfl⟩ := H
        go_enter Tryz.func58, Tryz.ntmps58
        go_wp2_with (first | ((with_reducible refine gate_dst (N := 2) rfl ?_); refine box_event ?hg (N := 2) ?hd (cs := #[.int .i64 0, .int .i64 0, .string (⟨#[]⟩ : ByteArray), .bool false]) (t := 43) ?hr ?_; (case hd => rfl); (case hg => rfl); (case hr => first | (go_simp; done) | (go_simp; rfl)); intro gb169 hg w15 hbox hb; have BK169 := Aside0.mk hbox; have GW169 := geA hg HB; have GE169 := geA hg HB; replace HB := bsA HB hb; clear hb hbox hg) | ((with_reducible refine gate_callee (f := 79) rfl ?_); refine goesT (some 10) Tryz.func79 #[.string a0] ?_; (with_reducible refine (value_guess.calls k a0 t170 t171 t172 t173 true _ ?side1 ?side2 A2.out).mono ?_); (case side1 => first | (with_reducible exact HL_LErr) | exact ⟨LErr.below HL_LErr.out (hbT HB.out)⟩); (case side2 => first | (with_reducible exact HL_LSyn) | exact ⟨LSyn.below HL_LSyn.out (hbT HB.out)⟩); rintro e w16 ⟨rfl, hb⟩; refine ⟨_, rfl, ?_⟩; replace BK169 := bbA BK169 hb; replace HB := bsA HB hb; (try clear hb); (try clear hb2); (try clear hk); (try clear hi)) | ((with_reducible refine gate_dst (N := 4) rfl ?_); refine box_event ?hg (N := 4) ?hd (cs := #[.int .i64 0, .int .i64 0, .string (⟨#[]⟩ : ByteArray), .bool false]) (t := 43) ?hr ?_; (case hd => rfl); (case hg => rfl); (case hr => first | (go_simp; done) | (go_simp; rfl)); intro gb175 hg w17 hbox hb; have BK175 := Aside0.mk hbox; have GW175 := geA hg HB; have GE175 := geA hg HB; have NB169_175 := neA hg BK169; have NB175_169 := neB hg BK169; replace BK169 := bbA BK169 hb; replace HB := bsA HB hb; clear hb hbox hg; have hnb18 := NB175_169.out; have hnc18 := NB169_175.out; have hcz19_0 : w17.cell? ⟨gb175, 0, none⟩ = some (.int .i64 0) := (blk_cell BK175.out 0).trans rfl; have hcz19_1 : w17.cell? ⟨gb175, 1, none⟩ = some (.int .i64 0) := (blk_cell BK175.out 1).trans rfl; have hcz19_2 : w17.cell? ⟨gb175, 2, none⟩ = some (.string (⟨#[]⟩ : ByteArray)) := (blk_cell BK175.out 2).trans rfl; have hcz19_3 : w17.cell? ⟨gb175, 3, none⟩ = some (.bool false) := (blk_cell BK175.out 3).trans rfl; have hfz19_0 := blk_frozen BK175.out 0; have hfz19_1 := blk_frozen BK175.out 1; have hfz19_2 := blk_frozen BK175.out 2; have hfz19_3 := blk_frozen BK175.out 3) | ((with_reducible refine gate_callee (f := 66) rfl ?_); refine goesT (some 18) Tryz.func66 #[.agg #[.int .i64 t170, .int .i64 t171, .string t172, .bool t173]] ?_; (with_reducible refine (value_Show.calls t170 t171 t172 t173 t176 t177 _ ?side1 A4.out).mono ?_); (case side1 => first | (with_reducible exact HL_LG0) | exact ⟨LG0.below HL_LG0.out (hbT HB.out)⟩); rintro e w20 ⟨rfl, hb⟩; refine ⟨_, rfl, ?_⟩; replace BK169 := Aside0.mk (blk_below (g := gb169) (o := .cells #[.int .i64 0, .int .i64 0, .string (⟨#[]⟩ : ByteArray), .bool false] 43 (0, 0)) (bfT NB169_175.out BK169.out) hb); replace BK175 := Aside0.mk (blk_below (g := gb175) (o := .cells #[.int .i64 t170, .int .i64 t171, .string t172, .bool t173] 43 (0, 0)) (by (with_reducible repeat (first | refine blk_drewN ?_ _ | refine blk_drew ?_ | refine blk_alloc ?_ _)); refine blk_put (cs := #[.int .i64 t170, .int .i64 t171, .string t172, .bool false]) ?_ 3 _ rfl; (with_reducible repeat (first | refine blk_drewN ?_ _ | refine blk_drew ?_ | refine blk_alloc ?_ _)); refine blk_put (cs := #[.int .i64 t170, .int .i64 t171, .string (⟨#[]⟩ : ByteArray), .bool false]) ?_ 2 _ rfl; (with_reducible repeat (first | refine blk_drewN ?_ _ | refine blk_drew ?_ | refine blk_alloc ?_ _)); refine blk_put (cs := #[.int .i64 t170, .int .i64 0, .string (⟨#[]⟩ : ByteArray), .bool false]) ?_ 1 _ rfl; (with_reducible repeat (first | refine blk_drewN ?_ _ | refine blk_drew ?_ | refine blk_alloc ?_ _)); refine blk_put (cs := #[.int .i64 0, .int .i64 0, .string (⟨#[]⟩ : ByteArray), .bool false]) ?_ 0 _ rfl; (with_reducible repeat (first | refine blk_drewN ?_ _ | refine blk_drew ?_ | refine blk_alloc ?_ _)); exact BK175.out) hb); replace HB := bsA HB hb; (try clear hb); (try clear hb2); (try clear hk); (try clear hi); have hcz21_0 : w20.cell? ⟨gb169, 0, none⟩ = some (.int .i64 0) := (blk_cell BK169.out 0).trans rfl; have hcz21_1 : w20.cell? ⟨gb169, 1, none⟩ = some (.int .i64 0) := (blk_cell BK169.out 1).trans rfl; have hcz21_2 : w20.cell? ⟨gb169, 2, none⟩ = some (.string (⟨#[]⟩ : ByteArray)) := (blk_cell BK169.out 2).trans rfl; have hcz21_3 : w20.cell? ⟨gb169, 3, none⟩ = some (.bool false) := (blk_cell BK169.out 3).trans rfl; have hfz21_0 := blk_frozen BK169.out 0; have hfz21_1 := blk_frozen BK169.out 1; have hfz21_2 := blk_frozen BK169.out 2; have hfz21_3 := blk_frozen BK169.out 3))
        refine bodyPost_ret (results_ct rfl _ _ gb169 43 #[.int .i64 0, .int .i64 0, .string (⟨#[]⟩ : ByteArray), .bool false] (0, 0) _ rfl (by (with_reducible repeat (first | refine blk_drewN ?_ _ | refine blk_drew ?_ | refine blk_alloc ?_ _)); refine blk_put (cs := #[.int .i64 0, .int .i64 0, .string (⟨#[]⟩ : ByteArray), .bool false]) ?_ 3 _ rfl; (with_reducible repeat (first | refine blk_drewN ?_ _ | refine blk_drew ?_ | refine blk_alloc ?_ _)); refine blk_put (cs := #[.int .i64 0, .int .i64 0, .string (⟨#[]⟩ : ByteArray), .bool false]) ?_ 2 _ rfl; (with_reducible repeat (first | refine blk_drewN ?_ _ | refine blk_drew ?_ | refine blk_alloc ?_ _)); refine blk_put (cs := #[.int .i64 0, .int .i64 0, .string (⟨#[]⟩ : ByteArray), .bool false]) ?_ 1 _ rfl; (with_reducible repeat (first | refine blk_drewN ?_ _ | refine blk_drew ?_ | refine blk_alloc ?_ _)); refine blk_put (cs := #[.int .i64 0, .int .i64 0, .string (⟨#[]⟩ : ByteArray), .bool false]) ?_ 0 _ rfl; (with_reducible repeat (first | refine blk_drewN ?_ _ | refine blk_drew ?_ | refine blk_alloc ?_ _)); exact BK169.out) Tryz.underlying43 rfl (by kernel_rfl)) rfl ?_
        exact ⟨by first | rfl | (simp [errW_none, errW_some] <;> rfl) | (simp [*, errW_none, errW_some] <;> rfl), hbT HB.out⟩
    · rw [if_neg c5] at H
      have c5b0 : (t177 == 0) = false := beq_eq_false_iff_ne.mpr c5
      have c5b1 : (t177 != 0) = true := bne_iff_ne.mpr c5
      simp only [Option.some.injEq, Prod.mk.injEq] at H
      obtain ⟨rfl, rfl, rfl, rfl, rfl⟩ := H
      go_enter Tryz.func58, Tryz.ntmps58
      go_wp2_with (first | ((with_reducible refine gate_dst (N := 2) rfl ?_); refine box_event ?hg (N := 2) ?hd (cs := #[.int .i64 0, .int .i64 0, .string (⟨#[]⟩ : ByteArray), .bool false]) (t := 43) ?hr ?_; (case hd => rfl); (case hg => rfl); (case hr => first | (go_simp; done) | (go_simp; rfl)); intro gb169 hg w22 hbox hb; have BK169 := Aside0.mk hbox; have GW169 := geA hg HB; have GE169 := geA hg HB; replace HB := bsA HB hb; clear hb hbox hg) | ((with_reducible refine gate_callee (f := 79) rfl ?_); refine goesT (some 10) Tryz.func79 #[.string a0] ?_; (with_reducible refine (value_guess.calls k a0 t170 t171 t172 t173 true _ ?side1 ?side2 A2.out).mono ?_); (case side1 => first | (with_reducible exact HL_LErr) | exact ⟨LErr.below HL_LErr.out (hbT HB.out)⟩); (case side2 => first | (with_reducible exact HL_LSyn) | exact ⟨LSyn.below HL_LSyn.out (hbT HB.out)⟩); rintro e w23 ⟨rfl, hb⟩; refine ⟨_, rfl, ?_⟩; replace BK169 := bbA BK169 hb; replace HB := bsA HB hb; (try clear hb); (try clear hb2); (try clear hk); (try clear hi)) | ((with_reducible refine gate_dst (N := 4) rfl ?_); refine box_event ?hg (N := 4) ?hd (cs := #[.int .i64 0, .int .i64 0, .string (⟨#[]⟩ : ByteArray), .bool false]) (t := 43) ?hr ?_; (case hd => rfl); (case hg => rfl); (case hr => first | (go_simp; done) | (go_simp; rfl)); intro gb175 hg w24 hbox hb; have BK175 := Aside0.mk hbox; have GW175 := geA hg HB; have GE175 := geA hg HB; have NB169_175 := neA hg BK169; have NB175_169 := neB hg BK169; replace BK169 := bbA BK169 hb; replace HB := bsA HB hb; clear hb hbox hg; have hnb25 := NB175_169.out; have hnc25 := NB169_175.out; have hcz26_0 : w24.cell? ⟨gb175, 0, none⟩ = some (.int .i64 0) := (blk_cell BK175.out 0).trans rfl; have hcz26_1 : w24.cell? ⟨gb175, 1, none⟩ = some (.int .i64 0) := (blk_cell BK175.out 1).trans rfl; have hcz26_2 : w24.cell? ⟨gb175, 2, none⟩ = some (.string (⟨#[]⟩ : ByteArray)) := (blk_cell BK175.out 2).trans rfl; have hcz26_3 : w24.cell? ⟨gb175, 3, none⟩ = some (.bool false) := (blk_cell BK175.out 3).trans rfl; have hfz26_0 := blk_frozen BK175.out 0; have hfz26_1 := blk_frozen BK175.out 1; have hfz26_2 := blk_frozen BK175.out 2; have hfz26_3 := blk_frozen BK175.out 3) | ((with_reducible refine gate_callee (f := 66) rfl ?_); refine goesT (some 18) Tryz.func66 #[.agg #[.int .i64 t170, .int .i64 t171, .string t172, .bool t173]] ?_; (with_reducible refine (value_Show.calls t170 t171 t172 t173 t176 t177 _ ?side1 A4.out).mono ?_); (case side1 => first | (with_reducible exact HL_LG0) | exact ⟨LG0.below HL_LG0.out (hbT HB.out)⟩); rintro e w27 ⟨rfl, hb⟩; refine ⟨_, rfl, ?_⟩; replace BK169 := Aside0.mk (blk_below (g := gb169) (o := .cells #[.int .i64 0, .int .i64 0, .string (⟨#[]⟩ : ByteArray), .bool false] 43 (0, 0)) (bfT NB169_175.out BK169.out) hb); replace BK175 := Aside0.mk (blk_below (g := gb175) (o := .cells #[.int .i64 t170, .int .i64 t171, .string t172, .bool t173] 43 (0, 0)) (by (with_reducible repeat (first | refine blk_drewN ?_ _ | refine blk_drew ?_ | refine blk_alloc ?_ _)); refine blk_put (cs := #[.int .i64 t170, .int .i64 t171, .string t172, .bool false]) ?_ 3 _ rfl; (with_reducible repeat (first | refine blk_drewN ?_ _ | refine blk_drew ?_ | refine blk_alloc ?_ _)); refine blk_put (cs := #[.int .i64 t170, .int .i64 t171, .string (⟨#[]⟩ : ByteArray), .bool false]) ?_ 2 _ rfl; (with_reducible repeat (first | refine blk_drewN ?_ _ | refine blk_drew ?_ | refine blk_alloc ?_ _)); refine blk_put (cs := #[.int .i64 t170, .int .i64 0, .string (⟨#[]⟩ : ByteArray), .bool false]) ?_ 1 _ rfl; (with_reducible repeat (first | refine blk_drewN ?_ _ | refine blk_drew ?_ | refine blk_alloc ?_ _)); refine blk_put (cs := #[.int .i64 0, .int .i64 0, .string (⟨#[]⟩ : ByteArray), .bool false]) ?_ 0 _ rfl; (with_reducible repeat (first | refine blk_drewN ?_ _ | refine blk_drew ?_ | refine blk_alloc ?_ _)); exact BK175.out) hb); replace HB := bsA HB hb; (try clear hb); (try clear hb2); (try clear hk); (try clear hi); have hcz28_0 : w27.cell? ⟨gb169, 0, none⟩ = some (.int .i64 0) := (blk_cell BK169.out 0).trans rfl; have hcz28_1 : w27.cell? ⟨gb169, 1, none⟩ = some (.int .i64 0) := (blk_cell BK169.out 1).trans rfl; have hcz28_2 : w27.cell? ⟨gb169, 2, none⟩ = some (.string (⟨#[]⟩ : ByteArray)) := (blk_cell BK169.out 2).trans rfl; have hcz28_3 : w27.cell? ⟨gb169, 3, none⟩ = some (.bool false) := (blk_cell BK169.out 3).trans rfl; have hfz28_0 := blk_frozen BK169.out 0; have hfz28_1 := blk_frozen BK169.out 1; have hfz28_2 := blk_frozen BK169.out 2; have hfz28_3 := blk_frozen BK169.out 3))
      refine bodyPost_ret (results_ct rfl _ _ gb169 43 #[.int .i64 0, .int .i64 0, .string (⟨#[]⟩ : ByteArray), .bool false] (0, 0) _ rfl (by (with_reducible repeat (first | refine blk_drewN ?_ _ | refine blk_drew ?_ | refine blk_alloc ?_ _)); refine blk_put (cs := #[.int .i64 0, .int .i64 0, .string (⟨#[]⟩ : ByteArray), .bool false]) ?_ 3 _ rfl; (with_reducible repeat (first | refine blk_drewN ?_ _ | refine blk_drew ?_ | refine blk_alloc ?_ _)); refine blk_put (cs := #[.int .i64 0, .int .i64 0, .string (⟨#[]⟩ : ByteArray), .bool false]) ?_ 2 _ rfl; (with_reducible repeat (first | refine blk_drewN ?_ _ | refine blk_drew ?_ | refine blk_alloc ?_ _)); refine blk_put (cs := #[.int .i64 0, .int .i64 0, .string (⟨#[]⟩ : ByteArray), .bool false]) ?_ 1 _ rfl; (with_reducible repeat (first | refine blk_drewN ?_ _ | refine blk_drew ?_ | refine blk_alloc ?_ _)); refine blk_put (cs := #[.int .i64 0, .int .i64 0, .string (⟨#[]⟩ : ByteArray), .bool false]) ?_ 0 _ rfl; (with_reducible repeat (first | refine blk_drewN ?_ _ | refine blk_drew ?_ | refine blk_alloc ?_ _)); exact BK169.out) Tryz.underlying43 rfl (by kernel_rfl)) rfl ?_
      exact ⟨by first | rfl | (simp [errW_none, errW_some] <;> rfl) | (simp [*, errW_none, errW_some] <;> rfl), hbT HB.out⟩
  · replace c3 := Bool.eq_false_iff.mpr c3
    subst c3
    have H1 : (some (0, 0, (⟨#[]⟩ : ByteArray), false, 12)) = some (r1, r2, r3, r4, r5) := by rw [if_neg (show ¬ (false = true) by decide)] at H; exact H
    clear H
    have H := H1
    clear H1
    simp only [Option.some.injEq, Prod.mk.injEq] at H
    obtain ⟨rfl, rfl, rfl, rfl, rfl⟩ := H
    go_enter Tryz.func58, Tryz.ntmps58
    go_wp2_with (first | ((with_reducible refine gate_dst (N := 2) rfl ?_); refine box_event ?hg (N := 2) ?hd (cs := #[.int .i64 0, .int .i64 0, .string (⟨#[]⟩ : ByteArray), .bool false]) (t := 43) ?hr ?_; (case hd => rfl); (case hg => rfl); (case hr => first | (go_simp; done) | (go_simp; rfl)); intro gb169 hg w29 hbox hb; have BK169 := Aside0.mk hbox; have GW169 := geA hg HB; have GE169 := geA hg HB; replace HB := bsA HB hb; clear hb hbox hg) | ((with_reducible refine gate_callee (f := 79) rfl ?_); refine goesT (some 10) Tryz.func79 #[.string a0] ?_; (with_reducible refine (value_guess.calls k a0 t170 t171 t172 t173 false _ ?side1 ?side2 A2.out).mono ?_); (case side1 => first | (with_reducible exact HL_LErr) | exact ⟨LErr.below HL_LErr.out (hbT HB.out)⟩); (case side2 => first | (with_reducible exact HL_LSyn) | exact ⟨LSyn.below HL_LSyn.out (hbT HB.out)⟩); rintro e w30 ⟨rfl, hb⟩; refine ⟨_, rfl, ?_⟩; replace BK169 := bbA BK169 hb; replace HB := bsA HB hb; (try clear hb); (try clear hb2); (try clear hk); (try clear hi)) | ((with_reducible refine gate_dst (N := 4) rfl ?_); refine box_event ?hg (N := 4) ?hd (cs := #[.int .i64 0, .int .i64 0, .string (⟨#[]⟩ : ByteArray), .bool false]) (t := 43) ?hr ?_; (case hd => rfl); (case hg => rfl); (case hr => first | (go_simp; done) | (go_simp; rfl)); intro gb175 hg w31 hbox hb; have BK175 := Aside0.mk hbox; have GW175 := geA hg HB; have GE175 := geA hg HB; have NB169_175 := neA hg BK169; have NB175_169 := neB hg BK169; replace BK169 := bbA BK169 hb; replace HB := bsA HB hb; clear hb hbox hg; have hnb32 := NB175_169.out; have hnc32 := NB169_175.out; have hcz33_0 : w31.cell? ⟨gb175, 0, none⟩ = some (.int .i64 0) := (blk_cell BK175.out 0).trans rfl; have hcz33_1 : w31.cell? ⟨gb175, 1, none⟩ = some (.int .i64 0) := (blk_cell BK175.out 1).trans rfl; have hcz33_2 : w31.cell? ⟨gb175, 2, none⟩ = some (.string (⟨#[]⟩ : ByteArray)) := (blk_cell BK175.out 2).trans rfl; have hcz33_3 : w31.cell? ⟨gb175, 3, none⟩ = some (.bool false) := (blk_cell BK175.out 3).trans rfl; have hfz33_0 := blk_frozen BK175.out 0; have hfz33_1 := blk_frozen BK175.out 1; have hfz33_2 := blk_frozen BK175.out 2; have hfz33_3 := blk_frozen BK175.out 3; have hcz34_0 : w31.cell? ⟨gb169, 0, none⟩ = some (.int .i64 0) := (blk_cell BK169.out 0).trans rfl; have hcz34_1 : w31.cell? ⟨gb169, 1, none⟩ = some (.int .i64 0) := (blk_cell BK169.out 1).trans rfl; have hcz34_2 : w31.cell? ⟨gb169, 2, none⟩ = some (.string (⟨#[]⟩ : ByteArray)) := (blk_cell BK169.out 2).trans rfl; have hcz34_3 : w31.cell? ⟨gb169, 3, none⟩ = some (.bool false) := (blk_cell BK169.out 3).trans rfl; have hfz34_0 := blk_frozen BK169.out 0; have hfz34_1 := blk_frozen BK169.out 1; have hfz34_2 := blk_frozen BK169.out 2; have hfz34_3 := blk_frozen BK169.out 3))
    refine bodyPost_ret (results_ct rfl _ _ gb169 43 #[.int .i64 0, .int .i64 0, .string (⟨#[]⟩ : ByteArray), .bool false] (0, 0) _ rfl (by (with_reducible repeat (first | refine blk_drewN ?_ _ | refine blk_drew ?_ | refine blk_alloc ?_ _)); refine blk_put (cs := #[.int .i64 0, .int .i64 0, .string (⟨#[]⟩ : ByteArray), .bool false]) ?_ 3 _ rfl; (with_reducible repeat (first | refine blk_drewN ?_ _ | refine blk_drew ?_ | refine blk_alloc ?_ _)); refine blk_put (cs := #[.int .i64 0, .int .i64 0, .string (⟨#[]⟩ : ByteArray), .bool false]) ?_ 2 _ rfl; (with_reducible repeat (first | refine blk_drewN ?_ _ | refine blk_drew ?_ | refine blk_alloc ?_ _)); refine blk_put (cs := #[.int .i64 0, .int .i64 0, .string (⟨#[]⟩ : ByteArray), .bool false]) ?_ 1 _ rfl; (with_reducible repeat (first | refine blk_drewN ?_ _ | refine blk_drew ?_ | refine blk_alloc ?_ _)); refine blk_put (cs := #[.int .i64 0, .int .i64 0, .string (⟨#[]⟩ : ByteArray), .bool false]) ?_ 0 _ rfl; (with_reducible repeat (first | refine blk_drewN ?_ _ | refine blk_drew ?_ | refine blk_alloc ?_ _)); refine blk_far ?_ NB169_175.out _; (with_reducible repeat (first | refine blk_drewN ?_ _ | refine blk_drew ?_ | refine blk_alloc ?_ _)); refine blk_far ?_ NB169_175.out _; (with_reducible repeat (first | refine blk_drewN ?_ _ | refine blk_drew ?_ | refine blk_alloc ?_ _)); refine blk_far ?_ NB169_175.out _; (with_reducible repeat (first | refine blk_drewN ?_ _ | refine blk_drew ?_ | refine blk_alloc ?_ _)); refine blk_far ?_ NB169_175.out _; (with_reducible repeat (first | refine blk_drewN ?_ _ | refine blk_drew ?_ | refine blk_alloc ?_ _)); exact BK169.out) Tryz.underlying43 rfl (by kernel_rfl)) rfl ?_
    exact ⟨by first | rfl | (simp [errW_none, errW_some] <;> rfl) | (simp [*, errW_none, errW_some] <;> rfl), hbT HB.out⟩

end Go.Proofs.YtpkbhfdfgapmlaaGreatDoor.Pr
end

/-! ## text PvRead -/
section
namespace Go.Proofs.YtpkbhfdfgapmlaaGreatDoor.Pv
open Go.RowKit Go.Proofs.YtpkbhfdfgapmlaaGreatDoor.Pu Go.Proofs.YtpkbhfdfgapmlaaGreatDoor.Pr Go.Proofs.YtpkbhfdfgapmlaaGreatDoorW.PrintWords Go.Proofs.YtpkbhfdfgapmlaaGreatDoorW.PrintLast Go.Proofs.YtpkbhfdfgapmlaaGreatDoorW.PrintMore
set_option linter.unusedVariables false
set_option linter.unusedSimpArgs false

/-- strconv.ParseInt(s, 10, 64), and whether it is without an error. -/
def piP (l : List UInt8) : Int × Bool := match Lib.parseIntB 64 l with
  | .ok v => (v, true)
  | .range => (Lib.intSat 64 l, false)
  | _ => (0, false)
/-- value.guess, on bytes: kind, number, string, truth value; could it be? -/
def guessP (l : List UInt8) : Int × Int × ByteArray × Bool × Bool :=
  if l = [84, 82, 85, 69] ∨ l = [70, 65, 76, 83, 69] then (3, 0, ⟨#[]⟩, l == [84, 82, 85, 69], true)
  else if l.head? = some 34 then (2, 0, (unB (unqP l)).1, false, (unB (unqP l)).2)
  else (1, (piP l).1, ⟨#[]⟩, false, (piP l).2)
theorem hasPrefix_q (l : List UInt8) : strings_HasPrefix.f (B l) (⟨#[34]⟩ : ByteArray) = some (l.head? == some 34) := by
  unfold strings_HasPrefix.f stringslite_HasPrefix.f
  have hq : ((⟨#[34]⟩ : ByteArray).size : Int) = 1 := rfl
  rw [hq, B_size]
  cases l with
  | nil => rfl
  | cons c t =>
    rw [if_pos (by simp; omega), if_pos (by omega), if_pos (by simp; omega)]
    simp only [Option.bind_some, Option.some.injEq, B_extract, B_toList]
    show (((c :: t).take 1).drop 0 == (⟨#[34]⟩ : ByteArray).toList) = _
    rw [tl_data]
    simp
theorem pi_f (l : List UInt8) (hl : l.length ≤ 281474976710656) : strconv_ParseInt.f (B l) 10 64 = some ((piP l).1, if (piP l).2 then none else some 0) := by
  unfold strconv_ParseInt.f piP
  rw [if_pos ⟨rfl, rfl, by rw [B_size]; exact hl⟩, B_data]
  cases Lib.parseIntB 64 l <;> rfl
theorem piP_bounds (l : List UInt8) : -9223372036854775808 ≤ (piP l).1 ∧ (piP l).1 ≤ 9223372036854775807 := by
  unfold piP
  cases h : Lib.parseIntB 64 l with
  | ok v => have := Lib.parseIntB_bounds h; constructor <;> simp at this ⊢ <;> omega
  | range => simp only [Lib.intSat_64]; exact Lib.atoiSat_bounds l
  | _ => simp
theorem guess_ev (l : List UInt8) (hl : l.length ≤ 140737488351232) : Ev (fun k => value_guess.f k (B l)) (guessP l) := by
  unfold guessP
  have htr : (B l).toList = l := B_toList l
  by_cases h : l = [84, 82, 85, 69] ∨ l = [70, 65, 76, 83, 69]
  · rw [if_pos h]
    have key : ∀ k, value_guess.j0 (k + 1) (B l) true = some (3, 0, ⟨#[]⟩, l == [84, 82, 85, 69], true) := fun k => by
      rw [value_guess.j0, if_pos rfl, htr]
      rfl
    refine Ev.step (f := fun _ => some (3, 0, (⟨#[]⟩ : ByteArray), l == [84, 82, 85, 69], true)) ?_ (Ev.now _)
    intro K
    rw [value_guess.f, htr]
    by_cases h1 : l = [84, 82, 85, 69]
    · rw [if_pos h1, key]
    · rw [if_neg h1]
      have h2 : (l == ([70, 65, 76, 83, 69] : List UInt8)) = true := by rcases h with h | h; exact absurd h h1; rw [h]; rfl
      rw [h2, key]
  · rw [if_neg h]
    have st : ∀ k, value_guess.f k (B l) = value_guess.j0 k (B l) false := fun k => by
      rw [value_guess.f, htr, if_neg (fun e => h (.inl e)), show (l == ([70, 65, 76, 83, 69] : List UInt8)) = false by rw [beq_eq_false_iff_ne]; exact fun e => h (.inr e)]
    refine Ev.congr st ?_
    by_cases hq : l.head? = some 34
    · rw [if_pos hq]
      have hu := unquoted_ev l hl
      have st2 : ∀ K, value_guess.j0 (K + 1) (B l) false = (value_unquoted.f K (B l)).bind fun b => some (2, 0, b.1, false, b.2) := fun K => by
        rw [value_guess.j0, if_neg (by simp), hasPrefix_q, Option.bind_some, if_pos (by simp [hq])]
        rfl
      refine Ev.step st2 ?_
      exact Ev.bind (f := fun _ b => some ((2 : Int), (0 : Int), b.1, false, b.2)) hu (Ev.now _)
    · rw [if_neg hq]
      refine Ev.step (f := fun _ => some (1, (piP l).1, (⟨#[]⟩ : ByteArray), false, (piP l).2)) ?_ (Ev.now _)
      intro K
      rw [value_guess.j0, if_neg (by simp), hasPrefix_q, Option.bind_some, if_neg (by simp [hq]), pi_f l (by omega), Option.bind_some]
      cases hp : (piP l).2 <;> simp [hp, value_number.f]
/-- value.Read, on bytes. -/
def readP (l : List UInt8) : Int × Int × ByteArray × Bool × Int :=
  let g := guessP l
  if g.2.2.2.2 = true ∧ (showV g.1 g.2.1 g.2.2.1 g.2.2.2.1).2 = 0 ∧ (showV g.1 g.2.1 g.2.2.1 g.2.2.2.1).1.toList = l then (g.1, g.2.1, g.2.2.1, g.2.2.2.1, 0) else (0, 0, ⟨#[]⟩, false, 12)
theorem guess_bounds (l : List UInt8) : -9223372036854775808 ≤ (guessP l).2.1 ∧ (guessP l).2.1 ≤ 9223372036854775807 := by
  unfold guessP
  split
  · simp
  · split
    · simp
    · exact piP_bounds l
theorem show_f (kd n : Int) (s : ByteArray) (b : Bool) (h : -9223372036854775808 ≤ n ∧ n ≤ 9223372036854775807) : value_Show.f kd n s b = some (showV kd n s b) := by
  unfold value_Show.f
  rw [if_pos h]
theorem read_ev (l : List UInt8) (hl : l.length ≤ 140737488351232) : Ev (fun k => value_Read.f k (B l)) (readP l) := by
  have hg := guess_ev l hl
  have hb := guess_bounds l
  unfold value_Read.f
  refine Ev.bind (f := fun _ bt156 => _) hg ?_
  unfold readP
  generalize guessP l = g at *
  refine Ev.congr (f := fun _ => some _) (fun k => ?_) (Ev.now _)
  dsimp only
  by_cases h1 : g.2.2.2.2 = true
  · rw [if_pos h1, show_f _ _ _ _ hb, Option.bind_some]
    by_cases h2 : (showV g.1 g.2.1 g.2.2.1 g.2.2.2.1).2 = 0
    · rw [if_pos h2, B_toList]
      by_cases h3 : (showV g.1 g.2.1 g.2.2.1 g.2.2.2.1).1.toList = l
      · rw [if_pos h3, if_pos ⟨h1, h2, h3⟩]
      · rw [if_neg h3, if_neg (fun h => h3 h.2.2)]
    · rw [if_neg h2, if_neg (fun h => h2 h.2.1)]
  · rw [if_neg h1, if_neg (fun h => h1 h.1)]
theorem empty_of {s : ByteArray} (h : (s.toList == []) = true) : s = ⟨#[]⟩ := by
  have : s.toList = [] := by simpa using h
  rw [tl_data] at this
  rw [← B_of s, this]
  rfl
theorem itoa_head (n : Int) : ∃ c r, Lib.itoa n = c :: r ∧ (c.toNat = 45 ∨ 48 ≤ c.toNat ∧ c.toNat ≤ 57) := by
  unfold Lib.itoa
  split
  · exact ⟨45, _, rfl, .inl rfl⟩
  · obtain ⟨c, r, h, h1, h2⟩ := dec_cons n.toNat
    exact ⟨c, r, h, .inr ⟨h1, h2⟩⟩
/-- What may be, is read back from its text. -/
theorem guess_show (kd n : Int) (s : ByteArray) (b : Bool) (h : validV kd n s b = true) (h0 : -9223372036854775808 ≤ n) (h1 : n ≤ 9223372036854775807) :
    guessP (showV kd n s b).1.data.toList = (kd, n, s, b, true) := by
  unfold showV
  rw [if_neg (by rw [h]; simp)]
  unfold validV at h
  by_cases k1 : kd = 1
  · rw [if_pos k1] at h ⊢
    simp only [Bool.and_eq_true] at h
    have hs := empty_of h.1
    have hb : b = false := by simpa using h.2
    subst hs hb k1
    obtain ⟨c, r, hc, hcc⟩ := itoa_head n
    unfold guessP
    have hp : piP (Lib.itoa n) = (n, true) := by unfold piP; rw [parse_itoa n h0 h1]
    rw [show (⟨(Lib.itoa n).toArray⟩ : ByteArray).data.toList = Lib.itoa n by simp, if_neg, if_neg, hp]
    · rw [hc]; intro e; injection e with e; rw [e] at hcc; revert hcc; decide
    · rw [hc]; rintro (e | e) <;> (injection e with e; rw [e] at hcc; revert hcc; decide)
  rw [if_neg k1] at h ⊢
  by_cases k2 : kd = 2
  · rw [if_pos k2] at h ⊢
    simp only [Bool.and_eq_true] at h
    have hn : n = 0 := by simpa using h.1.1
    have hb : b = false := by simpa using h.1.2
    subst hn hb k2
    unfold guessP
    rw [show (⟨(qvs s.data.toList).toArray⟩ : ByteArray).data.toList = qvs s.data.toList by simp, if_neg, if_pos, unqP_qvs]
    · unfold unB; dsimp only; rw [B_of]
    · rfl
    · unfold qvs; rintro (e | e) <;> (injection e with e; revert e; decide)
  rw [if_neg k2] at h ⊢
  by_cases k3 : kd = 3
  · rw [if_pos k3] at h
    simp only [Bool.and_eq_true] at h
    have hn : n = 0 := by simpa using h.1
    have hs := empty_of h.2
    subst hn hs k3
    cases b <;> rfl
  · rw [if_neg k3] at h; cases h
theorem read_show (kd n : Int) (s : ByteArray) (b : Bool) (h : validV kd n s b = true) (h0 : -9223372036854775808 ≤ n) (h1 : n ≤ 9223372036854775807) :
    readP (showV kd n s b).1.data.toList = (kd, n, s, b, 0) ∧ (showV kd n s b).2 = 0 := by
  have hg := guess_show kd n s b h h0 h1
  have h2 : (showV kd n s b).2 = 0 := by
    unfold showV
    rw [if_neg (by rw [h]; simp)]
    repeat' split
    all_goals rfl
  refine ⟨?_, h2⟩
  unfold readP
  rw [hg]
  dsimp only
  rw [if_pos ⟨rfl, h2, by rw [tl_data]⟩]
/-- What is read is valid, and its text is what was read. -/
theorem read_ok {l : List UInt8} (h : (readP l).2.2.2.2 = 0) : showV (readP l).1 (readP l).2.1 (readP l).2.2.1 (readP l).2.2.2.1 = (B l, 0) ∧ validV (readP l).1 (readP l).2.1 (readP l).2.2.1 (readP l).2.2.2.1 = true ∧ -9223372036854775808 ≤ (readP l).2.1 ∧ (readP l).2.1 ≤ 9223372036854775807 := by
  have hb := guess_bounds l
  unfold readP at h ⊢
  generalize guessP l = g at *
  dsimp only at h ⊢
  split at h
  · rename_i hc
    rw [if_pos hc]
    dsimp only
    obtain ⟨h1, h2, h3⟩ := hc
    refine ⟨Prod.ext ?_ h2, ?_, hb⟩
    · show (showV g.1 g.2.1 g.2.2.1 g.2.2.2.1).1 = B l
      rw [← B_of (showV g.1 g.2.1 g.2.2.1 g.2.2.2.1).1, ← tl_data, h3]
    · cases hv : validV g.1 g.2.1 g.2.2.1 g.2.2.2.1 with
      | true => rfl
      | false => unfold showV at h2; rw [if_pos hv] at h2; cases h2
  · simp at h
end Go.Proofs.YtpkbhfdfgapmlaaGreatDoor.Pv
end

/-! ## text ExtCl -/
section
/- strings.Clone: a text in bytes of its own. -/
namespace Go.Proofs.YtpkbhfdfgapmlaaGreatDoor.Pr
open Go Go.RowKit Go.Proofs.YtpkbhfdfgapmlaaGreatDoorW.PrintWords Go.Proofs.YtpkbhfdfgapmlaaGreatDoorW.PrintLast Go.Proofs.YtpkbhfdfgapmlaaGreatDoorW.PrintMore
set_option maxRecDepth 100000
set_option linter.unusedVariables false
set_option linter.unusedSimpArgs false
theorem info_u8 : (Tryz.prog.info? 5).map (fun i => (i.zero, i.size, i.bytes)) = some (some (.int .u8 0), 1, 1) := by kernel_rfl
set_option maxHeartbeats 4000000 in
theorem stringslite_Clone (s : ByteArray) (w : World) (hs : s.size ≤ 140737488355328) :
    Calls Tryz.prog 80 #[.string s] w fun e w' => e = .returned (.string s) ∧ Below w.heap.size w w' := by
  by_cases h0 : s.size = 0
  · have e0 : s = ⟨#[]⟩ := by
      cases s with | mk d => have : d.size = 0 := h0; rw [Array.eq_empty_of_size_eq_zero this]
    subst e0
    go_enter Tryz.func80, Tryz.ntmps80
    go_wp2
    go_ret
    exact ⟨rfl, Below.refl _ _⟩
  · obtain ⟨i, hi, hi2⟩ := Option.map_eq_some_iff.1 info_u8
    simp only [Prod.mk.injEq] at hi2
    have hmk : (Instr.makeSlice 71 (.int .i64 (s.size : Int)) (.int .i64 (s.size : Int))).run Tryz.prog w = _ := run_make (P := Tryz.prog) w 71 5 i (.int .u8 0) Tryz.underlying71 hi hi2.1 .i64 .i64 (s.size : Int) (s.size : Int) (by omega) (by omega) (by rw [hi2.2.2]; omega) (by omega)
    rw [Int.toNat_natCast, hi2.2.1, Nat.mul_one] at hmk
    have hsz : (madeCells (Value.cells (.int .u8 0)) s.size).size = s.size := size_madeCells _ _
    generalize madeCells (Value.cells (.int .u8 0)) s.size = C at *
    have he : ((s.size : Int) == 0) = false := beq_eq_false_iff_ne.2 (by omega)
    have HSZ := Aside0.mk hsz
    clear hi hi2 hsz
    go_enter Tryz.func80, Tryz.ntmps80
    go_upto_region 4 with (fail)
    obtain ⟨g, hg⟩ : ∃ g, g = w.heap.size := ⟨_, rfl⟩
    have hh : (w.alloc (.cells C 5)).heap[g]? = some (.cells C 5 (0, 0)) := by rw [hg]; exact blk_new _ _
    have HB1 : Aside0 (Below w.heap.size w (w.alloc (.cells C 5))) := ⟨below_alloc (Below.refl _ _) _⟩
    have HGE : Aside0 (w.heap.size ≤ g) := ⟨by omega⟩
    rw [← hg]
    clear hmk hg
    generalize w.alloc (.cells C 5) = w1 at *
    have hcp := Lib.run_copy_row_string (P := Tryz.prog) w1 71 9 3 5 g 0 s.size s.size s C 5 Tryz.underlying71 (by kernel_rfl) hh (Nat.le_refl _) (by rw [HSZ.out]; omega)
    have e1 : C.toList.take 0 ++ Lib.byteCells s.data.toList ++ C.toList.drop (0 + s.size) = Lib.byteCells s.data.toList := by
      rw [List.take_zero, List.nil_append, List.drop_eq_nil_of_le (by rw [Array.length_toList, HSZ.out]; omega), List.append_nil]
    rw [e1] at hcp
    have hh2 : (w1.setRow g (Lib.byteCells s.data.toList).toArray).heap[g]? = some (.cells (Lib.byteCells s.data.toList).toArray 5 (0, 0)) := setRow_heap w1 g C _ 5 (0, 0) hh
    have HB2 : Aside0 (Below w.heap.size w (w1.setRow g (Lib.byteCells s.data.toList).toArray)) := ⟨by
      have hb := HB1.out
      refine ⟨hb.1, hb.2, hb.3, by rw [setRow_size]; exact hb.size, fun j hj => ?_⟩
      rw [setRow_other w1 g j _ (by have := HGE.out; omega)]
      exact hb.block j hj⟩
    clear e1 hh
    go_upto_region 5 with (fail)
    clear hcp
    generalize w1.setRow g (Lib.byteCells s.data.toList).toArray = w2 at *
    have hlen : s.data.toList.length = s.size := by simp
    have hus := Lib.run_unsafeString_row (P := Tryz.prog) w2 121 3 9 5 Tryz.underlying121 (by kernel_rfl) g s.size (by simp [World.shape?, hh2, Lib.byteCells_length, hlen]) s.data.toList (by intro q; rw [q] at hlen; exact h0 hlen.symm) (by omega) (by omega) (by
      intro j x hj
      have e : ((⟨g, 0, none⟩ : Addr).add j) = ⟨g, j, none⟩ := by simp [Addr.add]; intro h9; omega
      rw [e, blk_cell hh2 j]
      simp [Lib.byteCells, hj])
    rw [hlen] at hus
    have es : (⟨s.data.toList.toArray⟩ : ByteArray) = s := by cases s; rfl
    rw [es] at hus
    have hpos : (0 : Int) < (s.size : Int) := by omega
    clear hlen es hh2 he
    trace_state
    go_wp2
    go_ret
    exact ⟨rfl, Lib.below_freeze HB2.out HGE.out _⟩
end Go.Proofs.YtpkbhfdfgapmlaaGreatDoor.Pr
end

/-! ## text ExtEv1 -/
section
/- The forms of the kinds (csv.formsOf, forms.of), and what stands in them. -/
namespace Go.Proofs.YtpkbhfdfgapmlaaGreatDoor.Pr
open Go Go.RowKit Go.Proofs.YtpkbhfdfgapmlaaGreatDoorW.PrintWords Go.Proofs.YtpkbhfdfgapmlaaGreatDoorW.PrintLast Go.Proofs.YtpkbhfdfgapmlaaGreatDoorW.PrintMore
set_option maxRecDepth 100000
set_option linter.unusedVariables false
set_option linter.unusedSimpArgs false
/-- The table of the forms, cell by cell. -/
def formsC : Array Value := #[.int .i64 1, .func (.func 59) #[] #[], .func (.func 33) #[] #[], .int .i64 2, .func (.func 60) #[] #[], .func (.func 62) #[] #[], .int .i64 3, .func (.func 63) #[] #[], .func (.func 33) #[] #[]]
set_option maxHeartbeats 8000000 in
theorem csv_formsOf (w : World) : Calls Tryz.prog 28 #[] w fun e w' => e = .returned (.agg formsC) ∧ Below w.heap.size w w' := by
  go_enter Tryz.func28, Tryz.ntmps28
  go_wp2
  refine bodyPost_ret (results_cell_row rfl _ _ w.heap.size 80 formsC (0, 0) _ rfl ?hg Tryz.underlying80 rfl (by kernel_rfl)) rfl ?_
  case hg => exact blk_new _ _
  exact ⟨rfl, below_alloc (Below.refl _ _) _⟩
/-- Where the form of a kind lies. -/
def ofP (b : Nat) (kind : Int) : Value := if kind = 1 then .pointer (some ⟨b, 0, none⟩) else if kind = 2 then .pointer (some ⟨b, 3, none⟩) else if kind = 3 then .pointer (some ⟨b, 6, none⟩) else .pointer none
set_option maxHeartbeats 8000000 in
theorem csv_of (b : Nat) (kind : Int) (w : World) (hg : w.heap[b]? = some (.cells formsC 80 (0, 0))) : Calls Tryz.prog 29 #[.pointer (some ⟨b, 0, none⟩), .int .i64 kind] w fun e w' => e = .returned (ofP b kind) ∧ w' = w := by
  have h0 : w.cell? ⟨b, 0, none⟩ = some (.int .i64 1) := blk_cell hg 0
  have h3 : w.cell? ⟨b, 3, none⟩ = some (.int .i64 2) := blk_cell hg 3
  have h6 : w.cell? ⟨b, 6, none⟩ = some (.int .i64 3) := blk_cell hg 6
  have hl := blk_lt hg
  clear hg
  go_enter Tryz.func29, Tryz.ntmps29
  go_wp2
  go_loopg [5, 6] 3 (fun gk v5 v6 wx => ∃ i : Nat, v6 = .int .i64 i ∧ i + gk = 3 ∧ wx = w ∧ (∀ j : Nat, j < i → kind ≠ (j : Int) + 1))
  case atStart => exact ⟨0, rfl, rfl, rfl, fun j hj => by omega⟩
  case round =>
    obtain ⟨i, rfl, hik, rfl, hno⟩ := hrel
    have HNO := Aside0.mk hno
    clear hno
    by_cases hi : i < 3
    · have hd : decide ((i : Int) < 3) = true := decide_eq_true (by omega)
      have hc : wr.cell? ⟨b, i * 3, none⟩ = some (.int .i64 ((i : Int) + 1)) := by
        obtain rfl | rfl | rfl : i = 0 ∨ i = 1 ∨ i = 2 := by omega
        · exact h0
        · exact h3
        · exact h6
      have p1 : 0 ≤ (i : Int) := by omega
      have q1 : (i : Int) < 3 := by omega
      clear h0 h3 h6
      by_cases hk : kind = (i : Int) + 1
      · have hkb : (((i : Int) + 1) == kind) = true := beq_iff_eq.2 hk.symm
        have HK := Aside0.mk hk
        clear hk
        go_wp2
        go_ret
        refine ⟨?_, rfl⟩
        have hk := HK.out
        obtain rfl | rfl | rfl : i = 0 ∨ i = 1 ∨ i = 2 := by omega
        · subst hk; rfl
        · subst hk; rfl
        · subst hk; rfl
      · have hkb : (((i : Int) + 1) == kind) = false := beq_eq_false_iff_ne.2 (fun e => hk e.symm)
        have HK := Aside0.mk hk
        clear hk
        go_wp2
        go_roundg (3 - (i + 1))
        case measure => omega
        case rel => exact ⟨i + 1, rfl, by omega, rfl, fun j hj e => by
          rcases Nat.lt_or_ge j i with h | h
          · exact HNO.out j h e
          · exact HK.out (by rw [e]; omega)⟩
    · have hd : decide ((i : Int) < 3) = false := decide_eq_false (by omega)
      go_wp2
      go_ret
      refine ⟨?_, rfl⟩
      have h1 := HNO.out 0 (by omega)
      have h2 := HNO.out 1 (by omega)
      have h3 := HNO.out 2 (by omega)
      unfold ofP
      rw [if_neg (by omega), if_neg (by omega), if_neg (by omega)]
      rfl
end Go.Proofs.YtpkbhfdfgapmlaaGreatDoor.Pr
end

/-! ## text Prx7 -/
section
namespace Go.Proofs.YtpkbhfdfgapmlaaGreatDoor.Pr
open Go.RowKit Go.Proofs.YtpkbhfdfgapmlaaGreatDoorW.PrintWords Go.Proofs.YtpkbhfdfgapmlaaGreatDoorW.PrintLast Go.Proofs.YtpkbhfdfgapmlaaGreatDoorW.PrintMore
attribute [local go_sem] max2_int min2_int max_two min_two max_three min_three max_four min_four   -- for this text's walks alone
attribute [local go_sem high] Go.Proofs.YtpkbhfdfgapmlaaGreatDoor.isSome_setCell
set_option maxRecDepth 100000
set_option linter.unusedVariables false
set_option linter.unusedSimpArgs false

/-! ### csv_shown: function 26 -/
def csv_shown.f (k : Nat) (a0 : ByteArray) (a1 : Int) : Option (Int × Int × ByteArray × Bool × Bool) := (value_Read.f k a0).bind fun bt179 => (if bt179.2.2.2.2 = 0 then (some (bt179.1, bt179.2.1, bt179.2.2.1, bt179.2.2.2.1, (bt179.1 == a1))) else (some (bt179.1, bt179.2.1, bt179.2.2.1, bt179.2.2.2.1, false)))
set_option maxRecDepth 100000 in
theorem csv_shown.mono : ∀ a0 a1 k, LeO (csv_shown.f k a0 a1) (csv_shown.f (k + 1) a0 a1) := by
  intro a0 a1 k
  unfold csv_shown.f
  repeat' first
      | (with_reducible exact value_Read.mono _ _)
      | (with_reducible exact LeO.refl _)
      | (with_reducible exact LeO.none _)
      | (with_reducible refine LeO.ite ?_ ?_)
      | (with_reducible refine LeO.bind ?_ (fun _ => ?_))
      | exact value_Read.mono _ _
      | exact LeO.none _
      | refine LeO.ite ?_ ?_
      | refine LeO.bind ?_ (fun _ => ?_)
def csv_shown.T2 : Bool × List (List Nat × List Nat) := (true, [([], []), ([], []), ([1], [1]), ([2], [2]), ([3], [3]), ([4, 3], [3, 4]), ([3], [3]), ([5, 6, 3], [3, 5, 6]), ([3, 7], [3, 7]), ([0, 3, 0], [0]), ([8, 9, 0, 1, 2, 3, 4, 5, 6, 7, 8, 9], [8])])
def csv_shown.B2 : List Nat := [0, 0, 2, 6, 14, 30, 14, 126, 254, 15, 1023]
theorem csv_shown.tab2 : rtab .any (opsOf Tryz.f26 2) = csv_shown.T2 := by kernel_rfl
theorem csv_shown.bits2 : waitsOk csv_shown.T2.2 csv_shown.B2 = true := by kernel_rfl
set_option maxHeartbeats 8000000 in
set_option maxRecDepth 100000 in
theorem csv_shown.calls (k : Nat) (a0 : ByteArray) (a1 : Int) (r1 : Int) (r2 : Int) (r3 : ByteArray) (r4 : Bool) (r5 : Bool) (w : World) (HL_LErr : Aside0 (LErr w)) (HL_LG0 : Aside0 (LG0 w)) (HL_LSyn : Aside0 (LSyn w)) (h : csv_shown.f k a0 a1 = some (r1, r2, r3, r4, r5)) :
    Calls Tryz.prog 26 #[.string a0, .int .i64 a1] w fun e w' => e = .returned (.tuple #[.agg #[.int .i64 r1, .int .i64 r2, .string r3, .bool r4], .bool r5]) ∧ Below w.heap.size w w' := by
  have hu43 := Tryz.underlying43
  have HB := Aside0.mk (Below.refl w.heap.size w)
  have H : ((value_Read.f k a0).bind fun bt179 => (if bt179.2.2.2.2 = 0 then (some (bt179.1, bt179.2.1, bt179.2.2.1, bt179.2.2.2.1, (bt179.1 == a1))) else (some (bt179.1, bt179.2.1, bt179.2.2.1, bt179.2.2.2.1, false)))) = some (r1, r2, r3, r4, r5) := h
  clear h
  replace H := Option.bind_eq_some_iff.mp H
  obtain ⟨⟨t179, t180, t181, t182, t183⟩, A30, H⟩ := H
  replace H : (if t183 = 0 then (some (t179, t180, t181, t182, (t179 == a1))) else (some (t179, t180, t181, t182, false))) = some (r1, r2, r3, r4, r5) := H
  have A3 := Aside0.mk A30
  clear A30
  by_cases c4 : t183 = 0
  · rw [if_pos c4] at H
    have c4b0 : (t183 == 0) = true := beq_iff_eq.mpr c4
    have c4b1 : (t183 != 0) = false := bne_eq_false_iff_eq.mpr c4
    clear c4
    simp only [Option.some.injEq, Prod.mk.injEq] at H
    obtain ⟨rfl, rfl, rfl, rfl, rfl⟩ := H
    go_enter Tryz.func26, Tryz.ntmps26
    try go_wp2_with (first | ((with_reducible refine gate_dst (N := 4) rfl ?_); refine box_event ?hg (N := 4) ?hd (cs := #[.int .i64 0, .int .i64 0, .string (⟨#[]⟩ : ByteArray), .bool false]) (t := 43) ?hr ?_; (case hd => rfl); (case hg => rfl); (case hr => first | (go_simp; done) | (go_simp; rfl)); intro gb178 hg w5 hbox hb; have BK178 := Aside0.mk hbox; have GW178 := geA hg HB; have GE178 := geA hg HB; replace HB := bsA HB hb; clear hb hbox hg) | ((with_reducible refine gate_callee (f := 58) rfl ?_); refine goesT (some 10) Tryz.func58 #[.string a0] ?_; (with_reducible refine (value_Read.calls k a0 t179 t180 t181 t182 t183 _ ?side1 ?side2 ?side3 A3.out).mono ?_); (case side1 => first | (with_reducible exact HL_LErr) | exact ⟨LErr.below HL_LErr.out (hbT HB.out)⟩); (case side2 => first | (with_reducible exact HL_LG0) | exact ⟨LG0.below HL_LG0.out (hbT HB.out)⟩); (case side3 => first | (with_reducible exact HL_LSyn) | exact ⟨LSyn.below HL_LSyn.out (hbT HB.out)⟩); rintro e w6 ⟨rfl, hb⟩; refine ⟨_, rfl, ?_⟩; replace BK178 := bbA BK178 hb; replace HB := bsA HB hb; (try clear hb); (try clear hb2); (try clear hk); (try clear hi)) | ((with_reducible refine gate_dst (N := 6) rfl ?_); refine box_event ?hg (N := 6) ?hd (cs := #[.int .i64 0, .int .i64 0, .string (⟨#[]⟩ : ByteArray), .bool false]) (t := 43) ?hr ?_; (case hd => rfl); (case hg => rfl); (case hr => first | (go_simp; done) | (go_simp; rfl)); intro gb184 hg w7 hbox hb; have BK184 := Aside0.mk hbox; have GW184 := geA hg HB; have GE184 := geA hg HB; have NB178_184 := neA hg BK178; have NB184_178 := neB hg BK178; replace BK178 := bbA BK178 hb; replace HB := bsA HB hb; clear hb hbox hg; have hnb8 := NB184_178.out; have hnc8 := NB178_184.out; have hcz9_0 : w7.cell? ⟨gb184, 0, none⟩ = some (.int .i64 0) := (blk_cell BK184.out 0).trans rfl; have hcz9_1 : w7.cell? ⟨gb184, 1, none⟩ = some (.int .i64 0) := (blk_cell BK184.out 1).trans rfl; have hcz9_2 : w7.cell? ⟨gb184, 2, none⟩ = some (.string (⟨#[]⟩ : ByteArray)) := (blk_cell BK184.out 2).trans rfl; have hcz9_3 : w7.cell? ⟨gb184, 3, none⟩ = some (.bool false) := (blk_cell BK184.out 3).trans rfl; have hfz9_0 := blk_frozen BK184.out 0; have hfz9_1 := blk_frozen BK184.out 1; have hfz9_2 := blk_frozen BK184.out 2; have hfz9_3 := blk_frozen BK184.out 3))
    have n0_ : Aside0 (((((w7.setCell ⟨gb184, 0, none⟩ (.int .i64 t179)).setCell ⟨gb184, 1, none⟩ (.int .i64 t180)).setCell ⟨gb184, 2, none⟩ (.string t181)).setCell ⟨gb184, 3, none⟩ (.bool t182)).heap[gb178]? = some (.cells #[.int .i64 0, .int .i64 0, .string (⟨#[]⟩ : ByteArray), .bool false] 43 (0, 0))) := ⟨bfT NB178_184.out BK178.out⟩
    have n1_ : Aside0 (((((w7.setCell ⟨gb184, 0, none⟩ (.int .i64 t179)).setCell ⟨gb184, 1, none⟩ (.int .i64 t180)).setCell ⟨gb184, 2, none⟩ (.string t181)).setCell ⟨gb184, 3, none⟩ (.bool t182)).heap[gb184]? = some (.cells #[.int .i64 t179, .int .i64 t180, .string t181, .bool t182] 43 (0, 0))) := ⟨by (with_reducible repeat (first | refine blk_drewN ?_ _ | refine blk_drew ?_ | refine blk_alloc ?_ _)); refine blk_put (cs := #[.int .i64 t179, .int .i64 t180, .string t181, .bool false]) ?_ 3 _ rfl; (with_reducible repeat (first | refine blk_drewN ?_ _ | refine blk_drew ?_ | refine blk_alloc ?_ _)); refine blk_put (cs := #[.int .i64 t179, .int .i64 t180, .string (⟨#[]⟩ : ByteArray), .bool false]) ?_ 2 _ rfl; (with_reducible repeat (first | refine blk_drewN ?_ _ | refine blk_drew ?_ | refine blk_alloc ?_ _)); refine blk_put (cs := #[.int .i64 t179, .int .i64 0, .string (⟨#[]⟩ : ByteArray), .bool false]) ?_ 1 _ rfl; (with_reducible repeat (first | refine blk_drewN ?_ _ | refine blk_drew ?_ | refine blk_alloc ?_ _)); refine blk_put (cs := #[.int .i64 0, .int .i64 0, .string (⟨#[]⟩ : ByteArray), .bool false]) ?_ 0 _ rfl; (with_reducible repeat (first | refine blk_drewN ?_ _ | refine blk_drew ?_ | refine blk_alloc ?_ _)); exact BK184.out⟩
    have n2_ : Aside0 (Below w.heap.size w ((((w7.setCell ⟨gb184, 0, none⟩ (.int .i64 t179)).setCell ⟨gb184, 1, none⟩ (.int .i64 t180)).setCell ⟨gb184, 2, none⟩ (.string t181)).setCell ⟨gb184, 3, none⟩ (.bool t182))) := ⟨hbT HB.out⟩
    (try clear BK178)
    (try clear BK184)
    (try clear HB)
    generalize ((((w7.setCell ⟨gb184, 0, none⟩ (.int .i64 t179)).setCell ⟨gb184, 1, none⟩ (.int .i64 t180)).setCell ⟨gb184, 2, none⟩ (.string t181)).setCell ⟨gb184, 3, none⟩ (.bool t182)) = w10 at n0_ n1_ n2_ ⊢
    have BK178 := n0_
    have BK184 := n1_
    have HB := n2_
    clear n0_ n1_ n2_
    replace BK178 := bdA BK178; replace BK184 := bdA BK184; replace HB := Aside0.mk (below_drew1 HB.out)
    refine start_ (n := 11) (S := fun w' => w'.cell? ⟨gb184, 0, none⟩ = some (.int .i64 t179) ∧ w'.cell? ⟨gb184, 1, none⟩ = some (.int .i64 t180) ∧ w'.cell? ⟨gb184, 2, none⟩ = some (.string t181) ∧ w'.cell? ⟨gb184, 3, none⟩ = some (.bool t182)) (ds := []) #[false, false, false, false, false, false, false, false, false, false, false] (by kernel_rfl) rfl rfl ⟨(blk_cell BK184.out 0).trans rfl, (blk_cell BK184.out 1).trans rfl, (blk_cell BK184.out 2).trans rfl, (blk_cell BK184.out 3).trans rfl⟩ (fun hHeld => ?_); refine with_tabW csv_shown.tab2 csv_shown.bits2 (fun HT_ HW_ => ?_)
    generalize w10.drew = w11 at BK178 BK184 HB hHeld ⊢
    refine pure_ (i := 1) (N := some 14) (v := ?_) (a' := ?_) #[false, true, false, false, false, false, false, false, false, false, false] rfl rfl (any_of HT_.out (by kernel_rfl)) (fun _ _ _ h => h) (Or.inl ⟨by rfl, ?_⟩) ?_ ?_
    rotate_left; (focus (intro w'; go_simp; with_reducible rfl)); rotate_left; (focus (simp only [Act.put, List.setIfInBounds_toArray, List.set_cons_zero, List.set_cons_succ, i64_w, i32_w, IntKind.wrap_u8, IntKind.wrap_u16, IntKind.wrap_u32]; rfl))
    refine pure_ (i := 2) (N := some 15) (v := ?_) (a' := ?_) #[false, true, true, false, false, false, false, false, false, false, false] rfl rfl (any_of HT_.out (by kernel_rfl)) (fun _ _ _ h => h) (Or.inl ⟨by rfl, ?_⟩) ?_ ?_
    rotate_left; (focus (intro w'; go_simp; with_reducible rfl)); rotate_left; (focus (simp only [Act.put, List.setIfInBounds_toArray, List.set_cons_zero, List.set_cons_succ, i64_w, i32_w, IntKind.wrap_u8, IntKind.wrap_u16, IntKind.wrap_u32]; rfl))
    refine pure_ (i := 3) (N := some 16) (v := ?_) (a' := ?_) #[false, true, true, true, false, false, false, false, false, false, false] rfl rfl (any_of HT_.out (by kernel_rfl)) (fun _ _ _ h => h) (Or.inl ⟨by rfl, ?_⟩) ?_ ?_
    rotate_left; (focus (intro w'; go_simp; with_reducible rfl)); rotate_left; (focus (simp only [Act.put, List.setIfInBounds_toArray, List.set_cons_zero, List.set_cons_succ, i64_w, i32_w, IntKind.wrap_u8, IntKind.wrap_u16, IntKind.wrap_u32]; rfl))
    refine pure_ (i := 4) (N := some 17) (v := ?_) (a' := ?_) #[false, true, true, true, true, false, false, false, false, false, false] rfl rfl (any_of HT_.out (by kernel_rfl)) (fun _ _ _ h => h) (Or.inl ⟨by rfl, ?_⟩) ?_ ?_
    rotate_left; (focus (intro w'; go_simp; with_reducible rfl)); rotate_left; (focus (simp only [Act.put, List.setIfInBounds_toArray, List.set_cons_zero, List.set_cons_succ, i64_w, i32_w, IntKind.wrap_u8, IntKind.wrap_u16, IntKind.wrap_u32]; rfl))
    refine pure_ (i := 6) (N := some 19) (v := ?_) (a' := ?_) #[false, true, true, true, true, false, true, false, false, false, false] rfl rfl (any_of HT_.out (by kernel_rfl)) (fun _ _ _ h => h) (Or.inl ⟨by rfl, ?_⟩) ?_ ?_
    rotate_left; (focus (intro w'; go_simp; with_reducible rfl)); rotate_left; (focus (simp only [Act.put, List.setIfInBounds_toArray, List.set_cons_zero, List.set_cons_succ, i64_w, i32_w, IntKind.wrap_u8, IntKind.wrap_u16, IntKind.wrap_u32]; rfl))
    refine take_ (i := 0) (N := some 13) (v := ?_) (a' := ?_) #[true, true, true, true, true, false, true, false, false, false, false] rfl rfl (take_ofW HT_.out HW_.out (by kernel_rfl)) (fun _ _ _ h => h) (Or.inl ⟨by rfl, ?_⟩) hHeld ?_ ?_
    rotate_left; (focus (rintro w' ⟨s0, s1, s2, s3⟩; go_simp; with_reducible rfl)); rotate_left; (focus (simp only [Act.put, List.setIfInBounds_toArray, List.set_cons_zero, List.set_cons_succ, i64_w, i32_w, IntKind.wrap_u8, IntKind.wrap_u16, IntKind.wrap_u32]; rfl))
    refine take_ (i := 5) (N := some 18) (v := ?_) (a' := ?_) #[true, true, true, true, true, true, true, false, false, false, false] rfl rfl (take_ofW HT_.out HW_.out (by kernel_rfl)) (fun _ _ _ h => h) (Or.inl ⟨by rfl, ?_⟩) hHeld ?_ ?_
    rotate_left; (focus (rintro w' ⟨s0, s1, s2, s3⟩; go_simp; with_reducible rfl)); rotate_left; (focus (simp only [Act.put, List.setIfInBounds_toArray, List.set_cons_zero, List.set_cons_succ, i64_w, i32_w, IntKind.wrap_u8, IntKind.wrap_u16, IntKind.wrap_u32]; rfl))
    refine pure_ (i := 7) (N := some 20) (v := ?_) (a' := ?_) #[true, true, true, true, true, true, true, true, false, false, false] rfl rfl (any_of HT_.out (by kernel_rfl)) (fun _ _ _ h => h) (Or.inl ⟨by rfl, ?_⟩) ?_ ?_
    rotate_left; (focus (intro w'; go_simp; with_reducible rfl)); rotate_left; (focus (simp only [Act.put, List.setIfInBounds_toArray, List.set_cons_zero, List.set_cons_succ, i64_w, i32_w, IntKind.wrap_u8, IntKind.wrap_u16, IntKind.wrap_u32]; rfl))
    refine pure_ (i := 8) (N := some 21) (v := ?_) (a' := ?_) #[true, true, true, true, true, true, true, true, true, false, false] rfl rfl (any_of HT_.out (by kernel_rfl)) (fun _ _ _ h => h) (Or.inl ⟨by rfl, ?_⟩) ?_ ?_
    rotate_left; (focus (intro w'; go_simp; with_reducible rfl)); rotate_left; (focus (simp only [Act.put, List.setIfInBounds_toArray, List.set_cons_zero, List.set_cons_succ, i64_w, i32_w, IntKind.wrap_u8, IntKind.wrap_u16, IntKind.wrap_u32]; rfl))
    refine one_ (i := 9) (N := none) #[true, true, true, true, true, true, true, true, true, true, false] rfl rfl (one_of HT_.out (by kernel_rfl)) (by decide) (fun K hK => ?_)
    have hs12 : w11.cell? ⟨gb178, 0, none⟩ = some (.int .i64 0) := (blk_cell BK178.out 0).trans rfl
    have hfs12 := blk_frozen BK178.out 0; have hns12_1 := NB184_178.out; have hms12_1 := NB178_184.out
    have hs13 : w11.cell? ⟨gb178, 1, none⟩ = some (.int .i64 0) := (blk_cell BK178.out 1).trans rfl
    have hfs13 := blk_frozen BK178.out 1; have hns13_1 := NB184_178.out; have hms13_1 := NB178_184.out
    have hs14 : w11.cell? ⟨gb178, 2, none⟩ = some (.string (⟨#[]⟩ : ByteArray)) := (blk_cell BK178.out 2).trans rfl
    have hfs14 := blk_frozen BK178.out 2; have hns14_1 := NB184_178.out; have hms14_1 := NB178_184.out
    have hs15 : w11.cell? ⟨gb178, 3, none⟩ = some (.bool false) := (blk_cell BK178.out 3).trans rfl
    have hfs15 := blk_frozen BK178.out 3; have hns15_1 := NB184_178.out; have hms15_1 := NB178_184.out
    refine skip_ (w1 := ?_) (by rfl) rfl ?_ ?_
    rotate_left
    · go_simp
      rfl
    refine hK.out _ _ ⟨(cfT NB184_178.out (hHeld.1)), (cfT NB184_178.out (hHeld.2.1)), (cfT NB184_178.out (hHeld.2.2.1)), (cfT NB184_178.out (hHeld.2.2.2))⟩ (fun hHeld => ?_)
    clear hK K
    refine pure_ (i := 10) (N := some 5) (v := ?_) (a' := ?_) #[true, true, true, true, true, true, true, true, true, true, true] rfl rfl (any_of HT_.out (by kernel_rfl)) (fun _ _ _ h => h) (Or.inl ⟨by rfl, ?_⟩) ?_ ?_
    rotate_left; (focus (intro w'; go_simp; with_reducible rfl)); rotate_left; (focus (simp only [Act.put, List.setIfInBounds_toArray, List.set_cons_zero, List.set_cons_succ, i64_w, i32_w, IntKind.wrap_u8, IntKind.wrap_u16, IntKind.wrap_u32]; rfl))
    refine done_ (done_of HT_.out (by kernel_rfl)) ?_
    try go_wp2
    refine bodyPost_ret (results_ct rfl _ _ gb178 43 #[.int .i64 t179, .int .i64 t180, .string t181, .bool t182] (0, 0) _ rfl (by (with_reducible repeat (first | refine blk_drewN ?_ _ | refine blk_drew ?_ | refine blk_alloc ?_ _)); refine blk_put (cs := #[.int .i64 t179, .int .i64 t180, .string t181, .bool false]) ?_ 3 _ rfl; (with_reducible repeat (first | refine blk_drewN ?_ _ | refine blk_drew ?_ | refine blk_alloc ?_ _)); refine blk_put (cs := #[.int .i64 t179, .int .i64 t180, .string (⟨#[]⟩ : ByteArray), .bool false]) ?_ 2 _ rfl; (with_reducible repeat (first | refine blk_drewN ?_ _ | refine blk_drew ?_ | refine blk_alloc ?_ _)); refine blk_put (cs := #[.int .i64 t179, .int .i64 0, .string (⟨#[]⟩ : ByteArray), .bool false]) ?_ 1 _ rfl; (with_reducible repeat (first | refine blk_drewN ?_ _ | refine blk_drew ?_ | refine blk_alloc ?_ _)); refine blk_put (cs := #[.int .i64 0, .int .i64 0, .string (⟨#[]⟩ : ByteArray), .bool false]) ?_ 0 _ rfl; (with_reducible repeat (first | refine blk_drewN ?_ _ | refine blk_drew ?_ | refine blk_alloc ?_ _)); exact BK178.out) Tryz.underlying43 rfl (by kernel_rfl)) rfl ?_
    exact ⟨by first | rfl | (simp [errW_none, errW_some] <;> rfl) | (simp [*, errW_none, errW_some] <;> rfl), hbT HB.out⟩
  · rw [if_neg c4] at H
    have c4b0 : (t183 == 0) = false := beq_eq_false_iff_ne.mpr c4
    have c4b1 : (t183 != 0) = true := bne_iff_ne.mpr c4
    simp only [Option.some.injEq, Prod.mk.injEq] at H
    obtain ⟨rfl, rfl, rfl, rfl, rfl⟩ := H
    go_enter Tryz.func26, Tryz.ntmps26
    try go_wp2_with (first | ((with_reducible refine gate_dst (N := 4) rfl ?_); refine box_event ?hg (N := 4) ?hd (cs := #[.int .i64 0, .int .i64 0, .string (⟨#[]⟩ : ByteArray), .bool false]) (t := 43) ?hr ?_; (case hd => rfl); (case hg => rfl); (case hr => first | (go_simp; done) | (go_simp; rfl)); intro gb178 hg w16 hbox hb; have BK178 := Aside0.mk hbox; have GW178 := geA hg HB; have GE178 := geA hg HB; replace HB := bsA HB hb; clear hb hbox hg) | ((with_reducible refine gate_callee (f := 58) rfl ?_); refine goesT (some 10) Tryz.func58 #[.string a0] ?_; (with_reducible refine (value_Read.calls k a0 t179 t180 t181 t182 t183 _ ?side1 ?side2 ?side3 A3.out).mono ?_); (case side1 => first | (with_reducible exact HL_LErr) | exact ⟨LErr.below HL_LErr.out (hbT HB.out)⟩); (case side2 => first | (with_reducible exact HL_LG0) | exact ⟨LG0.below HL_LG0.out (hbT HB.out)⟩); (case side3 => first | (with_reducible exact HL_LSyn) | exact ⟨LSyn.below HL_LSyn.out (hbT HB.out)⟩); rintro e w17 ⟨rfl, hb⟩; refine ⟨_, rfl, ?_⟩; replace BK178 := bbA BK178 hb; replace HB := bsA HB hb; (try clear hb); (try clear hb2); (try clear hk); (try clear hi)) | ((with_reducible refine gate_dst (N := 6) rfl ?_); refine box_event ?hg (N := 6) ?hd (cs := #[.int .i64 0, .int .i64 0, .string (⟨#[]⟩ : ByteArray), .bool false]) (t := 43) ?hr ?_; (case hd => rfl); (case hg => rfl); (case hr => first | (go_simp; done) | (go_simp; rfl)); intro gb184 hg w18 hbox hb; have BK184 := Aside0.mk hbox; have GW184 := geA hg HB; have GE184 := geA hg HB; have NB178_184 := neA hg BK178; have NB184_178 := neB hg BK178; replace BK178 := bbA BK178 hb; replace HB := bsA HB hb; clear hb hbox hg; have hnb19 := NB184_178.out; have hnc19 := NB178_184.out; have hcz20_0 : w18.cell? ⟨gb184, 0, none⟩ = some (.int .i64 0) := (blk_cell BK184.out 0).trans rfl; have hcz20_1 : w18.cell? ⟨gb184, 1, none⟩ = some (.int .i64 0) := (blk_cell BK184.out 1).trans rfl; have hcz20_2 : w18.cell? ⟨gb184, 2, none⟩ = some (.string (⟨#[]⟩ : ByteArray)) := (blk_cell BK184.out 2).trans rfl; have hcz20_3 : w18.cell? ⟨gb184, 3, none⟩ = some (.bool false) := (blk_cell BK184.out 3).trans rfl; have hfz20_0 := blk_frozen BK184.out 0; have hfz20_1 := blk_frozen BK184.out 1; have hfz20_2 := blk_frozen BK184.out 2; have hfz20_3 := blk_frozen BK184.out 3))
    have n0_ : Aside0 (((((w18.setCell ⟨gb184, 0, none⟩ (.int .i64 t179)).setCell ⟨gb184, 1, none⟩ (.int .i64 t180)).setCell ⟨gb184, 2, none⟩ (.string t181)).setCell ⟨gb184, 3, none⟩ (.bool t182)).heap[gb178]? = some (.cells #[.int .i64 0, .int .i64 0, .string (⟨#[]⟩ : ByteArray), .bool false] 43 (0, 0))) := ⟨bfT NB178_184.out BK178.out⟩
    have n1_ : Aside0 (((((w18.setCell ⟨gb184, 0, none⟩ (.int .i64 t179)).setCell ⟨gb184, 1, none⟩ (.int .i64 t180)).setCell ⟨gb184, 2, none⟩ (.string t181)).setCell ⟨gb184, 3, none⟩ (.bool t182)).heap[gb184]? = some (.cells #[.int .i64 t179, .int .i64 t180, .string t181, .bool t182] 43 (0, 0))) := ⟨by (with_reducible repeat (first | refine blk_drewN ?_ _ | refine blk_drew ?_ | refine blk_alloc ?_ _)); refine blk_put (cs := #[.int .i64 t179, .int .i64 t180, .string t181, .bool false]) ?_ 3 _ rfl; (with_reducible repeat (first | refine blk_drewN ?_ _ | refine blk_drew ?_ | refine blk_alloc ?_ _)); refine blk_put (cs := #[.int .i64 t179, .int .i64 t180, .string (⟨#[]⟩ : ByteArray), .bool false]) ?_ 2 _ rfl; (with_reducible repeat (first | refine blk_drewN ?_ _ | refine blk_drew ?_ | refine blk_alloc ?_ _)); refine blk_put (cs := #[.int .i64 t179, .int .i64 0, .string (⟨#[]⟩ : ByteArray), .bool false]) ?_ 1 _ rfl; (with_reducible repeat (first | refine blk_drewN ?_ _ | refine blk_drew ?_ | refine blk_alloc ?_ _)); refine blk_put (cs := #[.int .i64 0, .int .i64 0, .string (⟨#[]⟩ : ByteArray), .bool false]) ?_ 0 _ rfl; (with_reducible repeat (first | refine blk_drewN ?_ _ | refine blk_drew ?_ | refine blk_alloc ?_ _)); exact BK184.out⟩
    have n2_ : Aside0 (Below w.heap.size w ((((w18.setCell ⟨gb184, 0, none⟩ (.int .i64 t179)).setCell ⟨gb184, 1, none⟩ (.int .i64 t180)).setCell ⟨gb184, 2, none⟩ (.string t181)).setCell ⟨gb184, 3, none⟩ (.bool t182))) := ⟨hbT HB.out⟩
    (try clear BK178)
    (try clear BK184)
    (try clear HB)
    generalize ((((w18.setCell ⟨gb184, 0, none⟩ (.int .i64 t179)).setCell ⟨gb184, 1, none⟩ (.int .i64 t180)).setCell ⟨gb184, 2, none⟩ (.string t181)).setCell ⟨gb184, 3, none⟩ (.bool t182)) = w21 at n0_ n1_ n2_ ⊢
    have BK178 := n0_
    have BK184 := n1_
    have HB := n2_
    clear n0_ n1_ n2_
    replace BK178 := bdA BK178; replace BK184 := bdA BK184; replace HB := Aside0.mk (below_drew1 HB.out)
    refine start_ (n := 11) (S := fun w' => w'.cell? ⟨gb184, 0, none⟩ = some (.int .i64 t179) ∧ w'.cell? ⟨gb184, 1, none⟩ = some (.int .i64 t180) ∧ w'.cell? ⟨gb184, 2, none⟩ = some (.string t181) ∧ w'.cell? ⟨gb184, 3, none⟩ = some (.bool t182)) (ds := []) #[false, false, false, false, false, false, false, false, false, false, false] (by kernel_rfl) rfl rfl ⟨(blk_cell BK184.out 0).trans rfl, (blk_cell BK184.out 1).trans rfl, (blk_cell BK184.out 2).trans rfl, (blk_cell BK184.out 3).trans rfl⟩ (fun hHeld => ?_); refine with_tabW csv_shown.tab2 csv_shown.bits2 (fun HT_ HW_ => ?_)
    generalize w21.drew = w22 at BK178 BK184 HB hHeld ⊢
    refine pure_ (i := 1) (N := some 14) (v := ?_) (a' := ?_) #[false, true, false, false, false, false, false, false, false, false, false] rfl rfl (any_of HT_.out (by kernel_rfl)) (fun _ _ _ h => h) (Or.inl ⟨by rfl, ?_⟩) ?_ ?_
    rotate_left; (focus (intro w'; go_simp; with_reducible rfl)); rotate_left; (focus (simp only [Act.put, List.setIfInBounds_toArray, List.set_cons_zero, List.set_cons_succ, i64_w, i32_w, IntKind.wrap_u8, IntKind.wrap_u16, IntKind.wrap_u32]; rfl))
    refine pure_ (i := 2) (N := some 15) (v := ?_) (a' := ?_) #[false, true, true, false, false, false, false, false, false, false, false] rfl rfl (any_of HT_.out (by kernel_rfl)) (fun _ _ _ h => h) (Or.inl ⟨by rfl, ?_⟩) ?_ ?_
    rotate_left; (focus (intro w'; go_simp; with_reducible rfl)); rotate_left; (focus (simp only [Act.put, List.setIfInBounds_toArray, List.set_cons_zero, List.set_cons_succ, i64_w, i32_w, IntKind.wrap_u8, IntKind.wrap_u16, IntKind.wrap_u32]; rfl))
    refine pure_ (i := 3) (N := some 16) (v := ?_) (a' := ?_) #[false, true, true, true, false, false, false, false, false, false, false] rfl rfl (any_of HT_.out (by kernel_rfl)) (fun _ _ _ h => h) (Or.inl ⟨by rfl, ?_⟩) ?_ ?_
    rotate_left; (focus (intro w'; go_simp; with_reducible rfl)); rotate_left; (focus (simp only [Act.put, List.setIfInBounds_toArray, List.set_cons_zero, List.set_cons_succ, i64_w, i32_w, IntKind.wrap_u8, IntKind.wrap_u16, IntKind.wrap_u32]; rfl))
    refine pure_ (i := 4) (N := some 17) (v := undef) (a' := ?_) #[false, true, true, true, true, false, false, false, false, false, false] rfl rfl (any_of HT_.out (by kernel_rfl)) (fun _ _ _ h => h) (Or.inr ⟨by rfl, rfl⟩) ?_ ?_
    rotate_left
    · simp only [Act.put, List.setIfInBounds_toArray, List.set_cons_zero, List.set_cons_succ, i64_w, i32_w, IntKind.wrap_u8, IntKind.wrap_u16, IntKind.wrap_u32]
      rfl
    refine pure_ (i := 5) (N := some 18) (v := undef) (a' := ?_) #[false, true, true, true, true, true, false, false, false, false, false] rfl rfl (any_of HT_.out (by kernel_rfl)) (fun _ _ _ h => h) (Or.inr ⟨by rfl, rfl⟩) ?_ ?_
    rotate_left
    · simp only [Act.put, List.setIfInBounds_toArray, List.set_cons_zero, List.set_cons_succ, i64_w, i32_w, IntKind.wrap_u8, IntKind.wrap_u16, IntKind.wrap_u32]
      rfl
    refine pure_ (i := 6) (N := some 19) (v := undef) (a' := ?_) #[false, true, true, true, true, true, true, false, false, false, false] rfl rfl (any_of HT_.out (by kernel_rfl)) (fun _ _ _ h => h) (Or.inr ⟨by rfl, rfl⟩) ?_ ?_
    rotate_left
    · simp only [Act.put, List.setIfInBounds_toArray, List.set_cons_zero, List.set_cons_succ, i64_w, i32_w, IntKind.wrap_u8, IntKind.wrap_u16, IntKind.wrap_u32]
      rfl
    refine pure_ (i := 7) (N := some 20) (v := undef) (a' := ?_) #[false, true, true, true, true, true, true, true, false, false, false] rfl rfl (any_of HT_.out (by kernel_rfl)) (fun _ _ _ h => h) (Or.inr ⟨by rfl, rfl⟩) ?_ ?_
    rotate_left
    · simp only [Act.put, List.setIfInBounds_toArray, List.set_cons_zero, List.set_cons_succ, i64_w, i32_w, IntKind.wrap_u8, IntKind.wrap_u16, IntKind.wrap_u32]
      rfl
    refine pure_ (i := 8) (N := some 21) (v := ?_) (a' := ?_) #[false, true, true, true, true, true, true, true, true, false, false] rfl rfl (any_of HT_.out (by kernel_rfl)) (fun _ _ _ h => h) (Or.inl ⟨by rfl, ?_⟩) ?_ ?_
    rotate_left; (focus (intro w'; go_simp; with_reducible rfl)); rotate_left; (focus (simp only [Act.put, List.setIfInBounds_toArray, List.set_cons_zero, List.set_cons_succ, i64_w, i32_w, IntKind.wrap_u8, IntKind.wrap_u16, IntKind.wrap_u32]; rfl))
    refine take_ (i := 0) (N := some 13) (v := ?_) (a' := ?_) #[true, true, true, true, true, true, true, true, true, false, false] rfl rfl (take_ofW HT_.out HW_.out (by kernel_rfl)) (fun _ _ _ h => h) (Or.inl ⟨by rfl, ?_⟩) hHeld ?_ ?_
    rotate_left; (focus (rintro w' ⟨s0, s1, s2, s3⟩; go_simp; with_reducible rfl)); rotate_left; (focus (simp only [Act.put, List.setIfInBounds_toArray, List.set_cons_zero, List.set_cons_succ, i64_w, i32_w, IntKind.wrap_u8, IntKind.wrap_u16, IntKind.wrap_u32]; rfl))
    refine one_ (i := 9) (N := none) #[true, true, true, true, true, true, true, true, true, true, false] rfl rfl (one_of HT_.out (by kernel_rfl)) (by decide) (fun K hK => ?_)
    have hs23 : w22.cell? ⟨gb178, 0, none⟩ = some (.int .i64 0) := (blk_cell BK178.out 0).trans rfl
    have hfs23 := blk_frozen BK178.out 0; have hns23_1 := NB184_178.out; have hms23_1 := NB178_184.out
    have hs24 : w22.cell? ⟨gb178, 1, none⟩ = some (.int .i64 0) := (blk_cell BK178.out 1).trans rfl
    have hfs24 := blk_frozen BK178.out 1; have hns24_1 := NB184_178.out; have hms24_1 := NB178_184.out
    have hs25 : w22.cell? ⟨gb178, 2, none⟩ = some (.string (⟨#[]⟩ : ByteArray)) := (blk_cell BK178.out 2).trans rfl
    have hfs25 := blk_frozen BK178.out 2; have hns25_1 := NB184_178.out; have hms25_1 := NB178_184.out
    have hs26 : w22.cell? ⟨gb178, 3, none⟩ = some (.bool false) := (blk_cell BK178.out 3).trans rfl
    have hfs26 := blk_frozen BK178.out 3; have hns26_1 := NB184_178.out; have hms26_1 := NB178_184.out
    refine skip_ (w1 := ?_) (by rfl) rfl ?_ ?_
    rotate_left
    · go_simp
      rfl
    refine hK.out _ _ ⟨(cfT NB184_178.out (hHeld.1)), (cfT NB184_178.out (hHeld.2.1)), (cfT NB184_178.out (hHeld.2.2.1)), (cfT NB184_178.out (hHeld.2.2.2))⟩ (fun hHeld => ?_)
    clear hK K
    refine pure_ (i := 10) (N := some 5) (v := ?_) (a' := ?_) #[true, true, true, true, true, true, true, true, true, true, true] rfl rfl (any_of HT_.out (by kernel_rfl)) (fun _ _ _ h => h) (Or.inl ⟨by rfl, ?_⟩) ?_ ?_
    rotate_left; (focus (intro w'; go_simp; with_reducible rfl)); rotate_left; (focus (simp only [Act.put, List.setIfInBounds_toArray, List.set_cons_zero, List.set_cons_succ, i64_w, i32_w, IntKind.wrap_u8, IntKind.wrap_u16, IntKind.wrap_u32]; rfl))
    refine done_ (done_of HT_.out (by kernel_rfl)) ?_
    try go_wp2
    refine bodyPost_ret (results_ct rfl _ _ gb178 43 #[.int .i64 t179, .int .i64 t180, .string t181, .bool t182] (0, 0) _ rfl (by (with_reducible repeat (first | refine blk_drewN ?_ _ | refine blk_drew ?_ | refine blk_alloc ?_ _)); refine blk_put (cs := #[.int .i64 t179, .int .i64 t180, .string t181, .bool false]) ?_ 3 _ rfl; (with_reducible repeat (first | refine blk_drewN ?_ _ | refine blk_drew ?_ | refine blk_alloc ?_ _)); refine blk_put (cs := #[.int .i64 t179, .int .i64 t180, .string (⟨#[]⟩ : ByteArray), .bool false]) ?_ 2 _ rfl; (with_reducible repeat (first | refine blk_drewN ?_ _ | refine blk_drew ?_ | refine blk_alloc ?_ _)); refine blk_put (cs := #[.int .i64 t179, .int .i64 0, .string (⟨#[]⟩ : ByteArray), .bool false]) ?_ 1 _ rfl; (with_reducible repeat (first | refine blk_drewN ?_ _ | refine blk_drew ?_ | refine blk_alloc ?_ _)); refine blk_put (cs := #[.int .i64 0, .int .i64 0, .string (⟨#[]⟩ : ByteArray), .bool false]) ?_ 0 _ rfl; (with_reducible repeat (first | refine blk_drewN ?_ _ | refine blk_drew ?_ | refine blk_alloc ?_ _)); exact BK178.out) Tryz.underlying43 rfl (by kernel_rfl)) rfl ?_
    exact ⟨by first | rfl | (simp [errW_none, errW_some] <;> rfl) | (simp [*, errW_none, errW_some] <;> rfl), hbT HB.out⟩

/-! ### csv_timely: function 27 -/
def csv_timely.f (a0 : Int) : Option (Bool) := if a0 ≥ 0 then (some (decide (a0 ≤ 4611686018427387904))) else (some false)
set_option maxHeartbeats 8000000 in
set_option maxRecDepth 100000 in
theorem csv_timely.calls (a0 : Int) (r : Bool) (w : World) (h : csv_timely.f a0 = some r) :
    Calls Tryz.prog 27 #[.int .i64 a0] w fun e w' => e = .returned (.bool r) ∧ Drawn0 w w' := by
  have H : (if a0 ≥ 0 then (some (decide (a0 ≤ 4611686018427387904))) else (some false)) = some r := h
  clear h
  by_cases c2 : a0 ≥ 0
  · rw [if_pos c2] at H
    have c2b0 : decide (0 ≤ a0) = true := decide_eq_true c2
    clear c2
    obtain rfl := Option.some.inj H
    go_enter Tryz.func27, Tryz.ntmps27
    go_wp2
    go_ret
    exact ⟨by first | rfl | (simp; done) | (simp [*]; done) | (simp; unfold wrap64; omega) | (congr 1; (try rw [Bool.eq_iff_iff]); simp [List.isEmpty_iff]; done), by repeat (first | exact Drawn0.refl _ | apply Drawn0.step)⟩
  · rw [if_neg c2] at H
    have c2b0 : decide (0 ≤ a0) = false := decide_eq_false c2
    clear c2
    obtain rfl := Option.some.inj H
    go_enter Tryz.func27, Tryz.ntmps27
    go_wp2
    go_ret
    exact ⟨by first | rfl | (simp; done) | (simp [*]; done) | (simp; unfold wrap64; omega) | (congr 1; (try rw [Bool.eq_iff_iff]); simp [List.isEmpty_iff]; done), by repeat (first | exact Drawn0.refl _ | apply Drawn0.step)⟩

/-! ### csv_show: function 33 -/
def csv_show.f (a0_0 : Int) (a0_1 : Int) (a0_2 : ByteArray) (a0_3 : Bool) : Option (ByteArray) := (value_Show.f a0_0 a0_1 a0_2 a0_3).bind fun bt186 => (some bt186.1)
set_option maxHeartbeats 8000000 in
set_option maxRecDepth 100000 in
theorem csv_show.calls (a0_0 : Int) (a0_1 : Int) (a0_2 : ByteArray) (a0_3 : Bool) (r : ByteArray) (w : World) (HL_LG0 : Aside0 (LG0 w)) (h : csv_show.f a0_0 a0_1 a0_2 a0_3 = some r) :
    Calls Tryz.prog 33 #[.agg #[.int .i64 a0_0, .int .i64 a0_1, .string a0_2, .bool a0_3]] w fun e w' => e = .returned (.string r) ∧ Below w.heap.size w w' := by
  have hu43 := Tryz.underlying43
  have HB := Aside0.mk (Below.refl w.heap.size w)
  have H : ((value_Show.f a0_0 a0_1 a0_2 a0_3).bind fun bt186 => (some bt186.1)) = some r := h
  clear h
  replace H := Option.bind_eq_some_iff.mp H
  obtain ⟨⟨t186, t187⟩, A20, H⟩ := H
  replace H : (some t186) = some r := H
  have A2 := Aside0.mk A20
  clear A20
  obtain rfl := Option.some.inj H
  go_enter Tryz.func33, Tryz.ntmps33
  go_wp2_with (first | ((with_reducible refine gate_dst (N := 1) rfl ?_); refine box_event ?hg (N := 1) ?hd (cs := #[.int .i64 a0_0, .int .i64 a0_1, .string a0_2, .bool a0_3]) (t := 43) ?hr ?_; (case hd => rfl); (case hg => rfl); (case hr => first | (go_simp; done) | (go_simp; rfl)); intro gb185 hg w3 hbox hb; have BK185 := Aside0.mk hbox; have GW185 := geA hg HB; have GE185 := geA hg HB; replace HB := bsA HB hb; clear hb hbox hg; have hcz4_0 : w3.cell? ⟨gb185, 0, none⟩ = some (.int .i64 a0_0) := (blk_cell BK185.out 0).trans rfl; have hcz4_1 : w3.cell? ⟨gb185, 1, none⟩ = some (.int .i64 a0_1) := (blk_cell BK185.out 1).trans rfl; have hcz4_2 : w3.cell? ⟨gb185, 2, none⟩ = some (.string a0_2) := (blk_cell BK185.out 2).trans rfl; have hcz4_3 : w3.cell? ⟨gb185, 3, none⟩ = some (.bool a0_3) := (blk_cell BK185.out 3).trans rfl; have hfz4_0 := blk_frozen BK185.out 0; have hfz4_1 := blk_frozen BK185.out 1; have hfz4_2 := blk_frozen BK185.out 2; have hfz4_3 := blk_frozen BK185.out 3) | ((with_reducible refine gate_callee (f := 66) rfl ?_); refine goesT (some 7) Tryz.func66 #[.agg #[.int .i64 a0_0, .int .i64 a0_1, .string a0_2, .bool a0_3]] ?_; (with_reducible refine (value_Show.calls a0_0 a0_1 a0_2 a0_3 t186 t187 _ ?side1 A2.out).mono ?_); (case side1 => first | (with_reducible exact HL_LG0) | exact ⟨LG0.below HL_LG0.out (hbT HB.out)⟩); rintro e w5 ⟨rfl, hb⟩; refine ⟨_, rfl, ?_⟩; replace BK185 := bbA BK185 hb; replace HB := bsA HB hb; (try clear hb); (try clear hb2); (try clear hk); (try clear hi)))
  go_ret
  exact ⟨by first | rfl | (simp [errW_none, errW_some] <;> rfl) | (simp [*, errW_none, errW_some] <;> rfl), hbT HB.out⟩

end Go.Proofs.YtpkbhfdfgapmlaaGreatDoor.Pr
end

/-! ## text ExtEv2 -/
section
/- The functions that stand in the forms. -/
namespace Go.Proofs.YtpkbhfdfgapmlaaGreatDoor.Pr
open Go Go.RowKit Go.Proofs.YtpkbhfdfgapmlaaGreatDoorW.PrintWords Go.Proofs.YtpkbhfdfgapmlaaGreatDoorW.PrintLast Go.Proofs.YtpkbhfdfgapmlaaGreatDoorW.PrintMore
set_option maxRecDepth 100000
set_option linter.unusedVariables false
set_option linter.unusedSimpArgs false
theorem strings_Clone (s : ByteArray) (w : World) (hs : s.size ≤ 140737488355328) : Calls Tryz.prog 61 #[.string s] w fun e w' => e = .returned (.string s) ∧ Below w.heap.size w w' := by
  go_enter Tryz.func61, Tryz.ntmps61
  go_wp2_with (go_at_call 80; refine (stringslite_Clone s w hs).mono ?_; rintro e w1 ⟨rfl, hb⟩)
  go_ret
  exact ⟨rfl, hb⟩
theorem put4 {W : World} {g : Nat} {a b c d a' b' c' d' : Value} {t : TypeId} (h : W.heap[g]? = some (.cells #[a', b', c', d'] t (0, 0))) :
    ((((W.setCell ⟨g, 0, none⟩ a).setCell ⟨g, 1, none⟩ b).setCell ⟨g, 2, none⟩ c).setCell ⟨g, 3, none⟩ d).heap[g]? = some (.cells #[a, b, c, d] t (0, 0)) :=
  blk_put (cs := #[a, b, c, d']) (blk_put (cs := #[a, b, c', d']) (blk_put (cs := #[a, b', c', d']) (blk_put h 0 a rfl) 1 b rfl) 2 c rfl) 3 d rfl
theorem below_put4 {w W : World} {g n : Nat} {a b c d : Value} (h : Below n w W) (hg : n ≤ g) : Below n w ((((W.setCell ⟨g, 0, none⟩ a).setCell ⟨g, 1, none⟩ b).setCell ⟨g, 2, none⟩ c).setCell ⟨g, 3, none⟩ d) := Below.setCell (Below.setCell (Below.setCell (Below.setCell h hg _) hg _) hg _) hg _
set_option maxHeartbeats 8000000 in
theorem form_int (k : Nat) (s : ByteArray) (r1 r2 : Int) (r3 : ByteArray) (r4 ok : Bool) (w : World) (hL : Aside0 (LErr w)) (hG : Aside0 (LG0 w)) (hY : Aside0 (LSyn w)) (h : csv_shown.f k s 1 = some (r1, r2, r3, r4, ok)) :
    Calls Tryz.prog 59 #[.string s] w fun e w' => e = .returned (.tuple #[.agg #[.int .i64 r1, .int .i64 r2, .string r3, .bool r4], .bool ok]) ∧ Below w.heap.size w w' := by
  have HH := Aside0.mk h
  clear h
  go_enter Tryz.func59, Tryz.ntmps59
  go_upto_region 1 with (fail)
  obtain ⟨g, hg⟩ : ∃ g, g = w.heap.size := ⟨_, rfl⟩
  have hh : (w.alloc (.cells #[.int .i64 0, .int .i64 0, .string ⟨#[]⟩, .bool false] 43)).heap[g]? = some (.cells #[.int .i64 0, .int .i64 0, .string ⟨#[]⟩, .bool false] 43 (0, 0)) := by rw [hg]; exact blk_new _ _
  have HB1 : Aside0 (Below w.heap.size w (w.alloc (.cells #[.int .i64 0, .int .i64 0, .string ⟨#[]⟩, .bool false] 43))) := ⟨below_alloc (Below.refl _ _) _⟩
  have HL1 := Aside0.mk (hL.out.below HB1.out)
  have HG1 := Aside0.mk (hG.out.below HB1.out)
  have HY1 := Aside0.mk (hY.out.below HB1.out)
  have HGE : Aside0 (w.heap.size ≤ g) := ⟨by omega⟩
  rw [← hg]
  clear hg
  have HG0 := Aside0.mk hh
  clear hh
  generalize w.alloc (.cells #[.int .i64 0, .int .i64 0, .string ⟨#[]⟩, .bool false] 43) = w1 at *
  go_wp2_with (go_at_call 26; refine (csv_shown.calls k s 1 r1 r2 r3 r4 ok w1 HL1 HG1 HY1 HH.out).mono ?_; rintro e w2 ⟨rfl, hb⟩; have HB2 := Aside0.mk (below_step HB1.out hb); have HG2 := Aside0.mk (blk_below HG0.out hb); have hc0 := blk_cell HG2.out 0; have hc1 := blk_cell HG2.out 1; have hc2 := blk_cell HG2.out 2; have hc3 := blk_cell HG2.out 3; replace hc0 : w2.cell? ⟨g, 0, none⟩ = some (.int .i64 0) := hc0; replace hc1 : w2.cell? ⟨g, 1, none⟩ = some (.int .i64 0) := hc1; replace hc2 : w2.cell? ⟨g, 2, none⟩ = some (.string ⟨#[]⟩) := hc2; replace hc3 : w2.cell? ⟨g, 3, none⟩ = some (.bool false) := hc3; have hfz : ∀ j, w2.frozen? ⟨g, j, none⟩ = false := fun j => blk_frozen HG2.out j; have hgl := blk_lt HG2.out; clear hb)
  refine bodyPost_ret (results_ct rfl _ _ g 43 #[.int .i64 r1, .int .i64 r2, .string r3, .bool r4] (0, 0) _ rfl (put4 HG2.out) Tryz.underlying43 rfl (by kernel_rfl)) rfl ?_
  exact ⟨rfl, below_put4 HB2.out HGE.out⟩
set_option maxHeartbeats 8000000 in
theorem form_bool (k : Nat) (s : ByteArray) (r1 r2 : Int) (r3 : ByteArray) (r4 ok : Bool) (w : World) (hL : Aside0 (LErr w)) (hG : Aside0 (LG0 w)) (hY : Aside0 (LSyn w)) (h : csv_shown.f k s 3 = some (r1, r2, r3, r4, ok)) :
    Calls Tryz.prog 63 #[.string s] w fun e w' => e = .returned (.tuple #[.agg #[.int .i64 r1, .int .i64 r2, .string r3, .bool r4], .bool ok]) ∧ Below w.heap.size w w' := by
  have HH := Aside0.mk h
  clear h
  go_enter Tryz.func63, Tryz.ntmps63
  go_upto_region 1 with (fail)
  obtain ⟨g, hg⟩ : ∃ g, g = w.heap.size := ⟨_, rfl⟩
  have hh : (w.alloc (.cells #[.int .i64 0, .int .i64 0, .string ⟨#[]⟩, .bool false] 43)).heap[g]? = some (.cells #[.int .i64 0, .int .i64 0, .string ⟨#[]⟩, .bool false] 43 (0, 0)) := by rw [hg]; exact blk_new _ _
  have HB1 : Aside0 (Below w.heap.size w (w.alloc (.cells #[.int .i64 0, .int .i64 0, .string ⟨#[]⟩, .bool false] 43))) := ⟨below_alloc (Below.refl _ _) _⟩
  have HL1 := Aside0.mk (hL.out.below HB1.out)
  have HG1 := Aside0.mk (hG.out.below HB1.out)
  have HY1 := Aside0.mk (hY.out.below HB1.out)
  have HGE : Aside0 (w.heap.size ≤ g) := ⟨by omega⟩
  rw [← hg]
  clear hg
  have HG0 := Aside0.mk hh
  clear hh
  generalize w.alloc (.cells #[.int .i64 0, .int .i64 0, .string ⟨#[]⟩, .bool false] 43) = w1 at *
  go_wp2_with (go_at_call 26; refine (csv_shown.calls k s 3 r1 r2 r3 r4 ok w1 HL1 HG1 HY1 HH.out).mono ?_; rintro e w2 ⟨rfl, hb⟩; have HB2 := Aside0.mk (below_step HB1.out hb); have HG2 := Aside0.mk (blk_below HG0.out hb); have hc0 := blk_cell HG2.out 0; have hc1 := blk_cell HG2.out 1; have hc2 := blk_cell HG2.out 2; have hc3 := blk_cell HG2.out 3; replace hc0 : w2.cell? ⟨g, 0, none⟩ = some (.int .i64 0) := hc0; replace hc1 : w2.cell? ⟨g, 1, none⟩ = some (.int .i64 0) := hc1; replace hc2 : w2.cell? ⟨g, 2, none⟩ = some (.string ⟨#[]⟩) := hc2; replace hc3 : w2.cell? ⟨g, 3, none⟩ = some (.bool false) := hc3; have hfz : ∀ j, w2.frozen? ⟨g, j, none⟩ = false := fun j => blk_frozen HG2.out j; have hgl := blk_lt HG2.out; clear hb)
  refine bodyPost_ret (results_ct rfl _ _ g 43 #[.int .i64 r1, .int .i64 r2, .string r3, .bool r4] (0, 0) _ rfl (put4 HG2.out) Tryz.underlying43 rfl (by kernel_rfl)) rfl ?_
  exact ⟨rfl, below_put4 HB2.out HGE.out⟩
set_option maxHeartbeats 8000000 in
theorem form_write (r1 r2 : Int) (s : ByteArray) (r4 : Bool) (w : World) (hs : s.size ≤ 140737488355328) :
    Calls Tryz.prog 62 #[.agg #[.int .i64 r1, .int .i64 r2, .string s, .bool r4]] w fun e w' => e = .returned (.string s) ∧ Below w.heap.size w w' := by
  go_enter Tryz.func62, Tryz.ntmps62
  go_wp2_with (go_at_call 61; refine (strings_Clone s _ hs).mono ?_; rintro e w2 ⟨rfl, hb⟩)
  go_ret
  exact ⟨rfl, below_step (below_alloc (Below.refl _ _) _) hb⟩
set_option maxHeartbeats 8000000 in
theorem form_str (s : ByteArray) (ok : Bool) (w : World) (hs : s.size ≤ 140737488355328) (h : value_Valid.f 2 0 s false = some ok) :
    Calls Tryz.prog 60 #[.string s] w fun e w' => e = .returned (.tuple #[.agg #[.int .i64 2, .int .i64 0, .string s, .bool false], .bool ok]) ∧ Below w.heap.size w w' := by
  have HH := Aside0.mk h
  clear h
  go_enter Tryz.func60, Tryz.ntmps60
  go_upto_region 1 with (fail)
  obtain ⟨g, hg⟩ : ∃ g, g = w.heap.size := ⟨_, rfl⟩
  have hh : (w.alloc (.cells #[.int .i64 0, .int .i64 0, .string ⟨#[]⟩, .bool false] 43)).heap[g]? = some (.cells #[.int .i64 0, .int .i64 0, .string ⟨#[]⟩, .bool false] 43 (0, 0)) := by rw [hg]; exact blk_new _ _
  have HB1 : Aside0 (Below w.heap.size w (w.alloc (.cells #[.int .i64 0, .int .i64 0, .string ⟨#[]⟩, .bool false] 43))) := ⟨below_alloc (Below.refl _ _) _⟩
  have HGE : Aside0 (w.heap.size ≤ g) := ⟨by omega⟩
  rw [← hg]
  clear hg
  have HG0 := Aside0.mk hh
  clear hh
  generalize w.alloc (.cells #[.int .i64 0, .int .i64 0, .string ⟨#[]⟩, .bool false] 43) = w1 at *
  go_upto_region 2 with (go_at_call 61; refine (strings_Clone s _ hs).mono ?_; rintro e w2 ⟨rfl, hb⟩; have HB2 := Aside0.mk (below_step HB1.out hb); have HG2 := Aside0.mk (blk_below HG0.out hb); clear hb)
  obtain ⟨g4, hg4⟩ : ∃ g4, g4 = w2.heap.size := ⟨_, rfl⟩
  have hh : (w2.alloc (.cells #[.int .i64 2, .int .i64 0, .string s, .bool false] 43)).heap[g4]? = some (.cells #[.int .i64 2, .int .i64 0, .string s, .bool false] 43 (0, 0)) := by rw [hg4]; exact blk_new _ _
  have HB3 : Aside0 (Below w.heap.size w (w2.alloc (.cells #[.int .i64 2, .int .i64 0, .string s, .bool false] 43))) := ⟨below_alloc HB2.out _⟩
  have HG3 : Aside0 ((w2.alloc (.cells #[.int .i64 2, .int .i64 0, .string s, .bool false] 43)).heap[g]? = some (.cells #[.int .i64 0, .int .i64 0, .string ⟨#[]⟩, .bool false] 43 (0, 0))) := ⟨blk_alloc HG2.out _⟩
  have hgg : g4 ≠ g := by have := blk_lt HG2.out; omega
  rw [← hg4]
  clear hg4
  generalize w2.alloc (.cells #[.int .i64 2, .int .i64 0, .string s, .bool false] 43) = w3 at *
  have hd0 : w3.cell? ⟨g4, 0, none⟩ = some (.int .i64 2) := blk_cell hh 0
  have hd1 : w3.cell? ⟨g4, 1, none⟩ = some (.int .i64 0) := blk_cell hh 1
  have hd2 : w3.cell? ⟨g4, 2, none⟩ = some (.string s) := blk_cell hh 2
  have hd3 : w3.cell? ⟨g4, 3, none⟩ = some (.bool false) := blk_cell hh 3
  have hc0 : w3.cell? ⟨g, 0, none⟩ = some (.int .i64 0) := blk_cell HG3.out 0
  have hc1 : w3.cell? ⟨g, 1, none⟩ = some (.int .i64 0) := blk_cell HG3.out 1
  have hc2 : w3.cell? ⟨g, 2, none⟩ = some (.string ⟨#[]⟩) := blk_cell HG3.out 2
  have hc3 : w3.cell? ⟨g, 3, none⟩ = some (.bool false) := blk_cell HG3.out 3
  have hfz : ∀ j, w3.frozen? ⟨g, j, none⟩ = false := fun j => blk_frozen HG3.out j
  have hgl := blk_lt HG3.out
  have hgl4 := blk_lt hh
  have HG30 := Aside0.mk hh
  clear hh
  go_region_with (go_at_call 17; refine (value_Valid.calls 2 0 s false ok _ HH.out).mono ?_; rintro e w4 ⟨rfl, hb⟩; have HBX := Aside0.mk hb; (first | (have HG4 := Aside0.mk (blk_below (blk_drew HG3.out) hb); have HH4 := Aside0.mk (blk_below (blk_drew HG30.out) hb); have he0 : w4.cell? ⟨g, 0, none⟩ = some (.int .i64 0) := blk_cell HG4.out 0; have he1 : w4.cell? ⟨g, 1, none⟩ = some (.int .i64 0) := blk_cell HG4.out 1; have he2 : w4.cell? ⟨g, 2, none⟩ = some (.string ⟨#[]⟩) := blk_cell HG4.out 2; have he3 : w4.cell? ⟨g, 3, none⟩ = some (.bool false) := blk_cell HG4.out 3; have hf0 : w4.cell? ⟨g4, 0, none⟩ = some (.int .i64 2) := blk_cell HH4.out 0; have hf1 : w4.cell? ⟨g4, 1, none⟩ = some (.int .i64 0) := blk_cell HH4.out 1; have hf2 : w4.cell? ⟨g4, 2, none⟩ = some (.string s) := blk_cell HH4.out 2; have hf3 : w4.cell? ⟨g4, 3, none⟩ = some (.bool false) := blk_cell HH4.out 3; have hfz4 : ∀ j, w4.frozen? ⟨g, j, none⟩ = false := fun j => blk_frozen HG4.out j; have hgl5 := blk_lt HG4.out; have hgl6 := blk_lt HH4.out) | skip); clear hb)
  all_goals go_wp2
  all_goals (refine bodyPost_ret (results_ct rfl _ _ g 43 #[.int .i64 2, .int .i64 0, .string s, .bool false] (0, 0) _ rfl (by first | exact put4 HG4.out | exact blk_below (put4 (blk_drew HG3.out)) HBX.out) Tryz.underlying43 rfl (by kernel_rfl)) rfl ?_)
  all_goals (refine ⟨rfl, ?_⟩)
  all_goals (first | exact below_put4 (below_step (below_drew1 HB3.out) HBX.out) HGE.out | exact below_step (below_put4 (below_drew1 HB3.out) HGE.out) HBX.out)
end Go.Proofs.YtpkbhfdfgapmlaaGreatDoor.Pr
end

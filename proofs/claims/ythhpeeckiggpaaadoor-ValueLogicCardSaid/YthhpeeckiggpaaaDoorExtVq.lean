import Derived.Test.YthhpeeckiggpaaaDoorPrx2
import Derived.Test.YthhpeeckiggpaaaDoorPuBase
import Derived.Test.YthhpeeckiggpaaaDoorShB
import Derived.Lib.ItoaNum
namespace Go.Proofs.YthhpeeckiggpaaaDoor.Pr
open Go.RowKit Go.Proofs.YthhpeeckiggpaaaDoor.Pu Go.Proofs.YthhpeeckiggpaaaDoorW.PrintWords Go.Proofs.YthhpeeckiggpaaaDoorW.PrintLast Go.Proofs.YthhpeeckiggpaaaDoorW.PrintMore
set_option linter.unusedVariables false
set_option linter.unusedSimpArgs false
/-- A hexadecimal digit. -/
def hexd (n : Nat) : UInt8 := UInt8.ofNat (if n < 10 then 48 + n else 87 + n)
/-- A byte as it is written within a string. -/
def qv (c : UInt8) : List UInt8 :=
  if c.toNat = 34 ∨ c.toNat = 92 then [92, c] else if c.toNat = 10 then [92, 110] else if c.toNat = 9 then [92, 116]
  else if c.toNat < 32 ∨ 126 < c.toNat then [92, 120, hexd (c.toNat / 16), hexd (c.toNat % 16)] else [c]
/-- A string as it is written. -/
def qvs (l : List UInt8) : List UInt8 := 34 :: (l.flatMap qv ++ [34])

theorem builder_below {T e : TypeId} {B b : Nat} {bs : List Value} {w w' : World} (h : Lib.IsBuilderF T e B b bs w) (hb : Below w.heap.size w w') : Lib.IsBuilderF T e B b bs w' := by
  have lt : ∀ k o, w.heap[k]? = some o → w'.heap[k]? = some o := fun k o h => by rw [hb.block k (Array.getElem?_eq_some_iff.1 h).1]; exact h
  have key : ∀ p, Lib.BuilderAtF T e B b p bs w → Lib.BuilderAtF T e B b p bs w' := by
    rintro p ⟨h1, v, h2, ⟨h3, h4⟩, h5⟩
    refine ⟨h1, v, lt _ _ h2, ⟨h3, ?_⟩, h5⟩
    rcases h4 with hn | ⟨g, cap, cur, fz, hv, hbg, hgg, rest⟩
    · exact .inl hn
    · exact .inr ⟨g, cap, cur, fz, hv, hbg, lt _ _ hgg, rest⟩
  rcases h with h | h
  · exact .inl (key _ h)
  · exact .inr (key _ h)
theorem bc_snoc (a : List UInt8) (c : UInt8) : Lib.byteCells (a ++ [c]) = Lib.byteCells a ++ [.int .u8 (c.toNat : Int)] := by simp [Lib.byteCells]
theorem bc_str (a : List UInt8) (s : ByteArray) : Lib.byteCells (a ++ s.data.toList) = Lib.byteCells a ++ Lib.strCells s := by simp [Lib.byteCells, Lib.strCells]
/-- What the builder holds behind the bytes of l. -/
theorem qv_len (c : UInt8) : (qv c).length ≤ 4 := by unfold qv; repeat' split
                                                     all_goals simp
theorem fm_len (l : List UInt8) : (l.flatMap qv).length ≤ 4 * l.length := by
  induction l with
  | nil => simp
  | cons c t ih => have := qv_len c; simp only [List.flatMap_cons, List.length_append, List.length_cons]; omega

theorem esc_tab : ∀ n : Nat, n < 256 → value_escape.f 1 (n : Int) = some (if n = 34 ∨ n = 92 then ((n : Int), true) else if n = 10 then (110, true) else if n = 9 then (116, true) else (0, false)) := by decide +kernel
theorem esc_cases (c : UInt8) : (∃ L : UInt8, value_escape.f 1 (c.toNat : Int) = some ((L.toNat : Int), true) ∧ qv c = [92, L]) ∨
    (value_escape.f 1 (c.toNat : Int) = some (0, false) ∧ (c.toNat < 32 ∨ 126 < c.toNat) ∧ qv c = [92, 120, hexd (c.toNat / 16), hexd (c.toNat % 16)]) ∨
    (value_escape.f 1 (c.toNat : Int) = some (0, false) ∧ 32 ≤ c.toNat ∧ c.toNat ≤ 126 ∧ qv c = [c]) := by
  have h := esc_tab c.toNat c.toNat_lt
  unfold qv
  by_cases h1 : c.toNat = 34 ∨ c.toNat = 92
  · rw [if_pos h1] at h ⊢; exact .inl ⟨c, h, rfl⟩
  rw [if_neg h1] at h ⊢
  by_cases h2 : c.toNat = 10
  · rw [if_pos h2] at h ⊢; exact .inl ⟨110, h, rfl⟩
  rw [if_neg h2] at h ⊢
  by_cases h3 : c.toNat = 9
  · rw [if_pos h3] at h ⊢; exact .inl ⟨116, h, rfl⟩
  rw [if_neg h3] at h ⊢
  by_cases h4 : c.toNat < 32 ∨ 126 < c.toNat
  · rw [if_pos h4]; exact .inr (.inl ⟨h, h4, rfl⟩)
  · rw [if_neg h4]; exact .inr (.inr ⟨h, by omega, by omega, rfl⟩)
def lowH : ByteArray := ⟨#[48, 49, 50, 51, 52, 53, 54, 55, 56, 57, 97, 98, 99, 100, 101, 102]⟩
theorem hex_tab : ∀ n : Nat, n < 256 → bt lowH ((n : Int) / 16) = ((hexd (n / 16)).toNat : Int) ∧ bt lowH ((n : Int) % 16) = ((hexd (n % 16)).toNat : Int) ∧ (0 : Int) ≤ n / 16 ∧ (n : Int) / 16 < 16 ∧ 0 ≤ (n : Int) % 16 ∧ (n : Int) % 16 < 16 := by decide +kernel
set_option maxHeartbeats 4000000 in
theorem value_quoted_walk (s : ByteArray) (w : World) (hs : s.size ≤ 17592186044416) :
    Calls Tryd.prog 30 #[.string s] w fun e w' => e = .returned (.string ⟨(qvs s.data.toList).toArray⟩) ∧ Below w.heap.size w w' := by
  obtain ⟨R, hR⟩ : ∃ R, R = qvs s.data.toList := ⟨_, rfl⟩
  have HR := Aside0.mk hR
  rw [← hR]
  clear hR
  go_enter Tryd.func30, Tryd.ntmps30
  go_upto_region 2 with (fail)
  have hfresh := Lib.IsBuilderF.of (Lib.fresh_isBuilder 72 5 w)
  have HB1 := below_alloc (Below.refl w.heap.size w) (.cells #[.pointer none, .slice none 0 0] 72)
  have hsz : w.heap.size < (w.alloc (.cells #[.pointer none, .slice none 0 0] 72)).heap.size := by simp
  generalize w.alloc (.cells #[.pointer none, .slice none 0 0] 72) = w1 at *
  generalize hbq : w.heap.size = b at *
  have HBQ := Aside0.mk hbq
  clear hbq
  have HBD := Aside0.mk hfresh
  have HBL := Aside0.mk HB1
  clear hfresh HB1
  go_upto_region 3 with (go_at_call 51; (with_reducible refine (Tryd.Builder_WriteByte_k b b _ 34 _ HBD.out (by simp) (by omega)).mono ?_); rintro e w3 ⟨rfl, hw2, hw3, hw4⟩)
  replace HBD : Aside0 (Lib.IsBuilderF 72 5 b b (Lib.byteCells (34 :: (s.data.toList.take 0).flatMap qv)) w3) := ⟨Or.inr hw2⟩
  replace hsz : b < w3.heap.size := by have := hw3.size; omega
  replace HBL := Aside0.mk (HBL.out.trans hw3)
  clear hw2 hw3 hw4
  have hl0 : s.data.toList.length = s.size := by simp
  go_upto_region 4 with (fail)
  go_loopw [11] (fun v w' => ∃ (i : Nat) (acc : List UInt8), v = .int .i64 i ∧ i ≤ s.size ∧ acc.length ≤ 4 * i + 1 ∧ Aside0 (acc = 34 :: (s.data.toList.take i).flatMap qv) ∧ Aside0 (Lib.IsBuilderF 72 5 b b (Lib.byteCells acc) w') ∧ b < w'.heap.size ∧ Aside0 (Below b w w')) (fun v _ => s.size - (match v with | .int _ i => i.toNat | _ => 0))
  case atStart => exact ⟨0, _, rfl, by omega, by simp, ⟨rfl⟩, HBD, hsz, HBL⟩
  case round =>
    clear HBD hsz HBL
    obtain ⟨i, acc, rfl, hi, hal, HA, HBD, hsz, HBL⟩ := hrel
    by_cases hlt : i < s.size
    · as_aux_lemma =>
      have hp : 0 ≤ (i : Int) := by omega
      have hq : (i : Int) < (s.size : Int) := by omega
      have hn : ∃ c : UInt8, s.data.toList[i]? = some c ∧ ∀ h : i < s.size, ((s[i]'h).toNat : Int) = (c.toNat : Int) := by
        have h1 : i < s.data.toList.length := by omega
        refine ⟨s.data.toList[i], List.getElem?_eq_getElem h1, fun h => ?_⟩
        simp only [Array.getElem_toList]
        rfl
      obtain ⟨c, hc1, hx⟩ := hn
      have HA2 : Aside0 (acc ++ qv c = 34 :: (s.data.toList.take (i + 1)).flatMap qv) := ⟨by rw [HA.out, List.take_add_one, hc1]; simp⟩
      have hw64 : wrap64 ((i : Int) + 1) = ((i + 1 : Nat) : Int) := by unfold wrap64; omega
      have HW := Aside0.mk hw64
      have HLT := Aside0.mk hlt
      have hcl := c.toNat_lt
      replace hp := eq_true hp
      replace hq := eq_true hq
      clear hc1 hw64 HA
      have hbl := Lib.byteCells_length acc
      rcases esc_cases c with ⟨L, he, hq2⟩ | ⟨he, hx2, hq2⟩ | ⟨he, hx2, hx3, hq2⟩
      all_goals
        have HQ := Aside0.mk hq2
        have HE := Aside0.mk he
        clear hq2 he
      · go_upto_region 10 with (go_at_call 52; (with_reducible refine (value_escape.calls 1 _ _ _ _ HE.out).mono ?_); rintro e w4 ⟨rfl, hd⟩)
        replace HBD := Aside0.mk (builder_below HBD.out hd.below)
        replace HBL := Aside0.mk (HBL.out.trans (hd.below.mono (Nat.le_of_lt hsz)))
        replace hsz : b < w4.heap.size := by have := hd.below.size; omega
        clear hd
        go_upto_region 11 with (go_at_call 51; (with_reducible refine (Tryd.Builder_WriteByte_k b b _ 92 _ HBD.out (by simp only [Lib.byteCells_length, List.length_append, List.length_singleton, List.length_cons, List.length_nil]; omega) (by omega)).mono ?_); rintro e w5 ⟨rfl, hw2, hw3, hw4⟩)
        replace HBD : Aside0 (Lib.IsBuilderF 72 5 b b (Lib.byteCells (acc ++ [92])) w5) := ⟨by rw [bc_snoc]; exact Or.inr hw2⟩
        replace HBL := Aside0.mk (HBL.out.trans hw3)
        replace hsz : b < w5.heap.size := by have := hw3.size; omega
        clear hw2 hw3 hw4
        go_upto_region 16 with (go_at_call 51; (with_reducible refine (Tryd.Builder_WriteByte_k b b _ (L.toNat : Int) _ HBD.out (by simp only [Lib.byteCells_length, List.length_append, List.length_singleton, List.length_cons, List.length_nil]; omega) (by omega)).mono ?_); rintro e w6 ⟨rfl, hw2, hw3, hw4⟩)
        replace HBD : Aside0 (Lib.IsBuilderF 72 5 b b (Lib.byteCells (acc ++ [92] ++ [L])) w6) := ⟨by rw [bc_snoc]; exact Or.inr hw2⟩
        replace HBL := Aside0.mk (HBL.out.trans hw3)
        replace hsz : b < w6.heap.size := by have := hw3.size; omega
        clear hw2 hw3 hw4
        go_wp2
        exact ⟨⟨i + 1, acc ++ [92] ++ [L], congrArg (Value.int .i64) (by omega), by have := HLT.out; omega, by have h5 := hal; simp only [List.length_append, List.length_singleton]; omega, ⟨by rw [← HA2.out, HQ.out]; try simp⟩, HBD, hsz, HBL⟩, by have := HLT.out; simp; omega⟩
      · obtain ⟨ht1, ht2, ht3, ht4, ht5, ht6⟩ := hex_tab c.toNat hcl
        have hb1 := bt_at lowH ((c.toNat : Int) / 16)
        have hb2 := bt_at lowH ((c.toNat : Int) % 16)
        rw [ht1] at hb1
        rw [ht2] at hb2
        unfold lowH at hb1 hb2
        clear ht1 ht2
        have hk : ((c.toNat : Int) < 32) = True ∨ ((c.toNat : Int) < 32) = False ∧ ((126 : Int) < (c.toNat : Int)) = True := by
          by_cases h : c.toNat < 32
          · exact .inl (eq_true (by omega))
          · exact .inr ⟨eq_false (by omega), eq_true (by omega)⟩
        clear hx2
        have hz0 : 0 ≤ (c.toNat : Int) := by omega
        have hz1 : (c.toNat : Int) ≤ 255 := by omega
        generalize (c.toNat : Int) = z at hx HE hb1 hb2 ht3 ht4 ht5 ht6 hk hz0 hz1
        replace ht3 := eq_true ht3
        replace ht4 := eq_true ht4
        replace ht5 := eq_true ht5
        replace ht6 := eq_true ht6
        rcases hk with hk | ⟨hk, hk2⟩
        all_goals
          go_upto_region 13 with (go_at_call 52; (with_reducible refine (value_escape.calls 1 _ _ _ _ HE.out).mono ?_); rintro e w4 ⟨rfl, hd⟩)
          replace HBD := Aside0.mk (builder_below HBD.out hd.below)
          replace HBL := Aside0.mk (HBL.out.trans (hd.below.mono (Nat.le_of_lt hsz)))
          replace hsz : b < w4.heap.size := by have := hd.below.size; omega
          clear hd
          have h8 : (Lib.byteCells acc).length + (⟨#[92, 120]⟩ : ByteArray).size ≤ 140737488355328 := by rw [Lib.byteCells_length]; show acc.length + 2 ≤ 140737488355328; omega
          have H8 := Aside0.mk h8
          clear h8
          go_upto_region 14 with (go_at_call 53; (with_reducible refine (Tryd.Builder_WriteString_k b b (Lib.byteCells acc) ⟨#[92, 120]⟩ _ HBD.out H8.out (by omega)).mono ?_); rintro e w5 ⟨rfl, hw2, hw3, hw4⟩)
          replace HBD : Aside0 (Lib.IsBuilderF 72 5 b b (Lib.byteCells (acc ++ [92, 120])) w5) := ⟨by have h7 := bc_str acc ⟨#[92, 120]⟩; rw [show acc ++ [92, 120] = acc ++ (⟨#[92, 120]⟩ : ByteArray).data.toList from rfl, h7]; exact Or.inr hw2⟩
          replace HBL := Aside0.mk (HBL.out.trans hw3)
          replace hsz : b < w5.heap.size := by have := hw3.size; omega
          clear hw2 hw3 hw4
          go_upto_region 15 with (go_at_call 51; (with_reducible refine (Tryd.Builder_WriteByte_k b b _ ((hexd (c.toNat / 16)).toNat : Int) _ HBD.out (by simp only [Lib.byteCells_length, List.length_append, List.length_singleton, List.length_cons, List.length_nil]; omega) (by omega)).mono ?_); rintro e w6 ⟨rfl, hw2, hw3, hw4⟩)
          replace HBD : Aside0 (Lib.IsBuilderF 72 5 b b (Lib.byteCells (acc ++ [92, 120] ++ [hexd (c.toNat / 16)])) w6) := ⟨by rw [bc_snoc]; exact Or.inr hw2⟩
          replace HBL := Aside0.mk (HBL.out.trans hw3)
          replace hsz : b < w6.heap.size := by have := hw3.size; omega
          clear hw2 hw3 hw4
          go_upto_region 16 with (go_at_call 51; (with_reducible refine (Tryd.Builder_WriteByte_k b b _ ((hexd (c.toNat % 16)).toNat : Int) _ HBD.out (by simp only [Lib.byteCells_length, List.length_append, List.length_singleton, List.length_cons, List.length_nil]; omega) (by omega)).mono ?_); rintro e w7 ⟨rfl, hw2, hw3, hw4⟩)
          replace HBD : Aside0 (Lib.IsBuilderF 72 5 b b (Lib.byteCells (acc ++ [92, 120] ++ [hexd (c.toNat / 16)] ++ [hexd (c.toNat % 16)])) w7) := ⟨by rw [bc_snoc]; exact Or.inr hw2⟩
          replace HBL := Aside0.mk (HBL.out.trans hw3)
          replace hsz : b < w7.heap.size := by have := hw3.size; omega
          clear hw2 hw3 hw4
          go_wp2
          exact ⟨⟨i + 1, acc ++ [92, 120] ++ [hexd (c.toNat / 16)] ++ [hexd (c.toNat % 16)], congrArg (Value.int .i64) (by omega), by have := HLT.out; omega, by have h5 := hal; simp only [List.length_append, List.length_singleton, List.length_cons, List.length_nil]; omega, ⟨by rw [← HA2.out, HQ.out]; try simp⟩, HBD, hsz, HBL⟩, by have := HLT.out; simp; omega⟩
      · have hk : ((c.toNat : Int) < 32) = False := eq_false (by omega)
        have hk2 : ((126 : Int) < (c.toNat : Int)) = False := eq_false (by omega)
        clear hx2 hx3
        go_upto_region 8 with (go_at_call 52; (with_reducible refine (value_escape.calls 1 _ _ _ _ HE.out).mono ?_); rintro e w4 ⟨rfl, hd⟩)
        replace HBD := Aside0.mk (builder_below HBD.out hd.below)
        replace HBL := Aside0.mk (HBL.out.trans (hd.below.mono (Nat.le_of_lt hsz)))
        replace hsz : b < w4.heap.size := by have := hd.below.size; omega
        clear hd
        go_upto_region 16 with (go_at_call 51; (with_reducible refine (Tryd.Builder_WriteByte_k b b _ (c.toNat : Int) _ HBD.out (by simp only [Lib.byteCells_length, List.length_append, List.length_singleton, List.length_cons, List.length_nil]; omega) (by omega)).mono ?_); rintro e w5 ⟨rfl, hw2, hw3, hw4⟩)
        replace HBD : Aside0 (Lib.IsBuilderF 72 5 b b (Lib.byteCells (acc ++ [c])) w5) := ⟨by rw [bc_snoc]; exact Or.inr hw2⟩
        replace HBL := Aside0.mk (HBL.out.trans hw3)
        replace hsz : b < w5.heap.size := by have := hw3.size; omega
        clear hw2 hw3 hw4
        go_wp2
        exact ⟨⟨i + 1, acc ++ [c], congrArg (Value.int .i64) (by omega), by have := HLT.out; omega, by have h5 := hal; simp only [List.length_append, List.length_singleton, List.length_cons, List.length_nil]; omega, ⟨by rw [← HA2.out, HQ.out]; try simp⟩, HBD, hsz, HBL⟩, by have := HLT.out; simp; omega⟩
    · as_aux_lemma =>
      have hq : ((i : Int) < (s.size : Int)) = False := eq_false (by omega)
      have hbl := Lib.byteCells_length acc
      have hr : R = acc ++ [34] := by rw [HR.out, HA.out, List.take_of_length_le (by omega)]; rfl
      subst hr
      clear HR HA
      go_upto_region 18 with (go_at_call 51; (with_reducible refine (Tryd.Builder_WriteByte_k b b _ 34 _ HBD.out (by omega) (by omega)).mono ?_); rintro e w3 ⟨rfl, hw2, hw3, hw4⟩)
      replace HBD : Aside0 (Lib.IsBuilderF 72 5 b b (Lib.byteCells (acc ++ [34])) w3) := ⟨by rw [bc_snoc]; exact Or.inr hw2⟩
      replace HBL := Aside0.mk (HBL.out.trans hw3)
      have hsz3 : b ≤ w3.heap.size := by have := hw3.size; omega
      clear hw2 hw3 hw4
      go_wp2_with (go_at_call 54; (with_reducible refine (Tryd.Builder_String_any_k b b (acc ++ [34]) _ HBD.out hsz3).mono ?_); rintro e w2 ⟨rfl, hw2, hw3, hw4⟩)
      go_ret
      exact ⟨rfl, by rw [HBQ.out]; exact HBL.out.trans hw3⟩
end Go.Proofs.YthhpeeckiggpaaaDoor.Pr

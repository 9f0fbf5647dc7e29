/-
Part 9 of the proof of the law CsvTwo: texts ExtVw, ExtCs4, ExtUn, Prx8, Prx9, Prx10.
-/
import Derived.Deep.DrawnRows
import Derived.Deep.RegionHeld3
import Derived.IntWalk
import Derived.Test.YtpkbhfdfgapmlaaGreatDoorMCsvTwo0
import Derived.Test.YtpkbhfdfgapmlaaGreatDoorMCsvTwo1
import Derived.Test.YtpkbhfdfgapmlaaGreatDoorMCsvTwo2
import Derived.Test.YtpkbhfdfgapmlaaGreatDoorMCsvTwo6
/-! ## text ExtVw -/
section
/- A row of texts that is only read, as an element: its slice, and the blocks that it lies in. -/
namespace Go.Proofs.YtpkbhfdfgapmlaaGreatDoor.Pr
open Go Go.RowKit Go.Proofs.YtpkbhfdfgapmlaaGreatDoorW.PrintWords Go.Proofs.YtpkbhfdfgapmlaaGreatDoorW.PrintLast Go.Proofs.YtpkbhfdfgapmlaaGreatDoorW.PrintMore
set_option linter.unusedVariables false
/-- Elements that are rows of texts, any number of them in one block. -/
def vw : Kd (List ByteArray) where
  sz := 1
  E := [9]
  K := (Kd.slice 9 Kd.string).K
  M := fun w base ok xs cs => ∃ A c, cs = [.slice A xs.length c] ∧ xs.length ≤ c ∧ Kd.F Kd.string w (fun k => ok k ∧ base ≤ k ∧ k < w.heap.size ∧ ∃ q, q ∈ [9] ∧ ∃ cells, w.heap[k]? = some (.cells cells q (0, 0))) A xs.length xs
  K_len := (Kd.slice 9 Kd.string).K_len
  K_one := (Kd.slice 9 Kd.string).K_one
  K_below := (Kd.slice 9 Kd.string).K_below
  K_of_M := by
    rintro w base ok x cs ⟨A, c, rfl, hl, hf⟩
    exact ⟨A, c, rfl, hl, Kd.F_now hf⟩
  M_mono := by
    rintro w base ok ok' x cs hok ⟨A, c, rfl, hl, hf⟩
    exact ⟨A, c, rfl, hl, Kd.F_mono hf (fun k hk => ⟨hok k hk.1, hk.2⟩)⟩
  M_bound := by
    rintro w base ok x cs ⟨A, c, rfl, hl, hf⟩
    exact ⟨A, c, rfl, hl, Kd.F_mono hf (fun k hk => ⟨hk, hk.2⟩)⟩
  M_move := by
    rintro w w1 base ok x cs hm ⟨A, c, rfl, hl, hf⟩
    refine ⟨A, c, rfl, hl, Kd.F_mono (Kd.F_step hf (fun k hk _ => hm k hk.1)) (fun k hk => ?_)⟩
    obtain ⟨h1, h2, h3, q, hq, cells, hc⟩ := hk
    have hc1 := (hm k h1).trans hc
    exact ⟨h1, h2, (Array.getElem?_eq_some_iff.1 hc1).1, q, hq, cells, hc1⟩
  M_lower := by
    rintro w base base' ok x cs hb ⟨A, c, rfl, hl, hf⟩
    exact ⟨A, c, rfl, hl, Kd.F_mono hf (fun k hk => ⟨hk.1, Nat.le_trans hb hk.2.1, hk.2.2⟩)⟩
section
variable {w w1 W : World} {base b n c m c' : Nat} {ok : Nat → Prop} {A : Option Addr} {v u v1 u1 : Value} {xs : List ByteArray} {Xs Ys Zs : List (List ByteArray)}
/-- The first of a row of the call's own. -/
theorem vw_take (h : Kd.string.R 9 w base ok (.slice A n c) xs) (hm : m ≤ xs.length) (hc : m ≤ c') : vw.M w base ok (xs.take m) [.slice A m c'] := by
  have hn := (Kd.R_reads' h).1
  subst hn
  have hl : (xs.take m).length = m := by rw [List.length_take]; omega
  refine ⟨A, c', by rw [hl], by rw [hl]; exact hc, ?_⟩
  exact Kd.F_take (Kd.R_F (Kd.R_bound h)) hm
theorem vw_all (h : Kd.string.R 9 w base ok (.slice A n c) xs) : vw.M w base ok xs [.slice A n c] := by
  have hn := (Kd.R_reads' h).1
  have hc := (Kd.R_reads' h).2.1
  have := vw_take (m := n) (c' := c) h (by omega) hc
  rwa [List.take_of_length_le (by omega)] at this
/-- Rows' own blocks are told by their types from what their elements lead to. -/
theorem vw_apart {x : List ByteArray} {cs : List Value} (h : vw.M w base ok x cs) (hu : Kd.R vw 39 w b (fun _ => True) u Ys) : vw.M w base (fun k => ok k ∧ some k ≠ u.ownBlock) x cs :=
  vw.M_mono (fun k hk => ⟨hk.1, fun e => by
    obtain ⟨_, _, _, q, hq, cells, hc⟩ := hk
    obtain ⟨inner, ho⟩ := Kd.R_own hu
    obtain ⟨cells', hc'⟩ := own_typed ho k e.symm
    rw [hc] at hc'
    injection hc' with hc'
    injection hc' with _ hc'
    obtain rfl := List.mem_singleton.1 hq
    exact absurd hc' (by decide)⟩) (vw.M_bound h)
theorem R_vw_apart (h : Kd.R vw 39 w base (fun _ => True) v Xs) (hu : Kd.R vw 39 w b (fun _ => True) u Ys) (hne : ∀ k, v.ownBlock = some k → u.ownBlock ≠ some k) : Kd.R vw 39 w base (fun k => some k ≠ u.ownBlock) v Xs := by
  obtain ⟨h0, inner, ho, hr⟩ := h
  exact ⟨fun k hk e => hne k hk e.symm, inner, ho, hr.imp_ (fun _ _ hp => vw.M_mono (fun k hk => ⟨hk.2, hk.1.2⟩) (vw_apart hp hu))⟩
/-- Behind an append to the other: this one lives on, and is still another. -/
theorem R_vw_other (h : Kd.R vw 39 w base (fun _ => True) v Xs) (hu : Kd.R vw 39 w b (fun _ => True) u Ys) (hne : ∀ k, v.ownBlock = some k → u.ownBlock ≠ some k) (hg : w.grownBy w1 u.ownBlock) (hat : u1.ownBlock = u.ownBlock ∨ ∃ b, u1.ownBlock = some b ∧ w.heap.size ≤ b) :
    Kd.R vw 39 w1 base (fun _ => True) v Xs ∧ ∀ k, v.ownBlock = some k → u1.ownBlock ≠ some k := by
  refine ⟨Kd.R_mono (Kd.R_grown (R_vw_apart h hu hne) hg (fun _ hk => hk)) (fun _ _ => trivial), fun k hk e => ?_⟩
  rcases hat with hat | ⟨q, hq, hle⟩
  · rw [hat] at e; exact hne k hk e
  · obtain ⟨inner, ho⟩ := Kd.R_own h
    have := own_lt ho k hk
    rw [hq] at e
    injection e with e
    omega
/-- A row of texts of the call's own, while a list of rows is written. -/
theorem R_str_other (h : Kd.string.R 9 w base ok v xs) (hu : Kd.R vw 39 w b (fun _ => True) u Ys) (hg : w.grownBy w1 u.ownBlock) : Kd.string.R 9 w1 base ok v xs :=
  Kd.R_mono (Kd.R_grown (ok := fun k => ok k ∧ some k ≠ u.ownBlock) (Kd.R_mono (Kd.R_bound h) (fun k hk => ⟨hk.1, fun e => by
    obtain ⟨_, _, _, q, hq, cells, hc⟩ := hk
    obtain ⟨inner, ho⟩ := Kd.R_own hu
    obtain ⟨cells', hc'⟩ := own_typed ho k e.symm
    rw [hc] at hc'
    injection hc' with hc'
    injection hc' with _ hc'
    have hq9 : q = 9 := by simpa [Kd.string, Kd.scalar] using hq
    rw [hq9] at hc'
    exact absurd hc' (by decide)⟩)) hg (fun _ hk => hk.2)) (fun _ hk => hk.1)
/-- A row of one text, just made. -/
theorem R_str_one (s : ByteArray) (hb : base ≤ w.heap.size) : Kd.string.R 9 (w.alloc (.cells #[.string s] 9)) base (fun _ => True) (.slice (some ⟨w.heap.size, 0, none⟩) 1 1) [s] := by
  refine ⟨fun _ _ => trivial, [.string s], ?_, ?_⟩
  · have h := World.ownsRow_lit (base := base) (e := 9) (size := 1) w #[.string s] 1 hb (by decide) (by simp)
    simpa [Kd.string, Kd.scalar] using h
  · refine ⟨rfl, fun i p hp => ?_⟩
    obtain ⟨hi, rfl⟩ := List.getElem?_eq_some_iff.1 hp
    have h0 : i = 0 := by simpa using hi
    subst h0
    rfl
theorem vw_C (h : Kd.R vw 39 w base ok (.slice A n c) Xs) : n = Xs.length ∧ n ≤ c ∧ (Kd.slice 9 Kd.string).C w A Xs.length Xs := by
  obtain ⟨h1, h2, h3⟩ := Kd.R_reads' h
  exact ⟨h1, h2, h3⟩
end
end Go.Proofs.YtpkbhfdfgapmlaaGreatDoor.Pr
end

/-! ## text ExtCs4 -/
section
namespace Go.Proofs.YtpkbhfdfgapmlaaGreatDoor.Pr
open Go.RowKit Go.Proofs.YtpkbhfdfgapmlaaGreatDoorW.PrintWords Go.Proofs.YtpkbhfdfgapmlaaGreatDoorW.PrintLast Go.Proofs.YtpkbhfdfgapmlaaGreatDoorW.PrintMore
set_option maxRecDepth 100000
set_option linter.unusedVariables false
set_option linter.unusedSimpArgs false

/-- The marks. -/
def wordB (k : Nat) : ByteArray := strOfNums (([114, (wrap64 (65 + (k : Int))) % 256] : List Int))
def wds (n : Nat) : List ByteArray := (List.range n).map wordB
theorem wds_succ (n : Nat) : wds (n + 1) = wds n ++ [wordB n] := by unfold wds; rw [List.range_succ, List.map_append]; rfl
theorem wds_len (n : Nat) : (wds n).length = n := by unfold wds; rw [List.length_map, List.length_range]
def ones (n : Nat) : List (List ByteArray) := (wds n).map fun s => [s]
theorem ones_succ (n : Nat) : ones (n + 1) = ones n ++ [[wordB n]] := by unfold ones; rw [wds_succ, List.map_append]; rfl
theorem ones_len (n : Nat) : (ones n).length = n := by unfold ones; rw [List.length_map, wds_len]
def wide (rows : List (List ByteArray)) : List (List ByteArray) := rows.map fun r => r ++ wds 20
theorem wide_snoc (rows : List (List ByteArray)) {i : Nat} (h : i < rows.length) : wide (rows.take (i + 1)) = wide (rows.take i) ++ [rd_L1 rows (i : Int) ++ wds 20] := by
  have e : rd_L1 rows (i : Int) = rows[i] := by
    show rows.getD _ _ = _
    rw [Int.toNat_natCast, List.getD_eq_getElem?_getD, List.getElem?_eq_getElem h]; rfl
  rw [List.take_succ_eq_append_getElem h, e]
  unfold wide
  rw [List.map_append]; rfl
theorem take_snoc (rows : List (List ByteArray)) {i : Nat} (h : i < rows.length) : rows.take (i + 1) = rows.take i ++ [rd_L1 rows (i : Int)] := by
  have e : rd_L1 rows (i : Int) = rows[i] := by
    show rows.getD _ _ = _
    rw [Int.toNat_natCast, List.getD_eq_getElem?_getD, List.getElem?_eq_getElem h]; rfl
  rw [List.take_succ_eq_append_getElem h, e]
theorem wide_len (rows : List (List ByteArray)) : (wide rows).length = rows.length := by unfold wide; rw [List.length_map]
set_option maxHeartbeats 16000000 in
theorem law4_roomy (A0 : Option Addr) (c0 : Nat) (rows : List (List ByteArray)) (w : World) (hr0 : Kd.C (Kd.slice 9 Kd.string) w A0 rows.length rows) (hc0 : rows.length ≤ c0) (hn : rows.length ≤ 5864062014634) (hl : ∀ r ∈ rows, r.length ≤ 8796093021952) :
    Calls Tryz.prog 9 #[.slice A0 rows.length c0] w fun e w' => ∃ v0 v1, e = .returned (.tuple #[v0, v1]) ∧ Kd.R vw 39 w' w.heap.size (fun _ => True) v0 (rows ++ ones 20) ∧ Kd.R vw 39 w' w.heap.size (fun _ => True) v1 (wide rows) ∧ Below w.heap.size w w' := by
  have HR0 := Aside0.mk hr0
  have HN := Aside0.mk hn
  have HNR := Aside0.mk hl
  clear hr0 hl
  go_enter Tryz.func9, Tryz.ntmps9
  go_wp2
  go_loopg [4, 5, 6] rows.length (fun g v4 v5 v6 wx => ∃ i : Nat, v6 = .int .i64 i ∧ i + g = rows.length ∧ Aside0 (Kd.R vw 39 wx w.heap.size (fun _ => True) v4 (rows.take i)) ∧ Aside0 (Kd.R vw 39 wx w.heap.size (fun _ => True) v5 (wide (rows.take i))) ∧ Aside0 (∀ k, v4.ownBlock = some k → v5.ownBlock ≠ some k) ∧ Aside0 (Below w.heap.size w wx))
  case atStart => exact ⟨0, rfl, by omega, ⟨Kd.R_nil _ _ _ _ _⟩, ⟨Kd.R_nil _ _ _ _ _⟩, ⟨fun k hk => by simp [Value.ownBlock] at hk⟩, ⟨Below.refl _ _⟩⟩
  case round =>
    obtain ⟨i, rfl, hig, HL, HW, HNE, HB⟩ := hrel
    by_cases hlt : i < rows.length
    · have hd : decide ((i : Int) < (rows.length : Int)) = true := decide_eq_true (by omega)
      have p1 : 0 ≤ (i : Int) := by omega
      have q1 : (i : Int) < (rows.length : Int) := by omega
      obtain ⟨ad1, A1, cap1, e1, hx1, hl1, hC1⟩ := at_L1 HR0.out (i : Int) p1 q1
      cases e1
      rw [Int.toNat_natCast] at hx1
      have HX0 := Aside0.mk hx1
      replace hx1 := pw_cell_below HB.out hx1
      have HTK := Aside0.mk (take_snoc rows hlt)
      have HWD := Aside0.mk (wide_snoc rows hlt)
      have hX := HNR.out _ (mem_rd hlt)
      have HC1 := Aside0.mk (Kd.C_below hC1 HB.out)
      generalize rd_L1 rows (i : Int) = X at *
      replace p1 := eq_true p1
      replace q1 := eq_true q1
      clear hC1
      obtain ⟨w1, rfl⟩ : ∃ w1 : World, w1 = wr := ⟨_, rfl⟩
      go_wp2_with (((with_reducible refine gate_builtin (b := .append) (xs := #[.const (.slice none 0 0), .tmp 19]) rfl ?_); at_builtin; refine Kd.R_append_rows Kd.string (Rr := Kd.string.K w1) (w0 := w1) w1.heap.size rfl (.const (.slice none 0 0)) (.tmp 19) 39 9 (.string ⟨#[]⟩) 16 rfl Tryz.underlying39 info9 rfl (by decide) (by omega) (.slice none 0 0) [] X A1 X.length cap1 (fun _ => True) (fun _ => False) rfl rfl ?aO ?aR ?aK (fun _ hk => hk.elim) ?aF ?aB ?aS ?aL ?_; (case aO => exact Kd.R_nil _ _ _ _ _); (case aR => exact HC1.out); (case aK => exact fun _ _ h => h); (case aF => exact fun _ _ => trivial); (case aB => exact Below.refl _ _); (case aS => exact Nat.le_refl _); (case aL => simp only [List.length_nil]; omega); intro v2 w2 ho hb hg hat; rw [List.nil_append] at ho; have HO2 := Aside0.mk ho; have HB2 := Aside0.mk hb; clear ho hb hg hat))
      go_loopg [7, 8] 20 (fun g v7 v8 wx => ∃ k : Nat, v8 = .int .i64 k ∧ k + g = 20 ∧ Aside0 (Kd.R Kd.string 9 wx w1.heap.size (fun _ => True) v7 (X ++ wds k)) ∧ Aside0 (Below w1.heap.size w1 wx))
      case atStart => exact ⟨0, rfl, by omega, ⟨by have := HO2.out; rwa [show wds 0 = [] from rfl, List.append_nil]⟩, HB2⟩
      case round =>
        clear HO2 HB2 hx1
        obtain ⟨k, rfl, hkg, HO, HB3⟩ := hrel
        by_cases hk : k < 20
        · obtain ⟨w3, rfl⟩ : ∃ w3 : World, w3 = wr := ⟨_, rfl⟩
          have hd2 : decide ((k : Int) < 20) = true := decide_eq_true (by omega)
          have hlk : (X ++ wds k).length ≤ 8796093021971 := by rw [List.length_append, wds_len]; omega
          have hws : X ++ wds (k + 1) = X ++ wds k ++ [wordB k] := by rw [wds_succ, List.append_assoc]
          have HWS := Aside0.mk hws
          clear hws
          obtain ⟨Y, hY⟩ : ∃ Y, X ++ wds k = Y := ⟨_, rfl⟩
          rw [hY] at hlk HO HWS
          clear hY
          obtain ⟨A7, c7, e7⟩ := Kd.R_slice HO.out
          subst e7
          go_wp2_with (first | (go_at_call 8; refine (refrainlaw4_word.calls (k : Int) (wordB k) _ rfl).mono ?_; rintro e w4 ⟨rfl, hb4⟩; have HO4 := Aside0.mk (Kd.R_below HO.out hb4); have HB4 := Aside0.mk (HB3.out.trans (hb4.mono HB3.out.size)); clear hb4) | ((with_reducible refine gate_builtin (b := .append) (xs := #[.tmp 25, .tmp 28]) rfl ?_); at_builtin; refine Kd.R_append Kd.string (w0 := w1) w1.heap.size rfl (.tmp 25) (.tmp 28) 39 9 (.string ⟨#[]⟩) 16 rfl Tryz.underlying39 info9 rfl (by decide) (by omega) (.slice A7 Y.length c7) Y (wordB k) [.string (wordB k)] (fun _ => True) (fun _ => False) rfl rfl ?aP (fun _ hk => hk.elim) ?aF HO4.out ?aB ?aS ?aL ?_; (case aP => exact rfl); (case aF => exact fun _ _ => trivial); (case aB => exact HB4.out); (case aS => exact HB4.out.size); (case aL => omega); intro v5 w5 ho hb hg hat; rw [← HWS.out] at ho; have HO5 := Aside0.mk ho; have HB5 := Aside0.mk hb; clear ho hb hg hat))
          go_roundg (20 - (k + 1))
          case measure => omega
          case rel => exact ⟨k + 1, rfl, by omega, HO5, HB5⟩
        · have hk20 : k = 20 := by omega
          subst hk20
          obtain ⟨w3, rfl⟩ : ∃ w3 : World, w3 = wr := ⟨_, rfl⟩
          have hd2 : decide (((20 : Nat) : Int) < 20) = false := by decide
          obtain ⟨A7, c7, e7⟩ := Kd.R_slice HO.out
          subst e7
          have hln : (X ++ wds 20).length = X.length + 20 := by rw [List.length_append, wds_len]
          have hcc := (Kd.R_reads' HO.out).2.1
          rw [hln] at HO hcc ⊢
          have HO3 := HO
          have HL3 := Aside0.mk (Kd.R_below HL.out HB3.out)
          have HW3 := Aside0.mk (Kd.R_below HW.out HB3.out)
          have HBB := Aside0.mk (HB.out.trans (HB3.out.mono HB.out.size))
          have hlim := HN.out
          have hwl : (wide (rows.take i)).length = i := by rw [wide_len, List.length_take]; omega
          have htl : (rows.take i).length = i := by rw [List.length_take]; omega
          have htx : (X ++ wds 20).take X.length = X := by rw [List.take_append_of_le_length (Nat.le_refl _), List.take_length]
          obtain ⟨AL, cL, eL⟩ := Kd.R_slice HL.out
          subst eL
          obtain ⟨AW, cW, eW⟩ := Kd.R_slice HW.out
          subst eW
          rw [htl] at HL3 HNE ⊢
          rw [hwl] at HW3 HNE ⊢
          have HTX := Aside0.mk htx
          have hz := pw_cell_below HBB.out HX0.out
          have HS1 := Aside0.mk HB.out.size
          have HWL := Aside0.mk hwl
          have HTL := Aside0.mk htl
          clear hwl htl
          clear HO HB HB3 HL HW htx
          go_wp2_with (first | ((with_reducible refine gate_builtin (b := .append) (xs := #[.tmp 30, .tmp 32]) rfl ?_); at_builtin; refine Kd.R_append vw (w0 := w) w.heap.size rfl (.tmp 30) (.tmp 32) 25 39 (.slice none 0 0) 24 rfl Tryz.underlying25 infoStrs rfl (by decide) (by omega) (.slice AW i cW) (wide (rows.take i)) (X ++ wds 20) [.slice A7 (X.length + 20) c7] (fun _ => True) (fun k => some k ≠ (Value.slice AW i cW).ownBlock) rfl rfl ?aP (fun _ hk => ⟨trivial, hk⟩) ?aF HW3.out ?aB ?aS ?aL ?_; (case aP => exact vw.M_mono (fun _ hk => hk.2) (vw_apart (vw_all (Kd.R_mono (Kd.R_lower HO3.out HS1.out) (fun _ _ => trivial))) HW3.out)); (case aF => exact fun _ _ => trivial); (case aB => exact HBB.out); (case aS => exact HBB.out.size); (case aL => rw [HWL.out]; omega); intro v5 w5 ho hb hg5 hat5; rw [← HWD.out] at ho; have HO5 := Aside0.mk ho; have HB5 := Aside0.mk hb; have hoth := R_vw_other HL3.out HW3.out HNE.out hg5 hat5; have HL5 := Aside0.mk hoth.1; have HNE5 := Aside0.mk hoth.2; have HX5 := Aside0.mk (R_str_other HO3.out HW3.out hg5); have hz5 := pw_cell_below HB5.out HX0.out; obtain ⟨A5, c5, e5⟩ := Kd.R_slice HO5.out; subst e5; clear ho hb hg5 hat5 hoth) | ((with_reducible refine gate_builtin (b := .append) (xs := #[.tmp 34, .tmp 44]) rfl ?_); at_builtin; refine Kd.R_append vw (w0 := w) w.heap.size rfl (.tmp 34) (.tmp 44) 25 39 (.slice none 0 0) 24 rfl Tryz.underlying25 infoStrs rfl (by decide) (by omega) (.slice AL i cL) (rows.take i) X [.slice A7 X.length (X.length + 20)] (fun _ => True) (fun k => some k ≠ (Value.slice AL i cL).ownBlock) rfl rfl ?aP (fun _ hk => ⟨trivial, hk⟩) ?aF HL5.out ?aB ?aS ?aL ?_; (case aP => have hv := vw_take (m := X.length) (c' := X.length + 20) (Kd.R_mono (ok' := fun _ => True) (Kd.R_lower HX5.out HS1.out) (fun _ _ => trivial)) (by rw [List.length_append]; omega) (by omega); rw [HTX.out] at hv; exact vw.M_mono (fun _ hk => hk.2) (vw_apart hv HL5.out)); (case aF => exact fun _ _ => trivial); (case aB => exact HB5.out); (case aS => exact HB5.out.size); (case aL => rw [HTL.out]; omega); intro v6 w6 ho hb hg6 hat6; rw [← HTK.out] at ho; have HO6 := Aside0.mk ho; have HB6 := Aside0.mk hb; clear ho hb))
          go_roundg (rows.length - (i + 1))
          case measure => omega
          case rel =>
            have hoth := R_vw_other HO5.out HL5.out (fun k hk e => HNE5.out k e hk) hg6 hat6
            exact ⟨i + 1, rfl, by omega, HO6, ⟨hoth.1⟩, ⟨fun k hk e => hoth.2 k e hk⟩, HB6⟩
    · have hie : i = rows.length := by omega
      subst hie
      have hd : decide (((rows.length : Nat) : Int) < (rows.length : Int)) = false := decide_eq_false (by omega)
      rw [List.take_length] at HL HW
      have HW0 : Aside0 (Kd.R vw 39 wr w.heap.size (fun _ => True) u4 (rows ++ ones 0)) := ⟨by have := HL.out; rwa [show ones 0 = [] from rfl, List.append_nil]⟩
      clear HL
      go_wp2
      go_loopg [4, 9] 20 (fun g v4 v9 wx => ∃ k : Nat, v9 = .int .i64 k ∧ k + g = 20 ∧ Aside0 (Kd.R vw 39 wx w.heap.size (fun _ => True) v4 (rows ++ ones k)) ∧ Aside0 (Kd.R vw 39 wx w.heap.size (fun _ => True) u5 (wide rows)) ∧ Aside0 (∀ k, v4.ownBlock = some k → u5.ownBlock ≠ some k) ∧ Aside0 (Below w.heap.size w wx))
      case atStart => exact ⟨0, rfl, by omega, HW0, HW, HNE, HB⟩
      case round =>
        clear HW0 HW HNE HB hd
        obtain ⟨k, rfl, hkg, HL, HW, HNE, HB⟩ := hrel
        by_cases hk : k < 20
        · obtain ⟨w3, rfl⟩ : ∃ w3 : World, w3 = wr := ⟨_, rfl⟩
          have hd2 : decide ((k : Int) < 20) = true := decide_eq_true (by omega)
          have hlk : (rows ++ ones k).length ≤ 5864062014654 := by have := HN.out; rw [List.length_append, ones_len]; omega
          have hws : rows ++ ones (k + 1) = rows ++ ones k ++ [[wordB k]] := by rw [ones_succ, List.append_assoc]
          have HWS := Aside0.mk hws
          clear hws
          obtain ⟨Y, hY⟩ : ∃ Y, rows ++ ones k = Y := ⟨_, rfl⟩
          rw [hY] at hlk HL HWS
          clear hY
          obtain ⟨A7, c7, e7⟩ := Kd.R_slice HL.out
          subst e7
          go_wp2_with (first | (go_at_call 8; refine (refrainlaw4_word.calls (k : Int) (wordB k) _ rfl).mono ?_; rintro e w4 ⟨rfl, hb4⟩; have HL4 := Aside0.mk (Kd.R_below HL.out hb4); have HW4 := Aside0.mk (Kd.R_below HW.out hb4); have HB4 := Aside0.mk (HB.out.trans (hb4.mono HB.out.size)); clear hb4) | ((with_reducible refine gate_builtin (b := .append) (xs := #[.tmp 50, .tmp 54]) rfl ?_); at_builtin; refine Kd.R_append vw (w0 := w) w.heap.size rfl (.tmp 50) (.tmp 54) 25 39 (.slice none 0 0) 24 rfl Tryz.underlying25 infoStrs rfl (by decide) (by omega) (.slice A7 Y.length c7) Y [wordB k] [.slice (some ⟨w4.heap.size, 0, none⟩) 1 1] (fun _ => True) (fun k => some k ≠ (Value.slice A7 Y.length c7).ownBlock) rfl ?aX ?aP (fun _ hk => ⟨trivial, hk⟩) ?aF (Kd.R_alloc HL4.out _) ?aB ?aS ?aL ?_; (case aX => rw [World.size_alloc]; rfl); (case aP => exact vw.M_mono (fun _ hk => hk.2) (vw_apart (vw_all (R_str_one (wordB k) HB4.out.size)) (Kd.R_alloc HL4.out _))); (case aF => exact fun _ _ => trivial); (case aB => exact below_alloc HB4.out _); (case aS => rw [World.size_alloc]; have := HB4.out.size; omega); (case aL => omega); intro v5_ w5 ho hb hg hat; rw [← HWS.out] at ho; have HO5 := Aside0.mk ho; have HB5 := Aside0.mk hb; have hoth := R_vw_other (Kd.R_alloc HW4.out _) (Kd.R_alloc HL4.out _) (fun k hk e => HNE.out k e hk) hg hat; have HW5 := Aside0.mk hoth.1; have HNE5 := Aside0.mk hoth.2; clear ho hb hg hat hoth))
          go_roundg (20 - (k + 1))
          case measure => omega
          case rel => exact ⟨k + 1, rfl, by omega, HO5, HW5, ⟨fun k hk e => HNE5.out k e hk⟩, HB5⟩
        · have hk20 : k = 20 := by omega
          subst hk20
          have hd2 : decide (((20 : Nat) : Int) < 20) = false := by decide
          go_wp2
          go_ret2
          exact ⟨_, _, rfl, HL.out, HW.out, HB.out⟩
end Go.Proofs.YtpkbhfdfgapmlaaGreatDoor.Pr
end

/-! ## text ExtUn -/
section
/- One row made roomy is found untouched: walked by hand. -/
namespace Go.Proofs.YtpkbhfdfgapmlaaGreatDoor.Pr
open Go Go.RowKit Go.Proofs.YtpkbhfdfgapmlaaGreatDoorW.PrintWords Go.Proofs.YtpkbhfdfgapmlaaGreatDoorW.PrintLast Go.Proofs.YtpkbhfdfgapmlaaGreatDoorW.PrintMore
set_option maxRecDepth 100000
set_option linter.unusedVariables false
set_option linter.unusedSimpArgs false
attribute [local go_sem ↓] Go.wp_at_zero Go.wp_at_succ
theorem unt_one (r : List ByteArray) (k : Nat) (h : k < 20) : rd_L1 ([r] ++ ones 20) (1 + (k : Int)) = [wordB k] := by
  show ([r] ++ ones 20).getD _ _ = _
  rw [show (1 + (k : Int)).toNat = [r].length + k from by simp; omega, List.getD_eq_getElem?_getD, List.getElem?_append_right (by omega), show [r].length + k - [r].length = k from by omega]
  unfold ones wds
  rw [List.getElem?_map, List.getElem?_map, List.getElem?_range h]
  rfl
theorem unt_mark (r : List ByteArray) (k : Nat) (h : k < 20) : rdOf ByteArray.empty (r ++ wds 20) ((r.length : Int) + (k : Int)) = wordB k := by
  show (r ++ wds 20).getD _ _ = _
  rw [show ((r.length : Int) + (k : Int)).toNat = r.length + k from by omega, List.getD_eq_getElem?_getD, List.getElem?_append_right (by omega), show r.length + k - r.length = k from by omega]
  unfold wds
  rw [List.getElem?_map, List.getElem?_range h]
  rfl
theorem pref_str {w : World} {A : Option Addr} {r : List ByteArray} (h : Kd.C Kd.string w A (r.length + 20) (r ++ wds 20)) : Kd.C Kd.string w A r.length r := by
  have e5 : (r ++ wds 20).length = r.length + 20 := by rw [List.length_append, wds_len]
  rw [← e5] at h
  have := Kd.C_take h (m := r.length) (by omega)
  rwa [List.take_append_of_le_length (Nat.le_refl _), List.take_length] at this
set_option maxHeartbeats 16000000 in
theorem unt1 (kQ : Nat) (r : List ByteArray) (A5 A6 A1 : Option Addr) (c5 c6 c1 : Nat) (w : World) (h5 : (Kd.slice 9 Kd.string).C w A5 21 ([r] ++ ones 20)) (hc5 : 21 ≤ c5) (h6 : (Kd.slice 9 Kd.string).C w A6 1 (wide [r])) (hc6 : 1 ≤ c6) (h1 : (Kd.slice 9 Kd.string).C w A1 1 [r]) (hc1 : 1 ≤ c1) (hr : r.length ≤ 1048577) (hQ : refrainlaw4_sameRow.f kQ r r = some true) :
    Calls Tryz.prog 13 #[.slice A5 21 c5, .slice A6 1 c6, .slice A1 1 c1] w fun e w' => e = .returned (.bool true) ∧ Below w.heap.size w w' := by
  have H5 := Aside0.mk h5
  have H6 := Aside0.mk h6
  have H1 := Aside0.mk h1
  have HQ := Aside0.mk hQ
  have HR := Aside0.mk hr
  clear h5 h6 h1 hQ hc5 hc6 hc1 hr
  go_enter Tryz.func13, Tryz.ntmps13
  go_wp2
  go_loopg [8] 20 (fun gk v8 wx => ∃ k : Nat, v8 = .int .i64 k ∧ k + gk = 20 ∧ Aside0 (Below w.heap.size w wx))
  case atStart => exact ⟨0, rfl, by omega, ⟨Below.refl _ _⟩⟩
  case round =>
    obtain ⟨k, rfl, hkg, HB⟩ := hrel
    by_cases hk : k < 20
    · have hd : decide ((k : Int) < 20) = true := decide_eq_true (by omega)
      have p5 : 0 ≤ 1 + (k : Int) := by omega
      have q5 : 1 + (k : Int) < ((21 : Nat) : Int) := by omega
      obtain ⟨ad, Ak, ck, e5, hx, hlk, hC⟩ := at_L1 (Kd.C_below H5.out HB.out) (1 + (k : Int)) p5 q5
      cases e5
      rw [unt_one r k hk] at hx hlk hC
      rw [show (1 + (k : Int)).toNat = 1 + k from by omega] at hx
      replace hx : wr.cell? (ad.add (1 + k)) = some (.slice Ak 1 ck) := hx
      obtain ⟨adk, ek, hxk⟩ := Kd.at_string hC 0 (by decide) (by simp)
      cases ek
      rw [show ((0 : Int)).toNat = 0 from rfl, Addr.add_zero'] at hxk
      replace hxk : wr.cell? adk = some (.string (wordB k)) := hxk
      clear hlk hC
      have q6 : 1 + (k : Int) < 21 := by omega
      have hsum : IntKind.i64.wrap (1 + (k : Int)) = 1 + (k : Int) := IntWalk.i64_in _ (by omega)
      have htn : (1 + (k : Int)).toNat = 1 + k := by omega
      have n1 : ((wordB k).toList == (wordB k).toList) = true := beq_self_eq_true _
      have n2 : ((wordB k).toList != (wordB k).toList) = false := bne_self_eq_false _
      have HSX : Aside0 (Below wr.heap.size wr wr) := ⟨Below.refl _ _⟩
      clear q5
      go_upto_region 7 with (fail)
      go_cut [43] (fun v43 wd => v43 = .bool false ∧ Aside0 (Below wr.heap.size wr wd))
      case first =>
        go_region_held3 (fun W' => W'.cell? (ad.add (1 + k)) = some (.slice (some adk) 1 ck) ∧ W'.cell? adk = some (.string (wordB k)) ∧ Aside0 (Below wr.heap.size wr W')) (refine ⟨evB hx ?_, evB hxk ?_, ?_⟩ <;> (repeat (first | assumption | exact HSX | exact And.right (And.right (by assumption)) | refine evD ?_ | refine evN ?_ | refine evC (by assumption) ?_ | refine evA ?_ | refine evS ?_))) ((go_at_call 8; (refine (refrainlaw4_word.calls (k : Int) (wordB k) _ rfl).mono ?_; rintro e w14 ⟨rfl, hb⟩)))
        all_goals go_wp2
        all_goals go_meet
        all_goals (exact ⟨rfl, And.right (And.right (by assumption))⟩)
      case rest =>
        obtain ⟨rfl, HY2⟩ := hcut
        have HY3 := Aside0.mk (below_step HB.out HY2.out)
        go_wp2
        go_roundg (20 - (k + 1))
        case measure => omega
        case rel => exact ⟨k + 1, by first | rfl | go_num, by omega, HY3⟩
    · have hd : decide ((k : Int) < 20) = false := decide_eq_false (by omega)
      have HB0 := HB
      clear HB
      go_wp2
      clear hk hkg hd
      go_loopg [9] 1 (fun gk v9 wx => ∃ i : Nat, v9 = .int .i64 i ∧ i + gk = 1 ∧ Aside0 (Below w.heap.size w wx))
      case atStart => exact ⟨0, rfl, by omega, HB0⟩
      case round =>
        clear HB0
        obtain ⟨i, rfl, hig, HB⟩ := hrel
        by_cases hi : i < 1
        · obtain rfl : i = 0 := by omega
          obtain ⟨ad5, A7, c7, e5, hx5, hl5, hC5⟩ := at_L1 (Kd.C_below H5.out HB.out) 0 (by decide) (by decide)
          cases e5
          obtain ⟨ad6, A8, c8, e6, hx6, hl6, hC6⟩ := at_L1 (Kd.C_below H6.out HB.out) 0 (by decide) (by decide)
          cases e6
          obtain ⟨ad1, Ar, cr, e1, hx1, hl1, hC1⟩ := at_L1 (Kd.C_below H1.out HB.out) 0 (by decide) (by decide)
          cases e1
          rw [show rd_L1 ([r] ++ ones 20) 0 = r from rfl] at hx5 hl5 hC5
          rw [show rd_L1 (wide [r]) 0 = r ++ wds 20 from rfl] at hx6 hl6 hC6
          rw [show rd_L1 [r] 0 = r from rfl] at hx1 hl1 hC1
          rw [show ((0 : Int)).toNat = 0 from rfl, Addr.add_zero'] at hx5 hx6 hx1
          rw [List.length_append, wds_len] at hx6 hl6 hC6
          have HL5 := Aside0.mk hl5
          have HL6 := Aside0.mk hl6
          have HL1 := Aside0.mk hl1
          have HC5 := Aside0.mk hC5
          have HC6 := Aside0.mk hC6
          have HC1 := Aside0.mk hC1
          have q7 : (r.length : Int) ≤ (c8 : Int) := by omega
          have q8 : (0 : Int) ≤ (r.length : Int) := by omega
          have hrn := HR.out
          clear hl5 hl6 hl1 hC5 hC6 hC1
          have HSX : Aside0 (Below wr.heap.size wr wr) := ⟨Below.refl _ _⟩
          go_upto_region 13 with (fail)
          go_cut [77] (fun v77 wd => v77 = .bool false ∧ Aside0 (Below wr.heap.size wr wd))
          case first =>
            go_region_held3 (fun W' => W'.cell? ad5 = some (.slice A7 r.length c7) ∧ W'.cell? ad6 = some (.slice A8 (r.length + 20) c8) ∧ W'.cell? ad1 = some (.slice Ar r.length cr) ∧ Aside0 (Below wr.heap.size wr W')) (refine ⟨evB hx5 ?_, evB hx6 ?_, evB hx1 ?_, ?_⟩ <;> (repeat (first | assumption | exact HSX | exact And.right (And.right (And.right (by assumption))) | refine evD ?_ | refine evN ?_ | refine evC (by assumption) ?_ | refine evA ?_ | refine evS ?_))) ((go_at_call 16; (first | (with_reducible refine (refrainlaw4_sameRow.calls kQ A7 c7 r Ar cr r true _ (Kd.C_below HC5.out (Aside0.out (by (repeat (first | assumption | exact HSX | exact And.right (And.right (And.right (by assumption))) | refine evD ?_ | refine evN ?_ | refine evC (by assumption) ?_ | refine evA ?_ | refine evS ?_))))) HL5.out (Kd.C_below HC1.out (Aside0.out (by (repeat (first | assumption | exact HSX | exact And.right (And.right (And.right (by assumption))) | refine evD ?_ | refine evN ?_ | refine evC (by assumption) ?_ | refine evA ?_ | refine evS ?_))))) HL1.out HQ.out).mono ?_) | (with_reducible refine (refrainlaw4_sameRow.calls kQ A8 c8 r Ar cr r true _ (Kd.C_below (pref_str HC6.out) (Aside0.out (by (repeat (first | assumption | exact HSX | exact And.right (And.right (And.right (by assumption))) | refine evD ?_ | refine evN ?_ | refine evC (by assumption) ?_ | refine evA ?_ | refine evS ?_))))) (by have := HL6.out; omega) (Kd.C_below HC1.out (Aside0.out (by (repeat (first | assumption | exact HSX | exact And.right (And.right (And.right (by assumption))) | refine evD ?_ | refine evN ?_ | refine evC (by assumption) ?_ | refine evA ?_ | refine evS ?_))))) HL1.out HQ.out).mono ?_)); rintro e w14 ⟨rfl, ⟨nd, rfl⟩⟩))
            all_goals go_wp2
            all_goals go_meet
            all_goals (exact ⟨rfl, And.right (And.right (And.right (by assumption)))⟩)
          case rest =>
            obtain ⟨rfl, HY2⟩ := hcut
            have HB3 := Aside0.mk (below_step HB.out HY2.out)
            replace HC6 := Aside0.mk (Kd.C_below HC6.out HY2.out)
            have hx6c := evB hx6 HY2
            clear hx5 hx6 hx1 HSX HY2 HB
            go_wp2
            obtain ⟨w9, hw9⟩ : ∃ w9 : World, w9 = wc := ⟨_, rfl⟩
            subst hw9
            go_loopg [11] 20 (fun gk v11 wx => ∃ j : Nat, v11 = .int .i64 j ∧ j + gk = 20 ∧ Aside0 (Below w9.heap.size w9 wx))
            case atStart => exact ⟨0, rfl, by omega, ⟨Below.refl _ _⟩⟩
            case round =>
              obtain ⟨j, rfl, hjg, HY⟩ := hrel
              by_cases hj : j < 20
              · have hd : decide ((j : Int) < 20) = true := decide_eq_true (by omega)
                have p5 : 0 ≤ (r.length : Int) + (j : Int) := by omega
                have q5 : (r.length : Int) + (j : Int) < ((r.length + 20 : Nat) : Int) := by omega
                have hx6' := pw_cell_below HY.out hx6c
                obtain ⟨a8, e8, hz⟩ := Kd.at_string (Kd.C_below HC6.out HY.out) ((r.length : Int) + (j : Int)) p5 q5
                cases e8
                rw [unt_mark r j hj, show ((r.length : Int) + (j : Int)).toNat = r.length + j from by omega] at hz
                have q6 : (r.length : Int) + (j : Int) < (r.length : Int) + 20 := by omega
                have hsum : IntKind.i64.wrap ((r.length : Int) + (j : Int)) = (r.length : Int) + (j : Int) := IntWalk.i64_in _ (by omega)
                have htn : ((r.length : Int) + (j : Int)).toNat = r.length + j := by omega
                have n1 : ((wordB j).toList == (wordB j).toList) = true := beq_self_eq_true _
                have n2 : ((wordB j).toList != (wordB j).toList) = false := bne_self_eq_false _
                have HSX : Aside0 (Below wr.heap.size wr wr) := ⟨Below.refl _ _⟩
                clear q5
                go_upto_region 18 with (fail)
                go_cut [93] (fun v93 wd => v93 = .bool false ∧ Aside0 (Below wr.heap.size wr wd))
                case first =>
                  go_region_held3 (fun W' => W'.cell? ad6 = some (.slice (some a8) (r.length + 20) c8) ∧ W'.cell? (a8.add (r.length + j)) = some (.string (wordB j)) ∧ Aside0 (Below wr.heap.size wr W')) (refine ⟨evB hx6' ?_, evB hz ?_, ?_⟩ <;> (repeat (first | assumption | exact HSX | exact And.right (And.right (by assumption)) | refine evD ?_ | refine evN ?_ | refine evC (by assumption) ?_ | refine evA ?_ | refine evS ?_))) ((go_at_call 8; (refine (refrainlaw4_word.calls (j : Int) (wordB j) _ rfl).mono ?_; rintro e w14 ⟨rfl, hb⟩)))
                  all_goals go_wp2
                  all_goals go_meet
                  all_goals (exact ⟨rfl, And.right (And.right (by assumption))⟩)
                case rest =>
                  obtain ⟨rfl, HY2⟩ := hcut
                  have HY3 := Aside0.mk (below_step HY.out HY2.out)
                  go_wp2
                  go_roundg (20 - (j + 1))
                  case measure => omega
                  case rel => exact ⟨j + 1, by first | rfl | go_num, by omega, HY3⟩
              · have hd : decide ((j : Int) < 20) = false := decide_eq_false (by omega)
                have HB4 := Aside0.mk (below_step HB3.out HY.out)
                go_wp2
                go_roundg 0
                case measure => omega
                case rel => exact ⟨1, by first | rfl | go_num, by omega, HB4⟩
        · have hd : decide ((i : Int) < 1) = false := decide_eq_false (by omega)
          go_wp2
          go_ret
          exact ⟨rfl, HB.out⟩
end Go.Proofs.YtpkbhfdfgapmlaaGreatDoor.Pr
end

/-! ## text Prx8 -/
section
namespace Go.Proofs.YtpkbhfdfgapmlaaGreatDoor.Pr
open Go.RowKit Go.Proofs.YtpkbhfdfgapmlaaGreatDoorW.PrintWords Go.Proofs.YtpkbhfdfgapmlaaGreatDoorW.PrintLast Go.Proofs.YtpkbhfdfgapmlaaGreatDoorW.PrintMore
attribute [local go_sem] max2_int min2_int max_two min_two max_three min_three max_four min_four   -- for this text's walks alone
attribute [local go_sem high] Go.Proofs.YtpkbhfdfgapmlaaGreatDoor.isSome_setCell
set_option maxRecDepth 100000
set_option linter.unusedVariables false
set_option linter.unusedSimpArgs false

/-! ### refrainref1_Valid: function 67 -/
def refrainref1_Valid.f (a0_0 : Int) (a0_1 : Int) (a0_2 : ByteArray) (a0_3 : Bool) : Option (Bool) := if a0_0 = 1 then (if a0_2.toList = ([] : List UInt8) then (some (!a0_3)) else (some false)) else (if a0_0 = 2 then (if a0_1 = 0 then (if a0_3 = true then (some false) else (some (decide ((a0_2.size : Int) ≤ 256)))) else (some false)) else (if a0_0 = 3 then (if a0_1 = 0 then (some (a0_2.toList == ([] : List UInt8))) else (some false)) else (some false)))
set_option maxHeartbeats 8000000 in
set_option maxRecDepth 100000 in
theorem refrainref1_Valid.calls (a0_0 : Int) (a0_1 : Int) (a0_2 : ByteArray) (a0_3 : Bool) (r : Bool) (w : World) (h : refrainref1_Valid.f a0_0 a0_1 a0_2 a0_3 = some r) :
    Calls Tryz.prog 67 #[.agg #[.int .i64 a0_0, .int .i64 a0_1, .string a0_2, .bool a0_3]] w fun e w' => e = .returned (.bool r) ∧ Below w.heap.size w w' := by
  have hu43 := Tryz.underlying43
  have HB := Aside0.mk (Below.refl w.heap.size w)
  have H : (if a0_0 = 1 then (if a0_2.toList = ([] : List UInt8) then (some (!a0_3)) else (some false)) else (if a0_0 = 2 then (if a0_1 = 0 then (if a0_3 = true then (some false) else (some (decide ((a0_2.size : Int) ≤ 256)))) else (some false)) else (if a0_0 = 3 then (if a0_1 = 0 then (some (a0_2.toList == ([] : List UInt8))) else (some false)) else (some false)))) = some r := h
  clear h
  by_cases c2 : a0_0 = 1
  · rw [if_pos c2] at H
    have c2b0 : (a0_0 == 1) = true := beq_iff_eq.mpr c2
    have c2b1 : (a0_0 != 1) = false := bne_eq_false_iff_eq.mpr c2
    clear c2
    by_cases c3 : a0_2.toList = ([] : List UInt8)
    · rw [if_pos c3] at H
      have c3b0 : (a0_2.toList == ([] : List UInt8)) = true := beq_iff_eq.mpr c3
      have c3b1 : (a0_2.toList != ([] : List UInt8)) = false := bne_eq_false_iff_eq.mpr c3
      clear c3
      obtain rfl := Option.some.inj H
      go_enter Tryz.func67, Tryz.ntmps67
      go_wp2_with (first | ((with_reducible refine gate_dst (N := 1) rfl ?_); (try (refine gate_guard (by rfl) ?_; dsimp only)); refine box_event ?hg (N := 1) ?hd (cs := #[.int .i64 a0_0, .int .i64 a0_1, .string a0_2, .bool a0_3]) (t := 43) ?hr ?_; (case hd => rfl); (case hg => rfl); (case hr => first | (go_simp; done) | (go_simp; rfl)); intro gb188 hg w4 hbox hb; have BK188 := Aside0.mk hbox; have GW188 := geA hg HB; have GE188 := geA hg HB; replace HB := bsA HB hb; clear hb hbox hg; have hcz5_0 : w4.cell? ⟨gb188, 0, none⟩ = some (.int .i64 a0_0) := (blk_cell BK188.out 0).trans rfl; have hcz5_1 : w4.cell? ⟨gb188, 1, none⟩ = some (.int .i64 a0_1) := (blk_cell BK188.out 1).trans rfl; have hcz5_2 : w4.cell? ⟨gb188, 2, none⟩ = some (.string a0_2) := (blk_cell BK188.out 2).trans rfl; have hcz5_3 : w4.cell? ⟨gb188, 3, none⟩ = some (.bool a0_3) := (blk_cell BK188.out 3).trans rfl; have hfz5_0 := blk_frozen BK188.out 0; have hfz5_1 := blk_frozen BK188.out 1; have hfz5_2 := blk_frozen BK188.out 2; have hfz5_3 := blk_frozen BK188.out 3))
      go_ret
      exact ⟨by first | rfl | (simp [errW_none, errW_some] <;> rfl) | (simp [*, errW_none, errW_some] <;> rfl), hbT HB.out⟩
    · rw [if_neg c3] at H
      have c3b0 : (a0_2.toList == ([] : List UInt8)) = false := beq_eq_false_iff_ne.mpr c3
      have c3b1 : (a0_2.toList != ([] : List UInt8)) = true := bne_iff_ne.mpr c3
      obtain rfl := Option.some.inj H
      go_enter Tryz.func67, Tryz.ntmps67
      go_wp2_with (first | ((with_reducible refine gate_dst (N := 1) rfl ?_); (try (refine gate_guard (by rfl) ?_; dsimp only)); refine box_event ?hg (N := 1) ?hd (cs := #[.int .i64 a0_0, .int .i64 a0_1, .string a0_2, .bool a0_3]) (t := 43) ?hr ?_; (case hd => rfl); (case hg => rfl); (case hr => first | (go_simp; done) | (go_simp; rfl)); intro gb188 hg w6 hbox hb; have BK188 := Aside0.mk hbox; have GW188 := geA hg HB; have GE188 := geA hg HB; replace HB := bsA HB hb; clear hb hbox hg; have hcz7_0 : w6.cell? ⟨gb188, 0, none⟩ = some (.int .i64 a0_0) := (blk_cell BK188.out 0).trans rfl; have hcz7_1 : w6.cell? ⟨gb188, 1, none⟩ = some (.int .i64 a0_1) := (blk_cell BK188.out 1).trans rfl; have hcz7_2 : w6.cell? ⟨gb188, 2, none⟩ = some (.string a0_2) := (blk_cell BK188.out 2).trans rfl; have hcz7_3 : w6.cell? ⟨gb188, 3, none⟩ = some (.bool a0_3) := (blk_cell BK188.out 3).trans rfl; have hfz7_0 := blk_frozen BK188.out 0; have hfz7_1 := blk_frozen BK188.out 1; have hfz7_2 := blk_frozen BK188.out 2; have hfz7_3 := blk_frozen BK188.out 3))
      go_ret
      exact ⟨by first | rfl | (simp [errW_none, errW_some] <;> rfl) | (simp [*, errW_none, errW_some] <;> rfl), hbT HB.out⟩
  · rw [if_neg c2] at H
    have c2b0 : (a0_0 == 1) = false := beq_eq_false_iff_ne.mpr c2
    have c2b1 : (a0_0 != 1) = true := bne_iff_ne.mpr c2
    by_cases c8 : a0_0 = 2
    · rw [if_pos c8] at H
      have c8b0 : (a0_0 == 2) = true := beq_iff_eq.mpr c8
      have c8b1 : (a0_0 != 2) = false := bne_eq_false_iff_eq.mpr c8
      clear c8
      by_cases c9 : a0_1 = 0
      · rw [if_pos c9] at H
        have c9b0 : (a0_1 == 0) = true := beq_iff_eq.mpr c9
        have c9b1 : (a0_1 != 0) = false := bne_eq_false_iff_eq.mpr c9
        clear c9
        by_cases c10 : a0_3 = true
        · subst c10
          have H1 : (some false) = some r := by rw [if_pos rfl] at H; exact H
          clear H
          have H := H1
          clear H1
          obtain rfl := Option.some.inj H
          go_enter Tryz.func67, Tryz.ntmps67
          go_wp2_with (first | ((with_reducible refine gate_dst (N := 1) rfl ?_); (try (refine gate_guard (by rfl) ?_; dsimp only)); refine box_event ?hg (N := 1) ?hd (cs := #[.int .i64 a0_0, .int .i64 a0_1, .string a0_2, .bool true]) (t := 43) ?hr ?_; (case hd => rfl); (case hg => rfl); (case hr => first | (go_simp; done) | (go_simp; rfl)); intro gb188 hg w11 hbox hb; have BK188 := Aside0.mk hbox; have GW188 := geA hg HB; have GE188 := geA hg HB; replace HB := bsA HB hb; clear hb hbox hg; have hcz12_0 : w11.cell? ⟨gb188, 0, none⟩ = some (.int .i64 a0_0) := (blk_cell BK188.out 0).trans rfl; have hcz12_1 : w11.cell? ⟨gb188, 1, none⟩ = some (.int .i64 a0_1) := (blk_cell BK188.out 1).trans rfl; have hcz12_2 : w11.cell? ⟨gb188, 2, none⟩ = some (.string a0_2) := (blk_cell BK188.out 2).trans rfl; have hcz12_3 : w11.cell? ⟨gb188, 3, none⟩ = some (.bool true) := (blk_cell BK188.out 3).trans rfl; have hfz12_0 := blk_frozen BK188.out 0; have hfz12_1 := blk_frozen BK188.out 1; have hfz12_2 := blk_frozen BK188.out 2; have hfz12_3 := blk_frozen BK188.out 3))
          go_ret
          exact ⟨by first | rfl | (simp [errW_none, errW_some] <;> rfl) | (simp [*, errW_none, errW_some] <;> rfl), hbT HB.out⟩
        · replace c10 := Bool.eq_false_iff.mpr c10
          subst c10
          have H1 : (some (decide ((a0_2.size : Int) ≤ 256))) = some r := by rw [if_neg (show ¬ (false = true) by decide)] at H; exact H
          clear H
          have H := H1
          clear H1
          obtain rfl := Option.some.inj H
          go_enter Tryz.func67, Tryz.ntmps67
          go_wp2_with (first | ((with_reducible refine gate_dst (N := 1) rfl ?_); (try (refine gate_guard (by rfl) ?_; dsimp only)); refine box_event ?hg (N := 1) ?hd (cs := #[.int .i64 a0_0, .int .i64 a0_1, .string a0_2, .bool false]) (t := 43) ?hr ?_; (case hd => rfl); (case hg => rfl); (case hr => first | (go_simp; done) | (go_simp; rfl)); intro gb188 hg w13 hbox hb; have BK188 := Aside0.mk hbox; have GW188 := geA hg HB; have GE188 := geA hg HB; replace HB := bsA HB hb; clear hb hbox hg; have hcz14_0 : w13.cell? ⟨gb188, 0, none⟩ = some (.int .i64 a0_0) := (blk_cell BK188.out 0).trans rfl; have hcz14_1 : w13.cell? ⟨gb188, 1, none⟩ = some (.int .i64 a0_1) := (blk_cell BK188.out 1).trans rfl; have hcz14_2 : w13.cell? ⟨gb188, 2, none⟩ = some (.string a0_2) := (blk_cell BK188.out 2).trans rfl; have hcz14_3 : w13.cell? ⟨gb188, 3, none⟩ = some (.bool false) := (blk_cell BK188.out 3).trans rfl; have hfz14_0 := blk_frozen BK188.out 0; have hfz14_1 := blk_frozen BK188.out 1; have hfz14_2 := blk_frozen BK188.out 2; have hfz14_3 := blk_frozen BK188.out 3))
          go_ret
          exact ⟨by first | rfl | (simp [errW_none, errW_some] <;> rfl) | (simp [*, errW_none, errW_some] <;> rfl), hbT HB.out⟩
      · rw [if_neg c9] at H
        have c9b0 : (a0_1 == 0) = false := beq_eq_false_iff_ne.mpr c9
        have c9b1 : (a0_1 != 0) = true := bne_iff_ne.mpr c9
        obtain rfl := Option.some.inj H
        go_enter Tryz.func67, Tryz.ntmps67
        go_wp2_with (first | ((with_reducible refine gate_dst (N := 1) rfl ?_); (try (refine gate_guard (by rfl) ?_; dsimp only)); refine box_event ?hg (N := 1) ?hd (cs := #[.int .i64 a0_0, .int .i64 a0_1, .string a0_2, .bool a0_3]) (t := 43) ?hr ?_; (case hd => rfl); (case hg => rfl); (case hr => first | (go_simp; done) | (go_simp; rfl)); intro gb188 hg w15 hbox hb; have BK188 := Aside0.mk hbox; have GW188 := geA hg HB; have GE188 := geA hg HB; replace HB := bsA HB hb; clear hb hbox hg; have hcz16_0 : w15.cell? ⟨gb188, 0, none⟩ = some (.int .i64 a0_0) := (blk_cell BK188.out 0).trans rfl; have hcz16_1 : w15.cell? ⟨gb188, 1, none⟩ = some (.int .i64 a0_1) := (blk_cell BK188.out 1).trans rfl; have hcz16_2 : w15.cell? ⟨gb188, 2, none⟩ = some (.string a0_2) := (blk_cell BK188.out 2).trans rfl; have hcz16_3 : w15.cell? ⟨gb188, 3, none⟩ = some (.bool a0_3) := (blk_cell BK188.out 3).trans rfl; have hfz16_0 := blk_frozen BK188.out 0; have hfz16_1 := blk_frozen BK188.out 1; have hfz16_2 := blk_frozen BK188.out 2; have hfz16_3 := blk_frozen BK188.out 3))
        go_ret
        exact ⟨by first | rfl | (simp [errW_none, errW_some] <;> rfl) | (simp [*, errW_none, errW_some] <;> rfl), hbT HB.out⟩
    · rw [if_neg c8] at H
      have c8b0 : (a0_0 == 2) = false := beq_eq_false_iff_ne.mpr c8
      have c8b1 : (a0_0 != 2) = true := bne_iff_ne.mpr c8
      by_cases c17 : a0_0 = 3
      · rw [if_pos c17] at H
        have c17b0 : (a0_0 == 3) = true := beq_iff_eq.mpr c17
        have c17b1 : (a0_0 != 3) = false := bne_eq_false_iff_eq.mpr c17
        clear c17
        by_cases c18 : a0_1 = 0
        · rw [if_pos c18] at H
          have c18b0 : (a0_1 == 0) = true := beq_iff_eq.mpr c18
          have c18b1 : (a0_1 != 0) = false := bne_eq_false_iff_eq.mpr c18
          clear c18
          obtain rfl := Option.some.inj H
          go_enter Tryz.func67, Tryz.ntmps67
          go_wp2_with (first | ((with_reducible refine gate_dst (N := 1) rfl ?_); (try (refine gate_guard (by rfl) ?_; dsimp only)); refine box_event ?hg (N := 1) ?hd (cs := #[.int .i64 a0_0, .int .i64 a0_1, .string a0_2, .bool a0_3]) (t := 43) ?hr ?_; (case hd => rfl); (case hg => rfl); (case hr => first | (go_simp; done) | (go_simp; rfl)); intro gb188 hg w19 hbox hb; have BK188 := Aside0.mk hbox; have GW188 := geA hg HB; have GE188 := geA hg HB; replace HB := bsA HB hb; clear hb hbox hg; have hcz20_0 : w19.cell? ⟨gb188, 0, none⟩ = some (.int .i64 a0_0) := (blk_cell BK188.out 0).trans rfl; have hcz20_1 : w19.cell? ⟨gb188, 1, none⟩ = some (.int .i64 a0_1) := (blk_cell BK188.out 1).trans rfl; have hcz20_2 : w19.cell? ⟨gb188, 2, none⟩ = some (.string a0_2) := (blk_cell BK188.out 2).trans rfl; have hcz20_3 : w19.cell? ⟨gb188, 3, none⟩ = some (.bool a0_3) := (blk_cell BK188.out 3).trans rfl; have hfz20_0 := blk_frozen BK188.out 0; have hfz20_1 := blk_frozen BK188.out 1; have hfz20_2 := blk_frozen BK188.out 2; have hfz20_3 := blk_frozen BK188.out 3))
          go_ret
          exact ⟨by first | rfl | (simp [errW_none, errW_some] <;> rfl) | (simp [*, errW_none, errW_some] <;> rfl), hbT HB.out⟩
        · rw [if_neg c18] at H
          have c18b0 : (a0_1 == 0) = false := beq_eq_false_iff_ne.mpr c18
          have c18b1 : (a0_1 != 0) = true := bne_iff_ne.mpr c18
          obtain rfl := Option.some.inj H
          go_enter Tryz.func67, Tryz.ntmps67
          go_wp2_with (first | ((with_reducible refine gate_dst (N := 1) rfl ?_); (try (refine gate_guard (by rfl) ?_; dsimp only)); refine box_event ?hg (N := 1) ?hd (cs := #[.int .i64 a0_0, .int .i64 a0_1, .string a0_2, .bool a0_3]) (t := 43) ?hr ?_; (case hd => rfl); (case hg => rfl); (case hr => first | (go_simp; done) | (go_simp; rfl)); intro gb188 hg w21 hbox hb; have BK188 := Aside0.mk hbox; have GW188 := geA hg HB; have GE188 := geA hg HB; replace HB := bsA HB hb; clear hb hbox hg; have hcz22_0 : w21.cell? ⟨gb188, 0, none⟩ = some (.int .i64 a0_0) := (blk_cell BK188.out 0).trans rfl; have hcz22_1 : w21.cell? ⟨gb188, 1, none⟩ = some (.int .i64 a0_1) := (blk_cell BK188.out 1).trans rfl; have hcz22_2 : w21.cell? ⟨gb188, 2, none⟩ = some (.string a0_2) := (blk_cell BK188.out 2).trans rfl; have hcz22_3 : w21.cell? ⟨gb188, 3, none⟩ = some (.bool a0_3) := (blk_cell BK188.out 3).trans rfl; have hfz22_0 := blk_frozen BK188.out 0; have hfz22_1 := blk_frozen BK188.out 1; have hfz22_2 := blk_frozen BK188.out 2; have hfz22_3 := blk_frozen BK188.out 3))
          go_ret
          exact ⟨by first | rfl | (simp [errW_none, errW_some] <;> rfl) | (simp [*, errW_none, errW_some] <;> rfl), hbT HB.out⟩
      · rw [if_neg c17] at H
        have c17b0 : (a0_0 == 3) = false := beq_eq_false_iff_ne.mpr c17
        have c17b1 : (a0_0 != 3) = true := bne_iff_ne.mpr c17
        obtain rfl := Option.some.inj H
        go_enter Tryz.func67, Tryz.ntmps67
        go_wp2_with (first | ((with_reducible refine gate_dst (N := 1) rfl ?_); (try (refine gate_guard (by rfl) ?_; dsimp only)); refine box_event ?hg (N := 1) ?hd (cs := #[.int .i64 a0_0, .int .i64 a0_1, .string a0_2, .bool a0_3]) (t := 43) ?hr ?_; (case hd => rfl); (case hg => rfl); (case hr => first | (go_simp; done) | (go_simp; rfl)); intro gb188 hg w23 hbox hb; have BK188 := Aside0.mk hbox; have GW188 := geA hg HB; have GE188 := geA hg HB; replace HB := bsA HB hb; clear hb hbox hg; have hcz24_0 : w23.cell? ⟨gb188, 0, none⟩ = some (.int .i64 a0_0) := (blk_cell BK188.out 0).trans rfl; have hcz24_1 : w23.cell? ⟨gb188, 1, none⟩ = some (.int .i64 a0_1) := (blk_cell BK188.out 1).trans rfl; have hcz24_2 : w23.cell? ⟨gb188, 2, none⟩ = some (.string a0_2) := (blk_cell BK188.out 2).trans rfl; have hcz24_3 : w23.cell? ⟨gb188, 3, none⟩ = some (.bool a0_3) := (blk_cell BK188.out 3).trans rfl; have hfz24_0 := blk_frozen BK188.out 0; have hfz24_1 := blk_frozen BK188.out 1; have hfz24_2 := blk_frozen BK188.out 2; have hfz24_3 := blk_frozen BK188.out 3))
        go_ret
        exact ⟨by first | rfl | (simp [errW_none, errW_some] <;> rfl) | (simp [*, errW_none, errW_some] <;> rfl), hbT HB.out⟩

/-! ### refrainref1_digits: function 68 -/
def refrainref1_digits.l0 : Nat → Int → ByteArray → Option (ByteArray)
  | 0, _, _ => none
  | k + 1, x0, x3 => if x0 ≥ 10 then ((some (([(IntKind.u64.wrap (48 + (Int.tmod x0 10))) % 256] : List Int) : List Int)).bind fun y189 => (if (strOfNums y189).size + x3.size ≤ 9223372036854775807 then (refrainref1_digits.l0 k (IntKind.u64.wrap (Int.tdiv x0 10)) ((strOfNums y189) ++ x3)) else (none))) else ((some (([(IntKind.u64.wrap (48 + x0)) % 256] : List Int) : List Int)).bind fun y192 => (if (strOfNums y192).size + x3.size ≤ 9223372036854775807 then (some ((strOfNums y192) ++ x3)) else (none)))
def refrainref1_digits.f (k : Nat) (a0 : Int) : Option (ByteArray) := refrainref1_digits.l0 k a0 (⟨#[]⟩ : ByteArray)
set_option maxRecDepth 100000 in
theorem refrainref1_digits.l0_zero : ∀ y0 y1, refrainref1_digits.l0 0 y0 y1 = none := fun _ _ => rfl
set_option maxRecDepth 100000 in
theorem refrainref1_digits.mono_l : ∀ k, (∀ y0 y1, LeO (refrainref1_digits.l0 k y0 y1) (refrainref1_digits.l0 (k + 1) y0 y1))
  | 0 => fun _ _ r h => by (unfold refrainref1_digits.l0 at h; cases h)
  | k + 1 => by
    have ih0 := refrainref1_digits.mono_l k
    · intro y0 y1
      unfold refrainref1_digits.l0
      repeat' first
      | (with_reducible exact ih0 _ _)
      | (with_reducible exact LeO.refl _)
      | (with_reducible exact LeO.none _)
      | (with_reducible refine LeO.ite ?_ ?_)
      | (with_reducible refine LeO.bind ?_ (fun _ => ?_))
      | exact ih0 _ _
      | exact LeO.none _
      | refine LeO.ite ?_ ?_
      | refine LeO.bind ?_ (fun _ => ?_)
set_option maxRecDepth 100000 in
theorem refrainref1_digits.mono : ∀ a0 k, LeO (refrainref1_digits.f k a0) (refrainref1_digits.f (k + 1) a0) := by
  intro a0 k
  have ih0 := refrainref1_digits.mono_l k
  unfold refrainref1_digits.f
  repeat' first
      | (with_reducible exact ih0 _ _)
      | (with_reducible exact LeO.refl _)
      | (with_reducible exact LeO.none _)
      | (with_reducible refine LeO.ite ?_ ?_)
      | (with_reducible refine LeO.bind ?_ (fun _ => ?_))
      | exact ih0 _ _
      | exact LeO.none _
      | refine LeO.ite ?_ ?_
      | refine LeO.bind ?_ (fun _ => ?_)
set_option maxHeartbeats 8000000 in
set_option maxRecDepth 100000 in
theorem refrainref1_digits.calls (k : Nat) (a0 : Int) (r : ByteArray) (w : World) (h : refrainref1_digits.f k a0 = some r) :
    Calls Tryz.prog 68 #[.int .u64 a0] w fun e w' => e = .returned (.string r) ∧ Below w.heap.size w w' := by
  have HB := Aside0.mk (Below.refl w.heap.size w)
  have H : (refrainref1_digits.l0 k a0 (⟨#[]⟩ : ByteArray)) = some r := h
  clear h
  have H' := Aside0.mk H
  clear H
  go_enter Tryz.func68, Tryz.ntmps68
  go_wp2
  go_loopg [0, 3] k (fun kq v0 v3 w' => ∃ (x0_1 : Int) (x3_1 : ByteArray), v0 = .int .u64 x0_1 ∧ v3 = .string x3_1 ∧ Aside0 (refrainref1_digits.l0 kq x0_1 x3_1 = some r) ∧ Aside0 (kq ≤ k) ∧ Aside0 (Below w.heap.size w w'))
  case atStart => exact ⟨(a0), ((⟨#[]⟩ : ByteArray)), (by first | rfl | (simp; done) | (simp [*]; done) | (simp; unfold wrap64; omega) | (congr 1; (try rw [Bool.eq_iff_iff]); simp [List.isEmpty_iff]; done)), (by first | rfl | (simp; done) | (simp [*]; done) | (simp; unfold wrap64; omega) | (congr 1; (try rw [Bool.eq_iff_iff]); simp [List.isEmpty_iff]; done)), H', ⟨Nat.le_refl _⟩, ⟨hbT HB.out⟩⟩
  case round =>
    clear H'
    obtain ⟨x0_1, x3_1, rfl, rfl, HA, HK1, HB⟩ := hrel
    cases gk with
    | zero => (have HA2 := HA.out; clear HA; revert HA2; rw [refrainref1_digits.l0_zero]; intro h_; cases h_)
    | succ k1 =>
      have H := HA.out
      clear HA
      simp only [refrainref1_digits.l0] at H
      by_cases c2 : x0_1 ≥ 10
      · rw [if_pos c2] at H
        have c2b0 : decide (10 ≤ x0_1) = true := decide_eq_true c2
        clear c2
        obtain ⟨y189, hy189⟩ : ∃ y_ : List Int, y_ = (([(IntKind.u64.wrap (48 + (Int.tmod x0_1 10))) % 256] : List Int)) := ⟨_, rfl⟩
        replace H : (if (strOfNums y189).size + x3_1.size ≤ 9223372036854775807 then (refrainref1_digits.l0 k1 (IntKind.u64.wrap (Int.tdiv x0_1 10)) ((strOfNums y189) ++ x3_1)) else (none)) = some r := by first | (rw [hy189]; with_reducible exact H) | (have H2_ := (Option.bind_some _ _).symm.trans H; rw [hy189]; with_reducible exact H2_) | (have H2_ := (Option.bind_some _ _).symm.trans H; with_reducible exact H2_) | with_reducible exact H | (rw [hy189]; exact H) | exact H
        have Ny189 := Aside0.mk hy189
        clear hy189
        by_cases c3 : (strOfNums y189).size + x3_1.size ≤ 9223372036854775807
        · rw [if_pos c3] at H
          have c3b0 := eq_true c3
          have c3b1 : decide ((strOfNums y189).size + x3_1.size ≤ 9223372036854775807) = true := decide_eq_true c3
          try have c3b2 : (9223372036854775807 < (strOfNums y189).size + x3_1.size) = False := eq_false (Nat.not_lt.2 c3)
          have H' := Aside0.mk H
          clear H
          go_wp2_with (first | ((with_reducible refine gate_dst (N := 10) rfl ?_); refine Kd.R_lit (Kd.int .u8) _ 5 ?hg (N := 10) ?hd (xs := ([(IntKind.u64.wrap (48 + (Int.tmod x0_1 10))) % 256] : List Int)) (inner := [.int .u8 ((IntKind.u64.wrap (48 + (Int.tmod x0_1 10))) % 256)]) (ok := fun _ => True) (okp := fun _ => True) ?hr ?hp (fun _ hk => hk) trivial (Below.refl _ _) (Nat.le_refl _) (by simp) ?_; (case hd => rfl); (case hg => rfl); (case hr => first | (go_simp; done) | (go_simp; rfl)); (case hp => exact (Reps.one (show Kd.M (Kd.int .u8) _ _ _ ((IntKind.u64.wrap (48 + (Int.tmod x0_1 10))) % 256) [.int .u8 ((IntKind.u64.wrap (48 + (Int.tmod x0_1 10))) % 256)] from rfl) (Reps.none _ _))); intro v190 w4 ho5 hb hg_ hnew_; clear hg_ hnew_; (first | rw [← Ny189.out] at ho5 | (simp only [Int.reduceToNat] at ho5; rw [← Ny189.out] at ho5)); have HO191 := Aside0.mk (Kd.R_lower ho5 (below_size (hbT HB.out))); replace HB := bsA HB hb; clear hb ho5; have hcv6 := own_string (P := Tryz.prog) Tryz.underlying71 Tryz.underlying5 Tryz.underlying9 (Kd.own_of_R HO191.out)))
          go_roundg k1
          case measure => have := HK1.out; omega
          case rel => exact ⟨(IntKind.u64.wrap (Int.tdiv x0_1 10)), ((strOfNums y189) ++ x3_1), (by first | rfl | (simp; done) | (simp [*]; done) | (simp; unfold wrap64; omega) | (congr 1; (try rw [Bool.eq_iff_iff]); simp [List.isEmpty_iff]; done)), (by first | rfl | (simp; done) | (simp [*]; done) | (simp; unfold wrap64; omega) | (congr 1; (try rw [Bool.eq_iff_iff]); simp [List.isEmpty_iff]; done)), H', ⟨by have := HK1.out; omega⟩, ⟨hbT HB.out⟩⟩
        · rw [if_neg c3] at H
          exact absurd H (by simp)
      · rw [if_neg c2] at H
        have c2b0 : decide (10 ≤ x0_1) = false := decide_eq_false c2
        clear c2
        obtain ⟨y192, hy192⟩ : ∃ y_ : List Int, y_ = (([(IntKind.u64.wrap (48 + x0_1)) % 256] : List Int)) := ⟨_, rfl⟩
        replace H : (if (strOfNums y192).size + x3_1.size ≤ 9223372036854775807 then (some ((strOfNums y192) ++ x3_1)) else (none)) = some r := by first | (rw [hy192]; with_reducible exact H) | (have H2_ := (Option.bind_some _ _).symm.trans H; rw [hy192]; with_reducible exact H2_) | (have H2_ := (Option.bind_some _ _).symm.trans H; with_reducible exact H2_) | with_reducible exact H | (rw [hy192]; exact H) | exact H
        have Ny192 := Aside0.mk hy192
        clear hy192
        by_cases c7 : (strOfNums y192).size + x3_1.size ≤ 9223372036854775807
        · rw [if_pos c7] at H
          have c7b0 := eq_true c7
          have c7b1 : decide ((strOfNums y192).size + x3_1.size ≤ 9223372036854775807) = true := decide_eq_true c7
          try have c7b2 : (9223372036854775807 < (strOfNums y192).size + x3_1.size) = False := eq_false (Nat.not_lt.2 c7)
          obtain rfl := Option.some.inj H
          go_wp2_with (first | ((with_reducible refine gate_dst (N := 19) rfl ?_); refine Kd.R_lit (Kd.int .u8) _ 5 ?hg (N := 19) ?hd (xs := ([(IntKind.u64.wrap (48 + x0_1)) % 256] : List Int)) (inner := [.int .u8 ((IntKind.u64.wrap (48 + x0_1)) % 256)]) (ok := fun _ => True) (okp := fun _ => True) ?hr ?hp (fun _ hk => hk) trivial (Below.refl _ _) (Nat.le_refl _) (by simp) ?_; (case hd => rfl); (case hg => rfl); (case hr => first | (go_simp; done) | (go_simp; rfl)); (case hp => exact (Reps.one (show Kd.M (Kd.int .u8) _ _ _ ((IntKind.u64.wrap (48 + x0_1)) % 256) [.int .u8 ((IntKind.u64.wrap (48 + x0_1)) % 256)] from rfl) (Reps.none _ _))); intro v193 w8 ho9 hb hg_ hnew_; clear hg_ hnew_; (first | rw [← Ny192.out] at ho9 | (simp only [Int.reduceToNat] at ho9; rw [← Ny192.out] at ho9)); have HO194 := Aside0.mk (Kd.R_lower ho9 (below_size (hbT HB.out))); replace HB := bsA HB hb; clear hb ho9; have hcv10 := own_string (P := Tryz.prog) Tryz.underlying71 Tryz.underlying5 Tryz.underlying9 (Kd.own_of_R HO194.out)))
          go_ret
          exact ⟨by first | rfl | (simp [errW_none, errW_some] <;> rfl) | (simp [*, errW_none, errW_some] <;> rfl), hbT HB.out⟩
        · rw [if_neg c7] at H
          exact absurd H (by simp)

/-! ### refrainref1_Hex: function 86 -/
def refrainref1_Hex.f (a0 : Int) : Option (Int) := if a0 < 10 then (some ((wrap64 (48 + a0)) % 256)) else (some ((wrap64 ((wrap64 (97 + a0)) - 10)) % 256))
set_option maxHeartbeats 8000000 in
set_option maxRecDepth 100000 in
theorem refrainref1_Hex.calls (a0 : Int) (r : Int) (w : World) (h : refrainref1_Hex.f a0 = some r) :
    Calls Tryz.prog 86 #[.int .i64 a0] w fun e w' => e = .returned (.int .u8 r) ∧ Drawn0 w w' := by
  have H : (if a0 < 10 then (some ((wrap64 (48 + a0)) % 256)) else (some ((wrap64 ((wrap64 (97 + a0)) - 10)) % 256))) = some r := h
  clear h
  by_cases c2 : a0 < 10
  · rw [if_pos c2] at H
    have c2b0 : decide (a0 < 10) = true := decide_eq_true c2
    clear c2
    obtain rfl := Option.some.inj H
    go_enter Tryz.func86, Tryz.ntmps86
    go_wp2
    go_ret
    exact ⟨by first | rfl | (simp; done) | (simp [*]; done) | (simp; unfold wrap64; omega) | (congr 1; (try rw [Bool.eq_iff_iff]); simp [List.isEmpty_iff]; done), by repeat (first | exact Drawn0.refl _ | apply Drawn0.step)⟩
  · rw [if_neg c2] at H
    have c2b0 : decide (a0 < 10) = false := decide_eq_false c2
    clear c2
    obtain rfl := Option.some.inj H
    go_enter Tryz.func86, Tryz.ntmps86
    go_wp2
    go_ret
    exact ⟨by first | rfl | (simp; done) | (simp [*]; done) | (simp; unfold wrap64; omega) | (congr 1; (try rw [Bool.eq_iff_iff]); simp [List.isEmpty_iff]; done), by repeat (first | exact Drawn0.refl _ | apply Drawn0.step)⟩

/-! ### refrainref1_quoted: function 69 -/
mutual
def refrainref1_quoted.l0 : Nat → ByteArray → List Int → Int → Option (ByteArray)
  | 0, _, _, _ => none
  | k + 1, x0, x3, x4 => if x4 < (x0.size : Int) then (if 0 ≤ x4 then (if (wrap64 (bt x0 x4)) = 34 then (refrainref1_quoted.j1 k x0 x3 x4 (wrap64 (bt x0 x4)) true) else (refrainref1_quoted.j1 k x0 x3 x4 (wrap64 (bt x0 x4)) ((wrap64 (bt x0 x4)) == 92))) else (none)) else (if x3.length < 140737488355328 then (some (strOfNums (x3 ++ [34]))) else (none))
def refrainref1_quoted.j1 : Nat → ByteArray → List Int → Int → Int → Bool → Option (ByteArray)
  | 0, _, _, _, _, _ => none
  | k + 1, x0, x3, x4, x5, x26 => if x26 = true then ((some (([92, (x5) % 256] : List Int) : List Int)).bind fun y201 => (if x3.length + y201.length < 140737488355328 then (refrainref1_quoted.l0 k x0 (x3 ++ y201) (wrap64 (x4 + 1))) else (none))) else (if x5 = 10 then ((some (([92, 110] : List Int) : List Int)).bind fun y207 => (if x3.length + y207.length < 140737488355328 then (refrainref1_quoted.l0 k x0 (x3 ++ y207) (wrap64 (x4 + 1))) else (none))) else (if x5 = 9 then ((some (([92, 116] : List Int) : List Int)).bind fun y213 => (if x3.length + y213.length < 140737488355328 then (refrainref1_quoted.l0 k x0 (x3 ++ y213) (wrap64 (x4 + 1))) else (none))) else (if x5 ≥ 32 then (refrainref1_quoted.j2 k x0 x3 x4 x5 (decide (x5 ≤ 126))) else (refrainref1_quoted.j2 k x0 x3 x4 x5 false))))
def refrainref1_quoted.j2 : Nat → ByteArray → List Int → Int → Int → Bool → Option (ByteArray)
  | 0, _, _, _, _, _ => none
  | k + 1, x0, x3, x4, x5, x50 => if x50 = true then (if x3.length < 140737488355328 then (refrainref1_quoted.l0 k x0 (x3 ++ [(x5) % 256]) (wrap64 (x4 + 1))) else (none)) else ((refrainref1_Hex.f (wrap64 (Int.tdiv x5 16))).bind fun t222 => ((refrainref1_Hex.f (Int.tmod x5 16)).bind fun t223 => ((some (([92, 120, t222, t223] : List Int) : List Int)).bind fun y224 => (if x3.length + y224.length < 140737488355328 then (refrainref1_quoted.l0 k x0 (x3 ++ y224) (wrap64 (x4 + 1))) else (none)))))
end
def refrainref1_quoted.f (k : Nat) (a0 : ByteArray) : Option (ByteArray) := refrainref1_quoted.l0 k a0 (([34] : List Int)) 0
set_option maxRecDepth 100000 in
theorem refrainref1_quoted.l0_zero : ∀ y0 y1 y2, refrainref1_quoted.l0 0 y0 y1 y2 = none := fun _ _ _ => rfl
set_option maxRecDepth 100000 in
theorem refrainref1_quoted.j1_zero : ∀ y0 y1 y2 y3 y4, refrainref1_quoted.j1 0 y0 y1 y2 y3 y4 = none := fun _ _ _ _ _ => rfl
set_option maxRecDepth 100000 in
theorem refrainref1_quoted.j2_zero : ∀ y0 y1 y2 y3 y4, refrainref1_quoted.j2 0 y0 y1 y2 y3 y4 = none := fun _ _ _ _ _ => rfl
set_option maxRecDepth 100000 in
theorem refrainref1_quoted.mono_l : ∀ k, (∀ y0 y1 y2, LeO (refrainref1_quoted.l0 k y0 y1 y2) (refrainref1_quoted.l0 (k + 1) y0 y1 y2)) ∧ (∀ y0 y1 y2 y3 y4, LeO (refrainref1_quoted.j1 k y0 y1 y2 y3 y4) (refrainref1_quoted.j1 (k + 1) y0 y1 y2 y3 y4)) ∧ (∀ y0 y1 y2 y3 y4, LeO (refrainref1_quoted.j2 k y0 y1 y2 y3 y4) (refrainref1_quoted.j2 (k + 1) y0 y1 y2 y3 y4))
  | 0 => ⟨fun _ _ _ r h => by (unfold refrainref1_quoted.l0 at h; cases h), fun _ _ _ _ _ r h => by (unfold refrainref1_quoted.j1 at h; cases h), fun _ _ _ _ _ r h => by (unfold refrainref1_quoted.j2 at h; cases h)⟩
  | k + 1 => by
    obtain ⟨ih0, ih1, ih2⟩ := refrainref1_quoted.mono_l k
    refine ⟨?_, ?_, ?_⟩
    · intro y0 y1 y2
      unfold refrainref1_quoted.l0
      repeat' first
      | (with_reducible exact ih0 _ _ _)
      | (with_reducible exact ih1 _ _ _ _ _)
      | (with_reducible exact ih2 _ _ _ _ _)
      | (with_reducible exact LeO.refl _)
      | (with_reducible exact LeO.none _)
      | (with_reducible refine LeO.ite ?_ ?_)
      | (with_reducible refine LeO.bind ?_ (fun _ => ?_))
      | exact ih0 _ _ _
      | exact ih1 _ _ _ _ _
      | exact ih2 _ _ _ _ _
      | exact LeO.none _
      | refine LeO.ite ?_ ?_
      | refine LeO.bind ?_ (fun _ => ?_)
    · intro y0 y1 y2 y3 y4
      unfold refrainref1_quoted.j1
      repeat' first
      | (with_reducible exact ih0 _ _ _)
      | (with_reducible exact ih1 _ _ _ _ _)
      | (with_reducible exact ih2 _ _ _ _ _)
      | (with_reducible exact LeO.refl _)
      | (with_reducible exact LeO.none _)
      | (with_reducible refine LeO.ite ?_ ?_)
      | (with_reducible refine LeO.bind ?_ (fun _ => ?_))
      | exact ih0 _ _ _
      | exact ih1 _ _ _ _ _
      | exact ih2 _ _ _ _ _
      | exact LeO.none _
      | refine LeO.ite ?_ ?_
      | refine LeO.bind ?_ (fun _ => ?_)
    · intro y0 y1 y2 y3 y4
      unfold refrainref1_quoted.j2
      repeat' first
      | (with_reducible exact ih0 _ _ _)
      | (with_reducible exact ih1 _ _ _ _ _)
      | (with_reducible exact ih2 _ _ _ _ _)
      | (with_reducible exact LeO.refl _)
      | (with_reducible exact LeO.none _)
      | (with_reducible refine LeO.ite ?_ ?_)
      | (with_reducible refine LeO.bind ?_ (fun _ => ?_))
      | exact ih0 _ _ _
      | exact ih1 _ _ _ _ _
      | exact ih2 _ _ _ _ _
      | exact LeO.none _
      | refine LeO.ite ?_ ?_
      | refine LeO.bind ?_ (fun _ => ?_)
set_option maxRecDepth 100000 in
theorem refrainref1_quoted.mono : ∀ a0 k, LeO (refrainref1_quoted.f k a0) (refrainref1_quoted.f (k + 1) a0) := by
  intro a0 k
  obtain ⟨ih0, ih1, ih2⟩ := refrainref1_quoted.mono_l k
  unfold refrainref1_quoted.f
  repeat' first
      | (with_reducible exact ih0 _ _ _)
      | (with_reducible exact ih1 _ _ _ _ _)
      | (with_reducible exact ih2 _ _ _ _ _)
      | (with_reducible exact LeO.refl _)
      | (with_reducible exact LeO.none _)
      | (with_reducible refine LeO.ite ?_ ?_)
      | (with_reducible refine LeO.bind ?_ (fun _ => ?_))
      | exact ih0 _ _ _
      | exact ih1 _ _ _ _ _
      | exact ih2 _ _ _ _ _
      | exact LeO.none _
      | refine LeO.ite ?_ ?_
      | refine LeO.bind ?_ (fun _ => ?_)
set_option maxHeartbeats 8000000 in
set_option maxRecDepth 100000 in
theorem refrainref1_quoted.calls (k : Nat) (a0 : ByteArray) (r : ByteArray) (w : World) (h : refrainref1_quoted.f k a0 = some r) :
    Calls Tryz.prog 69 #[.string a0] w fun e w' => e = .returned (.string r) ∧ Below w.heap.size w w' := by
  have HB := Aside0.mk (Below.refl w.heap.size w)
  have H : (refrainref1_quoted.l0 k a0 (([34] : List Int)) 0) = some r := h
  clear h
  obtain ⟨y195, hy195⟩ : ∃ y_ : List Int, y_ = (([34] : List Int)) := ⟨_, rfl⟩
  replace H : (refrainref1_quoted.l0 k a0 y195 0) = some r := by first | (rw [hy195]; with_reducible exact H) | (have H2_ := (Option.bind_some _ _).symm.trans H; rw [hy195]; with_reducible exact H2_) | (have H2_ := (Option.bind_some _ _).symm.trans H; with_reducible exact H2_) | with_reducible exact H | (rw [hy195]; exact H) | exact H
  have Ny195 := Aside0.mk hy195
  clear hy195
  have H' := Aside0.mk H
  clear H
  go_enter Tryz.func69, Tryz.ntmps69
  go_wp2_with (first | ((with_reducible refine gate_dst (N := 6) rfl ?_); refine Kd.R_lit (Kd.int .u8) _ 5 ?hg (N := 6) ?hd (xs := ([34] : List Int)) (inner := [.int .u8 34]) (ok := fun _ => True) (okp := fun _ => True) ?hr ?hp (fun _ hk => hk) trivial (Below.refl _ _) (Nat.le_refl _) (by simp) ?_; (case hd => rfl); (case hg => rfl); (case hr => first | (go_simp; done) | (go_simp; rfl)); (case hp => exact (Reps.one (show Kd.M (Kd.int .u8) _ _ _ 34 [.int .u8 34] from rfl) (Reps.none _ _))); intro v196 w2 ho3 hb hg_ hnew_; clear hg_ hnew_; (first | rw [← Ny195.out] at ho3 | (simp only [Int.reduceToNat] at ho3; rw [← Ny195.out] at ho3)); have HO197 := Aside0.mk (Kd.R_lower ho3 (below_size (hbT HB.out))); replace HB := bsA HB hb; clear hb ho3))
  go_loopg [3, 4] k (fun kq v3 v4 w' => ∃ (x3_1 : List Int) (x4_1 : Int), v4 = .int .i64 x4_1 ∧ Aside0 (refrainref1_quoted.l0 kq a0 x3_1 x4_1 = some r) ∧ Aside0 (kq ≤ k) ∧ Aside0 (Kd.R (Kd.int .u8) 5 w' w.heap.size (fun _ => True) v3 x3_1) ∧ Aside0 (Below w.heap.size w w'))
  case atStart => exact ⟨(y195), (0), (by first | rfl | (simp; done) | (simp [*]; done) | (simp; unfold wrap64; omega) | (congr 1; (try rw [Bool.eq_iff_iff]); simp [List.isEmpty_iff]; done)), H', ⟨Nat.le_refl _⟩, ⟨by (with_reducible repeat (first | apply Kd.R_alloc | apply Kd.R_drewN | apply Kd.R_drew)); exact HO197.out⟩, ⟨hbT HB.out⟩⟩
  case round =>
    clear H'
    try clear p2
    obtain ⟨x3_1, x4_1, rfl, HA, HK1, HO_3, HB⟩ := hrel
    cases gk with
    | zero => (have HA2 := HA.out; clear HA; revert HA2; rw [refrainref1_quoted.l0_zero]; intro h_; cases h_)
    | succ k1 =>
      have H := HA.out
      clear HA
      simp only [refrainref1_quoted.l0] at H
      by_cases c4 : x4_1 < (a0.size : Int)
      · rw [if_pos c4] at H
        have c4b0 : decide (x4_1 < (a0.size : Int)) = true := decide_eq_true c4
        clear c4
        by_cases c5 : 0 ≤ x4_1
        · rw [if_pos c5] at H
          have c5b0 : decide (0 ≤ x4_1) = true := decide_eq_true c5
          clear c5
          have HC7 := Aside0.mk H
          clear H
          have p6 : 0 ≤ (x4_1 : Int) := of_decide_eq_true (by first | (with_reducible assumption) | assumption)
          have q6 : x4_1 < (a0.size : Int) := of_decide_eq_true (by first | (with_reducible assumption) | assumption)
          have hx6 := bt_at a0 x4_1
          replace p6 := eq_true p6
          replace q6 := eq_true q6
          go_upto_region 7 with (fail)
          go_cut [26] (fun v26 wc => ∃ (kq : Nat) (x26_6 : Bool), v26 = .bool x26_6 ∧ Aside0 (refrainref1_quoted.j1 kq a0 x3_1 x4_1 (wrap64 (bt a0 x4_1)) x26_6 = some r) ∧ Aside0 (kq ≤ k1) ∧ Aside0 (Kd.R (Kd.int .u8) 5 wc w.heap.size (fun _ => True) u3 x3_1) ∧ Aside0 (Below w.heap.size w wc))
          case first =>
            have H := HC7.out
            clear HC7
            by_cases c8 : (wrap64 (bt a0 x4_1)) = 34
            · rw [if_pos c8] at H
              have c8b0 : ((wrap64 (bt a0 x4_1)) == 34) = true := beq_iff_eq.mpr c8
              have c8b1 : ((wrap64 (bt a0 x4_1)) != 34) = false := bne_eq_false_iff_eq.mpr c8
              clear c8
              (first | rw [c8b0] | (simp only [i64_w, i32_w, IntKind.wrap_u8, IntKind.wrap_u16, IntKind.wrap_u32]; rw [c8b0]) | skip)
              have H' := Aside0.mk H
              clear H
              go_wp2
              go_meet
              case rel => exact ⟨_, (true), (by first | rfl | (simp; done) | (simp [*]; done) | (simp; unfold wrap64; omega) | (congr 1; (try rw [Bool.eq_iff_iff]); simp [List.isEmpty_iff]; done)), H', ⟨by have := HK1.out; first | omega | exact Nat.le_refl _⟩, ⟨by (with_reducible repeat (first | apply Kd.R_alloc | apply Kd.R_drewN | apply Kd.R_drew)); exact HO_3.out⟩, ⟨hbT HB.out⟩⟩
            · rw [if_neg c8] at H
              have c8b0 : ((wrap64 (bt a0 x4_1)) == 34) = false := beq_eq_false_iff_ne.mpr c8
              have c8b1 : ((wrap64 (bt a0 x4_1)) != 34) = true := bne_iff_ne.mpr c8
              (first | rw [c8b0] | (simp only [i64_w, i32_w, IntKind.wrap_u8, IntKind.wrap_u16, IntKind.wrap_u32]; rw [c8b0]) | skip)
              have H' := Aside0.mk H
              clear H
              go_wp2
              go_meet
              case rel => exact ⟨_, (((wrap64 (bt a0 x4_1)) == 92)), (by first | rfl | (simp; done) | (simp [*]; done) | (simp; unfold wrap64; omega) | (congr 1; (try rw [Bool.eq_iff_iff]); simp [List.isEmpty_iff]; done)), H', ⟨by have := HK1.out; first | omega | exact Nat.le_refl _⟩, ⟨by (with_reducible repeat (first | apply Kd.R_alloc | apply Kd.R_drewN | apply Kd.R_drew)); exact HO_3.out⟩, ⟨hbT HB.out⟩⟩
          case rest =>
            clear HC7
            try clear p2
            try clear c4
            try clear c4b0
            try clear c5
            try clear c5b0
            try clear c6
            try clear p6
            try clear q6
            try clear hx6
            try clear c8
            try clear c8b0
            try clear c8b1
            try clear p2
            try clear p6
            try clear q6
            obtain ⟨kq, x26_6, rfl, HA, HJ6, HO_3, HB⟩ := hcut
            cases kq with
            | zero => (have HA2 := HA.out; clear HA; revert HA2; rw [refrainref1_quoted.j1_zero]; intro h_; cases h_)
            | succ kj6 =>
              have H := HA.out
              clear HA
              simp only [refrainref1_quoted.j1] at H
              by_cases c9 : x26_6 = true
              · subst c9
                have H1 : ((some (([92, ((wrap64 (bt a0 x4_1))) % 256] : List Int) : List Int)).bind fun y201 => (if x3_1.length + y201.length < 140737488355328 then (refrainref1_quoted.l0 kj6 a0 (x3_1 ++ y201) (wrap64 (x4_1 + 1))) else (none))) = some r := by rw [if_pos rfl] at H; exact H
                clear H
                have H := H1
                clear H1
                obtain ⟨y201, hy201⟩ : ∃ y_ : List Int, y_ = (([92, ((wrap64 (bt a0 x4_1))) % 256] : List Int)) := ⟨_, rfl⟩
                replace H : (if x3_1.length + y201.length < 140737488355328 then (refrainref1_quoted.l0 kj6 a0 (x3_1 ++ y201) (wrap64 (x4_1 + 1))) else (none)) = some r := by first | (rw [hy201]; with_reducible exact H) | (have H2_ := (Option.bind_some _ _).symm.trans H; rw [hy201]; with_reducible exact H2_) | (have H2_ := (Option.bind_some _ _).symm.trans H; with_reducible exact H2_) | with_reducible exact H | (rw [hy201]; exact H) | exact H
                have Ny201 := Aside0.mk hy201
                clear hy201
                by_cases c10 : x3_1.length + y201.length < 140737488355328
                · rw [if_pos c10] at H
                  have LMc10 := Aside0.mk c10
                  clear c10
                  obtain ⟨y204, hy204⟩ : ∃ y_ : List Int, y_ = (x3_1 ++ y201) := ⟨_, rfl⟩
                  replace H : (refrainref1_quoted.l0 kj6 a0 y204 (wrap64 (x4_1 + 1))) = some r := by first | (rw [hy204]; with_reducible exact H) | (have H2_ := (Option.bind_some _ _).symm.trans H; rw [hy204]; with_reducible exact H2_) | (have H2_ := (Option.bind_some _ _).symm.trans H; with_reducible exact H2_) | with_reducible exact H | (rw [hy204]; exact H) | exact H
                  have Ny204 := Aside0.mk hy204
                  clear hy204
                  have H' := Aside0.mk H
                  clear H
                  go_wp2_with (first | ((with_reducible refine gate_dst (N := 36) rfl ?_); refine Kd.R_lit (Kd.int .u8) _ 5 ?hg (N := 36) ?hd (xs := ([92, ((wrap64 (bt a0 x4_1))) % 256] : List Int)) (inner := [.int .u8 92, .int .u8 (((wrap64 (bt a0 x4_1))) % 256)]) (ok := fun _ => True) (okp := fun _ => True) ?hr ?hp (fun _ hk => hk) trivial (Below.refl _ _) (Nat.le_refl _) (by simp) ?_; (case hd => rfl); (case hg => rfl); (case hr => first | (go_simp; done) | (go_simp; rfl)); (case hp => exact (Reps.one (show Kd.M (Kd.int .u8) _ _ _ 92 [.int .u8 92] from rfl) (Reps.one (show Kd.M (Kd.int .u8) _ _ _ (((wrap64 (bt a0 x4_1))) % 256) [.int .u8 (((wrap64 (bt a0 x4_1))) % 256)] from rfl) (Reps.none _ _)))); intro v202 w11 ho12 hb hg_ hnew_; clear hg_ hnew_; (first | rw [← Ny201.out] at ho12 | (simp only [Int.reduceToNat] at ho12; rw [← Ny201.out] at ho12)); have HO203 := Aside0.mk (Kd.R_lower (Kd.R_new' ho12 (Kd.R_lt (by (with_reducible repeat (first | apply Kd.R_alloc | apply Kd.R_drewN | apply Kd.R_drew)); exact HO_3.out))) (below_size (hbT HB.out))); replace HO_3 := Aside0.mk (Kd.R_elder' (by (with_reducible repeat (first | apply Kd.R_alloc | apply Kd.R_drewN | apply Kd.R_drew)); exact HO_3.out) (Kd.R_base ho12) hb); replace HB := bsA HB hb; clear hb ho12; obtain ⟨Ao14, co14, eo14⟩ := Kd.R_slice HO203.out; subst eo14) | ((with_reducible refine gate_builtin (b := .append) (xs := #[.tmp 33, .tmp 36]) rfl ?_); at_builtin; refine Kd.R_append_rows (Kd.int .u8) (w0 := w) w.heap.size rfl (.tmp 33) (.tmp 36) 71 5 (.int .u8 0) 1 rfl Tryz.underlying71 info5 rfl (by decide) (by omega) u3 x3_1 y201 _ _ _ (fun k_ => some k_ ≠ (.slice Ao14 y201.length co14 : Value).ownBlock) (fun _ => False) rfl rfl ?aO ?aR (fun _ _ h => h) (fun _ h => h.elim) ?aF ?aB ?aS ?aL ?_; (case aR => repeat (first | exact (Kd.R_reads' HO203.out).2.2 | (with_reducible refine Kd.C_alloc ?_ _) | (with_reducible refine Kd.C_drewN ?_ _) | (with_reducible refine Kd.C_drew ?_))); (case aB => exact (hbT HB.out)); (case aF => exact (fun k_ hk => Kd.fresh' (Kd.R_lt (by (with_reducible repeat (first | apply Kd.R_alloc | apply Kd.R_drewN | apply Kd.R_drew)); exact HO203.out)) k_ hk)); (case aO => exact (by (with_reducible repeat (first | apply Kd.R_alloc | apply Kd.R_drewN | apply Kd.R_drew)); exact Kd.R_mono HO_3.out (fun _ hk => hk.2))); (case aS => exact (below_size (hbT HB.out))); (case aL => have := LMc10.out; omega); intro v205 w13 ho hb hg hat; rw [← Ny204.out] at ho; have n0_ := Aside0.mk (Kd.R_after (ok := (fun _ => True)) (by (with_reducible repeat (first | apply Kd.R_alloc | apply Kd.R_drewN | apply Kd.R_drew)); exact HO203.out) hg hat); have n1_ := Aside0.mk (hb); have n2_ := Aside0.mk (ho); clear HO203; clear HB; clear HO_3; have HO203 := n0_; have HB := n1_; have HO206 := n2_; clear n0_ n1_ n2_; clear ho hb hg hat))
                  go_roundg kj6
                  case measure => have := HK1.out; have := HJ6.out; omega
                  case rel => exact ⟨(y204), (wrap64 (x4_1 + 1)), (by first | rfl | (simp; done) | (simp [*]; done) | (simp; unfold wrap64; omega) | (congr 1; (try rw [Bool.eq_iff_iff]); simp [List.isEmpty_iff]; done)), H', ⟨by have := HK1.out; have := HJ6.out; omega⟩, ⟨by (with_reducible repeat (first | apply Kd.R_alloc | apply Kd.R_drewN | apply Kd.R_drew)); exact Kd.R_mono HO206.out (fun _ hk => trivial)⟩, ⟨hbT HB.out⟩⟩
                · rw [if_neg c10] at H
                  exact absurd H (by simp)
              · replace c9 := Bool.eq_false_iff.mpr c9
                subst c9
                have H1 : (if (wrap64 (bt a0 x4_1)) = 10 then ((some (([92, 110] : List Int) : List Int)).bind fun y207 => (if x3_1.length + y207.length < 140737488355328 then (refrainref1_quoted.l0 kj6 a0 (x3_1 ++ y207) (wrap64 (x4_1 + 1))) else (none))) else (if (wrap64 (bt a0 x4_1)) = 9 then ((some (([92, 116] : List Int) : List Int)).bind fun y213 => (if x3_1.length + y213.length < 140737488355328 then (refrainref1_quoted.l0 kj6 a0 (x3_1 ++ y213) (wrap64 (x4_1 + 1))) else (none))) else (if (wrap64 (bt a0 x4_1)) ≥ 32 then (refrainref1_quoted.j2 kj6 a0 x3_1 x4_1 (wrap64 (bt a0 x4_1)) (decide ((wrap64 (bt a0 x4_1)) ≤ 126))) else (refrainref1_quoted.j2 kj6 a0 x3_1 x4_1 (wrap64 (bt a0 x4_1)) false)))) = some r := by rw [if_neg (show ¬ (false = true) by decide)] at H; exact H
                clear H
                have H := H1
                clear H1
                by_cases c15 : (wrap64 (bt a0 x4_1)) = 10
                · rw [if_pos c15] at H
                  have c15b0 : ((wrap64 (bt a0 x4_1)) == 10) = true := beq_iff_eq.mpr c15
                  have c15b1 : ((wrap64 (bt a0 x4_1)) != 10) = false := bne_eq_false_iff_eq.mpr c15
                  clear c15
                  obtain ⟨y207, hy207⟩ : ∃ y_ : List Int, y_ = (([92, 110] : List Int)) := ⟨_, rfl⟩
                  replace H : (if x3_1.length + y207.length < 140737488355328 then (refrainref1_quoted.l0 kj6 a0 (x3_1 ++ y207) (wrap64 (x4_1 + 1))) else (none)) = some r := by first | (rw [hy207]; with_reducible exact H) | (have H2_ := (Option.bind_some _ _).symm.trans H; rw [hy207]; with_reducible exact H2_) | (have H2_ := (Option.bind_some _ _).symm.trans H; with_reducible exact H2_) | with_reducible exact H | (rw [hy207]; exact H) | exact H
                  have Ny207 := Aside0.mk hy207
                  clear hy207
                  by_cases c16 : x3_1.length + y207.length < 140737488355328
                  · rw [if_pos c16] at H
                    have LMc16 := Aside0.mk c16
                    clear c16
                    obtain ⟨y210, hy210⟩ : ∃ y_ : List Int, y_ = (x3_1 ++ y207) := ⟨_, rfl⟩
                    replace H : (refrainref1_quoted.l0 kj6 a0 y210 (wrap64 (x4_1 + 1))) = some r := by first | (rw [hy210]; with_reducible exact H) | (have H2_ := (Option.bind_some _ _).symm.trans H; rw [hy210]; with_reducible exact H2_) | (have H2_ := (Option.bind_some _ _).symm.trans H; with_reducible exact H2_) | with_reducible exact H | (rw [hy210]; exact H) | exact H
                    have Ny210 := Aside0.mk hy210
                    clear hy210
                    have H' := Aside0.mk H
                    clear H
                    go_wp2_with (first | ((with_reducible refine gate_dst (N := 42) rfl ?_); refine Kd.R_lit (Kd.int .u8) _ 5 ?hg (N := 42) ?hd (xs := ([92, 110] : List Int)) (inner := [.int .u8 92, .int .u8 110]) (ok := fun _ => True) (okp := fun _ => True) ?hr ?hp (fun _ hk => hk) trivial (Below.refl _ _) (Nat.le_refl _) (by simp) ?_; (case hd => rfl); (case hg => rfl); (case hr => first | (go_simp; done) | (go_simp; rfl)); (case hp => exact (Reps.one (show Kd.M (Kd.int .u8) _ _ _ 92 [.int .u8 92] from rfl) (Reps.one (show Kd.M (Kd.int .u8) _ _ _ 110 [.int .u8 110] from rfl) (Reps.none _ _)))); intro v208 w17 ho18 hb hg_ hnew_; clear hg_ hnew_; (first | rw [← Ny207.out] at ho18 | (simp only [Int.reduceToNat] at ho18; rw [← Ny207.out] at ho18)); have HO209 := Aside0.mk (Kd.R_lower (Kd.R_new' ho18 (Kd.R_lt (by (with_reducible repeat (first | apply Kd.R_alloc | apply Kd.R_drewN | apply Kd.R_drew)); exact HO_3.out))) (below_size (hbT HB.out))); replace HO_3 := Aside0.mk (Kd.R_elder' (by (with_reducible repeat (first | apply Kd.R_alloc | apply Kd.R_drewN | apply Kd.R_drew)); exact HO_3.out) (Kd.R_base ho18) hb); replace HB := bsA HB hb; clear hb ho18; obtain ⟨Ao20, co20, eo20⟩ := Kd.R_slice HO209.out; subst eo20) | ((with_reducible refine gate_builtin (b := .append) (xs := #[.tmp 41, .tmp 42]) rfl ?_); at_builtin; refine Kd.R_append_rows (Kd.int .u8) (w0 := w) w.heap.size rfl (.tmp 41) (.tmp 42) 71 5 (.int .u8 0) 1 rfl Tryz.underlying71 info5 rfl (by decide) (by omega) u3 x3_1 y207 _ _ _ (fun k_ => some k_ ≠ (.slice Ao20 y207.length co20 : Value).ownBlock) (fun _ => False) rfl rfl ?aO ?aR (fun _ _ h => h) (fun _ h => h.elim) ?aF ?aB ?aS ?aL ?_; (case aR => repeat (first | exact (Kd.R_reads' HO209.out).2.2 | (with_reducible refine Kd.C_alloc ?_ _) | (with_reducible refine Kd.C_drewN ?_ _) | (with_reducible refine Kd.C_drew ?_))); (case aB => exact (hbT HB.out)); (case aF => exact (fun k_ hk => Kd.fresh' (Kd.R_lt (by (with_reducible repeat (first | apply Kd.R_alloc | apply Kd.R_drewN | apply Kd.R_drew)); exact HO209.out)) k_ hk)); (case aO => exact (by (with_reducible repeat (first | apply Kd.R_alloc | apply Kd.R_drewN | apply Kd.R_drew)); exact Kd.R_mono HO_3.out (fun _ hk => hk.2))); (case aS => exact (below_size (hbT HB.out))); (case aL => have := LMc16.out; omega); intro v211 w19 ho hb hg hat; rw [← Ny210.out] at ho; have n0_ := Aside0.mk (Kd.R_after (ok := (fun _ => True)) (by (with_reducible repeat (first | apply Kd.R_alloc | apply Kd.R_drewN | apply Kd.R_drew)); exact HO209.out) hg hat); have n1_ := Aside0.mk (hb); have n2_ := Aside0.mk (ho); clear HO209; clear HB; clear HO_3; have HO209 := n0_; have HB := n1_; have HO212 := n2_; clear n0_ n1_ n2_; clear ho hb hg hat))
                    go_roundg kj6
                    case measure => have := HK1.out; have := HJ6.out; omega
                    case rel => exact ⟨(y210), (wrap64 (x4_1 + 1)), (by first | rfl | (simp; done) | (simp [*]; done) | (simp; unfold wrap64; omega) | (congr 1; (try rw [Bool.eq_iff_iff]); simp [List.isEmpty_iff]; done)), H', ⟨by have := HK1.out; have := HJ6.out; omega⟩, ⟨by (with_reducible repeat (first | apply Kd.R_alloc | apply Kd.R_drewN | apply Kd.R_drew)); exact Kd.R_mono HO212.out (fun _ hk => trivial)⟩, ⟨hbT HB.out⟩⟩
                  · rw [if_neg c16] at H
                    exact absurd H (by simp)
                · rw [if_neg c15] at H
                  have c15b0 : ((wrap64 (bt a0 x4_1)) == 10) = false := beq_eq_false_iff_ne.mpr c15
                  have c15b1 : ((wrap64 (bt a0 x4_1)) != 10) = true := bne_iff_ne.mpr c15
                  by_cases c21 : (wrap64 (bt a0 x4_1)) = 9
                  · rw [if_pos c21] at H
                    have c21b0 : ((wrap64 (bt a0 x4_1)) == 9) = true := beq_iff_eq.mpr c21
                    have c21b1 : ((wrap64 (bt a0 x4_1)) != 9) = false := bne_eq_false_iff_eq.mpr c21
                    clear c21
                    obtain ⟨y213, hy213⟩ : ∃ y_ : List Int, y_ = (([92, 116] : List Int)) := ⟨_, rfl⟩
                    replace H : (if x3_1.length + y213.length < 140737488355328 then (refrainref1_quoted.l0 kj6 a0 (x3_1 ++ y213) (wrap64 (x4_1 + 1))) else (none)) = some r := by first | (rw [hy213]; with_reducible exact H) | (have H2_ := (Option.bind_some _ _).symm.trans H; rw [hy213]; with_reducible exact H2_) | (have H2_ := (Option.bind_some _ _).symm.trans H; with_reducible exact H2_) | with_reducible exact H | (rw [hy213]; exact H) | exact H
                    have Ny213 := Aside0.mk hy213
                    clear hy213
                    by_cases c22 : x3_1.length + y213.length < 140737488355328
                    · rw [if_pos c22] at H
                      have LMc22 := Aside0.mk c22
                      clear c22
                      obtain ⟨y216, hy216⟩ : ∃ y_ : List Int, y_ = (x3_1 ++ y213) := ⟨_, rfl⟩
                      replace H : (refrainref1_quoted.l0 kj6 a0 y216 (wrap64 (x4_1 + 1))) = some r := by first | (rw [hy216]; with_reducible exact H) | (have H2_ := (Option.bind_some _ _).symm.trans H; rw [hy216]; with_reducible exact H2_) | (have H2_ := (Option.bind_some _ _).symm.trans H; with_reducible exact H2_) | with_reducible exact H | (rw [hy216]; exact H) | exact H
                      have Ny216 := Aside0.mk hy216
                      clear hy216
                      have H' := Aside0.mk H
                      clear H
                      go_wp2_with (first | ((with_reducible refine gate_dst (N := 48) rfl ?_); refine Kd.R_lit (Kd.int .u8) _ 5 ?hg (N := 48) ?hd (xs := ([92, 116] : List Int)) (inner := [.int .u8 92, .int .u8 116]) (ok := fun _ => True) (okp := fun _ => True) ?hr ?hp (fun _ hk => hk) trivial (Below.refl _ _) (Nat.le_refl _) (by simp) ?_; (case hd => rfl); (case hg => rfl); (case hr => first | (go_simp; done) | (go_simp; rfl)); (case hp => exact (Reps.one (show Kd.M (Kd.int .u8) _ _ _ 92 [.int .u8 92] from rfl) (Reps.one (show Kd.M (Kd.int .u8) _ _ _ 116 [.int .u8 116] from rfl) (Reps.none _ _)))); intro v214 w23 ho24 hb hg_ hnew_; clear hg_ hnew_; (first | rw [← Ny213.out] at ho24 | (simp only [Int.reduceToNat] at ho24; rw [← Ny213.out] at ho24)); have HO215 := Aside0.mk (Kd.R_lower (Kd.R_new' ho24 (Kd.R_lt (by (with_reducible repeat (first | apply Kd.R_alloc | apply Kd.R_drewN | apply Kd.R_drew)); exact HO_3.out))) (below_size (hbT HB.out))); replace HO_3 := Aside0.mk (Kd.R_elder' (by (with_reducible repeat (first | apply Kd.R_alloc | apply Kd.R_drewN | apply Kd.R_drew)); exact HO_3.out) (Kd.R_base ho24) hb); replace HB := bsA HB hb; clear hb ho24; obtain ⟨Ao26, co26, eo26⟩ := Kd.R_slice HO215.out; subst eo26) | ((with_reducible refine gate_builtin (b := .append) (xs := #[.tmp 47, .tmp 48]) rfl ?_); at_builtin; refine Kd.R_append_rows (Kd.int .u8) (w0 := w) w.heap.size rfl (.tmp 47) (.tmp 48) 71 5 (.int .u8 0) 1 rfl Tryz.underlying71 info5 rfl (by decide) (by omega) u3 x3_1 y213 _ _ _ (fun k_ => some k_ ≠ (.slice Ao26 y213.length co26 : Value).ownBlock) (fun _ => False) rfl rfl ?aO ?aR (fun _ _ h => h) (fun _ h => h.elim) ?aF ?aB ?aS ?aL ?_; (case aR => repeat (first | exact (Kd.R_reads' HO215.out).2.2 | (with_reducible refine Kd.C_alloc ?_ _) | (with_reducible refine Kd.C_drewN ?_ _) | (with_reducible refine Kd.C_drew ?_))); (case aB => exact (hbT HB.out)); (case aF => exact (fun k_ hk => Kd.fresh' (Kd.R_lt (by (with_reducible repeat (first | apply Kd.R_alloc | apply Kd.R_drewN | apply Kd.R_drew)); exact HO215.out)) k_ hk)); (case aO => exact (by (with_reducible repeat (first | apply Kd.R_alloc | apply Kd.R_drewN | apply Kd.R_drew)); exact Kd.R_mono HO_3.out (fun _ hk => hk.2))); (case aS => exact (below_size (hbT HB.out))); (case aL => have := LMc22.out; omega); intro v217 w25 ho hb hg hat; rw [← Ny216.out] at ho; have n0_ := Aside0.mk (Kd.R_after (ok := (fun _ => True)) (by (with_reducible repeat (first | apply Kd.R_alloc | apply Kd.R_drewN | apply Kd.R_drew)); exact HO215.out) hg hat); have n1_ := Aside0.mk (hb); have n2_ := Aside0.mk (ho); clear HO215; clear HB; clear HO_3; have HO215 := n0_; have HB := n1_; have HO218 := n2_; clear n0_ n1_ n2_; clear ho hb hg hat))
                      go_roundg kj6
                      case measure => have := HK1.out; have := HJ6.out; omega
                      case rel => exact ⟨(y216), (wrap64 (x4_1 + 1)), (by first | rfl | (simp; done) | (simp [*]; done) | (simp; unfold wrap64; omega) | (congr 1; (try rw [Bool.eq_iff_iff]); simp [List.isEmpty_iff]; done)), H', ⟨by have := HK1.out; have := HJ6.out; omega⟩, ⟨by (with_reducible repeat (first | apply Kd.R_alloc | apply Kd.R_drewN | apply Kd.R_drew)); exact Kd.R_mono HO218.out (fun _ hk => trivial)⟩, ⟨hbT HB.out⟩⟩
                    · rw [if_neg c22] at H
                      exact absurd H (by simp)
                  · rw [if_neg c21] at H
                    have c21b0 : ((wrap64 (bt a0 x4_1)) == 9) = false := beq_eq_false_iff_ne.mpr c21
                    have c21b1 : ((wrap64 (bt a0 x4_1)) != 9) = true := bne_iff_ne.mpr c21
                    have HC27 := Aside0.mk H
                    clear H
                    go_upto_region 13 with (fail)
                    go_cut [50] (fun v50 wc => ∃ (kq : Nat) (x50_26 : Bool), v50 = .bool x50_26 ∧ Aside0 (refrainref1_quoted.j2 kq a0 x3_1 x4_1 (wrap64 (bt a0 x4_1)) x50_26 = some r) ∧ Aside0 (kq ≤ kj6) ∧ Aside0 (Kd.R (Kd.int .u8) 5 wc w.heap.size (fun _ => True) u3 x3_1) ∧ Aside0 (Below w.heap.size w wc))
                    case first =>
                      have H := HC27.out
                      clear HC27
                      by_cases c28 : (wrap64 (bt a0 x4_1)) ≥ 32
                      · rw [if_pos c28] at H
                        have c28b0 : decide (32 ≤ (wrap64 (bt a0 x4_1))) = true := decide_eq_true c28
                        clear c28
                        (first | rw [c28b0] | (simp only [i64_w, i32_w, IntKind.wrap_u8, IntKind.wrap_u16, IntKind.wrap_u32]; rw [c28b0]) | skip)
                        have H' := Aside0.mk H
                        clear H
                        go_wp2
                        go_meet
                        case rel => exact ⟨_, (decide ((wrap64 (bt a0 x4_1)) ≤ 126)), (by first | rfl | (simp; done) | (simp [*]; done) | (simp; unfold wrap64; omega) | (congr 1; (try rw [Bool.eq_iff_iff]); simp [List.isEmpty_iff]; done)), H', ⟨by have := HK1.out; have := HJ6.out; first | omega | exact Nat.le_refl _⟩, ⟨by (with_reducible repeat (first | apply Kd.R_alloc | apply Kd.R_drewN | apply Kd.R_drew)); exact HO_3.out⟩, ⟨hbT HB.out⟩⟩
                      · rw [if_neg c28] at H
                        have c28b0 : decide (32 ≤ (wrap64 (bt a0 x4_1))) = false := decide_eq_false c28
                        clear c28
                        (first | rw [c28b0] | (simp only [i64_w, i32_w, IntKind.wrap_u8, IntKind.wrap_u16, IntKind.wrap_u32]; rw [c28b0]) | skip)
                        have H' := Aside0.mk H
                        clear H
                        go_wp2
                        go_meet
                        case rel => exact ⟨_, (false), (by first | rfl | (simp; done) | (simp [*]; done) | (simp; unfold wrap64; omega) | (congr 1; (try rw [Bool.eq_iff_iff]); simp [List.isEmpty_iff]; done)), H', ⟨by have := HK1.out; have := HJ6.out; first | omega | exact Nat.le_refl _⟩, ⟨by (with_reducible repeat (first | apply Kd.R_alloc | apply Kd.R_drewN | apply Kd.R_drew)); exact HO_3.out⟩, ⟨hbT HB.out⟩⟩
                    case rest =>
                      clear HC27
                      try clear c1
                      try clear c2
                      try clear p2
                      try clear c4
                      try clear c4b0
                      try clear c5
                      try clear c5b0
                      try clear c6
                      try clear p6
                      try clear q6
                      try clear hx6
                      try clear c8
                      try clear c8b0
                      try clear c8b1
                      try clear c9
                      try clear c10
                      try clear c15
                      try clear c15b0
                      try clear c15b1
                      try clear c16
                      try clear c21
                      try clear c21b0
                      try clear c21b1
                      try clear c22
                      try clear c28
                      try clear c28b0
                      try clear p2
                      try clear p6
                      try clear q6
                      obtain ⟨kq, x50_26, rfl, HA, HJ26, HO_3, HB⟩ := hcut
                      cases kq with
                      | zero => (have HA2 := HA.out; clear HA; revert HA2; rw [refrainref1_quoted.j2_zero]; intro h_; cases h_)
                      | succ kj26 =>
                        have H := HA.out
                        clear HA
                        simp only [refrainref1_quoted.j2] at H
                        by_cases c29 : x50_26 = true
                        · subst c29
                          have H1 : (if x3_1.length < 140737488355328 then (refrainref1_quoted.l0 kj26 a0 (x3_1 ++ [((wrap64 (bt a0 x4_1))) % 256]) (wrap64 (x4_1 + 1))) else (none)) = some r := by rw [if_pos rfl] at H; exact H
                          clear H
                          have H := H1
                          clear H1
                          by_cases c30 : x3_1.length < 140737488355328
                          · rw [if_pos c30] at H
                            have LMc30 := Aside0.mk c30
                            clear c30
                            obtain ⟨y219, hy219⟩ : ∃ y_ : List Int, y_ = (x3_1 ++ [((wrap64 (bt a0 x4_1))) % 256]) := ⟨_, rfl⟩
                            replace H : (refrainref1_quoted.l0 kj26 a0 y219 (wrap64 (x4_1 + 1))) = some r := by first | (rw [hy219]; with_reducible exact H) | (have H2_ := (Option.bind_some _ _).symm.trans H; rw [hy219]; with_reducible exact H2_) | (have H2_ := (Option.bind_some _ _).symm.trans H; with_reducible exact H2_) | with_reducible exact H | (rw [hy219]; exact H) | exact H
                            have Ny219 := Aside0.mk hy219
                            clear hy219
                            have H' := Aside0.mk H
                            clear H
                            go_wp2_with (first | ((with_reducible refine gate_builtin (b := .append) (xs := #[.tmp 57, .tmp 60]) rfl ?_); at_builtin; refine Kd.R_append (Kd.int .u8) (w0 := w) w.heap.size rfl (.tmp 57) (.tmp 60) 71 5 (.int .u8 0) 1 rfl Tryz.underlying71 info5 rfl (by decide) (by omega) u3 x3_1 (((wrap64 (bt a0 x4_1))) % 256) [.int .u8 (((wrap64 (bt a0 x4_1))) % 256)] (fun _ => True) (fun _ => False) rfl rfl ?aP (fun _ hk => hk.elim) ?aF ?aO ?aB ?aS ?aL ?_; (case aP => exact rfl); (case aB => exact (hbT HB.out)); (case aF => exact (fun _ _ => trivial)); (case aO => exact (by (with_reducible repeat (first | apply Kd.R_alloc | apply Kd.R_drewN | apply Kd.R_drew)); exact HO_3.out)); (case aS => exact (below_size (hbT HB.out))); (case aL => have := LMc30.out; omega); intro v220 w31 ho hb hg hat; rw [← Ny219.out] at ho; have n0_ := Aside0.mk (hb); have n1_ := Aside0.mk (ho); clear HB; clear HO_3; have HB := n0_; have HO221 := n1_; clear n0_ n1_; clear ho hb hg hat))
                            go_roundg kj26
                            case measure => have := HK1.out; have := HJ6.out; have := HJ26.out; omega
                            case rel => exact ⟨(y219), (wrap64 (x4_1 + 1)), (by first | rfl | (simp; done) | (simp [*]; done) | (simp; unfold wrap64; omega) | (congr 1; (try rw [Bool.eq_iff_iff]); simp [List.isEmpty_iff]; done)), H', ⟨by have := HK1.out; have := HJ6.out; have := HJ26.out; omega⟩, ⟨by (with_reducible repeat (first | apply Kd.R_alloc | apply Kd.R_drewN | apply Kd.R_drew)); exact HO221.out⟩, ⟨hbT HB.out⟩⟩
                          · rw [if_neg c30] at H
                            exact absurd H (by simp)
                        · replace c29 := Bool.eq_false_iff.mpr c29
                          subst c29
                          have H1 : ((refrainref1_Hex.f (wrap64 (Int.tdiv (wrap64 (bt a0 x4_1)) 16))).bind fun t222 => ((refrainref1_Hex.f (Int.tmod (wrap64 (bt a0 x4_1)) 16)).bind fun t223 => ((some (([92, 120, t222, t223] : List Int) : List Int)).bind fun y224 => (if x3_1.length + y224.length < 140737488355328 then (refrainref1_quoted.l0 kj26 a0 (x3_1 ++ y224) (wrap64 (x4_1 + 1))) else (none))))) = some r := by rw [if_neg (show ¬ (false = true) by decide)] at H; exact H
                          clear H
                          have H := H1
                          clear H1
                          replace H := Option.bind_eq_some_iff.mp H
                          obtain ⟨t222, A320, H⟩ := H
                          replace H : ((refrainref1_Hex.f (Int.tmod (wrap64 (bt a0 x4_1)) 16)).bind fun t223 => ((some (([92, 120, t222, t223] : List Int) : List Int)).bind fun y224 => (if x3_1.length + y224.length < 140737488355328 then (refrainref1_quoted.l0 kj26 a0 (x3_1 ++ y224) (wrap64 (x4_1 + 1))) else (none)))) = some r := H
                          have A32 := Aside0.mk A320
                          clear A320
                          replace H := Option.bind_eq_some_iff.mp H
                          obtain ⟨t223, A330, H⟩ := H
                          replace H : ((some (([92, 120, t222, t223] : List Int) : List Int)).bind fun y224 => (if x3_1.length + y224.length < 140737488355328 then (refrainref1_quoted.l0 kj26 a0 (x3_1 ++ y224) (wrap64 (x4_1 + 1))) else (none))) = some r := H
                          have A33 := Aside0.mk A330
                          clear A330
                          obtain ⟨y224, hy224⟩ : ∃ y_ : List Int, y_ = (([92, 120, t222, t223] : List Int)) := ⟨_, rfl⟩
                          replace H : (if x3_1.length + y224.length < 140737488355328 then (refrainref1_quoted.l0 kj26 a0 (x3_1 ++ y224) (wrap64 (x4_1 + 1))) else (none)) = some r := by first | (rw [hy224]; with_reducible exact H) | (have H2_ := (Option.bind_some _ _).symm.trans H; rw [hy224]; with_reducible exact H2_) | (have H2_ := (Option.bind_some _ _).symm.trans H; with_reducible exact H2_) | with_reducible exact H | (rw [hy224]; exact H) | exact H
                          have Ny224 := Aside0.mk hy224
                          clear hy224
                          by_cases c34 : x3_1.length + y224.length < 140737488355328
                          · rw [if_pos c34] at H
                            have LMc34 := Aside0.mk c34
                            clear c34
                            obtain ⟨y227, hy227⟩ : ∃ y_ : List Int, y_ = (x3_1 ++ y224) := ⟨_, rfl⟩
                            replace H : (refrainref1_quoted.l0 kj26 a0 y227 (wrap64 (x4_1 + 1))) = some r := by first | (rw [hy227]; with_reducible exact H) | (have H2_ := (Option.bind_some _ _).symm.trans H; rw [hy227]; with_reducible exact H2_) | (have H2_ := (Option.bind_some _ _).symm.trans H; with_reducible exact H2_) | with_reducible exact H | (rw [hy227]; exact H) | exact H
                            have Ny227 := Aside0.mk hy227
                            clear hy227
                            have H' := Aside0.mk H
                            clear H
                            go_wp2_with (first | ((with_reducible refine gate_callee (f := 86) rfl ?_); refine goesT (some 20) Tryz.func86 #[.int .i64 (wrap64 (Int.tdiv (wrap64 (bt a0 x4_1)) 16))] ?_; (with_reducible refine (refrainref1_Hex.calls (wrap64 (Int.tdiv (wrap64 (bt a0 x4_1)) 16)) t222 _ A32.out).mono ?_); rintro e w' ⟨rfl, ⟨nd, rfl⟩⟩; refine ⟨_, rfl, ?_⟩) | ((with_reducible refine gate_callee (f := 86) rfl ?_); refine goesT (some 23) Tryz.func86 #[.int .i64 (Int.tmod (wrap64 (bt a0 x4_1)) 16)] ?_; (with_reducible refine (refrainref1_Hex.calls (Int.tmod (wrap64 (bt a0 x4_1)) 16) t223 _ A33.out).mono ?_); rintro e w' ⟨rfl, ⟨nd, rfl⟩⟩; refine ⟨_, rfl, ?_⟩) | ((with_reducible refine gate_dst (N := 24) rfl ?_); refine Kd.R_lit (Kd.int .u8) _ 5 ?hg (N := 24) ?hd (xs := ([92, 120, t222, t223] : List Int)) (inner := [.int .u8 92, .int .u8 120, .int .u8 t222, .int .u8 t223]) (ok := fun _ => True) (okp := fun _ => True) ?hr ?hp (fun _ hk => hk) trivial (Below.refl _ _) (Nat.le_refl _) (by simp) ?_; (case hd => rfl); (case hg => rfl); (case hr => first | (go_simp; done) | (go_simp; rfl)); (case hp => exact (Reps.one (show Kd.M (Kd.int .u8) _ _ _ 92 [.int .u8 92] from rfl) (Reps.one (show Kd.M (Kd.int .u8) _ _ _ 120 [.int .u8 120] from rfl) (Reps.one (show Kd.M (Kd.int .u8) _ _ _ t222 [.int .u8 t222] from rfl) (Reps.one (show Kd.M (Kd.int .u8) _ _ _ t223 [.int .u8 t223] from rfl) (Reps.none _ _)))))); intro v225 w35 ho36 hb hg_ hnew_; clear hg_ hnew_; (first | rw [← Ny224.out] at ho36 | (simp only [Int.reduceToNat] at ho36; rw [← Ny224.out] at ho36)); have HO226 := Aside0.mk (Kd.R_lower (Kd.R_new' ho36 (Kd.R_lt (by (with_reducible repeat (first | apply Kd.R_alloc | apply Kd.R_drewN | apply Kd.R_drew)); exact HO_3.out))) (below_size (hbT HB.out))); replace HO_3 := Aside0.mk (Kd.R_elder' (by (with_reducible repeat (first | apply Kd.R_alloc | apply Kd.R_drewN | apply Kd.R_drew)); exact HO_3.out) (Kd.R_base ho36) hb); replace HB := bsA HB hb; clear hb ho36; obtain ⟨Ao38, co38, eo38⟩ := Kd.R_slice HO226.out; subst eo38) | ((with_reducible refine gate_builtin (b := .append) (xs := #[.tmp 17, .tmp 24]) rfl ?_); at_builtin; refine Kd.R_append_rows (Kd.int .u8) (w0 := w) w.heap.size rfl (.tmp 17) (.tmp 24) 71 5 (.int .u8 0) 1 rfl Tryz.underlying71 info5 rfl (by decide) (by omega) u3 x3_1 y224 _ _ _ (fun k_ => some k_ ≠ (.slice Ao38 y224.length co38 : Value).ownBlock) (fun _ => False) rfl rfl ?aO ?aR (fun _ _ h => h) (fun _ h => h.elim) ?aF ?aB ?aS ?aL ?_; (case aR => repeat (first | exact (Kd.R_reads' HO226.out).2.2 | (with_reducible refine Kd.C_alloc ?_ _) | (with_reducible refine Kd.C_drewN ?_ _) | (with_reducible refine Kd.C_drew ?_))); (case aB => exact (hbT HB.out)); (case aF => exact (fun k_ hk => Kd.fresh' (Kd.R_lt (by (with_reducible repeat (first | apply Kd.R_alloc | apply Kd.R_drewN | apply Kd.R_drew)); exact HO226.out)) k_ hk)); (case aO => exact (by (with_reducible repeat (first | apply Kd.R_alloc | apply Kd.R_drewN | apply Kd.R_drew)); exact Kd.R_mono HO_3.out (fun _ hk => hk.2))); (case aS => exact (below_size (hbT HB.out))); (case aL => have := LMc34.out; omega); intro v228 w37 ho hb hg hat; rw [← Ny227.out] at ho; have n0_ := Aside0.mk (Kd.R_after (ok := (fun _ => True)) (by (with_reducible repeat (first | apply Kd.R_alloc | apply Kd.R_drewN | apply Kd.R_drew)); exact HO226.out) hg hat); have n1_ := Aside0.mk (hb); have n2_ := Aside0.mk (ho); clear HO226; clear HB; clear HO_3; have HO226 := n0_; have HB := n1_; have HO229 := n2_; clear n0_ n1_ n2_; clear ho hb hg hat))
                            go_roundg kj26
                            case measure => have := HK1.out; have := HJ6.out; have := HJ26.out; omega
                            case rel => exact ⟨(y227), (wrap64 (x4_1 + 1)), (by first | rfl | (simp; done) | (simp [*]; done) | (simp; unfold wrap64; omega) | (congr 1; (try rw [Bool.eq_iff_iff]); simp [List.isEmpty_iff]; done)), H', ⟨by have := HK1.out; have := HJ6.out; have := HJ26.out; omega⟩, ⟨by (with_reducible repeat (first | apply Kd.R_alloc | apply Kd.R_drewN | apply Kd.R_drew)); exact Kd.R_mono HO229.out (fun _ hk => trivial)⟩, ⟨hbT HB.out⟩⟩
                          · rw [if_neg c34] at H
                            exact absurd H (by simp)
        · rw [if_neg c5] at H
          exact absurd H (by simp)
      · rw [if_neg c4] at H
        have c4b0 : decide (x4_1 < (a0.size : Int)) = false := decide_eq_false c4
        clear c4
        by_cases c39 : x3_1.length < 140737488355328
        · rw [if_pos c39] at H
          have LMc39 := Aside0.mk c39
          clear c39
          obtain ⟨y198, hy198⟩ : ∃ y_ : List Int, y_ = (x3_1 ++ [34]) := ⟨_, rfl⟩
          replace H : (some (strOfNums y198)) = some r := by first | (rw [hy198]; with_reducible exact H) | (have H2_ := (Option.bind_some _ _).symm.trans H; rw [hy198]; with_reducible exact H2_) | (have H2_ := (Option.bind_some _ _).symm.trans H; with_reducible exact H2_) | with_reducible exact H | (rw [hy198]; exact H) | exact H
          have Ny198 := Aside0.mk hy198
          clear hy198
          obtain rfl := Option.some.inj H
          go_wp2_with (first | ((with_reducible refine gate_builtin (b := .append) (xs := #[.tmp 62, .tmp 63]) rfl ?_); at_builtin; refine Kd.R_append (Kd.int .u8) (w0 := w) w.heap.size rfl (.tmp 62) (.tmp 63) 71 5 (.int .u8 0) 1 rfl Tryz.underlying71 info5 rfl (by decide) (by omega) u3 x3_1 34 [.int .u8 34] (fun _ => True) (fun _ => False) rfl rfl ?aP (fun _ hk => hk.elim) ?aF ?aO ?aB ?aS ?aL ?_; (case aP => exact rfl); (case aB => exact (hbT HB.out)); (case aF => exact (fun _ _ => trivial)); (case aO => exact (by (with_reducible repeat (first | apply Kd.R_alloc | apply Kd.R_drewN | apply Kd.R_drew)); exact HO_3.out)); (case aS => exact (below_size (hbT HB.out))); (case aL => have := LMc39.out; omega); intro v199 w40 ho hb hg hat; rw [← Ny198.out] at ho; have n0_ := Aside0.mk (hb); have n1_ := Aside0.mk (ho); clear HB; clear HO_3; have HB := n0_; have HO200 := n1_; clear n0_ n1_; clear ho hb hg hat; have hcv41 := own_string (P := Tryz.prog) Tryz.underlying71 Tryz.underlying5 Tryz.underlying9 (Kd.own_of_R HO200.out)))
          go_ret
          exact ⟨by first | rfl | (simp [errW_none, errW_some] <;> rfl) | (simp [*, errW_none, errW_some] <;> rfl), hbT HB.out⟩
        · rw [if_neg c39] at H
          exact absurd H (by simp)

end Go.Proofs.YtpkbhfdfgapmlaaGreatDoor.Pr
end

/-! ## text Prx9 -/
section
namespace Go.Proofs.YtpkbhfdfgapmlaaGreatDoor.Pr
open Go.RowKit Go.Proofs.YtpkbhfdfgapmlaaGreatDoorW.PrintWords Go.Proofs.YtpkbhfdfgapmlaaGreatDoorW.PrintLast Go.Proofs.YtpkbhfdfgapmlaaGreatDoorW.PrintMore
attribute [local go_sem] max2_int min2_int max_two min_two max_three min_three max_four min_four   -- for this text's walks alone
attribute [local go_sem high] Go.Proofs.YtpkbhfdfgapmlaaGreatDoor.isSome_setCell
set_option maxRecDepth 100000
set_option linter.unusedVariables false
set_option linter.unusedSimpArgs false

/-! ### refrainref1_Show: function 34 -/
def refrainref1_Show.f (k : Nat) (a0_0 : Int) (a0_1 : Int) (a0_2 : ByteArray) (a0_3 : Bool) : Option (ByteArray × Int) := (refrainref1_Valid.f a0_0 a0_1 a0_2 a0_3).bind fun t231 => (if t231 = true then (if a0_0 = 1 then (if a0_1 < 0 then ((refrainref1_digits.f k (IntKind.u64.wrap ((IntKind.u64.wrap (wrap64 (-(wrap64 (a0_1 + 1))))) + 1))).bind fun t232 => (if 1 + t232.size ≤ 9223372036854775807 then (some ((⟨#[45]⟩ : ByteArray) ++ t232, 0)) else (none))) else ((refrainref1_digits.f k (IntKind.u64.wrap (a0_1))).bind fun t233 => (some (t233, 0)))) else (if a0_0 = 2 then ((refrainref1_quoted.f k a0_2).bind fun t234 => (some (t234, 0))) else (if a0_3 = true then (some ((⟨#[84, 82, 85, 69]⟩ : ByteArray), 0)) else (some ((⟨#[70, 65, 76, 83, 69]⟩ : ByteArray), 0))))) else (some ((⟨#[]⟩ : ByteArray), 12)))
set_option maxRecDepth 100000 in
theorem refrainref1_Show.mono : ∀ a0 a1 a2 a3 k, LeO (refrainref1_Show.f k a0 a1 a2 a3) (refrainref1_Show.f (k + 1) a0 a1 a2 a3) := by
  intro a0 a1 a2 a3 k
  unfold refrainref1_Show.f
  repeat' first
      | (with_reducible exact refrainref1_digits.mono _ _)
      | (with_reducible exact refrainref1_quoted.mono _ _)
      | (with_reducible exact LeO.refl _)
      | (with_reducible exact LeO.none _)
      | (with_reducible refine LeO.ite ?_ ?_)
      | (with_reducible refine LeO.bind ?_ (fun _ => ?_))
      | exact refrainref1_digits.mono _ _
      | exact refrainref1_quoted.mono _ _
      | exact LeO.none _
      | refine LeO.ite ?_ ?_
      | refine LeO.bind ?_ (fun _ => ?_)
set_option maxHeartbeats 8000000 in
set_option maxRecDepth 100000 in
theorem refrainref1_Show.calls (k : Nat) (a0_0 : Int) (a0_1 : Int) (a0_2 : ByteArray) (a0_3 : Bool) (r1 : ByteArray) (r2 : Int) (w : World) (h : refrainref1_Show.f k a0_0 a0_1 a0_2 a0_3 = some (r1, r2)) :
    Calls Tryz.prog 34 #[.agg #[.int .i64 a0_0, .int .i64 a0_1, .string a0_2, .bool a0_3]] w fun e w' => e = .returned (.tuple #[.string r1, .int .i64 r2]) ∧ Below w.heap.size w w' := by
  have hu43 := Tryz.underlying43
  have HB := Aside0.mk (Below.refl w.heap.size w)
  have H : ((refrainref1_Valid.f a0_0 a0_1 a0_2 a0_3).bind fun t231 => (if t231 = true then (if a0_0 = 1 then (if a0_1 < 0 then ((refrainref1_digits.f k (IntKind.u64.wrap ((IntKind.u64.wrap (wrap64 (-(wrap64 (a0_1 + 1))))) + 1))).bind fun t232 => (if 1 + t232.size ≤ 9223372036854775807 then (some ((⟨#[45]⟩ : ByteArray) ++ t232, 0)) else (none))) else ((refrainref1_digits.f k (IntKind.u64.wrap (a0_1))).bind fun t233 => (some (t233, 0)))) else (if a0_0 = 2 then ((refrainref1_quoted.f k a0_2).bind fun t234 => (some (t234, 0))) else (if a0_3 = true then (some ((⟨#[84, 82, 85, 69]⟩ : ByteArray), 0)) else (some ((⟨#[70, 65, 76, 83, 69]⟩ : ByteArray), 0))))) else (some ((⟨#[]⟩ : ByteArray), 12)))) = some (r1, r2) := h
  clear h
  replace H := Option.bind_eq_some_iff.mp H
  obtain ⟨t231, A20, H⟩ := H
  replace H : (if t231 = true then (if a0_0 = 1 then (if a0_1 < 0 then ((refrainref1_digits.f k (IntKind.u64.wrap ((IntKind.u64.wrap (wrap64 (-(wrap64 (a0_1 + 1))))) + 1))).bind fun t232 => (if 1 + t232.size ≤ 9223372036854775807 then (some ((⟨#[45]⟩ : ByteArray) ++ t232, 0)) else (none))) else ((refrainref1_digits.f k (IntKind.u64.wrap (a0_1))).bind fun t233 => (some (t233, 0)))) else (if a0_0 = 2 then ((refrainref1_quoted.f k a0_2).bind fun t234 => (some (t234, 0))) else (if a0_3 = true then (some ((⟨#[84, 82, 85, 69]⟩ : ByteArray), 0)) else (some ((⟨#[70, 65, 76, 83, 69]⟩ : ByteArray), 0))))) else (some ((⟨#[]⟩ : ByteArray), 12))) = some (r1, r2) := H
  have A2 := Aside0.mk A20
  clear A20
  by_cases c3 : t231 = true
  · subst c3
    have H1 : (if a0_0 = 1 then (if a0_1 < 0 then ((refrainref1_digits.f k (IntKind.u64.wrap ((IntKind.u64.wrap (wrap64 (-(wrap64 (a0_1 + 1))))) + 1))).bind fun t232 => (if 1 + t232.size ≤ 9223372036854775807 then (some ((⟨#[45]⟩ : ByteArray) ++ t232, 0)) else (none))) else ((refrainref1_digits.f k (IntKind.u64.wrap (a0_1))).bind fun t233 => (some (t233, 0)))) else (if a0_0 = 2 then ((refrainref1_quoted.f k a0_2).bind fun t234 => (some (t234, 0))) else (if a0_3 = true then (some ((⟨#[84, 82, 85, 69]⟩ : ByteArray), 0)) else (some ((⟨#[70, 65, 76, 83, 69]⟩ : ByteArray), 0))))) = some (r1, r2) := by rw [if_pos rfl] at H; exact H
    clear H
    have H := H1
    clear H1
    by_cases c4 : a0_0 = 1
    · rw [if_pos c4] at H
      have c4b0 : (a0_0 == 1) = true := beq_iff_eq.mpr c4
      have c4b1 : (a0_0 != 1) = false := bne_eq_false_iff_eq.mpr c4
      clear c4
      by_cases c5 : a0_1 < 0
      · rw [if_pos c5] at H
        have c5b0 : decide (a0_1 < 0) = true := decide_eq_true c5
        clear c5
        replace H := Option.bind_eq_some_iff.mp H
        obtain ⟨t232, A60, H⟩ := H
        replace H : (if 1 + t232.size ≤ 9223372036854775807 then (some ((⟨#[45]⟩ : ByteArray) ++ t232, 0)) else (none)) = some (r1, r2) := H
        have A6 := Aside0.mk A60
        clear A60
        by_cases c7 : 1 + t232.size ≤ 9223372036854775807
        · rw [if_pos c7] at H
          have c7b0 := eq_true c7
          have c7b1 : decide (1 + t232.size ≤ 9223372036854775807) = true := decide_eq_true c7
          try have c7b2 : (9223372036854775807 < 1 + t232.size) = False := eq_false (Nat.not_lt.2 c7)
          simp only [Option.some.injEq, Prod.mk.injEq] at H
          obtain ⟨rfl, rfl⟩ := H
          go_enter Tryz.func34, Tryz.ntmps34
          go_wp2_with (first | ((with_reducible refine gate_dst (N := 1) rfl ?_); refine box_event ?hg (N := 1) ?hd (cs := #[.int .i64 a0_0, .int .i64 a0_1, .string a0_2, .bool a0_3]) (t := 43) ?hr ?_; (case hd => rfl); (case hg => rfl); (case hr => first | (go_simp; done) | (go_simp; rfl)); intro gb230 hg w8 hbox hb; have BK230 := Aside0.mk hbox; have GW230 := geA hg HB; have GE230 := geA hg HB; replace HB := bsA HB hb; clear hb hbox hg; have hcz9_0 : w8.cell? ⟨gb230, 0, none⟩ = some (.int .i64 a0_0) := (blk_cell BK230.out 0).trans rfl; have hcz9_1 : w8.cell? ⟨gb230, 1, none⟩ = some (.int .i64 a0_1) := (blk_cell BK230.out 1).trans rfl; have hcz9_2 : w8.cell? ⟨gb230, 2, none⟩ = some (.string a0_2) := (blk_cell BK230.out 2).trans rfl; have hcz9_3 : w8.cell? ⟨gb230, 3, none⟩ = some (.bool a0_3) := (blk_cell BK230.out 3).trans rfl; have hfz9_0 := blk_frozen BK230.out 0; have hfz9_1 := blk_frozen BK230.out 1; have hfz9_2 := blk_frozen BK230.out 2; have hfz9_3 := blk_frozen BK230.out 3) | ((with_reducible refine gate_callee (f := 67) rfl ?_); refine goesT (some 6) Tryz.func67 #[.agg #[.int .i64 a0_0, .int .i64 a0_1, .string a0_2, .bool a0_3]] ?_; (with_reducible refine (refrainref1_Valid.calls a0_0 a0_1 a0_2 a0_3 true _ A2.out).mono ?_); rintro e w10 ⟨rfl, hb⟩; refine ⟨_, rfl, ?_⟩; replace BK230 := bbA BK230 hb; replace HB := bsA HB hb; (try clear hb); (try clear hb2); (try clear hk); (try clear hi); have hcz11_0 : w10.cell? ⟨gb230, 0, none⟩ = some (.int .i64 a0_0) := (blk_cell BK230.out 0).trans rfl; have hcz11_1 : w10.cell? ⟨gb230, 1, none⟩ = some (.int .i64 a0_1) := (blk_cell BK230.out 1).trans rfl; have hcz11_2 : w10.cell? ⟨gb230, 2, none⟩ = some (.string a0_2) := (blk_cell BK230.out 2).trans rfl; have hcz11_3 : w10.cell? ⟨gb230, 3, none⟩ = some (.bool a0_3) := (blk_cell BK230.out 3).trans rfl; have hfz11_0 := blk_frozen BK230.out 0; have hfz11_1 := blk_frozen BK230.out 1; have hfz11_2 := blk_frozen BK230.out 2; have hfz11_3 := blk_frozen BK230.out 3) | ((with_reducible refine gate_callee (f := 68) rfl ?_); refine goesT (some 22) Tryz.func68 #[.int .u64 (IntKind.u64.wrap ((IntKind.u64.wrap (wrap64 (-(wrap64 (a0_1 + 1))))) + 1))] ?_; (with_reducible refine (refrainref1_digits.calls k (IntKind.u64.wrap ((IntKind.u64.wrap (wrap64 (-(wrap64 (a0_1 + 1))))) + 1)) t232 _ A6.out).mono ?_); rintro e w12 ⟨rfl, hb⟩; refine ⟨_, rfl, ?_⟩; replace BK230 := bbA BK230 hb; replace HB := bsA HB hb; (try clear hb); (try clear hb2); (try clear hk); (try clear hi)))
          go_ret2
          exact ⟨by first | rfl | (simp [errW_none, errW_some] <;> rfl) | (simp [*, errW_none, errW_some] <;> rfl), hbT HB.out⟩
        · rw [if_neg c7] at H
          exact absurd H (by simp)
      · rw [if_neg c5] at H
        have c5b0 : decide (a0_1 < 0) = false := decide_eq_false c5
        clear c5
        replace H := Option.bind_eq_some_iff.mp H
        obtain ⟨t233, A130, H⟩ := H
        replace H : (some (t233, 0)) = some (r1, r2) := H
        have A13 := Aside0.mk A130
        clear A130
        simp only [Option.some.injEq, Prod.mk.injEq] at H
        obtain ⟨rfl, rfl⟩ := H
        go_enter Tryz.func34, Tryz.ntmps34
        go_wp2_with (first | ((with_reducible refine gate_dst (N := 1) rfl ?_); refine box_event ?hg (N := 1) ?hd (cs := #[.int .i64 a0_0, .int .i64 a0_1, .string a0_2, .bool a0_3]) (t := 43) ?hr ?_; (case hd => rfl); (case hg => rfl); (case hr => first | (go_simp; done) | (go_simp; rfl)); intro gb230 hg w14 hbox hb; have BK230 := Aside0.mk hbox; have GW230 := geA hg HB; have GE230 := geA hg HB; replace HB := bsA HB hb; clear hb hbox hg; have hcz15_0 : w14.cell? ⟨gb230, 0, none⟩ = some (.int .i64 a0_0) := (blk_cell BK230.out 0).trans rfl; have hcz15_1 : w14.cell? ⟨gb230, 1, none⟩ = some (.int .i64 a0_1) := (blk_cell BK230.out 1).trans rfl; have hcz15_2 : w14.cell? ⟨gb230, 2, none⟩ = some (.string a0_2) := (blk_cell BK230.out 2).trans rfl; have hcz15_3 : w14.cell? ⟨gb230, 3, none⟩ = some (.bool a0_3) := (blk_cell BK230.out 3).trans rfl; have hfz15_0 := blk_frozen BK230.out 0; have hfz15_1 := blk_frozen BK230.out 1; have hfz15_2 := blk_frozen BK230.out 2; have hfz15_3 := blk_frozen BK230.out 3) | ((with_reducible refine gate_callee (f := 67) rfl ?_); refine goesT (some 6) Tryz.func67 #[.agg #[.int .i64 a0_0, .int .i64 a0_1, .string a0_2, .bool a0_3]] ?_; (with_reducible refine (refrainref1_Valid.calls a0_0 a0_1 a0_2 a0_3 true _ A2.out).mono ?_); rintro e w16 ⟨rfl, hb⟩; refine ⟨_, rfl, ?_⟩; replace BK230 := bbA BK230 hb; replace HB := bsA HB hb; (try clear hb); (try clear hb2); (try clear hk); (try clear hi); have hcz17_0 : w16.cell? ⟨gb230, 0, none⟩ = some (.int .i64 a0_0) := (blk_cell BK230.out 0).trans rfl; have hcz17_1 : w16.cell? ⟨gb230, 1, none⟩ = some (.int .i64 a0_1) := (blk_cell BK230.out 1).trans rfl; have hcz17_2 : w16.cell? ⟨gb230, 2, none⟩ = some (.string a0_2) := (blk_cell BK230.out 2).trans rfl; have hcz17_3 : w16.cell? ⟨gb230, 3, none⟩ = some (.bool a0_3) := (blk_cell BK230.out 3).trans rfl; have hfz17_0 := blk_frozen BK230.out 0; have hfz17_1 := blk_frozen BK230.out 1; have hfz17_2 := blk_frozen BK230.out 2; have hfz17_3 := blk_frozen BK230.out 3) | ((with_reducible refine gate_callee (f := 68) rfl ?_); refine goesT (some 27) Tryz.func68 #[.int .u64 (IntKind.u64.wrap (a0_1))] ?_; (with_reducible refine (refrainref1_digits.calls k (IntKind.u64.wrap (a0_1)) t233 _ A13.out).mono ?_); rintro e w18 ⟨rfl, hb⟩; refine ⟨_, rfl, ?_⟩; replace BK230 := bbA BK230 hb; replace HB := bsA HB hb; (try clear hb); (try clear hb2); (try clear hk); (try clear hi)))
        go_ret2
        exact ⟨by first | rfl | (simp [errW_none, errW_some] <;> rfl) | (simp [*, errW_none, errW_some] <;> rfl), hbT HB.out⟩
    · rw [if_neg c4] at H
      have c4b0 : (a0_0 == 1) = false := beq_eq_false_iff_ne.mpr c4
      have c4b1 : (a0_0 != 1) = true := bne_iff_ne.mpr c4
      by_cases c19 : a0_0 = 2
      · rw [if_pos c19] at H
        have c19b0 : (a0_0 == 2) = true := beq_iff_eq.mpr c19
        have c19b1 : (a0_0 != 2) = false := bne_eq_false_iff_eq.mpr c19
        clear c19
        replace H := Option.bind_eq_some_iff.mp H
        obtain ⟨t234, A200, H⟩ := H
        replace H : (some (t234, 0)) = some (r1, r2) := H
        have A20 := Aside0.mk A200
        clear A200
        simp only [Option.some.injEq, Prod.mk.injEq] at H
        obtain ⟨rfl, rfl⟩ := H
        go_enter Tryz.func34, Tryz.ntmps34
        go_wp2_with (first | ((with_reducible refine gate_dst (N := 1) rfl ?_); refine box_event ?hg (N := 1) ?hd (cs := #[.int .i64 a0_0, .int .i64 a0_1, .string a0_2, .bool a0_3]) (t := 43) ?hr ?_; (case hd => rfl); (case hg => rfl); (case hr => first | (go_simp; done) | (go_simp; rfl)); intro gb230 hg w21 hbox hb; have BK230 := Aside0.mk hbox; have GW230 := geA hg HB; have GE230 := geA hg HB; replace HB := bsA HB hb; clear hb hbox hg; have hcz22_0 : w21.cell? ⟨gb230, 0, none⟩ = some (.int .i64 a0_0) := (blk_cell BK230.out 0).trans rfl; have hcz22_1 : w21.cell? ⟨gb230, 1, none⟩ = some (.int .i64 a0_1) := (blk_cell BK230.out 1).trans rfl; have hcz22_2 : w21.cell? ⟨gb230, 2, none⟩ = some (.string a0_2) := (blk_cell BK230.out 2).trans rfl; have hcz22_3 : w21.cell? ⟨gb230, 3, none⟩ = some (.bool a0_3) := (blk_cell BK230.out 3).trans rfl; have hfz22_0 := blk_frozen BK230.out 0; have hfz22_1 := blk_frozen BK230.out 1; have hfz22_2 := blk_frozen BK230.out 2; have hfz22_3 := blk_frozen BK230.out 3) | ((with_reducible refine gate_callee (f := 67) rfl ?_); refine goesT (some 6) Tryz.func67 #[.agg #[.int .i64 a0_0, .int .i64 a0_1, .string a0_2, .bool a0_3]] ?_; (with_reducible refine (refrainref1_Valid.calls a0_0 a0_1 a0_2 a0_3 true _ A2.out).mono ?_); rintro e w23 ⟨rfl, hb⟩; refine ⟨_, rfl, ?_⟩; replace BK230 := bbA BK230 hb; replace HB := bsA HB hb; (try clear hb); (try clear hb2); (try clear hk); (try clear hi); have hcz24_0 : w23.cell? ⟨gb230, 0, none⟩ = some (.int .i64 a0_0) := (blk_cell BK230.out 0).trans rfl; have hcz24_1 : w23.cell? ⟨gb230, 1, none⟩ = some (.int .i64 a0_1) := (blk_cell BK230.out 1).trans rfl; have hcz24_2 : w23.cell? ⟨gb230, 2, none⟩ = some (.string a0_2) := (blk_cell BK230.out 2).trans rfl; have hcz24_3 : w23.cell? ⟨gb230, 3, none⟩ = some (.bool a0_3) := (blk_cell BK230.out 3).trans rfl; have hfz24_0 := blk_frozen BK230.out 0; have hfz24_1 := blk_frozen BK230.out 1; have hfz24_2 := blk_frozen BK230.out 2; have hfz24_3 := blk_frozen BK230.out 3) | ((with_reducible refine gate_callee (f := 69) rfl ?_); refine goesT (some 32) Tryz.func69 #[.string a0_2] ?_; (with_reducible refine (refrainref1_quoted.calls k a0_2 t234 _ A20.out).mono ?_); rintro e w25 ⟨rfl, hb⟩; refine ⟨_, rfl, ?_⟩; replace BK230 := bbA BK230 hb; replace HB := bsA HB hb; (try clear hb); (try clear hb2); (try clear hk); (try clear hi)))
        go_ret2
        exact ⟨by first | rfl | (simp [errW_none, errW_some] <;> rfl) | (simp [*, errW_none, errW_some] <;> rfl), hbT HB.out⟩
      · rw [if_neg c19] at H
        have c19b0 : (a0_0 == 2) = false := beq_eq_false_iff_ne.mpr c19
        have c19b1 : (a0_0 != 2) = true := bne_iff_ne.mpr c19
        by_cases c26 : a0_3 = true
        · subst c26
          have H1 : (some ((⟨#[84, 82, 85, 69]⟩ : ByteArray), 0)) = some (r1, r2) := by rw [if_pos rfl] at H; exact H
          clear H
          have H := H1
          clear H1
          simp only [Option.some.injEq, Prod.mk.injEq] at H
          obtain ⟨rfl, rfl⟩ := H
          go_enter Tryz.func34, Tryz.ntmps34
          go_wp2_with (first | ((with_reducible refine gate_dst (N := 1) rfl ?_); refine box_event ?hg (N := 1) ?hd (cs := #[.int .i64 a0_0, .int .i64 a0_1, .string a0_2, .bool true]) (t := 43) ?hr ?_; (case hd => rfl); (case hg => rfl); (case hr => first | (go_simp; done) | (go_simp; rfl)); intro gb230 hg w27 hbox hb; have BK230 := Aside0.mk hbox; have GW230 := geA hg HB; have GE230 := geA hg HB; replace HB := bsA HB hb; clear hb hbox hg; have hcz28_0 : w27.cell? ⟨gb230, 0, none⟩ = some (.int .i64 a0_0) := (blk_cell BK230.out 0).trans rfl; have hcz28_1 : w27.cell? ⟨gb230, 1, none⟩ = some (.int .i64 a0_1) := (blk_cell BK230.out 1).trans rfl; have hcz28_2 : w27.cell? ⟨gb230, 2, none⟩ = some (.string a0_2) := (blk_cell BK230.out 2).trans rfl; have hcz28_3 : w27.cell? ⟨gb230, 3, none⟩ = some (.bool true) := (blk_cell BK230.out 3).trans rfl; have hfz28_0 := blk_frozen BK230.out 0; have hfz28_1 := blk_frozen BK230.out 1; have hfz28_2 := blk_frozen BK230.out 2; have hfz28_3 := blk_frozen BK230.out 3) | ((with_reducible refine gate_callee (f := 67) rfl ?_); refine goesT (some 6) Tryz.func67 #[.agg #[.int .i64 a0_0, .int .i64 a0_1, .string a0_2, .bool true]] ?_; (with_reducible refine (refrainref1_Valid.calls a0_0 a0_1 a0_2 true true _ A2.out).mono ?_); rintro e w29 ⟨rfl, hb⟩; refine ⟨_, rfl, ?_⟩; replace BK230 := bbA BK230 hb; replace HB := bsA HB hb; (try clear hb); (try clear hb2); (try clear hk); (try clear hi); have hcz30_0 : w29.cell? ⟨gb230, 0, none⟩ = some (.int .i64 a0_0) := (blk_cell BK230.out 0).trans rfl; have hcz30_1 : w29.cell? ⟨gb230, 1, none⟩ = some (.int .i64 a0_1) := (blk_cell BK230.out 1).trans rfl; have hcz30_2 : w29.cell? ⟨gb230, 2, none⟩ = some (.string a0_2) := (blk_cell BK230.out 2).trans rfl; have hcz30_3 : w29.cell? ⟨gb230, 3, none⟩ = some (.bool true) := (blk_cell BK230.out 3).trans rfl; have hfz30_0 := blk_frozen BK230.out 0; have hfz30_1 := blk_frozen BK230.out 1; have hfz30_2 := blk_frozen BK230.out 2; have hfz30_3 := blk_frozen BK230.out 3))
          go_ret2
          exact ⟨by first | rfl | (simp [errW_none, errW_some] <;> rfl) | (simp [*, errW_none, errW_some] <;> rfl), hbT HB.out⟩
        · replace c26 := Bool.eq_false_iff.mpr c26
          subst c26
          have H1 : (some ((⟨#[70, 65, 76, 83, 69]⟩ : ByteArray), 0)) = some (r1, r2) := by rw [if_neg (show ¬ (false = true) by decide)] at H; exact H
          clear H
          have H := H1
          clear H1
          simp only [Option.some.injEq, Prod.mk.injEq] at H
          obtain ⟨rfl, rfl⟩ := H
          go_enter Tryz.func34, Tryz.ntmps34
          go_wp2_with (first | ((with_reducible refine gate_dst (N := 1) rfl ?_); refine box_event ?hg (N := 1) ?hd (cs := #[.int .i64 a0_0, .int .i64 a0_1, .string a0_2, .bool false]) (t := 43) ?hr ?_; (case hd => rfl); (case hg => rfl); (case hr => first | (go_simp; done) | (go_simp; rfl)); intro gb230 hg w31 hbox hb; have BK230 := Aside0.mk hbox; have GW230 := geA hg HB; have GE230 := geA hg HB; replace HB := bsA HB hb; clear hb hbox hg; have hcz32_0 : w31.cell? ⟨gb230, 0, none⟩ = some (.int .i64 a0_0) := (blk_cell BK230.out 0).trans rfl; have hcz32_1 : w31.cell? ⟨gb230, 1, none⟩ = some (.int .i64 a0_1) := (blk_cell BK230.out 1).trans rfl; have hcz32_2 : w31.cell? ⟨gb230, 2, none⟩ = some (.string a0_2) := (blk_cell BK230.out 2).trans rfl; have hcz32_3 : w31.cell? ⟨gb230, 3, none⟩ = some (.bool false) := (blk_cell BK230.out 3).trans rfl; have hfz32_0 := blk_frozen BK230.out 0; have hfz32_1 := blk_frozen BK230.out 1; have hfz32_2 := blk_frozen BK230.out 2; have hfz32_3 := blk_frozen BK230.out 3) | ((with_reducible refine gate_callee (f := 67) rfl ?_); refine goesT (some 6) Tryz.func67 #[.agg #[.int .i64 a0_0, .int .i64 a0_1, .string a0_2, .bool false]] ?_; (with_reducible refine (refrainref1_Valid.calls a0_0 a0_1 a0_2 false true _ A2.out).mono ?_); rintro e w33 ⟨rfl, hb⟩; refine ⟨_, rfl, ?_⟩; replace BK230 := bbA BK230 hb; replace HB := bsA HB hb; (try clear hb); (try clear hb2); (try clear hk); (try clear hi); have hcz34_0 : w33.cell? ⟨gb230, 0, none⟩ = some (.int .i64 a0_0) := (blk_cell BK230.out 0).trans rfl; have hcz34_1 : w33.cell? ⟨gb230, 1, none⟩ = some (.int .i64 a0_1) := (blk_cell BK230.out 1).trans rfl; have hcz34_2 : w33.cell? ⟨gb230, 2, none⟩ = some (.string a0_2) := (blk_cell BK230.out 2).trans rfl; have hcz34_3 : w33.cell? ⟨gb230, 3, none⟩ = some (.bool false) := (blk_cell BK230.out 3).trans rfl; have hfz34_0 := blk_frozen BK230.out 0; have hfz34_1 := blk_frozen BK230.out 1; have hfz34_2 := blk_frozen BK230.out 2; have hfz34_3 := blk_frozen BK230.out 3))
          go_ret2
          exact ⟨by first | rfl | (simp [errW_none, errW_some] <;> rfl) | (simp [*, errW_none, errW_some] <;> rfl), hbT HB.out⟩
  · replace c3 := Bool.eq_false_iff.mpr c3
    subst c3
    have H1 : (some ((⟨#[]⟩ : ByteArray), 12)) = some (r1, r2) := by rw [if_neg (show ¬ (false = true) by decide)] at H; exact H
    clear H
    have H := H1
    clear H1
    simp only [Option.some.injEq, Prod.mk.injEq] at H
    obtain ⟨rfl, rfl⟩ := H
    go_enter Tryz.func34, Tryz.ntmps34
    go_wp2_with (first | ((with_reducible refine gate_dst (N := 1) rfl ?_); refine box_event ?hg (N := 1) ?hd (cs := #[.int .i64 a0_0, .int .i64 a0_1, .string a0_2, .bool a0_3]) (t := 43) ?hr ?_; (case hd => rfl); (case hg => rfl); (case hr => first | (go_simp; done) | (go_simp; rfl)); intro gb230 hg w35 hbox hb; have BK230 := Aside0.mk hbox; have GW230 := geA hg HB; have GE230 := geA hg HB; replace HB := bsA HB hb; clear hb hbox hg; have hcz36_0 : w35.cell? ⟨gb230, 0, none⟩ = some (.int .i64 a0_0) := (blk_cell BK230.out 0).trans rfl; have hcz36_1 : w35.cell? ⟨gb230, 1, none⟩ = some (.int .i64 a0_1) := (blk_cell BK230.out 1).trans rfl; have hcz36_2 : w35.cell? ⟨gb230, 2, none⟩ = some (.string a0_2) := (blk_cell BK230.out 2).trans rfl; have hcz36_3 : w35.cell? ⟨gb230, 3, none⟩ = some (.bool a0_3) := (blk_cell BK230.out 3).trans rfl; have hfz36_0 := blk_frozen BK230.out 0; have hfz36_1 := blk_frozen BK230.out 1; have hfz36_2 := blk_frozen BK230.out 2; have hfz36_3 := blk_frozen BK230.out 3) | ((with_reducible refine gate_callee (f := 67) rfl ?_); refine goesT (some 6) Tryz.func67 #[.agg #[.int .i64 a0_0, .int .i64 a0_1, .string a0_2, .bool a0_3]] ?_; (with_reducible refine (refrainref1_Valid.calls a0_0 a0_1 a0_2 a0_3 false _ A2.out).mono ?_); rintro e w37 ⟨rfl, hb⟩; refine ⟨_, rfl, ?_⟩; replace BK230 := bbA BK230 hb; replace HB := bsA HB hb; (try clear hb); (try clear hb2); (try clear hk); (try clear hi)))
    go_ret2
    exact ⟨by first | rfl | (simp [errW_none, errW_some] <;> rfl) | (simp [*, errW_none, errW_some] <;> rfl), hbT HB.out⟩

/-! ### refrainref1_guessed: function 64 -/
def refrainref1_guessed.l0 : Nat → ByteArray → Int → Int → Option (Int × Int × ByteArray × Bool)
  | 0, _, _, _ => none
  | k + 1, x0, x3, x4 => if x4 < (x0.size : Int) then (if 0 ≤ x4 then (if (bt x0 x4) ≥ 48 then (if (bt x0 x4) ≤ 57 then (refrainref1_guessed.l0 k x0 (IntKind.u64.wrap ((IntKind.u64.wrap (x3 * 10)) + (((bt x0 x4) - 48) % 256))) (wrap64 (x4 + 1))) else (refrainref1_guessed.l0 k x0 x3 (wrap64 (x4 + 1)))) else (refrainref1_guessed.l0 k x0 x3 (wrap64 (x4 + 1)))) else (none)) else (if (x0.size : Int) > 0 then (if 0 < (x0.size : Int) then (if (bt x0 0) = 45 then (some (1, wrap64 (IntKind.u64.wrap (-x3)), (⟨#[]⟩ : ByteArray), false)) else (some (1, wrap64 (x3), (⟨#[]⟩ : ByteArray), false))) else (none)) else (some (1, wrap64 (x3), (⟨#[]⟩ : ByteArray), false)))
def refrainref1_guessed.f (k : Nat) (a0 : ByteArray) : Option (Int × Int × ByteArray × Bool) := refrainref1_guessed.l0 k a0 0 0
set_option maxRecDepth 100000 in
theorem refrainref1_guessed.l0_zero : ∀ y0 y1 y2, refrainref1_guessed.l0 0 y0 y1 y2 = none := fun _ _ _ => rfl
set_option maxRecDepth 100000 in
theorem refrainref1_guessed.mono_l : ∀ k, (∀ y0 y1 y2, LeO (refrainref1_guessed.l0 k y0 y1 y2) (refrainref1_guessed.l0 (k + 1) y0 y1 y2))
  | 0 => fun _ _ _ r h => by (unfold refrainref1_guessed.l0 at h; cases h)
  | k + 1 => by
    have ih0 := refrainref1_guessed.mono_l k
    · intro y0 y1 y2
      unfold refrainref1_guessed.l0
      repeat' first
      | (with_reducible exact ih0 _ _ _)
      | (with_reducible exact LeO.refl _)
      | (with_reducible exact LeO.none _)
      | (with_reducible refine LeO.ite ?_ ?_)
      | (with_reducible refine LeO.bind ?_ (fun _ => ?_))
      | exact ih0 _ _ _
      | exact LeO.none _
      | refine LeO.ite ?_ ?_
      | refine LeO.bind ?_ (fun _ => ?_)
set_option maxRecDepth 100000 in
theorem refrainref1_guessed.mono : ∀ a0 k, LeO (refrainref1_guessed.f k a0) (refrainref1_guessed.f (k + 1) a0) := by
  intro a0 k
  have ih0 := refrainref1_guessed.mono_l k
  unfold refrainref1_guessed.f
  repeat' first
      | (with_reducible exact ih0 _ _ _)
      | (with_reducible exact LeO.refl _)
      | (with_reducible exact LeO.none _)
      | (with_reducible refine LeO.ite ?_ ?_)
      | (with_reducible refine LeO.bind ?_ (fun _ => ?_))
      | exact ih0 _ _ _
      | exact LeO.none _
      | refine LeO.ite ?_ ?_
      | refine LeO.bind ?_ (fun _ => ?_)
set_option maxHeartbeats 8000000 in
set_option maxRecDepth 100000 in
theorem refrainref1_guessed.calls (k : Nat) (a0 : ByteArray) (r1 : Int) (r2 : Int) (r3 : ByteArray) (r4 : Bool) (w : World) (h : refrainref1_guessed.f k a0 = some (r1, r2, r3, r4)) :
    Calls Tryz.prog 64 #[.string a0] w fun e w' => e = .returned (.agg #[.int .i64 r1, .int .i64 r2, .string r3, .bool r4]) ∧ Below w.heap.size w w' := by
  have hu43 := Tryz.underlying43
  have HB := Aside0.mk (Below.refl w.heap.size w)
  have H : (refrainref1_guessed.l0 k a0 0 0) = some (r1, r2, r3, r4) := h
  clear h
  have H' := Aside0.mk H
  clear H
  go_enter Tryz.func64, Tryz.ntmps64
  go_wp2_with (first | ((with_reducible refine gate_dst (N := 2) rfl ?_); refine box_event ?hg (N := 2) ?hd (cs := #[.int .i64 0, .int .i64 0, .string (⟨#[]⟩ : ByteArray), .bool false]) (t := 43) ?hr ?_; (case hd => rfl); (case hg => rfl); (case hr => first | (go_simp; done) | (go_simp; rfl)); intro gb235 hg w2 hbox hb; have BK235 := Aside0.mk hbox; have GW235 := geA hg HB; have GE235 := geA hg HB; replace HB := bsA HB hb; clear hb hbox hg))
  go_loopg [3, 4] k (fun kq v3 v4 w' => ∃ (x3_1 : Int) (x4_1 : Int), v3 = .int .u64 x3_1 ∧ v4 = .int .i64 x4_1 ∧ Aside0 (refrainref1_guessed.l0 kq a0 x3_1 x4_1 = some (r1, r2, r3, r4)) ∧ Aside0 (kq ≤ k) ∧ Aside0 (w'.heap[gb235]? = some (.cells #[.int .i64 0, .int .i64 0, .string (⟨#[]⟩ : ByteArray), .bool false] 43 (0, 0))) ∧ Aside0 (Below w.heap.size w w'))
  case atStart => exact ⟨(0), (0), (by first | rfl | (simp; done) | (simp [*]; done) | (simp; unfold wrap64; omega) | (congr 1; (try rw [Bool.eq_iff_iff]); simp [List.isEmpty_iff]; done)), (by first | rfl | (simp; done) | (simp [*]; done) | (simp; unfold wrap64; omega) | (congr 1; (try rw [Bool.eq_iff_iff]); simp [List.isEmpty_iff]; done)), H', ⟨Nat.le_refl _⟩, ⟨bkT BK235.out⟩, ⟨hbT HB.out⟩⟩
  case round =>
    clear H'
    try clear p2
    obtain ⟨x3_1, x4_1, rfl, rfl, HA, HK1, BK235, HB⟩ := hrel
    cases gk with
    | zero => (have HA2 := HA.out; clear HA; revert HA2; rw [refrainref1_guessed.l0_zero]; intro h_; cases h_)
    | succ k1 =>
      have H := HA.out
      clear HA
      simp only [refrainref1_guessed.l0] at H
      by_cases c3 : x4_1 < (a0.size : Int)
      · rw [if_pos c3] at H
        have c3b0 : decide (x4_1 < (a0.size : Int)) = true := decide_eq_true c3
        clear c3
        by_cases c4 : 0 ≤ x4_1
        · rw [if_pos c4] at H
          have c4b0 : decide (0 ≤ x4_1) = true := decide_eq_true c4
          clear c4
          by_cases c6 : (bt a0 x4_1) ≥ 48
          · rw [if_pos c6] at H
            have c6b0 : decide (48 ≤ (bt a0 x4_1)) = true := decide_eq_true c6
            clear c6
            by_cases c8 : (bt a0 x4_1) ≤ 57
            · rw [if_pos c8] at H
              have c8b0 : decide ((bt a0 x4_1) ≤ 57) = true := decide_eq_true c8
              clear c8
              have H' := Aside0.mk H
              clear H
              have p5 : 0 ≤ (x4_1 : Int) := of_decide_eq_true (by first | (with_reducible assumption) | assumption)
              have q5 : x4_1 < (a0.size : Int) := of_decide_eq_true (by first | (with_reducible assumption) | assumption)
              have hx5 := bt_at a0 x4_1
              replace p5 := eq_true p5
              replace q5 := eq_true q5
              have p7 : 0 ≤ (x4_1 : Int) := of_decide_eq_true (by first | (with_reducible assumption) | assumption)
              have q7 : x4_1 < (a0.size : Int) := of_decide_eq_true (by first | (with_reducible assumption) | assumption)
              have hx7 := bt_at a0 x4_1
              replace p7 := eq_true p7
              replace q7 := eq_true q7
              have p9 : 0 ≤ (x4_1 : Int) := of_decide_eq_true (by first | (with_reducible assumption) | assumption)
              have q9 : x4_1 < (a0.size : Int) := of_decide_eq_true (by first | (with_reducible assumption) | assumption)
              have hx9 := bt_at a0 x4_1
              replace p9 := eq_true p9
              replace q9 := eq_true q9
              go_wp2
              go_roundg k1
              case measure => have := HK1.out; omega
              case rel => exact ⟨(IntKind.u64.wrap ((IntKind.u64.wrap (x3_1 * 10)) + (((bt a0 x4_1) - 48) % 256))), (wrap64 (x4_1 + 1)), (by first | rfl | (simp; done) | (simp [*]; done) | (simp; unfold wrap64; omega) | (congr 1; (try rw [Bool.eq_iff_iff]); simp [List.isEmpty_iff]; done)), (by first | rfl | (simp; done) | (simp [*]; done) | (simp; unfold wrap64; omega) | (congr 1; (try rw [Bool.eq_iff_iff]); simp [List.isEmpty_iff]; done)), H', ⟨by have := HK1.out; omega⟩, ⟨bkT BK235.out⟩, ⟨hbT HB.out⟩⟩
            · rw [if_neg c8] at H
              have c8b0 : decide ((bt a0 x4_1) ≤ 57) = false := decide_eq_false c8
              clear c8
              have H' := Aside0.mk H
              clear H
              have p5 : 0 ≤ (x4_1 : Int) := of_decide_eq_true (by first | (with_reducible assumption) | assumption)
              have q5 : x4_1 < (a0.size : Int) := of_decide_eq_true (by first | (with_reducible assumption) | assumption)
              have hx5 := bt_at a0 x4_1
              replace p5 := eq_true p5
              replace q5 := eq_true q5
              have p7 : 0 ≤ (x4_1 : Int) := of_decide_eq_true (by first | (with_reducible assumption) | assumption)
              have q7 : x4_1 < (a0.size : Int) := of_decide_eq_true (by first | (with_reducible assumption) | assumption)
              have hx7 := bt_at a0 x4_1
              replace p7 := eq_true p7
              replace q7 := eq_true q7
              go_wp2
              go_roundg k1
              case measure => have := HK1.out; omega
              case rel => exact ⟨(x3_1), (wrap64 (x4_1 + 1)), (by first | rfl | (simp; done) | (simp [*]; done) | (simp; unfold wrap64; omega) | (congr 1; (try rw [Bool.eq_iff_iff]); simp [List.isEmpty_iff]; done)), (by first | rfl | (simp; done) | (simp [*]; done) | (simp; unfold wrap64; omega) | (congr 1; (try rw [Bool.eq_iff_iff]); simp [List.isEmpty_iff]; done)), H', ⟨by have := HK1.out; omega⟩, ⟨bkT BK235.out⟩, ⟨hbT HB.out⟩⟩
          · rw [if_neg c6] at H
            have c6b0 : decide (48 ≤ (bt a0 x4_1)) = false := decide_eq_false c6
            clear c6
            have H' := Aside0.mk H
            clear H
            have p5 : 0 ≤ (x4_1 : Int) := of_decide_eq_true (by first | (with_reducible assumption) | assumption)
            have q5 : x4_1 < (a0.size : Int) := of_decide_eq_true (by first | (with_reducible assumption) | assumption)
            have hx5 := bt_at a0 x4_1
            replace p5 := eq_true p5
            replace q5 := eq_true q5
            go_wp2
            go_roundg k1
            case measure => have := HK1.out; omega
            case rel => exact ⟨(x3_1), (wrap64 (x4_1 + 1)), (by first | rfl | (simp; done) | (simp [*]; done) | (simp; unfold wrap64; omega) | (congr 1; (try rw [Bool.eq_iff_iff]); simp [List.isEmpty_iff]; done)), (by first | rfl | (simp; done) | (simp [*]; done) | (simp; unfold wrap64; omega) | (congr 1; (try rw [Bool.eq_iff_iff]); simp [List.isEmpty_iff]; done)), H', ⟨by have := HK1.out; omega⟩, ⟨bkT BK235.out⟩, ⟨hbT HB.out⟩⟩
        · rw [if_neg c4] at H
          exact absurd H (by simp)
      · rw [if_neg c3] at H
        have c3b0 : decide (x4_1 < (a0.size : Int)) = false := decide_eq_false c3
        clear c3
        by_cases c10 : (a0.size : Int) > 0
        · rw [if_pos c10] at H
          have c10b0 : decide (0 < (a0.size : Int)) = true := decide_eq_true c10
          have c10b1 : decide (0 < a0.size) = true := decide_eq_true (by omega)
          clear c10
          by_cases c11 : 0 < (a0.size : Int)
          · rw [if_pos c11] at H
            have c11b0 : decide (0 < (a0.size : Int)) = true := decide_eq_true c11
            have c11b1 : decide (0 < a0.size) = true := decide_eq_true (by omega)
            clear c11
            by_cases c13 : (bt a0 0) = 45
            · rw [if_pos c13] at H
              have c13b0 : ((bt a0 0) == 45) = true := beq_iff_eq.mpr c13
              have c13b1 : ((bt a0 0) != 45) = false := bne_eq_false_iff_eq.mpr c13
              clear c13
              simp only [Option.some.injEq, Prod.mk.injEq] at H
              obtain ⟨rfl, rfl, rfl, rfl⟩ := H
              have p12 : 0 ≤ (0 : Int) := (by omega)
              have q12 : 0 < a0.size := (by have : (0 : Int) < (a0.size : Int) := of_decide_eq_true (by first | (with_reducible assumption) | assumption); omega)
              have hx12 : ∀ h : 0 < a0.size, ((a0[0]'h).toNat : Int) = bt a0 0 := bt_at a0 0
              clear p12
              have qi12 : (0 < (a0.size : Int)) = True := eq_true (of_decide_eq_true (by first | (with_reducible assumption) | assumption))
              replace q12 := eq_true q12
              have hcz14_0 : wr.cell? ⟨gb235, 0, none⟩ = some (.int .i64 0) := (blk_cell BK235.out 0).trans rfl; have hcz14_1 : wr.cell? ⟨gb235, 1, none⟩ = some (.int .i64 0) := (blk_cell BK235.out 1).trans rfl; have hcz14_2 : wr.cell? ⟨gb235, 2, none⟩ = some (.string (⟨#[]⟩ : ByteArray)) := (blk_cell BK235.out 2).trans rfl; have hcz14_3 : wr.cell? ⟨gb235, 3, none⟩ = some (.bool false) := (blk_cell BK235.out 3).trans rfl; have hfz14_0 := blk_frozen BK235.out 0; have hfz14_1 := blk_frozen BK235.out 1; have hfz14_2 := blk_frozen BK235.out 2; have hfz14_3 := blk_frozen BK235.out 3
              go_wp2
              refine bodyPost_ret (results_cell_row rfl _ _ gb235 43 #[.int .i64 1, .int .i64 (wrap64 (IntKind.u64.wrap (-x3_1))), .string (⟨#[]⟩ : ByteArray), .bool false] (0, 0) _ rfl (by (with_reducible repeat (first | refine blk_drewN ?_ _ | refine blk_drew ?_ | refine blk_alloc ?_ _)); refine blk_put (cs := #[.int .i64 1, .int .i64 (wrap64 (IntKind.u64.wrap (-x3_1))), .string (⟨#[]⟩ : ByteArray), .bool false]) ?_ 3 _ rfl; (with_reducible repeat (first | refine blk_drewN ?_ _ | refine blk_drew ?_ | refine blk_alloc ?_ _)); refine blk_put (cs := #[.int .i64 1, .int .i64 (wrap64 (IntKind.u64.wrap (-x3_1))), .string (⟨#[]⟩ : ByteArray), .bool false]) ?_ 2 _ rfl; (with_reducible repeat (first | refine blk_drewN ?_ _ | refine blk_drew ?_ | refine blk_alloc ?_ _)); refine blk_put (cs := #[.int .i64 1, .int .i64 0, .string (⟨#[]⟩ : ByteArray), .bool false]) ?_ 1 _ rfl; (with_reducible repeat (first | refine blk_drewN ?_ _ | refine blk_drew ?_ | refine blk_alloc ?_ _)); refine blk_put (cs := #[.int .i64 0, .int .i64 0, .string (⟨#[]⟩ : ByteArray), .bool false]) ?_ 0 _ rfl; (with_reducible repeat (first | refine blk_drewN ?_ _ | refine blk_drew ?_ | refine blk_alloc ?_ _)); exact BK235.out) Tryz.underlying43 rfl (by kernel_rfl)) rfl ?_
              exact ⟨by first | rfl | (simp [errW_none, errW_some] <;> rfl) | (simp [*, errW_none, errW_some] <;> rfl), hbT HB.out⟩
            · rw [if_neg c13] at H
              have c13b0 : ((bt a0 0) == 45) = false := beq_eq_false_iff_ne.mpr c13
              have c13b1 : ((bt a0 0) != 45) = true := bne_iff_ne.mpr c13
              simp only [Option.some.injEq, Prod.mk.injEq] at H
              obtain ⟨rfl, rfl, rfl, rfl⟩ := H
              have p12 : 0 ≤ (0 : Int) := (by omega)
              have q12 : 0 < a0.size := (by have : (0 : Int) < (a0.size : Int) := of_decide_eq_true (by first | (with_reducible assumption) | assumption); omega)
              have hx12 : ∀ h : 0 < a0.size, ((a0[0]'h).toNat : Int) = bt a0 0 := bt_at a0 0
              clear p12
              have qi12 : (0 < (a0.size : Int)) = True := eq_true (of_decide_eq_true (by first | (with_reducible assumption) | assumption))
              replace q12 := eq_true q12
              have hcz15_0 : wr.cell? ⟨gb235, 0, none⟩ = some (.int .i64 0) := (blk_cell BK235.out 0).trans rfl; have hcz15_1 : wr.cell? ⟨gb235, 1, none⟩ = some (.int .i64 0) := (blk_cell BK235.out 1).trans rfl; have hcz15_2 : wr.cell? ⟨gb235, 2, none⟩ = some (.string (⟨#[]⟩ : ByteArray)) := (blk_cell BK235.out 2).trans rfl; have hcz15_3 : wr.cell? ⟨gb235, 3, none⟩ = some (.bool false) := (blk_cell BK235.out 3).trans rfl; have hfz15_0 := blk_frozen BK235.out 0; have hfz15_1 := blk_frozen BK235.out 1; have hfz15_2 := blk_frozen BK235.out 2; have hfz15_3 := blk_frozen BK235.out 3
              go_wp2
              refine bodyPost_ret (results_cell_row rfl _ _ gb235 43 #[.int .i64 1, .int .i64 (wrap64 (x3_1)), .string (⟨#[]⟩ : ByteArray), .bool false] (0, 0) _ rfl (by (with_reducible repeat (first | refine blk_drewN ?_ _ | refine blk_drew ?_ | refine blk_alloc ?_ _)); refine blk_put (cs := #[.int .i64 1, .int .i64 (wrap64 (x3_1)), .string (⟨#[]⟩ : ByteArray), .bool false]) ?_ 3 _ rfl; (with_reducible repeat (first | refine blk_drewN ?_ _ | refine blk_drew ?_ | refine blk_alloc ?_ _)); refine blk_put (cs := #[.int .i64 1, .int .i64 (wrap64 (x3_1)), .string (⟨#[]⟩ : ByteArray), .bool false]) ?_ 2 _ rfl; (with_reducible repeat (first | refine blk_drewN ?_ _ | refine blk_drew ?_ | refine blk_alloc ?_ _)); refine blk_put (cs := #[.int .i64 1, .int .i64 0, .string (⟨#[]⟩ : ByteArray), .bool false]) ?_ 1 _ rfl; (with_reducible repeat (first | refine blk_drewN ?_ _ | refine blk_drew ?_ | refine blk_alloc ?_ _)); refine blk_put (cs := #[.int .i64 0, .int .i64 0, .string (⟨#[]⟩ : ByteArray), .bool false]) ?_ 0 _ rfl; (with_reducible repeat (first | refine blk_drewN ?_ _ | refine blk_drew ?_ | refine blk_alloc ?_ _)); exact BK235.out) Tryz.underlying43 rfl (by kernel_rfl)) rfl ?_
              exact ⟨by first | rfl | (simp [errW_none, errW_some] <;> rfl) | (simp [*, errW_none, errW_some] <;> rfl), hbT HB.out⟩
          · rw [if_neg c11] at H
            exact absurd H (by simp)
        · rw [if_neg c10] at H
          have c10b0 : decide (0 < (a0.size : Int)) = false := decide_eq_false c10
          have c10b1 : decide (0 < a0.size) = false := decide_eq_false (by omega)
          clear c10
          simp only [Option.some.injEq, Prod.mk.injEq] at H
          obtain ⟨rfl, rfl, rfl, rfl⟩ := H
          have hcz16_0 : wr.cell? ⟨gb235, 0, none⟩ = some (.int .i64 0) := (blk_cell BK235.out 0).trans rfl; have hcz16_1 : wr.cell? ⟨gb235, 1, none⟩ = some (.int .i64 0) := (blk_cell BK235.out 1).trans rfl; have hcz16_2 : wr.cell? ⟨gb235, 2, none⟩ = some (.string (⟨#[]⟩ : ByteArray)) := (blk_cell BK235.out 2).trans rfl; have hcz16_3 : wr.cell? ⟨gb235, 3, none⟩ = some (.bool false) := (blk_cell BK235.out 3).trans rfl; have hfz16_0 := blk_frozen BK235.out 0; have hfz16_1 := blk_frozen BK235.out 1; have hfz16_2 := blk_frozen BK235.out 2; have hfz16_3 := blk_frozen BK235.out 3
          go_wp2
          refine bodyPost_ret (results_cell_row rfl _ _ gb235 43 #[.int .i64 1, .int .i64 (wrap64 (x3_1)), .string (⟨#[]⟩ : ByteArray), .bool false] (0, 0) _ rfl (by (with_reducible repeat (first | refine blk_drewN ?_ _ | refine blk_drew ?_ | refine blk_alloc ?_ _)); refine blk_put (cs := #[.int .i64 1, .int .i64 (wrap64 (x3_1)), .string (⟨#[]⟩ : ByteArray), .bool false]) ?_ 3 _ rfl; (with_reducible repeat (first | refine blk_drewN ?_ _ | refine blk_drew ?_ | refine blk_alloc ?_ _)); refine blk_put (cs := #[.int .i64 1, .int .i64 (wrap64 (x3_1)), .string (⟨#[]⟩ : ByteArray), .bool false]) ?_ 2 _ rfl; (with_reducible repeat (first | refine blk_drewN ?_ _ | refine blk_drew ?_ | refine blk_alloc ?_ _)); refine blk_put (cs := #[.int .i64 1, .int .i64 0, .string (⟨#[]⟩ : ByteArray), .bool false]) ?_ 1 _ rfl; (with_reducible repeat (first | refine blk_drewN ?_ _ | refine blk_drew ?_ | refine blk_alloc ?_ _)); refine blk_put (cs := #[.int .i64 0, .int .i64 0, .string (⟨#[]⟩ : ByteArray), .bool false]) ?_ 0 _ rfl; (with_reducible repeat (first | refine blk_drewN ?_ _ | refine blk_drew ?_ | refine blk_alloc ?_ _)); exact BK235.out) Tryz.underlying43 rfl (by kernel_rfl)) rfl ?_
          exact ⟨by first | rfl | (simp [errW_none, errW_some] <;> rfl) | (simp [*, errW_none, errW_some] <;> rfl), hbT HB.out⟩

/-! ### refrainref1_nibble: function 81 -/
def refrainref1_nibble.l0 : Nat → Int → Int → Option (Int)
  | 0, _, _ => none
  | k + 1, x0, x3 => if x3 < 16 then ((refrainref1_Hex.f x3).bind fun t236 => (if t236 = x0 then (some x3) else (refrainref1_nibble.l0 k x0 (wrap64 (x3 + 1))))) else (some 0)
def refrainref1_nibble.f (k : Nat) (a0 : Int) : Option (Int) := refrainref1_nibble.l0 k a0 0
set_option maxRecDepth 100000 in
theorem refrainref1_nibble.l0_zero : ∀ y0 y1, refrainref1_nibble.l0 0 y0 y1 = none := fun _ _ => rfl
set_option maxRecDepth 100000 in
theorem refrainref1_nibble.mono_l : ∀ k, (∀ y0 y1, LeO (refrainref1_nibble.l0 k y0 y1) (refrainref1_nibble.l0 (k + 1) y0 y1))
  | 0 => fun _ _ r h => by (unfold refrainref1_nibble.l0 at h; cases h)
  | k + 1 => by
    have ih0 := refrainref1_nibble.mono_l k
    · intro y0 y1
      unfold refrainref1_nibble.l0
      repeat' first
      | (with_reducible exact ih0 _ _)
      | (with_reducible exact LeO.refl _)
      | (with_reducible exact LeO.none _)
      | (with_reducible refine LeO.ite ?_ ?_)
      | (with_reducible refine LeO.bind ?_ (fun _ => ?_))
      | exact ih0 _ _
      | exact LeO.none _
      | refine LeO.ite ?_ ?_
      | refine LeO.bind ?_ (fun _ => ?_)
set_option maxRecDepth 100000 in
theorem refrainref1_nibble.mono : ∀ a0 k, LeO (refrainref1_nibble.f k a0) (refrainref1_nibble.f (k + 1) a0) := by
  intro a0 k
  have ih0 := refrainref1_nibble.mono_l k
  unfold refrainref1_nibble.f
  repeat' first
      | (with_reducible exact ih0 _ _)
      | (with_reducible exact LeO.refl _)
      | (with_reducible exact LeO.none _)
      | (with_reducible refine LeO.ite ?_ ?_)
      | (with_reducible refine LeO.bind ?_ (fun _ => ?_))
      | exact ih0 _ _
      | exact LeO.none _
      | refine LeO.ite ?_ ?_
      | refine LeO.bind ?_ (fun _ => ?_)
set_option maxHeartbeats 8000000 in
set_option maxRecDepth 100000 in
theorem refrainref1_nibble.calls (k : Nat) (a0 : Int) (r : Int) (w : World) (h : refrainref1_nibble.f k a0 = some r) :
    Calls Tryz.prog 81 #[.int .u8 a0] w fun e w' => e = .returned (.int .i64 r) ∧ Drawn0 w w' := by
  have H : (refrainref1_nibble.l0 k a0 0) = some r := h
  clear h
  have H' := Aside0.mk H
  clear H
  go_enter Tryz.func81, Tryz.ntmps81
  go_wp2
  go_loopg [3] k (fun kq v3 w' => ∃ (x3_1 : Int), v3 = .int .i64 x3_1 ∧ Aside0 (refrainref1_nibble.l0 kq a0 x3_1 = some r) ∧ Aside0 (kq ≤ k) ∧ Drawn0 w w')
  case atStart => exact ⟨(0), (by first | rfl | (simp; done) | (simp [*]; done) | (simp; unfold wrap64; omega) | (congr 1; (try rw [Bool.eq_iff_iff]); simp [List.isEmpty_iff]; done)), H', ⟨Nat.le_refl _⟩, by repeat (first | exact Drawn0.refl _ | apply Drawn0.step)⟩
  case round =>
    clear H'
    obtain ⟨x3_1, rfl, HA, HK1, ⟨m1, rfl⟩⟩ := hrel
    cases gk with
    | zero => (have HA2 := HA.out; clear HA; revert HA2; rw [refrainref1_nibble.l0_zero]; intro h_; cases h_)
    | succ k1 =>
      have H := HA.out
      clear HA
      simp only [refrainref1_nibble.l0] at H
      by_cases c2 : x3_1 < 16
      · rw [if_pos c2] at H
        have c2b0 : decide (x3_1 < 16) = true := decide_eq_true c2
        clear c2
        replace H := Option.bind_eq_some_iff.mp H
        obtain ⟨t236, A30, H⟩ := H
        replace H : (if t236 = a0 then (some x3_1) else (refrainref1_nibble.l0 k1 a0 (wrap64 (x3_1 + 1)))) = some r := H
        have A3 := Aside0.mk A30
        clear A30
        by_cases c4 : t236 = a0
        · rw [if_pos c4] at H
          have c4b0 : (t236 == a0) = true := beq_iff_eq.mpr c4
          have c4b1 : (t236 != a0) = false := bne_eq_false_iff_eq.mpr c4
          clear c4
          obtain rfl := Option.some.inj H
          go_wp2_with (first | ((with_reducible refine gate_callee (f := 86) rfl ?_); refine goesT (some 9) Tryz.func86 #[.int .i64 x3_1] ?_; (with_reducible refine (refrainref1_Hex.calls x3_1 t236 _ A3.out).mono ?_); rintro e w' ⟨rfl, ⟨nd, rfl⟩⟩; refine ⟨_, rfl, ?_⟩))
          go_ret
          exact ⟨by first | rfl | (simp; done) | (simp [*]; done) | (simp; unfold wrap64; omega) | (congr 1; (try rw [Bool.eq_iff_iff]); simp [List.isEmpty_iff]; done), by repeat (first | exact Drawn0.refl _ | apply Drawn0.step)⟩
        · rw [if_neg c4] at H
          have c4b0 : (t236 == a0) = false := beq_eq_false_iff_ne.mpr c4
          have c4b1 : (t236 != a0) = true := bne_iff_ne.mpr c4
          have H' := Aside0.mk H
          clear H
          go_wp2_with (first | ((with_reducible refine gate_callee (f := 86) rfl ?_); refine goesT (some 9) Tryz.func86 #[.int .i64 x3_1] ?_; (with_reducible refine (refrainref1_Hex.calls x3_1 t236 _ A3.out).mono ?_); rintro e w' ⟨rfl, ⟨nd, rfl⟩⟩; refine ⟨_, rfl, ?_⟩))
          go_roundg k1
          case measure => have := HK1.out; omega
          case rel => exact ⟨(wrap64 (x3_1 + 1)), (by first | rfl | (simp; done) | (simp [*]; done) | (simp; unfold wrap64; omega) | (congr 1; (try rw [Bool.eq_iff_iff]); simp [List.isEmpty_iff]; done)), H', ⟨by have := HK1.out; omega⟩, by repeat (first | exact Drawn0.refl _ | apply Drawn0.step)⟩
      · rw [if_neg c2] at H
        have c2b0 : decide (x3_1 < 16) = false := decide_eq_false c2
        clear c2
        obtain rfl := Option.some.inj H
        go_wp2
        go_ret
        exact ⟨by first | rfl | (simp; done) | (simp [*]; done) | (simp; unfold wrap64; omega) | (congr 1; (try rw [Bool.eq_iff_iff]); simp [List.isEmpty_iff]; done), by repeat (first | exact Drawn0.refl _ | apply Drawn0.step)⟩

end Go.Proofs.YtpkbhfdfgapmlaaGreatDoor.Pr
end

/-! ## text Prx10 -/
section
namespace Go.Proofs.YtpkbhfdfgapmlaaGreatDoor.Pr
open Go.RowKit Go.Proofs.YtpkbhfdfgapmlaaGreatDoorW.PrintWords Go.Proofs.YtpkbhfdfgapmlaaGreatDoorW.PrintLast Go.Proofs.YtpkbhfdfgapmlaaGreatDoorW.PrintMore
attribute [local go_sem] max2_int min2_int max_two min_two max_three min_three max_four min_four   -- for this text's walks alone
attribute [local go_sem high] Go.Proofs.YtpkbhfdfgapmlaaGreatDoor.isSome_setCell
set_option maxRecDepth 100000
set_option linter.unusedVariables false
set_option linter.unusedSimpArgs false

/-! ### refrainref1_unquoted: function 65 -/
mutual
def refrainref1_unquoted.l0 : Nat → ByteArray → List Int → Int → Option (Int × Int × ByteArray × Bool)
  | 0, _, _, _ => none
  | k + 1, x0, x3, x4 => if x4 < (wrap64 ((x0.size : Int) - 1)) then (if 0 ≤ x4 then (if x4 < (x0.size : Int) then (if (bt x0 x4) = 92 then (refrainref1_unquoted.j1 k x0 x3 x4 (bt x0 x4) (decide ((wrap64 (x4 + 1)) ≥ (wrap64 ((x0.size : Int) - 1))))) else (refrainref1_unquoted.j1 k x0 x3 x4 (bt x0 x4) true)) else (none)) else (none)) else (some (2, 0, strOfNums x3, false))
def refrainref1_unquoted.j1 : Nat → ByteArray → List Int → Int → Int → Bool → Option (Int × Int × ByteArray × Bool)
  | 0, _, _, _, _, _ => none
  | k + 1, x0, x3, x4, x5, x25 => if x25 = true then (if x3.length < 140737488355328 then (refrainref1_unquoted.l0 k x0 (x3 ++ [x5]) (wrap64 (x4 + 1))) else (none)) else (if 0 ≤ (wrap64 (x4 + 1)) then (if (wrap64 (x4 + 1)) < (x0.size : Int) then (if (bt x0 (wrap64 (x4 + 1))) = 110 then (if x3.length < 140737488355328 then (refrainref1_unquoted.l0 k x0 (x3 ++ [10]) (wrap64 ((wrap64 (x4 + 1)) + 1))) else (none)) else (if (bt x0 (wrap64 (x4 + 1))) = 116 then (if x3.length < 140737488355328 then (refrainref1_unquoted.l0 k x0 (x3 ++ [9]) (wrap64 ((wrap64 (x4 + 1)) + 1))) else (none)) else (if (bt x0 (wrap64 (x4 + 1))) = 120 then (refrainref1_unquoted.j2 k x0 x3 (wrap64 (x4 + 1)) (decide ((wrap64 ((wrap64 (x4 + 1)) + 2)) < (x0.size : Int)))) else (refrainref1_unquoted.j2 k x0 x3 (wrap64 (x4 + 1)) false)))) else (none)) else (none))
def refrainref1_unquoted.j2 : Nat → ByteArray → List Int → Int → Bool → Option (Int × Int × ByteArray × Bool)
  | 0, _, _, _, _ => none
  | k + 1, x0, x3, x4, x54 => if x54 = true then (if 0 ≤ (wrap64 (x4 + 1)) then (if (wrap64 (x4 + 1)) < (x0.size : Int) then ((refrainref1_nibble.f k (bt x0 (wrap64 (x4 + 1)))).bind fun t247 => (if 0 ≤ (wrap64 (x4 + 2)) then (if (wrap64 (x4 + 2)) < (x0.size : Int) then ((refrainref1_nibble.f k (bt x0 (wrap64 (x4 + 2)))).bind fun t248 => (if x3.length < 140737488355328 then (refrainref1_unquoted.l0 k x0 (x3 ++ [(wrap64 ((wrap64 (t247 * 16)) + t248)) % 256]) (wrap64 ((wrap64 (x4 + 2)) + 1))) else (none))) else (none)) else (none))) else (none)) else (none)) else (if 0 ≤ x4 then (if x4 < (x0.size : Int) then (if x3.length < 140737488355328 then (refrainref1_unquoted.l0 k x0 (x3 ++ [bt x0 x4]) (wrap64 (x4 + 1))) else (none)) else (none)) else (none))
end
def refrainref1_unquoted.f (k : Nat) (a0 : ByteArray) : Option (Int × Int × ByteArray × Bool) := refrainref1_unquoted.l0 k a0 ([] : List Int) 1
set_option maxRecDepth 100000 in
theorem refrainref1_unquoted.l0_zero : ∀ y0 y1 y2, refrainref1_unquoted.l0 0 y0 y1 y2 = none := fun _ _ _ => rfl
set_option maxRecDepth 100000 in
theorem refrainref1_unquoted.j1_zero : ∀ y0 y1 y2 y3 y4, refrainref1_unquoted.j1 0 y0 y1 y2 y3 y4 = none := fun _ _ _ _ _ => rfl
set_option maxRecDepth 100000 in
theorem refrainref1_unquoted.j2_zero : ∀ y0 y1 y2 y3, refrainref1_unquoted.j2 0 y0 y1 y2 y3 = none := fun _ _ _ _ => rfl
set_option maxRecDepth 100000 in
theorem refrainref1_unquoted.mono_l : ∀ k, (∀ y0 y1 y2, LeO (refrainref1_unquoted.l0 k y0 y1 y2) (refrainref1_unquoted.l0 (k + 1) y0 y1 y2)) ∧ (∀ y0 y1 y2 y3 y4, LeO (refrainref1_unquoted.j1 k y0 y1 y2 y3 y4) (refrainref1_unquoted.j1 (k + 1) y0 y1 y2 y3 y4)) ∧ (∀ y0 y1 y2 y3, LeO (refrainref1_unquoted.j2 k y0 y1 y2 y3) (refrainref1_unquoted.j2 (k + 1) y0 y1 y2 y3))
  | 0 => ⟨fun _ _ _ r h => by (unfold refrainref1_unquoted.l0 at h; cases h), fun _ _ _ _ _ r h => by (unfold refrainref1_unquoted.j1 at h; cases h), fun _ _ _ _ r h => by (unfold refrainref1_unquoted.j2 at h; cases h)⟩
  | k + 1 => by
    obtain ⟨ih0, ih1, ih2⟩ := refrainref1_unquoted.mono_l k
    refine ⟨?_, ?_, ?_⟩
    · intro y0 y1 y2
      unfold refrainref1_unquoted.l0
      repeat' first
      | (with_reducible exact ih0 _ _ _)
      | (with_reducible exact ih1 _ _ _ _ _)
      | (with_reducible exact ih2 _ _ _ _)
      | (with_reducible exact refrainref1_nibble.mono _ _)
      | (with_reducible exact LeO.refl _)
      | (with_reducible exact LeO.none _)
      | (with_reducible refine LeO.ite ?_ ?_)
      | (with_reducible refine LeO.bind ?_ (fun _ => ?_))
      | exact ih0 _ _ _
      | exact ih1 _ _ _ _ _
      | exact ih2 _ _ _ _
      | exact refrainref1_nibble.mono _ _
      | exact LeO.none _
      | refine LeO.ite ?_ ?_
      | refine LeO.bind ?_ (fun _ => ?_)
    · intro y0 y1 y2 y3 y4
      unfold refrainref1_unquoted.j1
      repeat' first
      | (with_reducible exact ih0 _ _ _)
      | (with_reducible exact ih1 _ _ _ _ _)
      | (with_reducible exact ih2 _ _ _ _)
      | (with_reducible exact refrainref1_nibble.mono _ _)
      | (with_reducible exact LeO.refl _)
      | (with_reducible exact LeO.none _)
      | (with_reducible refine LeO.ite ?_ ?_)
      | (with_reducible refine LeO.bind ?_ (fun _ => ?_))
      | exact ih0 _ _ _
      | exact ih1 _ _ _ _ _
      | exact ih2 _ _ _ _
      | exact refrainref1_nibble.mono _ _
      | exact LeO.none _
      | refine LeO.ite ?_ ?_
      | refine LeO.bind ?_ (fun _ => ?_)
    · intro y0 y1 y2 y3
      unfold refrainref1_unquoted.j2
      repeat' first
      | (with_reducible exact ih0 _ _ _)
      | (with_reducible exact ih1 _ _ _ _ _)
      | (with_reducible exact ih2 _ _ _ _)
      | (with_reducible exact refrainref1_nibble.mono _ _)
      | (with_reducible exact LeO.refl _)
      | (with_reducible exact LeO.none _)
      | (with_reducible refine LeO.ite ?_ ?_)
      | (with_reducible refine LeO.bind ?_ (fun _ => ?_))
      | exact ih0 _ _ _
      | exact ih1 _ _ _ _ _
      | exact ih2 _ _ _ _
      | exact refrainref1_nibble.mono _ _
      | exact LeO.none _
      | refine LeO.ite ?_ ?_
      | refine LeO.bind ?_ (fun _ => ?_)
set_option maxRecDepth 100000 in
theorem refrainref1_unquoted.mono : ∀ a0 k, LeO (refrainref1_unquoted.f k a0) (refrainref1_unquoted.f (k + 1) a0) := by
  intro a0 k
  obtain ⟨ih0, ih1, ih2⟩ := refrainref1_unquoted.mono_l k
  unfold refrainref1_unquoted.f
  repeat' first
      | (with_reducible exact ih0 _ _ _)
      | (with_reducible exact ih1 _ _ _ _ _)
      | (with_reducible exact ih2 _ _ _ _)
      | (with_reducible exact refrainref1_nibble.mono _ _)
      | (with_reducible exact LeO.refl _)
      | (with_reducible exact LeO.none _)
      | (with_reducible refine LeO.ite ?_ ?_)
      | (with_reducible refine LeO.bind ?_ (fun _ => ?_))
      | exact ih0 _ _ _
      | exact ih1 _ _ _ _ _
      | exact ih2 _ _ _ _
      | exact refrainref1_nibble.mono _ _
      | exact LeO.none _
      | refine LeO.ite ?_ ?_
      | refine LeO.bind ?_ (fun _ => ?_)
def refrainref1_unquoted.T15 : Bool × List (List Nat × List Nat) := (true, [([], []), ([], []), ([], []), ([2], [2]), ([1, 3], [1, 3]), ([4], [4]), ([5], [5]), ([], []), ([], []), ([8], [8]), ([7, 9], [7, 9]), ([10, 5], [10]), ([6, 11], [6, 11]), ([12], [12]), ([13], [13]), ([0, 14, 11], [0, 14]), ([15, 15, 0, 1, 2, 3, 4, 5, 6, 7, 8, 9, 10, 11, 12, 13, 14, 15], [0, 15])])
def refrainref1_unquoted.B15 : List Nat := [0, 0, 0, 4, 14, 30, 62, 0, 0, 256, 896, 1982, 4094, 8190, 16382, 32767, 65535]
theorem refrainref1_unquoted.tab15 : rtab .any (opsOf Tryz.f65 15) = refrainref1_unquoted.T15 := by kernel_rfl
theorem refrainref1_unquoted.bits15 : waitsOk refrainref1_unquoted.T15.2 refrainref1_unquoted.B15 = true := by kernel_rfl
set_option maxHeartbeats 8000000 in
set_option maxRecDepth 100000 in
theorem refrainref1_unquoted.calls (k : Nat) (a0 : ByteArray) (r1 : Int) (r2 : Int) (r3 : ByteArray) (r4 : Bool) (w : World) (h : refrainref1_unquoted.f k a0 = some (r1, r2, r3, r4)) :
    Calls Tryz.prog 65 #[.string a0] w fun e w' => e = .returned (.agg #[.int .i64 r1, .int .i64 r2, .string r3, .bool r4]) ∧ Below w.heap.size w w' := by
  have hu43 := Tryz.underlying43
  have HB := Aside0.mk (Below.refl w.heap.size w)
  have H : (refrainref1_unquoted.l0 k a0 ([] : List Int) 1) = some (r1, r2, r3, r4) := h
  clear h
  have H' := Aside0.mk H
  clear H
  go_enter Tryz.func65, Tryz.ntmps65
  go_wp2_with (first | ((with_reducible refine gate_dst (N := 2) rfl ?_); (try (refine gate_guard (by rfl) ?_; dsimp only)); refine box_event ?hg (N := 2) ?hd (cs := #[.int .i64 0, .int .i64 0, .string (⟨#[]⟩ : ByteArray), .bool false]) (t := 43) ?hr ?_; (case hd => rfl); (case hg => rfl); (case hr => first | (go_simp; done) | (go_simp; rfl)); intro gb237 hg w2 hbox hb; have BK237 := Aside0.mk hbox; have GW237 := geA hg HB; have GE237 := geA hg HB; replace HB := bsA HB hb; clear hb hbox hg))
  go_loopg [3, 4] k (fun kq v3 v4 w' => ∃ (x3_1 : List Int) (x4_1 : Int), v4 = .int .i64 x4_1 ∧ Aside0 (refrainref1_unquoted.l0 kq a0 x3_1 x4_1 = some (r1, r2, r3, r4)) ∧ Aside0 (kq ≤ k) ∧ Aside0 (Kd.R (Kd.int .u8) 5 w' w.heap.size (fun _ => True) v3 x3_1) ∧ Aside0 (w'.heap[gb237]? = some (.cells #[.int .i64 0, .int .i64 0, .string (⟨#[]⟩ : ByteArray), .bool false] 43 (0, 0))) ∧ Aside0 (Below w.heap.size w w'))
  case atStart => exact ⟨(([] : List Int)), (1), (by first | rfl | (simp; done) | (simp [*]; done) | (simp; unfold wrap64; omega) | (congr 1; (try rw [Bool.eq_iff_iff]); simp [List.isEmpty_iff]; done)), H', ⟨Nat.le_refl _⟩, ⟨by first | exact Kd.R_nil _ _ _ _ _ | exact Kd.N_nil _ _ _ _ _ | exact Kd.V_nil _ _ _ _ _ | exact Kd.Q_nil _ _ _ _ _ | exact Kd.S_nil _ _ _ _ _⟩, ⟨bkT BK237.out⟩, ⟨hbT HB.out⟩⟩
  case round =>
    clear H'
    try clear p2
    obtain ⟨x3_1, x4_1, rfl, HA, HK1, HO_3, BK237, HB⟩ := hrel
    cases gk with
    | zero => (have HA2 := HA.out; clear HA; revert HA2; rw [refrainref1_unquoted.l0_zero]; intro h_; cases h_)
    | succ k1 =>
      have H := HA.out
      clear HA
      simp only [refrainref1_unquoted.l0] at H
      by_cases c3 : x4_1 < (wrap64 ((a0.size : Int) - 1))
      · rw [if_pos c3] at H
        have c3b0 : decide (x4_1 < (wrap64 ((a0.size : Int) - 1))) = true := decide_eq_true c3
        clear c3
        by_cases c4 : 0 ≤ x4_1
        · rw [if_pos c4] at H
          have c4b0 : decide (0 ≤ x4_1) = true := decide_eq_true c4
          clear c4
          by_cases c5 : x4_1 < (a0.size : Int)
          · rw [if_pos c5] at H
            have c5b0 : decide (x4_1 < (a0.size : Int)) = true := decide_eq_true c5
            clear c5
            have HC7 := Aside0.mk H
            clear H
            have p6 : 0 ≤ (x4_1 : Int) := of_decide_eq_true (by first | (with_reducible assumption) | assumption)
            have q6 : x4_1 < (a0.size : Int) := of_decide_eq_true (by first | (with_reducible assumption) | assumption)
            have hx6 := bt_at a0 x4_1
            replace p6 := eq_true p6
            replace q6 := eq_true q6
            go_upto_region 6 with (fail)
            go_cut [25] (fun v25 wc => ∃ (kq : Nat) (x25_6 : Bool), v25 = .bool x25_6 ∧ Aside0 (refrainref1_unquoted.j1 kq a0 x3_1 x4_1 (bt a0 x4_1) x25_6 = some (r1, r2, r3, r4)) ∧ Aside0 (kq ≤ k1) ∧ Aside0 (Kd.R (Kd.int .u8) 5 wc w.heap.size (fun _ => True) u3 x3_1) ∧ Aside0 (wc.heap[gb237]? = some (.cells #[.int .i64 0, .int .i64 0, .string (⟨#[]⟩ : ByteArray), .bool false] 43 (0, 0))) ∧ Aside0 (Below w.heap.size w wc))
            case first =>
              have H := HC7.out
              clear HC7
              by_cases c8 : (bt a0 x4_1) = 92
              · rw [if_pos c8] at H
                have c8b0 : ((bt a0 x4_1) == 92) = true := beq_iff_eq.mpr c8
                have c8b1 : ((bt a0 x4_1) != 92) = false := bne_eq_false_iff_eq.mpr c8
                clear c8
                (first | rw [c8b0] | (simp only [i64_w, i32_w, IntKind.wrap_u8, IntKind.wrap_u16, IntKind.wrap_u32]; rw [c8b0]) | skip)
                have H' := Aside0.mk H
                clear H
                go_wp2
                go_meet
                case rel => exact ⟨_, (decide ((wrap64 (x4_1 + 1)) ≥ (wrap64 ((a0.size : Int) - 1)))), (by first | rfl | (simp; done) | (simp [*]; done) | (simp; unfold wrap64; omega) | (congr 1; (try rw [Bool.eq_iff_iff]); simp [List.isEmpty_iff]; done)), H', ⟨by have := HK1.out; first | omega | exact Nat.le_refl _⟩, ⟨by (with_reducible repeat (first | apply Kd.R_alloc | apply Kd.R_drewN | apply Kd.R_drew)); exact HO_3.out⟩, ⟨bkT BK237.out⟩, ⟨hbT HB.out⟩⟩
              · rw [if_neg c8] at H
                have c8b0 : ((bt a0 x4_1) == 92) = false := beq_eq_false_iff_ne.mpr c8
                have c8b1 : ((bt a0 x4_1) != 92) = true := bne_iff_ne.mpr c8
                (first | rw [c8b0] | (simp only [i64_w, i32_w, IntKind.wrap_u8, IntKind.wrap_u16, IntKind.wrap_u32]; rw [c8b0]) | skip)
                have H' := Aside0.mk H
                clear H
                go_wp2
                go_meet
                case rel => exact ⟨_, (true), (by first | rfl | (simp; done) | (simp [*]; done) | (simp; unfold wrap64; omega) | (congr 1; (try rw [Bool.eq_iff_iff]); simp [List.isEmpty_iff]; done)), H', ⟨by have := HK1.out; first | omega | exact Nat.le_refl _⟩, ⟨by (with_reducible repeat (first | apply Kd.R_alloc | apply Kd.R_drewN | apply Kd.R_drew)); exact HO_3.out⟩, ⟨bkT BK237.out⟩, ⟨hbT HB.out⟩⟩
            case rest =>
              clear HC7
              try clear p2
              try clear c3
              try clear c3b0
              try clear c4
              try clear c4b0
              try clear c5
              try clear c5b0
              try clear c6
              try clear p6
              try clear q6
              try clear hx6
              try clear c8
              try clear c8b0
              try clear c8b1
              try clear p2
              try clear p6
              try clear q6
              obtain ⟨kq, x25_6, rfl, HA, HJ6, HO_3, BK237, HB⟩ := hcut
              cases kq with
              | zero => (have HA2 := HA.out; clear HA; revert HA2; rw [refrainref1_unquoted.j1_zero]; intro h_; cases h_)
              | succ kj6 =>
                have H := HA.out
                clear HA
                simp only [refrainref1_unquoted.j1] at H
                by_cases c9 : x25_6 = true
                · subst c9
                  have H1 : (if x3_1.length < 140737488355328 then (refrainref1_unquoted.l0 kj6 a0 (x3_1 ++ [(bt a0 x4_1)]) (wrap64 (x4_1 + 1))) else (none)) = some (r1, r2, r3, r4) := by rw [if_pos rfl] at H; exact H
                  clear H
                  have H := H1
                  clear H1
                  by_cases c10 : x3_1.length < 140737488355328
                  · rw [if_pos c10] at H
                    have LMc10 := Aside0.mk c10
                    clear c10
                    obtain ⟨y238, hy238⟩ : ∃ y_ : List Int, y_ = (x3_1 ++ [(bt a0 x4_1)]) := ⟨_, rfl⟩
                    replace H : (refrainref1_unquoted.l0 kj6 a0 y238 (wrap64 (x4_1 + 1))) = some (r1, r2, r3, r4) := by first | (rw [hy238]; with_reducible exact H) | (have H2_ := (Option.bind_some _ _).symm.trans H; rw [hy238]; with_reducible exact H2_) | (have H2_ := (Option.bind_some _ _).symm.trans H; with_reducible exact H2_) | with_reducible exact H | (rw [hy238]; exact H) | exact H
                    have Ny238 := Aside0.mk hy238
                    clear hy238
                    have H' := Aside0.mk H
                    clear H
                    go_wp2_with (first | ((with_reducible refine gate_builtin (b := .append) (xs := #[.tmp 26, .tmp 28]) rfl ?_); (try (refine gate_guard (by rfl) ?_; dsimp only)); at_builtin; refine Kd.R_append (Kd.int .u8) (w0 := w) w.heap.size rfl (.tmp 26) (.tmp 28) 71 5 (.int .u8 0) 1 rfl Tryz.underlying71 info5 rfl (by decide) (by omega) u3 x3_1 (bt a0 x4_1) [.int .u8 (bt a0 x4_1)] (fun _ => True) (fun _ => False) rfl rfl ?aP (fun _ hk => hk.elim) ?aF ?aO ?aB ?aS ?aL ?_; (case aP => exact rfl); (case aB => exact (hbT HB.out)); (case aF => exact (fun _ _ => trivial)); (case aO => exact (by (with_reducible repeat (first | apply Kd.R_alloc | apply Kd.R_drewN | apply Kd.R_drew)); exact HO_3.out)); (case aS => exact (below_size (hbT HB.out))); (case aL => have := LMc10.out; omega); intro v239 w11 ho hb hg hat; rw [← Ny238.out] at ho; have n0_ := Aside0.mk (blk_grown (g := gb237) (o := .cells #[.int .i64 0, .int .i64 0, .string (⟨#[]⟩ : ByteArray), .bool false] 43 (0, 0)) (bkT BK237.out) hg (Kd.R_ne HO_3.out BK237.out (by decide))); have n1_ := Aside0.mk (hb); have n2_ := Aside0.mk (ho); clear BK237; clear HB; clear HO_3; have BK237 := n0_; have HB := n1_; have HO240 := n2_; clear n0_ n1_ n2_; clear ho hb hg hat))
                    go_roundg kj6
                    case measure => have := HK1.out; have := HJ6.out; omega
                    case rel => exact ⟨(y238), (wrap64 (x4_1 + 1)), (by first | rfl | (simp; done) | (simp [*]; done) | (simp; unfold wrap64; omega) | (congr 1; (try rw [Bool.eq_iff_iff]); simp [List.isEmpty_iff]; done)), H', ⟨by have := HK1.out; have := HJ6.out; omega⟩, ⟨by (with_reducible repeat (first | apply Kd.R_alloc | apply Kd.R_drewN | apply Kd.R_drew)); exact HO240.out⟩, ⟨bkT BK237.out⟩, ⟨hbT HB.out⟩⟩
                  · rw [if_neg c10] at H
                    exact absurd H (by simp)
                · replace c9 := Bool.eq_false_iff.mpr c9
                  subst c9
                  have H1 : (if 0 ≤ (wrap64 (x4_1 + 1)) then (if (wrap64 (x4_1 + 1)) < (a0.size : Int) then (if (bt a0 (wrap64 (x4_1 + 1))) = 110 then (if x3_1.length < 140737488355328 then (refrainref1_unquoted.l0 kj6 a0 (x3_1 ++ [10]) (wrap64 ((wrap64 (x4_1 + 1)) + 1))) else (none)) else (if (bt a0 (wrap64 (x4_1 + 1))) = 116 then (if x3_1.length < 140737488355328 then (refrainref1_unquoted.l0 kj6 a0 (x3_1 ++ [9]) (wrap64 ((wrap64 (x4_1 + 1)) + 1))) else (none)) else (if (bt a0 (wrap64 (x4_1 + 1))) = 120 then (refrainref1_unquoted.j2 kj6 a0 x3_1 (wrap64 (x4_1 + 1)) (decide ((wrap64 ((wrap64 (x4_1 + 1)) + 2)) < (a0.size : Int)))) else (refrainref1_unquoted.j2 kj6 a0 x3_1 (wrap64 (x4_1 + 1)) false)))) else (none)) else (none)) = some (r1, r2, r3, r4) := by rw [if_neg (show ¬ (false = true) by decide)] at H; exact H
                  clear H
                  have H := H1
                  clear H1
                  obtain ⟨ji12, hji12⟩ : ∃ j_ : Int, (wrap64 (x4_1 + 1)) = j_ := ⟨_, rfl⟩
                  replace H : (if 0 ≤ (ji12) then (if (ji12) < (a0.size : Int) then (if (bt a0 (ji12)) = 110 then (if x3_1.length < 140737488355328 then (refrainref1_unquoted.l0 kj6 a0 (x3_1 ++ [10]) (wrap64 ((ji12) + 1))) else (none)) else (if (bt a0 (ji12)) = 116 then (if x3_1.length < 140737488355328 then (refrainref1_unquoted.l0 kj6 a0 (x3_1 ++ [9]) (wrap64 ((ji12) + 1))) else (none)) else (if (bt a0 (ji12)) = 120 then (refrainref1_unquoted.j2 kj6 a0 x3_1 ji12 (decide ((wrap64 ((ji12) + 2)) < (a0.size : Int)))) else (refrainref1_unquoted.j2 kj6 a0 x3_1 ji12 false)))) else (none)) else (none)) = some (r1, r2, r3, r4) := by first | (rw [hji12] at H; exact H) | (simp only [hji12] at H ⊢; exact H)
                  have hji12w : (IntKind.i64.wrap (x4_1 + 1)) = ji12 := (i64_w _).trans hji12
                  by_cases c13 : 0 ≤ (ji12)
                  · rw [if_pos c13] at H
                    have c13b0 : decide (0 ≤ (ji12)) = true := decide_eq_true c13
                    clear c13
                    by_cases c14 : (ji12) < (a0.size : Int)
                    · rw [if_pos c14] at H
                      have c14b0 : decide ((ji12) < (a0.size : Int)) = true := decide_eq_true c14
                      clear c14
                      by_cases c16 : (bt a0 (ji12)) = 110
                      · rw [if_pos c16] at H
                        have c16b0 : ((bt a0 (ji12)) == 110) = true := beq_iff_eq.mpr c16
                        have c16b1 : ((bt a0 (ji12)) != 110) = false := bne_eq_false_iff_eq.mpr c16
                        clear c16
                        by_cases c17 : x3_1.length < 140737488355328
                        · rw [if_pos c17] at H
                          have LMc17 := Aside0.mk c17
                          clear c17
                          obtain ⟨y241, hy241⟩ : ∃ y_ : List Int, y_ = (x3_1 ++ [10]) := ⟨_, rfl⟩
                          replace H : (refrainref1_unquoted.l0 kj6 a0 y241 (wrap64 ((ji12) + 1))) = some (r1, r2, r3, r4) := by first | (rw [hy241]; with_reducible exact H) | (have H2_ := (Option.bind_some _ _).symm.trans H; rw [hy241]; with_reducible exact H2_) | (have H2_ := (Option.bind_some _ _).symm.trans H; with_reducible exact H2_) | with_reducible exact H | (rw [hy241]; exact H) | exact H
                          have Ny241 := Aside0.mk hy241
                          clear hy241
                          have H' := Aside0.mk H
                          clear H
                          have p15 : 0 ≤ ((ji12) : Int) := of_decide_eq_true (by first | (with_reducible assumption) | assumption)
                          have q15 : (ji12) < (a0.size : Int) := of_decide_eq_true (by first | (with_reducible assumption) | assumption)
                          have hx15 := bt_at a0 (ji12)
                          replace p15 := eq_true p15
                          replace q15 := eq_true q15
                          go_wp2_with (first | ((with_reducible refine gate_builtin (b := .append) (xs := #[.tmp 43, .tmp 44]) rfl ?_); (try (refine gate_guard (by rfl) ?_; dsimp only)); at_builtin; refine Kd.R_append (Kd.int .u8) (w0 := w) w.heap.size rfl (.tmp 43) (.tmp 44) 71 5 (.int .u8 0) 1 rfl Tryz.underlying71 info5 rfl (by decide) (by omega) u3 x3_1 10 [.int .u8 10] (fun _ => True) (fun _ => False) rfl rfl ?aP (fun _ hk => hk.elim) ?aF ?aO ?aB ?aS ?aL ?_; (case aP => exact rfl); (case aB => exact (hbT HB.out)); (case aF => exact (fun _ _ => trivial)); (case aO => exact (by (with_reducible repeat (first | apply Kd.R_alloc | apply Kd.R_drewN | apply Kd.R_drew)); exact HO_3.out)); (case aS => exact (below_size (hbT HB.out))); (case aL => have := LMc17.out; omega); intro v242 w18 ho hb hg hat; rw [← Ny241.out] at ho; have n0_ := Aside0.mk (blk_grown (g := gb237) (o := .cells #[.int .i64 0, .int .i64 0, .string (⟨#[]⟩ : ByteArray), .bool false] 43 (0, 0)) (bkT BK237.out) hg (Kd.R_ne HO_3.out BK237.out (by decide))); have n1_ := Aside0.mk (hb); have n2_ := Aside0.mk (ho); clear BK237; clear HB; clear HO_3; have BK237 := n0_; have HB := n1_; have HO243 := n2_; clear n0_ n1_ n2_; clear ho hb hg hat))
                          go_roundg kj6
                          case measure => have := HK1.out; have := HJ6.out; omega
                          case rel => exact ⟨(y241), (wrap64 ((ji12) + 1)), (by first | rfl | (simp; done) | (simp only [← hji12] <;> (first | rfl | (simp; done))) | (simp [*]; done)), H', ⟨by have := HK1.out; have := HJ6.out; omega⟩, ⟨by (with_reducible repeat (first | apply Kd.R_alloc | apply Kd.R_drewN | apply Kd.R_drew)); exact HO243.out⟩, ⟨bkT BK237.out⟩, ⟨hbT HB.out⟩⟩
                        · rw [if_neg c17] at H
                          exact absurd H (by simp)
                      · rw [if_neg c16] at H
                        have c16b0 : ((bt a0 (ji12)) == 110) = false := beq_eq_false_iff_ne.mpr c16
                        have c16b1 : ((bt a0 (ji12)) != 110) = true := bne_iff_ne.mpr c16
                        by_cases c20 : (bt a0 (ji12)) = 116
                        · rw [if_pos c20] at H
                          have c20b0 : ((bt a0 (ji12)) == 116) = true := beq_iff_eq.mpr c20
                          have c20b1 : ((bt a0 (ji12)) != 116) = false := bne_eq_false_iff_eq.mpr c20
                          clear c20
                          by_cases c21 : x3_1.length < 140737488355328
                          · rw [if_pos c21] at H
                            have LMc21 := Aside0.mk c21
                            clear c21
                            obtain ⟨y244, hy244⟩ : ∃ y_ : List Int, y_ = (x3_1 ++ [9]) := ⟨_, rfl⟩
                            replace H : (refrainref1_unquoted.l0 kj6 a0 y244 (wrap64 ((ji12) + 1))) = some (r1, r2, r3, r4) := by first | (rw [hy244]; with_reducible exact H) | (have H2_ := (Option.bind_some _ _).symm.trans H; rw [hy244]; with_reducible exact H2_) | (have H2_ := (Option.bind_some _ _).symm.trans H; with_reducible exact H2_) | with_reducible exact H | (rw [hy244]; exact H) | exact H
                            have Ny244 := Aside0.mk hy244
                            clear hy244
                            have H' := Aside0.mk H
                            clear H
                            have p15 : 0 ≤ ((ji12) : Int) := of_decide_eq_true (by first | (with_reducible assumption) | assumption)
                            have q15 : (ji12) < (a0.size : Int) := of_decide_eq_true (by first | (with_reducible assumption) | assumption)
                            have hx15 := bt_at a0 (ji12)
                            replace p15 := eq_true p15
                            replace q15 := eq_true q15
                            have p19 : 0 ≤ ((ji12) : Int) := of_decide_eq_true (by first | (with_reducible assumption) | assumption)
                            have q19 : (ji12) < (a0.size : Int) := of_decide_eq_true (by first | (with_reducible assumption) | assumption)
                            have hx19 := bt_at a0 (ji12)
                            replace p19 := eq_true p19
                            replace q19 := eq_true q19
                            go_wp2_with (first | ((with_reducible refine gate_builtin (b := .append) (xs := #[.tmp 51, .tmp 52]) rfl ?_); (try (refine gate_guard (by rfl) ?_; dsimp only)); at_builtin; refine Kd.R_append (Kd.int .u8) (w0 := w) w.heap.size rfl (.tmp 51) (.tmp 52) 71 5 (.int .u8 0) 1 rfl Tryz.underlying71 info5 rfl (by decide) (by omega) u3 x3_1 9 [.int .u8 9] (fun _ => True) (fun _ => False) rfl rfl ?aP (fun _ hk => hk.elim) ?aF ?aO ?aB ?aS ?aL ?_; (case aP => exact rfl); (case aB => exact (hbT HB.out)); (case aF => exact (fun _ _ => trivial)); (case aO => exact (by (with_reducible repeat (first | apply Kd.R_alloc | apply Kd.R_drewN | apply Kd.R_drew)); exact HO_3.out)); (case aS => exact (below_size (hbT HB.out))); (case aL => have := LMc21.out; omega); intro v245 w22 ho hb hg hat; rw [← Ny244.out] at ho; have n0_ := Aside0.mk (blk_grown (g := gb237) (o := .cells #[.int .i64 0, .int .i64 0, .string (⟨#[]⟩ : ByteArray), .bool false] 43 (0, 0)) (bkT BK237.out) hg (Kd.R_ne HO_3.out BK237.out (by decide))); have n1_ := Aside0.mk (hb); have n2_ := Aside0.mk (ho); clear BK237; clear HB; clear HO_3; have BK237 := n0_; have HB := n1_; have HO246 := n2_; clear n0_ n1_ n2_; clear ho hb hg hat))
                            go_roundg kj6
                            case measure => have := HK1.out; have := HJ6.out; omega
                            case rel => exact ⟨(y244), (wrap64 ((ji12) + 1)), (by first | rfl | (simp; done) | (simp only [← hji12] <;> (first | rfl | (simp; done))) | (simp [*]; done)), H', ⟨by have := HK1.out; have := HJ6.out; omega⟩, ⟨by (with_reducible repeat (first | apply Kd.R_alloc | apply Kd.R_drewN | apply Kd.R_drew)); exact HO246.out⟩, ⟨bkT BK237.out⟩, ⟨hbT HB.out⟩⟩
                          · rw [if_neg c21] at H
                            exact absurd H (by simp)
                        · rw [if_neg c20] at H
                          have c20b0 : ((bt a0 (ji12)) == 116) = false := beq_eq_false_iff_ne.mpr c20
                          have c20b1 : ((bt a0 (ji12)) != 116) = true := bne_iff_ne.mpr c20
                          have HC23 := Aside0.mk H
                          clear H
                          have p15 : 0 ≤ ((ji12) : Int) := of_decide_eq_true (by first | (with_reducible assumption) | assumption)
                          have q15 : (ji12) < (a0.size : Int) := of_decide_eq_true (by first | (with_reducible assumption) | assumption)
                          have hx15 := bt_at a0 (ji12)
                          replace p15 := eq_true p15
                          replace q15 := eq_true q15
                          have p19 : 0 ≤ ((ji12) : Int) := of_decide_eq_true (by first | (with_reducible assumption) | assumption)
                          have q19 : (ji12) < (a0.size : Int) := of_decide_eq_true (by first | (with_reducible assumption) | assumption)
                          have hx19 := bt_at a0 (ji12)
                          replace p19 := eq_true p19
                          replace q19 := eq_true q19
                          go_upto_region 14 with (fail)
                          go_cut [54] (fun v54 wc => ∃ (kq : Nat) (x54_22 : Bool), v54 = .bool x54_22 ∧ Aside0 (refrainref1_unquoted.j2 kq a0 x3_1 ji12 x54_22 = some (r1, r2, r3, r4)) ∧ Aside0 (kq ≤ kj6) ∧ Aside0 (Kd.R (Kd.int .u8) 5 wc w.heap.size (fun _ => True) u3 x3_1) ∧ Aside0 (wc.heap[gb237]? = some (.cells #[.int .i64 0, .int .i64 0, .string (⟨#[]⟩ : ByteArray), .bool false] 43 (0, 0))) ∧ Aside0 (Below w.heap.size w wc))
                          case first =>
                            have H := HC23.out
                            clear HC23
                            by_cases c25 : (bt a0 (ji12)) = 120
                            · rw [if_pos c25] at H
                              have c25b0 : ((bt a0 (ji12)) == 120) = true := beq_iff_eq.mpr c25
                              have c25b1 : ((bt a0 (ji12)) != 120) = false := bne_eq_false_iff_eq.mpr c25
                              clear c25
                              (first | rw [c25b0] | (simp only [i64_w, i32_w, IntKind.wrap_u8, IntKind.wrap_u16, IntKind.wrap_u32]; rw [c25b0]) | skip)
                              have H' := Aside0.mk H
                              clear H
                              have p24 : 0 ≤ ((ji12) : Int) := of_decide_eq_true (by first | (with_reducible assumption) | assumption)
                              have q24 : (ji12) < (a0.size : Int) := of_decide_eq_true (by first | (with_reducible assumption) | assumption)
                              have hx24 := bt_at a0 (ji12)
                              replace p24 := eq_true p24
                              replace q24 := eq_true q24
                              go_wp2
                              go_meet
                              case rel => exact ⟨_, (decide ((wrap64 ((ji12) + 2)) < (a0.size : Int))), (by first | rfl | (simp; done) | (simp only [← hji12] <;> (first | rfl | (simp; done))) | (simp [*]; done)), H', ⟨by have := HK1.out; have := HJ6.out; first | omega | exact Nat.le_refl _⟩, ⟨by (with_reducible repeat (first | apply Kd.R_alloc | apply Kd.R_drewN | apply Kd.R_drew)); exact HO_3.out⟩, ⟨bkT BK237.out⟩, ⟨hbT HB.out⟩⟩
                            · rw [if_neg c25] at H
                              have c25b0 : ((bt a0 (ji12)) == 120) = false := beq_eq_false_iff_ne.mpr c25
                              have c25b1 : ((bt a0 (ji12)) != 120) = true := bne_iff_ne.mpr c25
                              (first | rw [c25b0] | (simp only [i64_w, i32_w, IntKind.wrap_u8, IntKind.wrap_u16, IntKind.wrap_u32]; rw [c25b0]) | skip)
                              have H' := Aside0.mk H
                              clear H
                              have p24 : 0 ≤ ((ji12) : Int) := of_decide_eq_true (by first | (with_reducible assumption) | assumption)
                              have q24 : (ji12) < (a0.size : Int) := of_decide_eq_true (by first | (with_reducible assumption) | assumption)
                              have hx24 := bt_at a0 (ji12)
                              replace p24 := eq_true p24
                              replace q24 := eq_true q24
                              go_wp2
                              go_meet
                              case rel => exact ⟨_, (false), (by first | rfl | (simp; done) | (simp [*]; done) | (simp; unfold wrap64; omega) | (congr 1; (try rw [Bool.eq_iff_iff]); simp [List.isEmpty_iff]; done)), H', ⟨by have := HK1.out; have := HJ6.out; first | omega | exact Nat.le_refl _⟩, ⟨by (with_reducible repeat (first | apply Kd.R_alloc | apply Kd.R_drewN | apply Kd.R_drew)); exact HO_3.out⟩, ⟨bkT BK237.out⟩, ⟨hbT HB.out⟩⟩
                          case rest =>
                            clear HC23
                            try clear c1
                            try clear p1
                            try clear q1
                            try clear hx1
                            try clear c2
                            try clear p2
                            try clear q2
                            try clear hx2
                            try clear c3
                            try clear c3b0
                            try clear c4
                            try clear c4b0
                            try clear c5
                            try clear c5b0
                            try clear c6
                            try clear p6
                            try clear q6
                            try clear hx6
                            try clear c8
                            try clear c8b0
                            try clear c8b1
                            try clear c9
                            try clear c10
                            try clear c13
                            try clear c13b0
                            try clear c14
                            try clear c14b0
                            try clear p15
                            try clear q15
                            try clear hx15
                            try clear c16
                            try clear c16b0
                            try clear c16b1
                            try clear c17
                            try clear p19
                            try clear q19
                            try clear hx19
                            try clear c20
                            try clear c20b0
                            try clear c20b1
                            try clear c21
                            try clear p24
                            try clear q24
                            try clear hx24
                            try clear c25
                            try clear c25b0
                            try clear c25b1
                            try clear p15
                            try clear p19
                            try clear p2
                            try clear p24
                            try clear p6
                            try clear q15
                            try clear q19
                            try clear q24
                            try clear q6
                            obtain ⟨kq, x54_22, rfl, HA, HJ22, HO_3, BK237, HB⟩ := hcut
                            cases kq with
                            | zero => (have HA2 := HA.out; clear HA; revert HA2; rw [refrainref1_unquoted.j2_zero]; intro h_; cases h_)
                            | succ kj22 =>
                              have H := HA.out
                              clear HA
                              simp only [refrainref1_unquoted.j2] at H
                              by_cases c26 : x54_22 = true
                              · subst c26
                                have H1 : (if 0 ≤ (wrap64 (ji12 + 1)) then (if (wrap64 (ji12 + 1)) < (a0.size : Int) then ((refrainref1_nibble.f kj22 (bt a0 (wrap64 (ji12 + 1)))).bind fun t247 => (if 0 ≤ (wrap64 (ji12 + 2)) then (if (wrap64 (ji12 + 2)) < (a0.size : Int) then ((refrainref1_nibble.f kj22 (bt a0 (wrap64 (ji12 + 2)))).bind fun t248 => (if x3_1.length < 140737488355328 then (refrainref1_unquoted.l0 kj22 a0 (x3_1 ++ [(wrap64 ((wrap64 (t247 * 16)) + t248)) % 256]) (wrap64 ((wrap64 (ji12 + 2)) + 1))) else (none))) else (none)) else (none))) else (none)) else (none)) = some (r1, r2, r3, r4) := by rw [if_pos rfl] at H; exact H
                                clear H
                                have H := H1
                                clear H1
                                obtain ⟨ji27, hji27⟩ : ∃ j_ : Int, (wrap64 (ji12 + 1)) = j_ := ⟨_, rfl⟩
                                replace H : (if 0 ≤ (ji27) then (if (ji27) < (a0.size : Int) then ((refrainref1_nibble.f kj22 (bt a0 (ji27))).bind fun t247 => (if 0 ≤ (wrap64 (ji12 + 2)) then (if (wrap64 (ji12 + 2)) < (a0.size : Int) then ((refrainref1_nibble.f kj22 (bt a0 (wrap64 (ji12 + 2)))).bind fun t248 => (if x3_1.length < 140737488355328 then (refrainref1_unquoted.l0 kj22 a0 (x3_1 ++ [(wrap64 ((wrap64 (t247 * 16)) + t248)) % 256]) (wrap64 ((wrap64 (ji12 + 2)) + 1))) else (none))) else (none)) else (none))) else (none)) else (none)) = some (r1, r2, r3, r4) := by first | (rw [hji27] at H; exact H) | (simp only [hji27] at H ⊢; exact H)
                                have hji27w : (IntKind.i64.wrap (ji12 + 1)) = ji27 := (i64_w _).trans hji27
                                by_cases c28 : 0 ≤ (ji27)
                                · rw [if_pos c28] at H
                                  have c28b0 : decide (0 ≤ (ji27)) = true := decide_eq_true c28
                                  clear c28
                                  by_cases c29 : (ji27) < (a0.size : Int)
                                  · rw [if_pos c29] at H
                                    have c29b0 : decide ((ji27) < (a0.size : Int)) = true := decide_eq_true c29
                                    clear c29
                                    replace H := Option.bind_eq_some_iff.mp H
                                    obtain ⟨t247, A310, H⟩ := H
                                    replace H : (if 0 ≤ (wrap64 (ji12 + 2)) then (if (wrap64 (ji12 + 2)) < (a0.size : Int) then ((refrainref1_nibble.f kj22 (bt a0 (wrap64 (ji12 + 2)))).bind fun t248 => (if x3_1.length < 140737488355328 then (refrainref1_unquoted.l0 kj22 a0 (x3_1 ++ [(wrap64 ((wrap64 (t247 * 16)) + t248)) % 256]) (wrap64 ((wrap64 (ji12 + 2)) + 1))) else (none))) else (none)) else (none)) = some (r1, r2, r3, r4) := H
                                    have A31 := Aside0.mk A310
                                    clear A310
                                    obtain ⟨ji32, hji32⟩ : ∃ j_ : Int, (wrap64 (ji12 + 2)) = j_ := ⟨_, rfl⟩
                                    replace H : (if 0 ≤ (ji32) then (if (ji32) < (a0.size : Int) then ((refrainref1_nibble.f kj22 (bt a0 (ji32))).bind fun t248 => (if x3_1.length < 140737488355328 then (refrainref1_unquoted.l0 kj22 a0 (x3_1 ++ [(wrap64 ((wrap64 (t247 * 16)) + t248)) % 256]) (wrap64 ((ji32) + 1))) else (none))) else (none)) else (none)) = some (r1, r2, r3, r4) := by first | (rw [hji32] at H; exact H) | (simp only [hji32] at H ⊢; exact H)
                                    (try rw [hji32] at A31)
                                    have hji32w : (IntKind.i64.wrap (ji12 + 2)) = ji32 := (i64_w _).trans hji32
                                    by_cases c33 : 0 ≤ (ji32)
                                    · rw [if_pos c33] at H
                                      have c33b0 : decide (0 ≤ (ji32)) = true := decide_eq_true c33
                                      clear c33
                                      by_cases c34 : (ji32) < (a0.size : Int)
                                      · rw [if_pos c34] at H
                                        have c34b0 : decide ((ji32) < (a0.size : Int)) = true := decide_eq_true c34
                                        clear c34
                                        replace H := Option.bind_eq_some_iff.mp H
                                        obtain ⟨t248, A360, H⟩ := H
                                        replace H : (if x3_1.length < 140737488355328 then (refrainref1_unquoted.l0 kj22 a0 (x3_1 ++ [(wrap64 ((wrap64 (t247 * 16)) + t248)) % 256]) (wrap64 ((ji32) + 1))) else (none)) = some (r1, r2, r3, r4) := H
                                        have A36 := Aside0.mk A360
                                        clear A360
                                        by_cases c37 : x3_1.length < 140737488355328
                                        · rw [if_pos c37] at H
                                          have LMc37 := Aside0.mk c37
                                          clear c37
                                          obtain ⟨y249, hy249⟩ : ∃ y_ : List Int, y_ = (x3_1 ++ [(wrap64 ((wrap64 (t247 * 16)) + t248)) % 256]) := ⟨_, rfl⟩
                                          replace H : (refrainref1_unquoted.l0 kj22 a0 y249 (wrap64 ((ji32) + 1))) = some (r1, r2, r3, r4) := by first | (rw [hy249]; with_reducible exact H) | (have H2_ := (Option.bind_some _ _).symm.trans H; rw [hy249]; with_reducible exact H2_) | (have H2_ := (Option.bind_some _ _).symm.trans H; with_reducible exact H2_) | with_reducible exact H | (rw [hy249]; exact H) | exact H
                                          have Ny249 := Aside0.mk hy249
                                          clear hy249
                                          have H' := Aside0.mk H
                                          clear H
                                          try go_wp2
                                          replace HO_3 := Aside0.mk (Kd.R_drew HO_3.out); replace BK237 := bdA BK237; replace HB := Aside0.mk (below_drew1 HB.out)
                                          have p30 : 0 ≤ ((ji27) : Int) := of_decide_eq_true (by first | (with_reducible assumption) | assumption)
                                          have q30 : (ji27) < (a0.size : Int) := of_decide_eq_true (by first | (with_reducible assumption) | assumption)
                                          have hx30 := bt_at a0 (ji27)
                                          replace p30 := eq_true p30
                                          replace q30 := eq_true q30
                                          have p35 : 0 ≤ ((ji32) : Int) := of_decide_eq_true (by first | (with_reducible assumption) | assumption)
                                          have q35 : (ji32) < (a0.size : Int) := of_decide_eq_true (by first | (with_reducible assumption) | assumption)
                                          have hx35 := bt_at a0 (ji32)
                                          replace p35 := eq_true p35
                                          replace q35 := eq_true q35
                                          refine start_ (n := 17) (S := fun w' => True) (ds := []) #[false, false, false, false, false, false, false, false, false, false, false, false, false, false, false, false, false] (by kernel_rfl) rfl rfl trivial (fun hHeld => ?_); refine with_tabW refrainref1_unquoted.tab15 refrainref1_unquoted.bits15 (fun HT_ HW_ => ?_)
                                          generalize wc.drew = w38 at HO_3 BK237 HB hHeld ⊢
                                          refine pure_ (i := 0) (N := some 66) (v := ?_) (a' := ?_) #[true, false, false, false, false, false, false, false, false, false, false, false, false, false, false, false, false] rfl rfl (any_of HT_.out (by kernel_rfl)) (fun _ _ _ h => h) (Or.inl ⟨by rfl, ?_⟩) ?_ ?_
                                          rotate_left; (focus (intro w'; go_simp; with_reducible rfl)); rotate_left; (focus (simp only [Act.put, List.setIfInBounds_toArray, List.set_cons_zero, List.set_cons_succ, i64_w, i32_w, IntKind.wrap_u8, IntKind.wrap_u16, IntKind.wrap_u32]; rfl))
                                          refine pure_ (i := 1) (N := some 67) (v := ?_) (a' := ?_) #[true, true, false, false, false, false, false, false, false, false, false, false, false, false, false, false, false] rfl rfl (any_of HT_.out (by kernel_rfl)) (fun _ _ _ h => h) (Or.inl ⟨by rfl, ?_⟩) ?_ ?_
                                          rotate_left; (focus (intro w'; go_simp; with_reducible rfl)); rotate_left; (focus (simp only [Act.put, List.setIfInBounds_toArray, List.set_cons_zero, List.set_cons_succ, i64_w, i32_w, IntKind.wrap_u8, IntKind.wrap_u16, IntKind.wrap_u32]; rfl))
                                          refine pure_ (i := 2) (N := some 68) (v := ?_) (a' := ?_) #[true, true, true, false, false, false, false, false, false, false, false, false, false, false, false, false, false] rfl rfl (any_of HT_.out (by kernel_rfl)) (fun _ _ _ h => h) (Or.inl ⟨by rfl, ?_⟩) ?_ ?_
                                          rotate_left; (focus (intro w'; go_simp; with_reducible rfl)); rotate_left; (focus (simp only [Act.put, List.setIfInBounds_toArray, List.set_cons_zero, List.set_cons_succ, i64_w, i32_w, IntKind.wrap_u8, IntKind.wrap_u16, IntKind.wrap_u32]; rfl))
                                          refine pure_ (i := 3) (N := some 69) (v := ?_) (a' := ?_) #[true, true, true, true, false, false, false, false, false, false, false, false, false, false, false, false, false] rfl rfl (any_of HT_.out (by kernel_rfl)) (fun _ _ _ h => h) (Or.inl ⟨by rfl, ?_⟩) ?_ ?_
                                          rotate_left; (focus (intro w'; go_simp; with_reducible rfl)); rotate_left; (focus (simp only [Act.put, List.setIfInBounds_toArray, List.set_cons_zero, List.set_cons_succ, i64_w, i32_w, IntKind.wrap_u8, IntKind.wrap_u16, IntKind.wrap_u32]; rfl))
                                          refine pure_ (i := 7) (N := some 73) (v := ?_) (a' := ?_) #[true, true, true, true, false, false, false, true, false, false, false, false, false, false, false, false, false] rfl rfl (any_of HT_.out (by kernel_rfl)) (fun _ _ _ h => h) (Or.inl ⟨by rfl, ?_⟩) ?_ ?_
                                          rotate_left; (focus (intro w'; go_simp; with_reducible rfl)); rotate_left; (focus (simp only [Act.put, List.setIfInBounds_toArray, List.set_cons_zero, List.set_cons_succ, i64_w, i32_w, IntKind.wrap_u8, IntKind.wrap_u16, IntKind.wrap_u32]; rfl))
                                          refine pure_ (i := 8) (N := some 74) (v := ?_) (a' := ?_) #[true, true, true, true, false, false, false, true, true, false, false, false, false, false, false, false, false] rfl rfl (any_of HT_.out (by kernel_rfl)) (fun _ _ _ h => h) (Or.inl ⟨by rfl, ?_⟩) ?_ ?_
                                          rotate_left; (focus (intro w'; go_simp; with_reducible rfl)); rotate_left; (focus (simp only [Act.put, List.setIfInBounds_toArray, List.set_cons_zero, List.set_cons_succ, i64_w, i32_w, IntKind.wrap_u8, IntKind.wrap_u16, IntKind.wrap_u32]; rfl))
                                          refine pure_ (i := 9) (N := some 75) (v := ?_) (a' := ?_) #[true, true, true, true, false, false, false, true, true, true, false, false, false, false, false, false, false] rfl rfl (any_of HT_.out (by kernel_rfl)) (fun _ _ _ h => h) (Or.inl ⟨by rfl, ?_⟩) ?_ ?_
                                          rotate_left; (focus (intro w'; go_simp; with_reducible rfl)); rotate_left; (focus (simp only [Act.put, List.setIfInBounds_toArray, List.set_cons_zero, List.set_cons_succ, i64_w, i32_w, IntKind.wrap_u8, IntKind.wrap_u16, IntKind.wrap_u32]; rfl))
                                          refine take_ (i := 4) (N := some 70) (v := ?_) (a' := ?_) #[true, true, true, true, true, false, false, true, true, true, false, false, false, false, false, false, false] rfl rfl (take_ofW HT_.out HW_.out (by kernel_rfl)) (fun _ _ _ h => h) (Or.inl ⟨by rfl, ?_⟩) hHeld ?_ ?_
                                          rotate_left
                                          · intro w' _
                                            go_simp
                                            with_reducible rfl
                                          rotate_left
                                          · simp only [Act.put, List.setIfInBounds_toArray, List.set_cons_zero, List.set_cons_succ, i64_w, i32_w, IntKind.wrap_u8, IntKind.wrap_u16, IntKind.wrap_u32]
                                            rfl
                                          refine take_ (i := 10) (N := some 76) (v := ?_) (a' := ?_) #[true, true, true, true, true, false, false, true, true, true, true, false, false, false, false, false, false] rfl rfl (take_ofW HT_.out HW_.out (by kernel_rfl)) (fun _ _ _ h => h) (Or.inl ⟨by rfl, ?_⟩) hHeld ?_ ?_
                                          rotate_left
                                          · intro w' _
                                            go_simp
                                            with_reducible rfl
                                          rotate_left
                                          · simp only [Act.put, List.setIfInBounds_toArray, List.set_cons_zero, List.set_cons_succ, i64_w, i32_w, IntKind.wrap_u8, IntKind.wrap_u16, IntKind.wrap_u32]
                                            rfl
                                          refine one_ (i := 5) (N := some 71) #[true, true, true, true, true, true, false, true, true, true, true, false, false, false, false, false, false] rfl rfl (one_of HT_.out (by kernel_rfl)) (by decide) (fun K hK => ?_)
                                          refine goes_ Tryz.func81 (by kernel_rfl) rfl #[.int .u8 (bt a0 (ji27))] (by rfl) rfl rfl (by (try simp only [List.map_toArray, List.map_cons, List.map_nil]); first | done | (simp only [hji27]; rfl) | rfl | (simp only [List.length_drop, List.length_take]; rfl)) ?_
                                          with_reducible refine (refrainref1_nibble.calls kj22 (bt a0 (ji27)) t247 _ A31.out).mono ?_
                                          rintro e w' ⟨rfl, ⟨nd, rfl⟩⟩
                                          refine ⟨_, rfl, ?_⟩
                                          refine hK.out _ _ trivial (fun hHeld => ?_)
                                          clear hK K
                                          refine norm_ (a' := ?_) ?_ ?_
                                          rotate_left
                                          · show Act.put _ (some 71) _ = _
                                            simp only [Act.put, List.setIfInBounds_toArray, List.set_cons_zero, List.set_cons_succ, i64_w, i32_w, IntKind.wrap_u8, IntKind.wrap_u16, IntKind.wrap_u32]
                                            rfl
                                          refine pure_ (i := 6) (N := some 72) (v := ?_) (a' := ?_) #[true, true, true, true, true, true, true, true, true, true, true, false, false, false, false, false, false] rfl rfl (any_of HT_.out (by kernel_rfl)) (fun _ _ _ h => h) (Or.inl ⟨by rfl, ?_⟩) ?_ ?_
                                          rotate_left; (focus (intro w'; go_simp; with_reducible rfl)); rotate_left; (focus (simp only [Act.put, List.setIfInBounds_toArray, List.set_cons_zero, List.set_cons_succ, i64_w, i32_w, IntKind.wrap_u8, IntKind.wrap_u16, IntKind.wrap_u32]; rfl))
                                          refine one_ (i := 11) (N := some 77) #[true, true, true, true, true, true, true, true, true, true, true, true, false, false, false, false, false] rfl rfl (one_of HT_.out (by kernel_rfl)) (by decide) (fun K hK => ?_)
                                          refine goes_ Tryz.func81 (by kernel_rfl) rfl #[.int .u8 (bt a0 (ji32))] (by rfl) rfl rfl (by (try simp only [List.map_toArray, List.map_cons, List.map_nil]); first | done | (simp only [hji32]; rfl) | rfl | (simp only [List.length_drop, List.length_take]; rfl)) ?_
                                          with_reducible refine (refrainref1_nibble.calls kj22 (bt a0 (ji32)) t248 _ A36.out).mono ?_
                                          rintro e w' ⟨rfl, ⟨nd, rfl⟩⟩
                                          refine ⟨_, rfl, ?_⟩
                                          refine hK.out _ _ trivial (fun hHeld => ?_)
                                          clear hK K
                                          refine norm_ (a' := ?_) ?_ ?_
                                          rotate_left
                                          · show Act.put _ (some 77) _ = _
                                            simp only [Act.put, List.setIfInBounds_toArray, List.set_cons_zero, List.set_cons_succ, i64_w, i32_w, IntKind.wrap_u8, IntKind.wrap_u16, IntKind.wrap_u32]
                                            rfl
                                          refine pure_ (i := 12) (N := some 78) (v := ?_) (a' := ?_) #[true, true, true, true, true, true, true, true, true, true, true, true, true, false, false, false, false] rfl rfl (any_of HT_.out (by kernel_rfl)) (fun _ _ _ h => h) (Or.inl ⟨by rfl, ?_⟩) ?_ ?_
                                          rotate_left; (focus (intro w'; go_simp; with_reducible rfl)); rotate_left; (focus (simp only [Act.put, List.setIfInBounds_toArray, List.set_cons_zero, List.set_cons_succ, i64_w, i32_w, IntKind.wrap_u8, IntKind.wrap_u16, IntKind.wrap_u32]; rfl))
                                          refine pure_ (i := 13) (N := some 79) (v := ?_) (a' := ?_) #[true, true, true, true, true, true, true, true, true, true, true, true, true, true, false, false, false] rfl rfl (any_of HT_.out (by kernel_rfl)) (fun _ _ _ h => h) (Or.inl ⟨by rfl, ?_⟩) ?_ ?_
                                          rotate_left; (focus (intro w'; go_simp; with_reducible rfl)); rotate_left; (focus (simp only [Act.put, List.setIfInBounds_toArray, List.set_cons_zero, List.set_cons_succ, i64_w, i32_w, IntKind.wrap_u8, IntKind.wrap_u16, IntKind.wrap_u32]; rfl))
                                          refine one_ (i := 14) (N := some 80) #[true, true, true, true, true, true, true, true, true, true, true, true, true, true, true, false, false] rfl rfl (one_of HT_.out (by kernel_rfl)) (by decide) (fun K hK => ?_)
                                          refine value_ (w1 := ?_) (v := ?_) (by rfl) rfl ?_ ?_
                                          rotate_left 2
                                          · go_simp
                                            constructor
                                            · rfl
                                            · rfl
                                          refine hK.out _ _ trivial (fun hHeld => ?_)
                                          clear hK K
                                          refine norm_ (a' := ?_) ?_ ?_
                                          rotate_left
                                          · show Act.put _ (some 80) _ = _
                                            simp only [Act.put, List.setIfInBounds_toArray, List.set_cons_zero, List.set_cons_succ, i64_w, i32_w, IntKind.wrap_u8, IntKind.wrap_u16, IntKind.wrap_u32]
                                            rfl
                                          refine one_ (i := 15) (N := some 81) #[true, true, true, true, true, true, true, true, true, true, true, true, true, true, true, true, false] rfl rfl (one_of HT_.out (by kernel_rfl)) (by decide) (fun K hK => ?_)
                                          refine Kd.R_append_step (Kd.int .u8) (w0 := w) w.heap.size (by rfl) (.tmp 66) (.tmp 80) 71 5 (.int .u8 0) 1 rfl Tryz.underlying71 info5 rfl (by decide) (by omega) u3 x3_1 ((wrap64 ((wrap64 (t247 * 16)) + t248)) % 256) [.int .u8 ((wrap64 ((wrap64 (t247 * 16)) + t248)) % 256)] (fun _ => True) (fun _ => False) rfl rfl ?aP (fun _ hk => hk.elim) ?aF ?aO ?aB ?aS ?aL ?_
                                          (case aP => exact rfl)
                                          (case aB => exact (hbT HB.out))
                                          (case aF => exact (fun _ _ => trivial))
                                          (case aO => exact (by (with_reducible repeat (first | apply Kd.R_alloc | apply Kd.R_drewN | apply Kd.R_drew)); exact HO_3.out))
                                          (case aS => exact (below_size (hbT HB.out)))
                                          (case aL => have := LMc37.out; omega)
                                          intro v250 w39 ho hb hg hat
                                          rw [← Ny249.out] at ho
                                          have n0_ := Aside0.mk (blk_grown (g := gb237) (o := .cells #[.int .i64 0, .int .i64 0, .string (⟨#[]⟩ : ByteArray), .bool false] 43 (0, 0)) (bkT BK237.out) hg (Kd.R_ne HO_3.out BK237.out (by decide))); have n1_ := Aside0.mk (hb); have n2_ := Aside0.mk (ho); clear BK237; clear HB; clear HO_3; have BK237 := n0_; have HB := n1_; have HO251 := n2_; clear n0_ n1_ n2_
                                          clear ho hb hg hat
                                          refine hK.out _ _ trivial (fun hHeld => ?_)
                                          clear hK K
                                          refine norm_ (a' := ?_) ?_ ?_
                                          rotate_left
                                          · show Act.put _ (some 81) _ = _
                                            simp only [Act.put, List.setIfInBounds_toArray, List.set_cons_zero, List.set_cons_succ, i64_w, i32_w, IntKind.wrap_u8, IntKind.wrap_u16, IntKind.wrap_u32]
                                            rfl
                                          refine pure_ (i := 16) (N := some 3) (v := ?_) (a' := ?_) #[true, true, true, true, true, true, true, true, true, true, true, true, true, true, true, true, true] rfl rfl (any_of HT_.out (by kernel_rfl)) (fun _ _ _ h => h) (Or.inl ⟨by rfl, ?_⟩) ?_ ?_
                                          rotate_left; (focus (intro w'; go_simp; with_reducible rfl)); rotate_left; (focus (simp only [Act.put, List.setIfInBounds_toArray, List.set_cons_zero, List.set_cons_succ, i64_w, i32_w, IntKind.wrap_u8, IntKind.wrap_u16, IntKind.wrap_u32]; rfl))
                                          refine done_ (done_of HT_.out (by kernel_rfl)) ?_
                                          try go_wp2
                                          go_roundg kj22
                                          case measure => have := HK1.out; have := HJ6.out; have := HJ22.out; omega
                                          case rel => exact ⟨(y249), (wrap64 ((ji32) + 1)), (by first | rfl | (simp; done) | (simp only [← hji32] <;> (first | rfl | (simp; done))) | (simp [*]; done)), H', ⟨by have := HK1.out; have := HJ6.out; have := HJ22.out; omega⟩, ⟨by (with_reducible repeat (first | apply Kd.R_alloc | apply Kd.R_drewN | apply Kd.R_drew)); exact HO251.out⟩, ⟨bkT BK237.out⟩, ⟨hbT HB.out⟩⟩
                                        · rw [if_neg c37] at H
                                          exact absurd H (by simp)
                                      · rw [if_neg c34] at H
                                        exact absurd H (by simp)
                                    · rw [if_neg c33] at H
                                      exact absurd H (by simp)
                                  · rw [if_neg c29] at H
                                    exact absurd H (by simp)
                                · rw [if_neg c28] at H
                                  exact absurd H (by simp)
                              · replace c26 := Bool.eq_false_iff.mpr c26
                                subst c26
                                have H1 : (if 0 ≤ ji12 then (if ji12 < (a0.size : Int) then (if x3_1.length < 140737488355328 then (refrainref1_unquoted.l0 kj22 a0 (x3_1 ++ [bt a0 ji12]) (wrap64 (ji12 + 1))) else (none)) else (none)) else (none)) = some (r1, r2, r3, r4) := by rw [if_neg (show ¬ (false = true) by decide)] at H; exact H
                                clear H
                                have H := H1
                                clear H1
                                by_cases c40 : 0 ≤ ji12
                                · rw [if_pos c40] at H
                                  have c40b0 : decide (0 ≤ ji12) = true := decide_eq_true c40
                                  clear c40
                                  by_cases c41 : ji12 < (a0.size : Int)
                                  · rw [if_pos c41] at H
                                    have c41b0 : decide (ji12 < (a0.size : Int)) = true := decide_eq_true c41
                                    clear c41
                                    by_cases c43 : x3_1.length < 140737488355328
                                    · rw [if_pos c43] at H
                                      have LMc43 := Aside0.mk c43
                                      clear c43
                                      obtain ⟨y252, hy252⟩ : ∃ y_ : List Int, y_ = (x3_1 ++ [bt a0 ji12]) := ⟨_, rfl⟩
                                      replace H : (refrainref1_unquoted.l0 kj22 a0 y252 (wrap64 (ji12 + 1))) = some (r1, r2, r3, r4) := by first | (rw [hy252]; with_reducible exact H) | (have H2_ := (Option.bind_some _ _).symm.trans H; rw [hy252]; with_reducible exact H2_) | (have H2_ := (Option.bind_some _ _).symm.trans H; with_reducible exact H2_) | with_reducible exact H | (rw [hy252]; exact H) | exact H
                                      have Ny252 := Aside0.mk hy252
                                      clear hy252
                                      have H' := Aside0.mk H
                                      clear H
                                      have p42 : 0 ≤ (ji12 : Int) := of_decide_eq_true (by first | (with_reducible assumption) | assumption)
                                      have q42 : ji12 < (a0.size : Int) := of_decide_eq_true (by first | (with_reducible assumption) | assumption)
                                      have hx42 := bt_at a0 ji12
                                      replace p42 := eq_true p42
                                      replace q42 := eq_true q42
                                      go_wp2_with (first | ((with_reducible refine gate_builtin (b := .append) (xs := #[.tmp 32, .tmp 36]) rfl ?_); (try (refine gate_guard (by rfl) ?_; dsimp only)); at_builtin; refine Kd.R_append (Kd.int .u8) (w0 := w) w.heap.size rfl (.tmp 32) (.tmp 36) 71 5 (.int .u8 0) 1 rfl Tryz.underlying71 info5 rfl (by decide) (by omega) u3 x3_1 (bt a0 ji12) [.int .u8 (bt a0 ji12)] (fun _ => True) (fun _ => False) rfl rfl ?aP (fun _ hk => hk.elim) ?aF ?aO ?aB ?aS ?aL ?_; (case aP => exact rfl); (case aB => exact (hbT HB.out)); (case aF => exact (fun _ _ => trivial)); (case aO => exact (by (with_reducible repeat (first | apply Kd.R_alloc | apply Kd.R_drewN | apply Kd.R_drew)); exact HO_3.out)); (case aS => exact (below_size (hbT HB.out))); (case aL => have := LMc43.out; omega); intro v253 w44 ho hb hg hat; rw [← Ny252.out] at ho; have n0_ := Aside0.mk (blk_grown (g := gb237) (o := .cells #[.int .i64 0, .int .i64 0, .string (⟨#[]⟩ : ByteArray), .bool false] 43 (0, 0)) (bkT BK237.out) hg (Kd.R_ne HO_3.out BK237.out (by decide))); have n1_ := Aside0.mk (hb); have n2_ := Aside0.mk (ho); clear BK237; clear HB; clear HO_3; have BK237 := n0_; have HB := n1_; have HO254 := n2_; clear n0_ n1_ n2_; clear ho hb hg hat))
                                      go_roundg kj22
                                      case measure => have := HK1.out; have := HJ6.out; have := HJ22.out; omega
                                      case rel => exact ⟨(y252), (wrap64 (ji12 + 1)), (by first | rfl | (simp; done) | (simp only [← hji12] <;> (first | rfl | (simp; done))) | (simp [*]; done)), H', ⟨by have := HK1.out; have := HJ6.out; have := HJ22.out; omega⟩, ⟨by (with_reducible repeat (first | apply Kd.R_alloc | apply Kd.R_drewN | apply Kd.R_drew)); exact HO254.out⟩, ⟨bkT BK237.out⟩, ⟨hbT HB.out⟩⟩
                                    · rw [if_neg c43] at H
                                      exact absurd H (by simp)
                                  · rw [if_neg c41] at H
                                    exact absurd H (by simp)
                                · rw [if_neg c40] at H
                                  exact absurd H (by simp)
                    · rw [if_neg c14] at H
                      exact absurd H (by simp)
                  · rw [if_neg c13] at H
                    exact absurd H (by simp)
          · rw [if_neg c5] at H
            exact absurd H (by simp)
        · rw [if_neg c4] at H
          exact absurd H (by simp)
      · rw [if_neg c3] at H
        have c3b0 : decide (x4_1 < (wrap64 ((a0.size : Int) - 1))) = false := decide_eq_false c3
        clear c3
        simp only [Option.some.injEq, Prod.mk.injEq] at H
        obtain ⟨rfl, rfl, rfl, rfl⟩ := H
        have hcv45 := own_string (P := Tryz.prog) Tryz.underlying71 Tryz.underlying5 Tryz.underlying9 (Kd.own_of_R HO_3.out)
        have hcz46_0 : wr.cell? ⟨gb237, 0, none⟩ = some (.int .i64 0) := (blk_cell BK237.out 0).trans rfl; have hcz46_1 : wr.cell? ⟨gb237, 1, none⟩ = some (.int .i64 0) := (blk_cell BK237.out 1).trans rfl; have hcz46_2 : wr.cell? ⟨gb237, 2, none⟩ = some (.string (⟨#[]⟩ : ByteArray)) := (blk_cell BK237.out 2).trans rfl; have hcz46_3 : wr.cell? ⟨gb237, 3, none⟩ = some (.bool false) := (blk_cell BK237.out 3).trans rfl; have hfz46_0 := blk_frozen BK237.out 0; have hfz46_1 := blk_frozen BK237.out 1; have hfz46_2 := blk_frozen BK237.out 2; have hfz46_3 := blk_frozen BK237.out 3
        go_wp2
        refine bodyPost_ret (results_cell_row rfl _ _ gb237 43 #[.int .i64 2, .int .i64 0, .string (strOfNums x3_1), .bool false] (0, 0) _ rfl (by (with_reducible repeat (first | refine blk_drewN ?_ _ | refine blk_drew ?_ | refine blk_alloc ?_ _)); refine blk_put (cs := #[.int .i64 2, .int .i64 0, .string (strOfNums x3_1), .bool false]) ?_ 3 _ rfl; (with_reducible repeat (first | refine blk_drewN ?_ _ | refine blk_drew ?_ | refine blk_alloc ?_ _)); refine blk_put (cs := #[.int .i64 2, .int .i64 0, .string (⟨#[]⟩ : ByteArray), .bool false]) ?_ 2 _ rfl; (with_reducible repeat (first | refine blk_drewN ?_ _ | refine blk_drew ?_ | refine blk_alloc ?_ _)); refine blk_put (cs := #[.int .i64 2, .int .i64 0, .string (⟨#[]⟩ : ByteArray), .bool false]) ?_ 1 _ rfl; (with_reducible repeat (first | refine blk_drewN ?_ _ | refine blk_drew ?_ | refine blk_alloc ?_ _)); refine blk_put (cs := #[.int .i64 0, .int .i64 0, .string (⟨#[]⟩ : ByteArray), .bool false]) ?_ 0 _ rfl; (with_reducible repeat (first | refine blk_drewN ?_ _ | refine blk_drew ?_ | refine blk_alloc ?_ _)); exact BK237.out) Tryz.underlying43 rfl (by kernel_rfl)) rfl ?_
        exact ⟨by first | rfl | (simp [errW_none, errW_some] <;> rfl) | (simp [*, errW_none, errW_some] <;> rfl), hbT HB.out⟩

end Go.Proofs.YtpkbhfdfgapmlaaGreatDoor.Pr
end

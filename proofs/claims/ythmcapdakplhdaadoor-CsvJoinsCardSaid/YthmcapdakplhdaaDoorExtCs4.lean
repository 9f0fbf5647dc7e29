import Derived.Test.YthmcapdakplhdaaDoorExtVw
import Derived.Test.YthmcapdakplhdaaDoorExtCs2
namespace Go.Proofs.YthmcapdakplhdaaDoor.Pr
open Go.RowKit Go.Proofs.YthmcapdakplhdaaDoorW.PrintWords Go.Proofs.YthmcapdakplhdaaDoorW.PrintLast Go.Proofs.YthmcapdakplhdaaDoorW.PrintMore
set_option maxRecDepth 100000
set_option linter.unusedVariables false
set_option linter.unusedSimpArgs false

/-- The marks. -/
def wordB (k : Nat) : ByteArray := strOfNums (([114, (wrap64 (65 + (k : Int))) % 256] : List Int))
def wds (n : Nat) : List ByteArray := (List.range n).map wordB
theorem wds_succ (n : Nat) : wds (n + 1) = wds n ++ [wordB n] := by unfold wds; rw [List.range_succ, List.map_append]; rfl
theorem wds_len (n : Nat) : (wds n).length = n := by unfold wds; rw [List.length_map, List.length_range]
def ones (n : Nat) : List (List ByteArray) := (wds n).map fun s => [s]
theorem ones_succ (n : Nat) : ones (n + 1) = ones n ++ [[wordB n]] := by unfold ones; rw [wds_succ, List.map_append]; rfl
theorem ones_len (n : Nat) : (ones n).length = n := by unfold ones; rw [List.length_map, wds_len]
def wide (rows : List (List ByteArray)) : List (List ByteArray) := rows.map fun r => r ++ wds 20
theorem wide_snoc (rows : List (List ByteArray)) {i : Nat} (h : i < rows.length) : wide (rows.take (i + 1)) = wide (rows.take i) ++ [rd_L1 rows (i : Int) ++ wds 20] := by
  have e : rd_L1 rows (i : Int) = rows[i] := by
    show rows.getD _ _ = _
    rw [Int.toNat_natCast, List.getD_eq_getElem?_getD, List.getElem?_eq_getElem h]; rfl
  rw [List.take_succ_eq_append_getElem h, e]
  unfold wide
  rw [List.map_append]; rfl
theorem take_snoc (rows : List (List ByteArray)) {i : Nat} (h : i < rows.length) : rows.take (i + 1) = rows.take i ++ [rd_L1 rows (i : Int)] := by
  have e : rd_L1 rows (i : Int) = rows[i] := by
    show rows.getD _ _ = _
    rw [Int.toNat_natCast, List.getD_eq_getElem?_getD, List.getElem?_eq_getElem h]; rfl
  rw [List.take_succ_eq_append_getElem h, e]
theorem wide_len (rows : List (List ByteArray)) : (wide rows).length = rows.length := by unfold wide; rw [List.length_map]
set_option maxHeartbeats 16000000 in
theorem law4_roomy (A0 : Option Addr) (c0 : Nat) (rows : List (List ByteArray)) (w : World) (hr0 : Kd.C (Kd.slice 9 Kd.string) w A0 rows.length rows) (hc0 : rows.length ≤ c0) (hn : rows.length ≤ 5864062014634) (hl : ∀ r ∈ rows, r.length ≤ 8796093021952) :
    Calls Tryd.prog 17 #[.slice A0 rows.length c0] w fun e w' => ∃ v0 v1, e = .returned (.tuple #[v0, v1]) ∧ Kd.R vw 22 w' w.heap.size (fun _ => True) v0 (rows ++ ones 20) ∧ Kd.R vw 22 w' w.heap.size (fun _ => True) v1 (wide rows) ∧ Below w.heap.size w w' := by
  have HR0 := Aside0.mk hr0
  have HN := Aside0.mk hn
  have HNR := Aside0.mk hl
  clear hr0 hl
  go_enter Tryd.func17, Tryd.ntmps17
  go_wp2
  go_loopg [4, 5, 6] rows.length (fun g v4 v5 v6 wx => ∃ i : Nat, v6 = .int .i64 i ∧ i + g = rows.length ∧ Aside0 (Kd.R vw 22 wx w.heap.size (fun _ => True) v4 (rows.take i)) ∧ Aside0 (Kd.R vw 22 wx w.heap.size (fun _ => True) v5 (wide (rows.take i))) ∧ Aside0 (∀ k, v4.ownBlock = some k → v5.ownBlock ≠ some k) ∧ Aside0 (Below w.heap.size w wx))
  case atStart => exact ⟨0, rfl, by omega, ⟨Kd.R_nil _ _ _ _ _⟩, ⟨Kd.R_nil _ _ _ _ _⟩, ⟨fun k hk => by simp [Value.ownBlock] at hk⟩, ⟨Below.refl _ _⟩⟩
  case round =>
    obtain ⟨i, rfl, hig, HL, HW, HNE, HB⟩ := hrel
    by_cases hlt : i < rows.length
    · have hd : decide ((i : Int) < (rows.length : Int)) = true := decide_eq_true (by omega)
      have p1 : 0 ≤ (i : Int) := by omega
      have q1 : (i : Int) < (rows.length : Int) := by omega
      obtain ⟨ad1, A1, cap1, e1, hx1, hl1, hC1⟩ := at_L1 HR0.out (i : Int) p1 q1
      cases e1
      rw [Int.toNat_natCast] at hx1
      have HX0 := Aside0.mk hx1
      replace hx1 := pw_cell_below HB.out hx1
      have HTK := Aside0.mk (take_snoc rows hlt)
      have HWD := Aside0.mk (wide_snoc rows hlt)
      have hX := HNR.out _ (mem_rd hlt)
      have HC1 := Aside0.mk (Kd.C_below hC1 HB.out)
      generalize rd_L1 rows (i : Int) = X at *
      replace p1 := eq_true p1
      replace q1 := eq_true q1
      clear hC1
      obtain ⟨w1, rfl⟩ : ∃ w1 : World, w1 = wr := ⟨_, rfl⟩
      go_wp2_with (((with_reducible refine gate_builtin (b := .append) (xs := #[.const (.slice none 0 0), .tmp 19]) rfl ?_); at_builtin; refine Kd.R_append_rows Kd.string (Rr := Kd.string.K w1) (w0 := w1) w1.heap.size rfl (.const (.slice none 0 0)) (.tmp 19) 22 9 (.string ⟨#[]⟩) 16 rfl Tryd.underlying22 info9 rfl (by decide) (by omega) (.slice none 0 0) [] X A1 X.length cap1 (fun _ => True) (fun _ => False) rfl rfl ?aO ?aR ?aK (fun _ hk => hk.elim) ?aF ?aB ?aS ?aL ?_; (case aO => exact Kd.R_nil _ _ _ _ _); (case aR => exact HC1.out); (case aK => exact fun _ _ h => h); (case aF => exact fun _ _ => trivial); (case aB => exact Below.refl _ _); (case aS => exact Nat.le_refl _); (case aL => simp only [List.length_nil]; omega); intro v2 w2 ho hb hg hat; rw [List.nil_append] at ho; have HO2 := Aside0.mk ho; have HB2 := Aside0.mk hb; clear ho hb hg hat))
      go_loopg [7, 8] 20 (fun g v7 v8 wx => ∃ k : Nat, v8 = .int .i64 k ∧ k + g = 20 ∧ Aside0 (Kd.R Kd.string 9 wx w1.heap.size (fun _ => True) v7 (X ++ wds k)) ∧ Aside0 (Below w1.heap.size w1 wx))
      case atStart => exact ⟨0, rfl, by omega, ⟨by have := HO2.out; rwa [show wds 0 = [] from rfl, List.append_nil]⟩, HB2⟩
      case round =>
        clear HO2 HB2 hx1
        obtain ⟨k, rfl, hkg, HO, HB3⟩ := hrel
        by_cases hk : k < 20
        · obtain ⟨w3, rfl⟩ : ∃ w3 : World, w3 = wr := ⟨_, rfl⟩
          have hd2 : decide ((k : Int) < 20) = true := decide_eq_true (by omega)
          have hlk : (X ++ wds k).length ≤ 8796093021971 := by rw [List.length_append, wds_len]; omega
          have hws : X ++ wds (k + 1) = X ++ wds k ++ [wordB k] := by rw [wds_succ, List.append_assoc]
          have HWS := Aside0.mk hws
          clear hws
          obtain ⟨Y, hY⟩ : ∃ Y, X ++ wds k = Y := ⟨_, rfl⟩
          rw [hY] at hlk HO HWS
          clear hY
          obtain ⟨A7, c7, e7⟩ := Kd.R_slice HO.out
          subst e7
          go_wp2_with (first | (go_at_call 38; refine (refrainlaw4_word.calls (k : Int) (wordB k) _ rfl).mono ?_; rintro e w4 ⟨rfl, hb4⟩; have HO4 := Aside0.mk (Kd.R_below HO.out hb4); have HB4 := Aside0.mk (HB3.out.trans (hb4.mono HB3.out.size)); clear hb4) | ((with_reducible refine gate_builtin (b := .append) (xs := #[.tmp 25, .tmp 28]) rfl ?_); at_builtin; refine Kd.R_append Kd.string (w0 := w1) w1.heap.size rfl (.tmp 25) (.tmp 28) 22 9 (.string ⟨#[]⟩) 16 rfl Tryd.underlying22 info9 rfl (by decide) (by omega) (.slice A7 Y.length c7) Y (wordB k) [.string (wordB k)] (fun _ => True) (fun _ => False) rfl rfl ?aP (fun _ hk => hk.elim) ?aF HO4.out ?aB ?aS ?aL ?_; (case aP => exact rfl); (case aF => exact fun _ _ => trivial); (case aB => exact HB4.out); (case aS => exact HB4.out.size); (case aL => omega); intro v5 w5 ho hb hg hat; rw [← HWS.out] at ho; have HO5 := Aside0.mk ho; have HB5 := Aside0.mk hb; clear ho hb hg hat))
          go_roundg (20 - (k + 1))
          case measure => omega
          case rel => exact ⟨k + 1, rfl, by omega, HO5, HB5⟩
        · have hk20 : k = 20 := by omega
          subst hk20
          obtain ⟨w3, rfl⟩ : ∃ w3 : World, w3 = wr := ⟨_, rfl⟩
          have hd2 : decide (((20 : Nat) : Int) < 20) = false := by decide
          obtain ⟨A7, c7, e7⟩ := Kd.R_slice HO.out
          subst e7
          have hln : (X ++ wds 20).length = X.length + 20 := by rw [List.length_append, wds_len]
          have hcc := (Kd.R_reads' HO.out).2.1
          rw [hln] at HO hcc ⊢
          have HO3 := HO
          have HL3 := Aside0.mk (Kd.R_below HL.out HB3.out)
          have HW3 := Aside0.mk (Kd.R_below HW.out HB3.out)
          have HBB := Aside0.mk (HB.out.trans (HB3.out.mono HB.out.size))
          have hlim := HN.out
          have hwl : (wide (rows.take i)).length = i := by rw [wide_len, List.length_take]; omega
          have htl : (rows.take i).length = i := by rw [List.length_take]; omega
          have htx : (X ++ wds 20).take X.length = X := by rw [List.take_append_of_le_length (Nat.le_refl _), List.take_length]
          obtain ⟨AL, cL, eL⟩ := Kd.R_slice HL.out
          subst eL
          obtain ⟨AW, cW, eW⟩ := Kd.R_slice HW.out
          subst eW
          rw [htl] at HL3 HNE ⊢
          rw [hwl] at HW3 HNE ⊢
          have HTX := Aside0.mk htx
          have hz := pw_cell_below HBB.out HX0.out
          have HS1 := Aside0.mk HB.out.size
          have HWL := Aside0.mk hwl
          have HTL := Aside0.mk htl
          clear hwl htl
          clear HO HB HB3 HL HW htx
          go_wp2_with (first | ((with_reducible refine gate_builtin (b := .append) (xs := #[.tmp 30, .tmp 32]) rfl ?_); at_builtin; refine Kd.R_append vw (w0 := w) w.heap.size rfl (.tmp 30) (.tmp 32) 24 22 (.slice none 0 0) 24 rfl Tryd.underlying24 info22 rfl (by decide) (by omega) (.slice AW i cW) (wide (rows.take i)) (X ++ wds 20) [.slice A7 (X.length + 20) c7] (fun _ => True) (fun k => some k ≠ (Value.slice AW i cW).ownBlock) rfl rfl ?aP (fun _ hk => ⟨trivial, hk⟩) ?aF HW3.out ?aB ?aS ?aL ?_; (case aP => exact vw.M_mono (fun _ hk => hk.2) (vw_apart (vw_all (Kd.R_mono (Kd.R_lower HO3.out HS1.out) (fun _ _ => trivial))) HW3.out)); (case aF => exact fun _ _ => trivial); (case aB => exact HBB.out); (case aS => exact HBB.out.size); (case aL => rw [HWL.out]; omega); intro v5 w5 ho hb hg5 hat5; rw [← HWD.out] at ho; have HO5 := Aside0.mk ho; have HB5 := Aside0.mk hb; have hoth := R_vw_other HL3.out HW3.out HNE.out hg5 hat5; have HL5 := Aside0.mk hoth.1; have HNE5 := Aside0.mk hoth.2; have HX5 := Aside0.mk (R_str_other HO3.out HW3.out hg5); have hz5 := pw_cell_below HB5.out HX0.out; obtain ⟨A5, c5, e5⟩ := Kd.R_slice HO5.out; subst e5; clear ho hb hg5 hat5 hoth) | ((with_reducible refine gate_builtin (b := .append) (xs := #[.tmp 34, .tmp 44]) rfl ?_); at_builtin; refine Kd.R_append vw (w0 := w) w.heap.size rfl (.tmp 34) (.tmp 44) 24 22 (.slice none 0 0) 24 rfl Tryd.underlying24 info22 rfl (by decide) (by omega) (.slice AL i cL) (rows.take i) X [.slice A7 X.length (X.length + 20)] (fun _ => True) (fun k => some k ≠ (Value.slice AL i cL).ownBlock) rfl rfl ?aP (fun _ hk => ⟨trivial, hk⟩) ?aF HL5.out ?aB ?aS ?aL ?_; (case aP => have hv := vw_take (m := X.length) (c' := X.length + 20) (Kd.R_mono (ok' := fun _ => True) (Kd.R_lower HX5.out HS1.out) (fun _ _ => trivial)) (by rw [List.length_append]; omega) (by omega); rw [HTX.out] at hv; exact vw.M_mono (fun _ hk => hk.2) (vw_apart hv HL5.out)); (case aF => exact fun _ _ => trivial); (case aB => exact HB5.out); (case aS => exact HB5.out.size); (case aL => rw [HTL.out]; omega); intro v6 w6 ho hb hg6 hat6; rw [← HTK.out] at ho; have HO6 := Aside0.mk ho; have HB6 := Aside0.mk hb; clear ho hb))
          go_roundg (rows.length - (i + 1))
          case measure => omega
          case rel =>
            have hoth := R_vw_other HO5.out HL5.out (fun k hk e => HNE5.out k e hk) hg6 hat6
            exact ⟨i + 1, rfl, by omega, HO6, ⟨hoth.1⟩, ⟨fun k hk e => hoth.2 k e hk⟩, HB6⟩
    · have hie : i = rows.length := by omega
      subst hie
      have hd : decide (((rows.length : Nat) : Int) < (rows.length : Int)) = false := decide_eq_false (by omega)
      rw [List.take_length] at HL HW
      have HW0 : Aside0 (Kd.R vw 22 wr w.heap.size (fun _ => True) u4 (rows ++ ones 0)) := ⟨by have := HL.out; rwa [show ones 0 = [] from rfl, List.append_nil]⟩
      clear HL
      go_wp2
      go_loopg [4, 9] 20 (fun g v4 v9 wx => ∃ k : Nat, v9 = .int .i64 k ∧ k + g = 20 ∧ Aside0 (Kd.R vw 22 wx w.heap.size (fun _ => True) v4 (rows ++ ones k)) ∧ Aside0 (Kd.R vw 22 wx w.heap.size (fun _ => True) u5 (wide rows)) ∧ Aside0 (∀ k, v4.ownBlock = some k → u5.ownBlock ≠ some k) ∧ Aside0 (Below w.heap.size w wx))
      case atStart => exact ⟨0, rfl, by omega, HW0, HW, HNE, HB⟩
      case round =>
        clear HW0 HW HNE HB hd
        obtain ⟨k, rfl, hkg, HL, HW, HNE, HB⟩ := hrel
        by_cases hk : k < 20
        · obtain ⟨w3, rfl⟩ : ∃ w3 : World, w3 = wr := ⟨_, rfl⟩
          have hd2 : decide ((k : Int) < 20) = true := decide_eq_true (by omega)
          have hlk : (rows ++ ones k).length ≤ 5864062014654 := by have := HN.out; rw [List.length_append, ones_len]; omega
          have hws : rows ++ ones (k + 1) = rows ++ ones k ++ [[wordB k]] := by rw [ones_succ, List.append_assoc]
          have HWS := Aside0.mk hws
          clear hws
          obtain ⟨Y, hY⟩ : ∃ Y, rows ++ ones k = Y := ⟨_, rfl⟩
          rw [hY] at hlk HL HWS
          clear hY
          obtain ⟨A7, c7, e7⟩ := Kd.R_slice HL.out
          subst e7
          go_wp2_with (first | (go_at_call 38; refine (refrainlaw4_word.calls (k : Int) (wordB k) _ rfl).mono ?_; rintro e w4 ⟨rfl, hb4⟩; have HL4 := Aside0.mk (Kd.R_below HL.out hb4); have HW4 := Aside0.mk (Kd.R_below HW.out hb4); have HB4 := Aside0.mk (HB.out.trans (hb4.mono HB.out.size)); clear hb4) | ((with_reducible refine gate_builtin (b := .append) (xs := #[.tmp 50, .tmp 54]) rfl ?_); at_builtin; refine Kd.R_append vw (w0 := w) w.heap.size rfl (.tmp 50) (.tmp 54) 24 22 (.slice none 0 0) 24 rfl Tryd.underlying24 info22 rfl (by decide) (by omega) (.slice A7 Y.length c7) Y [wordB k] [.slice (some ⟨w4.heap.size, 0, none⟩) 1 1] (fun _ => True) (fun k => some k ≠ (Value.slice A7 Y.length c7).ownBlock) rfl ?aX ?aP (fun _ hk => ⟨trivial, hk⟩) ?aF (Kd.R_alloc HL4.out _) ?aB ?aS ?aL ?_; (case aX => rw [World.size_alloc]; rfl); (case aP => exact vw.M_mono (fun _ hk => hk.2) (vw_apart (vw_all (R_str_one (wordB k) HB4.out.size)) (Kd.R_alloc HL4.out _))); (case aF => exact fun _ _ => trivial); (case aB => exact below_alloc HB4.out _); (case aS => rw [World.size_alloc]; have := HB4.out.size; omega); (case aL => omega); intro v5_ w5 ho hb hg hat; rw [← HWS.out] at ho; have HO5 := Aside0.mk ho; have HB5 := Aside0.mk hb; have hoth := R_vw_other (Kd.R_alloc HW4.out _) (Kd.R_alloc HL4.out _) (fun k hk e => HNE.out k e hk) hg hat; have HW5 := Aside0.mk hoth.1; have HNE5 := Aside0.mk hoth.2; clear ho hb hg hat hoth))
          go_roundg (20 - (k + 1))
          case measure => omega
          case rel => exact ⟨k + 1, rfl, by omega, HO5, HW5, ⟨fun k hk e => HNE5.out k e hk⟩, HB5⟩
        · have hk20 : k = 20 := by omega
          subst hk20
          have hd2 : decide (((20 : Nat) : Int) < 20) = false := by decide
          go_wp2
          go_ret2
          exact ⟨_, _, rfl, HL.out, HW.out, HB.out⟩
end Go.Proofs.YthmcapdakplhdaaDoor.Pr

/-
Part 11 of the proof of the law CsvTwo: texts PrxCE.
-/
import Derived.Deep.DrawnRows
import Derived.Deep.RegionHeld3
import Derived.IntWalk
import Derived.Test.YtpkbhfdfgapmlaaGreatDoorMCsvTwo10
import Derived.Test.YtpkbhfdfgapmlaaGreatDoorMCsvTwo2
import Derived.Test.YtpkbhfdfgapmlaaGreatDoorMCsvTwo6
import Derived.Test.YtpkbhfdfgapmlaaGreatDoorMCsvTwo9
/-! ## text PrxCE -/
section
/- The law CsvEvents, walked: it answers true where csv's answers are the document's. -/
namespace Go.Proofs.YtpkbhfdfgapmlaaGreatDoor.Pr
open Go Go.RowKit Go.Proofs.YtpkbhfdfgapmlaaGreatDoor.Pv Go.Proofs.YtpkbhfdfgapmlaaGreatDoorW.PrintWords Go.Proofs.YtpkbhfdfgapmlaaGreatDoorW.PrintLast Go.Proofs.YtpkbhfdfgapmlaaGreatDoorW.PrintMore
set_option maxRecDepth 100000
set_option linter.unusedVariables false
set_option linter.unusedSimpArgs false
attribute [local go_sem ↓] Go.wp_at_zero Go.wp_at_succ
theorem infoA_ : (Tryz.prog.info? 30).map (fun i => (i.zero, i.size, i.bytes)) = some (some (.agg #[(.string ⟨#[]⟩), (.int .i64 0)]), 2, 24) := by kernel_rfl
/-- The marks behind attributes, behind values. -/
def mkA (n : Nat) : List S30 := (wds n).map fun s => ⟨s, 0⟩
theorem mk30_succ (n : Nat) : mkA (n + 1) = mkA n ++ [⟨wordB n, 0⟩] := by unfold mkA; rw [wds_succ, List.map_append]; rfl
theorem mk30_len (n : Nat) : (mkA n).length = n := by unfold mkA; rw [List.length_map, wds_len]
def mkV (n : Nat) : List S43 := (List.range n).map fun (k : Nat) => ⟨77 + (k : Int), 0, ⟨#[]⟩, false⟩
theorem mkV_succ (n : Nat) : mkV (n + 1) = mkV n ++ [⟨77 + (n : Int), 0, ⟨#[]⟩, false⟩] := by unfold mkV; rw [List.range_succ, List.map_append]; rfl
theorem mkV_len (n : Nat) : (mkV n).length = n := by unfold mkV; rw [List.length_map, List.length_range]
/-- Where the program and the document answer alike. -/
def EvOk (name : ByteArray) (at' : List S30) (row : List ByteArray) : Prop := csv_Event.f name at' row = some (eventS name at' row) ∧ (∀ s ∈ row, ∃ k, refrainref1_Read.f k s = some (readP s.data.toList)) ∧ (∀ (kind : Int), ∀ s ∈ row, ∃ k, refrainref4_cell.f k kind s = some (rdS kind s)) ∧ (eventS name at' row).2.2.1.length ≤ 1048576
def RwOk (name : ByteArray) (at' : List S30) (e : S35) : Prop := csv_Row.f name at' e.f0 e.f1 e.f2 = some (rowS name at' e.f0 e.f1 e.f2) ∧ (∀ v ∈ e.f2, wfW v) ∧ (rowS name at' e.f0 e.f1 e.f2).1.length ≤ 1048577
def SameE : Prop := ∀ (a b : ByteArray) (s : Int) (vs : List S43), vs.length ≤ 1048576 → a.toList = b.toList → ∃ k, refrainlaw4_sameEvent.f k a s vs b s vs = some true
def SameR : Prop := ∀ r : List ByteArray, r.length ≤ 1048577 → ∃ k, refrainlaw4_sameRow.f k r r = some true
def ShowS : Prop := ∀ v : S43, wfW v → ∃ k, refrainref1_Show.f k v.f0 v.f1 v.f2 v.f3 = some (showV v.f0 v.f1 v.f2 v.f3)
theorem prefA {w : World} {A : Option Addr} {at' : List S30} (h : Kd.C k30 w A (at'.length + 20) (at' ++ mkA 20)) : Kd.C k30 w A at'.length at' := by
  have e5 : (at' ++ mkA 20).length = at'.length + 20 := by rw [List.length_append, mk30_len]
  rw [← e5] at h
  have := Kd.C_take h (m := at'.length) (by omega)
  rwa [List.take_append_of_le_length (Nat.le_refl _), List.take_length] at this
theorem prefV {w : World} {A : Option Addr} {y2 : List S43} (h : Kd.C k43 w A (y2.length + 20) (y2 ++ mkV 20)) : Kd.C k43 w A y2.length y2 := by
  have e5 : (y2 ++ mkV 20).length = y2.length + 20 := by rw [List.length_append, mkV_len]
  rw [← e5] at h
  have := Kd.C_take h (m := y2.length) (by omega)
  rwa [List.take_append_of_le_length (Nat.le_refl _), List.take_length] at this
theorem rd_mkV (y2 : List S43) (k : Nat) (h : k < 20) : rd_T43 (y2 ++ mkV 20) ((y2.length : Int) + (k : Int)) = ⟨77 + (k : Int), 0, ⟨#[]⟩, false⟩ := by
  show (y2 ++ mkV 20).getD _ _ = _
  rw [show ((y2.length : Int) + (k : Int)).toNat = y2.length + k from by omega, List.getD_eq_getElem?_getD, List.getElem?_append_right (by omega), show y2.length + k - y2.length = k from by omega]
  unfold mkV
  rw [List.getElem?_map, List.getElem?_range h]
  rfl
theorem rd_mkA (at' : List S30) (k : Nat) (h : k < 20) : rd_T30 (at' ++ mkA 20) ((at'.length : Int) + (k : Int)) = ⟨wordB k, 0⟩ := by
  show (at' ++ mkA 20).getD _ _ = _
  rw [show ((at'.length : Int) + (k : Int)).toNat = at'.length + k from by omega, List.getD_eq_getElem?_getD, List.getElem?_append_right (by omega), show at'.length + k - at'.length = k from by omega]
  unfold mkA wds
  rw [List.getElem?_map, List.getElem?_map, List.getElem?_range h]
  rfl
theorem rd_prA (at' : List S30) (j : Nat) (h : j < at'.length) : rd_T30 (at' ++ mkA 20) (j : Int) = rd_T30 at' (j : Int) := by
  show (at' ++ mkA 20).getD _ _ = at'.getD _ _
  rw [Int.toNat_natCast, List.getD_eq_getElem?_getD, List.getD_eq_getElem?_getD, List.getElem?_append_left h]
theorem one_len (r : List ByteArray) : ([r] ++ ones 20).length = 21 := by rw [List.length_append, ones_len]; rfl
set_option maxHeartbeats 32000000 in
theorem law4_CsvEvents (name : ByteArray) (A0 : Option Addr) (c0 : Nat) (at' : List S30) (A1 : Option Addr) (c1 : Nat) (rows : List (List ByteArray)) (A2 : Option Addr) (c2 : Nat) (es : List S35) (w : World)
    (hr0 : Kd.C k30 w A0 at'.length at') (hc0 : at'.length ≤ c0) (hr1 : Kd.C (Kd.slice 9 Kd.string) w A1 rows.length rows) (hc1 : rows.length ≤ c1) (hr2 : Kd.C k35 w A2 es.length es) (hc2 : es.length ≤ c2) (HLE : Aside0 (LErr w)) (HLG : Aside0 (LG0 w)) (HLM : Aside0 (LMax w)) (HLS : Aside0 (LSyn w))
    (hb : refrainlaw4_begun.f = some true) (hn0 : at'.length ≤ 1048576) (hn1 : rows.length ≤ 1048576) (hn2 : es.length ≤ 1048576) (hl1 : ∀ r ∈ rows, r.length ≤ 1048576) (hl2 : ∀ e ∈ es, e.f2.length ≤ 1048576) (hE : ∀ r ∈ rows, EvOk name at' r) (hR : ∀ e ∈ es, RwOk name at' e) (hSE : SameE) (hSR : SameR) (hU : ShowS) :
    Calls Tryz.prog 3 #[.agg #[.string name, .slice A0 at'.length c0], .slice A1 rows.length c1, .slice A2 es.length c2] w fun e w' => e = .returned (.bool true) ∧ Below w.heap.size w w' := by
  have HR0 := Aside0.mk hr0
  have HC0 := Aside0.mk hc0
  have HR1 := Aside0.mk hr1
  have HC1 := Aside0.mk hc1
  have HR2 := Aside0.mk hr2
  have HC2 := Aside0.mk hc2
  have HN0 := Aside0.mk hn0
  have HL1 := Aside0.mk hl1
  have HL2 := Aside0.mk hl2
  have HEV := Aside0.mk hE
  have HRW := Aside0.mk hR
  have HSE := Aside0.mk hSE
  have HSR := Aside0.mk hSR
  have HU := Aside0.mk hU
  have HBG := Aside0.mk hb
  clear hr0 hc0 hr1 hc1 hr2 hc2 hn0 hl1 hl2 hE hR hSE hSR hU hb
  go_enter Tryz.func3, Tryz.ntmps3
  go_upto_region 1 with (fail)
  obtain ⟨g3, e3⟩ : ∃ g, g = w.heap.size := ⟨_, rfl⟩
  obtain ⟨w1, hw1⟩ : ∃ w1, w1 = w.alloc (.cells #[.string name, .slice A0 at'.length c0] 24) := ⟨_, rfl⟩
  have K3 : Aside0 (w1.heap[g3]? = some (.cells #[.string name, .slice A0 at'.length c0] 24 (0, 0))) := ⟨by rw [hw1, e3]; exact blk_new _ _⟩
  have HB : Aside0 (Below w.heap.size w w1) := ⟨by rw [hw1]; exact below_alloc (Below.refl _ _) _⟩
  rw [← hw1, ← e3]
  have G3 : Aside0 (w.heap.size ≤ g3) := ⟨by omega⟩
  clear hw1 e3
  go_upto_region 4 with (go_at_call 7; refine (refrainlaw4_begun.calls true _ ⟨HLM.out.below HB.out⟩ HBG.out).mono ?_; rintro e w2 ⟨rfl, hb⟩; replace K3 := Aside0.mk (blk_below K3.out hb); replace HB := Aside0.mk (below_step HB.out hb); clear hb)
  have a0 : w2.cell? ⟨g3, 0, none⟩ = some (.string name) := blk_cell K3.out 0
  have a1 : w2.cell? ⟨g3, 1, none⟩ = some (.slice A0 at'.length c0) := blk_cell K3.out 1
  go_upto_region 5 with (fail)
  obtain ⟨g8, e8⟩ : ∃ g, g = w2.heap.size := ⟨_, rfl⟩
  obtain ⟨w3, hw3⟩ : ∃ w3, w3 = w2.alloc (.cells #[.string name, .slice A0 at'.length c0] 24) := ⟨_, rfl⟩
  have G38 : g3 ≠ g8 := by have := blk_lt K3.out; omega
  have G8 : Aside0 (w.heap.size ≤ g8) := ⟨by have := blk_lt K3.out; have := G3.out; omega⟩
  have K8 : Aside0 (w3.heap[g8]? = some (.cells #[.string name, .slice A0 at'.length c0] 24 (0, 0))) := ⟨by rw [hw3, e8]; exact blk_new _ _⟩
  replace K3 : Aside0 (w3.heap[g3]? = some (.cells #[.string name, .slice A0 at'.length c0] 24 (0, 0))) := ⟨by rw [hw3]; exact blk_alloc K3.out _⟩
  replace HB : Aside0 (Below w.heap.size w w3) := ⟨by rw [hw3]; exact below_alloc HB.out _⟩
  rw [← hw3, ← e8]
  clear hw3 e8 a0 a1
  have a1 : w3.cell? ⟨g3, 1, none⟩ = some (.slice A0 at'.length c0) := blk_cell K3.out 1
  have HC3 := Aside0.mk (Kd.C_below HR0.out HB.out)
  go_upto_region 6 with (((with_reducible refine gate_builtin (b := .append) (xs := #[.const (.slice none 0 0), .tmp 34]) rfl ?_); at_builtin; refine Kd.R_append_rows k30 (Rr := k30.K w3) (w0 := w) w.heap.size rfl (.const (.slice none 0 0)) (.tmp 34) 22 30 (.agg #[(.string ⟨#[]⟩), (.int .i64 0)]) 24 rfl Tryz.underlying22 infoA_ rfl (by decide) (by omega) (.slice none 0 0) [] at' A0 at'.length c0 (fun _ => True) (fun _ => False) rfl rfl ?aO ?aR ?aK (fun _ hk => hk.elim) ?aF ?aB ?aS ?aL ?_; (case aO => exact Kd.R_nil _ _ _ _ _); (case aR => exact HC3.out); (case aK => exact fun x cs h => by rw [k30_open h]; exact k30_mkM _ _ _ _); (case aF => exact fun _ _ => trivial); (case aB => exact HB.out); (case aS => exact below_size HB.out); (case aL => have := HN0.out; simp only [List.length_nil]; omega); intro v9 w4 ho hb hg hat; rw [List.nil_append] at ho; have HO := Aside0.mk ho; replace K3 := Aside0.mk (blk_grown K3.out hg (fun e => by cases e)); replace K8 := Aside0.mk (blk_grown K8.out hg (fun e => by cases e)); have HBN := Aside0.mk hb; clear ho hb hg hat a1 HC3 HB))
  go_wp2
  go_loopg [9, 10] 20 (fun gk v9 v10 wx => ∃ k : Nat, v10 = .int .i64 k ∧ k + gk = 20 ∧ Aside0 (Kd.R k30 30 wx w.heap.size (fun _ => True) v9 (at' ++ mkA k)) ∧ Aside0 (wx.heap[g3]? = some (.cells #[.string name, .slice A0 at'.length c0] 24 (0, 0))) ∧ Aside0 (wx.heap[g8]? = some (.cells #[.string name, .slice A0 at'.length c0] 24 (0, 0))) ∧ Aside0 (Below w.heap.size w wx))
  case atStart => exact ⟨0, rfl, by omega, ⟨by have := HO.out; rwa [show mkA 0 = [] from rfl, List.append_nil]⟩, K3, K8, HBN⟩
  case round =>
    clear HO K3 K8 HBN
    obtain ⟨k, rfl, hkg, HO, K3, K8, HB⟩ := hrel
    by_cases hk : k < 20
    · have hd : decide ((k : Int) < 20) = true := decide_eq_true (by omega)
      obtain ⟨A9, c9, e9⟩ := Kd.R_slice HO.out
      subst e9
      obtain ⟨Y, hY⟩ : ∃ Y, at' ++ mkA k = Y := ⟨_, rfl⟩
      have HYL : Aside0 (Y.length ≤ 1048600) := ⟨by rw [← hY, List.length_append, mk30_len]; have := HN0.out; omega⟩
      have HWS : Aside0 (at' ++ mkA (k + 1) = Y ++ [⟨wordB k, 0⟩]) := ⟨by rw [mk30_succ, ← List.append_assoc, hY]⟩
      rw [hY] at HO ⊢
      clear hY
      go_wp2_with (first | (go_at_call 8; refine (refrainlaw4_word.calls (k : Int) (wordB k) _ rfl).mono ?_; rintro e w4 ⟨rfl, hb4⟩; have HO4 := Aside0.mk (Kd.R_below HO.out hb4); have HB4 := Aside0.mk (below_step HB.out hb4); replace K3 := Aside0.mk (blk_below K3.out hb4); replace K8 := Aside0.mk (blk_below K8.out hb4); clear hb4) | ((with_reducible refine gate_builtin (b := .append) (xs := #[.tmp 40, .tmp 44]) rfl ?_); at_builtin; refine Kd.R_append k30 (w0 := w) w.heap.size rfl (.tmp 40) (.tmp 44) 22 30 (.agg #[(.string ⟨#[]⟩), (.int .i64 0)]) 24 rfl Tryz.underlying22 infoA_ rfl (by decide) (by omega) (.slice A9 Y.length c9) Y (⟨wordB k, 0⟩ : S30) [.string (wordB k), .int .i64 0] (fun _ => True) (fun _ => False) rfl rfl ?aP (fun _ hk => hk.elim) ?aF HO4.out ?aB ?aS ?aL ?_; (case aP => exact k30_mkM _ _ _ (⟨wordB k, 0⟩ : S30)); (case aF => exact fun _ _ => trivial); (case aB => exact HB4.out); (case aS => exact below_size HB4.out); (case aL => have := HYL.out; omega); intro v5 w5 ho hb hg hat; rw [← HWS.out] at ho; have HO5 := Aside0.mk ho; have HB5 := Aside0.mk hb; replace K3 := Aside0.mk (blk_grown K3.out hg (Kd.R_ne HO4.out K3.out (by decide))); replace K8 := Aside0.mk (blk_grown K8.out hg (Kd.R_ne HO4.out K8.out (by decide))); clear ho hb hg hat))
      go_roundg (20 - (k + 1))
      case measure => omega
      case rel => exact ⟨k + 1, rfl, by omega, HO5, K3, K8, HB5⟩
    · have hk20 : k = 20 := by omega
      subst hk20
      have hd : decide (((20 : Nat) : Int) < 20) = false := by decide
      obtain ⟨A9, c9, e9⟩ := Kd.R_slice HO.out
      subst e9
      have hln : (at' ++ mkA 20).length = at'.length + 20 := by rw [List.length_append, mk30_len]
      have hcc := (Kd.R_reads' HO.out).2.1
      rw [hln] at HO hcc ⊢
      have hnn := HN0.out
      have HCC := Aside0.mk hcc
      have a1 : wr.cell? ⟨g3, 1, none⟩ = some (.slice A0 at'.length c0) := blk_cell K3.out 1
      have b1 : wr.cell? ⟨g8, 1, none⟩ = some (.slice A0 at'.length c0) := blk_cell K8.out 1
      have bz : ∀ j, wr.frozen? ⟨g8, j, none⟩ = false := fun j => blk_frozen K8.out j
      have bl := blk_lt K8.out
      clear hln
      have q0 : (at'.length : Int) ≤ (at'.length : Int) + 20 := by omega
      go_upto_region 11 with (fail)
      obtain ⟨w5, hw5⟩ : ∃ w5, w5 = wr.setCell ⟨g8, 1, none⟩ (.slice A9 at'.length (at'.length + 20)) := ⟨_, rfl⟩
      rw [← hw5]
      have G98 := Kd.R_ne HO.out K8.out (by decide)
      have HC9 : Aside0 (Kd.C k30 w5 A9 (at'.length + 20) (at' ++ mkA 20)) := ⟨by rw [hw5]; have h := (Kd.R_reads' (Kd.R_far (p := ⟨g8, 1, none⟩) (Kd.R_far1 HO.out rfl G98) (fun _ hk => hk.2) (.slice A9 at'.length (at'.length + 20)))).2.2; rwa [List.length_append, mk30_len] at h⟩
      replace K3 : Aside0 (w5.heap[g3]? = some (.cells #[.string name, .slice A0 at'.length c0] 24 (0, 0))) := ⟨by rw [hw5]; exact blk_far K3.out G38 _⟩
      replace K8 : Aside0 (w5.heap[g8]? = some (.cells #[.string name, .slice A9 at'.length (at'.length + 20)] 24 (0, 0))) := ⟨by rw [hw5]; exact blk_put K8.out 1 _ rfl⟩
      replace HB : Aside0 (Below w.heap.size w w5) := ⟨by rw [hw5]; exact Below.setCell HB.out G8.out _⟩
      clear hw5 a1 b1 bz bl q0 hcc hnn HO G98 hd
      go_wp2
      go_loopg [11] rows.length (fun gk v11 wx => ∃ i : Nat, v11 = .int .i64 i ∧ i + gk = rows.length ∧ Aside0 (Below w5.heap.size w5 wx))
      case atStart => exact ⟨0, rfl, by omega, ⟨Below.refl _ _⟩⟩
      case round =>
        obtain ⟨i, rfl, hig, HX⟩ := hrel
        by_cases hi : i < rows.length
        · have hd : decide ((i : Int) < (rows.length : Int)) = true := decide_eq_true (by omega)
          have HBX := Aside0.mk (below_step HB.out HX.out)
          have p1 : 0 ≤ (i : Int) := by omega
          have q1 : (i : Int) < (rows.length : Int) := by omega
          obtain ⟨ad, A, cap, e1, hx, hl, hC⟩ := at_L1 (Kd.C_below HR1.out HBX.out) (i : Int) p1 q1
          obtain ⟨ad', A', cap', e1', hx', hl', hC'⟩ := at_L1 HR1.out (i : Int) p1 q1
          have hm := Kd.C_mid (lo := i) (hi := i + 1) (Kd.C_below HR1.out HBX.out) (by omega) (by omega) HC1.out
          have hcc1 := HC1.out
          rw [if_neg (by omega)] at hm
          cases e1
          cases e1'
          rw [Int.toNat_natCast] at hx hx'
          have hrow : (rows.take (i + 1)).drop i = [rd_L1 rows (i : Int)] := by
            have h2 := take_snoc rows hi
            rw [h2, List.drop_append_of_le_length (by rw [List.length_take]; omega), List.drop_eq_nil_of_le (by rw [List.length_take]; omega)]; rfl
          rw [hrow] at hm
          have HM : Aside0 (Kd.C (Kd.slice 9 Kd.string) wr (some (ad.add i)) 1 [rd_L1 rows (i : Int)]) := ⟨by have h := hm; rw [show i * (Kd.slice 9 Kd.string).sz = i from Nat.mul_one i] at h; exact h⟩
          have hmem : rd_L1 rows (i : Int) ∈ rows := mem_rd hi
          have hrl := HL1.out _ hmem
          have HEi := Aside0.mk (HEV.out _ hmem)
          have e3 := (pw_cell_below HBX.out hx').symm.trans hx
          injection e3 with e3
          injection e3 with e3 e4 e5
          subst e3
          subst e5
          have HCR : Aside0 (∀ W', Below w.heap.size w W' → Kd.C Kd.string W' A' (rd_L1 rows (i : Int)).length (rd_L1 rows (i : Int))) := ⟨fun W' h => Kd.C_below hC' h⟩
          have HX' : Aside0 (∀ W', Below w.heap.size w W' → W'.cell? (ad.add i) = some (.slice A' (rd_L1 rows (i : Int)).length cap')) := ⟨fun W' h => pw_cell_below h hx'⟩
          have HXL := Aside0.mk hl'
          have HRW9 : Aside0 ((rd_L1 rows (i : Int)).length ≤ 1048577) := ⟨by omega⟩
          generalize rd_L1 rows (i : Int) = row at *
          replace p1 := eq_true p1
          replace q1 := eq_true q1
          clear hm hrow hmem hC hC' hx hx' hl hl'
          have q2 : (i : Int) ≤ (i : Int) + 1 := by omega
          have q3 : (i : Int) + 1 ≤ (c1 : Int) := by omega
          have p9 : 1 ≤ c1 - i := by omega
          go_upto_region 15 with (go_at_call 9; (refine (law4_roomy (some (ad.add i)) (c1 - i) [row] _ HM.out p9 (show 1 ≤ 5864062014634 by decide) (fun r hr => by rw [List.mem_singleton.1 hr]; omega)).mono ?_); rintro e w6 ⟨v5, v6, rfl, h5, h6, hb⟩; have HX6 := Aside0.mk (below_step HX.out hb); have HB6 := Aside0.mk (below_step HBX.out hb); obtain ⟨A5, c5, e5⟩ := Kd.R_slice h5; rw [one_len] at e5; obtain ⟨A6, c6, e6⟩ := Kd.R_slice h6; rw [wide_len] at e6; replace e6 : v6 = .slice A6 1 c6 := e6; subst e5; subst e6; have hv5 := vw_C h5; rw [one_len] at hv5; have hv6 := vw_C h6; rw [wide_len] at hv6; have HV5 := Aside0.mk hv5.2.2; have HV6 := Aside0.mk hv6.2.2; have HP5 := Aside0.mk hv5.2.1; have HP6 := Aside0.mk hv6.2.1; have HM6 := Aside0.mk (Kd.C_below HM.out hb); clear hv5 hv6 h5 h6 hb)
          obtain ⟨r1, r2, r3, r4, hev⟩ : ∃ r1 r2 r3 r4, eventS name at' row = (r1, r2, r3, r4) := ⟨_, _, _, _, rfl⟩
          have HE1 : Aside0 (csv_Event.f name at' row = some (r1, r2, r3, r4)) := ⟨by rw [← hev]; exact HEi.out.1⟩
          have HE2 := Aside0.mk hev
          have HR3 : Aside0 (r3.length ≤ 1048576) := ⟨by have h := HEi.out.2.2.2; rw [hev] at h; exact h⟩
          have K36 := Aside0.mk (blk_below K3.out HX6.out)
          have K86 := Aside0.mk (blk_below K8.out HX6.out)
          have HCP := Aside0.mk (prefA (Kd.C_below HC9.out HX6.out))
          have c80 : w6.cell? ⟨g8, 0, none⟩ = some (.string name) := blk_cell K86.out 0
          have c81 : w6.cell? ⟨g8, 1, none⟩ = some (.slice A9 at'.length (at'.length + 20)) := blk_cell K86.out 1
          obtain ⟨ad5, A7, c7, e7, hx7, hl7, hC7⟩ := at_L1 HV5.out 0 (by decide) (by decide)
          cases e7
          rw [show rd_L1 ([row] ++ ones 20) 0 = row from rfl] at hx7 hl7 hC7
          rw [show ((0 : Int)).toNat = 0 from rfl, Addr.add_zero'] at hx7
          have HL7 := Aside0.mk hl7
          have HC7 := Aside0.mk hC7
          clear hev p9 q2 q3 hl7 hC7 p1 q1 hd
          have HSX : Aside0 (Below w6.heap.size w6 w6) := ⟨Below.refl _ _⟩
          go_cut [14, 15] (fun v14 v15 wc => ∃ (g14 : Nat) (Aa : Option Addr) (ca : Nat), v14 = .pointer (some ⟨g14, 0, none⟩) ∧ v15 = .int .i64 r4 ∧ Aside0 (wc.heap[g14]? = some (.cells #[.string r1, .int .i64 r2, .slice Aa r3.length ca] 35 (0, 0))) ∧ Aside0 (Kd.R k43 43 wc w.heap.size (fun _ => True) (.slice Aa r3.length ca) r3) ∧ Aside0 (Below w6.heap.size w6 wc))
          case first =>
            go_region_held3 (fun W' => W'.cell? ⟨g8, 0, none⟩ = some (.string name) ∧ W'.cell? ⟨g8, 1, none⟩ = some (.slice A9 at'.length (at'.length + 20)) ∧ W'.cell? ad5 = some (.slice A7 row.length c7) ∧ Aside0 (Below w6.heap.size w6 W')) (refine ⟨evB c80 ?_, evB c81 ?_, evB hx7 ?_, ?_⟩ <;> (repeat (first | assumption | exact HSX | exact And.right (And.right (And.right (by assumption))) | refine evD ?_ | refine evN ?_ | refine evC (by assumption) ?_ | refine evA ?_ | refine evS ?_))) ((go_at_call 10; (refine (csv_Event.calls name A9 (at'.length + 20) at' A7 c7 row r1 r2 r3 r4 _ (Kd.C_below HCP.out (Aside0.out (by (repeat (first | assumption | exact HSX | exact And.right (And.right (And.right (by assumption))) | refine evD ?_ | refine evN ?_ | refine evC (by assumption) ?_ | refine evA ?_ | refine evS ?_))))) (by omega) (Kd.C_below HC7.out (Aside0.out (by (repeat (first | assumption | exact HSX | exact And.right (And.right (And.right (by assumption))) | refine evD ?_ | refine evN ?_ | refine evC (by assumption) ?_ | refine evA ?_ | refine evS ?_))))) HL7.out ⟨HLE.out.below (below_step HB6.out (Aside0.out (by (repeat (first | assumption | exact HSX | exact And.right (And.right (And.right (by assumption))) | refine evD ?_ | refine evN ?_ | refine evC (by assumption) ?_ | refine evA ?_ | refine evS ?_)))))⟩ ⟨HLG.out.below (below_step HB6.out (Aside0.out (by (repeat (first | assumption | exact HSX | exact And.right (And.right (And.right (by assumption))) | refine evD ?_ | refine evN ?_ | refine evC (by assumption) ?_ | refine evA ?_ | refine evS ?_)))))⟩ ⟨HLS.out.below (below_step HB6.out (Aside0.out (by (repeat (first | assumption | exact HSX | exact And.right (And.right (And.right (by assumption))) | refine evD ?_ | refine evN ?_ | refine evC (by assumption) ?_ | refine evA ?_ | refine evS ?_)))))⟩ HE1.out).mono ?_; rintro e w8 ⟨v2, rfl, ho, hb⟩; obtain ⟨Aa, ca, ea⟩ := Kd.R_slice ho; subst ea; have HO8 := Aside0.mk (Kd.R_lower ho (Nat.le_trans (below_size HB6.out) (below_size (Aside0.out (by (repeat (first | assumption | exact HSX | exact And.right (And.right (And.right (by assumption))) | refine evD ?_ | refine evN ?_ | refine evC (by assumption) ?_ | refine evA ?_ | refine evS ?_))))))); clear ho; (first | (have K14 := Aside0.mk (blk_below (blk_drew (blk_new _ _)) hb); have h140 := blk_cell K14.out 0; have h141 := blk_cell K14.out 1; have h142 := blk_cell K14.out 2; have h14z := fun j => blk_frozen K14.out j; have h14l := blk_lt K14.out) | skip))))
            all_goals go_wp2
            all_goals go_meet
            all_goals (exact ⟨_, _, _, rfl, rfl, ⟨by first | exact blk_new _ _ | exact put3 K14.out⟩, ⟨by first | exact Kd.R_alloc HO8.out _ | exact R_put3 HO8.out K14.out (by decide)⟩, And.right (And.right (And.right (by assumption)))⟩)
          case rest =>
            obtain ⟨g14, Aa, ca, rfl, rfl, K14, HO14, HX14⟩ := hcut
            have HX9 := Aside0.mk (below_step HX6.out HX14.out)
            have HB9 := Aside0.mk (below_step HB6.out HX14.out)
            replace HV5 := Aside0.mk (Kd.C_below HV5.out HX14.out)
            replace HV6 := Aside0.mk (Kd.C_below HV6.out HX14.out)
            replace HM6 := Aside0.mk (Kd.C_below HM6.out HX14.out)
            replace K36 := Aside0.mk (blk_below K36.out HX14.out)
            clear K86 HCP c80 c81 hx7 HL7 HC7 HSX HX14 HX6 HB6
            have c30 : wc.cell? ⟨g3, 0, none⟩ = some (.string name) := blk_cell K36.out 0
            have c31 : wc.cell? ⟨g3, 1, none⟩ = some (.slice A0 at'.length c0) := blk_cell K36.out 1
            have hxi := HX'.out _ HB9.out
            have p1 : 0 ≤ (i : Int) := by omega
            have q1 : (i : Int) < (rows.length : Int) := by omega
            replace p1 := eq_true p1
            replace q1 := eq_true q1
            have HSX : Aside0 (Below wc.heap.size wc wc) := ⟨Below.refl _ _⟩
            go_upto_region 16 with (fail)
            go_cut [16, 17] (fun v16 v17 wd => ∃ (g16 : Nat) (Ab : Option Addr) (cb : Nat), v16 = .pointer (some ⟨g16, 0, none⟩) ∧ v17 = .int .i64 r4 ∧ Aside0 (wd.heap[g16]? = some (.cells #[.string r1, .int .i64 r2, .slice Ab r3.length cb] 35 (0, 0))) ∧ Aside0 (Kd.R k43 43 wd w.heap.size (fun _ => True) (.slice Ab r3.length cb) r3) ∧ Aside0 (Below wc.heap.size wc wd))
            case first =>
              go_region_held3 (fun W' => W'.cell? ⟨g3, 0, none⟩ = some (.string name) ∧ W'.cell? ⟨g3, 1, none⟩ = some (.slice A0 at'.length c0) ∧ W'.cell? (ad.add i) = some (.slice A' row.length cap') ∧ Aside0 (Below wc.heap.size wc W')) (refine ⟨evB c30 ?_, evB c31 ?_, evB hxi ?_, ?_⟩ <;> (repeat (first | assumption | exact HSX | exact And.right (And.right (And.right (by assumption))) | refine evD ?_ | refine evN ?_ | refine evC (by assumption) ?_ | refine evA ?_ | refine evS ?_))) ((go_at_call 11; (refine (ref_Event name A0 c0 at' A' cap' row r1 r2 r3 r4 _ (Kd.C_below HR0.out (below_step HB9.out (Aside0.out (by (repeat (first | assumption | exact HSX | exact And.right (And.right (And.right (by assumption))) | refine evD ?_ | refine evN ?_ | refine evC (by assumption) ?_ | refine evA ?_ | refine evS ?_)))))) HC0.out (HCR.out _ (below_step HB9.out (Aside0.out (by (repeat (first | assumption | exact HSX | exact And.right (And.right (And.right (by assumption))) | refine evD ?_ | refine evN ?_ | refine evC (by assumption) ?_ | refine evA ?_ | refine evS ?_)))))) HXL.out HN0.out HEi.out.2.1 HEi.out.2.2.1 HE2.out).mono ?_; rintro e w8 ⟨v2, rfl, ho, hb⟩; obtain ⟨Aa, ca, ea⟩ := Kd.R_slice ho; subst ea; have HO8 := Aside0.mk (Kd.R_lower ho (Nat.le_trans (below_size HB9.out) (below_size (Aside0.out (by (repeat (first | assumption | exact HSX | exact And.right (And.right (And.right (by assumption))) | refine evD ?_ | refine evN ?_ | refine evC (by assumption) ?_ | refine evA ?_ | refine evS ?_))))))); clear ho; (first | (have K14 := Aside0.mk (blk_below (blk_drew (blk_new _ _)) hb); have h140 := blk_cell K14.out 0; have h141 := blk_cell K14.out 1; have h142 := blk_cell K14.out 2; have h14z := fun j => blk_frozen K14.out j; have h14l := blk_lt K14.out) | skip))))
              all_goals go_wp2
              all_goals go_meet
              all_goals (exact ⟨_, _, _, rfl, rfl, ⟨by first | exact blk_new _ _ | exact put3 K14.out⟩, ⟨by first | exact Kd.R_alloc HO8.out _ | exact R_put3 HO8.out K14.out (by decide)⟩, And.right (And.right (And.right (by assumption)))⟩)
            case rest =>
              obtain ⟨g16, Ab, cb, rfl, rfl, K16, HO16, HX16⟩ := hcut
              have HXd := Aside0.mk (below_step HX9.out HX16.out)
              have HBd := Aside0.mk (below_step HB9.out HX16.out)
              replace HV5 := Aside0.mk (Kd.C_below HV5.out HX16.out)
              replace HV6 := Aside0.mk (Kd.C_below HV6.out HX16.out)
              replace HM6 := Aside0.mk (Kd.C_below HM6.out HX16.out)
              replace K14 := Aside0.mk (blk_below K14.out HX16.out)
              replace HO14 := Aside0.mk (Kd.R_below HO14.out HX16.out)
              clear K36 c30 c31 hxi HSX HX16 HX9 HB9
              have d0 : wc.cell? ⟨g14, 0, none⟩ = some (.string r1) := blk_cell K14.out 0
              have d1 : wc.cell? ⟨g14, 1, none⟩ = some (.int .i64 r2) := blk_cell K14.out 1
              have d2 : wc.cell? ⟨g14, 2, none⟩ = some (.slice Aa r3.length ca) := blk_cell K14.out 2
              have f0 : wc.cell? ⟨g16, 0, none⟩ = some (.string r1) := blk_cell K16.out 0
              have f1 : wc.cell? ⟨g16, 1, none⟩ = some (.int .i64 r2) := blk_cell K16.out 1
              have f2 : wc.cell? ⟨g16, 2, none⟩ = some (.slice Ab r3.length cb) := blk_cell K16.out 2
              obtain ⟨kS, hkS⟩ := HSE.out r1 r1 r2 r3 HR3.out rfl
              have HKS := Aside0.mk hkS
              obtain ⟨kU, hkU⟩ := HSR.out row (by omega)
              have HKU := Aside0.mk hkU
              have HNA := Aside0.mk (Kd.R_reads' HO14.out)
              have HNB := Aside0.mk (Kd.R_reads' HO16.out)
              clear hkS hkU
              have q2 : (i : Int) ≤ (i : Int) + 1 := by omega
              have q3 : (i : Int) + 1 ≤ (c1 : Int) := by have := HC1.out; omega
              go_wp2_with (first | (go_at_call 12; (refine (refrainlaw4_sameEvent.calls kS r1 r2 Aa ca r3 r1 r2 Ab cb r3 true wc HNA.out.2.2 HNA.out.2.1 HNB.out.2.2 HNB.out.2.1 HKS.out).mono ?_); rintro e w7 ⟨rfl, hb⟩; have HV57 := Aside0.mk (Kd.C_below HV5.out hb); have HV67 := Aside0.mk (Kd.C_below HV6.out hb); have HM67 := Aside0.mk (Kd.C_below HM6.out hb); have HX7 := Aside0.mk (below_step HXd.out hb); clear hb d0 d1 d2 f0 f1 f2) | (go_at_call 13; (refine (unt1 kU row (some ad5) A6 (some (ad.add i)) c5 c6 (c1 - i) w7 HV57.out HP5.out HV67.out HP6.out HM67.out (by have := HC1.out; omega) HRW9.out HKU.out).mono ?_); rintro e w8 ⟨rfl, hb⟩; have HX8 := Aside0.mk (below_step HX7.out hb); clear hb))
              go_roundg (rows.length - (i + 1))
              case measure => omega
              case rel => exact ⟨i + 1, by first | rfl | go_num, by omega, HX8⟩
        · have hd : decide ((i : Int) < (rows.length : Int)) = false := decide_eq_false (by omega)
          have HX3 := HX
          clear HX
          go_wp2
          clear hi hig
          go_loopg [18] es.length (fun gk v18 wx => ∃ i : Nat, v18 = .int .i64 i ∧ i + gk = es.length ∧ Aside0 (Below w5.heap.size w5 wx))
          case atStart => exact ⟨0, rfl, by omega, HX3⟩
          case round =>
            clear HX3 hd
            obtain ⟨i, rfl, hig, HX⟩ := hrel
            by_cases hi : i < es.length
            · have hd : decide ((i : Int) < (es.length : Int)) = true := decide_eq_true (by omega)
              have HBX := Aside0.mk (below_step HB.out HX.out)
              have p1 : 0 ≤ (i : Int) := by omega
              have q1 : (i : Int) < (es.length : Int) := by omega
              obtain ⟨ad, A', c', e1, hx0, hx1, hx2, hl, hC⟩ := at_T35 HR2.out (i : Int) p1 q1
              cases e1
              rw [Int.toNat_natCast] at hx0 hx1 hx2
              have hmem : rd_T35 es (i : Int) ∈ es := by
                show es.getD _ _ ∈ es
                rw [Int.toNat_natCast, List.getD_eq_getElem?_getD, List.getElem?_eq_getElem hi]
                exact List.getElem_mem _
              have hvl := HL2.out _ hmem
              have HRi := Aside0.mk (HRW.out _ hmem)
              obtain ⟨⟨y0, y1, y2⟩, hy⟩ : ∃ x : S35, x = rd_T35 es (i : Int) := ⟨_, rfl⟩
              rw [← hy] at hx0 hx1 hx2 hl hC hvl HRi
              clear hy hmem
              have HX0 : Aside0 (∀ W', Below w.heap.size w W' → W'.cell? (ad.add (i * 3)) = some (.string y0)) := ⟨fun W' h => pw_cell_below h hx0⟩
              have HX1 : Aside0 (∀ W', Below w.heap.size w W' → W'.cell? ⟨(ad.add (i * 3)).block, (ad.add (i * 3)).off + 1, none⟩ = some (.int .i64 y1)) := ⟨fun W' h => pw_cell_below h hx1⟩
              have HX2 : Aside0 (∀ W', Below w.heap.size w W' → W'.cell? ⟨(ad.add (i * 3)).block, (ad.add (i * 3)).off + 2, none⟩ = some (.slice A' y2.length c')) := ⟨fun W' h => pw_cell_below h hx2⟩
              have HCV : Aside0 (∀ W', Below w.heap.size w W' → Kd.C k43 W' A' y2.length y2) := ⟨fun W' h => Kd.C_below hC h⟩
              have HLV := Aside0.mk hl
              have HVL : Aside0 (y2.length ≤ 1048576) := ⟨hvl⟩
              clear hx0 hx1 hx2 hl hC hvl
              have hx2 := HX2.out _ HBX.out
              replace p1 := eq_true p1
              replace q1 := eq_true q1
              have HC6 := Aside0.mk (HCV.out _ HBX.out)
              obtain ⟨w6, hw6⟩ : ∃ w6 : World, w6 = wr := ⟨_, rfl⟩
              subst hw6
              go_upto_region 23 with (((with_reducible refine gate_builtin (b := .append) (xs := #[.const (.slice none 0 0), .tmp 116]) rfl ?_); at_builtin; refine Kd.R_append_rows k43 (Rr := k43.K w6) (w0 := w6) w6.heap.size rfl (.const (.slice none 0 0)) (.tmp 116) 33 43 (.agg #[(.int .i64 0), (.int .i64 0), (.string ⟨#[]⟩), (.bool false)]) 40 rfl Tryz.underlying33 info43 rfl (by decide) (by omega) (.slice none 0 0) [] y2 A' y2.length c' (fun _ => True) (fun _ => False) rfl rfl ?aO ?aR ?aK (fun _ hk => hk.elim) ?aF ?aB ?aS ?aL ?_; (case aO => exact Kd.R_nil _ _ _ _ _); (case aR => exact HC6.out); (case aK => exact fun x cs h => by rw [k43_open h]; exact k43_mkM _ _ _ _); (case aF => exact fun _ _ => trivial); (case aB => exact Below.refl _ _); (case aS => exact Nat.le_refl _); (case aL => have := HVL.out; simp only [List.length_nil]; omega); intro v19 w7 ho hb hg hat; rw [List.nil_append] at ho; have HO := Aside0.mk ho; have HB6 := Aside0.mk hb; clear ho hb hg hat hx2 HC6))
              go_wp2
              go_loopg [19, 20] 20 (fun gk v19 v20 wx => ∃ k : Nat, v20 = .int .i64 k ∧ k + gk = 20 ∧ Aside0 (Kd.R k43 43 wx w6.heap.size (fun _ => True) v19 (y2 ++ mkV k)) ∧ Aside0 (Below w6.heap.size w6 wx))
              case atStart => exact ⟨0, rfl, by omega, ⟨by have := HO.out; rwa [show mkV 0 = [] from rfl, List.append_nil]⟩, HB6⟩
              case round =>
                clear HO HB6
                obtain ⟨k, rfl, hkg, HO, HB6⟩ := hrel
                by_cases hk : k < 20
                · have hd2 : decide ((k : Int) < 20) = true := decide_eq_true (by omega)
                  obtain ⟨A9', c9', e9⟩ := Kd.R_slice HO.out
                  subst e9
                  obtain ⟨Y, hY⟩ : ∃ Y, y2 ++ mkV k = Y := ⟨_, rfl⟩
                  have HYL : Aside0 (Y.length ≤ 1048600) := ⟨by rw [← hY, List.length_append, mkV_len]; have := HVL.out; omega⟩
                  have HWS : Aside0 (y2 ++ mkV (k + 1) = Y ++ [⟨77 + (k : Int), 0, ⟨#[]⟩, false⟩]) := ⟨by rw [mkV_succ, ← List.append_assoc, hY]⟩
                  rw [hY] at HO ⊢
                  clear hY
                  go_wp2_with (((with_reducible refine gate_builtin (b := .append) (xs := #[.tmp 122, .tmp 126]) rfl ?_); at_builtin; refine Kd.R_append k43 (w0 := w6) w6.heap.size rfl (.tmp 122) (.tmp 126) 33 43 (.agg #[(.int .i64 0), (.int .i64 0), (.string ⟨#[]⟩), (.bool false)]) 40 rfl Tryz.underlying33 info43 rfl (by decide) (by omega) (.slice A9' Y.length c9') Y (⟨77 + (k : Int), 0, ⟨#[]⟩, false⟩ : S43) [.int .i64 (77 + (k : Int)), .int .i64 0, .string ⟨#[]⟩, .bool false] (fun _ => True) (fun _ => False) rfl rfl ?aP (fun _ hk => hk.elim) ?aF HO.out ?aB ?aS ?aL ?_; (case aP => exact k43_mkM _ _ _ (⟨77 + (k : Int), 0, ⟨#[]⟩, false⟩ : S43)); (case aF => exact fun _ _ => trivial); (case aB => exact HB6.out); (case aS => exact HB6.out.size); (case aL => have := HYL.out; omega); intro v5 w8 ho hb hg hat; rw [← HWS.out] at ho; have HO5 := Aside0.mk ho; have HB8 := Aside0.mk hb; clear ho hb hg hat))
                  go_roundg (20 - (k + 1))
                  case measure => omega
                  case rel => exact ⟨k + 1, by first | rfl | go_num, by omega, HO5, HB8⟩
                · have hk20 : k = 20 := by omega
                  subst hk20
                  have hd2 : decide (((20 : Nat) : Int) < 20) = false := by decide
                  obtain ⟨Av, cv, e9⟩ := Kd.R_slice HO.out
                  subst e9
                  have hln : (y2 ++ mkV 20).length = y2.length + 20 := by rw [List.length_append, mkV_len]
                  have hcc := (Kd.R_reads' HO.out).2.1
                  rw [hln] at HO hcc ⊢
                  have HCC9 := Aside0.mk hcc
                  have HB9 := Aside0.mk (HBX.out.trans (HB6.out.mono HBX.out.size))
                  have HX9 := Aside0.mk (HX.out.trans (HB6.out.mono HX.out.size))
                  have hx0 := HX0.out _ HB9.out
                  have hx1 := HX1.out _ HB9.out
                  have hx2 := HX2.out _ HB9.out
                  clear hln hd hd2
                  go_upto_region 28 with (fail)
                  obtain ⟨g21, e21⟩ : ∃ g, g = wr.heap.size := ⟨_, rfl⟩
                  obtain ⟨w8, hw8⟩ : ∃ w8, w8 = wr.alloc (.cells #[.string y0, .int .i64 y1, .slice A' y2.length c'] 35) := ⟨_, rfl⟩
                  have K21 : Aside0 (w8.heap[g21]? = some (.cells #[.string y0, .int .i64 y1, .slice A' y2.length c'] 35 (0, 0))) := ⟨by rw [hw8, e21]; exact blk_new _ _⟩
                  have HOV : Aside0 (Kd.R k43 43 w8 w6.heap.size (fun _ => True) (.slice Av (y2.length + 20) cv) (y2 ++ mkV 20)) := ⟨by rw [hw8]; exact Kd.R_alloc HO.out _⟩
                  have HB10 : Aside0 (Below w.heap.size w w8) := ⟨by rw [hw8]; exact below_alloc HB9.out _⟩
                  have HX10 : Aside0 (Below w5.heap.size w5 w8) := ⟨by rw [hw8]; exact below_alloc HX9.out _⟩
                  have G21 : Aside0 (w5.heap.size ≤ g21) := ⟨by rw [e21]; exact HX9.out.size⟩
                  have G21w : Aside0 (w.heap.size ≤ g21) := ⟨by rw [e21]; exact HB9.out.size⟩
                  rw [← hw8, ← e21]
                  clear hw8 e21 HO HB6 HB9 HX9 hx0 hx1 hx2
                  have hx2 := HX2.out _ HB10.out
                  have c2 : w8.cell? ⟨g21, 2, none⟩ = some (.slice A' y2.length c') := blk_cell K21.out 2
                  have cz : ∀ j, w8.frozen? ⟨g21, j, none⟩ = false := fun j => blk_frozen K21.out j
                  have cl := blk_lt K21.out
                  have q4 : (y2.length : Int) ≤ (y2.length : Int) + 20 := by omega
                  have hvl := HVL.out
                  go_upto_region 29 with (fail)
                  obtain ⟨w9, hw9⟩ : ∃ w9, w9 = w8.setCell ⟨g21, 2, none⟩ (.slice Av y2.length (y2.length + 20)) := ⟨_, rfl⟩
                  rw [← hw9]
                  have HCW : Aside0 (Kd.C k43 w9 Av (y2.length + 20) (y2 ++ mkV 20)) := ⟨by rw [hw9]; have h := (Kd.R_reads' (Kd.R_far (p := ⟨g21, 2, none⟩) (Kd.R_far1 HOV.out rfl (Kd.R_ne HOV.out K21.out (by decide))) (fun _ hk => hk.2) (.slice Av y2.length (y2.length + 20)))).2.2; rwa [List.length_append, mkV_len] at h⟩
                  replace K21 : Aside0 (w9.heap[g21]? = some (.cells #[.string y0, .int .i64 y1, .slice Av y2.length (y2.length + 20)] 35 (0, 0))) := ⟨by rw [hw9]; exact blk_put K21.out 2 _ rfl⟩
                  have HB11 : Aside0 (Below w.heap.size w w9) := ⟨by rw [hw9]; exact Below.setCell HB10.out G21w.out _⟩
                  have HX11 : Aside0 (Below w5.heap.size w5 w9) := ⟨by rw [hw9]; exact Below.setCell HX10.out G21.out _⟩
                  clear hw9 HOV HB10 HX10 hx2 c2 cz cl hcc
                  have K8b := Aside0.mk (blk_below K8.out HX11.out)
                  have K3b := Aside0.mk (blk_below K3.out HX11.out)
                  have HCP := Aside0.mk (prefA (Kd.C_below HC9.out HX11.out))
                  have HCX := Aside0.mk (prefV HCW.out)
                  have b0 : w9.cell? ⟨g8, 0, none⟩ = some (.string name) := blk_cell K8b.out 0
                  have b1 : w9.cell? ⟨g8, 1, none⟩ = some (.slice A9 at'.length (at'.length + 20)) := blk_cell K8b.out 1
                  have d0 : w9.cell? ⟨g21, 0, none⟩ = some (.string y0) := blk_cell K21.out 0
                  have d1 : w9.cell? ⟨g21, 1, none⟩ = some (.int .i64 y1) := blk_cell K21.out 1
                  have d2 : w9.cell? ⟨g21, 2, none⟩ = some (.slice Av y2.length (y2.length + 20)) := blk_cell K21.out 2
                  obtain ⟨R1, R2, hrw⟩ : ∃ R1 R2, rowS name at' y0 y1 y2 = (R1, R2) := ⟨_, _, rfl⟩
                  have HRX : Aside0 (csv_Row.f name at' y0 y1 y2 = some (R1, R2)) := ⟨by rw [← hrw]; exact HRi.out.1⟩
                  have HKR : Aside0 (rowS name at' y0 y1 y2 = (R1, R2)) := ⟨hrw⟩
                  have HWV : Aside0 (∀ v ∈ y2, wfW v) := ⟨HRi.out.2.1⟩
                  have HRL : Aside0 (R1.length ≤ 1048577) := ⟨by have h := HRi.out.2.2; rw [show rowS name at' _ _ _ = _ from hrw] at h; exact h⟩
                  clear hrw HRi
                  go_upto_region 30 with (go_at_call 14; (refine (csv_Row.calls name A9 (at'.length + 20) at' y0 y1 Av (y2.length + 20) y2 R1 R2 w9 HCP.out (by omega) HCX.out (by omega) ⟨HLG.out.below HB11.out⟩ HRX.out).mono ?_); rintro e w10 ⟨v22, rfl, ho, hb⟩; have HOR := Aside0.mk (Kd.R_lower ho (below_size HB11.out)); have HB12 := Aside0.mk (below_step HB11.out hb); have HX12 := Aside0.mk (below_step HX11.out hb); replace HCW := Aside0.mk (Kd.C_below HCW.out hb); replace K21 := Aside0.mk (blk_below K21.out hb); replace K3b := Aside0.mk (blk_below K3b.out hb); clear ho hb b0 b1 d0 d1 d2 HCP HCX K8b)
                  obtain ⟨Aa, ca, ea⟩ := Kd.R_slice HOR.out
                  subst ea
                  have c30 : w10.cell? ⟨g3, 0, none⟩ = some (.string name) := blk_cell K3b.out 0
                  have c31 : w10.cell? ⟨g3, 1, none⟩ = some (.slice A0 at'.length c0) := blk_cell K3b.out 1
                  have hx0 := HX0.out _ HB12.out
                  have hx1 := HX1.out _ HB12.out
                  have hx2 := HX2.out _ HB12.out
                  have HSX : Aside0 (Below w10.heap.size w10 w10) := ⟨Below.refl _ _⟩
                  go_cut [24, 25] (fun v24 v25 wd => ∃ (Ab : Option Addr) (cb : Nat), v24 = .slice Ab R1.length cb ∧ v25 = .int .i64 R2 ∧ Aside0 (Kd.R Kd.string 9 wd w.heap.size (fun _ => True) (.slice Ab R1.length cb) R1) ∧ Aside0 (Below w10.heap.size w10 wd))
                  case first =>
                    go_region_held3 (fun W' => W'.cell? ⟨g3, 0, none⟩ = some (.string name) ∧ W'.cell? ⟨g3, 1, none⟩ = some (.slice A0 at'.length c0) ∧ W'.cell? (ad.add (i * 3)) = some (.string y0) ∧ W'.cell? ⟨(ad.add (i * 3)).block, (ad.add (i * 3)).off + 1, none⟩ = some (.int .i64 y1) ∧ W'.cell? ⟨(ad.add (i * 3)).block, (ad.add (i * 3)).off + 2, none⟩ = some (.slice A' y2.length c') ∧ Aside0 (Below w10.heap.size w10 W')) (refine ⟨evB c30 ?_, evB c31 ?_, evB hx0 ?_, evB hx1 ?_, evB hx2 ?_, ?_⟩ <;> (repeat (first | assumption | exact HSX | exact And.right (And.right (And.right (And.right (And.right (by assumption))))) | refine evD ?_ | refine evN ?_ | refine evC (by assumption) ?_ | refine evA ?_ | refine evS ?_))) ((go_at_call 15; (refine (ref_Row name A0 c0 at' y0 y1 A' c' y2 R1 R2 _ (Kd.C_below HR0.out (below_step HB12.out (Aside0.out (by (repeat (first | assumption | exact HSX | exact And.right (And.right (And.right (And.right (And.right (by assumption))))) | refine evD ?_ | refine evN ?_ | refine evC (by assumption) ?_ | refine evA ?_ | refine evS ?_)))))) HC0.out (HCV.out _ (below_step HB12.out (Aside0.out (by (repeat (first | assumption | exact HSX | exact And.right (And.right (And.right (And.right (And.right (by assumption))))) | refine evD ?_ | refine evN ?_ | refine evC (by assumption) ?_ | refine evA ?_ | refine evS ?_)))))) HLV.out (Nat.le_trans HN0.out (by decide)) HU.out HWV.out HKR.out).mono ?_; rintro e w11 ⟨v2, rfl, ho, hb⟩; obtain ⟨Ab, cb, eb⟩ := Kd.R_slice ho; subst eb; have HO8 := Aside0.mk (Kd.R_lower ho (Nat.le_trans (below_size HB12.out) (below_size (Aside0.out (by (repeat (first | assumption | exact HSX | exact And.right (And.right (And.right (And.right (And.right (by assumption))))) | refine evD ?_ | refine evN ?_ | refine evC (by assumption) ?_ | refine evA ?_ | refine evS ?_))))))); clear ho)))
                    all_goals go_wp2
                    all_goals go_meet
                    all_goals (exact ⟨_, _, rfl, rfl, ⟨by first | exact HO8.out | exact Kd.R_drew HO8.out⟩, And.right (And.right (And.right (And.right (And.right (by assumption)))))⟩)
                  case rest =>
                    obtain ⟨Ab, cb, rfl, rfl, HO2, HX14⟩ := hcut
                    have HB13 := Aside0.mk (below_step HB12.out HX14.out)
                    have HX13 := Aside0.mk (below_step HX12.out HX14.out)
                    replace HCW := Aside0.mk (Kd.C_below HCW.out HX14.out)
                    replace K21 := Aside0.mk (blk_below K21.out HX14.out)
                    replace HOR := Aside0.mk (Kd.R_below HOR.out HX14.out)
                    clear c30 c31 hx0 hx1 hx2 HSX K3b HX12 HB12 HX14
                    have d0 : wc.cell? ⟨g21, 0, none⟩ = some (.string y0) := blk_cell K21.out 0
                    have d1 : wc.cell? ⟨g21, 1, none⟩ = some (.int .i64 y1) := blk_cell K21.out 1
                    have d2 : wc.cell? ⟨g21, 2, none⟩ = some (.slice Av y2.length (y2.length + 20)) := blk_cell K21.out 2
                    have hx0 := HX0.out _ HB13.out
                    have hx1 := HX1.out _ HB13.out
                    have hx2 := HX2.out _ HB13.out
                    have HNA := Aside0.mk (Kd.R_reads' HOR.out)
                    have HNB := Aside0.mk (Kd.R_reads' HO2.out)
                    have HCX := Aside0.mk (prefV HCW.out)
                    obtain ⟨kQ, hkQ⟩ := HSR.out R1 HRL.out
                    obtain ⟨kS, hkS⟩ := HSE.out y0 y0 y1 y2 HVL.out rfl
                    have HKQ := Aside0.mk hkQ
                    have HKS := Aside0.mk hkS
                    clear hkQ hkS
                    have hne : (R2 != R2) = false := bne_self_eq_false _
                    have HSX : Aside0 (Below wc.heap.size wc wc) := ⟨Below.refl _ _⟩
                    go_upto_region 31 with (fail)
                    go_cut [175] (fun v175 wd => v175 = .bool false ∧ Aside0 (Below wc.heap.size wc wd))
                    case first =>
                      go_region_held3 (fun W' => W'.cell? ⟨g21, 0, none⟩ = some (.string y0) ∧ W'.cell? ⟨g21, 1, none⟩ = some (.int .i64 y1) ∧ W'.cell? ⟨g21, 2, none⟩ = some (.slice Av y2.length (y2.length + 20)) ∧ W'.cell? (ad.add (i * 3)) = some (.string y0) ∧ W'.cell? ⟨(ad.add (i * 3)).block, (ad.add (i * 3)).off + 1, none⟩ = some (.int .i64 y1) ∧ W'.cell? ⟨(ad.add (i * 3)).block, (ad.add (i * 3)).off + 2, none⟩ = some (.slice A' y2.length c') ∧ Aside0 (Below wc.heap.size wc W')) (refine ⟨evB d0 ?_, evB d1 ?_, evB d2 ?_, evB hx0 ?_, evB hx1 ?_, evB hx2 ?_, ?_⟩ <;> (repeat (first | assumption | exact HSX | exact And.right (And.right (And.right (And.right (And.right (And.right (by assumption)))))) | refine evD ?_ | refine evN ?_ | refine evC (by assumption) ?_ | refine evA ?_ | refine evS ?_))) (first | (go_at_call 16; (refine (refrainlaw4_sameRow.calls kQ Aa ca R1 Ab cb R1 true _ (Kd.C_below HNA.out.2.2 (Aside0.out (by (repeat (first | assumption | exact HSX | exact And.right (And.right (And.right (And.right (And.right (And.right (by assumption)))))) | refine evD ?_ | refine evN ?_ | refine evC (by assumption) ?_ | refine evA ?_ | refine evS ?_))))) HNA.out.2.1 (Kd.C_below HNB.out.2.2 (Aside0.out (by (repeat (first | assumption | exact HSX | exact And.right (And.right (And.right (And.right (And.right (And.right (by assumption)))))) | refine evD ?_ | refine evN ?_ | refine evC (by assumption) ?_ | refine evA ?_ | refine evS ?_))))) HNB.out.2.1 HKQ.out).mono ?_; rintro e w11 ⟨rfl, ⟨nd, rfl⟩⟩)) | (go_at_call 12; (refine (refrainlaw4_sameEvent.calls kS y0 y1 Av (y2.length + 20) y2 y0 y1 A' c' y2 true _ (Kd.C_below HCX.out (Aside0.out (by (repeat (first | assumption | exact HSX | exact And.right (And.right (And.right (And.right (And.right (And.right (by assumption)))))) | refine evD ?_ | refine evN ?_ | refine evC (by assumption) ?_ | refine evA ?_ | refine evS ?_))))) (by omega) (HCV.out _ (below_step HB13.out (Aside0.out (by (repeat (first | assumption | exact HSX | exact And.right (And.right (And.right (And.right (And.right (And.right (by assumption)))))) | refine evD ?_ | refine evN ?_ | refine evC (by assumption) ?_ | refine evA ?_ | refine evS ?_)))))) HLV.out HKS.out).mono ?_; rintro e w12 ⟨rfl, hb⟩)))
                      all_goals go_wp2
                      all_goals go_meet
                      all_goals (exact ⟨rfl, And.right (And.right (And.right (And.right (And.right (And.right (by assumption))))))⟩)
                    case rest =>
                      obtain ⟨rfl, HX15⟩ := hcut
                      have HB15 := Aside0.mk (below_step HB13.out HX15.out)
                      have HX16 := Aside0.mk (below_step HX13.out HX15.out)
                      replace HCW := Aside0.mk (Kd.C_below HCW.out HX15.out)
                      clear d0 d1 d2 hx0 hx1 hx2 HSX HNA HNB HCX HX13 HB13 HX15 K21 HOR HO2 hne
                      go_wp2
                      go_loopg [26] 20 (fun gk v26 wx => ∃ k : Nat, v26 = .int .i64 k ∧ k + gk = 20 ∧ wx = wc)
                      case atStart => exact ⟨0, rfl, by omega, rfl⟩
                      case round =>
                        obtain ⟨k, rfl, hkg, rfl⟩ := hrel
                        by_cases hk : k < 20
                        · have hd2 : decide ((k : Int) < 20) = true := decide_eq_true (by omega)
                          have hvl := HVL.out
                          have hx2 := HX2.out _ HB15.out
                          have p5 : 0 ≤ (y2.length : Int) + (k : Int) := by omega
                          have q5 : (y2.length : Int) + (k : Int) < ((y2.length + 20 : Nat) : Int) := by omega
                          obtain ⟨av, ev, hz0, hz1, hz2, hz3⟩ := at_T43 HCW.out ((y2.length : Int) + (k : Int)) p5 q5
                          cases ev
                          rw [show ((y2.length : Int) + (k : Int)).toNat = y2.length + k from by omega, rd_mkV y2 k hk] at hz0
                          clear hz1 hz2 hz3
                          have q6 : (y2.length : Int) + (k : Int) < (y2.length : Int) + 20 := by omega
                          have hne : ((77 + (k : Int)) != (77 + (k : Int))) = false := bne_self_eq_false _
                          go_wp2
                          go_roundg (20 - (k + 1))
                          case measure => omega
                          case rel => exact ⟨k + 1, by first | rfl | go_num, by omega, rfl⟩
                        · have hd2 : decide ((k : Int) < 20) = false := decide_eq_false (by omega)
                          go_wp2
                          go_roundg (es.length - (i + 1))
                          case measure => omega
                          case rel => exact ⟨i + 1, by first | rfl | go_num, by omega, HX16⟩
            · have hd : decide ((i : Int) < (es.length : Int)) = false := decide_eq_false (by omega)
              have HB5 := Aside0.mk (below_step HB.out HX.out)
              have K3f := Aside0.mk (blk_below K3.out HX.out)
              have HC9f := Aside0.mk (Kd.C_below HC9.out HX.out)
              have HC0f := Aside0.mk (Kd.C_below HR0.out HB5.out)
              go_wp2
              clear hi hig hd
              obtain ⟨w13, hw13⟩ : ∃ w13 : World, w13 = wr := ⟨_, rfl⟩
              subst hw13
              have hn0 := HN0.out
              go_loopg [27] at'.length (fun gk v27 wx => ∃ j : Nat, v27 = .int .i64 j ∧ j + gk = at'.length ∧ Aside0 (Below w13.heap.size w13 wx))
              case atStart => exact ⟨0, rfl, by omega, ⟨Below.refl _ _⟩⟩
              case round =>
                obtain ⟨j, rfl, hjg, HY⟩ := hrel
                have a31 : wr.cell? ⟨g3, 1, none⟩ = some (.slice A0 at'.length c0) := blk_cell (blk_below K3f.out HY.out) 1
                by_cases hj : j < at'.length
                · have hd : decide ((j : Int) < (at'.length : Int)) = true := decide_eq_true (by omega)
                  have p1 : 0 ≤ (j : Int) := by omega
                  have q1 : (j : Int) < (at'.length : Int) := by omega
                  have q2 : (j : Int) < ((at'.length + 20 : Nat) : Int) := by omega
                  obtain ⟨a9, e9, hu0, hu1⟩ := at_T30 (Kd.C_below HC9f.out HY.out) (j : Int) p1 q2
                  cases e9
                  obtain ⟨aa, ea, hv0, hv1⟩ := at_T30 (Kd.C_below HC0f.out HY.out) (j : Int) p1 q1
                  cases ea
                  rw [rd_prA at' j hj] at hu0 hu1
                  rw [Int.toNat_natCast] at hu0 hu1 hv0 hv1
                  obtain ⟨⟨aN, aK⟩, haN⟩ : ∃ x : S30, x = rd_T30 at' (j : Int) := ⟨_, rfl⟩
                  rw [← haN] at hu0 hu1 hv0 hv1
                  have q3 : (j : Int) < (at'.length : Int) + 20 := by omega
                  have n1 : (aN.toList == aN.toList) = true := beq_self_eq_true _
                  have n2 : (aK == aK) = true := beq_self_eq_true _
                  clear haN q2
                  go_upto_region 41 with (fail)
                  go_quiet (fail)
                  go_wp2
                  go_roundg (at'.length - (j + 1))
                  case measure => omega
                  case rel => exact ⟨j + 1, by first | rfl | go_num, by omega, ⟨by first | exact pw_below_drewN HY.out _ | exact HY.out⟩⟩
                · have hd : decide ((j : Int) < (at'.length : Int)) = false := decide_eq_false (by omega)
                  have HY0 := HY
                  clear HY
                  go_wp2
                  clear hj hjg hd a31
                  go_loopg [28] 20 (fun gk v28 wx => ∃ k : Nat, v28 = .int .i64 k ∧ k + gk = 20 ∧ Aside0 (Below w13.heap.size w13 wx))
                  case atStart => exact ⟨0, rfl, by omega, HY0⟩
                  case round =>
                    clear HY0
                    obtain ⟨k, rfl, hkg, HY⟩ := hrel
                    by_cases hk : k < 20
                    · have hd : decide ((k : Int) < 20) = true := decide_eq_true (by omega)
                      have a31 : wr.cell? ⟨g3, 1, none⟩ = some (.slice A0 at'.length c0) := blk_cell (blk_below K3f.out HY.out) 1
                      have p5 : 0 ≤ (at'.length : Int) + (k : Int) := by omega
                      have q5 : (at'.length : Int) + (k : Int) < ((at'.length + 20 : Nat) : Int) := by omega
                      obtain ⟨a9, e9, hu0, hu1⟩ := at_T30 (Kd.C_below HC9f.out HY.out) ((at'.length : Int) + (k : Int)) p5 q5
                      cases e9
                      rw [show ((at'.length : Int) + (k : Int)).toNat = at'.length + k from by omega, rd_mkA at' k hk] at hu0
                      clear hu1
                      have q6 : (at'.length : Int) + (k : Int) < (at'.length : Int) + 20 := by omega
                      have hsum : IntKind.i64.wrap ((at'.length : Int) + (k : Int)) = (at'.length : Int) + (k : Int) := IntWalk.i64_in _ (by omega)
                      have htn : ((at'.length : Int) + (k : Int)).toNat = at'.length + k := by omega
                      have n1 : ((wordB k).toList == (wordB k).toList) = true := beq_self_eq_true _
                      have n2 : ((wordB k).toList != (wordB k).toList) = false := bne_self_eq_false _
                      have HSX : Aside0 (Below wr.heap.size wr wr) := ⟨Below.refl _ _⟩
                      clear q5
                      go_upto_region 46 with (fail)
                      go_cut [227] (fun v227 wd => v227 = .bool false ∧ Aside0 (Below wr.heap.size wr wd))
                      case first =>
                        go_region_held3 (fun W' => W'.cell? ⟨g3, 1, none⟩ = some (.slice A0 at'.length c0) ∧ W'.cell? (a9.add ((at'.length + k) * 2)) = some (.string (wordB k)) ∧ Aside0 (Below wr.heap.size wr W')) (refine ⟨evB a31 ?_, evB hu0 ?_, ?_⟩ <;> (repeat (first | assumption | exact HSX | exact And.right (And.right (by assumption)) | refine evD ?_ | refine evN ?_ | refine evC (by assumption) ?_ | refine evA ?_ | refine evS ?_))) ((go_at_call 8; (refine (refrainlaw4_word.calls (k : Int) (wordB k) _ rfl).mono ?_; rintro e w14 ⟨rfl, hb⟩)))
                        all_goals go_wp2
                        all_goals go_meet
                        all_goals (exact ⟨rfl, And.right (And.right (by assumption))⟩)
                      case rest =>
                        obtain ⟨rfl, HY2⟩ := hcut
                        have HY3 := Aside0.mk (below_step HY.out HY2.out)
                        go_wp2
                        go_roundg (20 - (k + 1))
                        case measure => omega
                        case rel => exact ⟨k + 1, by first | rfl | go_num, by omega, HY3⟩
                    · have hd : decide ((k : Int) < 20) = false := decide_eq_false (by omega)
                      go_wp2
                      go_ret
                      exact ⟨rfl, below_step HB5.out HY.out⟩
open Classical in
/-- What it answers, where csv's answers are the document's. -/
noncomputable def refrainlaw4_CsvEvents.f (_k : Nat) (a0_0 : ByteArray) (l0_1 : List S30) (l1 : List (List ByteArray)) (l2 : List S35) : Option Bool :=
  if refrainlaw4_begun.f = some true ∧ l0_1.length ≤ 1048576 ∧ l1.length ≤ 1048576 ∧ l2.length ≤ 1048576 ∧ (∀ r ∈ l1, r.length ≤ 1048576) ∧ (∀ e ∈ l2, e.f2.length ≤ 1048576) ∧ (∀ r ∈ l1, EvOk a0_0 l0_1 r) ∧ (∀ e ∈ l2, RwOk a0_0 l0_1 e) ∧ SameE ∧ SameR ∧ ShowS then some true else none
theorem refrainlaw4_CsvEvents.calls (k : Nat) (a0_0 : ByteArray) (A0_1 : Option Addr) (c0_1 : Nat) (l0_1 : List S30) (A1 : Option Addr) (c1 : Nat) (l1 : List (List ByteArray)) (A2 : Option Addr) (c2 : Nat) (l2 : List S35) (r : Bool) (w : World) (hr0_1 : Kd.C k30 w A0_1 l0_1.length l0_1) (hc0_1 : l0_1.length ≤ c0_1) (hr1 : Kd.C (Kd.slice 9 Kd.string) w A1 l1.length l1) (hc1 : l1.length ≤ c1) (hr2 : Kd.C k35 w A2 l2.length l2) (hc2 : l2.length ≤ c2) (HL_LErr : Aside0 (LErr w)) (HL_LG0 : Aside0 (LG0 w)) (HL_LMax : Aside0 (LMax w)) (HL_LSyn : Aside0 (LSyn w)) (h : refrainlaw4_CsvEvents.f k a0_0 l0_1 l1 l2 = some r) :
    Calls Tryz.prog 3 #[.agg #[.string a0_0, .slice A0_1 l0_1.length c0_1], .slice A1 l1.length c1, .slice A2 l2.length c2] w fun e w' => e = .returned (.bool r) ∧ Below w.heap.size w w' := by
  unfold refrainlaw4_CsvEvents.f at h
  split at h
  · rename_i hb
    obtain rfl := Option.some.inj h
    obtain ⟨b0, b1, b2, b3, b4, b5, b6, b7, b8, b9, b10⟩ := hb
    exact law4_CsvEvents a0_0 A0_1 c0_1 l0_1 A1 c1 l1 A2 c2 l2 w hr0_1 hc0_1 hr1 hc1 hr2 hc2 HL_LErr HL_LG0 HL_LMax HL_LSyn b0 b1 b2 b3 b4 b5 b6 b7 b8 b9 b10
  · cases h
end Go.Proofs.YtpkbhfdfgapmlaaGreatDoor.Pr
end

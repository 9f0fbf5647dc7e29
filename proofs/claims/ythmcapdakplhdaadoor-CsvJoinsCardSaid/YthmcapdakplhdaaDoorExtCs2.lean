import Derived.Test.YthmcapdakplhdaaDoorExtW1
import Derived.Test.YthmcapdakplhdaaDoorExtCs1
namespace Go.Proofs.YthmcapdakplhdaaDoor.Pr
open Go.RowKit Go.Proofs.YthmcapdakplhdaaDoorW.PrintWords Go.Proofs.YthmcapdakplhdaaDoorW.PrintLast Go.Proofs.YthmcapdakplhdaaDoorW.PrintMore
set_option maxRecDepth 100000
set_option linter.unusedVariables false
set_option linter.unusedSimpArgs false
attribute [local go_sem high] Go.Proofs.YthmcapdakplhdaaDoor.isSome_setCell

/-- The cells of a row, written behind what stands; nothing, if that is too long. -/
def cellsJ : List ByteArray → Bool → List UInt8 → Option (List UInt8)
  | [], _, acc => some acc
  | s :: t, first, acc =>
    if 65536 < s.size then none
    else if 65536 < ((if first then acc else acc ++ [44]) ++ CsvP.wr s.data.toList).length then none
    else cellsJ t false ((if first then acc else acc ++ [44]) ++ CsvP.wr s.data.toList)
def rowsJ : List (List ByteArray) → List UInt8 → ByteArray × Int
  | [], acc => if 65536 < acc.length then (⟨#[]⟩, 2) else (⟨acc.toArray⟩, 0)
  | r :: rs, acc => match cellsJ r true acc with | none => (⟨#[]⟩, 2) | some a => rowsJ rs (a ++ [13, 10])
/-- What csv.Join answers. -/
def joinB (rows : List (List ByteArray)) : ByteArray × Int := if rows.any (·.isEmpty) then (⟨#[]⟩, 41) else rowsJ rows []
def csv_Join.f (l : List (List ByteArray)) : Option (ByteArray × Int) :=
  if l.length ≤ 140737488355328 ∧ ∀ r ∈ l, r.length ≤ 140737488355328 then some (joinB l) else none
/-- What stands behind the cells of the row. -/
def restJ (rs : List (List ByteArray)) : Option (List UInt8) → ByteArray × Int
  | none => (⟨#[]⟩, 2)
  | some a => rowsJ rs (a ++ [13, 10])
theorem rowsJ_cons (r : List ByteArray) (rs : List (List ByteArray)) (acc : List UInt8) : rowsJ (r :: rs) acc = restJ rs (cellsJ r true acc) := by
  rw [rowsJ]
  cases cellsJ r true acc <;> rfl
theorem drop_rd {l : List (List ByteArray)} {i : Nat} (h : i < l.length) : l.drop i = rd_L1 l (i : Int) :: l.drop (i + 1) := by
  rw [List.drop_eq_getElem_cons h]
  congr 1
  show _ = l.getD _ _
  rw [Int.toNat_natCast, List.getD_eq_getElem?_getD, List.getElem?_eq_getElem h]
  rfl
theorem drop_rs {l : List ByteArray} {i : Nat} (h : i < l.length) : l.drop i = rdOf ByteArray.empty l (i : Int) :: l.drop (i + 1) := by
  rw [List.drop_eq_getElem_cons h]
  congr 1
  show _ = l.getD _ _
  rw [Int.toNat_natCast, List.getD_eq_getElem?_getD, List.getElem?_eq_getElem h]
  rfl
theorem builder_below {T e : TypeId} {B b : Nat} {bs : List Value} {w w' : World} (h : Lib.IsBuilderF T e B b bs w) (hb : Below w.heap.size w w') : Lib.IsBuilderF T e B b bs w' := builder_keep h (fun k o _ hk => blk_below hk hb)
theorem mem_rd {l : List (List ByteArray)} {i : Nat} (h : i < l.length) : rd_L1 l (i : Int) ∈ l := by
  show l.getD _ _ ∈ l
  rw [Int.toNat_natCast, List.getD_eq_getElem?_getD, List.getElem?_eq_getElem h]
  exact List.getElem_mem _
set_option maxHeartbeats 16000000 in
theorem csv_Join.calls (A0 : Option Addr) (c0 : Nat) (l0 : List (List ByteArray)) (R1 : ByteArray) (R2 : Int) (w : World) (hr0 : Kd.C (Kd.slice 9 Kd.string) w A0 l0.length l0) (hc0 : l0.length ≤ c0) (hL : Aside0 (LMax w)) (h : csv_Join.f l0 = some (R1, R2)) :
    Calls Tryd.prog 18 #[.slice A0 l0.length c0] w fun e w' => e = .returned (.tuple #[.string R1, .int .i64 R2]) ∧ Below w.heap.size w w' := by
  unfold csv_Join.f at h
  by_cases hbd : l0.length ≤ 140737488355328 ∧ ∀ r ∈ l0, r.length ≤ 140737488355328
  case neg => rw [if_neg hbd] at h; cases h
  rw [if_pos hbd] at h
  have h := Option.some.inj h
  have HN := Aside0.mk hbd.1
  have HNR := Aside0.mk hbd.2
  have HJ := Aside0.mk h
  have HR0 := Aside0.mk hr0
  clear h hbd hr0
  go_enter Tryd.func18, Tryd.ntmps18
  go_wp2
  go_loopg [13] l0.length (fun g v wx => ∃ i : Nat, v = .int .i64 i ∧ i + g = l0.length ∧ Aside0 ((l0.take i).any (·.isEmpty) = false) ∧ wx = w)
  case atStart => exact ⟨0, rfl, by omega, ⟨by simp⟩, rfl⟩
  case round =>
    obtain ⟨i, rfl, hig, HE, rfl⟩ := hrel
    by_cases hlt : i < l0.length
    · as_aux_lemma =>
      have hd : decide ((i : Int) < (l0.length : Int)) = true := decide_eq_true (by omega)
      have p1 : 0 ≤ (i : Int) := by omega
      have q1 : (i : Int) < (l0.length : Int) := by omega
      obtain ⟨ad1, A1, cap1, e1, hx1, hl1, hC1⟩ := at_L1 HR0.out (i : Int) p1 q1
      cases e1
      rw [Int.toNat_natCast] at hx1
      have htk : (l0.take (i + 1)).any (·.isEmpty) = (rd_L1 l0 (i : Int)).isEmpty := by
        rw [List.take_add_one, List.any_append, HE.out, Bool.false_or, List.getElem?_eq_getElem hlt]
        have : rd_L1 l0 (i : Int) = l0[i] := by
          show l0.getD _ _ = _
          rw [Int.toNat_natCast, List.getD_eq_getElem?_getD, List.getElem?_eq_getElem hlt]; rfl
        rw [this]; simp
      have HTK := Aside0.mk htk
      replace p1 := eq_true p1
      replace q1 := eq_true q1
      generalize hX : rd_L1 l0 (i : Int) = X at *
      clear hX hC1 htk
      by_cases hz : X.length = 0
      · have hzb : ((X.length : Int) == 0) = true := beq_iff_eq.2 (by omega)
        have hxe : X = [] := List.eq_nil_of_length_eq_zero hz
        have HX := Aside0.mk hxe
        clear hxe hz
        go_wp2
        go_ret2
        have hJ := HJ.out
        have hany : l0.any (·.isEmpty) = true := by
          rw [← List.take_append_drop (i + 1) l0, List.any_append, HTK.out, HX.out]; rfl
        rw [joinB, if_pos hany] at hJ
        obtain ⟨rfl, rfl⟩ := Prod.mk.inj hJ
        exact ⟨rfl, Below.refl _ _⟩
      · have hzb : ((X.length : Int) == 0) = false := beq_eq_false_iff_ne.2 (by omega)
        have HX := Aside0.mk hz
        clear hz
        have hb := HN.out
        go_wp2
        cases gk with
        | zero => omega
        | succ g =>
          go_roundg g
          case measure => omega
          case rel => exact ⟨i + 1, rfl, by omega, ⟨by rw [HTK.out]; cases X with | nil => exact absurd rfl HX.out | cons _ _ => rfl⟩, rfl⟩
    · have hie : i = l0.length := by omega
      have hd : decide ((i : Int) < (l0.length : Int)) = false := decide_eq_false (by omega)
      have hne : l0.any (·.isEmpty) = false := by
        have := HE.out
        rwa [hie, List.take_length] at this
      have HW : Aside0 (rowsJ l0 [] = (R1, R2)) := ⟨by have := HJ.out; rwa [joinB, if_neg (by rw [hne]; decide)] at this⟩
      have HNE : Aside0 (∀ r ∈ l0, r ≠ []) := ⟨by
        intro r hr e
        have := List.any_eq_false.1 hne r hr
        rw [e] at this
        exact this rfl⟩
      clear hne HJ HE hig hlt
      go_wp2
      obtain ⟨w0, rfl⟩ : ∃ w0 : World, w0 = wr := ⟨_, rfl⟩
      have hfresh := Lib.IsBuilderF.of (Lib.fresh_isBuilder 81 5 w0)
      have HB1 := Aside0.mk (below_alloc (Below.refl w0.heap.size w0) (.cells #[.pointer none, .slice none 0 0] 81))
      have hsz : w0.heap.size < (w0.alloc (.cells #[.pointer none, .slice none 0 0] 81)).heap.size := by simp
      have HF := Aside0.mk hfresh
      have HSZ := Aside0.mk hsz
      clear hfresh hsz hd hie
      generalize w0.alloc (.cells #[.pointer none, .slice none 0 0] 81) = w1 at *
      go_loopg [23] l0.length (fun g v wx => ∃ (j : Nat) (acc : List UInt8), v = .int .i64 j ∧ j + g = l0.length ∧ acc.length ≤ 65538 ∧ Aside0 (rowsJ (l0.drop j) acc = (R1, R2)) ∧ Aside0 (Lib.IsBuilderF 81 5 w0.heap.size w0.heap.size (Lib.byteCells acc) wx) ∧ Aside0 (w0.heap.size < wx.heap.size) ∧ Aside0 (Below w0.heap.size w0 wx))
      case atStart => exact ⟨0, [], rfl, by omega, by simp, HW, HF, HSZ, HB1⟩
      case round =>
        clear HW HF HSZ HB1
        obtain ⟨j, acc, rfl, hjg, hacc, HW, HBd, HS, HB⟩ := hrel
        have hNb := HN.out
        by_cases hlt : j < l0.length
        · obtain ⟨wo, rfl⟩ : ∃ wo : World, wo = wr := ⟨_, rfl⟩
          have hd : decide ((j : Int) < (l0.length : Int)) = true := decide_eq_true (by omega)
          have p1 : 0 ≤ (j : Int) := by omega
          have q1 : (j : Int) < (l0.length : Int) := by omega
          have hXN := HNR.out _ (mem_rd hlt)
          have hXE := HNE.out _ (mem_rd hlt)
          have hdr := drop_rd hlt
          obtain ⟨ad1, A1, cap1, e1, hx0, hl1, hC1⟩ := at_L1 HR0.out (j : Int) p1 q1
          cases e1
          rw [Int.toNat_natCast] at hx0
          have hx1 := pw_cell_below HB.out hx0
          clear hx0
          generalize rd_L1 l0 (j : Int) = X at *
          have hX0 : 0 < X.length := List.length_pos_iff.2 hXE
          have HC1 := Aside0.mk hC1
          have HXN := Aside0.mk hXN
          have hW := HW.out
          rw [hdr, rowsJ_cons] at hW
          have HW2 : Aside0 (restJ (l0.drop (j + 1)) (cellsJ (X.drop 0) (decide (0 = 0)) acc) = (R1, R2)) := ⟨hW⟩
          replace p1 := eq_true p1
          replace q1 := eq_true q1
          clear hdr hW HW hC1 hXN hXE
          go_wp2
          clear hx1 p1 q1 hd
          go_loopg [29] X.length (fun g v wx => ∃ (i : Nat) (acc : List UInt8), v = .int .i64 i ∧ i + g = X.length ∧ acc.length ≤ 65538 ∧ (0 < i → acc.length ≤ 65536) ∧ Aside0 (restJ (l0.drop (j + 1)) (cellsJ (X.drop i) (decide (i = 0)) acc) = (R1, R2)) ∧ Aside0 (Lib.IsBuilderF 81 5 w0.heap.size w0.heap.size (Lib.byteCells acc) wx) ∧ Aside0 (w0.heap.size < wx.heap.size) ∧ Aside0 (Below w0.heap.size w0 wx))
          case atStart => exact ⟨0, acc, rfl, by omega, hacc, fun h => absurd h (by omega), HW2, HBd, HS, HB⟩
          case round =>
            clear HW2 HBd HS HB hacc
            obtain ⟨i, acc, rfl, hig, hacc, hacc2, HW, HBd, HS, HB⟩ := hrel
            have hXb := HXN.out
            have hlen := Lib.byteCells_length acc
            by_cases hli : i < X.length
            · as_aux_lemma =>
              have hd : decide ((i : Int) < (X.length : Int)) = true := decide_eq_true (by omega)
              have p1 : 0 ≤ (i : Int) := by omega
              have q1 : (i : Int) < (X.length : Int) := by omega
              obtain ⟨ad2, e2, hx2⟩ := Kd.at_string (Kd.C_below HC1.out HB.out) (i : Int) p1 q1
              cases e2
              rw [Int.toNat_natCast] at hx2
              have hW := HW.out
              rw [drop_rs hli, cellsJ] at hW
              generalize rdOf ByteArray.empty X (i : Int) = s at *
              replace p1 := eq_true p1
              replace q1 := eq_true q1
              have HIG := Aside0.mk hig
              have HLI := Aside0.mk hli
              clear HW
              -- the comma
              obtain ⟨a1, ha1⟩ : ∃ a1, a1 = (if decide (i = 0) = true then acc else acc ++ [44]) := ⟨_, rfl⟩
              rw [← ha1] at hW
              have HWW := Aside0.mk hW
              have HA1 := Aside0.mk ha1
              clear hW ha1
              by_cases hpos : 0 < i
              focus
                have hpb : decide ((i : Int) > 0) = true := decide_eq_true (by omega)
                have ha := HA1.out
                rw [if_neg (by simp; omega)] at ha
                subst ha
                go_upto_region 16 with (go_at_call 39; refine (Tryd.Builder_WriteByte_k w0.heap.size w0.heap.size _ 44 _ HBd.out (by omega) (Nat.le_of_lt HS.out)).mono ?_; rintro e w3 ⟨rfl, hw2, hw3, hw4⟩)
                have HBd1 : Aside0 (Lib.IsBuilderF 81 5 w0.heap.size w0.heap.size (Lib.byteCells (acc ++ [44])) w3) := ⟨by rw [bytes_snoc]; exact Or.inr hw2⟩
                have HS1 : Aside0 (w0.heap.size < w3.heap.size) := ⟨Nat.lt_of_lt_of_le HS.out hw3.size⟩
                have HB1 : Aside0 (Below w0.heap.size w0 w3) := ⟨HB.out.trans hw3⟩
                have hal : (acc ++ [44]).length ≤ 65539 := by rw [List.length_append, List.length_singleton]; omega
                clear hpos hpb hlen hw2 hw3 hw4 HBd HS HB HA1 hacc hacc2 hx2
                generalize acc ++ [44] = a1 at *
              rotate_left
              focus
                have hpb : decide ((i : Int) > 0) = false := decide_eq_false (by omega)
                have ha := HA1.out
                rw [if_pos (by simp; omega)] at ha
                subst ha
                go_upto_region 16 with (fail)
                have HBd1 := HBd
                have HS1 := HS
                have HB1 := HB
                have hal : a1.length ≤ 65539 := by omega
                clear hpos hpb hlen HBd HS HB HA1 hacc hacc2 hx2
              all_goals
                have hlen := Lib.byteCells_length a1
                have hWW := HWW.out
                by_cases hbig : 65536 < s.size
                · rw [if_pos hbig] at hWW
                  obtain ⟨rfl, rfl⟩ := Prod.mk.inj hWW
                  clear hWW HWW
                  go_wp2
                  go_ret2
                  exact ⟨rfl, HB1.out⟩
                · rw [if_neg hbig] at hWW
                  have hsb : s.size ≤ 65536 := by omega
                  have hws : (wrB s).size ≤ 131074 := by
                    show (CsvP.wr s.data.toList).toArray.size ≤ _
                    rw [List.size_toArray]
                    have := esc_len s.data.toList
                    rw [← Lib.size_eq] at this
                    unfold CsvP.wr
                    split
                    · simp only [List.length_cons, List.length_append, List.length_nil]; omega
                    · rw [← Lib.size_eq]; omega
                  have hstr : Lib.byteCells a1 ++ Lib.strCells (wrB s) = Lib.byteCells (a1 ++ CsvP.wr s.data.toList) := by simp [Lib.byteCells, Lib.strCells, wrB]
                  have HST := Aside0.mk hstr
                  have hwl : (wrB s).size = (CsvP.wr s.data.toList).length := by
                    show (CsvP.wr s.data.toList).toArray.size = _
                    rw [List.size_toArray]
                  have HWL := Aside0.mk hwl
                  have HW3 := Aside0.mk hWW
                  clear hWW HWW hbig hstr hwl
                  obtain ⟨a2, ha2⟩ : ∃ a2, a1 ++ CsvP.wr s.data.toList = a2 := ⟨_, rfl⟩
                  have ha2l : a2.length = a1.length + (wrB s).size := by rw [← ha2, List.length_append, HWL.out]
                  rw [ha2] at HW3 HST
                  have HA2 := Aside0.mk ha2l
                  clear ha2 ha2l
                  go_upto_region 19 with (first | (go_at_call 41; refine (csv_written s _ hsb ⟨hL.out.below HB1.out⟩).mono ?_; rintro e w4 ⟨rfl, hb4⟩; have hB4 := builder_below HBd1.out hb4) | (go_at_call 40; refine (Tryd.Builder_WriteString_k w0.heap.size w0.heap.size _ _ _ hB4 (by omega) (Nat.le_trans (Nat.le_of_lt HS1.out) hb4.size)).mono ?_; rintro e w5 ⟨rfl, hw2, hw3, hw4⟩))
                  have HBd5 : Aside0 (Lib.IsBuilderF 81 5 w0.heap.size w0.heap.size (Lib.byteCells a2) w5) := ⟨by rw [← HST.out]; exact Or.inr hw2⟩
                  have HB5 : Aside0 (Below w0.heap.size w0 w5) := ⟨(HB1.out.trans (hb4.mono (Nat.le_of_lt HS1.out))).trans hw3⟩
                  have HS5 : Aside0 (w0.heap.size < w5.heap.size) := ⟨Nat.lt_of_lt_of_le HS1.out (Nat.le_trans hb4.size hw3.size)⟩
                  clear hw2 hw3 hw4 hb4 hB4 HBd1 HB1 HS1 HST hlen
                  have hlen := Lib.byteCells_length a2
                  by_cases hb2 : 65536 < a2.length
                  · have hW3 := HW3.out
                    rw [if_pos hb2] at hW3
                    obtain ⟨rfl, rfl⟩ := Prod.mk.inj hW3
                    clear hW3 HW3
                    go_wp2_with (go_at_call 42; refine (Tryd.Builder_Len_f w0.heap.size w0.heap.size _ _ HBd5.out).mono ?_; rintro e w6 ⟨rfl, rfl⟩; rw [hlen])
                    go_ret2
                    exact ⟨rfl, HB5.out⟩
                  · have hW3 := HW3.out
                    rw [if_neg hb2] at hW3
                    have HW4 := Aside0.mk hW3
                    have ha2 : a2.length ≤ 65536 := by omega
                    clear hW3 HW3 hb2
                    go_wp2_with (go_at_call 42; refine (Tryd.Builder_Len_f w0.heap.size w0.heap.size _ _ HBd5.out).mono ?_; rintro e w6 ⟨rfl, rfl⟩; rw [hlen])
                    go_roundg (X.length - (i + 1))
                    case measure => have := HIG.out; have := HLI.out; omega
                    case rel => exact ⟨i + 1, a2, rfl, by have := HLI.out; omega, by omega, fun _ => ha2, HW4, HBd5, HS5, HB5⟩
            · as_aux_lemma =>
              have hie : i = X.length := by omega
              have hW := HW.out
              rw [show X.drop i = [] from List.drop_eq_nil_of_le (by omega), cellsJ] at hW
              have HW5 : Aside0 (rowsJ (l0.drop (j + 1)) (acc ++ [13, 10]) = (R1, R2)) := ⟨hW⟩
              have ha := hacc2 (by omega)
              have hd : decide ((i : Int) < (X.length : Int)) = false := decide_eq_false (by omega)
              have hst : Lib.byteCells acc ++ Lib.strCells (⟨#[13, 10]⟩ : ByteArray) = Lib.byteCells (acc ++ [13, 10]) := by simp [Lib.byteCells, Lib.strCells]
              have HST := Aside0.mk hst
              clear hW HW hst
              go_wp2_with (go_at_call 40; refine (Tryd.Builder_WriteString_k w0.heap.size w0.heap.size _ _ _ HBd.out (by rw [hlen, size_lit2]; omega) (Nat.le_of_lt HS.out)).mono ?_; rintro e w5 ⟨rfl, hw2, hw3, hw4⟩)
              go_roundg (l0.length - (j + 1))
              case measure => omega
              case rel => exact ⟨j + 1, acc ++ [13, 10], rfl, by omega, by simp; omega, HW5, ⟨by rw [← HST.out]; exact Or.inr hw2⟩, ⟨Nat.lt_of_lt_of_le HS.out hw3.size⟩, ⟨HB.out.trans hw3⟩⟩
        · as_aux_lemma =>
          have hje : j = l0.length := by omega
          have hd : decide ((j : Int) < (l0.length : Int)) = false := decide_eq_false (by omega)
          have hlen := Lib.byteCells_length acc
          have hW := HW.out
          rw [List.drop_eq_nil_of_le (by omega), rowsJ] at hW
          have hle := HS.out
          clear HW hlt
          by_cases hbig : 65536 < acc.length
          · rw [if_pos hbig] at hW
            obtain ⟨rfl, rfl⟩ := Prod.mk.inj hW
            clear hW
            go_wp2_with (go_at_call 42; refine (Tryd.Builder_Len_f w0.heap.size w0.heap.size _ _ HBd.out).mono ?_; rintro e w6 ⟨rfl, rfl⟩; rw [hlen])
            go_ret2
            exact ⟨rfl, HB.out⟩
          · rw [if_neg hbig] at hW
            obtain ⟨rfl, rfl⟩ := Prod.mk.inj hW
            clear hW
            go_wp2_with (first | (go_at_call 42; refine (Tryd.Builder_Len_f w0.heap.size w0.heap.size _ _ HBd.out).mono ?_; rintro e w6 ⟨rfl, rfl⟩; rw [hlen]) | (go_at_call 43; refine (Tryd.Builder_String_any_k w0.heap.size w0.heap.size acc _ HBd.out (Nat.le_of_lt HS.out)).mono ?_; rintro e w7 ⟨rfl, hw2, hw3, hw4⟩))
            go_ret2
            exact ⟨rfl, HB.out.trans hw3⟩
end Go.Proofs.YthmcapdakplhdaaDoor.Pr

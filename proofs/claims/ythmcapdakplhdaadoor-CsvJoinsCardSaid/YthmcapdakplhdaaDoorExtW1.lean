import Derived.Test.YthmcapdakplhdaaDoorExtR4
import Derived.Lib.CountLaws
import Derived.Test.YthmcapdakplhdaaDoorShC
import Derived.Test.YthmcapdakplhdaaDoorExtW0
import Derived.Lib.OthersKept
namespace Go.Proofs.YthmcapdakplhdaaDoor.Pr
open Go.RowKit Go.Proofs.YthmcapdakplhdaaDoorW.PrintWords Go.Proofs.YthmcapdakplhdaaDoorW.PrintLast Go.Proofs.YthmcapdakplhdaaDoorW.PrintMore
set_option maxRecDepth 100000
set_option linter.unusedVariables false
set_option linter.unusedSimpArgs false
attribute [local go_sem high] Go.Proofs.YthmcapdakplhdaaDoor.isSome_setCell

/-- The variable internal/bytealg.MaxLen holds some number. -/
def LMax (w : World) : Prop := ∃ m, w.cell? ⟨3, 0, none⟩ = some (.int .i64 m)
theorem LMax.below {w w' : World} (h : LMax w) (hb : Below w.heap.size w w') : LMax w' := by
  obtain ⟨m, hc⟩ := h
  exact ⟨m, (hb.cell (p := ⟨3, 0, none⟩) (cell_lt hc)).trans hc⟩
theorem LMax.drewN {w : World} (h : LMax w) (n : Nat) : LMax (w.drewN n) := h
theorem esc_len : ∀ l : List UInt8, (CsvP.esc l).length ≤ 2 * l.length
  | [] => Nat.le_refl _
  | c :: t => by
    have := esc_len t
    rw [CsvP.esc]
    split <;> simp only [List.length_cons] <;> omega
theorem esc_none : ∀ l : List UInt8, l.count 34 = 0 → CsvP.esc l = l
  | [], _ => rfl
  | c :: t, h => by
    have hc : c ≠ 34 := fun e => by subst e; simp at h
    rw [CsvP.esc, if_neg hc, esc_none t (by rw [List.count_cons_of_ne hc] at h; exact h)]
theorem index_miss34 : ∀ l : List UInt8, Lib.index l [34] = -1 → l.count 34 = 0
  | [], _ => rfl
  | c :: t, h => by
    unfold Lib.index at h
    by_cases hc : c = 34
    · subst hc
      simp at h
    · have e : List.isPrefixOf [34] (c :: t) = false := by
        show ((34 : UInt8) == c && List.isPrefixOf [] t) = false
        rw [beq_eq_false_iff_ne.2 (fun e => hc e.symm)]
        rfl
      rw [e] at h
      by_cases hi : Lib.index t [34] = -1
      · rw [List.count_cons_of_ne hc]
        exact index_miss34 t hi
      · exfalso
        have h1 := Lib.index_ge t [34]
        rw [if_neg (by decide), if_neg (by simpa using hi)] at h
        omega
theorem replaceK_esc : ∀ (l : List UInt8) (k : Nat), l.count 34 ≤ k → Lib.replaceK [34] [34, 34] k l = CsvP.esc l
  | [], 0, _ => rfl
  | [], k + 1, _ => by rw [Lib.replaceK]; rfl
  | c :: t, 0, h => by rw [esc_none _ (by omega)]; rfl
  | c :: t, k + 1, h => by
    by_cases hc : c = 34
    · subst hc
      rw [List.count_cons_self] at h
      have e : Lib.index (34 :: t) [34] = ((0 : Nat) : Int) := by simp [Lib.index]
      rw [Lib.replaceK_hit _ _ _ _ 0 e, CsvP.esc, if_pos rfl]
      show [] ++ [34, 34] ++ Lib.replaceK [34] [34, 34] k t = _
      rw [replaceK_esc t k (by omega)]
      rfl
    · rw [List.count_cons_of_ne hc] at h
      have e : List.isPrefixOf [34] (c :: t) = false := by
        show ((34 : UInt8) == c && List.isPrefixOf [] t) = false
        rw [beq_eq_false_iff_ne.2 (fun e => hc e.symm)]
        rfl
      have ih := replaceK_esc t (k + 1) h
      rw [CsvP.esc, if_neg hc]
      by_cases hi : Lib.index t [34] = -1
      · have e2 : Lib.index (c :: t) [34] = -1 := by rw [Lib.index, e, if_neg (by decide), hi]; rfl
        rw [esc_none t (index_miss34 t hi), Lib.replaceK, e2]
        rfl
      · obtain ⟨i, hi2⟩ : ∃ i : Nat, Lib.index t [34] = i := ⟨(Lib.index t [34]).toNat, by have := Lib.index_ge t [34]; omega⟩
        have e2 : Lib.index (c :: t) [34] = ((i + 1 : Nat) : Int) := by
          rw [Lib.index, e, if_neg (by decide), if_neg (by simpa using hi), hi2]
          rfl
        rw [Lib.replaceK_hit _ _ _ _ i hi2] at ih
        rw [Lib.replaceK_hit _ _ _ _ (i + 1) e2, ← ih]
        simp [Nat.add_right_comm]
theorem replaceAll_esc (l : List UInt8) : Lib.replaceAll l [34] [34, 34] = CsvP.esc l := by
  unfold Lib.replaceAll Lib.replace Lib.replaceNum
  rw [if_neg (by decide), if_pos (Or.inl (by decide)), Lib.count_one]
  exact replaceK_esc l _ (Nat.le_refl _)
theorem containsAny_spec : ∀ l : List UInt8, decide (0 ≤ Lib.indexAny l [44, 34, 13, 10]) = l.any CsvP.spec
  | [] => rfl
  | b :: l => by
    have ih := containsAny_spec l
    have hc : ([44, 34, 13, 10] : List UInt8).contains b = CsvP.spec b := by
      simp only [CsvP.spec, List.contains, List.elem]
      cases (b == 44) <;> cases (b == 34) <;> cases (b == 13) <;> cases (b == 10) <;> rfl
    rw [List.any_cons, ← ih, Lib.indexAny, hc]
    cases CsvP.spec b with
    | true => rfl
    | false =>
      have := Lib.indexAny_ge [44, 34, 13, 10] l
      by_cases hm : Lib.indexAny l [44, 34, 13, 10] = -1
      · rw [hm]; rfl
      · rw [if_neg (by decide), if_neg (by simpa using hm), Bool.false_or]
        rw [Bool.eq_iff_iff, decide_eq_true_iff, decide_eq_true_iff]
        omega
theorem specB_ascii : ∀ (j : Nat) b, specB.data.toList[j]? = some b → b.toNat < 128 := by
  intro j b h
  have : b ∈ ([44, 34, 13, 10] : List UInt8) := List.mem_of_getElem? h
  simp at this
  rcases this with rfl | rfl | rfl | rfl <;> decide
theorem zero125 : ∀ w : World, (zeroValue 125).run Tryd.prog w = .ok (.agg (Array.replicate 256 (.bool false))) w := fun w => (zero_of_info (P := Tryd.prog) (by kernel_rfl : (Tryd.prog.info? 125).map (fun i => (i.zero, i.size)) = some (some (.agg (Array.replicate 256 (.bool false))), 256))).1 w
theorem decode_skip (s : ByteArray) (pos : Nat) (h : pos < s.size) (ha : 128 ≤ (s.get! (pos + 0)).toNat) : ∀ k, k < (Utf8.decode s pos).2 → pos + k < s.size ∧ 128 ≤ (s.get! (pos + k)).toNat := by
  simp only [Utf8.decode]
  repeat' split
  all_goals
    intro k hk
    simp only [Bool.and_eq_true, decide_eq_true_eq, beq_iff_eq, ge_iff_le] at *
    have hk4 : k = 0 ∨ k = 1 ∨ k = 2 ∨ k = 3 := by omega
    rcases hk4 with rfl | rfl | rfl | rfl
  all_goals first | exact ⟨h, ha⟩ | (exact ⟨by omega, by omega⟩) | (exfalso; omega)
theorem get_el (s : ByteArray) (k : Nat) (h : k < s.size) : s.get! k = s[k]'h := get_at s k h
theorem spec_high {x : UInt8} (h : 128 ≤ x.toNat) : CsvP.spec x = false := by
  have n1 : ∀ c : UInt8, c.toNat < 128 → (x == c) = false := fun c hc => beq_eq_false_iff_ne.2 (fun e => by subst e; omega)
  unfold CsvP.spec
  rw [n1 44 (by decide), n1 34 (by decide), n1 13 (by decide), n1 10 (by decide)]
  rfl
/-- No special byte among the first i .. and none in those that a rune beyond ASCII takes. -/
theorem skip_any (s : ByteArray) (i n : Nat) (h : (s.data.toList.take i).any CsvP.spec = false) (hk : ∀ k, k < n → ∃ h : i + k < s.size, CsvP.spec (s[i + k]'h) = false) : (s.data.toList.take (i + n)).any CsvP.spec = false := by
  induction n with
  | zero => exact h
  | succ n ih =>
    have ih := ih (fun k hk' => hk k (by omega))
    obtain ⟨hl, hs⟩ := hk n (by omega)
    rw [show i + (n + 1) = (i + n) + 1 by omega, List.take_add_one, List.any_append, ih, Lib.data_getElem? s (i + n) hl]
    simp [hs]
/-- strings.IndexAny at the four bytes, whatever the text. -/
theorem index_any (s : ByteArray) (w : World) (hs : s.size ≤ 65536) :
    Calls Tryd.prog 76 #[.string s, .string specB] w fun e w' => (∃ z : Int, e = .returned (.int .i64 z) ∧ decide (0 ≤ z) = s.data.toList.any CsvP.spec) ∧ Below w.heap.size w w' := by
  by_cases h8 : 8 < s.size
  · refine (Tryd.strings_IndexAny_long zero125 s specB w (by decide) h8 (by omega) (by decide) specB_ascii).mono ?_
    rintro e w' ⟨rfl, rfl⟩
    exact ⟨⟨_, rfl, containsAny_spec _⟩, below_alloc (below_alloc (Below.refl _ _) _) _⟩
  · have hcs : specB.size = 4 := rfl
    have hemp : specB.toList.isEmpty = false := by rw [Lib.toList_data]; rfl
    have h8z : decide ((8 : Int) < (s.size : Int)) = false := decide_eq_false (by omega)
    go_enter Tryd.func76, Tryd.ntmps76
    go_wp2_with (go_at_call 89; refine (Tryd.strings_shouldUseASCIISet _ _).mono ?_; rintro e w' ⟨rfl, hw⟩; rw [hw, h8z])
    go_loopg [9, 10] s.size (fun g _ _ wx => ∃ i : Nat, i + g = s.size ∧ wx.heap[w.heap.size]? = some (.stringIter s i) ∧ Aside0 (Below w.heap.size w wx) ∧ Aside0 ((s.data.toList.take i).any CsvP.spec = false))
    case atStart => exact ⟨0, by omega, blk_new _ _, ⟨(Below.refl _ _).alloc (Nat.le_refl _) _⟩, ⟨by simp⟩⟩
    case round =>
      obtain ⟨i, hig, hit, HB, HT⟩ := hrel
      have HIT := Aside0.mk hit
      by_cases hi : i < s.size
      · by_cases hx : (s[i]'hi).toNat < 128
        · have hnx := fun ty => Lib.run_next_ascii_at (P := Tryd.prog) wr w.heap.size s i ty hit hi hx
          obtain ⟨x, hxe⟩ : ∃ x : UInt8, s[i]'hi = x := ⟨_, rfl⟩
          rw [hxe] at hnx hx
          have HXE := Aside0.mk hxe
          have hback : ((x.toNat : Int)).toNat.toUInt8 = x := by simp
          have hB2 : Below w.heap.size w (wr.iterAt w.heap.size s (i + 1)) := Lib.below_iterAt HB.out (Nat.le_refl _) _ _
          have HB2 := Aside0.mk hB2
          have hI2 := Lib.iterAt_heap wr w.heap.size s i (i + 1) hit
          have HI2 := Aside0.mk hI2
          have hcon : decide (0 ≤ Lib.indexByte specB.data.toList x) = CsvP.spec x := by
            have h1 : ([44, 34, 13, 10] : List UInt8).contains x = decide (0 ≤ Lib.indexByte [44, 34, 13, 10] x) := Lib.contains_iff_indexByte _ x
            rw [show specB.data.toList = [44, 34, 13, 10] from rfl, ← h1]
            simp only [CsvP.spec, List.contains, List.elem]
            cases (x == 44) <;> cases (x == 34) <;> cases (x == 13) <;> cases (x == 10) <;> rfl
          clear hit hxe hB2 hI2
          rcases hsp : CsvP.spec x with _ | _
          · rw [hsp] at hcon
            have hlt : ¬ ((0 : Int) ≤ Lib.indexByte specB.data.toList x) := of_decide_eq_false hcon
            have HSP := Aside0.mk hsp
            clear hcon hsp
            go_wp2_with (go_at_call 88; refine (Tryd.strings_IndexRune_ascii specB (x.toNat : Int) _ (by omega) (by omega)).mono ?_; rintro e w' ⟨rfl, hw⟩; rw [hw, hback])
            cases gk with
            | zero => omega
            | succ g =>
              go_roundg g
              case measure => omega
              case rel => exact ⟨i + 1, by omega, HI2.out, HB2, ⟨skip_any s i 1 HT.out (fun k hk => by
                obtain rfl : k = 0 := by omega
                exact ⟨hi, by show CsvP.spec (s[i]'hi) = false; rw [HXE.out]; exact HSP.out⟩)⟩⟩
          · rw [hsp] at hcon
            have hge : (0 : Int) ≤ Lib.indexByte specB.data.toList x := of_decide_eq_true hcon
            have HSP := Aside0.mk hsp
            clear hcon hsp
            go_wp2_with (go_at_call 88; refine (Tryd.strings_IndexRune_ascii specB (x.toNat : Int) _ (by omega) (by omega)).mono ?_; rintro e w' ⟨rfl, hw⟩; rw [hw, hback])
            go_ret
            refine ⟨⟨(i : Int), rfl, ?_⟩, HB2.out⟩
            rw [decide_eq_true (by omega : (0 : Int) ≤ (i : Int))]
            symm
            rw [List.any_eq_true]
            exact ⟨x, List.mem_of_getElem? (by rw [← HXE.out]; exact Lib.data_getElem? s i hi), HSP.out⟩
        · have hx' : 128 ≤ (s[i]'hi).toNat := by omega
          have hdh := decode_high s i hi hx'
          have hdl := decode_le s i
          have hsk := decode_skip s i hi (by rw [get_at s i hi]; exact hx')
          have hnx := fun ty => Lib.run_next_any_at (P := Tryd.prog) wr w.heap.size s i ty hit hi
          obtain ⟨r, hr⟩ : ∃ r, (Utf8.decode s i).1 = r := ⟨_, rfl⟩
          obtain ⟨n, hn⟩ : ∃ n, (Utf8.decode s i).2 = n := ⟨_, rfl⟩
          rw [hr, hn] at hnx hdh
          rw [hr] at hdl
          rw [hn] at hsk
          have hB2 : Below w.heap.size w (wr.iterAt w.heap.size s (i + n)) := Lib.below_iterAt HB.out (Nat.le_refl _) _ _
          have HB2 := Aside0.mk hB2
          have hI2 := Lib.iterAt_heap wr w.heap.size s i (i + n) hit
          have HI2 := Aside0.mk hI2
          have HSK := Aside0.mk hsk
          have hlast := (hsk (n - 1) (by omega)).1
          have HIN : Aside0 (i + n ≤ s.size ∧ 1 ≤ n) := ⟨by omega⟩
          clear hit hr hn hB2 hI2 hsk hx hx' hlast
          generalize wr.iterAt w.heap.size s (i + n) = w2 at *
          go_wp2_with (go_at_call 88; refine (index_rune (r : Int) _ (by omega) (by omega)).mono ?_; rintro e w' ⟨rfl, hw⟩)
          go_roundg (s.size - (i + n))
          case measure => have := HIN.out; omega
          case rel =>
            exact ⟨i + n, by have := HIN.out; omega, blk_below HI2.out hw, ⟨below_step HB2.out hw⟩, ⟨skip_any s i n HT.out (fun k hk => by
              obtain ⟨h1, h2⟩ := HSK.out k hk
              exact ⟨h1, spec_high (by rw [← get_el s (i + k) h1]; exact h2)⟩)⟩⟩
      · have hie : i = s.size := by omega
        have hnx := fun ty => Lib.run_next_end_at (P := Tryd.prog) wr w.heap.size s i ty hit hi
        clear hit
        go_wp2
        go_ret
        refine ⟨⟨-1, rfl, ?_⟩, HB.out⟩
        have := HT.out
        rw [hie, List.take_of_length_le (by rw [← Lib.size_eq]; exact Nat.le_refl _)] at this
        rw [this]
        rfl
theorem contains_any (s : ByteArray) (w : World) (hs : s.size ≤ 65536) :
    Calls Tryd.prog 62 #[.string s, .string specB] w fun e w' => e = .returned (.bool (s.data.toList.any CsvP.spec)) ∧ Below w.heap.size w w' := by
  obtain ⟨bb, hbb⟩ : ∃ bb, s.data.toList.any CsvP.spec = bb := ⟨_, rfl⟩
  rw [hbb]
  have HBB := Aside0.mk hbb
  clear hbb
  go_enter Tryd.func62, Tryd.ntmps62
  go_wp2_with (go_at_call 76; refine (index_any s _ hs).mono ?_; rintro e w' ⟨⟨z, rfl, hz⟩, hb⟩; rw [HBB.out] at hz)
  go_ret
  exact ⟨rfl, hb⟩
/-- A cell as it is written. -/
def wrB (s : ByteArray) : ByteArray := ⟨(CsvP.wr s.data.toList).toArray⟩
theorem csv_written (s : ByteArray) (w : World) (hs : s.size ≤ 65536) (hL : Aside0 (LMax w)) :
    Calls Tryd.prog 41 #[.string s] w fun e w' => e = .returned (.string (wrB s)) ∧ Below w.heap.size w w' := by
  rcases hb : s.data.toList.any CsvP.spec with _ | _
  · have HB := Aside0.mk hb
    clear hb
    go_enter Tryd.func41, Tryd.ntmps41
    go_wp2_with (go_at_call 62; refine (contains_any s _ hs).mono ?_; rintro e w' ⟨rfl, hb⟩; rw [HB.out])
    go_ret
    refine ⟨?_, hb⟩
    unfold wrB CsvP.wr
    rw [HB.out, if_neg (by decide), Array.toArray_toList]
    rfl
  · have HB := Aside0.mk hb
    clear hb
    obtain ⟨r, hr⟩ : ∃ r : ByteArray, r = ⟨(CsvP.esc s.data.toList).toArray⟩ := ⟨_, rfl⟩
    have hrs : r.size ≤ 131072 := by
      rw [hr]
      show (CsvP.esc s.data.toList).toArray.size ≤ _
      rw [List.size_toArray]
      have := esc_len s.data.toList
      rw [← Lib.size_eq] at this
      omega
    have HR := Aside0.mk hr
    clear hr
    go_enter Tryd.func41, Tryd.ntmps41
    go_wp2_with (first | (go_at_call 62; refine (contains_any s _ hs).mono ?_; rintro e w1 ⟨rfl, hb1⟩; rw [HB.out]; have HB1 := Aside0.mk hb1; clear hb1; obtain ⟨m, hm⟩ := hL.out.below HB1.out; have HM := Aside0.mk hm; clear hm) | (go_at_call 63; refine (Tryd.strings_ReplaceAll s _ _ m _ (by omega) HM.out (by decide) (by have := Lib.count_le s.data.toList [34]; rw [← Lib.size_eq] at this; show s.size + Lib.count s.data.toList [34] * 2 ≤ _; omega)).mono ?_; rintro e w2 ⟨rfl, hb2⟩; rw [show (⟨#[34]⟩ : ByteArray).data.toList = [34] from rfl, show (⟨#[34, 34]⟩ : ByteArray).data.toList = [34, 34] from rfl, replaceAll_esc, ← HR.out]))
    go_ret
    refine ⟨?_, (HB1.out.trans (hb2.mono HB1.out.size))⟩
    have e : (⟨#[34]⟩ : ByteArray) ++ r ++ (⟨#[34]⟩ : ByteArray) = wrB s := by
      unfold wrB CsvP.wr
      rw [HB.out, if_pos rfl, HR.out]
      apply ByteArray.ext
      simp [ByteArray.data_append]
    rw [← e]
    rfl
end Go.Proofs.YthmcapdakplhdaaDoor.Pr

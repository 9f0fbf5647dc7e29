import Derived.Test.YthmcapdakplhdaaDoorPuCsv
import Derived.Test.YthmcapdakplhdaaDoorExtCs3
import Derived.Test.YthmcapdakplhdaaDoorExtCs4
import Derived.Test.YthmcapdakplhdaaDoorPrx4
/- The reference's Join answers as the program's; what was made roomy is found untouched. -/
namespace Go.Proofs.YthmcapdakplhdaaDoor.PuCsv
open Go Go.RowKit Go.Proofs.YthmcapdakplhdaaDoor.Pr Go.Proofs.YthmcapdakplhdaaDoorW.PrintWords Go.Proofs.YthmcapdakplhdaaDoorW.PrintLast Go.Proofs.YthmcapdakplhdaaDoorW.PrintMore
set_option linter.unusedVariables false
theorem bt_nat {s : ByteArray} {i : Nat} (h : i < s.size) : bt s (i : Int) = ((s[i]).toNat : Int) := by
  unfold bt
  rw [dif_pos (show (i : Int).toNat < s.size by omega)]
  rfl
theorem bs_len (l : List UInt8) : (bs l).length = l.length := by rw [bs, List.length_map]
theorem u8i (c : UInt8) (k : Nat) (hk : k < 256) : ((c.toNat : Int) = (k : Int)) ↔ c = UInt8.ofNat k := by
  constructor
  · intro h
    apply UInt8.toNat_inj.1
    rw [UInt8.toNat_ofNat']
    omega
  · rintro rfl
    rw [UInt8.toNat_ofNat']
    omega
theorem w_j1 (s : ByteArray) (i : Nat) (c : UInt8) (pl : Bool) (acc : List UInt8) (ha : acc.length ≤ 140737488355000) (r : ByteArray)
    (h : Ev (fun k => refrainref4_written.l0 k s (pl && !CsvP.spec c) (bs (acc ++ (if c = 34 then [34, 34] else [c]))) ((i + 1 : Nat) : Int)) r) (hi : i ≤ 4611686018427387904) :
    Ev (fun k => refrainref4_written.j1 k s pl (bs acc) (i : Int) (c.toNat : Int) (CsvP.spec c)) r := by
  refine Ev.step (fun k => ?_) h
  simp only [refrainref4_written.j1]
  have hl := bs_len acc
  by_cases h34 : c = 34
  · subst h34
    rw [show CsvP.spec 34 = true from rfl, if_pos rfl, if_pos (by decide), if_pos (by omega), Option.bind_some, if_pos (by rw [List.length_append, List.length_singleton]; omega), w64 i hi]
    simp [bs]
  · have hn : ¬ ((c.toNat : Int) = 34) := fun e => h34 ((u8i c 34 (by decide)).1 e)
    rw [if_neg h34]
    cases hs : CsvP.spec c
    · rw [if_neg (by decide), if_neg hn, if_pos (by omega), w64 i hi]
      simp [bs]
    · rw [if_pos rfl, if_neg hn, if_pos (by omega), w64 i hi]
      simp [bs]
theorem written_l0 (s : ByteArray) (hs : s.size ≤ 65536) : ∀ n i (pl : Bool) (acc : List UInt8), i + n = s.size → acc.length ≤ 2 * i + 1 → Ev (fun k => refrainref4_written.l0 k s pl (bs acc) (i : Int)) (if (pl && !(s.data.toList.drop i).any CsvP.spec) = true then s else toB (acc ++ CsvP.esc (s.data.toList.drop i) ++ [34]))
  | 0, i, pl, acc, h, ha => by
    rw [List.drop_eq_nil_of_le (by rw [← Lib.size_eq]; omega)]
    refine Ev.step (f := fun _ => some _) (fun k => ?_) (Ev.now _)
    simp only [refrainref4_written.l0]
    rw [if_neg (by omega)]
    cases pl
    · rw [if_neg (by decide), if_pos (by rw [bs_len]; omega), if_neg (by simp), CsvP.esc, List.append_nil]
      have := bs_str (acc ++ [34])
      rw [bs_snoc] at this
      exact congrArg some this
    · rw [if_pos rfl, if_pos (by simp)]
  | n + 1, i, pl, acc, h, ha => by
    have hi : i < s.size := by omega
    rw [drop_cons hi]
    obtain ⟨c, hc⟩ : ∃ c : UInt8, s[i] = c := ⟨_, rfl⟩
    rw [hc]
    have hb : bt s (i : Int) = (c.toNat : Int) := by rw [bt_nat hi, hc]
    have ih := written_l0 s hs n (i + 1) (pl && !CsvP.spec c) (acc ++ (if c = 34 then [34, 34] else [c])) (by omega) (by
      rw [List.length_append]
      split
      · simp only [List.length_cons, List.length_nil]; omega
      · simp only [List.length_singleton]; omega)
    have e1 : (if (pl && !(c :: s.data.toList.drop (i + 1)).any CsvP.spec) = true then s else toB (acc ++ CsvP.esc (c :: s.data.toList.drop (i + 1)) ++ [34])) = (if ((pl && !CsvP.spec c) && !(s.data.toList.drop (i + 1)).any CsvP.spec) = true then s else toB (acc ++ (if c = 34 then [34, 34] else [c]) ++ CsvP.esc (s.data.toList.drop (i + 1)) ++ [34])) := by
      have a : (pl && !(c :: s.data.toList.drop (i + 1)).any CsvP.spec) = ((pl && !CsvP.spec c) && !(s.data.toList.drop (i + 1)).any CsvP.spec) := by
        rw [List.any_cons]
        cases pl <;> cases CsvP.spec c <;> simp
      have b : CsvP.esc (c :: s.data.toList.drop (i + 1)) = (if c = 34 then [34, 34] else [c]) ++ CsvP.esc (s.data.toList.drop (i + 1)) := by
        rw [CsvP.esc]
        split <;> rfl
      rw [a, b, ← List.append_assoc acc]
    rw [e1]
    refine Ev.step (fun k => ?_) (w_j1 s i c pl acc (by omega) _ ih (by omega))
    simp only [refrainref4_written.l0]
    rw [if_pos (by omega), if_pos (by omega), hb]
    have h44 : ((c.toNat : Int) = 44) ↔ c = 44 := u8i c 44 (by decide)
    have h34 : ((c.toNat : Int) = 34) ↔ c = 34 := u8i c 34 (by decide)
    have h13 : ((c.toNat : Int) = 13) ↔ c = 13 := u8i c 13 (by decide)
    have h10 : ((c.toNat : Int) = 10) ↔ c = 10 := u8i c 10 (by decide)
    by_cases c44 : c = 44
    · rw [if_pos (h44.2 c44), c44]; rfl
    · rw [if_neg (fun e => c44 (h44.1 e))]
      by_cases c34 : c = 34
      · rw [if_pos (h34.2 c34), c34]; rfl
      · rw [if_neg (fun e => c34 (h34.1 e))]
        by_cases c13 : c = 13
        · rw [if_pos (h13.2 c13), c13]; rfl
        · rw [if_neg (fun e => c13 (h13.1 e))]
          have e : ((c.toNat : Int) == 10) = CsvP.spec c := by
            have x44 : (c == 44) = false := beq_eq_false_iff_ne.2 c44
            have x34 : (c == 34) = false := beq_eq_false_iff_ne.2 c34
            have x13 : (c == 13) = false := beq_eq_false_iff_ne.2 c13
            unfold CsvP.spec
            rw [x44, x34, x13, Bool.false_or, Bool.false_or, Bool.false_or, Bool.eq_iff_iff, beq_iff_eq, beq_iff_eq]
            exact h10
          rw [e]
theorem written_ev (s : ByteArray) (hs : s.size ≤ 65536) : Ev (fun k => refrainref4_written.f k s) (wrB s) := by
  have h := written_l0 s hs s.size 0 true [34] (by omega) (by simp)
  rw [List.drop_zero] at h
  have e : (if (true && !s.data.toList.any CsvP.spec) = true then s else toB ([34] ++ CsvP.esc s.data.toList ++ [34])) = wrB s := by
    unfold wrB CsvP.wr
    cases s.data.toList.any CsvP.spec
    · rfl
    · rfl
  rw [e] at h
  refine Ev.congr (fun k => ?_) h
  unfold refrainref4_written.f
  rw [if_pos (by decide)]
  rfl
theorem bytes_bs (s : ByteArray) : bytesOf s = bs s.data.toList := rfl
theorem wrB_len (s : ByteArray) : (wrB s).size = (CsvP.wr s.data.toList).length := by
  show (CsvP.wr s.data.toList).toArray.size = _
  rw [List.size_toArray]
theorem wr_len' (s : List UInt8) : (CsvP.wr s).length ≤ 2 * s.length + 2 := by
  have := esc_len s
  unfold CsvP.wr
  split
  · simp only [List.length_cons, List.length_append, List.length_nil]; omega
  · omega
/-- The cells of one row, then what is behind it. -/
theorem join_l2 (x : List (List ByteArray)) (i : Nat) (hi : i < x.length) (hx : x.length ≤ 4611686018427387904) (hX : (rd_L1 x (i : Int)).length ≤ 4611686018427387904)
    (next : ∀ a : List UInt8, a.length ≤ 65538 → Ev (fun k => refrainref4_Join.l1 k x (bs a) ((i + 1 : Nat) : Int)) (rowsJ (x.drop (i + 1)) a)) :
    ∀ n j (acc : List UInt8), j + n = (rd_L1 x (i : Int)).length → acc.length ≤ 65538 → (0 < j → acc.length ≤ 65536) → (0 < j + n) →
      Ev (fun k => refrainref4_Join.l2 k x (bs acc) (i : Int) (j : Int)) (restJ (x.drop (i + 1)) (cellsJ ((rd_L1 x (i : Int)).drop j) (decide (j = 0)) acc))
  | 0, j, acc, h, ha, hb, hp => by
    rw [show (rd_L1 x (i : Int)).drop j = [] from List.drop_eq_nil_of_le (by omega), cellsJ]
    have hb := hb (by omega)
    refine Ev.step (fun k => ?_) (next (acc ++ [13, 10]) (by rw [List.length_append]; simp only [List.length_cons, List.length_nil]; omega))
    simp only [refrainref4_Join.l2]
    rw [if_pos (by omega), if_pos (by omega), if_neg (by omega), Option.bind_some, if_pos (by rw [bs_len]; simp only [List.length_cons, List.length_nil]; omega), w64 i (by omega)]
    simp [bs]
  | n + 1, j, acc, h, ha, hb, hp => by
    have hj : j < (rd_L1 x (i : Int)).length := by omega
    rw [drop_rs hj, cellsJ]
    obtain ⟨s, hs⟩ : ∃ s, rdOf ByteArray.empty (rd_L1 x (i : Int)) (j : Int) = s := ⟨_, rfl⟩
    obtain ⟨a1, ha1⟩ : ∃ a1, (if decide (j = 0) = true then acc else acc ++ [44]) = a1 := ⟨_, rfl⟩
    rw [hs, ha1]
    have hl1 : a1.length ≤ 65538 := by
      rw [← ha1]
      by_cases hz : j = 0
      · rw [if_pos (decide_eq_true hz)]; omega
      · rw [if_neg (by simp [hz]), List.length_append, List.length_singleton]
        have := hb (by omega)
        omega
    have key : Ev (fun k => refrainref4_Join.j3 k x (bs a1) (i : Int) (j : Int)) (restJ (x.drop (i + 1)) (if 65536 < s.size then none else if 65536 < (a1 ++ CsvP.wr s.data.toList).length then none else cellsJ ((rd_L1 x (i : Int)).drop (j + 1)) false (a1 ++ CsvP.wr s.data.toList))) := by
      by_cases hbig : 65536 < s.size
      · rw [if_pos hbig]
        refine Ev.step (f := fun _ => some _) (fun k => ?_) (Ev.now _)
        simp only [refrainref4_Join.j3]
        rw [if_pos (by omega), if_pos (by omega), if_pos (by omega), if_pos (by omega), hs, if_pos (by omega)]
        rfl
      · rw [if_neg hbig]
        have hw := wr_len' s.data.toList
        rw [← Lib.size_eq] at hw
        have hwz := wrB_len s
        refine Ev.step (f := fun k => (refrainref4_written.f k s).bind fun t => (if (bs a1).length + t.size < 140737488355328 then ((some (bs a1 ++ bytesOf t : List Int)).bind fun y => (if (y.length : Int) > 65536 then (some ((⟨#[]⟩ : ByteArray), 2)) else (refrainref4_Join.l2 k x y (i : Int) ((j + 1 : Nat) : Int)))) else none)) (fun k => ?_) (Ev.bind (written_ev s (by omega)) ?_)
        · simp only [refrainref4_Join.j3]
          rw [if_pos (by omega), if_pos (by omega), if_pos (by omega), if_pos (by omega), hs, if_neg (by omega), w64 j (by omega)]
        · have e : bs a1 ++ bytesOf (wrB s) = bs (a1 ++ CsvP.wr s.data.toList) := by
            rw [bytes_bs]
            show _ ++ bs (CsvP.wr s.data.toList) = _
            unfold bs
            rw [List.map_append]
          rw [bs_len, e]
          simp only [Option.bind_some, bs_len]
          have hlt : a1.length + (wrB s).size < 140737488355328 := by omega
          by_cases hb2 : 65536 < (a1 ++ CsvP.wr s.data.toList).length
          · rw [if_pos hb2]
            refine Ev.congr (fun k => ?_) (Ev.now _)
            rw [if_pos hlt, if_pos (by omega)]
            rfl
          · rw [if_neg hb2]
            have ih := join_l2 x i hi hx hX next n (j + 1) (a1 ++ CsvP.wr s.data.toList) (by omega) (by omega) (fun _ => by omega) (by omega)
            rw [show decide (j + 1 = 0) = false by simp] at ih
            refine Ev.congr (fun k => ?_) ih
            rw [if_pos hlt, if_neg (by omega)]
    refine Ev.step (fun k => ?_) key
    simp only [refrainref4_Join.l2]
    rw [if_pos (by omega), if_pos (by omega), if_pos (by omega)]
    by_cases hz : j = 0
    · rw [if_neg (by omega), ← ha1, if_pos (decide_eq_true hz)]
    · have := hb (by omega)
      rw [if_pos (by omega), if_pos (by rw [bs_len]; omega), ← ha1, if_neg (by simp [hz]), bs_snoc]
      rfl
theorem join_l1 (x : List (List ByteArray)) (hx : x.length ≤ 4611686018427387904) (hl : ∀ r ∈ x, r.length ≤ 4611686018427387904) (hne : ∀ r ∈ x, r ≠ []) : ∀ n i (acc : List UInt8), i + n = x.length → acc.length ≤ 65538 →
      Ev (fun k => refrainref4_Join.l1 k x (bs acc) (i : Int)) (rowsJ (x.drop i) acc)
  | 0, i, acc, h, ha => by
    rw [List.drop_eq_nil_of_le (by omega), rowsJ]
    refine Ev.step (f := fun _ => some _) (fun k => ?_) (Ev.now _)
    simp only [refrainref4_Join.l1]
    rw [if_neg (by omega), bs_len]
    by_cases hb : 65536 < acc.length
    · rw [if_pos (by omega), if_pos hb]
    · rw [if_neg (by omega), if_neg hb, bs_str]
  | n + 1, i, acc, h, ha => by
    have hi : i < x.length := by omega
    have h0 := List.length_pos_iff.2 (hne _ (mem_rd hi))
    have e : rowsJ (x.drop i) acc = restJ (x.drop (i + 1)) (cellsJ (rd_L1 x (i : Int)) true acc) := by rw [drop_rd hi, rowsJ_cons]
    rw [e]
    have k2 := join_l2 x i hi hx (hl _ (mem_rd hi)) (fun a h2 => join_l1 x hx hl hne n (i + 1) a (by omega) h2) (rd_L1 x (i : Int)).length 0 acc (by omega) ha (fun h => absurd h (by omega)) (by omega)
    rw [List.drop_zero] at k2
    refine Ev.step (fun k => ?_) k2
    simp only [refrainref4_Join.l1]
    rw [if_pos (by omega)]
    rfl
theorem join_l0 (x : List (List ByteArray)) (hx : x.length ≤ 4611686018427387904) (hl : ∀ r ∈ x, r.length ≤ 4611686018427387904) : ∀ n i, i + n = x.length → ((x.take i).any (·.isEmpty) = false) → Ev (fun k => refrainref4_Join.l0 k x (i : Int)) (joinB x)
  | 0, i, h, ha => by
    rw [show i = x.length by omega, List.take_length] at ha
    unfold joinB
    rw [ha, if_neg (by decide)]
    have k1 := join_l1 x hx hl (fun r hr e => by have := List.any_eq_false.1 ha r hr; rw [e] at this; exact this rfl) x.length 0 [] (by omega) (by simp)
    rw [List.drop_zero] at k1
    refine Ev.step (fun k => ?_) k1
    simp only [refrainref4_Join.l0]
    rw [if_neg (by omega)]
    rfl
  | n + 1, i, h, ha => by
    have hi : i < x.length := by omega
    have htk : (x.take (i + 1)).any (·.isEmpty) = (rd_L1 x (i : Int)).isEmpty := by
      rw [take_snoc x hi, List.any_append, ha, Bool.false_or]
      simp
    by_cases hz : (rd_L1 x (i : Int)).length = 0
    · have he : rd_L1 x (i : Int) = [] := List.eq_nil_of_length_eq_zero hz
      have hany : x.any (·.isEmpty) = true := by
        rw [← List.take_append_drop (i + 1) x, List.any_append, htk, he]; rfl
      unfold joinB
      rw [hany, if_pos rfl]
      refine Ev.step (f := fun _ => some _) (fun k => ?_) (Ev.now _)
      simp only [refrainref4_Join.l0]
      rw [if_pos (by omega), if_pos (by omega), if_pos (by omega)]
    · refine Ev.step (fun k => ?_) (join_l0 x hx hl n (i + 1) (by omega) (by
        rw [htk]
        cases hq : rd_L1 x (i : Int) with
        | nil => rw [hq] at hz; exact absurd rfl hz
        | cons a t => rfl))
      simp only [refrainref4_Join.l0]
      rw [if_pos (by omega), if_pos (by omega), if_neg (by omega), w64 i (by omega)]
theorem join_ev (x : List (List ByteArray)) (hx : x.length ≤ 4611686018427387904) (hl : ∀ r ∈ x, r.length ≤ 4611686018427387904) : Ev (fun k => refrainref4_Join.f k x) (joinB x) :=
  Ev.congr (fun k => rfl) (join_l0 x hx hl x.length 0 (by omega) (by rw [List.take_zero]; rfl))

theorem wn (a b : Nat) (h : a ≤ 4611686018427387904) (h2 : b ≤ 1000) : wrap64 ((a : Int) + (b : Int)) = ((a + b : Nat) : Int) := by
  unfold wrap64
  omega
theorem wds_get (k : Nat) (h : k < 20) : (wds 20)[k]? = some (wordB k) := by
  unfold wds
  rw [List.getElem?_map, List.getElem?_range h]
  rfl
theorem rd_ones (x : List (List ByteArray)) (k : Nat) (h : k < 20) : rd_L1 (x ++ ones 20) ((x.length + k : Nat) : Int) = [wordB k] := by
  show (x ++ ones 20).getD _ _ = _
  rw [Int.toNat_natCast, List.getD_eq_getElem?_getD, List.getElem?_append_right (by omega), show x.length + k - x.length = k by omega]
  unfold ones
  rw [List.getElem?_map, wds_get k h]
  rfl
theorem rd_left (x y : List (List ByteArray)) (i : Nat) (h : i < x.length) : rd_L1 (x ++ y) (i : Int) = rd_L1 x (i : Int) := by
  show (x ++ y).getD _ _ = x.getD _ _
  rw [Int.toNat_natCast, List.getD_eq_getElem?_getD, List.getD_eq_getElem?_getD, List.getElem?_append_left h]
theorem rd_wide (x : List (List ByteArray)) (i : Nat) (h : i < x.length) : rd_L1 (wide x) (i : Int) = rd_L1 x (i : Int) ++ wds 20 := by
  show (wide x).getD _ _ = x.getD _ _ ++ _
  rw [Int.toNat_natCast, List.getD_eq_getElem?_getD, List.getD_eq_getElem?_getD]
  unfold wide
  rw [List.getElem?_map, List.getElem?_eq_getElem h]
  rfl
theorem rd_mark (X : List ByteArray) (j : Nat) (h : j < 20) : rdOf ByteArray.empty (X ++ wds 20) ((X.length + j : Nat) : Int) = wordB j := by
  show (X ++ wds 20).getD _ _ = _
  rw [Int.toNat_natCast, List.getD_eq_getElem?_getD, List.getElem?_append_right (by omega), show X.length + j - X.length = j by omega, wds_get j h]
  rfl
section
variable (x : List (List ByteArray)) (hx : x.length ≤ 4611686018427380000) (hl : ∀ r ∈ x, r.length ≤ 4611686018427380000)
include hx hl
theorem unt_l2 (i : Nat) (hi : i < x.length) (next : Ev (fun k => refrainlaw4_untouched.l1 k (x ++ ones 20) (wide x) x (x.length : Int) ((i + 1 : Nat) : Int)) true) : ∀ (n j : Nat), j + n = 20 →
    Ev (fun k => refrainlaw4_untouched.l2 k (x ++ ones 20) (wide x) x (x.length : Int) (i : Int) ((rd_L1 x (i : Int)).length : Int) (j : Int)) true
  | 0, j, h => by
    refine Ev.step (fun k => ?_) next
    simp only [refrainlaw4_untouched.l2]
    rw [if_neg (by omega), w64 i (by omega)]
  | n + 1, j, h => by
    have hX := hl _ (mem_rd hi)
    refine Ev.step (fun k => ?_) (unt_l2 i hi next n (j + 1) (by omega))
    simp only [refrainlaw4_untouched.l2]
    rw [if_pos (by omega), if_pos (by omega), if_pos (by rw [wide_len]; omega), wn _ j (by omega) (by omega), if_pos (by omega), rd_wide x i hi, if_pos (by rw [List.length_append, wds_len]; omega), rd_mark _ j (by omega), w64 j (by omega)]
    show (some (wordB j)).bind _ = _
    rw [Option.bind_some, if_pos rfl]
theorem unt_l1 : ∀ (n i : Nat), i + n = x.length → Ev (fun k => refrainlaw4_untouched.l1 k (x ++ ones 20) (wide x) x (x.length : Int) (i : Int)) true
  | 0, i, h => by
    refine Ev.step (f := fun _ => some true) (fun k => ?_) (Ev.now _)
    simp only [refrainlaw4_untouched.l1]
    rw [if_neg (by omega)]
  | n + 1, i, h => by
    have hi : i < x.length := by omega
    have hX := hl _ (mem_rd hi)
    have hs := row_self (rd_L1 x (i : Int)) (by omega)
    have h2 := unt_l2 x hx hl i hi (unt_l1 n (i + 1) (by omega)) 20 0 (by omega)
    have hj2 : Ev (fun k => refrainlaw4_untouched.j2 k (x ++ ones 20) (wide x) x (x.length : Int) (i : Int) ((rd_L1 x (i : Int)).length : Int) (!true)) true := by
      refine Ev.step (fun k => ?_) h2
      simp only [refrainlaw4_untouched.j2]
      rw [if_neg (by decide)]
      try rfl
    refine Ev.step (f := fun k => (refrainlaw4_sameRow.f k (rd_L1 x (i : Int)) (rd_L1 x (i : Int))).bind fun t184 => (if t184 = true then ((refrainlaw4_sameRow.f k (rd_L1 x (i : Int)) (rd_L1 x (i : Int))).bind fun t188 => (refrainlaw4_untouched.j2 k (x ++ ones 20) (wide x) x (x.length : Int) (i : Int) ((rd_L1 x (i : Int)).length : Int) (!t188))) else (refrainlaw4_untouched.j2 k (x ++ ones 20) (wide x) x (x.length : Int) (i : Int) ((rd_L1 x (i : Int)).length : Int) true))) (fun k => ?_) (Ev.bind hs ?_)
    · simp only [refrainlaw4_untouched.l1]
      rw [if_pos (by omega), if_pos (by omega), if_pos (by omega), if_pos (by rw [List.length_append]; omega), rd_left x _ i hi, if_pos (show (i : Int) < ((wide x).length : Int) by rw [wide_len]; omega), rd_wide x i hi, if_pos (by omega), if_pos (by rw [List.length_append]; omega), Int.toNat_natCast, List.take_append_of_le_length (Nat.le_refl _), List.take_length]
    · simp only [if_true]
      exact Ev.bind hs hj2
theorem unt_l0 : ∀ (n k0 : Nat), k0 + n = 20 → Ev (fun k => refrainlaw4_untouched.l0 k (x ++ ones 20) (wide x) x (x.length : Int) (k0 : Int)) true
  | 0, j, h => by
    refine Ev.step (fun k => ?_) (unt_l1 x hx hl x.length 0 (by omega))
    simp only [refrainlaw4_untouched.l0]
    rw [if_neg (by omega)]
    rfl
  | n + 1, j, h => by
    refine Ev.step (fun k => ?_) (unt_l0 n (j + 1) (by omega))
    simp only [refrainlaw4_untouched.l0]
    rw [if_pos (by omega), wn _ j (by omega) (by omega), if_pos (by omega), if_pos (by rw [List.length_append, ones_len]; omega), rd_ones x j (by omega), if_pos (show (([wordB j] : List ByteArray).length : Int) = 1 from rfl), if_pos (show (0 : Int) < (([wordB j] : List ByteArray).length : Int) by rw [List.length_singleton]; decide), w64 j (by omega)]
    show (some (wordB j)).bind _ = _
    rw [Option.bind_some, if_pos (show (rdOf ByteArray.empty [wordB j] 0).toList = (wordB j).toList from rfl)]
theorem unt_ev : Ev (fun k => refrainlaw4_untouched.f k (x ++ ones 20) (wide x) x) true := by
  refine Ev.congr (fun k => ?_) (unt_l0 x hx hl 20 0 (by omega))
  unfold refrainlaw4_untouched.f
  have e : ((x ++ ones 20).length : Int) = wrap64 ((x.length : Int) + 20) := by
    rw [List.length_append, ones_len]
    exact (wn x.length 20 (by omega) (by omega)).symm
  rw [if_pos e]
  rfl
end
end Go.Proofs.YthmcapdakplhdaaDoor.PuCsv

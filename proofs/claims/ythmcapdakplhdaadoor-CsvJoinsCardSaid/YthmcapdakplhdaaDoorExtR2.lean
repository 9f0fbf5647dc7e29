import Derived.Test.YthmcapdakplhdaaDoorExtR1
namespace Go.Proofs.YthmcapdakplhdaaDoor.Pr
open Go.RowKit Go.Proofs.YthmcapdakplhdaaDoorW.PrintWords Go.Proofs.YthmcapdakplhdaaDoorW.PrintLast Go.Proofs.YthmcapdakplhdaaDoorW.PrintMore
set_option maxRecDepth 100000
set_option linter.unusedVariables false
set_option linter.unusedSimpArgs false
attribute [local go_sem high] Go.Proofs.YthmcapdakplhdaaDoor.isSome_setCell

theorem builder_keep {T e : TypeId} {B b : Nat} {bs : List Value} {w w' : World} (h : Lib.IsBuilderF T e B b bs w) (hk : ∀ k o, B ≤ k → w.heap[k]? = some o → w'.heap[k]? = some o) : Lib.IsBuilderF T e B b bs w' := by
  have key : ∀ p, Lib.BuilderAtF T e B b p bs w → Lib.BuilderAtF T e B b p bs w' := by
    rintro p ⟨h1, v, h2, ⟨h3, h4⟩, h5⟩
    refine ⟨h1, v, hk _ _ h1 h2, ⟨h3, ?_⟩, h5⟩
    rcases h4 with hn | ⟨g, cap, cur, fz, hv, hbg, hgg, rest⟩
    · exact .inl hn
    · exact .inr ⟨g, cap, cur, fz, hv, hbg, hk _ _ hbg hgg, rest⟩
  rcases h with h | h
  · exact .inl (key _ h)
  · exact .inr (key _ h)
theorem builder_far_at {T e : TypeId} {B b c i : Nat} {u q : Value} {bs : List Value} {w : World} (h : Lib.BuilderAtF T e B b q bs w) (hc : c < B) : Lib.BuilderAtF T e B b q bs (w.setCell ⟨c, i, none⟩ u) := by
  obtain ⟨h1, v, h2, ⟨h3, h4⟩, h5⟩ := h
  have hk : ∀ k o, B ≤ k → w.heap[k]? = some o → (w.setCell ⟨c, i, none⟩ u).heap[k]? = some o := fun k o hk ho => (Below.heap_setCell w ⟨c, i, none⟩ u k (by show k ≠ c; omega)).trans ho
  refine ⟨h1, v, hk _ _ h1 h2, ⟨h3, ?_⟩, h5⟩
  rcases h4 with hn | ⟨g, cap, cur, fz, hv, hbg, hgg, rest⟩
  · exact .inl hn
  · exact .inr ⟨g, cap, cur, fz, hv, hbg, hk _ _ hbg hgg, rest⟩
theorem builder_far {T e : TypeId} {B b c i : Nat} {u : Value} {bs : List Value} {w : World} (h : Lib.IsBuilderF T e B b bs w) (hc : c < B) : Lib.IsBuilderF T e B b bs (w.setCell ⟨c, i, none⟩ u) :=
  builder_keep h (fun k o hk ho => (Below.heap_setCell w ⟨c, i, none⟩ u k (by show k ≠ c; omega)).trans ho)
theorem builder_drewN {T e : TypeId} {B b : Nat} {bs : List Value} {w : World} (h : Lib.IsBuilderF T e B b bs w) (n : Nat) : Lib.IsBuilderF T e B b bs (w.drewN n) := builder_keep h (fun _ _ _ ho => ho)
theorem gr_below {w w1 w2 : World} {row : Option Nat} {B : Nat} (h : w.grownBy w1 row) (k : Below B w1 w2) (hB : w.heap.size ≤ B) : w.grownBy w2 row :=
  ⟨k.os.trans h.os, k.tape.trans h.tape, k.output.trans h.output, Nat.le_trans h.size k.size, fun j hj hr => (k.block j (Nat.lt_of_lt_of_le hj hB)).trans (h.block j hj hr)⟩
/-- What the quoted cell's reader answers. -/
def qdE (p : Nat) : Option (List UInt8 × List UInt8 × Nat) → Except Nat (List UInt8 × List UInt8 × Nat)
  | none => .error p
  | some x => .ok x
theorem Rd.kept {b : Nat} {s : ByteArray} {p : Nat} {v : Value} {w w' : World} (h : Rd b s p v w) {B : Nat} (hb : Below B w w') (hB : b < B) : Rd b s p v w' := (hb.block b hB).trans h
/-- At the head of each of the two loops. -/
def QInv (b : Nat) (s : ByteArray) (lo : Nat) (v : Value) (w : World) (ores : Option (List UInt8 × List UInt8 × Nat)) (c : Nat) (g : Nat) (wx : World) : Prop :=
  ∃ (i : Nat) (acc : List UInt8), lo ≤ i ∧ i + g = s.size ∧ acc.length ≤ i ∧ Aside0 (Rd b s i v wx) ∧ Aside0 (CsvP.qd (s.data.toList.drop i) acc i = ores) ∧ Aside0 (Lib.IsBuilderF 81 5 (c + 1) (c + 1) (Lib.byteCells acc) wx) ∧
    Aside0 (wx.heap[c]? = some (.cells #[.int .i64 0, .int .i64 0] 72 (0, 0))) ∧ Aside0 (w.grownBy wx (some b)) ∧ c + 1 < wx.heap.size
theorem bytes_snoc (acc : List UInt8) (x : UInt8) : Lib.byteCells (acc ++ [x]) = Lib.byteCells acc ++ [.int .u8 x.toNat] := by simp [Lib.byteCells]
theorem u8bn {x : UInt8} (n : UInt8) (h : x ≠ n) : ((x.toNat : Int) != (n.toNat : Int)) = true := by rw [bne, u8ne n h]; rfl
theorem Rd.put1 {b : Nat} {s : ByteArray} {p : Nat} {v : Value} {w : World} (h : Rd b s p v w) : Rd b s (p + 1) v (w.setCell ⟨b, 1, none⟩ (.int .i64 ((p : Int) + 1))) := h.put (p + 1)
theorem qd_step {c : UInt8} {t acc : List UInt8} {p : Nat} (h : c ≠ 34) : CsvP.qd (c :: t) acc p = CsvP.qd t (acc ++ [c]) (p + 1) := by
  cases t with
  | nil => simp [CsvP.qd, h]
  | cons d u => simp [CsvP.qd, h]
set_option maxHeartbeats 8000000 in
theorem csv_quoted (b : Nat) (s : ByteArray) (p : Nat) (v : Value) (w : World) (ores : Option (List UInt8 × List UInt8 × Nat)) (h : Rd b s p v w) (hp : p < s.size) (hs : s.size ≤ 65536)
    (hres : Aside0 (CsvP.qd (s.data.toList.drop (p + 1)) [] (p + 1) = ores)) :
    Calls Tryd.prog 73 #[.pointer (some ⟨b, 0, none⟩)] w fun e w' => CellOut b s v w (qdE p ores) e w' := by
  have hx0 := h.c0
  have hx1 := h.c1
  have hfz := h.fz
  have hlt := h.lt
  have H := Aside0.mk h
  clear h
  go_enter Tryd.func73, Tryd.ntmps73
  go_wp2
  go_step3
  go_wp2
  go_step3
  go_wp2
  have hq0 : QInv b s (p + 1) v w ores w.heap.size (s.size - (p + 1)) (((w.setCell ⟨b, 1, none⟩ (.int .i64 ((p : Int) + 1))).alloc (.cells #[.int .i64 0, .int .i64 0] 72)).alloc (.cells #[.pointer none, .slice none 0 0] 81)) := by
    refine ⟨p + 1, [], Nat.le_refl _, by omega, Nat.zero_le _, ⟨blk_alloc (blk_alloc (H.out.put (p + 1)) _) _⟩, hres, ⟨?_⟩, ⟨blk_alloc ?_ _⟩, ⟨gr_alloc (gr_alloc (gr_set1 _ _ _ _) _) _⟩, by simp⟩
    · have k := Lib.IsBuilderF.of (Lib.fresh_isBuilder 81 5 ((w.setCell ⟨b, 1, none⟩ (.int .i64 ((p : Int) + 1))).alloc (.cells #[.int .i64 0, .int .i64 0] 72)))
      have e : ((w.setCell ⟨b, 1, none⟩ (.int .i64 ((p : Int) + 1))).alloc (.cells #[.int .i64 0, .int .i64 0] 72)).heap.size = w.heap.size + 1 := by simp
      rw [e] at k
      exact k
    · have k := blk_new (w.setCell ⟨b, 1, none⟩ (.int .i64 ((p : Int) + 1))) (.cells #[.int .i64 0, .int .i64 0] 72)
      rw [World.size_setCell] at k
      exact k
  have HQ0 := Aside0.mk hq0
  have HLT := Aside0.mk hlt
  clear hq0 hres hx0 hx1 hfz H
  go_loopg [] (s.size - (p + 1)) (fun g wx => QInv b s (p + 1) v w ores w.heap.size g wx)
  case atStart => exact HQ0.out
  case round =>
    clear HQ0
    obtain ⟨i0, acc0, hi0, hg0, ha0, HR0, HD0, HB0, HC0, HG0, hz0⟩ := hrel
    obtain ⟨wo, rfl⟩ : ∃ wo : World, wo = wr := ⟨_, rfl⟩
    go_wp2
    go_loopg [] gk (fun g wx => QInv b s i0 v w ores w.heap.size g wx)
    case atStart => exact ⟨i0, acc0, Nat.le_refl _, hg0, ha0, HR0, HD0, HB0, HC0, HG0, hz0⟩
    case round =>
      clear HR0 HD0 HB0 HC0 HG0 hz0
      obtain ⟨i, acc, hi, hg, ha, HR, HD, HB, HC, HG, hz⟩ := hrel
      have hltB : b < w.heap.size + 1 := by have := HLT.out; omega
      have hne : b ≠ w.heap.size := by have := HLT.out; omega
      have HNE := Aside0.mk hne
      have HLB := Aside0.mk hltB
      have hy0 := HR.out.c0
      have hy1 := HR.out.c1
      have hfz := HR.out.fz
      have hzf := fun i => blk_frozen HC.out i
      have hz0 : wr.cell? ⟨w.heap.size, 0, none⟩ = some (.int .i64 0) := by simp [World.cell?, HC.out]
      have hz1 : wr.cell? ⟨w.heap.size, 1, none⟩ = some (.int .i64 0) := by simp [World.cell?, HC.out]
      have HZ := Aside0.mk hz
      clear hz hltB hne
      by_cases hlt : i < s.size
      · have hd : decide (s.size ≤ i) = false := decide_eq_false (by omega)
        have hqd := HD.out
        rw [drop_cons hlt] at hqd
        by_cases c34 : s[i] = 34
        · rw [c34] at hqd
          by_cases hl2 : i + 1 < s.size
          · have hd2 : decide (s.size ≤ i + 1) = false := decide_eq_false (by omega)
            rw [drop_cons hl2, CsvP.qd, if_pos rfl] at hqd
            by_cases d34 : s[i + 1] = 34
            · rw [if_pos d34] at hqd
              have HQ := Aside0.mk hqd
              have hlb : (Lib.byteCells acc).length = acc.length := Lib.byteCells_length acc
              clear hqd
              go_wp2_with (go_at_call 33; refine (csv_end b s i v _ HR.out).mono ?_; rintro e w2 ⟨rfl, ⟨n2, rfl⟩⟩; rw [hd])
              go_quiet (fail)
              go_wp2
              have HR1 := Aside0.mk ((HR.out.drewN (n2 + nq)).put1)
              have HB1 := Aside0.mk (builder_far (i := 1) (u := .int .i64 ((i : Int) + 1)) (builder_drewN HB.out (n2 + nq)) HLB.out)
              have HC1 : Aside0 (((wr.drewN (n2 + nq)).setCell ⟨b, 1, none⟩ (.int .i64 ((i : Int) + 1))).heap[w.heap.size]? = some (.cells #[.int .i64 0, .int .i64 0] 72 (0, 0))) := ⟨blk_far HC.out (fun h => HNE.out h.symm) _⟩
              have HG1 : Aside0 (w.grownBy ((wr.drewN (n2 + nq)).setCell ⟨b, 1, none⟩ (.int .i64 ((i : Int) + 1))) (some b)) := ⟨gr_put (gr_drewN HG.out _)⟩
              have HZ1 : Aside0 (w.heap.size + 1 < ((wr.drewN (n2 + nq)).setCell ⟨b, 1, none⟩ (.int .i64 ((i : Int) + 1))).heap.size) := ⟨by rw [World.size_setCell]; exact HZ.out⟩
              clear HR HB HC HG HZ hy0 hy1 hfz hzf hz0 hz1
              generalize (wr.drewN (n2 + nq)).setCell ⟨b, 1, none⟩ (.int .i64 ((i : Int) + 1)) = w4 at *
              have hy0 := HR1.out.c0
              have hy1 := HR1.out.c1
              have hfz := HR1.out.fz
              have hzf := fun i => blk_frozen HC1.out i
              have hz0 : w4.cell? ⟨w.heap.size, 0, none⟩ = some (.int .i64 0) := by simp [World.cell?, HC1.out]
              have hz1 : w4.cell? ⟨w.heap.size, 1, none⟩ = some (.int .i64 0) := by simp [World.cell?, HC1.out]
              go_quiet ((go_at_call 33; refine Calls.quiet_of (v := .bool false) ((csv_end b s (i + 1) v _ (HR1.out.drewN _)).mono ?_); rintro e w2 ⟨rfl, ⟨n3, rfl⟩⟩; exact ⟨by rw [hd2], _, rfl⟩))
              go_wp2_with (go_at_call 39; refine (Tryd.Builder_WriteByte_k (w.heap.size + 1) (w.heap.size + 1) _ 34 _ (builder_drewN HB1.out _) (by rw [Lib.byteCells_length]; omega) (by have := HZ1.out; simp; omega)).mono ?_; rintro e w3 ⟨rfl, hw2, hw3, hw4⟩; have HW3 := Aside0.mk hw3; have HRW := (HR1.out.drewN nq).kept hw3 HLB.out; have hyy0 := HRW.c0; have hyy1 := HRW.c1; have hyf := HRW.fz)
              go_roundg (s.size - (i + 2))
              case measure => omega
              case rel => exact ⟨i + 2, acc ++ [34], by omega, by omega, by rw [List.length_append, List.length_singleton]; omega, ⟨HRW.put1⟩, HQ, ⟨by rw [bytes_snoc]; exact .inr (builder_far_at hw2 HLB.out)⟩, ⟨blk_far ((hw3.block _ (Nat.lt_succ_self _)).trans HC1.out) (fun h => HNE.out h.symm) _⟩, ⟨gr_put (gr_below (gr_drewN HG1.out _) hw3 (Nat.le_succ _))⟩, by rw [World.size_setCell]; exact Nat.lt_of_lt_of_le HZ1.out hw3.size⟩
            · rw [if_neg d34] at hqd
              have HQ := Aside0.mk hqd
              obtain ⟨x, hx⟩ : ∃ x : UInt8, s[i + 1] = x := ⟨_, rfl⟩
              rw [hx] at d34
              have d34b : ((x.toNat : Int) == 34) = false := u8ne 34 d34
              clear d34
              clear hqd
              go_wp2_with (go_at_call 33; refine (csv_end b s i v _ HR.out).mono ?_; rintro e w2 ⟨rfl, ⟨n2, rfl⟩⟩; rw [hd])
              go_quiet (fail)
              go_wp2
              have HR1 := Aside0.mk ((HR.out.drewN (n2 + nq)).put1)
              have HB1 := Aside0.mk (builder_far (i := 1) (u := .int .i64 ((i : Int) + 1)) (builder_drewN HB.out (n2 + nq)) HLB.out)
              have HC1 : Aside0 (((wr.drewN (n2 + nq)).setCell ⟨b, 1, none⟩ (.int .i64 ((i : Int) + 1))).heap[w.heap.size]? = some (.cells #[.int .i64 0, .int .i64 0] 72 (0, 0))) := ⟨blk_far HC.out (fun h => HNE.out h.symm) _⟩
              have HG1 : Aside0 (w.grownBy ((wr.drewN (n2 + nq)).setCell ⟨b, 1, none⟩ (.int .i64 ((i : Int) + 1))) (some b)) := ⟨gr_put (gr_drewN HG.out _)⟩
              have HZ1 : Aside0 (w.heap.size + 1 < ((wr.drewN (n2 + nq)).setCell ⟨b, 1, none⟩ (.int .i64 ((i : Int) + 1))).heap.size) := ⟨by rw [World.size_setCell]; exact HZ.out⟩
              clear HR HB HC HG HZ hy0 hy1 hfz hzf hz0 hz1
              generalize (wr.drewN (n2 + nq)).setCell ⟨b, 1, none⟩ (.int .i64 ((i : Int) + 1)) = w4 at *
              have hy0 := HR1.out.c0
              have hy1 := HR1.out.c1
              have hfz := HR1.out.fz
              have hzf := fun i => blk_frozen HC1.out i
              have hz0 : w4.cell? ⟨w.heap.size, 0, none⟩ = some (.int .i64 0) := by simp [World.cell?, HC1.out]
              have hz1 : w4.cell? ⟨w.heap.size, 1, none⟩ = some (.int .i64 0) := by simp [World.cell?, HC1.out]
              go_quiet ((go_at_call 33; refine Calls.quiet_of (v := .bool false) ((csv_end b s (i + 1) v _ (HR1.out.drewN _)).mono ?_); rintro e w2 ⟨rfl, ⟨n3, rfl⟩⟩; exact ⟨by rw [hd2], _, rfl⟩))
              go_wp2_with (go_at_call 43; refine (Tryd.Builder_String_any_k (w.heap.size + 1) (w.heap.size + 1) acc _ (builder_drewN HB1.out nq) (Nat.le_of_lt HZ1.out)).mono ?_; rintro e w5 ⟨rfl, hw2, hw3, hw4⟩; have HC5 : Aside0 (w5.heap[w.heap.size]? = some (.cells #[.int .i64 0, .int .i64 0] 72 (0, 0))) := ⟨(hw3.block _ (Nat.lt_succ_self _)).trans HC1.out⟩; have hq0 : w5.cell? ⟨w.heap.size, 0, none⟩ = some (.int .i64 0) := (by simp [World.cell?, HC5.out]); have hq1 : w5.cell? ⟨w.heap.size, 1, none⟩ = some (.int .i64 0) := (by simp [World.cell?, HC5.out]); have hqf := fun i => blk_frozen HC5.out i; have HW5 := Aside0.mk hw3; clear hw2 hw3 hw4)
              rw [Exit.noGoto_ret]
              refine bodyPost_ret (fault_res rfl _ rfl (blk_put (blk_put HC5.out 0 _ rfl) 1 _ rfl)) rfl ?_
              have hr := HQ.out
              subst hr
              exact ⟨rfl, blk_far (blk_far ((HR1.out.drewN nq).kept HW5.out HLB.out) HNE.out _) HNE.out _, gr_new (gr_new (gr_below (gr_drewN HG1.out _) HW5.out (Nat.le_succ _)) (Nat.le_refl _)) (Nat.le_refl _)⟩
          · have hd2 : decide (s.size ≤ i + 1) = true := decide_eq_true (by omega)
            rw [List.drop_eq_nil_of_le (by rw [← Lib.size_eq]; omega), CsvP.qd, if_pos rfl] at hqd
            have HQ := Aside0.mk hqd
            clear hqd
            go_wp2_with (go_at_call 33; refine (csv_end b s i v _ HR.out).mono ?_; rintro e w2 ⟨rfl, ⟨n2, rfl⟩⟩; rw [hd])
            go_quiet (fail)
            go_wp2
            have HR1 := Aside0.mk ((HR.out.drewN (n2 + nq)).put1)
            have HB1 := Aside0.mk (builder_far (i := 1) (u := .int .i64 ((i : Int) + 1)) (builder_drewN HB.out (n2 + nq)) HLB.out)
            have HC1 : Aside0 (((wr.drewN (n2 + nq)).setCell ⟨b, 1, none⟩ (.int .i64 ((i : Int) + 1))).heap[w.heap.size]? = some (.cells #[.int .i64 0, .int .i64 0] 72 (0, 0))) := ⟨blk_far HC.out (fun h => HNE.out h.symm) _⟩
            have HG1 : Aside0 (w.grownBy ((wr.drewN (n2 + nq)).setCell ⟨b, 1, none⟩ (.int .i64 ((i : Int) + 1))) (some b)) := ⟨gr_put (gr_drewN HG.out _)⟩
            have HZ1 : Aside0 (w.heap.size + 1 < ((wr.drewN (n2 + nq)).setCell ⟨b, 1, none⟩ (.int .i64 ((i : Int) + 1))).heap.size) := ⟨by rw [World.size_setCell]; exact HZ.out⟩
            clear HR HB HC HG HZ hy0 hy1 hfz hzf hz0 hz1
            generalize (wr.drewN (n2 + nq)).setCell ⟨b, 1, none⟩ (.int .i64 ((i : Int) + 1)) = w4 at *
            have hy0 := HR1.out.c0
            have hy1 := HR1.out.c1
            have hfz := HR1.out.fz
            have hzf := fun i => blk_frozen HC1.out i
            have hz0 : w4.cell? ⟨w.heap.size, 0, none⟩ = some (.int .i64 0) := by simp [World.cell?, HC1.out]
            have hz1 : w4.cell? ⟨w.heap.size, 1, none⟩ = some (.int .i64 0) := by simp [World.cell?, HC1.out]
            go_quiet ((go_at_call 33; refine Calls.quiet_of (v := .bool true) ((csv_end b s (i + 1) v _ (HR1.out.drewN _)).mono ?_); rintro e w2 ⟨rfl, ⟨n3, rfl⟩⟩; exact ⟨by rw [hd2], _, rfl⟩))
            go_wp2_with (go_at_call 43; refine (Tryd.Builder_String_any_k (w.heap.size + 1) (w.heap.size + 1) acc _ (builder_drewN HB1.out nq) (Nat.le_of_lt HZ1.out)).mono ?_; rintro e w5 ⟨rfl, hw2, hw3, hw4⟩; have HC5 : Aside0 (w5.heap[w.heap.size]? = some (.cells #[.int .i64 0, .int .i64 0] 72 (0, 0))) := ⟨(hw3.block _ (Nat.lt_succ_self _)).trans HC1.out⟩; have hq0 : w5.cell? ⟨w.heap.size, 0, none⟩ = some (.int .i64 0) := (by simp [World.cell?, HC5.out]); have hq1 : w5.cell? ⟨w.heap.size, 1, none⟩ = some (.int .i64 0) := (by simp [World.cell?, HC5.out]); have hqf := fun i => blk_frozen HC5.out i; have HW5 := Aside0.mk hw3; clear hw2 hw3 hw4)
            rw [Exit.noGoto_ret]
            refine bodyPost_ret (fault_res rfl _ rfl (blk_put (blk_put HC5.out 0 _ rfl) 1 _ rfl)) rfl ?_
            have hr := HQ.out
            subst hr
            exact ⟨rfl, blk_far (blk_far ((HR1.out.drewN nq).kept HW5.out HLB.out) HNE.out _) HNE.out _, gr_new (gr_new (gr_below (gr_drewN HG1.out _) HW5.out (Nat.le_succ _)) (Nat.le_refl _)) (Nat.le_refl _)⟩
        · rw [qd_step c34] at hqd
          have HQ := Aside0.mk hqd
          have h34 : ((s[i].toNat : Int) != 34) = true := u8bn 34 c34
          clear hqd
          go_wp2_with (go_at_call 33; refine (csv_end b s i v _ HR.out).mono ?_; rintro e w2 ⟨rfl, ⟨n2, rfl⟩⟩; rw [hd])
          go_quiet (fail)
          go_wp2_with (go_at_call 39; refine (Tryd.Builder_WriteByte_k (w.heap.size + 1) (w.heap.size + 1) _ (s[i].toNat : Int) _ (builder_far (builder_drewN HB.out _) HLB.out) (by rw [Lib.byteCells_length]; omega) (by have := HZ.out; simp; omega)).mono ?_; rintro e w3 ⟨rfl, hw2, hw3, hw4⟩)
          cases gk with
          | zero => omega
          | succ g =>
            go_roundg g
            case measure => omega
            case rel => exact ⟨i + 1, acc ++ [s[i]], by omega, by omega, by rw [List.length_append, List.length_singleton]; omega, ⟨((HR.out.drewN _).put1).kept hw3 HLB.out⟩, HQ, ⟨by rw [bytes_snoc]; exact .inr hw2⟩, ⟨(hw3.block _ (Nat.lt_succ_self _)).trans (blk_far HC.out (fun h => HNE.out h.symm) _)⟩, ⟨gr_below (gr_put (gr_drewN HG.out _)) hw3 (Nat.le_succ _)⟩, by have := hw3.size; have := HZ.out; simp at *; omega⟩
      · have hd : decide (s.size ≤ i) = true := decide_eq_true (by omega)
        have hqd := HD.out
        rw [List.drop_eq_nil_of_le (by rw [← Lib.size_eq]; omega), CsvP.qd] at hqd
        go_wp2_with (go_at_call 33; refine (csv_end b s i v _ HR.out).mono ?_; rintro e w2 ⟨rfl, ⟨n2, rfl⟩⟩; rw [hd])
        rw [Exit.noGoto_ret]
        refine bodyPost_ret (fault_res rfl _ rfl (blk_put (blk_put HC.out 0 _ rfl) 1 _ rfl)) rfl ?_
        subst hqd
        exact ⟨rfl, ⟨i, blk_far (blk_far HR.out HNE.out _) HNE.out _⟩, gr_new (gr_new (gr_drewN HG.out _) (Nat.le_refl _)) (Nat.le_refl _)⟩
end Go.Proofs.YthmcapdakplhdaaDoor.Pr

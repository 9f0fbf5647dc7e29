import Derived.Test.YthmcapdakplhdaaDoorPrx0
import Derived.Test.YthmcapdakplhdaaDoorShB
import Derived.Test.YthmcapdakplhdaaDoorExtC
import Derived.Test.YthmcapdakplhdaaDoorCsvJ
import Derived.BigRegion
import Derived.Deep.QuietTactic
import Derived.BigQuiet
namespace Go.Proofs.YthmcapdakplhdaaDoor.Pr
open Go.RowKit Go.Proofs.YthmcapdakplhdaaDoorW.PrintWords Go.Proofs.YthmcapdakplhdaaDoorW.PrintLast Go.Proofs.YthmcapdakplhdaaDoorW.PrintMore
set_option maxRecDepth 100000
set_option linter.unusedVariables false
set_option linter.unusedSimpArgs false
attribute [local go_sem high] Go.Proofs.YthmcapdakplhdaaDoor.isSome_setCell

/-- The reader: its text, where it is, its rows. -/
def Rd (b : Nat) (s : ByteArray) (p : Nat) (v : Value) (w : World) : Prop := w.heap[b]? = some (.cells #[.string s, .int .i64 p, v] 70 (0, 0))
section
variable {b : Nat} {s : ByteArray} {p : Nat} {v : Value} {w w' : World}
theorem Rd.c0 (h : Rd b s p v w) : w.cell? ⟨b, 0, none⟩ = some (.string s) := by unfold Rd at h; simp [World.cell?, h]
theorem Rd.c1 (h : Rd b s p v w) : w.cell? ⟨b, 1, none⟩ = some (.int .i64 p) := by unfold Rd at h; simp [World.cell?, h]
theorem Rd.c2 (h : Rd b s p v w) : w.cell? ⟨b, 2, none⟩ = some v := by unfold Rd at h; simp [World.cell?, h]
theorem Rd.fz (h : Rd b s p v w) (i : Nat) : w.frozen? ⟨b, i, none⟩ = false := blk_frozen h i
theorem Rd.lt (h : Rd b s p v w) : b < w.heap.size := blk_lt h
theorem Rd.drewN (h : Rd b s p v w) (n : Nat) : Rd b s p v (w.drewN n) := h
theorem Rd.drawn (h : Rd b s p v w) (d : Drawn0 w w') : Rd b s p v w' := by obtain ⟨⟨n, rfl⟩⟩ := d; exact h
theorem Rd.put (h : Rd b s p v w) (q : Nat) : Rd b s q v (w.setCell ⟨b, 1, none⟩ (.int .i64 q)) := blk_put h 1 _ rfl
theorem Rd.below (h : Rd b s p v w) (hb : Below w.heap.size w w') : Rd b s p v w' := blk_below h hb
end
theorem csv_end (b : Nat) (s : ByteArray) (p : Nat) (v : Value) (w : World) (h : Rd b s p v w) :
    Calls Tryd.prog 33 #[.pointer (some ⟨b, 0, none⟩)] w fun e w' => e = .returned (.bool (decide (s.size ≤ p))) ∧ Drawn0 w w' := by
  have hx0 : w.cell? ⟨b, 0, none⟩ = some (.string s) := h.c0
  have hx1 : w.cell? ⟨b, 1, none⟩ = some (.int .i64 p) := h.c1
  clear h
  go_enter Tryd.func33, Tryd.ntmps33
  go_wp2
  go_quiet (fail)
  go_wp2
  go_ret
  exact ⟨rfl, ⟨⟨_, rfl⟩⟩⟩
/-- What a cell's reader answers. -/
def CellOut (b : Nat) (s : ByteArray) (v : Value) (w : World) (res : Except Nat (List UInt8 × List UInt8 × Nat)) (e : Ending) (w' : World) : Prop :=
  match res with
  | .error q => e = .returned (.tuple #[.string ⟨#[]⟩, .agg #[.int .i64 40, .int .i64 q]]) ∧ (∃ p', Rd b s p' v w') ∧ w.grownBy w' (some b)
  | .ok (x, _, q) => e = .returned (.tuple #[.string ⟨x.toArray⟩, .agg #[.int .i64 0, .int .i64 0]]) ∧ Rd b s q v w' ∧ w.grownBy w' (some b)
theorem gr_set1 (w : World) (c i : Nat) (u : Value) : w.grownBy (w.setCell ⟨c, i, none⟩ u) (some c) :=
  ⟨rfl, rfl, rfl, by rw [World.size_setCell]; exact Nat.le_refl _, fun k _ hk => Below.heap_setCell w ⟨c, i, none⟩ u k (fun e => hk (congrArg some e))⟩
theorem gr_new {w w1 : World} {row : Option Nat} {c i : Nat} {u : Value} (h : w.grownBy w1 row) (hc : w.heap.size ≤ c) : w.grownBy (w1.setCell ⟨c, i, none⟩ u) row :=
  have k := gr_set1 w1 c i u
  ⟨k.os.trans h.os, k.tape.trans h.tape, k.output.trans h.output, Nat.le_trans h.size k.size, fun j hj hr => (k.block j (Nat.lt_of_lt_of_le hj h.size) (by rintro ⟨⟩; omega)).trans (h.block j hj hr)⟩
theorem gr_trans {w w1 w2 : World} {row : Option Nat} (h : w.grownBy w1 row) (k : w1.grownBy w2 row) : w.grownBy w2 row :=
  ⟨k.os.trans h.os, k.tape.trans h.tape, k.output.trans h.output, Nat.le_trans h.size k.size, fun j hj hr => (k.block j (Nat.lt_of_lt_of_le hj h.size) hr).trans (h.block j hj hr)⟩
theorem gr_put {w w1 : World} {c i : Nat} {u : Value} (h : w.grownBy w1 (some c)) : w.grownBy (w1.setCell ⟨c, i, none⟩ u) (some c) := gr_trans h (gr_set1 w1 c i u)
theorem gr_drewN {w w1 : World} {row : Option Nat} (h : w.grownBy w1 row) (n : Nat) : w.grownBy (w1.drewN n) row := ⟨h.os, h.tape, h.output, h.size, h.block⟩
theorem gr_alloc {w w1 : World} {row : Option Nat} (h : w.grownBy w1 row) (o : Obj) : w.grownBy (w1.alloc o) row := gr_trans h (World.grownBy_alloc w1 o row)
/-- The fault's two cells in the result's block. -/
theorem fault_res {fn : Func} {c : Nat} {W : World} {x y : Value} (h : fn.results = #[.tmp 2, .cell 3 72]) (tmps : Array Value) (hp : tmps.getD 3 undef = .pointer (some ⟨c, 0, none⟩)) (hg : W.heap[c]? = some (.cells #[x, y] 72 (0, 0))) :
    (results fn tmps).run Tryd.prog W = .ok (.tuple #[tmps.getD 2 undef, .agg #[x, y]]) W :=
  results_tc h tmps W c 72 #[x, y] (0, 0) _ hp hg Tryd.underlying72 rfl (by kernel_rfl)
def cut_ (s : ByteArray) (p i : Nat) : List UInt8 := (s.data.toList.drop p).take (i - p)
theorem u8ne {x : UInt8} (n : UInt8) (h : x ≠ n) : ((x.toNat : Int) == (n.toNat : Int)) = false := beq_eq_false_iff_ne.2 (fun e => h (UInt8.toNat_inj.1 (by omega)))
theorem cut_ext (s : ByteArray) (p i : Nat) : s.extract p i = (⟨(cut_ s p i).toArray⟩ : ByteArray) := by
  apply ByteArray.ext
  rw [ByteArray.data_extract]
  apply Array.ext'
  rw [Array.toList_extract]
  rfl
theorem cut_snoc {s : ByteArray} {p i : Nat} (hi : p ≤ i) (h : i < s.size) : cut_ s p i ++ [s[i]] = cut_ s p (i + 1) := by
  unfold cut_
  rw [show i + 1 - p = (i - p) + 1 by omega, List.take_add_one]
  congr 1
  rw [List.getElem?_drop, show p + (i - p) = i by omega, Lib.data_getElem? s i h]
  rfl
theorem drop_cons {s : ByteArray} {i : Nat} (h : i < s.size) : s.data.toList.drop i = s[i] :: s.data.toList.drop (i + 1) := by
  have := Lib.data_getElem? s i h
  obtain ⟨h1, h2⟩ := List.getElem?_eq_some_iff.1 this
  rw [List.drop_eq_getElem_cons h1, h2]
set_option maxHeartbeats 4000000 in
theorem csv_plain (b : Nat) (s : ByteArray) (p : Nat) (v : Value) (w : World) (res : Except Nat (List UInt8 × List UInt8 × Nat)) (h : Rd b s p v w) (hp : p ≤ s.size) (hs : s.size ≤ 65536)
    (hres : Aside0 (CsvP.pl (s.data.toList.drop p) [] p = res)) :
    Calls Tryd.prog 74 #[.pointer (some ⟨b, 0, none⟩)] w fun e w' => CellOut b s v w res e w' := by
  have hx0 := h.c0
  have hx1 := h.c1
  have hlt := h.lt
  have H := Aside0.mk h
  clear h
  go_enter Tryd.func74, Tryd.ntmps74
  go_wp2
  go_loopg [] (s.size - p) (fun g wx => ∃ i : Nat, p ≤ i ∧ i + g = s.size ∧ Rd b s i v wx ∧ Aside0 (CsvP.pl (s.data.toList.drop i) (cut_ s p i) i = res) ∧ wx.heap[w.heap.size]? = some (.cells #[.int .i64 0, .int .i64 0] 72 (0, 0)) ∧ w.grownBy wx (some b))
  case atStart => exact ⟨p, Nat.le_refl _, by omega, blk_alloc H.out _, by rw [cut_, Nat.sub_self, List.take_zero]; exact hres, blk_new _ _, World.grownBy_alloc w _ _⟩
  case round =>
    obtain ⟨i, hi, hig, hR, hP, hC, hG⟩ := hrel
    have HR := Aside0.mk hR
    have hy0 := hR.c0
    have hy1 := hR.c1
    have hfz := hR.fz
    have hz0 : wr.cell? ⟨w.heap.size, 0, none⟩ = some (.int .i64 0) := by simp [World.cell?, hC]
    have hz1 : wr.cell? ⟨w.heap.size, 1, none⟩ = some (.int .i64 0) := by simp [World.cell?, hC]
    have hzf := fun i => blk_frozen hC i
    have HC := Aside0.mk hC
    have HG := Aside0.mk hG
    clear hx0 hx1 hR hC hG hres
    have hne : b ≠ w.heap.size := by omega
    by_cases hlt : i < s.size
    · have hd : decide (s.size ≤ i) = false := decide_eq_false (by omega)
      have hsl : ∀ w, (Instr.slice 9 (.string s) (some (.int .i64 p)) (some (.int .i64 i)) none).run Tryd.prog w = .ok (.string (s.extract p i)) w := fun w => run_slice_string w 9 s .i64 .i64 p i Tryd.underlying9 (by omega) (by omega) (by omega)
      have hpl := hP.out
      rw [drop_cons hlt, CsvP.pl] at hpl
      by_cases c1 : s[i] = 44 ∨ s[i] = 13 ∨ s[i] = 10
      · rw [if_pos c1] at hpl
        have HPL := Aside0.mk hpl
        clear hpl
        rcases c1 with c1 | c1 | c1
        all_goals
          go_wp2_with (go_at_call 33; refine (csv_end b s i v _ HR.out).mono ?_; rintro e w2 ⟨rfl, ⟨n2, rfl⟩⟩; rw [hd])
          go_quiet (fail)
          go_wp2
          go_region
          go_wp2
          refine bodyPost_ret (fault_res rfl _ rfl (blk_put (blk_put HC.out 0 _ rfl) 1 _ rfl)) rfl ?_
          have hr := HPL.out
          subst hr
          exact ⟨by rw [← cut_ext]; rfl, blk_far (blk_far HR.out hne _) hne _, gr_new (gr_new (gr_drewN HG.out _) (Nat.le_refl _)) (Nat.le_refl _)⟩
      · rw [if_neg c1] at hpl
        by_cases c2 : s[i] = 34
        · rw [if_pos c2] at hpl
          have HPL := Aside0.mk hpl
          clear hpl c1
          go_wp2_with (go_at_call 33; refine (csv_end b s i v _ HR.out).mono ?_; rintro e w2 ⟨rfl, ⟨n2, rfl⟩⟩; rw [hd])
          go_quiet (fail)
          go_wp2
          go_region
          go_wp2
          refine bodyPost_ret (fault_res rfl _ rfl (blk_put (blk_put HC.out 0 _ rfl) 1 _ rfl)) rfl ?_
          have hr := HPL.out
          subst hr
          exact ⟨rfl, ⟨i, blk_far (blk_far HR.out hne _) hne _⟩, gr_new (gr_new (gr_drewN HG.out _) (Nat.le_refl _)) (Nat.le_refl _)⟩
        · rw [if_neg c2] at hpl
          have HPL : Aside0 (CsvP.pl (s.data.toList.drop (i + 1)) (cut_ s p (i + 1)) (i + 1) = res) := ⟨by rw [← cut_snoc hi hlt]; exact hpl⟩
          have h44 : ((s[i].toNat : Int) == 44) = false := u8ne 44 (fun e => c1 (.inl e))
          have h13 : ((s[i].toNat : Int) == 13) = false := u8ne 13 (fun e => c1 (.inr (.inl e)))
          have h10 : ((s[i].toNat : Int) == 10) = false := u8ne 10 (fun e => c1 (.inr (.inr e)))
          have h34 : ((s[i].toNat : Int) == 34) = false := u8ne 34 c2
          clear hpl c1 c2
          go_wp2_with (go_at_call 33; refine (csv_end b s i v _ HR.out).mono ?_; rintro e w2 ⟨rfl, ⟨n2, rfl⟩⟩; rw [hd])
          go_quiet (fail)
          go_wp2
          cases gk with
          | zero => omega
          | succ g =>
            go_roundg g
            case measure => omega
            case rel => exact ⟨i + 1, by omega, by omega, HR.out.put (i + 1), HPL, blk_far HC.out (fun h => hne h.symm) _, gr_put (gr_drewN HG.out _)⟩
    · have hd : decide (s.size ≤ i) = true := decide_eq_true (by omega)
      have hie : i = s.size := by omega
      have hsl : ∀ w, (Instr.slice 9 (.string s) (some (.int .i64 p)) none none).run Tryd.prog w = .ok (.string (s.extract p s.size)) w := fun w => by rw [run_slice_string_from_if w 9 s .i64 p Tryd.underlying9, if_pos (by omega)]; rfl
      go_wp2_with (go_at_call 33; refine (csv_end b s i v _ HR.out).mono ?_; rintro e w2 ⟨rfl, ⟨n2, rfl⟩⟩; rw [hd])
      refine bodyPost_ret (fault_res rfl _ rfl (blk_put (blk_put HC.out 0 _ rfl) 1 _ rfl)) rfl ?_
      have hr := hP.out
      rw [List.drop_eq_nil_of_le (by rw [← Lib.size_eq]; omega), CsvP.pl] at hr
      subst hr
      exact ⟨by rw [hie, ← cut_ext]; rfl, blk_far (blk_far HR.out hne _) hne _, gr_new (gr_new (gr_drewN HG.out _) (Nat.le_refl _)) (Nat.le_refl _)⟩
end Go.Proofs.YthmcapdakplhdaaDoor.Pr

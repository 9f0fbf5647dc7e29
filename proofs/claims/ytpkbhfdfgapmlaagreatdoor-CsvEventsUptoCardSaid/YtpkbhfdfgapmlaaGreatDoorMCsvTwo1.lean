/-
Part 1 of the proof of the law CsvTwo: texts ExtR1, ExtR2, ExtR3, CsvD, ShC, ExtR4, ExtW0, ExtW1, ExtSh, ExtOpen, ExtBulk, ExtBulk2, Prx1, ExtCs1, ExtCs2.
-/
import Derived.BigQuiet
import Derived.BigRegion
import Derived.ChangeArms
import Derived.DataElems
import Derived.Deep.QuietTactic
import Derived.Ground.MpProg
import Derived.Handed
import Derived.Laws.RangeAny
import Derived.Lib.CountLaws
import Derived.Lib.OthersKept
import Derived.Shelf.LaysC
import Derived.Shelf.LaysM
import Derived.Shelf.Pu.ErrVarParseUint
import Derived.Shelf.Pu.ParseUintPublic10
import Derived.Shelf.Small.Strs
import Derived.Shelf.Small.Utf8
import Derived.Shelf.Small.Wraps
import Derived.Shelf.Strconv.Clone
import Derived.Shelf.Strconv.ErrVarParseInt
import Derived.Shelf.Strconv.Itoa0
import Derived.Shelf.Strconv.Itoa1
import Derived.Shelf.Strconv.Itoa2
import Derived.Shelf.Strconv.Itoa3
import Derived.Shelf.Strconv.Itoa4
import Derived.Shelf.Strconv.Lower
import Derived.Shelf.Strconv.ParseInt10
import Derived.Shelf.Strconv.ParseInt10All
import Derived.Shelf.Strconv.ParseInt10At16
import Derived.Shelf.Strconv.ParseInt10At32
import Derived.Shelf.Strconv.ParseInt10At64
import Derived.Shelf.Strconv.ParseInt10At8
import Derived.Shelf.Strconv.ParseIntEmpty
import Derived.Shelf.Strconv.ParseIntPublic10
import Derived.Shelf.Strconv.ParseUint10
import Derived.Shelf.Strconv.ParseUint10Any
import Derived.Shelf.Strconv.ParseUint10At
import Derived.Shelf.Strconv.ParseUint10Empty
import Derived.Shelf.Strconv.ParseUint10b16
import Derived.Shelf.Strconv.ParseUint10b32
import Derived.Shelf.Strconv.ParseUint10b64
import Derived.Shelf.Strconv.ParseUint10b8
import Derived.Shelf.Strconv.ParseUintEmpty
import Derived.Shelf.Strconv.RangeError
import Derived.Shelf.Strconv.SyntaxError
import Derived.Shelf.Strconv.ToError
import Derived.Shelf.Strconv.ToErrorRange
import Derived.Shelf.Strings.AsciiSet
import Derived.Shelf.Strings.Builder1
import Derived.Shelf.Strings.Builder2
import Derived.Shelf.Strings.BuilderF
import Derived.Shelf.Strings.BuilderK
import Derived.Shelf.Strings.Count
import Derived.Shelf.Strings.IndexAny
import Derived.Shelf.Strings.IndexAnyAll
import Derived.Shelf.Strings.OnBuilder
import Derived.Shelf.Strings.Prefix
import Derived.Shelf.Strings.Replace
import Derived.Shelf.Strings.RuneCount
import Derived.Shelf.Strings.Runes
import Derived.Shelf.Strings.Search1
import Derived.Shelf.Strings.Search2
import Derived.Shelf.Strings.Search3
import Derived.Shelf.Strings.Shaped
import Derived.Shelf.Strings.Split
import Derived.Shelf.Strings.SplitShaped
import Derived.Shelf.Unicode.CaseConvert
import Derived.Shelf.Unicode.CaseLaid
import Derived.Shelf.Unicode.CaseLookup
import Derived.Shelf.Unicode.CaseTo
import Derived.Shelf.Unicode.Decode
import Derived.Shelf.Unicode.DecodeAny
import Derived.Shelf.Unicode.DecodeSlow
import Derived.Shelf.Unicode.Latin
import Derived.Shelf.Utf8.RuneCount
import Derived.Shelf.Vars
import Derived.SizedLaws
import Derived.Test.YtpkbhfdfgapmlaaGreatDoorMCsvTwo0
import Derived.Test.YtpkbhfdfgapmlaaGreatDoorProg
import Derived.Test.YtpkbhfdfgapmlaaGreatDoorRows
/-! ## text ExtR1 -/
section
namespace Go.Proofs.YtpkbhfdfgapmlaaGreatDoor.Pr
open Go.RowKit Go.Proofs.YtpkbhfdfgapmlaaGreatDoorW.PrintWords Go.Proofs.YtpkbhfdfgapmlaaGreatDoorW.PrintLast Go.Proofs.YtpkbhfdfgapmlaaGreatDoorW.PrintMore
set_option maxRecDepth 100000
set_option linter.unusedVariables false
set_option linter.unusedSimpArgs false
attribute [local go_sem high] Go.Proofs.YtpkbhfdfgapmlaaGreatDoor.isSome_setCell

/-- The reader: its text, where it is, its rows. -/
def Rd (b : Nat) (s : ByteArray) (p : Nat) (v : Value) (w : World) : Prop := w.heap[b]? = some (.cells #[.string s, .int .i64 p, v] 105 (0, 0))
section
variable {b : Nat} {s : ByteArray} {p : Nat} {v : Value} {w w' : World}
theorem Rd.c0 (h : Rd b s p v w) : w.cell? ⟨b, 0, none⟩ = some (.string s) := by unfold Rd at h; simp [World.cell?, h]
theorem Rd.c1 (h : Rd b s p v w) : w.cell? ⟨b, 1, none⟩ = some (.int .i64 p) := by unfold Rd at h; simp [World.cell?, h]
theorem Rd.c2 (h : Rd b s p v w) : w.cell? ⟨b, 2, none⟩ = some v := by unfold Rd at h; simp [World.cell?, h]
theorem Rd.fz (h : Rd b s p v w) (i : Nat) : w.frozen? ⟨b, i, none⟩ = false := blk_frozen h i
theorem Rd.lt (h : Rd b s p v w) : b < w.heap.size := blk_lt h
theorem Rd.drewN (h : Rd b s p v w) (n : Nat) : Rd b s p v (w.drewN n) := h
theorem Rd.drawn (h : Rd b s p v w) (d : Drawn0 w w') : Rd b s p v w' := by obtain ⟨⟨n, rfl⟩⟩ := d; exact h
theorem Rd.put (h : Rd b s p v w) (q : Nat) : Rd b s q v (w.setCell ⟨b, 1, none⟩ (.int .i64 q)) := blk_put h 1 _ rfl
theorem Rd.below (h : Rd b s p v w) (hb : Below w.heap.size w w') : Rd b s p v w' := blk_below h hb
end
theorem csv_end (b : Nat) (s : ByteArray) (p : Nat) (v : Value) (w : World) (h : Rd b s p v w) :
    Calls Tryz.prog 43 #[.pointer (some ⟨b, 0, none⟩)] w fun e w' => e = .returned (.bool (decide (s.size ≤ p))) ∧ Drawn0 w w' := by
  have hx0 : w.cell? ⟨b, 0, none⟩ = some (.string s) := h.c0
  have hx1 : w.cell? ⟨b, 1, none⟩ = some (.int .i64 p) := h.c1
  clear h
  go_enter Tryz.func43, Tryz.ntmps43
  go_wp2
  go_quiet (fail)
  go_wp2
  go_ret
  exact ⟨rfl, ⟨⟨_, rfl⟩⟩⟩
/-- What a cell's reader answers. -/
def CellOut (b : Nat) (s : ByteArray) (v : Value) (w : World) (res : Except Nat (List UInt8 × List UInt8 × Nat)) (e : Ending) (w' : World) : Prop :=
  match res with
  | .error q => e = .returned (.tuple #[.string ⟨#[]⟩, .agg #[.int .i64 40, .int .i64 q]]) ∧ (∃ p', Rd b s p' v w') ∧ w.grownBy w' (some b)
  | .ok (x, _, q) => e = .returned (.tuple #[.string ⟨x.toArray⟩, .agg #[.int .i64 0, .int .i64 0]]) ∧ Rd b s q v w' ∧ w.grownBy w' (some b)
theorem gr_set1 (w : World) (c i : Nat) (u : Value) : w.grownBy (w.setCell ⟨c, i, none⟩ u) (some c) :=
  ⟨rfl, rfl, rfl, by rw [World.size_setCell]; exact Nat.le_refl _, fun k _ hk => Below.heap_setCell w ⟨c, i, none⟩ u k (fun e => hk (congrArg some e))⟩
theorem gr_new {w w1 : World} {row : Option Nat} {c i : Nat} {u : Value} (h : w.grownBy w1 row) (hc : w.heap.size ≤ c) : w.grownBy (w1.setCell ⟨c, i, none⟩ u) row :=
  have k := gr_set1 w1 c i u
  ⟨k.os.trans h.os, k.tape.trans h.tape, k.output.trans h.output, Nat.le_trans h.size k.size, fun j hj hr => (k.block j (Nat.lt_of_lt_of_le hj h.size) (by rintro ⟨⟩; omega)).trans (h.block j hj hr)⟩
theorem gr_trans {w w1 w2 : World} {row : Option Nat} (h : w.grownBy w1 row) (k : w1.grownBy w2 row) : w.grownBy w2 row :=
  ⟨k.os.trans h.os, k.tape.trans h.tape, k.output.trans h.output, Nat.le_trans h.size k.size, fun j hj hr => (k.block j (Nat.lt_of_lt_of_le hj h.size) hr).trans (h.block j hj hr)⟩
theorem gr_put {w w1 : World} {c i : Nat} {u : Value} (h : w.grownBy w1 (some c)) : w.grownBy (w1.setCell ⟨c, i, none⟩ u) (some c) := gr_trans h (gr_set1 w1 c i u)
theorem gr_drewN {w w1 : World} {row : Option Nat} (h : w.grownBy w1 row) (n : Nat) : w.grownBy (w1.drewN n) row := ⟨h.os, h.tape, h.output, h.size, h.block⟩
theorem gr_alloc {w w1 : World} {row : Option Nat} (h : w.grownBy w1 row) (o : Obj) : w.grownBy (w1.alloc o) row := gr_trans h (World.grownBy_alloc w1 o row)
/-- The fault's two cells in the result's block. -/
theorem fault_res {fn : Func} {c : Nat} {W : World} {x y : Value} (h : fn.results = #[.tmp 2, .cell 3 107]) (tmps : Array Value) (hp : tmps.getD 3 undef = .pointer (some ⟨c, 0, none⟩)) (hg : W.heap[c]? = some (.cells #[x, y] 107 (0, 0))) :
    (results fn tmps).run Tryz.prog W = .ok (.tuple #[tmps.getD 2 undef, .agg #[x, y]]) W :=
  results_tc h tmps W c 107 #[x, y] (0, 0) _ hp hg Tryz.underlying107 rfl (by kernel_rfl)
def cut_ (s : ByteArray) (p i : Nat) : List UInt8 := (s.data.toList.drop p).take (i - p)
theorem u8ne {x : UInt8} (n : UInt8) (h : x ≠ n) : ((x.toNat : Int) == (n.toNat : Int)) = false := beq_eq_false_iff_ne.2 (fun e => h (UInt8.toNat_inj.1 (by omega)))
theorem cut_ext (s : ByteArray) (p i : Nat) : s.extract p i = (⟨(cut_ s p i).toArray⟩ : ByteArray) := by
  apply ByteArray.ext
  rw [ByteArray.data_extract]
  apply Array.ext'
  rw [Array.toList_extract]
  rfl
theorem cut_snoc {s : ByteArray} {p i : Nat} (hi : p ≤ i) (h : i < s.size) : cut_ s p i ++ [s[i]] = cut_ s p (i + 1) := by
  unfold cut_
  rw [show i + 1 - p = (i - p) + 1 by omega, List.take_add_one]
  congr 1
  rw [List.getElem?_drop, show p + (i - p) = i by omega, Lib.data_getElem? s i h]
  rfl
theorem drop_cons {s : ByteArray} {i : Nat} (h : i < s.size) : s.data.toList.drop i = s[i] :: s.data.toList.drop (i + 1) := by
  have := Lib.data_getElem? s i h
  obtain ⟨h1, h2⟩ := List.getElem?_eq_some_iff.1 this
  rw [List.drop_eq_getElem_cons h1, h2]
set_option maxHeartbeats 4000000 in
theorem csv_plain (b : Nat) (s : ByteArray) (p : Nat) (v : Value) (w : World) (res : Except Nat (List UInt8 × List UInt8 × Nat)) (h : Rd b s p v w) (hp : p ≤ s.size) (hs : s.size ≤ 65536)
    (hres : Aside0 (CsvP.pl (s.data.toList.drop p) [] p = res)) :
    Calls Tryz.prog 91 #[.pointer (some ⟨b, 0, none⟩)] w fun e w' => CellOut b s v w res e w' := by
  have hx0 := h.c0
  have hx1 := h.c1
  have hlt := h.lt
  have H := Aside0.mk h
  clear h
  go_enter Tryz.func91, Tryz.ntmps91
  go_wp2
  go_loopg [] (s.size - p) (fun g wx => ∃ i : Nat, p ≤ i ∧ i + g = s.size ∧ Rd b s i v wx ∧ Aside0 (CsvP.pl (s.data.toList.drop i) (cut_ s p i) i = res) ∧ wx.heap[w.heap.size]? = some (.cells #[.int .i64 0, .int .i64 0] 107 (0, 0)) ∧ w.grownBy wx (some b))
  case atStart => exact ⟨p, Nat.le_refl _, by omega, blk_alloc H.out _, by rw [cut_, Nat.sub_self, List.take_zero]; exact hres, blk_new _ _, World.grownBy_alloc w _ _⟩
  case round =>
    obtain ⟨i, hi, hig, hR, hP, hC, hG⟩ := hrel
    have HR := Aside0.mk hR
    have hy0 := hR.c0
    have hy1 := hR.c1
    have hfz := hR.fz
    have hz0 : wr.cell? ⟨w.heap.size, 0, none⟩ = some (.int .i64 0) := by simp [World.cell?, hC]
    have hz1 : wr.cell? ⟨w.heap.size, 1, none⟩ = some (.int .i64 0) := by simp [World.cell?, hC]
    have hzf := fun i => blk_frozen hC i
    have HC := Aside0.mk hC
    have HG := Aside0.mk hG
    clear hx0 hx1 hR hC hG hres
    have hne : b ≠ w.heap.size := by omega
    by_cases hlt : i < s.size
    · have hd : decide (s.size ≤ i) = false := decide_eq_false (by omega)
      have hsl : ∀ w, (Instr.slice 9 (.string s) (some (.int .i64 p)) (some (.int .i64 i)) none).run Tryz.prog w = .ok (.string (s.extract p i)) w := fun w => run_slice_string w 9 s .i64 .i64 p i Tryz.underlying9 (by omega) (by omega) (by omega)
      have hpl := hP.out
      rw [drop_cons hlt, CsvP.pl] at hpl
      by_cases c1 : s[i] = 44 ∨ s[i] = 13 ∨ s[i] = 10
      · rw [if_pos c1] at hpl
        have HPL := Aside0.mk hpl
        clear hpl
        rcases c1 with c1 | c1 | c1
        all_goals
          go_wp2_with (go_at_call 43; refine (csv_end b s i v _ HR.out).mono ?_; rintro e w2 ⟨rfl, ⟨n2, rfl⟩⟩; rw [hd])
          go_quiet (fail)
          go_wp2
          go_region
          go_wp2
          refine bodyPost_ret (fault_res rfl _ rfl (blk_put (blk_put HC.out 0 _ rfl) 1 _ rfl)) rfl ?_
          have hr := HPL.out
          subst hr
          exact ⟨by rw [← cut_ext]; rfl, blk_far (blk_far HR.out hne _) hne _, gr_new (gr_new (gr_drewN HG.out _) (Nat.le_refl _)) (Nat.le_refl _)⟩
      · rw [if_neg c1] at hpl
        by_cases c2 : s[i] = 34
        · rw [if_pos c2] at hpl
          have HPL := Aside0.mk hpl
          clear hpl c1
          go_wp2_with (go_at_call 43; refine (csv_end b s i v _ HR.out).mono ?_; rintro e w2 ⟨rfl, ⟨n2, rfl⟩⟩; rw [hd])
          go_quiet (fail)
          go_wp2
          go_region
          go_wp2
          refine bodyPost_ret (fault_res rfl _ rfl (blk_put (blk_put HC.out 0 _ rfl) 1 _ rfl)) rfl ?_
          have hr := HPL.out
          subst hr
          exact ⟨rfl, ⟨i, blk_far (blk_far HR.out hne _) hne _⟩, gr_new (gr_new (gr_drewN HG.out _) (Nat.le_refl _)) (Nat.le_refl _)⟩
        · rw [if_neg c2] at hpl
          have HPL : Aside0 (CsvP.pl (s.data.toList.drop (i + 1)) (cut_ s p (i + 1)) (i + 1) = res) := ⟨by rw [← cut_snoc hi hlt]; exact hpl⟩
          have h44 : ((s[i].toNat : Int) == 44) = false := u8ne 44 (fun e => c1 (.inl e))
          have h13 : ((s[i].toNat : Int) == 13) = false := u8ne 13 (fun e => c1 (.inr (.inl e)))
          have h10 : ((s[i].toNat : Int) == 10) = false := u8ne 10 (fun e => c1 (.inr (.inr e)))
          have h34 : ((s[i].toNat : Int) == 34) = false := u8ne 34 c2
          clear hpl c1 c2
          go_wp2_with (go_at_call 43; refine (csv_end b s i v _ HR.out).mono ?_; rintro e w2 ⟨rfl, ⟨n2, rfl⟩⟩; rw [hd])
          go_quiet (fail)
          go_wp2
          cases gk with
          | zero => omega
          | succ g =>
            go_roundg g
            case measure => omega
            case rel => exact ⟨i + 1, by omega, by omega, HR.out.put (i + 1), HPL, blk_far HC.out (fun h => hne h.symm) _, gr_put (gr_drewN HG.out _)⟩
    · have hd : decide (s.size ≤ i) = true := decide_eq_true (by omega)
      have hie : i = s.size := by omega
      have hsl : ∀ w, (Instr.slice 9 (.string s) (some (.int .i64 p)) none none).run Tryz.prog w = .ok (.string (s.extract p s.size)) w := fun w => by rw [run_slice_string_from_if w 9 s .i64 p Tryz.underlying9, if_pos (by omega)]; rfl
      go_wp2_with (go_at_call 43; refine (csv_end b s i v _ HR.out).mono ?_; rintro e w2 ⟨rfl, ⟨n2, rfl⟩⟩; rw [hd])
      refine bodyPost_ret (fault_res rfl _ rfl (blk_put (blk_put HC.out 0 _ rfl) 1 _ rfl)) rfl ?_
      have hr := hP.out
      rw [List.drop_eq_nil_of_le (by rw [← Lib.size_eq]; omega), CsvP.pl] at hr
      subst hr
      exact ⟨by rw [hie, ← cut_ext]; rfl, blk_far (blk_far HR.out hne _) hne _, gr_new (gr_new (gr_drewN HG.out _) (Nat.le_refl _)) (Nat.le_refl _)⟩
end Go.Proofs.YtpkbhfdfgapmlaaGreatDoor.Pr
end

/-! ## text ExtR2 -/
section
namespace Go.Proofs.YtpkbhfdfgapmlaaGreatDoor.Pr
open Go.RowKit Go.Proofs.YtpkbhfdfgapmlaaGreatDoorW.PrintWords Go.Proofs.YtpkbhfdfgapmlaaGreatDoorW.PrintLast Go.Proofs.YtpkbhfdfgapmlaaGreatDoorW.PrintMore
set_option maxRecDepth 100000
set_option linter.unusedVariables false
set_option linter.unusedSimpArgs false
attribute [local go_sem high] Go.Proofs.YtpkbhfdfgapmlaaGreatDoor.isSome_setCell

theorem builder_keep {T e : TypeId} {B b : Nat} {bs : List Value} {w w' : World} (h : Lib.IsBuilderF T e B b bs w) (hk : ∀ k o, B ≤ k → w.heap[k]? = some o → w'.heap[k]? = some o) : Lib.IsBuilderF T e B b bs w' := by
  have key : ∀ p, Lib.BuilderAtF T e B b p bs w → Lib.BuilderAtF T e B b p bs w' := by
    rintro p ⟨h1, v, h2, ⟨h3, h4⟩, h5⟩
    refine ⟨h1, v, hk _ _ h1 h2, ⟨h3, ?_⟩, h5⟩
    rcases h4 with hn | ⟨g, cap, cur, fz, hv, hbg, hgg, rest⟩
    · exact .inl hn
    · exact .inr ⟨g, cap, cur, fz, hv, hbg, hk _ _ hbg hgg, rest⟩
  rcases h with h | h
  · exact .inl (key _ h)
  · exact .inr (key _ h)
theorem builder_far_at {T e : TypeId} {B b c i : Nat} {u q : Value} {bs : List Value} {w : World} (h : Lib.BuilderAtF T e B b q bs w) (hc : c < B) : Lib.BuilderAtF T e B b q bs (w.setCell ⟨c, i, none⟩ u) := by
  obtain ⟨h1, v, h2, ⟨h3, h4⟩, h5⟩ := h
  have hk : ∀ k o, B ≤ k → w.heap[k]? = some o → (w.setCell ⟨c, i, none⟩ u).heap[k]? = some o := fun k o hk ho => (Below.heap_setCell w ⟨c, i, none⟩ u k (by show k ≠ c; omega)).trans ho
  refine ⟨h1, v, hk _ _ h1 h2, ⟨h3, ?_⟩, h5⟩
  rcases h4 with hn | ⟨g, cap, cur, fz, hv, hbg, hgg, rest⟩
  · exact .inl hn
  · exact .inr ⟨g, cap, cur, fz, hv, hbg, hk _ _ hbg hgg, rest⟩
theorem builder_far {T e : TypeId} {B b c i : Nat} {u : Value} {bs : List Value} {w : World} (h : Lib.IsBuilderF T e B b bs w) (hc : c < B) : Lib.IsBuilderF T e B b bs (w.setCell ⟨c, i, none⟩ u) :=
  builder_keep h (fun k o hk ho => (Below.heap_setCell w ⟨c, i, none⟩ u k (by show k ≠ c; omega)).trans ho)
theorem builder_drewN {T e : TypeId} {B b : Nat} {bs : List Value} {w : World} (h : Lib.IsBuilderF T e B b bs w) (n : Nat) : Lib.IsBuilderF T e B b bs (w.drewN n) := builder_keep h (fun _ _ _ ho => ho)
theorem gr_below {w w1 w2 : World} {row : Option Nat} {B : Nat} (h : w.grownBy w1 row) (k : Below B w1 w2) (hB : w.heap.size ≤ B) : w.grownBy w2 row :=
  ⟨k.os.trans h.os, k.tape.trans h.tape, k.output.trans h.output, Nat.le_trans h.size k.size, fun j hj hr => (k.block j (Nat.lt_of_lt_of_le hj hB)).trans (h.block j hj hr)⟩
/-- What the quoted cell's reader answers. -/
def qdE (p : Nat) : Option (List UInt8 × List UInt8 × Nat) → Except Nat (List UInt8 × List UInt8 × Nat)
  | none => .error p
  | some x => .ok x
theorem Rd.kept {b : Nat} {s : ByteArray} {p : Nat} {v : Value} {w w' : World} (h : Rd b s p v w) {B : Nat} (hb : Below B w w') (hB : b < B) : Rd b s p v w' := (hb.block b hB).trans h
/-- At the head of each of the two loops. -/
def QInv (b : Nat) (s : ByteArray) (lo : Nat) (v : Value) (w : World) (ores : Option (List UInt8 × List UInt8 × Nat)) (c : Nat) (g : Nat) (wx : World) : Prop :=
  ∃ (i : Nat) (acc : List UInt8), lo ≤ i ∧ i + g = s.size ∧ acc.length ≤ i ∧ Aside0 (Rd b s i v wx) ∧ Aside0 (CsvP.qd (s.data.toList.drop i) acc i = ores) ∧ Aside0 (Lib.IsBuilderF 94 5 (c + 1) (c + 1) (Lib.byteCells acc) wx) ∧
    Aside0 (wx.heap[c]? = some (.cells #[.int .i64 0, .int .i64 0] 107 (0, 0))) ∧ Aside0 (w.grownBy wx (some b)) ∧ c + 1 < wx.heap.size
theorem bytes_snoc (acc : List UInt8) (x : UInt8) : Lib.byteCells (acc ++ [x]) = Lib.byteCells acc ++ [.int .u8 x.toNat] := by simp [Lib.byteCells]
theorem u8bn {x : UInt8} (n : UInt8) (h : x ≠ n) : ((x.toNat : Int) != (n.toNat : Int)) = true := by rw [bne, u8ne n h]; rfl
theorem Rd.put1 {b : Nat} {s : ByteArray} {p : Nat} {v : Value} {w : World} (h : Rd b s p v w) : Rd b s (p + 1) v (w.setCell ⟨b, 1, none⟩ (.int .i64 ((p : Int) + 1))) := h.put (p + 1)
theorem qd_step {c : UInt8} {t acc : List UInt8} {p : Nat} (h : c ≠ 34) : CsvP.qd (c :: t) acc p = CsvP.qd t (acc ++ [c]) (p + 1) := by
  cases t with
  | nil => simp [CsvP.qd, h]
  | cons d u => simp [CsvP.qd, h]
set_option maxHeartbeats 8000000 in
theorem csv_quoted (b : Nat) (s : ByteArray) (p : Nat) (v : Value) (w : World) (ores : Option (List UInt8 × List UInt8 × Nat)) (h : Rd b s p v w) (hp : p < s.size) (hs : s.size ≤ 65536)
    (hres : Aside0 (CsvP.qd (s.data.toList.drop (p + 1)) [] (p + 1) = ores)) :
    Calls Tryz.prog 90 #[.pointer (some ⟨b, 0, none⟩)] w fun e w' => CellOut b s v w (qdE p ores) e w' := by
  have hx0 := h.c0
  have hx1 := h.c1
  have hfz := h.fz
  have hlt := h.lt
  have H := Aside0.mk h
  clear h
  go_enter Tryz.func90, Tryz.ntmps90
  go_wp2
  go_step3
  go_wp2
  go_step3
  go_wp2
  have hq0 : QInv b s (p + 1) v w ores w.heap.size (s.size - (p + 1)) (((w.setCell ⟨b, 1, none⟩ (.int .i64 ((p : Int) + 1))).alloc (.cells #[.int .i64 0, .int .i64 0] 107)).alloc (.cells #[.pointer none, .slice none 0 0] 94)) := by
    refine ⟨p + 1, [], Nat.le_refl _, by omega, Nat.zero_le _, ⟨blk_alloc (blk_alloc (H.out.put (p + 1)) _) _⟩, hres, ⟨?_⟩, ⟨blk_alloc ?_ _⟩, ⟨gr_alloc (gr_alloc (gr_set1 _ _ _ _) _) _⟩, by simp⟩
    · have k := Lib.IsBuilderF.of (Lib.fresh_isBuilder 94 5 ((w.setCell ⟨b, 1, none⟩ (.int .i64 ((p : Int) + 1))).alloc (.cells #[.int .i64 0, .int .i64 0] 107)))
      have e : ((w.setCell ⟨b, 1, none⟩ (.int .i64 ((p : Int) + 1))).alloc (.cells #[.int .i64 0, .int .i64 0] 107)).heap.size = w.heap.size + 1 := by simp
      rw [e] at k
      exact k
    · have k := blk_new (w.setCell ⟨b, 1, none⟩ (.int .i64 ((p : Int) + 1))) (.cells #[.int .i64 0, .int .i64 0] 107)
      rw [World.size_setCell] at k
      exact k
  have HQ0 := Aside0.mk hq0
  have HLT := Aside0.mk hlt
  clear hq0 hres hx0 hx1 hfz H
  go_loopg [] (s.size - (p + 1)) (fun g wx => QInv b s (p + 1) v w ores w.heap.size g wx)
  case atStart => exact HQ0.out
  case round =>
    clear HQ0
    obtain ⟨i0, acc0, hi0, hg0, ha0, HR0, HD0, HB0, HC0, HG0, hz0⟩ := hrel
    obtain ⟨wo, rfl⟩ : ∃ wo : World, wo = wr := ⟨_, rfl⟩
    go_wp2
    go_loopg [] gk (fun g wx => QInv b s i0 v w ores w.heap.size g wx)
    case atStart => exact ⟨i0, acc0, Nat.le_refl _, hg0, ha0, HR0, HD0, HB0, HC0, HG0, hz0⟩
    case round =>
      clear HR0 HD0 HB0 HC0 HG0 hz0
      obtain ⟨i, acc, hi, hg, ha, HR, HD, HB, HC, HG, hz⟩ := hrel
      have hltB : b < w.heap.size + 1 := by have := HLT.out; omega
      have hne : b ≠ w.heap.size := by have := HLT.out; omega
      have HNE := Aside0.mk hne
      have HLB := Aside0.mk hltB
      have hy0 := HR.out.c0
      have hy1 := HR.out.c1
      have hfz := HR.out.fz
      have hzf := fun i => blk_frozen HC.out i
      have hz0 : wr.cell? ⟨w.heap.size, 0, none⟩ = some (.int .i64 0) := by simp [World.cell?, HC.out]
      have hz1 : wr.cell? ⟨w.heap.size, 1, none⟩ = some (.int .i64 0) := by simp [World.cell?, HC.out]
      have HZ := Aside0.mk hz
      clear hz hltB hne
      by_cases hlt : i < s.size
      · have hd : decide (s.size ≤ i) = false := decide_eq_false (by omega)
        have hqd := HD.out
        rw [drop_cons hlt] at hqd
        by_cases c34 : s[i] = 34
        · rw [c34] at hqd
          by_cases hl2 : i + 1 < s.size
          · have hd2 : decide (s.size ≤ i + 1) = false := decide_eq_false (by omega)
            rw [drop_cons hl2, CsvP.qd, if_pos rfl] at hqd
            by_cases d34 : s[i + 1] = 34
            · rw [if_pos d34] at hqd
              have HQ := Aside0.mk hqd
              have hlb : (Lib.byteCells acc).length = acc.length := Lib.byteCells_length acc
              clear hqd
              go_wp2_with (go_at_call 43; refine (csv_end b s i v _ HR.out).mono ?_; rintro e w2 ⟨rfl, ⟨n2, rfl⟩⟩; rw [hd])
              go_quiet (fail)
              go_wp2
              have HR1 := Aside0.mk ((HR.out.drewN (n2 + nq)).put1)
              have HB1 := Aside0.mk (builder_far (i := 1) (u := .int .i64 ((i : Int) + 1)) (builder_drewN HB.out (n2 + nq)) HLB.out)
              have HC1 : Aside0 (((wr.drewN (n2 + nq)).setCell ⟨b, 1, none⟩ (.int .i64 ((i : Int) + 1))).heap[w.heap.size]? = some (.cells #[.int .i64 0, .int .i64 0] 107 (0, 0))) := ⟨blk_far HC.out (fun h => HNE.out h.symm) _⟩
              have HG1 : Aside0 (w.grownBy ((wr.drewN (n2 + nq)).setCell ⟨b, 1, none⟩ (.int .i64 ((i : Int) + 1))) (some b)) := ⟨gr_put (gr_drewN HG.out _)⟩
              have HZ1 : Aside0 (w.heap.size + 1 < ((wr.drewN (n2 + nq)).setCell ⟨b, 1, none⟩ (.int .i64 ((i : Int) + 1))).heap.size) := ⟨by rw [World.size_setCell]; exact HZ.out⟩
              clear HR HB HC HG HZ hy0 hy1 hfz hzf hz0 hz1
              generalize (wr.drewN (n2 + nq)).setCell ⟨b, 1, none⟩ (.int .i64 ((i : Int) + 1)) = w4 at *
              have hy0 := HR1.out.c0
              have hy1 := HR1.out.c1
              have hfz := HR1.out.fz
              have hzf := fun i => blk_frozen HC1.out i
              have hz0 : w4.cell? ⟨w.heap.size, 0, none⟩ = some (.int .i64 0) := by simp [World.cell?, HC1.out]
              have hz1 : w4.cell? ⟨w.heap.size, 1, none⟩ = some (.int .i64 0) := by simp [World.cell?, HC1.out]
              go_quiet ((go_at_call 43; refine Calls.quiet_of (v := .bool false) ((csv_end b s (i + 1) v _ (HR1.out.drewN _)).mono ?_); rintro e w2 ⟨rfl, ⟨n3, rfl⟩⟩; exact ⟨by rw [hd2], _, rfl⟩))
              go_wp2_with (go_at_call 38; refine (Tryz.Builder_WriteByte_k (w.heap.size + 1) (w.heap.size + 1) _ 34 _ (builder_drewN HB1.out _) (by rw [Lib.byteCells_length]; omega) (by have := HZ1.out; simp; omega)).mono ?_; rintro e w3 ⟨rfl, hw2, hw3, hw4⟩; have HW3 := Aside0.mk hw3; have HRW := (HR1.out.drewN nq).kept hw3 HLB.out; have hyy0 := HRW.c0; have hyy1 := HRW.c1; have hyf := HRW.fz)
              go_roundg (s.size - (i + 2))
              case measure => omega
              case rel => exact ⟨i + 2, acc ++ [34], by omega, by omega, by rw [List.length_append, List.length_singleton]; omega, ⟨HRW.put1⟩, HQ, ⟨by rw [bytes_snoc]; exact .inr (builder_far_at hw2 HLB.out)⟩, ⟨blk_far ((hw3.block _ (Nat.lt_succ_self _)).trans HC1.out) (fun h => HNE.out h.symm) _⟩, ⟨gr_put (gr_below (gr_drewN HG1.out _) hw3 (Nat.le_succ _))⟩, by rw [World.size_setCell]; exact Nat.lt_of_lt_of_le HZ1.out hw3.size⟩
            · rw [if_neg d34] at hqd
              have HQ := Aside0.mk hqd
              obtain ⟨x, hx⟩ : ∃ x : UInt8, s[i + 1] = x := ⟨_, rfl⟩
              rw [hx] at d34
              have d34b : ((x.toNat : Int) == 34) = false := u8ne 34 d34
              clear d34
              clear hqd
              go_wp2_with (go_at_call 43; refine (csv_end b s i v _ HR.out).mono ?_; rintro e w2 ⟨rfl, ⟨n2, rfl⟩⟩; rw [hd])
              go_quiet (fail)
              go_wp2
              have HR1 := Aside0.mk ((HR.out.drewN (n2 + nq)).put1)
              have HB1 := Aside0.mk (builder_far (i := 1) (u := .int .i64 ((i : Int) + 1)) (builder_drewN HB.out (n2 + nq)) HLB.out)
              have HC1 : Aside0 (((wr.drewN (n2 + nq)).setCell ⟨b, 1, none⟩ (.int .i64 ((i : Int) + 1))).heap[w.heap.size]? = some (.cells #[.int .i64 0, .int .i64 0] 107 (0, 0))) := ⟨blk_far HC.out (fun h => HNE.out h.symm) _⟩
              have HG1 : Aside0 (w.grownBy ((wr.drewN (n2 + nq)).setCell ⟨b, 1, none⟩ (.int .i64 ((i : Int) + 1))) (some b)) := ⟨gr_put (gr_drewN HG.out _)⟩
              have HZ1 : Aside0 (w.heap.size + 1 < ((wr.drewN (n2 + nq)).setCell ⟨b, 1, none⟩ (.int .i64 ((i : Int) + 1))).heap.size) := ⟨by rw [World.size_setCell]; exact HZ.out⟩
              clear HR HB HC HG HZ hy0 hy1 hfz hzf hz0 hz1
              generalize (wr.drewN (n2 + nq)).setCell ⟨b, 1, none⟩ (.int .i64 ((i : Int) + 1)) = w4 at *
              have hy0 := HR1.out.c0
              have hy1 := HR1.out.c1
              have hfz := HR1.out.fz
              have hzf := fun i => blk_frozen HC1.out i
              have hz0 : w4.cell? ⟨w.heap.size, 0, none⟩ = some (.int .i64 0) := by simp [World.cell?, HC1.out]
              have hz1 : w4.cell? ⟨w.heap.size, 1, none⟩ = some (.int .i64 0) := by simp [World.cell?, HC1.out]
              go_quiet ((go_at_call 43; refine Calls.quiet_of (v := .bool false) ((csv_end b s (i + 1) v _ (HR1.out.drewN _)).mono ?_); rintro e w2 ⟨rfl, ⟨n3, rfl⟩⟩; exact ⟨by rw [hd2], _, rfl⟩))
              go_wp2_with (go_at_call 42; refine (Tryz.Builder_String_any_k (w.heap.size + 1) (w.heap.size + 1) acc _ (builder_drewN HB1.out nq) (Nat.le_of_lt HZ1.out)).mono ?_; rintro e w5 ⟨rfl, hw2, hw3, hw4⟩; have HC5 : Aside0 (w5.heap[w.heap.size]? = some (.cells #[.int .i64 0, .int .i64 0] 107 (0, 0))) := ⟨(hw3.block _ (Nat.lt_succ_self _)).trans HC1.out⟩; have hq0 : w5.cell? ⟨w.heap.size, 0, none⟩ = some (.int .i64 0) := (by simp [World.cell?, HC5.out]); have hq1 : w5.cell? ⟨w.heap.size, 1, none⟩ = some (.int .i64 0) := (by simp [World.cell?, HC5.out]); have hqf := fun i => blk_frozen HC5.out i; have HW5 := Aside0.mk hw3; clear hw2 hw3 hw4)
              rw [Exit.noGoto_ret]
              refine bodyPost_ret (fault_res rfl _ rfl (blk_put (blk_put HC5.out 0 _ rfl) 1 _ rfl)) rfl ?_
              have hr := HQ.out
              subst hr
              exact ⟨rfl, blk_far (blk_far ((HR1.out.drewN nq).kept HW5.out HLB.out) HNE.out _) HNE.out _, gr_new (gr_new (gr_below (gr_drewN HG1.out _) HW5.out (Nat.le_succ _)) (Nat.le_refl _)) (Nat.le_refl _)⟩
          · have hd2 : decide (s.size ≤ i + 1) = true := decide_eq_true (by omega)
            rw [List.drop_eq_nil_of_le (by rw [← Lib.size_eq]; omega), CsvP.qd, if_pos rfl] at hqd
            have HQ := Aside0.mk hqd
            clear hqd
            go_wp2_with (go_at_call 43; refine (csv_end b s i v _ HR.out).mono ?_; rintro e w2 ⟨rfl, ⟨n2, rfl⟩⟩; rw [hd])
            go_quiet (fail)
            go_wp2
            have HR1 := Aside0.mk ((HR.out.drewN (n2 + nq)).put1)
            have HB1 := Aside0.mk (builder_far (i := 1) (u := .int .i64 ((i : Int) + 1)) (builder_drewN HB.out (n2 + nq)) HLB.out)
            have HC1 : Aside0 (((wr.drewN (n2 + nq)).setCell ⟨b, 1, none⟩ (.int .i64 ((i : Int) + 1))).heap[w.heap.size]? = some (.cells #[.int .i64 0, .int .i64 0] 107 (0, 0))) := ⟨blk_far HC.out (fun h => HNE.out h.symm) _⟩
            have HG1 : Aside0 (w.grownBy ((wr.drewN (n2 + nq)).setCell ⟨b, 1, none⟩ (.int .i64 ((i : Int) + 1))) (some b)) := ⟨gr_put (gr_drewN HG.out _)⟩
            have HZ1 : Aside0 (w.heap.size + 1 < ((wr.drewN (n2 + nq)).setCell ⟨b, 1, none⟩ (.int .i64 ((i : Int) + 1))).heap.size) := ⟨by rw [World.size_setCell]; exact HZ.out⟩
            clear HR HB HC HG HZ hy0 hy1 hfz hzf hz0 hz1
            generalize (wr.drewN (n2 + nq)).setCell ⟨b, 1, none⟩ (.int .i64 ((i : Int) + 1)) = w4 at *
            have hy0 := HR1.out.c0
            have hy1 := HR1.out.c1
            have hfz := HR1.out.fz
            have hzf := fun i => blk_frozen HC1.out i
            have hz0 : w4.cell? ⟨w.heap.size, 0, none⟩ = some (.int .i64 0) := by simp [World.cell?, HC1.out]
            have hz1 : w4.cell? ⟨w.heap.size, 1, none⟩ = some (.int .i64 0) := by simp [World.cell?, HC1.out]
            go_quiet ((go_at_call 43; refine Calls.quiet_of (v := .bool true) ((csv_end b s (i + 1) v _ (HR1.out.drewN _)).mono ?_); rintro e w2 ⟨rfl, ⟨n3, rfl⟩⟩; exact ⟨by rw [hd2], _, rfl⟩))
            go_wp2_with (go_at_call 42; refine (Tryz.Builder_String_any_k (w.heap.size + 1) (w.heap.size + 1) acc _ (builder_drewN HB1.out nq) (Nat.le_of_lt HZ1.out)).mono ?_; rintro e w5 ⟨rfl, hw2, hw3, hw4⟩; have HC5 : Aside0 (w5.heap[w.heap.size]? = some (.cells #[.int .i64 0, .int .i64 0] 107 (0, 0))) := ⟨(hw3.block _ (Nat.lt_succ_self _)).trans HC1.out⟩; have hq0 : w5.cell? ⟨w.heap.size, 0, none⟩ = some (.int .i64 0) := (by simp [World.cell?, HC5.out]); have hq1 : w5.cell? ⟨w.heap.size, 1, none⟩ = some (.int .i64 0) := (by simp [World.cell?, HC5.out]); have hqf := fun i => blk_frozen HC5.out i; have HW5 := Aside0.mk hw3; clear hw2 hw3 hw4)
            rw [Exit.noGoto_ret]
            refine bodyPost_ret (fault_res rfl _ rfl (blk_put (blk_put HC5.out 0 _ rfl) 1 _ rfl)) rfl ?_
            have hr := HQ.out
            subst hr
            exact ⟨rfl, blk_far (blk_far ((HR1.out.drewN nq).kept HW5.out HLB.out) HNE.out _) HNE.out _, gr_new (gr_new (gr_below (gr_drewN HG1.out _) HW5.out (Nat.le_succ _)) (Nat.le_refl _)) (Nat.le_refl _)⟩
        · rw [qd_step c34] at hqd
          have HQ := Aside0.mk hqd
          have h34 : ((s[i].toNat : Int) != 34) = true := u8bn 34 c34
          clear hqd
          go_wp2_with (go_at_call 43; refine (csv_end b s i v _ HR.out).mono ?_; rintro e w2 ⟨rfl, ⟨n2, rfl⟩⟩; rw [hd])
          go_quiet (fail)
          go_wp2_with (go_at_call 38; refine (Tryz.Builder_WriteByte_k (w.heap.size + 1) (w.heap.size + 1) _ (s[i].toNat : Int) _ (builder_far (builder_drewN HB.out _) HLB.out) (by rw [Lib.byteCells_length]; omega) (by have := HZ.out; simp; omega)).mono ?_; rintro e w3 ⟨rfl, hw2, hw3, hw4⟩)
          cases gk with
          | zero => omega
          | succ g =>
            go_roundg g
            case measure => omega
            case rel => exact ⟨i + 1, acc ++ [s[i]], by omega, by omega, by rw [List.length_append, List.length_singleton]; omega, ⟨((HR.out.drewN _).put1).kept hw3 HLB.out⟩, HQ, ⟨by rw [bytes_snoc]; exact .inr hw2⟩, ⟨(hw3.block _ (Nat.lt_succ_self _)).trans (blk_far HC.out (fun h => HNE.out h.symm) _)⟩, ⟨gr_below (gr_put (gr_drewN HG.out _)) hw3 (Nat.le_succ _)⟩, by have := hw3.size; have := HZ.out; simp at *; omega⟩
      · have hd : decide (s.size ≤ i) = true := decide_eq_true (by omega)
        have hqd := HD.out
        rw [List.drop_eq_nil_of_le (by rw [← Lib.size_eq]; omega), CsvP.qd] at hqd
        go_wp2_with (go_at_call 43; refine (csv_end b s i v _ HR.out).mono ?_; rintro e w2 ⟨rfl, ⟨n2, rfl⟩⟩; rw [hd])
        rw [Exit.noGoto_ret]
        refine bodyPost_ret (fault_res rfl _ rfl (blk_put (blk_put HC.out 0 _ rfl) 1 _ rfl)) rfl ?_
        subst hqd
        exact ⟨rfl, ⟨i, blk_far (blk_far HR.out HNE.out _) HNE.out _⟩, gr_new (gr_new (gr_drewN HG.out _) (Nat.le_refl _)) (Nat.le_refl _)⟩
end Go.Proofs.YtpkbhfdfgapmlaaGreatDoor.Pr
end

/-! ## text ExtR3 -/
section
namespace Go.Proofs.YtpkbhfdfgapmlaaGreatDoor.Pr
open Go.RowKit Go.Proofs.YtpkbhfdfgapmlaaGreatDoorW.PrintWords Go.Proofs.YtpkbhfdfgapmlaaGreatDoorW.PrintLast Go.Proofs.YtpkbhfdfgapmlaaGreatDoorW.PrintMore
set_option maxRecDepth 100000
set_option linter.unusedVariables false
set_option linter.unusedSimpArgs false
attribute [local go_sem high] Go.Proofs.YtpkbhfdfgapmlaaGreatDoor.isSome_setCell

/-- What a cell's reader answers, in one form. -/
def CellRes (res : Except Nat (List UInt8 × List UInt8 × Nat)) (str : ByteArray) (f0 f1 : Int) (p' : Nat) : Prop :=
  match res with
  | .error q => str = ⟨#[]⟩ ∧ f0 = 40 ∧ f1 = q
  | .ok (x, _, q) => str = ⟨x.toArray⟩ ∧ f0 = 0 ∧ f1 = 0 ∧ p' = q
theorem CellOut.uni {b : Nat} {s : ByteArray} {v : Value} {w w' : World} {res : Except Nat (List UInt8 × List UInt8 × Nat)} {e : Ending} (h : CellOut b s v w res e w') :
    ∃ str f0 f1 p', e = .returned (.tuple #[.string str, .agg #[.int .i64 f0, .int .i64 f1]]) ∧ Rd b s p' v w' ∧ w.grownBy w' (some b) ∧ CellRes res str f0 f1 p' := by
  rcases res with q | ⟨x, r, q⟩
  · obtain ⟨h1, ⟨p', h2⟩, h3⟩ := h
    exact ⟨_, _, _, p', h1, h2, h3, rfl, rfl, rfl⟩
  · obtain ⟨h1, h2, h3⟩ := h
    exact ⟨_, _, _, q, h1, h2, h3, rfl, rfl, rfl, rfl⟩
theorem CellOut.of_uni {b : Nat} {s : ByteArray} {v : Value} {w w' : World} {res : Except Nat (List UInt8 × List UInt8 × Nat)} {str : ByteArray} {f0 f1 : Int} {p' : Nat} (h2 : Rd b s p' v w') (h3 : w.grownBy w' (some b)) (h : CellRes res str f0 f1 p') :
    CellOut b s v w res (.returned (.tuple #[.string str, .agg #[.int .i64 f0, .int .i64 f1]])) w' := by
  rcases res with q | ⟨x, r, q⟩
  · obtain ⟨rfl, rfl, rfl⟩ := h
    exact ⟨rfl, ⟨p', h2⟩, h3⟩
  · obtain ⟨rfl, rfl, rfl, rfl⟩ := h
    exact ⟨rfl, h2, h3⟩
set_option maxHeartbeats 8000000 in
theorem csv_cell (b : Nat) (s : ByteArray) (p : Nat) (v : Value) (w : World) (res : Except Nat (List UInt8 × List UInt8 × Nat)) (h : Rd b s p v w) (hp : p ≤ s.size) (hs : s.size ≤ 65536)
    (hres : Aside0 (CsvP.cellL (s.data.toList.drop p) p = res)) :
    Calls Tryz.prog 73 #[.pointer (some ⟨b, 0, none⟩)] w fun e w' => CellOut b s v w res e w' := by
  have hx0 := h.c0
  have hx1 := h.c1
  have hne : b ≠ w.heap.size := Nat.ne_of_lt h.lt
  have HNE := Aside0.mk hne
  have HLT := Aside0.mk h.lt
  have H := Aside0.mk h
  clear h hne
  go_enter Tryz.func73, Tryz.ntmps73
  go_wp2
  have H1 := Aside0.mk (blk_alloc H.out (.cells #[.int .i64 0, .int .i64 0] 107))
  have HC1 := Aside0.mk (blk_new w (.cells #[.int .i64 0, .int .i64 0] 107))
  have HG1 := Aside0.mk (World.grownBy_alloc w (.cells #[.int .i64 0, .int .i64 0] 107) (some b))
  have HS1 : Aside0 (w.heap.size < (w.alloc (.cells #[.int .i64 0, .int .i64 0] 107)).heap.size) := ⟨by simp⟩
  clear hx0 hx1 H
  generalize hw1 : w.alloc (.cells #[.int .i64 0, .int .i64 0] 107) = w1 at *
  clear hw1
  replace H1 : Aside0 (Rd b s p v w1) := H1
  have hx0 := H1.out.c0
  have hx1 := H1.out.c1
  by_cases hlt : p < s.size
  · have hd : decide (s.size ≤ p) = false := decide_eq_false (by omega)
    have hcl := hres.out
    rw [drop_cons hlt] at hcl
    by_cases c34 : s[p] = 34
    · rw [c34, CsvP.cellL] at hcl
      have HQ : Aside0 (qdE p (CsvP.qd (s.data.toList.drop (p + 1)) [] (p + 1)) = res) := ⟨by rw [← hcl]; cases CsvP.qd (s.data.toList.drop (p + 1)) [] (p + 1) <;> rfl⟩
      clear hcl hres
      go_quiet ((go_at_call 43; refine Calls.quiet_of (v := .bool false) ((csv_end b s p v _ (H1.out.drewN _)).mono ?_); rintro e w2 ⟨rfl, ⟨n3, rfl⟩⟩; exact ⟨by rw [hd], _, rfl⟩))
      go_wp2_with (go_at_call 90; refine (HQ.out ▸ csv_quoted b s p v _ _ (H1.out.drewN nq) hlt hs ⟨rfl⟩).mono ?_; rintro e w5 hco; obtain ⟨str, f0, f1, p', rfl, hR5, hG5, hM5⟩ := hco.uni; have HC5 : Aside0 (w5.heap[w.heap.size]? = some (.cells #[.int .i64 0, .int .i64 0] 107 (0, 0))) := ⟨(hG5.block _ HS1.out (fun e => HNE.out (Option.some.inj e).symm)).trans HC1.out⟩; have hq0 : w5.cell? ⟨w.heap.size, 0, none⟩ = some (.int .i64 0) := (by simp [World.cell?, HC5.out]); have hq1 : w5.cell? ⟨w.heap.size, 1, none⟩ = some (.int .i64 0) := (by simp [World.cell?, HC5.out]); have hqf := fun i => blk_frozen HC5.out i; have HR5 := Aside0.mk hR5; have HG5 := Aside0.mk hG5; have HM5 := Aside0.mk hM5; clear hR5 hG5 hM5)
      refine bodyPost_ret (fault_res rfl _ rfl (blk_put (blk_put HC5.out 0 _ rfl) 1 _ rfl)) rfl ?_
      exact CellOut.of_uni (blk_far (blk_far HR5.out HNE.out _) HNE.out _) (gr_new (gr_new (gr_trans (gr_drewN HG1.out _) HG5.out) (Nat.le_refl _)) (Nat.le_refl _)) HM5.out
    · have HQ : Aside0 (CsvP.pl (s.data.toList.drop p) [] p = res) := ⟨by rw [← hcl, drop_cons hlt, CsvP.cellL.eq_2]; intro t e; exact c34 (List.cons.inj e).1⟩
      obtain ⟨x, hx⟩ : ∃ x : UInt8, s[p] = x := ⟨_, rfl⟩
      rw [hx] at c34
      have d34b : ((x.toNat : Int) == 34) = false := u8ne 34 c34
      clear c34 hcl hres
      go_quiet ((go_at_call 43; refine Calls.quiet_of (v := .bool false) ((csv_end b s p v _ (H1.out.drewN _)).mono ?_); rintro e w2 ⟨rfl, ⟨n3, rfl⟩⟩; exact ⟨by rw [hd], _, rfl⟩))
      go_wp2_with (go_at_call 91; refine (csv_plain b s p v _ _ (H1.out.drewN nq) hp hs HQ).mono ?_; rintro e w5 hco; obtain ⟨str, f0, f1, p', rfl, hR5, hG5, hM5⟩ := hco.uni; have HC5 : Aside0 (w5.heap[w.heap.size]? = some (.cells #[.int .i64 0, .int .i64 0] 107 (0, 0))) := ⟨(hG5.block _ HS1.out (fun e => HNE.out (Option.some.inj e).symm)).trans HC1.out⟩; have hq0 : w5.cell? ⟨w.heap.size, 0, none⟩ = some (.int .i64 0) := (by simp [World.cell?, HC5.out]); have hq1 : w5.cell? ⟨w.heap.size, 1, none⟩ = some (.int .i64 0) := (by simp [World.cell?, HC5.out]); have hqf := fun i => blk_frozen HC5.out i; have HR5 := Aside0.mk hR5; have HG5 := Aside0.mk hG5; have HM5 := Aside0.mk hM5; clear hR5 hG5 hM5)
      refine bodyPost_ret (fault_res rfl _ rfl (blk_put (blk_put HC5.out 0 _ rfl) 1 _ rfl)) rfl ?_
      exact CellOut.of_uni (blk_far (blk_far HR5.out HNE.out _) HNE.out _) (gr_new (gr_new (gr_trans (gr_drewN HG1.out _) HG5.out) (Nat.le_refl _)) (Nat.le_refl _)) HM5.out
  · have hd : decide (s.size ≤ p) = true := decide_eq_true (by omega)
    have hcl := hres.out
    have hdn : s.data.toList.drop p = [] := List.drop_eq_nil_of_le (by rw [← Lib.size_eq]; omega)
    have HQ : Aside0 (CsvP.pl (s.data.toList.drop p) [] p = res) := ⟨by rw [← hcl, hdn]; rfl⟩
    clear hdn hcl hres
    go_quiet ((go_at_call 43; refine Calls.quiet_of (v := .bool true) ((csv_end b s p v _ (H1.out.drewN _)).mono ?_); rintro e w2 ⟨rfl, ⟨n3, rfl⟩⟩; exact ⟨by rw [hd], _, rfl⟩))
    go_wp2_with (go_at_call 91; refine (csv_plain b s p v _ _ (H1.out.drewN nq) hp hs HQ).mono ?_; rintro e w5 hco; obtain ⟨str, f0, f1, p', rfl, hR5, hG5, hM5⟩ := hco.uni; have HC5 : Aside0 (w5.heap[w.heap.size]? = some (.cells #[.int .i64 0, .int .i64 0] 107 (0, 0))) := ⟨(hG5.block _ HS1.out (fun e => HNE.out (Option.some.inj e).symm)).trans HC1.out⟩; have hq0 : w5.cell? ⟨w.heap.size, 0, none⟩ = some (.int .i64 0) := (by simp [World.cell?, HC5.out]); have hq1 : w5.cell? ⟨w.heap.size, 1, none⟩ = some (.int .i64 0) := (by simp [World.cell?, HC5.out]); have hqf := fun i => blk_frozen HC5.out i; have HR5 := Aside0.mk hR5; have HG5 := Aside0.mk hG5; have HM5 := Aside0.mk hM5; clear hR5 hG5 hM5)
    refine bodyPost_ret (fault_res rfl _ rfl (blk_put (blk_put HC5.out 0 _ rfl) 1 _ rfl)) rfl ?_
    exact CellOut.of_uni (blk_far (blk_far HR5.out HNE.out _) HNE.out _) (gr_new (gr_new (gr_trans (gr_drewN HG1.out _) HG5.out) (Nat.le_refl _)) (Nat.le_refl _)) HM5.out
end Go.Proofs.YtpkbhfdfgapmlaaGreatDoor.Pr
end

/-! ## text CsvD -/
section
/- What a cell's reader leaves of the text is the text from its new place on. -/
namespace Go.Proofs.YtpkbhfdfgapmlaaGreatDoor.CsvP
theorem qd_drop : ∀ (n : Nat) (rest acc : List UInt8) (p : Nat) (x : List UInt8 × List UInt8 × Nat), rest.length = n → qd rest acc p = some x → ∃ k, x.2.1 = rest.drop k ∧ x.2.2 = p + k := by
  intro n
  induction n using Nat.strongRecOn with
  | _ n ih =>
    intro rest acc p x hn h
    match rest, hn with
    | [], _ => simp [qd] at h
    | [c], _ =>
      simp only [qd] at h
      split at h
      · cases h; exact ⟨1, rfl, rfl⟩
      · cases h
    | c :: d :: t, hn =>
      simp only [qd] at h
      split at h
      · split at h
        · obtain ⟨k, h1, h2⟩ := ih t.length (by simp at hn; omega) t _ _ x rfl h
          exact ⟨k + 2, by simpa using h1, by omega⟩
        · cases h; exact ⟨1, rfl, rfl⟩
      · obtain ⟨k, h1, h2⟩ := ih (d :: t).length (by simp at hn ⊢; omega) (d :: t) _ _ x rfl h
        exact ⟨k + 1, by simpa using h1, by omega⟩
theorem pl_drop : ∀ (rest acc : List UInt8) (p : Nat) (x : List UInt8 × List UInt8 × Nat), pl rest acc p = .ok x → ∃ k, x.2.1 = rest.drop k ∧ x.2.2 = p + k
  | [], acc, p, x, h => by
    simp only [pl] at h
    cases h; exact ⟨0, rfl, rfl⟩
  | c :: t, acc, p, x, h => by
    simp only [pl] at h
    split at h
    · cases h; exact ⟨0, rfl, rfl⟩
    · split at h
      · cases h
      · obtain ⟨k, h1, h2⟩ := pl_drop t _ _ x h
        exact ⟨k + 1, by simpa using h1, by omega⟩
theorem cell_drop (rest : List UInt8) (p : Nat) (x : List UInt8 × List UInt8 × Nat) (h : cellL rest p = .ok x) : ∃ k, x.2.1 = rest.drop k ∧ x.2.2 = p + k := by
  unfold cellL at h
  split at h
  · split at h
    · cases h
    · rename_i t y hq
      cases h
      obtain ⟨k, h1, h2⟩ := qd_drop _ _ _ _ _ rfl hq
      exact ⟨k + 1, by simpa using h1, by omega⟩
  · exact pl_drop _ _ _ _ h
theorem row_drop : ∀ (f : Nat) (rest : List UInt8) (p : Nat) (row row' : Row) (r : List UInt8) (q : Nat), rowL f rest p row = .ok (row', r, q) → ∃ k, r = rest.drop k ∧ q = p + k := by
  intro f
  induction f with
  | zero => intro rest p row row' r q h; simp [rowL] at h
  | succ f ih =>
    intro rest p row row' r q h
    rw [rowL] at h
    cases hc : cellL rest p with
    | error z => rw [hc] at h; simp at h
    | ok x =>
      obtain ⟨s, r1, q1⟩ := x
      obtain ⟨k, hk1, hk2⟩ := cell_drop rest p (s, r1, q1) hc
      simp only at hk1 hk2
      rw [hc] at h
      match r1, hk1 with
      | [], hk1 =>
        simp only [Except.ok.injEq, Prod.mk.injEq] at h
        obtain ⟨_, rfl, rfl⟩ := h
        exact ⟨k, hk1, hk2⟩
      | c :: t, hk1 =>
        have ht : t = rest.drop (k + 1) := by rw [← List.drop_drop, ← hk1]; rfl
        simp only at h
        by_cases c1 : c = 44
        · rw [if_pos c1] at h
          obtain ⟨k2, h1, h2⟩ := ih t (q1 + 1) (row ++ [s]) row' r q h
          exact ⟨k + 1 + k2, by rw [h1, ht, List.drop_drop], by omega⟩
        · rw [if_neg c1] at h
          by_cases c2 : c = 10
          · rw [if_pos c2] at h
            simp only [Except.ok.injEq, Prod.mk.injEq] at h
            obtain ⟨_, rfl, rfl⟩ := h
            exact ⟨k + 1, ht, by omega⟩
          · rw [if_neg c2] at h
            by_cases c3 : c = 13
            · rw [if_pos c3] at h
              match t, h, ht with
              | [], h, _ => simp at h
              | d :: u, h, ht =>
                by_cases hd : d = 10
                · subst hd
                  simp only [Except.ok.injEq, Prod.mk.injEq] at h
                  obtain ⟨_, rfl, rfl⟩ := h
                  exact ⟨k + 2, by rw [show k + 2 = (k + 1) + 1 by omega, ← List.drop_drop, ← ht]; rfl, by omega⟩
                · simp [hd] at h
            · rw [if_neg c3] at h
              simp at h
theorem pl_err : ∀ (rest acc : List UInt8) (p q : Nat), pl rest acc p = .error q → p ≤ q ∧ q < p + rest.length
  | [], acc, p, q, h => by simp [pl] at h
  | c :: t, acc, p, q, h => by
    simp only [pl] at h
    split at h
    · cases h
    · split at h
      · cases h; exact ⟨Nat.le_refl _, by simp⟩
      · have := pl_err t _ _ q h
        rw [List.length_cons]
        omega
theorem cell_err (rest : List UInt8) (p q : Nat) (h : cellL rest p = .error q) : p ≤ q ∧ q < p + rest.length := by
  unfold cellL at h
  split at h
  · split at h
    · cases h; exact ⟨Nat.le_refl _, by simp⟩
    · cases h
  · exact pl_err _ _ _ _ h
theorem row_err : ∀ (f : Nat) (rest : List UInt8) (p : Nat) (row : Row) (q : Nat) (e : Int), rest.length + 1 < f → rowL f rest p row = .error (q, e) → (e = 40 ∨ e = 41) ∧ p ≤ q ∧ q < p + rest.length := by
  intro f
  induction f with
  | zero => intro rest p row q e hf; omega
  | succ f ih =>
    intro rest p row q e hf h
    rw [rowL] at h
    cases hc : cellL rest p with
    | error z =>
      rw [hc] at h
      simp only [Except.error.injEq, Prod.mk.injEq] at h
      obtain ⟨rfl, rfl⟩ := h
      exact ⟨.inl rfl, cell_err _ _ _ hc⟩
    | ok x =>
      obtain ⟨s, r1, q1⟩ := x
      have hl := cell_len rest p (s, r1, q1) hc
      obtain ⟨k, hk1, hk2⟩ := cell_drop rest p (s, r1, q1) hc
      simp only at hl hk1 hk2
      rw [hc] at h
      match r1, hl with
      | [], hl => simp at h
      | c :: t, hl =>
        rw [List.length_cons] at hl
        simp only at h
        by_cases c1 : c = 44
        · rw [if_pos c1] at h
          have := ih t (q1 + 1) (row ++ [s]) q e (by omega) h
          exact ⟨this.1, by omega, by omega⟩
        · rw [if_neg c1] at h
          by_cases c2 : c = 10
          · rw [if_pos c2] at h; simp at h
          · rw [if_neg c2] at h
            by_cases c3 : c = 13
            · rw [if_pos c3] at h
              match t, h, hl with
              | [], h, hl =>
                simp only [Except.error.injEq, Prod.mk.injEq] at h
                obtain ⟨rfl, rfl⟩ := h
                exact ⟨.inr rfl, by omega, by omega⟩
              | d :: u, h, hl =>
                by_cases hd : d = 10
                · subst hd; simp at h
                · simp [hd] at h
                  obtain ⟨rfl, rfl⟩ := h
                  exact ⟨.inr rfl, by omega, by omega⟩
            · rw [if_neg c3] at h
              simp only [Except.error.injEq, Prod.mk.injEq] at h
              obtain ⟨rfl, rfl⟩ := h
              exact ⟨.inl rfl, by omega, by omega⟩
end Go.Proofs.YtpkbhfdfgapmlaaGreatDoor.CsvP
end

/-! ## text ShC -/
section
namespace Go.Proofs
open Go.Shelf
def Tryz.lays119_ren : Go.Shelf.Ren := ⟨fun | 119 => 122 | n => n, fun | 21 => 21 | 4 => 4 | n => n, fun | n => n⟩
theorem Tryz.lays119 : Go.Proofs.Lays.n119 Tryz.prog Tryz.lays119_ren := {
  mixed := by kernel_rfl
  f119 := Tryz.func122.trans (congrArg some (by kernel_rfl))
  t4 := Tryz.underlying4
  a4 := Tryz.isAgg4
  z4 := Tryz.sizeOf4
  v4 := Tryz.zeroValue4
  t21 := Tryz.underlying21
  a21 := Tryz.isAgg21
  z21 := Tryz.sizeOf21
  v21 := Tryz.zeroValue21 }
/-- utf8.ValidRune: "ValidRune reports whether r can be legally encoded as UTF-8. Code points that are out of range or a surrogate half are illegal.": IT RETURNS 'Lib.validRune r'; the world is as it was. (LAID: no walk: one application.) -/
theorem Tryz.utf8_ValidRune (r : Int) (w : World) :
    Calls Tryz.prog 122 #[.int .i32 r] w fun e w' => e = .returned (.bool (Lib.validRune r)) ∧ w' = w := Any.utf8_ValidRune Tryz.lays119 r w
def Tryz.lays137_ren : Go.Shelf.Ren := ⟨fun | 137 => 121 | 217 => 142 | 266 => 153 | n => n, fun | 9 => 9 | 5 => 5 | 3 => 3 | n => n, fun | n => n⟩
theorem Tryz.lays137 : Go.Proofs.Lays.n137 Tryz.prog Tryz.lays137_ren := {
  mixed := by kernel_rfl
  f137 := Tryz.func121.trans (congrArg some (by kernel_rfl))
  f217 := Tryz.func142.trans (congrArg some (by kernel_rfl))
  f266 := Tryz.func153.trans (congrArg some (by kernel_rfl))
  t3 := Tryz.underlying3
  a3 := Tryz.isAgg3
  z3 := Tryz.sizeOf3
  v3 := Tryz.zeroValue3
  t5 := Tryz.underlying5
  a5 := Tryz.isAgg5
  z5 := Tryz.sizeOf5
  v5 := Tryz.zeroValue5
  t9 := Tryz.underlying9
  a9 := Tryz.isAgg9
  z9 := Tryz.sizeOf9
  v9 := Tryz.zeroValue9 }
open Go.RowKit in
/-- strings.IndexByte: "IndexByte returns the index of the first instance of c in s, or -1 if c is not present in s.": IT RETURNS 'Lib.indexByte s c'; the world is as it was. (LAID: no walk: one application.) -/
theorem Tryz.strings_IndexByte (s : ByteArray) (c : Int) (w : World) :
    Calls Tryz.prog 121 #[.string s, .int .u8 c] w fun e w' => e = .returned (.int .i64 (Lib.indexByte s.data.toList c.toNat.toUInt8)) ∧ w' = w := Any.strings_IndexByte Tryz.lays137 s c w
def Tryz.lays99_ren : Go.Shelf.Ren := ⟨fun | 99 => 74 | 206 => 92 | n => n, fun | 9 => 9 | 4 => 4 | 3 => 3 | n => n, fun | n => n⟩
theorem Tryz.lays99 : Go.Proofs.Lays.n99 Tryz.prog Tryz.lays99_ren := {
  mixed := by kernel_rfl
  f99 := Tryz.func74.trans (congrArg some (by kernel_rfl))
  f206 := Tryz.func92.trans (congrArg some (by kernel_rfl))
  t3 := Tryz.underlying3
  a3 := Tryz.isAgg3
  z3 := Tryz.sizeOf3
  v3 := Tryz.zeroValue3
  t4 := Tryz.underlying4
  a4 := Tryz.isAgg4
  z4 := Tryz.sizeOf4
  v4 := Tryz.zeroValue4
  t9 := Tryz.underlying9
  a9 := Tryz.isAgg9
  z9 := Tryz.sizeOf9
  v9 := Tryz.zeroValue9 }
open Go.RowKit Go.Lib in
/-- strings.HasPrefix: "HasPrefix reports whether the string s begins with prefix.": IT RETURNS 'Lib.hasPrefix s prefix'; the world is as it was. (LAID: no walk: one application.) -/
theorem Tryz.strings_HasPrefix (s p : ByteArray) (w : World) :
    Calls Tryz.prog 74 #[.string s, .string p] w fun e w' => e = .returned (.bool (Lib.hasPrefix s.data.toList p.data.toList)) ∧ w' = w := Any.strings_HasPrefix Tryz.lays99 s p w
def Tryz.lays155_ren : Go.Shelf.Ren := ⟨fun | 155 => 72 | 154 => 89 | 138 => 106 | 165 => 98 | 143 => 107 | 166 => 39 | 197 => 108 | 169 => 42 | 195 => 125 | 218 => 126 | 240 => 70 | 241 => 116 | 219 => 127 | 260 => 128 | 276 => 87 | 277 => 139 | 217 => 142 | 225 => 124 | 224 => 123 | 267 => 143 | 266 => 153 | 314 => 154 | n => n, fun | 9 => 9 | 3 => 3 | 4 => 4 | 72 => 94 | 0 => 0 | 76 => 98 | 105 => 151 | 21 => 21 | 5 => 5 | 70 => 92 | 20 => 20 | 37 => 71 | 75 => 96 | 127 => 121 | 164 => 132 | 46 => 142 | 119 => 182 | 139 => 185 | 138 => 184 | 146 => 195 | 51 => 174 | 80 => 102 | n => n, fun | 1 => 2 | 3 => 3 | 4 => 4 | n => n⟩
theorem Tryz.lays155 : Go.Proofs.Lays.n155 Tryz.prog Tryz.lays155_ren := {
  mixed := by kernel_rfl
  f138 := Tryz.func106.trans (congrArg some (by kernel_rfl))
  f143 := Tryz.func107.trans (congrArg some (by kernel_rfl))
  f154 := Tryz.func89.trans (congrArg some (by kernel_rfl))
  f155 := Tryz.func72.trans (congrArg some (by kernel_rfl))
  f165 := Tryz.func98.trans (congrArg some (by kernel_rfl))
  f166 := Tryz.func39.trans (congrArg some (by kernel_rfl))
  f169 := Tryz.func42.trans (congrArg some (by kernel_rfl))
  f195 := Tryz.func125.trans (congrArg some (by kernel_rfl))
  f197 := Tryz.func108.trans (congrArg some (by kernel_rfl))
  f217 := Tryz.func142.trans (congrArg some (by kernel_rfl))
  f218 := Tryz.func126.trans (congrArg some (by kernel_rfl))
  f219 := Tryz.func127.trans (congrArg some (by kernel_rfl))
  f224 := Tryz.func123.trans (congrArg some (by kernel_rfl))
  f225 := Tryz.func124.trans (congrArg some (by kernel_rfl))
  f240 := Tryz.func70.trans (congrArg some (by kernel_rfl))
  f241 := Tryz.func116.trans (congrArg some (by kernel_rfl))
  f260 := Tryz.func128.trans (congrArg some (by kernel_rfl))
  f266 := Tryz.func153.trans (congrArg some (by kernel_rfl))
  f267 := Tryz.func143.trans (congrArg some (by kernel_rfl))
  f276 := Tryz.func87.trans (congrArg some (by kernel_rfl))
  f277 := Tryz.func139.trans (congrArg some (by kernel_rfl))
  f314 := Tryz.func154.trans (congrArg some (by kernel_rfl))
  t0 := Tryz.underlying0
  a0 := Tryz.isAgg0
  z0 := Tryz.sizeOf0
  v0 := Tryz.zeroValue0
  t3 := Tryz.underlying3
  a3 := Tryz.isAgg3
  z3 := Tryz.sizeOf3
  v3 := Tryz.zeroValue3
  t4 := Tryz.underlying4
  a4 := Tryz.isAgg4
  z4 := Tryz.sizeOf4
  v4 := Tryz.zeroValue4
  t5 := Tryz.underlying5
  a5 := Tryz.isAgg5
  z5 := Tryz.sizeOf5
  v5 := Tryz.zeroValue5
  t9 := Tryz.underlying9
  a9 := Tryz.isAgg9
  z9 := Tryz.sizeOf9
  v9 := Tryz.zeroValue9
  t20 := Tryz.underlying20
  a20 := Tryz.isAgg20
  z20 := Tryz.sizeOf20
  v20 := Tryz.zeroValue20
  t21 := Tryz.underlying21
  a21 := Tryz.isAgg21
  z21 := Tryz.sizeOf21
  v21 := Tryz.zeroValue21
  t37 := Tryz.underlying71
  a37 := Tryz.isAgg71
  z37 := Tryz.sizeOf71
  v37 := Tryz.zeroValue71
  t46 := Tryz.underlying142
  a46 := Tryz.isAgg142
  z46 := Tryz.sizeOf142
  v46 := Tryz.zeroValue142
  t51 := Tryz.underlying174
  a51 := Tryz.isAgg174
  z51 := Tryz.sizeOf174
  v51 := Tryz.zeroValue174
  t70 := Tryz.underlying92
  a70 := Tryz.isAgg92
  z70 := Tryz.sizeOf92
  v70 := Tryz.zeroValue92
  t72 := Tryz.underlying94
  a72 := Tryz.isAgg94
  z72 := Tryz.sizeOf94
  v72 := Tryz.zeroValue94
  t75 := Tryz.underlying96
  a75 := Tryz.isAgg96
  z75 := Tryz.sizeOf96
  v75 := Tryz.zeroValue96
  t76 := Tryz.underlying98
  a76 := Tryz.isAgg98
  z76 := Tryz.sizeOf98
  v76 := Tryz.zeroValue98
  t105 := Tryz.underlying151
  a105 := Tryz.isAgg151
  z105 := Tryz.sizeOf151
  v105 := Tryz.zeroValue151
  t119 := Tryz.underlying182
  a119 := Tryz.isAgg182
  z119 := Tryz.sizeOf182
  t127 := Tryz.underlying121
  a127 := Tryz.isAgg121
  z127 := Tryz.sizeOf121
  v127 := Tryz.zeroValue121
  t138 := Tryz.underlying184
  a138 := Tryz.isAgg184
  z138 := Tryz.sizeOf184
  v138 := Tryz.zeroValue184
  t139 := Tryz.underlying185
  a139 := Tryz.isAgg185
  z139 := Tryz.sizeOf185
  v139 := Tryz.zeroValue185
  t146 := Tryz.underlying195
  a146 := Tryz.isAgg195
  z146 := Tryz.sizeOf195
  v146 := Tryz.zeroValue195
  t164 := Tryz.underlying132
  a164 := Tryz.isAgg132
  z164 := Tryz.sizeOf132
  v164 := Tryz.zeroValue132
  g1 := by kernel_rfl
  g3 := by kernel_rfl
  g4 := by kernel_rfl }
theorem Tryz.Builder_Extra_155 : Builder.Extra Tryz.prog Tryz.lays155_ren := {
  sizeBuilder := by kernel_rfl
  liesBuilder := by kernel_rfl
  t5 := Tryz.underlying5
  a5 := Tryz.isAgg5
  z5 := Tryz.sizeOf5
  v5 := Tryz.zeroValue5
  infoByte := by kernel_rfl
  cellsByte := by kernel_rfl
  sizeByte := by kernel_rfl
  neB5 := by decide }
open Go.RowKit Go.Lib in
/-- strings.ReplaceAll: "ReplaceAll returns a copy of the string s with all non-overlapping instances of old replaced by new.": AT AN old THAT IS NOT EMPTY: 'Lib.replaceAll s old new'. (LAID: no walk: one application.) -/
theorem Tryz.strings_ReplaceAll (s old new : ByteArray) (m : Int) (w : World) (hs : s.size < 4294967281) (hm : w.cell? ⟨2, 0, none⟩ = some (.int .i64 m)) (h1 : 1 ≤ old.size) (hlen : s.size + Lib.countB s old * new.size ≤ 140737488355328) :
    Calls Tryz.prog 72 #[.string s, .string old, .string new] w fun e w' =>
      e = .returned (.string ⟨(Lib.replaceAll s.data.toList old.data.toList new.data.toList).toArray⟩) ∧ Below w.heap.size w w' := Any.strings_ReplaceAll Tryz.lays155 Tryz.Builder_Extra_155 s old new m w hs hm h1 hlen
def Tryz.lays152_ren : Go.Shelf.Ren := ⟨fun | 152 => 102 | 137 => 121 | 119 => 122 | 224 => 123 | 225 => 124 | 217 => 142 | 266 => 153 | n => n, fun | 9 => 9 | 21 => 21 | 3 => 3 | 4 => 4 | 5 => 5 | 0 => 0 | 46 => 142 | n => n, fun | n => n⟩
theorem Tryz.lays152 : Go.Proofs.Lays.n152 Tryz.prog Tryz.lays152_ren := {
  mixed := by kernel_rfl
  f119 := Tryz.func122.trans (congrArg some (by kernel_rfl))
  f137 := Tryz.func121.trans (congrArg some (by kernel_rfl))
  f152 := Tryz.func102.trans (congrArg some (by kernel_rfl))
  f217 := Tryz.func142.trans (congrArg some (by kernel_rfl))
  f224 := Tryz.func123.trans (congrArg some (by kernel_rfl))
  f225 := Tryz.func124.trans (congrArg some (by kernel_rfl))
  f266 := Tryz.func153.trans (congrArg some (by kernel_rfl))
  t0 := Tryz.underlying0
  a0 := Tryz.isAgg0
  z0 := Tryz.sizeOf0
  v0 := Tryz.zeroValue0
  t3 := Tryz.underlying3
  a3 := Tryz.isAgg3
  z3 := Tryz.sizeOf3
  v3 := Tryz.zeroValue3
  t4 := Tryz.underlying4
  a4 := Tryz.isAgg4
  z4 := Tryz.sizeOf4
  v4 := Tryz.zeroValue4
  t5 := Tryz.underlying5
  a5 := Tryz.isAgg5
  z5 := Tryz.sizeOf5
  v5 := Tryz.zeroValue5
  t9 := Tryz.underlying9
  a9 := Tryz.isAgg9
  z9 := Tryz.sizeOf9
  v9 := Tryz.zeroValue9
  t21 := Tryz.underlying21
  a21 := Tryz.isAgg21
  z21 := Tryz.sizeOf21
  v21 := Tryz.zeroValue21
  t46 := Tryz.underlying142
  a46 := Tryz.isAgg142
  z46 := Tryz.sizeOf142
  v46 := Tryz.zeroValue142 }
open Go.RowKit Go.Lib in
theorem Tryz.strings_IndexRune_ascii (s : ByteArray) (r : Int) (w : World) (h0 : 0 ≤ r) (h1 : r < 128) :
    Calls Tryz.prog 102 #[.string s, .int .i32 r] w fun e w' => e = .returned (.int .i64 (Lib.indexByte s.data.toList r.toNat.toUInt8)) ∧ w' = w := Any.strings_IndexRune_ascii Tryz.lays152 s r w h0 h1
def Tryz.lays226_ren : Go.Shelf.Ren := ⟨fun | 226 => 103 | n => n, fun | 3 => 3 | 4 => 4 | n => n, fun | n => n⟩
theorem Tryz.lays226 : Go.Proofs.Lays.n226 Tryz.prog Tryz.lays226_ren := {
  mixed := by kernel_rfl
  f226 := Tryz.func103.trans (congrArg some (by kernel_rfl))
  t3 := Tryz.underlying3
  a3 := Tryz.isAgg3
  z3 := Tryz.sizeOf3
  v3 := Tryz.zeroValue3
  t4 := Tryz.underlying4
  a4 := Tryz.isAgg4
  z4 := Tryz.sizeOf4
  v4 := Tryz.zeroValue4 }
open Go.RowKit Go.Lib in
theorem Tryz.strings_shouldUseASCIISet (n : Int) (w : World) :
    Calls Tryz.prog 103 #[.int .i64 n] w fun e w' => e = .returned (.bool (decide (8 < n))) ∧ w' = w := Any.strings_shouldUseASCIISet Tryz.lays226 n w
def Tryz.lays153_ren : Go.Shelf.Ren := ⟨fun | 153 => 88 | 152 => 102 | 226 => 103 | 227 => 104 | 228 => 105 | 137 => 121 | 119 => 122 | 224 => 123 | 225 => 124 | 217 => 142 | 266 => 153 | n => n, fun | 9 => 9 | 3 => 3 | 4 => 4 | 5 => 5 | 21 => 21 | 117 => 148 | 116 => 147 | 0 => 0 | 46 => 142 | 124 => 166 | n => n, fun | n => n⟩
theorem Tryz.lays153 : Go.Proofs.Lays.n153 Tryz.prog Tryz.lays153_ren := {
  mixed := by kernel_rfl
  f119 := Tryz.func122.trans (congrArg some (by kernel_rfl))
  f137 := Tryz.func121.trans (congrArg some (by kernel_rfl))
  f152 := Tryz.func102.trans (congrArg some (by kernel_rfl))
  f153 := Tryz.func88.trans (congrArg some (by kernel_rfl))
  f217 := Tryz.func142.trans (congrArg some (by kernel_rfl))
  f224 := Tryz.func123.trans (congrArg some (by kernel_rfl))
  f225 := Tryz.func124.trans (congrArg some (by kernel_rfl))
  f226 := Tryz.func103.trans (congrArg some (by kernel_rfl))
  f227 := Tryz.func104.trans (congrArg some (by kernel_rfl))
  f228 := Tryz.func105.trans (congrArg some (by kernel_rfl))
  f266 := Tryz.func153.trans (congrArg some (by kernel_rfl))
  t0 := Tryz.underlying0
  a0 := Tryz.isAgg0
  z0 := Tryz.sizeOf0
  v0 := Tryz.zeroValue0
  t3 := Tryz.underlying3
  a3 := Tryz.isAgg3
  z3 := Tryz.sizeOf3
  v3 := Tryz.zeroValue3
  t4 := Tryz.underlying4
  a4 := Tryz.isAgg4
  z4 := Tryz.sizeOf4
  v4 := Tryz.zeroValue4
  t5 := Tryz.underlying5
  a5 := Tryz.isAgg5
  z5 := Tryz.sizeOf5
  v5 := Tryz.zeroValue5
  t9 := Tryz.underlying9
  a9 := Tryz.isAgg9
  z9 := Tryz.sizeOf9
  v9 := Tryz.zeroValue9
  t21 := Tryz.underlying21
  a21 := Tryz.isAgg21
  z21 := Tryz.sizeOf21
  v21 := Tryz.zeroValue21
  t46 := Tryz.underlying142
  a46 := Tryz.isAgg142
  z46 := Tryz.sizeOf142
  v46 := Tryz.zeroValue142
  t116 := Tryz.underlying147
  a116 := Tryz.isAgg147
  z116 := Tryz.sizeOf147
  t117 := Tryz.underlying148
  a117 := Tryz.isAgg148
  z117 := Tryz.sizeOf148
  v117 := Tryz.zeroValue148
  t124 := Tryz.underlying166
  a124 := Tryz.isAgg166
  z124 := Tryz.sizeOf166
  v124 := Tryz.zeroValue166 }
open Go.RowKit Go.Lib in
theorem Tryz.strings_IndexAny_long (hv116 : ∀ w, (zeroValue 147).run Tryz.prog w = .ok (.agg (Array.replicate 256 (.bool false))) w) (s chars : ByteArray) (w : World) (h2 : 2 ≤ chars.size) (h8 : 8 < s.size) (hs : s.size < 4294967281) (hcs : chars.size < 4294967281) (hascii : ∀ (j : Nat) b, chars.data.toList[j]? = some b → b.toNat < 128) :
    Calls Tryz.prog 88 #[.string s, .string chars] w fun e w' => e = .returned (.int .i64 (Lib.indexAny s.data.toList chars.data.toList)) ∧ w' = ((w.alloc (.cells (Lib.setCells chars.data.toList) 147)).alloc (.cells (Lib.setCells chars.data.toList) 147)) := Any.strings_IndexAny_long Tryz.lays153 hv116 (by kernel_rfl) s chars w h2 h8 hs hcs hascii
end Go.Proofs
end

/-! ## text ExtR4 -/
section
namespace Go.Proofs.YtpkbhfdfgapmlaaGreatDoor.Pr
open Go.RowKit Go.Proofs.YtpkbhfdfgapmlaaGreatDoorW.PrintWords Go.Proofs.YtpkbhfdfgapmlaaGreatDoorW.PrintLast Go.Proofs.YtpkbhfdfgapmlaaGreatDoorW.PrintMore
set_option maxRecDepth 100000
set_option linter.unusedVariables false
set_option linter.unusedSimpArgs false
attribute [local go_sem high] Go.Proofs.YtpkbhfdfgapmlaaGreatDoor.isSome_setCell

def toB (l : List UInt8) : ByteArray := ⟨l.toArray⟩
def rowB (r : CsvP.Row) : List ByteArray := r.map toB
theorem rowB_snoc (r : CsvP.Row) (x : List UInt8) : rowB (r ++ [x]) = rowB r ++ [toB x] := by simp [rowB]
theorem rowB_len (r : CsvP.Row) : (rowB r).length = r.length := by simp [rowB]
/-- What a row's reader answers. -/
def RowOut (b : Nat) (s : ByteArray) (rows : List (List ByteArray)) (w : World) (res : Except (Nat × Int) (CsvP.Row × List UInt8 × Nat)) (e : Ending) (w' : World) : Prop :=
  match res with
  | .error (q, er) => e = .returned (.agg #[.int .i64 er, .int .i64 q]) ∧ Below b w w'
  | .ok (row, _, q) => e = .returned (.agg #[.int .i64 0, .int .i64 0]) ∧ Below b w w' ∧ ∃ v', Rd b s q v' w' ∧ Kd.S (Kd.slice 9 Kd.string) 39 w' b (fun k => k ≠ b) v' (rows ++ [rowB row])
/-- Where a row's reader stands: the reader at i, the row so far in v3, the result's block; below all is as it was, but for the reader's own block. -/
structure RSt (b : Nat) (s : ByteArray) (v : Value) (w : World) (i : Nat) (row : List ByteArray) (v3 : Value) (wx : World) : Prop where
  R : Rd b s i v wx
  W : Kd.R Kd.string 9 wx (w.heap.size + 1) (fun _ => True) v3 row
  C : wx.heap[w.heap.size]? = some (.cells #[.int .i64 0, .int .i64 0] 107 (0, 0))
  G : w.grownBy wx (some b)
  N : w.heap.size < wx.heap.size
theorem R_but {α : Type} {d : Kd α} {e base b : Nat} {ok : Nat → Prop} {v : Value} {xs : List α} {w w1 : World} (h : Kd.R d e w base ok v xs) (hg : w.grownBy w1 (some b)) (hb : b < base) : Kd.R d e w1 base ok v xs :=
  Kd.R_mono (Kd.R_move (Kd.R_bound h) (fun k hk => hg.block k hk.2.2.1 (by intro e; injection e; have := hk.2.1; omega))) (fun _ hk => hk.1)
theorem R_okp {α : Type} {d : Kd α} {e base b : Nat} {v : Value} {xs : List α} {w : World} (h : Kd.R d e w base (fun _ => True) v xs) (hb : b ≤ base) : Kd.R d e w b (fun k => base ≤ k) v xs := Kd.R_lower (Kd.R_mono (Kd.R_bound h) (fun k hk => hk.2.1)) hb
theorem Rd.put2 {b : Nat} {s : ByteArray} {p : Nat} {v : Value} {w : World} (h : Rd b s p v w) (u : Value) : Rd b s p u (w.setCell ⟨b, 2, none⟩ u) := blk_put h 2 _ rfl
section
variable {b : Nat} {s : ByteArray} {v : Value} {w : World} {i : Nat} {row : List ByteArray} {v3 : Value} {wx w5 : World}
theorem RSt.drewN (h : RSt b s v w i row v3 wx) (n : Nat) : RSt b s v w i row v3 (wx.drewN n) := ⟨h.R, Kd.R_drewN h.W n, h.C, gr_drewN h.G n, h.N⟩
theorem RSt.alloc (h : RSt b s v w i row v3 wx) (o : Obj) : RSt b s v w i row v3 (wx.alloc o) := ⟨blk_alloc h.R o, Kd.R_alloc h.W o, blk_alloc h.C o, gr_alloc h.G o, by rw [World.size_alloc]; have := h.N; omega⟩
theorem RSt.cell (h : RSt b s v w i row v3 wx) (hb : b < w.heap.size) {q : Nat} (hR : Rd b s q v w5) (hG : wx.grownBy w5 (some b)) : RSt b s v w q row v3 w5 :=
  ⟨hR, R_but h.W hG (by omega), (hG.block _ h.N (by intro e; injection e; omega)).trans h.C, gr_trans h.G hG, Nat.lt_of_lt_of_le h.N hG.size⟩
theorem RSt.put1 (h : RSt b s v w i row v3 wx) (hb : b < w.heap.size) : RSt b s v w (i + 1) row v3 (wx.setCell ⟨b, 1, none⟩ (.int .i64 ((i : Int) + 1))) := h.cell hb h.R.put1 (gr_set1 _ _ _ _)
theorem RSt.app (h : RSt b s v w i row v3 wx) (hb : b < w.heap.size) {v4 : Value} {xs : List ByteArray} (ho : Kd.R Kd.string 9 w5 (w.heap.size + 1) (fun _ => True) v4 xs) (hB : Below (w.heap.size + 1) wx w5) : RSt b s v w i xs v4 w5 :=
  ⟨(hB.block _ (by omega)).trans h.R, ho, (hB.block _ (Nat.lt_succ_self _)).trans h.C, gr_below h.G hB (Nat.le_succ _), Nat.lt_of_lt_of_le h.N hB.size⟩
end
/-- At the loop's head. -/
def RInv (b : Nat) (s : ByteArray) (v : Value) (w : World) (res : Except (Nat × Int) (CsvP.Row × List UInt8 × Nat)) (g : Nat) (v3 : Value) (wx : World) : Prop :=
  ∃ (i : Nat) (row : CsvP.Row) (f : Nat), i + g = s.size ∧ g < f ∧ row.length ≤ i ∧ Aside0 (CsvP.rowL f (s.data.toList.drop i) i row = res) ∧ Aside0 (RSt b s v w i (rowB row) v3 wx)
/-- The fault in the result's block, alone. -/
theorem fault_one {fn : Func} {c : Nat} {W : World} {x y : Value} (h : fn.results = #[.cell 2 107]) (tmps : Array Value) (hp : tmps.getD 2 undef = .pointer (some ⟨c, 0, none⟩)) (hg : W.heap[c]? = some (.cells #[x, y] 107 (0, 0))) :
    (results fn tmps).run Tryz.prog W = .ok (.agg #[x, y]) W := by
  have hp' : tmps[2]?.getD undef = .pointer (some ⟨c, 0, none⟩) := by simpa using hp
  simp [results, h, hp', asAddr, run_loadVar_row W c 107 107 #[x, y] (0, 0) _ hg Tryz.underlying107 rfl (by kernel_rfl)]
theorem below_of_gr {w w' : World} {b : Nat} (h : w.grownBy w' (some b)) (hb : b < w.heap.size) : Below b w w' :=
  ⟨h.os, h.tape, h.output, by have := h.size; omega, fun k hk => h.block k (by omega) (by intro e; injection e; omega)⟩
set_option maxHeartbeats 16000000 in
theorem csv_row (b : Nat) (s : ByteArray) (p : Nat) (v : Value) (w : World) (rows : List (List ByteArray)) (res : Except (Nat × Int) (CsvP.Row × List UInt8 × Nat)) (h : Rd b s p v w) (hp : p ≤ s.size) (hs : s.size ≤ 65536) (f : Nat) (hf : s.size - p < f)
    (HV : Aside0 (Kd.S (Kd.slice 9 Kd.string) 39 w b (fun k => k ≠ b) v rows)) (hl : Aside0 (rows.length ≤ 65536))
    (hres : Aside0 (CsvP.rowL f (s.data.toList.drop p) p [] = res)) :
    Calls Tryz.prog 44 #[.pointer (some ⟨b, 0, none⟩)] w fun e w' => RowOut b s rows w res e w' := by
  have HNE : Aside0 (b ≠ w.heap.size) := ⟨Nat.ne_of_lt h.lt⟩
  have HLT := Aside0.mk h.lt
  have HQ0 : Aside0 (RInv b s v w res (s.size - p) (.slice none 0 0) (w.alloc (.cells #[.int .i64 0, .int .i64 0] 107))) :=
    ⟨p, [], f, by omega, hf, Nat.zero_le _, hres, ⟨blk_alloc h _, Kd.R_nil _ _ _ _ _, blk_new _ _, World.grownBy_alloc _ _ _, by simp⟩⟩
  clear h hf hres
  obtain ⟨Av, cv, ev⟩ := Kd.S_slice HV.out
  subst ev
  go_enter Tryz.func44, Tryz.ntmps44
  go_wp2
  go_loopg [3] (s.size - p) (fun g v3 wx => RInv b s (.slice Av rows.length cv) w res g v3 wx)
  case atStart => exact HQ0.out
  case round =>
    clear HQ0 hp
    obtain ⟨i, row, f, hig, hgf, hrl, HP, HS⟩ := hrel
    obtain ⟨f', rfl⟩ : ∃ f', f = f' + 1 := ⟨f - 1, by omega⟩
    have hP := HP.out
    rw [CsvP.rowL] at hP
    clear HP
    rcases hcell : CsvP.cellL (s.data.toList.drop i) i with q | ⟨x, r, q⟩
    · rw [hcell] at hP
      have HP : Aside0 (Except.error (q, 40) = res) := ⟨hP⟩
      have HCE := Aside0.mk hcell
      clear hP hcell
      go_wp2_with (go_at_call 73; refine (csv_cell b s i _ _ _ HS.out.R (by omega) hs HCE).mono ?_; rintro e w5 ⟨rfl, ⟨p5, hR5⟩, hG5⟩; have HS5 := Aside0.mk (HS.out.cell HLT.out hR5 hG5); clear hR5 hG5; have hy0 := HS5.out.R.c0; have hy1 := HS5.out.R.c1; have hy2 := HS5.out.R.c2; have hyf := HS5.out.R.fz; have hz0 : w5.cell? ⟨w.heap.size, 0, none⟩ = some (.int .i64 0) := (by simp [World.cell?, HS5.out.C]); have hz1 : w5.cell? ⟨w.heap.size, 1, none⟩ = some (.int .i64 0) := (by simp [World.cell?, HS5.out.C]); have hzf := fun i => blk_frozen HS5.out.C i; have hzs := HS5.out.N)
      refine bodyPost_ret (fault_one rfl _ rfl (blk_alloc (blk_put (blk_put HS5.out.C 0 _ rfl) 1 _ rfl) _)) rfl ?_
      have hr := HP.out
      subst hr
      exact ⟨rfl, below_of_gr (gr_alloc (gr_new (gr_new HS5.out.G (Nat.le_refl _)) (Nat.le_refl _)) _) HLT.out⟩
    · rw [hcell] at hP
      have HCE := Aside0.mk hcell
      have hcl := CsvP.cell_len _ _ _ hcell
      obtain ⟨k, hk1, hk2⟩ := CsvP.cell_drop _ _ _ hcell
      have hdl : (s.data.toList.drop i).length = s.size - i := by rw [List.length_drop, ← Lib.size_eq]
      have hr : r = s.data.toList.drop q := by
        have e1 : r = (s.data.toList.drop i).drop k := hk1
        have e2 : q = i + k := hk2
        rw [e1, List.drop_drop, e2]
      have hq : q ≤ s.size ∧ i ≤ q := by
        have e2 : q = i + k := hk2
        have e3 : q + r.length = i + (s.data.toList.drop i).length := hcl.2
        omega
      obtain ⟨hq1, hq2⟩ := hq
      clear hcl hk1 hk2 hdl
      subst hr
      by_cases hqs : q < s.size
      · have hdq : decide (s.size ≤ q) = false := decide_eq_false (by omega)
        rw [drop_cons hqs] at hP
        dsimp only at hP
        by_cases c44 : s[q] = 44
        · rw [if_pos c44] at hP
          have HP := Aside0.mk hP
          clear hP hcell
          go_wp2_with (first | (go_at_call 73; refine (csv_cell b s i _ _ _ HS.out.R (by omega) hs HCE).mono ?_; rintro e w5 ⟨rfl, hR5, hG5⟩; have HS5 := Aside0.mk (HS.out.cell HLT.out hR5 hG5); clear hR5 hG5) | ((with_reducible refine gate_builtin (b := .append) (xs := #[.tmp 16, .tmp 18]) rfl ?_); at_builtin; refine Kd.R_append Kd.string (w0 := w5.alloc (.cells #[.int .i64 0, .int .i64 0] 107)) (w.heap.size + 1) rfl (.tmp 16) (.tmp 18) 39 9 (.string ⟨#[]⟩) 16 rfl Tryz.underlying39 info9 rfl (by decide) (by omega) u3 (rowB row) (toB x) [.string (toB x)] (fun _ => True) (fun _ => False) rfl ?aX ?aP (fun _ hk => hk.elim) ?aF ?aO ?aB ?aS ?aL ?_; (case aX => rw [World.size_alloc]; rfl); (case aP => exact rfl); (case aF => exact (fun _ _ => trivial)); (case aO => exact (Kd.R_alloc HS5.out.W _)); (case aB => exact Below.refl _ _); (case aS => rw [World.size_alloc]; have := HS5.out.N; omega); (case aL => rw [rowB_len]; omega); intro v4 w6 ho hb hg hat; rw [← rowB_snoc] at ho; have HS6 := Aside0.mk ((HS5.out.alloc (.cells #[.int .i64 0, .int .i64 0] 107)).app HLT.out ho hb); obtain ⟨A4, c4, e4⟩ := Kd.R_slice ho; subst e4; clear ho hb hg hat HS5 HS) | (go_at_call 43; refine (csv_end b s q _ _ HS6.out.R).mono ?_; rintro e w7 ⟨rfl, ⟨n7, rfl⟩⟩; rw [hdq]; have HS7 := Aside0.mk (HS6.out.drewN n7); clear HS6; generalize w6.drewN n7 = w7 at *; have hy0 := HS7.out.R.c0; have hy1 := HS7.out.R.c1; have hy2 := HS7.out.R.c2; have hyf := HS7.out.R.fz; have hz0 : w7.cell? ⟨w.heap.size, 0, none⟩ = some (.int .i64 0) := (by simp [World.cell?, HS7.out.C]); have hz1 : w7.cell? ⟨w.heap.size, 1, none⟩ = some (.int .i64 0) := (by simp [World.cell?, HS7.out.C]); have hzf := fun i => blk_frozen HS7.out.C i; have hzs := HS7.out.N))
          go_quiet (fail)
          go_wp2
          go_roundg (s.size - (q + 1))
          case measure => omega
          case rel => exact ⟨q + 1, row ++ [x], f', by omega, by omega, by rw [List.length_append, List.length_singleton]; omega, HP, ⟨(HS7.out.drewN nq).put1 HLT.out⟩⟩
        · rw [if_neg c44] at hP
          by_cases c10 : s[q] = 10
          · rw [if_pos c10] at hP
            have HP := Aside0.mk hP
            clear hP hcell c44
            go_wp2_with (first | (go_at_call 73; refine (csv_cell b s i _ _ _ HS.out.R (by omega) hs HCE).mono ?_; rintro e w5 ⟨rfl, hR5, hG5⟩; have HS5 := Aside0.mk (HS.out.cell HLT.out hR5 hG5); clear hR5 hG5) | ((with_reducible refine gate_builtin (b := .append) (xs := #[.tmp 16, .tmp 18]) rfl ?_); at_builtin; refine Kd.R_append Kd.string (w0 := w5.alloc (.cells #[.int .i64 0, .int .i64 0] 107)) (w.heap.size + 1) rfl (.tmp 16) (.tmp 18) 39 9 (.string ⟨#[]⟩) 16 rfl Tryz.underlying39 info9 rfl (by decide) (by omega) u3 (rowB row) (toB x) [.string (toB x)] (fun _ => True) (fun _ => False) rfl ?aX ?aP (fun _ hk => hk.elim) ?aF ?aO ?aB ?aS ?aL ?_; (case aX => rw [World.size_alloc]; rfl); (case aP => exact rfl); (case aF => exact (fun _ _ => trivial)); (case aO => exact (Kd.R_alloc HS5.out.W _)); (case aB => exact Below.refl _ _); (case aS => rw [World.size_alloc]; have := HS5.out.N; omega); (case aL => rw [rowB_len]; omega); intro v4 w6 ho hb hg hat; rw [← rowB_snoc] at ho; have HS6 := Aside0.mk ((HS5.out.alloc (.cells #[.int .i64 0, .int .i64 0] 107)).app HLT.out ho hb); obtain ⟨A4, c4, e4⟩ := Kd.R_slice ho; subst e4; clear ho hb hg hat HS5 HS) | (go_at_call 43; refine (csv_end b s q _ _ HS6.out.R).mono ?_; rintro e w7 ⟨rfl, ⟨n7, rfl⟩⟩; rw [hdq]; have HS7 := Aside0.mk (HS6.out.drewN n7); clear HS6; generalize w6.drewN n7 = w7 at *; have hy0 := HS7.out.R.c0; have hy1 := HS7.out.R.c1; have hy2 := HS7.out.R.c2; have hyf := HS7.out.R.fz; have hz0 : w7.cell? ⟨w.heap.size, 0, none⟩ = some (.int .i64 0) := (by simp [World.cell?, HS7.out.C]); have hz1 : w7.cell? ⟨w.heap.size, 1, none⟩ = some (.int .i64 0) := (by simp [World.cell?, HS7.out.C]); have hzf := fun i => blk_frozen HS7.out.C i; have hzs := HS7.out.N))
            go_quiet (fail)
            have HS9 := Aside0.mk ((HS7.out.drewN nq).put1 HLT.out)
            go_wp2_with (((with_reducible refine gate_builtin (b := .append) (xs := #[.tmp 80, .tmp 82]) rfl ?_); at_builtin; refine Kd.S_append (Kd.slice 9 Kd.string) (w0 := ((w7.drewN nq).setCell ⟨b, 1, none⟩ (.int .i64 ((q : Int) + 1)))) b rfl (.tmp 80) (.tmp 82) 25 39 (.slice none 0 0) 24 rfl Tryz.underlying25 infoStrs rfl (by decide) (by omega) (.slice Av rows.length cv) rows (rowB (row ++ [x])) [.slice A4 (rowB (row ++ [x])).length c4] (fun k => k ≠ b) (fun k => w.heap.size + 1 ≤ k) rfl ?aX ?aP ?aK ?aF ?aO ?aB ?aS ?aL ?_; (case aX => rw [World.size_setCell]; exact rfl); (case aP => exact ⟨_, rfl, R_okp HS9.out.W (by have := HLT.out; omega)⟩); (case aK => exact fun k hk => ⟨by have := HLT.out; omega, fun e => by have := Kd.S_lt HV.out k e.symm; omega⟩); (case aF => exact fun k hk => by have := HLT.out; have := HS9.out.N; omega); (case aO => exact Kd.S_mono (Kd.S_grown (Kd.S_bound HV.out) HS9.out.G (fun k hk e => hk.1 (by injection e))) (fun k hk => ⟨hk.1, by have := hk.2.2.1; omega⟩)); (case aB => exact Below.refl _ _); (case aS => have := HLT.out; have := HS9.out.N; omega); (case aL => have := hl.out; omega); intro v8 w8 ho hb hg hat; have hvb : ∀ k, (Value.slice Av rows.length cv).ownBlock = some k → k < w.heap.size ∧ k ≠ b := fun k e => ⟨Kd.S_lt HV.out k e, (Kd.S_R HV.out).1 k e⟩; have HR8 : Aside0 (Rd b s (q + 1) (.slice Av rows.length cv) w8) := ⟨(hg.block b HS9.out.R.lt (fun e => (hvb b e.symm).2 rfl)).trans HS9.out.R⟩; have HC8 : Aside0 (w8.heap[w.heap.size]? = some (.cells #[.int .i64 0, .int .i64 0] 107 (0, 0))) := ⟨(hg.block _ HS9.out.N (fun e => by have := (hvb _ e.symm).1; omega)).trans HS9.out.C⟩; have HO8 := Aside0.mk ho; have HB8 : Aside0 (Below b w w8) := ⟨(below_of_gr HS9.out.G HLT.out).trans hb⟩; have hk2 := HR8.out.c2; have hkf := HR8.out.fz; have hkz0 : w8.cell? ⟨w.heap.size, 0, none⟩ = some (.int .i64 0) := (by simp [World.cell?, HC8.out]); have hkz1 : w8.cell? ⟨w.heap.size, 1, none⟩ = some (.int .i64 0) := (by simp [World.cell?, HC8.out]); have hkzf := fun i => blk_frozen HC8.out i; obtain ⟨A8, c8, e8⟩ := Kd.S_slice HO8.out; subst e8; clear ho hb hg hat hvb))
            refine bodyPost_ret (fault_one rfl _ rfl (blk_put (blk_put (blk_far HC8.out (fun e => HNE.out e.symm) _) 0 _ rfl) 1 _ rfl)) rfl ?_
            have hr := HP.out
            subst hr
            have HR9 := HR8.out.put2 (.slice A8 (rows.length + 1) c8)
            have HO9 := HO8.out
            rw [List.length_append, List.length_singleton] at HO9
            exact ⟨rfl, Below.setCell (Below.setCell (Below.setCell HB8.out (Nat.le_refl _) _) (Nat.le_of_lt HLT.out) _) (Nat.le_of_lt HLT.out) _, _, blk_far (blk_far HR9 HNE.out _) HNE.out _, Kd.S_set (Kd.S_set (Kd.S_far HO9 (fun k hk => hk) _) (blk_far HC8.out (fun e => HNE.out e.symm) _) (by decide) 0 _) (blk_put (blk_far HC8.out (fun e => HNE.out e.symm) _) 0 _ rfl) (by decide) 1 _⟩

          · rw [if_neg c10] at hP
            by_cases c13 : s[q] = 13
            · rw [if_pos c13] at hP
              have hsl : ∀ w, (Instr.slice 9 (.string s) (some (.int .i64 q)) none none).run Tryz.prog w = .ok (.string (s.extract q s.size)) w := fun w => by rw [run_slice_string_from_if w 9 s .i64 q Tryz.underlying9, if_pos (by omega)]; rfl
              have htx : (s.extract q s.size).data.toList = s[q] :: s.data.toList.drop (q + 1) := by
                rw [cut_ext, ← drop_cons hqs]
                show (cut_ s q s.size) = _
                unfold cut_
                exact List.take_of_length_le (by rw [List.length_drop, ← Lib.size_eq]; omega)
              rw [c13] at htx
              clear c44 c10 hcell
              by_cases hnl : ∃ t', s.data.toList.drop (q + 1) = 10 :: t'
              · obtain ⟨t', ht'⟩ := hnl
                rw [ht'] at htx hP
                have hpre : Lib.hasPrefix (s.extract q s.size).data.toList (⟨#[13, 10]⟩ : ByteArray).data.toList = true := by rw [htx]; simp [Lib.hasPrefix]
                have HP : Aside0 (Except.ok (row ++ [x], t', q + 2) = res) := ⟨hP⟩
                have HPR := Aside0.mk hpre
                have HQ2 : Aside0 (q + 1 < s.size) := ⟨by
                  have e := congrArg List.length ht'
                  rw [List.length_drop, ← Lib.size_eq, List.length_cons] at e
                  omega⟩
                clear hP hpre htx ht'
                go_wp2_with (first | (go_at_call 73; refine (csv_cell b s i _ _ _ HS.out.R (by omega) hs HCE).mono ?_; rintro e w5 ⟨rfl, hR5, hG5⟩; have HS5 := Aside0.mk (HS.out.cell HLT.out hR5 hG5); clear hR5 hG5) | ((with_reducible refine gate_builtin (b := .append) (xs := #[.tmp 16, .tmp 18]) rfl ?_); at_builtin; refine Kd.R_append Kd.string (w0 := w5.alloc (.cells #[.int .i64 0, .int .i64 0] 107)) (w.heap.size + 1) rfl (.tmp 16) (.tmp 18) 39 9 (.string ⟨#[]⟩) 16 rfl Tryz.underlying39 info9 rfl (by decide) (by omega) u3 (rowB row) (toB x) [.string (toB x)] (fun _ => True) (fun _ => False) rfl ?aX ?aP (fun _ hk => hk.elim) ?aF ?aO ?aB ?aS ?aL ?_; (case aX => rw [World.size_alloc]; rfl); (case aP => exact rfl); (case aF => exact (fun _ _ => trivial)); (case aO => exact (Kd.R_alloc HS5.out.W _)); (case aB => exact Below.refl _ _); (case aS => rw [World.size_alloc]; have := HS5.out.N; omega); (case aL => rw [rowB_len]; omega); intro v4 w6 ho hb hg hat; rw [← rowB_snoc] at ho; have HS6 := Aside0.mk ((HS5.out.alloc (.cells #[.int .i64 0, .int .i64 0] 107)).app HLT.out ho hb); obtain ⟨A4, c4, e4⟩ := Kd.R_slice ho; subst e4; clear ho hb hg hat HS5 HS) | (go_at_call 43; refine (csv_end b s q _ _ HS6.out.R).mono ?_; rintro e w7 ⟨rfl, ⟨n7, rfl⟩⟩; rw [hdq]; have HS7 := Aside0.mk (HS6.out.drewN n7); clear HS6; generalize w6.drewN n7 = w7 at *; have hy0 := HS7.out.R.c0; have hy1 := HS7.out.R.c1; have hy2 := HS7.out.R.c2; have hyf := HS7.out.R.fz; have hz0 : w7.cell? ⟨w.heap.size, 0, none⟩ = some (.int .i64 0) := (by simp [World.cell?, HS7.out.C]); have hz1 : w7.cell? ⟨w.heap.size, 1, none⟩ = some (.int .i64 0) := (by simp [World.cell?, HS7.out.C]); have hzf := fun i => blk_frozen HS7.out.C i; have hzs := HS7.out.N))
                go_quiet (fail)
                go_wp2
                have HS8 := Aside0.mk (HS7.out.drewN nq)
                clear HS7 hy0 hy1 hy2 hyf hz0 hz1 hzf hzs
                generalize w7.drewN nq = w8 at *
                have hy0 := HS8.out.R.c0
                have hy1 := HS8.out.R.c1
                have hy2 := HS8.out.R.c2
                have hyf := HS8.out.R.fz
                have hz0 : w8.cell? ⟨w.heap.size, 0, none⟩ = some (.int .i64 0) := by simp [World.cell?, HS8.out.C]
                have hz1 : w8.cell? ⟨w.heap.size, 1, none⟩ = some (.int .i64 0) := by simp [World.cell?, HS8.out.C]
                have hzf := fun i => blk_frozen HS8.out.C i
                have hzs := HS8.out.N
                go_quiet ((go_at_call 74; refine Calls.quiet_of_same (v := .bool true) ((Tryz.strings_HasPrefix _ _ _).mono ?_); rintro e w2 ⟨rfl, rfl⟩; exact ⟨by rw [HPR.out], rfl⟩))
                have HS9 : Aside0 (RSt b s (.slice Av rows.length cv) w (q + 2) (rowB (row ++ [x])) (.slice A4 (rowB (row ++ [x])).length c4) (((w8.drewN nq).setCell ⟨b, 1, none⟩ (.int .i64 ((q : Int) + 1))).setCell ⟨b, 1, none⟩ (.int .i64 ((q : Int) + 1 + 1)))) := ⟨((HS8.out.drewN nq).put1 HLT.out).put1 HLT.out⟩
                go_wp2_with (((with_reducible refine gate_builtin (b := .append) (xs := #[.tmp 80, .tmp 82]) rfl ?_); at_builtin; refine Kd.S_append (Kd.slice 9 Kd.string) (w0 := (((w8.drewN nq).setCell ⟨b, 1, none⟩ (.int .i64 ((q : Int) + 1))).setCell ⟨b, 1, none⟩ (.int .i64 ((q : Int) + 1 + 1)))) b rfl (.tmp 80) (.tmp 82) 25 39 (.slice none 0 0) 24 rfl Tryz.underlying25 infoStrs rfl (by decide) (by omega) (.slice Av rows.length cv) rows (rowB (row ++ [x])) [.slice A4 (rowB (row ++ [x])).length c4] (fun k => k ≠ b) (fun k => w.heap.size + 1 ≤ k) rfl ?aX ?aP ?aK ?aF ?aO ?aB ?aS ?aL ?_; (case aX => rw [World.size_setCell, World.size_setCell]; exact rfl); (case aP => exact ⟨_, rfl, R_okp HS9.out.W (by have := HLT.out; omega)⟩); (case aK => exact fun k hk => ⟨by have := HLT.out; omega, fun e => by have := Kd.S_lt HV.out k e.symm; omega⟩); (case aF => exact fun k hk => by have := HLT.out; have := HS9.out.N; omega); (case aO => exact Kd.S_mono (Kd.S_grown (Kd.S_bound HV.out) HS9.out.G (fun k hk e => hk.1 (by injection e))) (fun k hk => ⟨hk.1, by have := hk.2.2.1; omega⟩)); (case aB => exact Below.refl _ _); (case aS => have := HLT.out; have := HS9.out.N; omega); (case aL => have := hl.out; omega); intro v8 w8 ho hb hg hat; have hvb : ∀ k, (Value.slice Av rows.length cv).ownBlock = some k → k < w.heap.size ∧ k ≠ b := fun k e => ⟨Kd.S_lt HV.out k e, (Kd.S_R HV.out).1 k e⟩; have HR8 : Aside0 (Rd b s (q + 2) (.slice Av rows.length cv) w8) := ⟨(hg.block b HS9.out.R.lt (fun e => (hvb b e.symm).2 rfl)).trans HS9.out.R⟩; have HC8 : Aside0 (w8.heap[w.heap.size]? = some (.cells #[.int .i64 0, .int .i64 0] 107 (0, 0))) := ⟨(hg.block _ HS9.out.N (fun e => by have := (hvb _ e.symm).1; omega)).trans HS9.out.C⟩; have HO8 := Aside0.mk ho; have HB8 : Aside0 (Below b w w8) := ⟨(below_of_gr HS9.out.G HLT.out).trans hb⟩; have hk2 := HR8.out.c2; have hkf := HR8.out.fz; have hkz0 : w8.cell? ⟨w.heap.size, 0, none⟩ = some (.int .i64 0) := (by simp [World.cell?, HC8.out]); have hkz1 : w8.cell? ⟨w.heap.size, 1, none⟩ = some (.int .i64 0) := (by simp [World.cell?, HC8.out]); have hkzf := fun i => blk_frozen HC8.out i; obtain ⟨A8, c8, e8⟩ := Kd.S_slice HO8.out; subst e8; clear ho hb hg hat hvb))
                refine bodyPost_ret (fault_one rfl _ rfl (blk_put (blk_put (blk_far HC8.out (fun e => HNE.out e.symm) _) 0 _ rfl) 1 _ rfl)) rfl ?_
                have hr := HP.out
                subst hr
                have HR9 := HR8.out.put2 (.slice A8 (rows.length + 1) c8)
                have HO9 := HO8.out
                rw [List.length_append, List.length_singleton] at HO9
                exact ⟨rfl, Below.setCell (Below.setCell (Below.setCell HB8.out (Nat.le_refl _) _) (Nat.le_of_lt HLT.out) _) (Nat.le_of_lt HLT.out) _, _, blk_far (blk_far HR9 HNE.out _) HNE.out _, Kd.S_set (Kd.S_set (Kd.S_far HO9 (fun k hk => hk) _) (blk_far HC8.out (fun e => HNE.out e.symm) _) (by decide) 0 _) (blk_put (blk_far HC8.out (fun e => HNE.out e.symm) _) 0 _ rfl) (by decide) 1 _⟩
              · have hpre : Lib.hasPrefix (s.extract q s.size).data.toList (⟨#[13, 10]⟩ : ByteArray).data.toList = false := by
                  rw [htx]
                  cases hd : s.data.toList.drop (q + 1) with
                  | nil => rfl
                  | cons d u =>
                    have : d ≠ 10 := fun e => hnl ⟨u, by rw [hd, e]⟩
                    show ((10 : UInt8) == d && List.isPrefixOf [] u) = false
                    rw [beq_eq_false_iff_ne.2 (fun e => this e.symm)]
                    rfl
                have HP : Aside0 (Except.error (q, 41) = res) := ⟨by
                  rw [← hP]
                  split
                  · rename_i t' ht'
                    exact absurd ⟨t', ht'⟩ hnl
                  · rfl⟩
                have HPR := Aside0.mk hpre
                clear hP hpre htx hnl
                go_wp2_with (first | (go_at_call 73; refine (csv_cell b s i _ _ _ HS.out.R (by omega) hs HCE).mono ?_; rintro e w5 ⟨rfl, hR5, hG5⟩; have HS5 := Aside0.mk (HS.out.cell HLT.out hR5 hG5); clear hR5 hG5) | ((with_reducible refine gate_builtin (b := .append) (xs := #[.tmp 16, .tmp 18]) rfl ?_); at_builtin; refine Kd.R_append Kd.string (w0 := w5.alloc (.cells #[.int .i64 0, .int .i64 0] 107)) (w.heap.size + 1) rfl (.tmp 16) (.tmp 18) 39 9 (.string ⟨#[]⟩) 16 rfl Tryz.underlying39 info9 rfl (by decide) (by omega) u3 (rowB row) (toB x) [.string (toB x)] (fun _ => True) (fun _ => False) rfl ?aX ?aP (fun _ hk => hk.elim) ?aF ?aO ?aB ?aS ?aL ?_; (case aX => rw [World.size_alloc]; rfl); (case aP => exact rfl); (case aF => exact (fun _ _ => trivial)); (case aO => exact (Kd.R_alloc HS5.out.W _)); (case aB => exact Below.refl _ _); (case aS => rw [World.size_alloc]; have := HS5.out.N; omega); (case aL => rw [rowB_len]; omega); intro v4 w6 ho hb hg hat; rw [← rowB_snoc] at ho; have HS6 := Aside0.mk ((HS5.out.alloc (.cells #[.int .i64 0, .int .i64 0] 107)).app HLT.out ho hb); obtain ⟨A4, c4, e4⟩ := Kd.R_slice ho; subst e4; clear ho hb hg hat HS5 HS) | (go_at_call 43; refine (csv_end b s q _ _ HS6.out.R).mono ?_; rintro e w7 ⟨rfl, ⟨n7, rfl⟩⟩; rw [hdq]; have HS7 := Aside0.mk (HS6.out.drewN n7); clear HS6; generalize w6.drewN n7 = w7 at *; have hy0 := HS7.out.R.c0; have hy1 := HS7.out.R.c1; have hy2 := HS7.out.R.c2; have hyf := HS7.out.R.fz; have hz0 : w7.cell? ⟨w.heap.size, 0, none⟩ = some (.int .i64 0) := (by simp [World.cell?, HS7.out.C]); have hz1 : w7.cell? ⟨w.heap.size, 1, none⟩ = some (.int .i64 0) := (by simp [World.cell?, HS7.out.C]); have hzf := fun i => blk_frozen HS7.out.C i; have hzs := HS7.out.N))
                go_quiet (fail)
                go_wp2
                have HS8 := Aside0.mk (HS7.out.drewN nq)
                clear HS7 hy0 hy1 hy2 hyf hz0 hz1 hzf hzs
                generalize w7.drewN nq = w8 at *
                have hy0 := HS8.out.R.c0
                have hy1 := HS8.out.R.c1
                have hy2 := HS8.out.R.c2
                have hyf := HS8.out.R.fz
                have hz0 : w8.cell? ⟨w.heap.size, 0, none⟩ = some (.int .i64 0) := by simp [World.cell?, HS8.out.C]
                have hz1 : w8.cell? ⟨w.heap.size, 1, none⟩ = some (.int .i64 0) := by simp [World.cell?, HS8.out.C]
                have hzf := fun i => blk_frozen HS8.out.C i
                have hzs := HS8.out.N
                go_quiet ((go_at_call 74; refine Calls.quiet_of_same (v := .bool false) ((Tryz.strings_HasPrefix _ _ _).mono ?_); rintro e w2 ⟨rfl, rfl⟩; exact ⟨by rw [HPR.out], rfl⟩))
                go_wp2
                refine bodyPost_ret (fault_one rfl _ rfl (blk_put (blk_put HS8.out.C 0 _ rfl) 1 _ rfl)) rfl ?_
                have hr := HP.out
                subst hr
                exact ⟨rfl, below_of_gr (gr_new (gr_new (gr_drewN HS8.out.G _) (Nat.le_refl _)) (Nat.le_refl _)) HLT.out⟩
            · rw [if_neg c13] at hP
              have HP := Aside0.mk hP
              have d44 : ((s[q].toNat : Int) != 44) = true := u8bn 44 c44
              have d10 : ((s[q].toNat : Int) != 10) = true := u8bn 10 c10
              have d13 : ((s[q].toNat : Int) == 13) = false := u8ne 13 c13
              clear hP hcell c44 c10 c13
              go_wp2_with (first | (go_at_call 73; refine (csv_cell b s i _ _ _ HS.out.R (by omega) hs HCE).mono ?_; rintro e w5 ⟨rfl, hR5, hG5⟩; have HS5 := Aside0.mk (HS.out.cell HLT.out hR5 hG5); clear hR5 hG5) | ((with_reducible refine gate_builtin (b := .append) (xs := #[.tmp 16, .tmp 18]) rfl ?_); at_builtin; refine Kd.R_append Kd.string (w0 := w5.alloc (.cells #[.int .i64 0, .int .i64 0] 107)) (w.heap.size + 1) rfl (.tmp 16) (.tmp 18) 39 9 (.string ⟨#[]⟩) 16 rfl Tryz.underlying39 info9 rfl (by decide) (by omega) u3 (rowB row) (toB x) [.string (toB x)] (fun _ => True) (fun _ => False) rfl ?aX ?aP (fun _ hk => hk.elim) ?aF ?aO ?aB ?aS ?aL ?_; (case aX => rw [World.size_alloc]; rfl); (case aP => exact rfl); (case aF => exact (fun _ _ => trivial)); (case aO => exact (Kd.R_alloc HS5.out.W _)); (case aB => exact Below.refl _ _); (case aS => rw [World.size_alloc]; have := HS5.out.N; omega); (case aL => rw [rowB_len]; omega); intro v4 w6 ho hb hg hat; rw [← rowB_snoc] at ho; have HS6 := Aside0.mk ((HS5.out.alloc (.cells #[.int .i64 0, .int .i64 0] 107)).app HLT.out ho hb); obtain ⟨A4, c4, e4⟩ := Kd.R_slice ho; subst e4; clear ho hb hg hat HS5 HS) | (go_at_call 43; refine (csv_end b s q _ _ HS6.out.R).mono ?_; rintro e w7 ⟨rfl, ⟨n7, rfl⟩⟩; rw [hdq]; have HS7 := Aside0.mk (HS6.out.drewN n7); clear HS6; generalize w6.drewN n7 = w7 at *; have hy0 := HS7.out.R.c0; have hy1 := HS7.out.R.c1; have hy2 := HS7.out.R.c2; have hyf := HS7.out.R.fz; have hz0 : w7.cell? ⟨w.heap.size, 0, none⟩ = some (.int .i64 0) := (by simp [World.cell?, HS7.out.C]); have hz1 : w7.cell? ⟨w.heap.size, 1, none⟩ = some (.int .i64 0) := (by simp [World.cell?, HS7.out.C]); have hzf := fun i => blk_frozen HS7.out.C i; have hzs := HS7.out.N))
              go_quiet (fail)
              go_wp2
              refine bodyPost_ret (fault_one rfl _ rfl (blk_put (blk_put HS7.out.C 0 _ rfl) 1 _ rfl)) rfl ?_
              have hr := HP.out
              subst hr
              exact ⟨rfl, below_of_gr (gr_new (gr_new (gr_drewN HS7.out.G _) (Nat.le_refl _)) (Nat.le_refl _)) HLT.out⟩
      · have hdq : decide (s.size ≤ q) = true := decide_eq_true (by omega)
        rw [List.drop_eq_nil_of_le (by rw [← Lib.size_eq]; omega)] at hP
        have HP : Aside0 (Except.ok (row ++ [x], [], q) = res) := ⟨hP⟩
        clear hP hcell
        go_wp2_with (first | (go_at_call 73; refine (csv_cell b s i _ _ _ HS.out.R (by omega) hs HCE).mono ?_; rintro e w5 ⟨rfl, hR5, hG5⟩; have HS5 := Aside0.mk (HS.out.cell HLT.out hR5 hG5); clear hR5 hG5) | ((with_reducible refine gate_builtin (b := .append) (xs := #[.tmp 16, .tmp 18]) rfl ?_); at_builtin; refine Kd.R_append Kd.string (w0 := w5.alloc (.cells #[.int .i64 0, .int .i64 0] 107)) (w.heap.size + 1) rfl (.tmp 16) (.tmp 18) 39 9 (.string ⟨#[]⟩) 16 rfl Tryz.underlying39 info9 rfl (by decide) (by omega) u3 (rowB row) (toB x) [.string (toB x)] (fun _ => True) (fun _ => False) rfl ?aX ?aP (fun _ hk => hk.elim) ?aF ?aO ?aB ?aS ?aL ?_; (case aX => rw [World.size_alloc]; rfl); (case aP => exact rfl); (case aF => exact (fun _ _ => trivial)); (case aO => exact (Kd.R_alloc HS5.out.W _)); (case aB => exact Below.refl _ _); (case aS => rw [World.size_alloc]; have := HS5.out.N; omega); (case aL => rw [rowB_len]; omega); intro v4 w6 ho hb hg hat; rw [← rowB_snoc] at ho; have HS6 := Aside0.mk ((HS5.out.alloc (.cells #[.int .i64 0, .int .i64 0] 107)).app HLT.out ho hb); obtain ⟨A4, c4, e4⟩ := Kd.R_slice ho; subst e4; clear ho hb hg hat HS5 HS) | (go_at_call 43; refine (csv_end b s q _ _ HS6.out.R).mono ?_; rintro e w7 ⟨rfl, ⟨n7, rfl⟩⟩; rw [hdq]; have HS7 := Aside0.mk (HS6.out.drewN n7); clear HS6; generalize w6.drewN n7 = w7 at *; have hy0 := HS7.out.R.c0; have hy1 := HS7.out.R.c1; have hy2 := HS7.out.R.c2; have hyf := HS7.out.R.fz; have hz0 : w7.cell? ⟨w.heap.size, 0, none⟩ = some (.int .i64 0) := (by simp [World.cell?, HS7.out.C]); have hz1 : w7.cell? ⟨w.heap.size, 1, none⟩ = some (.int .i64 0) := (by simp [World.cell?, HS7.out.C]); have hzf := fun i => blk_frozen HS7.out.C i; have hzs := HS7.out.N) | ((with_reducible refine gate_builtin (b := .append) (xs := #[.tmp 80, .tmp 82]) rfl ?_); at_builtin; refine Kd.S_append (Kd.slice 9 Kd.string) (w0 := w7) b rfl (.tmp 80) (.tmp 82) 25 39 (.slice none 0 0) 24 rfl Tryz.underlying25 infoStrs rfl (by decide) (by omega) (.slice Av rows.length cv) rows (rowB (row ++ [x])) [.slice A4 (rowB (row ++ [x])).length c4] (fun k => k ≠ b) (fun k => w.heap.size + 1 ≤ k) rfl ?aX ?aP ?aK ?aF ?aO ?aB ?aS ?aL ?_; (case aX => exact rfl); (case aP => exact ⟨_, rfl, R_okp HS7.out.W (by have := HLT.out; omega)⟩); (case aK => exact fun k hk => ⟨by have := HLT.out; omega, fun e => by have := Kd.S_lt HV.out k e.symm; omega⟩); (case aF => exact fun k hk => by have := HLT.out; have := HS7.out.N; omega); (case aO => exact Kd.S_mono (Kd.S_grown (Kd.S_bound HV.out) HS7.out.G (fun k hk e => hk.1 (by injection e))) (fun k hk => ⟨hk.1, by have := hk.2.2.1; omega⟩)); (case aB => exact Below.refl _ _); (case aS => have := HLT.out; have := HS7.out.N; omega); (case aL => have := hl.out; omega); intro v8 w8 ho hb hg hat; have hvb : ∀ k, (Value.slice Av rows.length cv).ownBlock = some k → k < w.heap.size ∧ k ≠ b := fun k e => ⟨Kd.S_lt HV.out k e, (Kd.S_R HV.out).1 k e⟩; have HR8 : Aside0 (Rd b s q (.slice Av rows.length cv) w8) := ⟨(hg.block b HS7.out.R.lt (fun e => (hvb b e.symm).2 rfl)).trans HS7.out.R⟩; have HC8 : Aside0 (w8.heap[w.heap.size]? = some (.cells #[.int .i64 0, .int .i64 0] 107 (0, 0))) := ⟨(hg.block _ HS7.out.N (fun e => by have := (hvb _ e.symm).1; omega)).trans HS7.out.C⟩; have HO8 := Aside0.mk ho; have HB8 : Aside0 (Below b w w8) := ⟨(below_of_gr HS7.out.G HLT.out).trans hb⟩; have hk2 := HR8.out.c2; have hkf := HR8.out.fz; have hkz0 : w8.cell? ⟨w.heap.size, 0, none⟩ = some (.int .i64 0) := (by simp [World.cell?, HC8.out]); have hkz1 : w8.cell? ⟨w.heap.size, 1, none⟩ = some (.int .i64 0) := (by simp [World.cell?, HC8.out]); have hkzf := fun i => blk_frozen HC8.out i; obtain ⟨A8, c8, e8⟩ := Kd.S_slice HO8.out; subst e8; clear ho hb hg hat hvb))
        refine bodyPost_ret (fault_one rfl _ rfl (blk_put (blk_put (blk_far HC8.out (fun e => HNE.out e.symm) _) 0 _ rfl) 1 _ rfl)) rfl ?_
        have hr := HP.out
        subst hr
        have HR9 := HR8.out.put2 (.slice A8 (rows.length + 1) c8)
        have HO9 := HO8.out
        rw [List.length_append, List.length_singleton] at HO9
        exact ⟨rfl, Below.setCell (Below.setCell (Below.setCell HB8.out (Nat.le_refl _) _) (Nat.le_of_lt HLT.out) _) (Nat.le_of_lt HLT.out) _, _, blk_far (blk_far HR9 HNE.out _) HNE.out _, Kd.S_set (Kd.S_set (Kd.S_far HO9 (fun k hk => hk) _) (blk_far HC8.out (fun e => HNE.out e.symm) _) (by decide) 0 _) (blk_put (blk_far HC8.out (fun e => HNE.out e.symm) _) 0 _ rfl) (by decide) 1 _⟩
end Go.Proofs.YtpkbhfdfgapmlaaGreatDoor.Pr
end

/-! ## text ExtW0 -/
section
namespace Go.Proofs.YtpkbhfdfgapmlaaGreatDoor.Pr
open Go.RowKit Go.Proofs.YtpkbhfdfgapmlaaGreatDoorW.PrintWords Go.Proofs.YtpkbhfdfgapmlaaGreatDoorW.PrintLast Go.Proofs.YtpkbhfdfgapmlaaGreatDoorW.PrintMore
set_option maxRecDepth 100000
set_option linter.unusedVariables false
set_option linter.unusedSimpArgs false
attribute [local go_sem high] Go.Proofs.YtpkbhfdfgapmlaaGreatDoor.isSome_setCell

def specB : ByteArray := ⟨#[44, 34, 13, 10]⟩
/-- A rune beyond ASCII is written in two to four bytes, the last one beyond ASCII. -/
theorem enc_last (r : Int) (h : 128 ≤ r) : ∃ (n : Nat) (x : UInt8), (Utf8.encode r).size = n + 1 ∧ 1 ≤ n ∧ n ≤ 3 ∧ 128 ≤ x.toNat ∧ ∀ h : n < (Utf8.encode r).size, (Utf8.encode r)[n]'h = x := by
  obtain ⟨c, hc, h128⟩ : ∃ c : Nat, (if Utf8.valid r then r.toNat else Utf8.runeError) = c ∧ 128 ≤ c := ⟨_, rfl, by split; omega; decide⟩
  have hx : 128 ≤ (UInt8.ofNat (128 + c % 64)).toNat := by
    rw [UInt8.toNat_ofNat']
    omega
  obtain ⟨S, hS⟩ : ∃ S, Utf8.encode r = S := ⟨_, rfl⟩
  rw [hS]
  simp only [Utf8.encode, hc] at hS
  rw [if_neg (by omega)] at hS
  by_cases h1 : c < 2048
  · rw [if_pos h1] at hS; subst hS; exact ⟨1, _, rfl, by omega, by omega, hx, fun _ => rfl⟩
  · rw [if_neg h1] at hS
    by_cases h2 : c < 65536
    · rw [if_pos h2] at hS; subst hS; exact ⟨2, _, rfl, by omega, by omega, hx, fun _ => rfl⟩
    · rw [if_neg h2] at hS; subst hS; exact ⟨3, _, rfl, by omega, by omega, hx, fun _ => rfl⟩
theorem spec_at (i : Nat) (h : i < specB.size) : (specB[i]'h).toNat < 128 := by
  have h' : i < 4 := h
  match i, h' with
  | 0, _ => (show (44 : UInt8).toNat < 128; decide)
  | 1, _ => (show (34 : UInt8).toNat < 128; decide)
  | 2, _ => (show (13 : UInt8).toNat < 128; decide)
  | 3, _ => (show (10 : UInt8).toNat < 128; decide)
theorem spec_index (k : Nat) (x : UInt8) (hx : 128 ≤ x.toNat) : Lib.indexByte (specB.extract k 4).data.toList x = -1 := by
  have key : ∀ l : List UInt8, (∀ b ∈ l, b.toNat < 128) → Lib.indexByte l x = -1 := by
    intro l
    induction l with
    | nil => intro _; rfl
    | cons b t ih =>
      intro hl
      have hb := hl b List.mem_cons_self
      have : ¬ b = x := fun e => by subst e; omega
      rw [Lib.indexByte, ih (fun b hb => hl b (List.mem_cons_of_mem _ hb))]
      simp [this]
  refine key _ (fun b hb => ?_)
  rw [cut_ext] at hb
  have hb2 : b ∈ cut_ specB k 4 := hb
  unfold cut_ at hb2
  have hb3 : b ∈ ([44, 34, 13, 10] : List UInt8) := List.mem_of_mem_drop (List.mem_of_mem_take hb2)
  simp at hb3
  rcases hb3 with rfl | rfl | rfl | rfl <;> decide
theorem wrap_small (n : Nat) (h : n ≤ 3) : IntKind.i64.wrap ((n : Int) + 1) = (n : Int) + 1 := by
  refine (IntKind.wrap_i64 _).trans ?_
  omega
set_option maxHeartbeats 8000000 in
/-- strings.IndexRune at the four bytes and a rune beyond ASCII: none. -/
theorem index_rune (r : Int) (w : World) (h0 : 128 ≤ r) (h1 : r ≤ 2147483647) :
    Calls Tryz.prog 102 #[.string specB, .int .i32 r] w fun e w' => e = .returned (.int .i64 (-1)) ∧ Below w.heap.size w w' := by
  have hsz : specB.size = 4 := rfl
  by_cases hr : r = 65533
  · subst hr
    go_enter Tryz.func102, Tryz.ntmps102
    go_wp2
    go_loopg [] 4 (fun g wx => ∃ i : Nat, i + g = 4 ∧ wx = w.iter specB i)
    case atStart => exact ⟨0, rfl, rfl⟩
    case round =>
      obtain ⟨i, hig, rfl⟩ := hrel
      by_cases hi : i < specB.size
      · have hb := spec_at i hi
        obtain ⟨y, hy⟩ : ∃ y : UInt8, specB[i]'hi = y := ⟨_, rfl⟩
        have hnx := fun ty => run_next_ascii (P := Tryz.prog) w specB i ty hi (by rw [hy]; rw [← hy]; exact hb)
        rw [hy] at hnx hb
        have hyb : ((y.toNat : Int) == 65533) = false := beq_eq_false_iff_ne.2 (by omega)
        have hi4 : i < 4 := hi
        clear hy
        go_wp2
        cases gk with
        | zero => omega
        | succ g =>
          go_roundg g
          case measure => omega
          case rel => exact ⟨i + 1, by omega, rfl⟩
      · have hnx := fun ty => run_next_end (P := Tryz.prog) w specB i ty hi
        go_wp2
        go_ret
        exact ⟨rfl, (Below.refl _ _).alloc (Nat.le_refl _) _⟩
  · have hrb : (r == 65533) = false := beq_eq_false_iff_ne.2 hr
    have h128 : ¬ r < 128 := by omega
    obtain ⟨n, x, hn, hn1, hn3, hx, hxl⟩ := enc_last r h0
    generalize hS : Utf8.encode r = S at *
    have HXL := Aside0.mk hxl
    rcases hv : Lib.validRune r with _ | _
    · go_enter Tryz.func102, Tryz.ntmps102
      go_wp2_with (go_at_call 122; refine (Tryz.utf8_ValidRune r _).mono ?_; rintro e w' ⟨rfl, hw⟩; rw [hw, hv])
      go_ret
      exact ⟨rfl, Below.refl _ _⟩
    · have hcv : ∀ w : World, (convert 21 9 (.int .i32 r)).run Tryz.prog w = .ok (.string S) w := by
        intro w
        rw [← hS]
        kernel_rfl
      have hn2 : (S.size : Int) - 1 = n := by omega
      go_enter Tryz.func102, Tryz.ntmps102
      go_wp2_with (go_at_call 122; refine (Tryz.utf8_ValidRune r _).mono ?_; rintro e w' ⟨rfl, hw⟩; rw [hw, hv])
      go_step3
      go_wp2
      go_loopg [9] 1 (fun g v9 wx => v9 = .int .i64 n ∧ wx = w)
      case atStart => exact ⟨rfl, rfl⟩
      case round =>
        obtain ⟨rfl, rfl⟩ := hrel
        have hlt : n < specB.size := by omega
        have hlS : n < S.size := by omega
        have hd : decide ((n : Int) < (specB.size : Int)) = true := decide_eq_true (by omega)
        have hb := spec_at n hlt
        obtain ⟨y, hy⟩ : ∃ y : UInt8, specB[n]'hlt = y := ⟨_, rfl⟩
        rw [hy] at hb
        have hxx := HXL.out hlS
        have hyx : ((y.toNat : Int) != (x.toNat : Int)) = true := by rw [bne, beq_eq_false_iff_ne.2 (by omega)]; rfl
        have hsl : ∀ w, (Instr.slice 9 (.string specB) (some (.int .i64 ((n : Int) + 1))) none none).run Tryz.prog w = .ok (.string (specB.extract (n + 1) specB.size)) w := fun w => by rw [run_slice_string_from_if w 9 specB .i64 _ Tryz.underlying9, if_pos (by omega)]; rfl
        have hix := spec_index (n + 1) x hx
        have HIX := Aside0.mk hix
        clear hix
        go_wp2
        go_step3
        go_wp2
        go_quiet (fail)
        go_wp2
        have hbw := pw_below_drewN (Below.refl wr.heap.size wr) nq
        have HBW := Aside0.mk hbw
        clear hbw
        generalize wr.drewN nq = w8 at *
        have hwr := wrap_small n hn3
        have hback : ((x.toNat : Int)).toNat.toUInt8 = x := by simp
        have HBK := Aside0.mk hback
        clear hback
        go_quiet ((go_at_call 121; refine Calls.quiet_of_same (v := .int .i64 (-1)) ((Tryz.strings_IndexByte _ _ _).mono ?_); rintro e w2 ⟨rfl, rfl⟩; exact ⟨by rw [HBK.out, HIX.out], rfl⟩))
        go_wp2
        repeat (first | rw [Exit.noGoto_ret] | (simp only [Exit.inBlock, Exit.then]; done) | simp only [Exit.inBlock, Exit.then])
        go_ret
        exact ⟨rfl, pw_below_drewN HBW.out _⟩
end Go.Proofs.YtpkbhfdfgapmlaaGreatDoor.Pr
end

/-! ## text ExtW1 -/
section
namespace Go.Proofs.YtpkbhfdfgapmlaaGreatDoor.Pr
open Go.RowKit Go.Proofs.YtpkbhfdfgapmlaaGreatDoorW.PrintWords Go.Proofs.YtpkbhfdfgapmlaaGreatDoorW.PrintLast Go.Proofs.YtpkbhfdfgapmlaaGreatDoorW.PrintMore
set_option maxRecDepth 100000
set_option linter.unusedVariables false
set_option linter.unusedSimpArgs false
attribute [local go_sem high] Go.Proofs.YtpkbhfdfgapmlaaGreatDoor.isSome_setCell

/-- The variable internal/bytealg.MaxLen holds some number. -/
def LMax (w : World) : Prop := ∃ m, w.cell? ⟨2, 0, none⟩ = some (.int .i64 m)
theorem LMax.below {w w' : World} (h : LMax w) (hb : Below w.heap.size w w') : LMax w' := by
  obtain ⟨m, hc⟩ := h
  exact ⟨m, (hb.cell (p := ⟨2, 0, none⟩) (cell_lt hc)).trans hc⟩
theorem LMax.drewN {w : World} (h : LMax w) (n : Nat) : LMax (w.drewN n) := h
theorem esc_len : ∀ l : List UInt8, (CsvP.esc l).length ≤ 2 * l.length
  | [] => Nat.le_refl _
  | c :: t => by
    have := esc_len t
    rw [CsvP.esc]
    split <;> simp only [List.length_cons] <;> omega
theorem esc_none : ∀ l : List UInt8, l.count 34 = 0 → CsvP.esc l = l
  | [], _ => rfl
  | c :: t, h => by
    have hc : c ≠ 34 := fun e => by subst e; simp at h
    rw [CsvP.esc, if_neg hc, esc_none t (by rw [List.count_cons_of_ne hc] at h; exact h)]
theorem index_miss34 : ∀ l : List UInt8, Lib.index l [34] = -1 → l.count 34 = 0
  | [], _ => rfl
  | c :: t, h => by
    unfold Lib.index at h
    by_cases hc : c = 34
    · subst hc
      simp at h
    · have e : List.isPrefixOf [34] (c :: t) = false := by
        show ((34 : UInt8) == c && List.isPrefixOf [] t) = false
        rw [beq_eq_false_iff_ne.2 (fun e => hc e.symm)]
        rfl
      rw [e] at h
      by_cases hi : Lib.index t [34] = -1
      · rw [List.count_cons_of_ne hc]
        exact index_miss34 t hi
      · exfalso
        have h1 := Lib.index_ge t [34]
        rw [if_neg (by decide), if_neg (by simpa using hi)] at h
        omega
theorem replaceK_esc : ∀ (l : List UInt8) (k : Nat), l.count 34 ≤ k → Lib.replaceK [34] [34, 34] k l = CsvP.esc l
  | [], 0, _ => rfl
  | [], k + 1, _ => by rw [Lib.replaceK]; rfl
  | c :: t, 0, h => by rw [esc_none _ (by omega)]; rfl
  | c :: t, k + 1, h => by
    by_cases hc : c = 34
    · subst hc
      rw [List.count_cons_self] at h
      have e : Lib.index (34 :: t) [34] = ((0 : Nat) : Int) := by simp [Lib.index]
      rw [Lib.replaceK_hit _ _ _ _ 0 e, CsvP.esc, if_pos rfl]
      show [] ++ [34, 34] ++ Lib.replaceK [34] [34, 34] k t = _
      rw [replaceK_esc t k (by omega)]
      rfl
    · rw [List.count_cons_of_ne hc] at h
      have e : List.isPrefixOf [34] (c :: t) = false := by
        show ((34 : UInt8) == c && List.isPrefixOf [] t) = false
        rw [beq_eq_false_iff_ne.2 (fun e => hc e.symm)]
        rfl
      have ih := replaceK_esc t (k + 1) h
      rw [CsvP.esc, if_neg hc]
      by_cases hi : Lib.index t [34] = -1
      · have e2 : Lib.index (c :: t) [34] = -1 := by rw [Lib.index, e, if_neg (by decide), hi]; rfl
        rw [esc_none t (index_miss34 t hi), Lib.replaceK, e2]
        rfl
      · obtain ⟨i, hi2⟩ : ∃ i : Nat, Lib.index t [34] = i := ⟨(Lib.index t [34]).toNat, by have := Lib.index_ge t [34]; omega⟩
        have e2 : Lib.index (c :: t) [34] = ((i + 1 : Nat) : Int) := by
          rw [Lib.index, e, if_neg (by decide), if_neg (by simpa using hi), hi2]
          rfl
        rw [Lib.replaceK_hit _ _ _ _ i hi2] at ih
        rw [Lib.replaceK_hit _ _ _ _ (i + 1) e2, ← ih]
        simp [Nat.add_right_comm]
theorem replaceAll_esc (l : List UInt8) : Lib.replaceAll l [34] [34, 34] = CsvP.esc l := by
  unfold Lib.replaceAll Lib.replace Lib.replaceNum
  rw [if_neg (by decide), if_pos (Or.inl (by decide)), Lib.count_one]
  exact replaceK_esc l _ (Nat.le_refl _)
theorem containsAny_spec : ∀ l : List UInt8, decide (0 ≤ Lib.indexAny l [44, 34, 13, 10]) = l.any CsvP.spec
  | [] => rfl
  | b :: l => by
    have ih := containsAny_spec l
    have hc : ([44, 34, 13, 10] : List UInt8).contains b = CsvP.spec b := by
      simp only [CsvP.spec, List.contains, List.elem]
      cases (b == 44) <;> cases (b == 34) <;> cases (b == 13) <;> cases (b == 10) <;> rfl
    rw [List.any_cons, ← ih, Lib.indexAny, hc]
    cases CsvP.spec b with
    | true => rfl
    | false =>
      have := Lib.indexAny_ge [44, 34, 13, 10] l
      by_cases hm : Lib.indexAny l [44, 34, 13, 10] = -1
      · rw [hm]; rfl
      · rw [if_neg (by decide), if_neg (by simpa using hm), Bool.false_or]
        rw [Bool.eq_iff_iff, decide_eq_true_iff, decide_eq_true_iff]
        omega
theorem specB_ascii : ∀ (j : Nat) b, specB.data.toList[j]? = some b → b.toNat < 128 := by
  intro j b h
  have : b ∈ ([44, 34, 13, 10] : List UInt8) := List.mem_of_getElem? h
  simp at this
  rcases this with rfl | rfl | rfl | rfl <;> decide
theorem zeroSet : ∀ w : World, (zeroValue 147).run Tryz.prog w = .ok (.agg (Array.replicate 256 (.bool false))) w := fun w => (zero_of_info (P := Tryz.prog) (by kernel_rfl : (Tryz.prog.info? 147).map (fun i => (i.zero, i.size)) = some (some (.agg (Array.replicate 256 (.bool false))), 256))).1 w
theorem decode_skip (s : ByteArray) (pos : Nat) (h : pos < s.size) (ha : 128 ≤ (s.get! (pos + 0)).toNat) : ∀ k, k < (Utf8.decode s pos).2 → pos + k < s.size ∧ 128 ≤ (s.get! (pos + k)).toNat := by
  simp only [Utf8.decode]
  repeat' split
  all_goals
    intro k hk
    simp only [Bool.and_eq_true, decide_eq_true_eq, beq_iff_eq, ge_iff_le] at *
    have hk4 : k = 0 ∨ k = 1 ∨ k = 2 ∨ k = 3 := by omega
    rcases hk4 with rfl | rfl | rfl | rfl
  all_goals first | exact ⟨h, ha⟩ | (exact ⟨by omega, by omega⟩) | (exfalso; omega)
theorem get_el (s : ByteArray) (k : Nat) (h : k < s.size) : s.get! k = s[k]'h := get_at s k h
theorem spec_high {x : UInt8} (h : 128 ≤ x.toNat) : CsvP.spec x = false := by
  have n1 : ∀ c : UInt8, c.toNat < 128 → (x == c) = false := fun c hc => beq_eq_false_iff_ne.2 (fun e => by subst e; omega)
  unfold CsvP.spec
  rw [n1 44 (by decide), n1 34 (by decide), n1 13 (by decide), n1 10 (by decide)]
  rfl
/-- No special byte among the first i .. and none in those that a rune beyond ASCII takes. -/
theorem skip_any (s : ByteArray) (i n : Nat) (h : (s.data.toList.take i).any CsvP.spec = false) (hk : ∀ k, k < n → ∃ h : i + k < s.size, CsvP.spec (s[i + k]'h) = false) : (s.data.toList.take (i + n)).any CsvP.spec = false := by
  induction n with
  | zero => exact h
  | succ n ih =>
    have ih := ih (fun k hk' => hk k (by omega))
    obtain ⟨hl, hs⟩ := hk n (by omega)
    rw [show i + (n + 1) = (i + n) + 1 by omega, List.take_add_one, List.any_append, ih, Lib.data_getElem? s (i + n) hl]
    simp [hs]
/-- strings.IndexAny at the four bytes, whatever the text. -/
theorem index_any (s : ByteArray) (w : World) (hs : s.size ≤ 65536) :
    Calls Tryz.prog 88 #[.string s, .string specB] w fun e w' => (∃ z : Int, e = .returned (.int .i64 z) ∧ decide (0 ≤ z) = s.data.toList.any CsvP.spec) ∧ Below w.heap.size w w' := by
  by_cases h8 : 8 < s.size
  · refine (Tryz.strings_IndexAny_long zeroSet s specB w (by decide) h8 (by omega) (by decide) specB_ascii).mono ?_
    rintro e w' ⟨rfl, rfl⟩
    exact ⟨⟨_, rfl, containsAny_spec _⟩, below_alloc (below_alloc (Below.refl _ _) _) _⟩
  · have hcs : specB.size = 4 := rfl
    have hemp : specB.toList.isEmpty = false := by rw [Lib.toList_data]; rfl
    have h8z : decide ((8 : Int) < (s.size : Int)) = false := decide_eq_false (by omega)
    go_enter Tryz.func88, Tryz.ntmps88
    go_wp2_with (go_at_call 103; refine (Tryz.strings_shouldUseASCIISet _ _).mono ?_; rintro e w' ⟨rfl, hw⟩; rw [hw, h8z])
    go_loopg [9, 10] s.size (fun g _ _ wx => ∃ i : Nat, i + g = s.size ∧ wx.heap[w.heap.size]? = some (.stringIter s i) ∧ Aside0 (Below w.heap.size w wx) ∧ Aside0 ((s.data.toList.take i).any CsvP.spec = false))
    case atStart => exact ⟨0, by omega, blk_new _ _, ⟨(Below.refl _ _).alloc (Nat.le_refl _) _⟩, ⟨by simp⟩⟩
    case round =>
      obtain ⟨i, hig, hit, HB, HT⟩ := hrel
      have HIT := Aside0.mk hit
      by_cases hi : i < s.size
      · by_cases hx : (s[i]'hi).toNat < 128
        · have hnx := fun ty => Lib.run_next_ascii_at (P := Tryz.prog) wr w.heap.size s i ty hit hi hx
          obtain ⟨x, hxe⟩ : ∃ x : UInt8, s[i]'hi = x := ⟨_, rfl⟩
          rw [hxe] at hnx hx
          have HXE := Aside0.mk hxe
          have hback : ((x.toNat : Int)).toNat.toUInt8 = x := by simp
          have hB2 : Below w.heap.size w (wr.iterAt w.heap.size s (i + 1)) := Lib.below_iterAt HB.out (Nat.le_refl _) _ _
          have HB2 := Aside0.mk hB2
          have hI2 := Lib.iterAt_heap wr w.heap.size s i (i + 1) hit
          have HI2 := Aside0.mk hI2
          have hcon : decide (0 ≤ Lib.indexByte specB.data.toList x) = CsvP.spec x := by
            have h1 : ([44, 34, 13, 10] : List UInt8).contains x = decide (0 ≤ Lib.indexByte [44, 34, 13, 10] x) := Lib.contains_iff_indexByte _ x
            rw [show specB.data.toList = [44, 34, 13, 10] from rfl, ← h1]
            simp only [CsvP.spec, List.contains, List.elem]
            cases (x == 44) <;> cases (x == 34) <;> cases (x == 13) <;> cases (x == 10) <;> rfl
          clear hit hxe hB2 hI2
          rcases hsp : CsvP.spec x with _ | _
          · rw [hsp] at hcon
            have hlt : ¬ ((0 : Int) ≤ Lib.indexByte specB.data.toList x) := of_decide_eq_false hcon
            have HSP := Aside0.mk hsp
            clear hcon hsp
            go_wp2_with (go_at_call 102; refine (Tryz.strings_IndexRune_ascii specB (x.toNat : Int) _ (by omega) (by omega)).mono ?_; rintro e w' ⟨rfl, hw⟩; rw [hw, hback])
            cases gk with
            | zero => omega
            | succ g =>
              go_roundg g
              case measure => omega
              case rel => exact ⟨i + 1, by omega, HI2.out, HB2, ⟨skip_any s i 1 HT.out (fun k hk => by
                obtain rfl : k = 0 := by omega
                exact ⟨hi, by show CsvP.spec (s[i]'hi) = false; rw [HXE.out]; exact HSP.out⟩)⟩⟩
          · rw [hsp] at hcon
            have hge : (0 : Int) ≤ Lib.indexByte specB.data.toList x := of_decide_eq_true hcon
            have HSP := Aside0.mk hsp
            clear hcon hsp
            go_wp2_with (go_at_call 102; refine (Tryz.strings_IndexRune_ascii specB (x.toNat : Int) _ (by omega) (by omega)).mono ?_; rintro e w' ⟨rfl, hw⟩; rw [hw, hback])
            go_ret
            refine ⟨⟨(i : Int), rfl, ?_⟩, HB2.out⟩
            rw [decide_eq_true (by omega : (0 : Int) ≤ (i : Int))]
            symm
            rw [List.any_eq_true]
            exact ⟨x, List.mem_of_getElem? (by rw [← HXE.out]; exact Lib.data_getElem? s i hi), HSP.out⟩
        · have hx' : 128 ≤ (s[i]'hi).toNat := by omega
          have hdh := decode_high s i hi hx'
          have hdl := decode_le s i
          have hsk := decode_skip s i hi (by rw [get_at s i hi]; exact hx')
          have hnx := fun ty => Lib.run_next_any_at (P := Tryz.prog) wr w.heap.size s i ty hit hi
          obtain ⟨r, hr⟩ : ∃ r, (Utf8.decode s i).1 = r := ⟨_, rfl⟩
          obtain ⟨n, hn⟩ : ∃ n, (Utf8.decode s i).2 = n := ⟨_, rfl⟩
          rw [hr, hn] at hnx hdh
          rw [hr] at hdl
          rw [hn] at hsk
          have hB2 : Below w.heap.size w (wr.iterAt w.heap.size s (i + n)) := Lib.below_iterAt HB.out (Nat.le_refl _) _ _
          have HB2 := Aside0.mk hB2
          have hI2 := Lib.iterAt_heap wr w.heap.size s i (i + n) hit
          have HI2 := Aside0.mk hI2
          have HSK := Aside0.mk hsk
          have hlast := (hsk (n - 1) (by omega)).1
          have HIN : Aside0 (i + n ≤ s.size ∧ 1 ≤ n) := ⟨by omega⟩
          clear hit hr hn hB2 hI2 hsk hx hx' hlast
          generalize wr.iterAt w.heap.size s (i + n) = w2 at *
          go_wp2_with (go_at_call 102; refine (index_rune (r : Int) _ (by omega) (by omega)).mono ?_; rintro e w' ⟨rfl, hw⟩)
          go_roundg (s.size - (i + n))
          case measure => have := HIN.out; omega
          case rel =>
            exact ⟨i + n, by have := HIN.out; omega, blk_below HI2.out hw, ⟨below_step HB2.out hw⟩, ⟨skip_any s i n HT.out (fun k hk => by
              obtain ⟨h1, h2⟩ := HSK.out k hk
              exact ⟨h1, spec_high (by rw [← get_el s (i + k) h1]; exact h2)⟩)⟩⟩
      · have hie : i = s.size := by omega
        have hnx := fun ty => Lib.run_next_end_at (P := Tryz.prog) wr w.heap.size s i ty hit hi
        clear hit
        go_wp2
        go_ret
        refine ⟨⟨-1, rfl, ?_⟩, HB.out⟩
        have := HT.out
        rw [hie, List.take_of_length_le (by rw [← Lib.size_eq]; exact Nat.le_refl _)] at this
        rw [this]
        rfl
theorem contains_any (s : ByteArray) (w : World) (hs : s.size ≤ 65536) :
    Calls Tryz.prog 71 #[.string s, .string specB] w fun e w' => e = .returned (.bool (s.data.toList.any CsvP.spec)) ∧ Below w.heap.size w w' := by
  obtain ⟨bb, hbb⟩ : ∃ bb, s.data.toList.any CsvP.spec = bb := ⟨_, rfl⟩
  rw [hbb]
  have HBB := Aside0.mk hbb
  clear hbb
  go_enter Tryz.func71, Tryz.ntmps71
  go_wp2_with (go_at_call 88; refine (index_any s _ hs).mono ?_; rintro e w' ⟨⟨z, rfl, hz⟩, hb⟩; rw [HBB.out] at hz)
  go_ret
  exact ⟨rfl, hb⟩
/-- A cell as it is written. -/
def wrB (s : ByteArray) : ByteArray := ⟨(CsvP.wr s.data.toList).toArray⟩
theorem csv_written (s : ByteArray) (w : World) (hs : s.size ≤ 65536) (hL : Aside0 (LMax w)) :
    Calls Tryz.prog 40 #[.string s] w fun e w' => e = .returned (.string (wrB s)) ∧ Below w.heap.size w w' := by
  rcases hb : s.data.toList.any CsvP.spec with _ | _
  · have HB := Aside0.mk hb
    clear hb
    go_enter Tryz.func40, Tryz.ntmps40
    go_wp2_with (go_at_call 71; refine (contains_any s _ hs).mono ?_; rintro e w' ⟨rfl, hb⟩; rw [HB.out])
    go_ret
    refine ⟨?_, hb⟩
    unfold wrB CsvP.wr
    rw [HB.out, if_neg (by decide), Array.toArray_toList]
    rfl
  · have HB := Aside0.mk hb
    clear hb
    obtain ⟨r, hr⟩ : ∃ r : ByteArray, r = ⟨(CsvP.esc s.data.toList).toArray⟩ := ⟨_, rfl⟩
    have hrs : r.size ≤ 131072 := by
      rw [hr]
      show (CsvP.esc s.data.toList).toArray.size ≤ _
      rw [List.size_toArray]
      have := esc_len s.data.toList
      rw [← Lib.size_eq] at this
      omega
    have HR := Aside0.mk hr
    clear hr
    go_enter Tryz.func40, Tryz.ntmps40
    go_wp2_with (first | (go_at_call 71; refine (contains_any s _ hs).mono ?_; rintro e w1 ⟨rfl, hb1⟩; rw [HB.out]; have HB1 := Aside0.mk hb1; clear hb1; obtain ⟨m, hm⟩ := hL.out.below HB1.out; have HM := Aside0.mk hm; clear hm) | (go_at_call 72; refine (Tryz.strings_ReplaceAll s _ _ m _ (by omega) HM.out (by decide) (by have := Lib.count_le s.data.toList [34]; rw [← Lib.size_eq] at this; show s.size + Lib.count s.data.toList [34] * 2 ≤ _; omega)).mono ?_; rintro e w2 ⟨rfl, hb2⟩; rw [show (⟨#[34]⟩ : ByteArray).data.toList = [34] from rfl, show (⟨#[34, 34]⟩ : ByteArray).data.toList = [34, 34] from rfl, replaceAll_esc, ← HR.out]))
    go_ret
    refine ⟨?_, (HB1.out.trans (hb2.mono HB1.out.size))⟩
    have e : (⟨#[34]⟩ : ByteArray) ++ r ++ (⟨#[34]⟩ : ByteArray) = wrB s := by
      unfold wrB CsvP.wr
      rw [HB.out, if_pos rfl, HR.out]
      apply ByteArray.ext
      simp [ByteArray.data_append]
    rw [← e]
    rfl
end Go.Proofs.YtpkbhfdfgapmlaaGreatDoor.Pr
end

/-! ## text ExtSh -/
section
/- A law whose library code reads a variable of the library's own: that its cell holds some number follows from the world's shape, which is handed on here beside the row's listed variables. -/
namespace Go.Proofs.YtpkbhfdfgapmlaaGreatDoor.Pr
open Go Go.RowKit
theorem LMax_of {W : World} (h : W.ShapedOpen Tryz.prog) : LMax W :=
  cell_of_shapedOpen_int (t := 3) (zero := #[.int .i64 0]) h (of_decide_eq_true (by kernel_rfl)) (by kernel_rfl) rfl (by kernel_rfl) (by kernel_rfl) Tryz.underlying3
end Go.Proofs.YtpkbhfdfgapmlaaGreatDoor.Pr
end

/-! ## text ExtOpen -/
section
namespace Go.Proofs.YtpkbhfdfgapmlaaGreatDoor.Opn
open Go Go.RowKit Go.Proofs.YtpkbhfdfgapmlaaGreatDoorW.PrintWords Go.Proofs.YtpkbhfdfgapmlaaGreatDoorW.PrintLast Go.Proofs.YtpkbhfdfgapmlaaGreatDoorW.PrintMore
set_option linter.unusedVariables false
set_option linter.unusedSimpArgs false
variable {P : Program}

/-- Whatever reads (within n steps) as a datum of type t reads as one of kind d, and G holds of it. -/
def OpensN {α : Type} (P : Program) (n : Nat) (t : TypeId) (d : Kd α) (G : α → Prop) : Prop :=
  ∀ (H : Type) (enc : TypeId × Value → H) (w : World) (held : Bool) (fuel : Nat), fuel ≤ n → ∀ (cs : List Value) (x : DataW H × List MemPlace),
    DataW.trod enc P w 0 (fun _ => true) held fuel t cs = some x → (∀ m ∈ x.1.weights P t, m ≤ reachBytes) → ∃ y : α, d.K w y cs ∧ G y
theorem OpensN.mono {α : Type} {n t} {d : Kd α} {G G' : α → Prop} (h : OpensN P n t d G) (hG : ∀ x, G x → G' x) : OpensN P n t d G' := fun H enc w held fuel hf cs x hx hm => by
  obtain ⟨y, h1, h2⟩ := h H enc w held fuel hf cs x hx hm
  exact ⟨y, h1, hG y h2⟩
theorem weights_all {H : Type} {e : TypeId} : ∀ (l : List (DataW H)) (i : Nat) (d : DataW H), l[i]? = some d → ∀ m ∈ d.weights P e, m ∈ DataW.weightsAll P e l
  | [], i, d, h, m, hm => by simp at h
  | a :: r, 0, d, h, m, hm => by
    simp only [List.getElem?_cons_zero, Option.some.injEq] at h
    subst h
    simp only [DataW.weightsAll, List.mem_append]
    exact .inl hm
  | a :: r, i + 1, d, h, m, hm => by
    simp only [List.getElem?_cons_succ] at h
    simp only [DataW.weightsAll, List.mem_append]
    exact .inr (weights_all r i d h m hm)

/-- What is told of a list that came in. -/
def LG {α : Type} (B : Nat) (G : α → Prop) (l : List α) : Prop := l.length ≤ maxLen ∧ l.length * B ≤ 140737488351232 ∧ ∀ x ∈ l, G x
/-- Do the fields lie one behind the other, up to the end? -/
def contig (P : Program) (total : Nat) : Nat → List (TypeId × Nat) → Bool
  | o, [] => o == total
  | o, f :: r => f.2 == o && contig P total (o + P.cellsOf f.1) r
theorem contig_eq {total : Nat} {cs : List Value} (hl : cs.length = total) : ∀ (fs : List (TypeId × Nat)) (o : Nat), contig P total o fs = true → (fs.flatMap fun f => (cs.drop f.2).take (P.cellsOf f.1)) = cs.drop o
  | [], o, h => by
    have : o = total := by simpa [contig] using h
    subst this
    rw [← hl, List.drop_length]
    rfl
  | f :: r, o, h => by
    simp only [contig, Bool.and_eq_true, beq_iff_eq] at h
    obtain ⟨h1, h2⟩ := h
    rw [List.flatMap_cons, contig_eq hl r _ h2, h1, ← List.drop_drop]
    exact List.take_append_drop _ _
end Go.Proofs.YtpkbhfdfgapmlaaGreatDoor.Opn
end

/-! ## text ExtBulk -/
section
/- How much stands in what came in: what is read is of no more bulk than its reading. -/
namespace Go.Proofs.YtpkbhfdfgapmlaaGreatDoor.Opn
open Go Go.RowKit Go.Proofs.YtpkbhfdfgapmlaaGreatDoorW.PrintWords Go.Proofs.YtpkbhfdfgapmlaaGreatDoorW.PrintLast Go.Proofs.YtpkbhfdfgapmlaaGreatDoorW.PrintMore
set_option linter.unusedVariables false
set_option linter.unusedSimpArgs false
variable {P : Program}
/-- As OpensN; M says how much the datum holds at the least. -/
def OpensB {α : Type} (P : Program) (n : Nat) (t : TypeId) (d : Kd α) (G : α → Prop) (M : α → Nat) : Prop :=
  ∀ (H : Type) (enc : TypeId × Value → H) (w : World) (held : Bool) (fuel : Nat), fuel ≤ n → ∀ (cs : List Value) (x : DataW H × List MemPlace),
    DataW.trod enc P w 0 (fun _ => true) held fuel t cs = some x → (∀ m ∈ x.1.weights P t, m ≤ reachBytes) → ∃ y : α, d.K w y cs ∧ G y ∧ M y ≤ Rows.uptoBulk x.1
theorem opensB_string {n t} (ht : P.underlying t = some .string) : OpensB P n t Kd.string (fun s => s.size ≤ 140737488351232) (fun s => s.size + 1) := fun H enc w held fuel hf cs x hx hm => by
  obtain ⟨z, rfl, rfl, hz⟩ := DataW.trod_string ht hx
  have e : z.data.toList.length = z.size := by simp
  refine ⟨z, rfl, ?_, ?_⟩
  · have := hm z.data.toList.length (by simp [DataW.weights])
    simp only [reachBytes] at this
    omega
  · simp [Rows.uptoBulk]
theorem bulk_take {H : Type} : ∀ (l : List (DataW H)) (k : Nat) (h : k < l.length), Rows.uptoBulkAll (l.take (k + 1)) = Rows.uptoBulkAll (l.take k) + Rows.uptoBulk (l[k]'h)
  | [], k, h => by simp at h
  | a :: r, 0, h => by simp [Rows.uptoBulkAll]
  | a :: r, k + 1, h => by
    have := bulk_take r k (by simpa using h)
    simp only [List.take_succ_cons, Rows.uptoBulkAll, List.getElem_cons_succ]
    omega
theorem opensB_slice {α : Type} {n t e} {d : Kd α} {G : α → Prop} {M : α → Nat} (ht : P.underlying t = some (.slice e)) (he : P.cellsOf e = d.sz) {B : Nat} (hB : P.bytesOf e = B) (h : OpensB P n e d G M) :
    OpensB P (n + 1) t (Kd.slice e d) (LG B G) (fun l => (l.map M).sum + 1) := fun H enc w held fuel hf cs x hx hm => by
  rcases DataW.trod_slice ht hx with ⟨rfl, rfl⟩ | ⟨a, len, cap, elems, rest, m, rfl, rfl, rfl, hb, hl, hc, hlen, hel, _, _⟩
  · exact ⟨[], ⟨none, 0, rfl, Nat.le_refl _, rfl, by simp, fun h => absurd h (by simp)⟩, ⟨by simp [maxLen], by simp, fun x hx => by simp at hx⟩, by simp [Rows.uptoBulk]⟩
  · have key : ∀ k, k ≤ len → ∃ ys : List α, ys.length = k ∧ (∀ y ∈ ys, G y) ∧ (ys.map M).sum ≤ Rows.uptoBulkAll ((elems.map (·.1)).take k) ∧ ∀ j y, ys[j]? = some y → ∃ c, c.length = d.sz ∧ d.K w y c ∧ ∀ i u, c[i]? = some u → w.cell? (a.add (j * d.sz + i)) = some u := by
      intro k
      induction k with
      | zero => exact fun _ => ⟨[], rfl, fun y hy => by simp at hy, by simp, fun j y hy => by simp at hy⟩
      | succ k ih =>
        intro hk
        obtain ⟨ys, h1, h2, hM, h3⟩ := ih (by omega)
        have h4 := hel k (by omega)
        rw [List.getElem?_eq_getElem (by omega)] at h4
        rw [Option.bind_eq_some_iff] at h4
        obtain ⟨c, hc1, hc2⟩ := h4
        have hw : ∀ m ∈ (elems[k]'(by omega)).1.weights P e, m ≤ reachBytes := fun m' hm' => hm m' (by
          simp only [DataW.weights, ht, List.mem_cons, List.mem_append]
          exact .inr (.inl (weights_all _ k _ (by rw [List.getElem?_map, List.getElem?_eq_getElem (by omega)]; rfl) m' hm')))
        obtain ⟨y, hy1, hy2, hy3⟩ := h H enc w held m (by omega) c _ hc2 hw
        unfold World.cells? at hc1
        rw [if_pos (Nat.zero_le _)] at hc1
        refine ⟨ys ++ [y], by simp [h1], fun z hz => ?_, ?_, fun j z hz => ?_⟩
        · rcases List.mem_append.1 hz with hz | hz
          · exact h2 z hz
          · rw [List.mem_singleton.1 hz]; exact hy2
        · rw [bulk_take _ k (by rw [List.length_map]; omega), List.map_append, List.sum_append, List.getElem_map]
          simp only [List.map_cons, List.map_nil, List.sum_cons, List.sum_nil]
          omega
        · rcases Nat.lt_or_ge j ys.length with hj | hj
          · rw [List.getElem?_append_left hj] at hz
            exact h3 j z hz
          · have hj' : j = ys.length := by
              have := (List.getElem?_eq_some_iff.1 hz).1
              rw [List.length_append, List.length_singleton] at this
              omega
            subst hj'
            have hz' : y = z := by simpa using hz
            subst hz'
            refine ⟨c, d.K_len hy1, hy1, fun i u hu => ?_⟩
            have hi : i < (List.range (P.cellsOf e)).length := by
              rw [List.length_range, he, ← d.K_len hy1]
              exact (List.getElem?_eq_some_iff.1 hu).1
            have := mapM_some_get hc1 i i (by rw [List.getElem?_eq_getElem hi, List.getElem_range])
            rw [Addr.add_add, hu, he, ← h1] at this
            exact this
    obtain ⟨ys, rfl, h2, hM, h3⟩ := key len (Nat.le_refl _)
    have hmax : ys.length ≤ maxLen := by omega
    refine ⟨ys, ⟨some a, cap, rfl, hl, rfl, by simpa [maxLen] using hmax, fun _ => ⟨a, rfl, h3⟩⟩, ⟨hmax, ?_, h2⟩, ?_⟩
    · have z := hm ((elems.length + rest.length) * P.bytesOf e) (by simp [DataW.weights, ht])
      rw [hB] at z
      simp only [reachBytes] at z
      have : ys.length * B ≤ (elems.length + rest.length) * B := Nat.mul_le_mul_right _ (by omega)
      omega
    · rw [List.take_of_length_le (by rw [List.length_map]; omega)] at hM
      simp only [Rows.uptoBulk]
      omega
end Go.Proofs.YtpkbhfdfgapmlaaGreatDoor.Opn
end

/-! ## text ExtBulk2 -/
section
/- How much stands in what came in, for numbers, truth values and structs too. -/
namespace Go.Proofs.YtpkbhfdfgapmlaaGreatDoor.Opn
open Go Go.RowKit Go.Proofs.YtpkbhfdfgapmlaaGreatDoorW.PrintWords Go.Proofs.YtpkbhfdfgapmlaaGreatDoorW.PrintLast Go.Proofs.YtpkbhfdfgapmlaaGreatDoorW.PrintMore
set_option linter.unusedVariables false
set_option linter.unusedSimpArgs false
variable {P : Program}
theorem opensB_int {n t k} (ht : P.underlying t = some (.int k)) : OpensB P n t (Kd.int k) (fun x => (Lit.int k x).wf = true) (fun _ => 1) := fun H enc w held fuel hf cs x hx hm => by
  obtain ⟨z, rfl, rfl, hz⟩ := DataW.trod_int ht hx
  exact ⟨z, rfl, hz, by simp [Rows.uptoBulk]⟩
theorem opensB_bool {n t} (ht : P.underlying t = some .bool) : OpensB P n t Kd.bool (fun _ => True) (fun _ => 1) := fun H enc w held fuel hf cs x hx hm => by
  obtain ⟨z, rfl, rfl⟩ := DataW.trod_bool ht hx
  exact ⟨z, rfl, trivial, by simp [Rows.uptoBulk]⟩
/-- The fields of a struct, one behind the other; M says how much they hold at the least. -/
def OpensFB {α : Type} (P : Program) (n : Nat) (fs : List (TypeId × Nat)) (d : Kd α) (G : α → Prop) (M : α → Nat) : Prop :=
  ∀ (H : Type) (enc : TypeId × Value → H) (w : World) (held : Bool) (fuel : Nat), fuel ≤ n → ∀ (cs : List Value) (xs : List (DataW H × List MemPlace)), xs.length = fs.length →
    (∀ (i : Nat) (f : TypeId × Nat), fs[i]? = some f → DataW.trod enc P w 0 (fun _ => true) held fuel f.1 ((cs.drop f.2).take (P.cellsOf f.1)) = xs[i]?) →
    (∀ m ∈ DataW.weightsEach P (fs.map (·.1)) (xs.map (·.1)), m ≤ reachBytes) → ∃ y : α, d.K w y (fs.flatMap fun f => (cs.drop f.2).take (P.cellsOf f.1)) ∧ G y ∧ M y ≤ Rows.uptoBulkAll (xs.map (·.1))
theorem opensFB_one {α : Type} {n t o} {d : Kd α} {G : α → Prop} {M : α → Nat} (h : OpensB P n t d G M) : OpensFB P n [(t, o)] d G M := fun H enc w held fuel hf cs xs hl hx hm => by
  have h0 := hx 0 (t, o) rfl
  cases xs with
  | nil => simp at hl
  | cons x r =>
    obtain ⟨y, h1, h2, h3⟩ := h H enc w held fuel hf _ x h0 (fun m hm' => hm m (by simp [DataW.weightsEach, hm']))
    exact ⟨y, by simpa using h1, h2, by simp only [List.map_cons, Rows.uptoBulkAll]; omega⟩
theorem opensFB_cons {α β : Type} {n t o fs} {a : Kd α} {b : Kd β} {Ga : α → Prop} {Gb : β → Prop} {Ma : α → Nat} {Mb : β → Nat} (h : OpensB P n t a Ga Ma) (hr : OpensFB P n fs b Gb Mb) :
    OpensFB P n ((t, o) :: fs) (Kd.pair a b) (fun y => Ga y.1 ∧ Gb y.2) (fun y => Ma y.1 + Mb y.2) := fun H enc w held fuel hf cs xs hl hx hm => by
  have h0 := hx 0 (t, o) rfl
  cases xs with
  | nil => simp at hl
  | cons x r =>
    obtain ⟨y, h1, h2, hM1⟩ := h H enc w held fuel hf _ x h0 (fun m hm' => hm m (by simp [DataW.weightsEach, hm']))
    obtain ⟨z, h3, h4, hM2⟩ := hr H enc w held fuel hf cs r (by simpa using hl) (fun i f hi => hx (i + 1) f (by simpa using hi)) (fun m hm' => hm m (by
      simp only [List.map_cons, DataW.weightsEach, List.mem_append]
      exact .inr hm'))
    exact ⟨(y, z), ⟨_, _, by simp, h1, h3⟩, ⟨h2, h4⟩, by simp only [List.map_cons, Rows.uptoBulkAll]; omega⟩
theorem opensB_struct {α β : Type} {n t} {fs : Array Field} {fl : List (TypeId × Nat)} {d : Kd α} {G : α → Prop} {M : α → Nat} (ht : P.underlying t = some (.struct fs)) (hfl : fs.toList.map (fun f => (f.type, f.offset)) = fl)
    (hc : contig P (P.cellsOf t) 0 fl = true) (h : OpensFB P n fl d G M) (f : β → α) (g : α → β) (hg : ∀ a, f (g a) = a) : OpensB P (n + 1) t (Kd.iso d f) (fun b => G (f b)) (fun b => M (f b) + 1) := fun H enc w held fuel hf cs x hx hm => by
  obtain ⟨xs, m, rfl, rfl, hl, hxl, hfx⟩ := DataW.trod_struct ht hx
  subst hfl
  obtain ⟨y, h1, h2, h3⟩ := h H enc w held m (by omega) cs xs (by simp [hxl]) (fun i p hi => by
    rw [List.getElem?_map, Option.map_eq_some_iff] at hi
    obtain ⟨q, hq, rfl⟩ := hi
    exact hfx i q (by simpa using hq)) (fun k hk => hm k (by
      simp only [DataW.weights, ht]
      rw [List.map_map] at hk
      exact hk))
  rw [contig_eq hl _ 0 hc, List.drop_zero] at h1
  exact ⟨g y, by show d.K w (f (g y)) cs; rw [hg]; exact h1, by show G (f (g y)); rw [hg]; exact h2, by simp only [hg, Rows.uptoBulk]; omega⟩
end Go.Proofs.YtpkbhfdfgapmlaaGreatDoor.Opn
end

/-! ## text Prx1 -/
section
namespace Go.Proofs.YtpkbhfdfgapmlaaGreatDoor.Pr
open Go.RowKit Go.Proofs.YtpkbhfdfgapmlaaGreatDoorW.PrintWords Go.Proofs.YtpkbhfdfgapmlaaGreatDoorW.PrintLast Go.Proofs.YtpkbhfdfgapmlaaGreatDoorW.PrintMore
attribute [local go_sem] max2_int min2_int max_two min_two max_three min_three max_four min_four   -- for this text's walks alone
attribute [local go_sem high] Go.Proofs.YtpkbhfdfgapmlaaGreatDoor.isSome_setCell
set_option maxRecDepth 100000
set_option linter.unusedVariables false
set_option linter.unusedSimpArgs false

theorem eqA43 (d : Nat) (w : World) (x0 y0 : Int) (x1 y1 : Int) (x2 y2 : ByteArray) (x3 y3 : Bool) :
    (Op.equalIn (d + 2) 43 (.agg #[.int .i64 x0, .int .i64 x1, .string x2, .bool x3]) (.agg #[.int .i64 y0, .int .i64 y1, .string y2, .bool y3])).run Tryz.prog w = .ok (x0 == y0 && (x1 == y1 && (x2.toList == y2.toList && (x3 == y3)))) w := by
  refine eqA_of Tryz.underlying43 (by kernel_rfl) ?_
  refine eqf_cons (by rfl) (by go_simp; rfl) (by go_simp; rfl) (by go_simp) ?_
  refine eqf_cons (by rfl) (by go_simp; rfl) (by go_simp; rfl) (by go_simp) ?_
  refine eqf_cons (by rfl) (by go_simp; rfl) (by go_simp; rfl) (by go_simp) ?_
  exact eqf_last (by rfl) (by go_simp; rfl) (by go_simp; rfl) (by go_simp)
end Go.Proofs.YtpkbhfdfgapmlaaGreatDoor.Pr
end

/-! ## text ExtCs1 -/
section
namespace Go.Proofs.YtpkbhfdfgapmlaaGreatDoor.Pr
open Go.RowKit Go.Proofs.YtpkbhfdfgapmlaaGreatDoorW.PrintWords Go.Proofs.YtpkbhfdfgapmlaaGreatDoorW.PrintLast Go.Proofs.YtpkbhfdfgapmlaaGreatDoorW.PrintMore
set_option maxRecDepth 100000
set_option linter.unusedVariables false
set_option linter.unusedSimpArgs false
attribute [local go_sem high] Go.Proofs.YtpkbhfdfgapmlaaGreatDoor.isSome_setCell

/-- What csv.Split answers. -/
def splB (s : ByteArray) : List (List ByteArray) × Int × Int :=
  if 65536 < s.size then ([], 0, 2) else ((CsvP.splL (s.size + 1) s.data.toList 0 []).1.map rowB, ((CsvP.splL (s.size + 1) s.data.toList 0 []).2.1 : Int), (CsvP.splL (s.size + 1) s.data.toList 0 []).2.2)
def csv_Split.f (s : ByteArray) : Option (List (List ByteArray) × Int × Int) := some (splB s)
/-- Where csv.Split stands at its loop's head. -/
def SInv (s : ByteArray) (w : World) (res : CsvP.Res) (g : Nat) (wx : World) : Prop :=
  ∃ (i : Nat) (rows : List CsvP.Row) (f : Nat) (v : Value), i + g = s.size ∧ g < f ∧ rows.length ≤ i ∧ Aside0 (CsvP.splL f (s.data.toList.drop i) i rows = res) ∧ Aside0 (Rd w.heap.size s i v wx) ∧ Aside0 (Kd.S (Kd.slice 9 Kd.string) 39 wx w.heap.size (fun k => k ≠ w.heap.size) v (rows.map rowB)) ∧ Aside0 (Below w.heap.size w wx)
theorem spl_cons (f : Nat) (rest : List UInt8) (p : Nat) (rows : List CsvP.Row) (h : rest ≠ []) :
    CsvP.splL (f + 1) rest p rows = (match CsvP.rowL (rest.length + 2) rest p [] with | .error (q, e) => ([], q, e) | .ok (row, r, q) => CsvP.splL f r q (rows ++ [row])) := by
  match rest, h with
  | c :: t, _ => rfl
set_option maxHeartbeats 8000000 in
theorem csv_Split.calls (a0 : ByteArray) (r0 : List (List ByteArray)) (r1 r2 : Int) (w : World) (h : csv_Split.f a0 = some (r0, r1, r2)) :
    Calls Tryz.prog 19 #[.string a0] w fun e w' => ∃ v0, e = .returned (.tuple #[v0, .int .i64 r1, .int .i64 r2]) ∧ Kd.S (Kd.slice 9 Kd.string) 39 w' w.heap.size (fun _ => True) v0 r0 ∧ Below w.heap.size w w' := by
  have h := Option.some.inj h
  unfold splB at h
  by_cases hbig : 65536 < a0.size
  · rw [if_pos hbig] at h
    have HH := Aside0.mk h
    clear h
    go_enter Tryz.func19, Tryz.ntmps19
    go_wp2
    go_ret3
    have h := HH.out
    simp only [Prod.mk.injEq] at h
    obtain ⟨rfl, rfl, rfl⟩ := h
    exact ⟨_, rfl, Kd.S_nil _ _ _ _ _, Below.refl _ _⟩
  · rw [if_neg hbig] at h
    obtain ⟨res, hres⟩ : ∃ res, CsvP.splL (a0.size + 1) a0.data.toList 0 [] = res := ⟨_, rfl⟩
    rw [hres] at h
    have HH := Aside0.mk h
    have hs : a0.size ≤ 65536 := by omega
    have HQ0 : Aside0 (SInv a0 w res a0.size (w.alloc (.cells #[.string a0, .int .i64 0, .slice none 0 0] 105))) :=
      ⟨0, [], a0.size + 1, .slice none 0 0, by omega, by omega, Nat.le_refl _, ⟨hres⟩, ⟨blk_new _ _⟩, ⟨Kd.S_nil _ _ _ _ _⟩, ⟨below_alloc (Below.refl _ _) _⟩⟩
    clear h hres hbig
    go_enter Tryz.func19, Tryz.ntmps19
    go_wp2
    go_loopg [] a0.size (fun g wx => SInv a0 w res g wx)
    case atStart => exact HQ0.out
    case round =>
      clear HQ0
      obtain ⟨i, rows, f, v, hig, hgf, hrl, HP, HR, HV, HB⟩ := hrel
      by_cases hlt : i < a0.size
      · have hd : decide (a0.size ≤ i) = false := decide_eq_false (by omega)
        obtain ⟨f', rfl⟩ : ∃ f', f = f' + 1 := ⟨f - 1, by omega⟩
        have hne : a0.data.toList.drop i ≠ [] := by rw [drop_cons hlt]; simp
        have hdl : (a0.data.toList.drop i).length = a0.size - i := by rw [List.length_drop, ← Lib.size_eq]
        have hP := HP.out
        rw [spl_cons _ _ _ _ hne] at hP
        have HRL : Aside0 ((rows.map rowB).length ≤ 65536) := ⟨by rw [List.length_map]; omega⟩
        rcases hrow : CsvP.rowL ((a0.data.toList.drop i).length + 2) (a0.data.toList.drop i) i [] with ⟨q, er⟩ | ⟨row, r, q⟩
        · rw [hrow] at hP
          have HP2 : Aside0 ((([] : List CsvP.Row), q, er) = res) := ⟨hP⟩
          have her := CsvP.row_err _ _ _ _ _ _ (by omega) hrow
          have her0 : (er != 0) = true := by rcases her.1 with h | h <;> rw [h] <;> rfl
          have HRO := Aside0.mk hrow
          have HDL := Aside0.mk hdl
          clear hP hrow hne her hdl HP
          go_wp2_with (first | (go_at_call 43; refine (csv_end _ a0 i v _ HR.out).mono ?_; rintro e w2 ⟨rfl, ⟨n2, rfl⟩⟩; rw [hd]) | (go_at_call 44; refine (csv_row w.heap.size a0 i v _ (rows.map rowB) _ (HR.out.drewN n2) (by omega) hs _ (by rw [HDL.out]; omega) ⟨Kd.S_drewN HV.out n2⟩ HRL HRO).mono ?_; rintro e w5 ⟨rfl, hB5⟩; have HB5 := Aside0.mk hB5; clear hB5))
          go_quiet (fail)
          go_wp2
          go_ret3
          have hr := HP2.out
          subst hr
          have h := HH.out
          simp only [Prod.mk.injEq, List.map_nil] at h
          obtain ⟨rfl, rfl, rfl⟩ := h
          exact ⟨_, rfl, Kd.S_nil _ _ _ _ _, pw_below_drewN (below_alloc ((pw_below_drewN HB.out n2).trans HB5.out) _) _⟩
        · rw [hrow] at hP
          have HP2 : Aside0 (CsvP.splL f' r q (rows ++ [row]) = res) := ⟨hP⟩
          have hlen := CsvP.row_len _ _ _ _ _ _ _ hrow
          obtain ⟨k, hk1, hk2⟩ := CsvP.row_drop _ _ _ _ _ _ _ hrow
          have hq := hlen.2.1 hne
          have hq2 := hlen.2.2
          have hr : r = a0.data.toList.drop q := by rw [hk1, List.drop_drop, hk2]
          have hqq : q ≤ a0.size ∧ i < q := by omega
          have HRO := Aside0.mk hrow
          have HDL := Aside0.mk hdl
          have HQQ := Aside0.mk hqq
          subst hr
          clear hP hrow hne hdl HP hlen hk1 hk2 hq hq2 hqq
          go_wp2_with (first | (go_at_call 43; refine (csv_end _ a0 i v _ HR.out).mono ?_; rintro e w2 ⟨rfl, ⟨n2, rfl⟩⟩; rw [hd]) | (go_at_call 44; refine (csv_row w.heap.size a0 i v _ (rows.map rowB) _ (HR.out.drewN n2) (by omega) hs _ (by rw [HDL.out]; omega) ⟨Kd.S_drewN HV.out n2⟩ HRL HRO).mono ?_; rintro e w5 ⟨rfl, hB5, v5, hR5, hV5⟩; have HB5 := Aside0.mk hB5; have HR5 := Aside0.mk hR5; have HV5 := Aside0.mk hV5; clear hB5 hR5 hV5))
          go_roundg (a0.size - q)
          case measure => have := HQQ.out; omega
          case rel => exact ⟨q, rows ++ [row], f', v5, by have := HQQ.out; omega, by have := HQQ.out; omega, by have := HQQ.out; rw [List.length_append, List.length_singleton]; omega, HP2, ⟨blk_alloc HR5.out _⟩, ⟨by rw [List.map_append]; exact Kd.S_alloc HV5.out _⟩, ⟨below_alloc ((pw_below_drewN HB.out n2).trans HB5.out) _⟩⟩
      · have hd : decide (a0.size ≤ i) = true := decide_eq_true (by omega)
        have hP := HP.out
        obtain ⟨f', rfl⟩ : ∃ f', f = f' + 1 := ⟨f - 1, by omega⟩
        rw [List.drop_eq_nil_of_le (by rw [← Lib.size_eq]; omega), CsvP.splL] at hP
        have HP2 := Aside0.mk hP
        have hy2 := HR.out.c2
        clear hP HP
        go_wp2_with (go_at_call 43; refine (csv_end _ a0 i v _ HR.out).mono ?_; rintro e w2 ⟨rfl, ⟨n2, rfl⟩⟩; rw [hd])
        go_ret3
        have hr := HP2.out
        subst hr
        have h := HH.out
        simp only [Prod.mk.injEq] at h
        obtain ⟨rfl, rfl, rfl⟩ := h
        exact ⟨_, rfl, Kd.S_mono (Kd.S_drewN HV.out n2) (fun _ _ => trivial), pw_below_drewN HB.out n2⟩
end Go.Proofs.YtpkbhfdfgapmlaaGreatDoor.Pr
end

/-! ## text ExtCs2 -/
section
namespace Go.Proofs.YtpkbhfdfgapmlaaGreatDoor.Pr
open Go.RowKit Go.Proofs.YtpkbhfdfgapmlaaGreatDoorW.PrintWords Go.Proofs.YtpkbhfdfgapmlaaGreatDoorW.PrintLast Go.Proofs.YtpkbhfdfgapmlaaGreatDoorW.PrintMore
set_option maxRecDepth 100000
set_option linter.unusedVariables false
set_option linter.unusedSimpArgs false
attribute [local go_sem high] Go.Proofs.YtpkbhfdfgapmlaaGreatDoor.isSome_setCell

/-- The cells of a row, written behind what stands; nothing, if that is too long. -/
def cellsJ : List ByteArray → Bool → List UInt8 → Option (List UInt8)
  | [], _, acc => some acc
  | s :: t, first, acc =>
    if 65536 < s.size then none
    else if 65536 < ((if first then acc else acc ++ [44]) ++ CsvP.wr s.data.toList).length then none
    else cellsJ t false ((if first then acc else acc ++ [44]) ++ CsvP.wr s.data.toList)
def rowsJ : List (List ByteArray) → List UInt8 → ByteArray × Int
  | [], acc => if 65536 < acc.length then (⟨#[]⟩, 2) else (⟨acc.toArray⟩, 0)
  | r :: rs, acc => match cellsJ r true acc with | none => (⟨#[]⟩, 2) | some a => rowsJ rs (a ++ [13, 10])
/-- What csv.Join answers. -/
def joinB (rows : List (List ByteArray)) : ByteArray × Int := if rows.any (·.isEmpty) then (⟨#[]⟩, 41) else rowsJ rows []
def csv_Join.f (l : List (List ByteArray)) : Option (ByteArray × Int) :=
  if l.length ≤ 140737488355328 ∧ ∀ r ∈ l, r.length ≤ 140737488355328 then some (joinB l) else none
/-- What stands behind the cells of the row. -/
def restJ (rs : List (List ByteArray)) : Option (List UInt8) → ByteArray × Int
  | none => (⟨#[]⟩, 2)
  | some a => rowsJ rs (a ++ [13, 10])
theorem rowsJ_cons (r : List ByteArray) (rs : List (List ByteArray)) (acc : List UInt8) : rowsJ (r :: rs) acc = restJ rs (cellsJ r true acc) := by
  rw [rowsJ]
  cases cellsJ r true acc <;> rfl
theorem drop_rd {l : List (List ByteArray)} {i : Nat} (h : i < l.length) : l.drop i = rd_L1 l (i : Int) :: l.drop (i + 1) := by
  rw [List.drop_eq_getElem_cons h]
  congr 1
  show _ = l.getD _ _
  rw [Int.toNat_natCast, List.getD_eq_getElem?_getD, List.getElem?_eq_getElem h]
  rfl
theorem drop_rs {l : List ByteArray} {i : Nat} (h : i < l.length) : l.drop i = rdOf ByteArray.empty l (i : Int) :: l.drop (i + 1) := by
  rw [List.drop_eq_getElem_cons h]
  congr 1
  show _ = l.getD _ _
  rw [Int.toNat_natCast, List.getD_eq_getElem?_getD, List.getElem?_eq_getElem h]
  rfl
theorem builder_below {T e : TypeId} {B b : Nat} {bs : List Value} {w w' : World} (h : Lib.IsBuilderF T e B b bs w) (hb : Below w.heap.size w w') : Lib.IsBuilderF T e B b bs w' := builder_keep h (fun k o _ hk => blk_below hk hb)
theorem mem_rd {l : List (List ByteArray)} {i : Nat} (h : i < l.length) : rd_L1 l (i : Int) ∈ l := by
  show l.getD _ _ ∈ l
  rw [Int.toNat_natCast, List.getD_eq_getElem?_getD, List.getElem?_eq_getElem h]
  exact List.getElem_mem _
set_option maxHeartbeats 16000000 in
theorem csv_Join.calls (A0 : Option Addr) (c0 : Nat) (l0 : List (List ByteArray)) (R1 : ByteArray) (R2 : Int) (w : World) (hr0 : Kd.C (Kd.slice 9 Kd.string) w A0 l0.length l0) (hc0 : l0.length ≤ c0) (hL : Aside0 (LMax w)) (h : csv_Join.f l0 = some (R1, R2)) :
    Calls Tryz.prog 18 #[.slice A0 l0.length c0] w fun e w' => e = .returned (.tuple #[.string R1, .int .i64 R2]) ∧ Below w.heap.size w w' := by
  unfold csv_Join.f at h
  by_cases hbd : l0.length ≤ 140737488355328 ∧ ∀ r ∈ l0, r.length ≤ 140737488355328
  case neg => rw [if_neg hbd] at h; cases h
  rw [if_pos hbd] at h
  have h := Option.some.inj h
  have HN := Aside0.mk hbd.1
  have HNR := Aside0.mk hbd.2
  have HJ := Aside0.mk h
  have HR0 := Aside0.mk hr0
  clear h hbd hr0
  go_enter Tryz.func18, Tryz.ntmps18
  go_wp2
  go_loopg [13] l0.length (fun g v wx => ∃ i : Nat, v = .int .i64 i ∧ i + g = l0.length ∧ Aside0 ((l0.take i).any (·.isEmpty) = false) ∧ wx = w)
  case atStart => exact ⟨0, rfl, by omega, ⟨by simp⟩, rfl⟩
  case round =>
    obtain ⟨i, rfl, hig, HE, rfl⟩ := hrel
    by_cases hlt : i < l0.length
    · as_aux_lemma =>
      have hd : decide ((i : Int) < (l0.length : Int)) = true := decide_eq_true (by omega)
      have p1 : 0 ≤ (i : Int) := by omega
      have q1 : (i : Int) < (l0.length : Int) := by omega
      obtain ⟨ad1, A1, cap1, e1, hx1, hl1, hC1⟩ := at_L1 HR0.out (i : Int) p1 q1
      cases e1
      rw [Int.toNat_natCast] at hx1
      have htk : (l0.take (i + 1)).any (·.isEmpty) = (rd_L1 l0 (i : Int)).isEmpty := by
        rw [List.take_add_one, List.any_append, HE.out, Bool.false_or, List.getElem?_eq_getElem hlt]
        have : rd_L1 l0 (i : Int) = l0[i] := by
          show l0.getD _ _ = _
          rw [Int.toNat_natCast, List.getD_eq_getElem?_getD, List.getElem?_eq_getElem hlt]; rfl
        rw [this]; simp
      have HTK := Aside0.mk htk
      replace p1 := eq_true p1
      replace q1 := eq_true q1
      generalize hX : rd_L1 l0 (i : Int) = X at *
      clear hX hC1 htk
      by_cases hz : X.length = 0
      · have hzb : ((X.length : Int) == 0) = true := beq_iff_eq.2 (by omega)
        have hxe : X = [] := List.eq_nil_of_length_eq_zero hz
        have HX := Aside0.mk hxe
        clear hxe hz
        go_wp2
        go_ret2
        have hJ := HJ.out
        have hany : l0.any (·.isEmpty) = true := by
          rw [← List.take_append_drop (i + 1) l0, List.any_append, HTK.out, HX.out]; rfl
        rw [joinB, if_pos hany] at hJ
        obtain ⟨rfl, rfl⟩ := Prod.mk.inj hJ
        exact ⟨rfl, Below.refl _ _⟩
      · have hzb : ((X.length : Int) == 0) = false := beq_eq_false_iff_ne.2 (by omega)
        have HX := Aside0.mk hz
        clear hz
        have hb := HN.out
        go_wp2
        cases gk with
        | zero => omega
        | succ g =>
          go_roundg g
          case measure => omega
          case rel => exact ⟨i + 1, rfl, by omega, ⟨by rw [HTK.out]; cases X with | nil => exact absurd rfl HX.out | cons _ _ => rfl⟩, rfl⟩
    · have hie : i = l0.length := by omega
      have hd : decide ((i : Int) < (l0.length : Int)) = false := decide_eq_false (by omega)
      have hne : l0.any (·.isEmpty) = false := by
        have := HE.out
        rwa [hie, List.take_length] at this
      have HW : Aside0 (rowsJ l0 [] = (R1, R2)) := ⟨by have := HJ.out; rwa [joinB, if_neg (by rw [hne]; decide)] at this⟩
      have HNE : Aside0 (∀ r ∈ l0, r ≠ []) := ⟨by
        intro r hr e
        have := List.any_eq_false.1 hne r hr
        rw [e] at this
        exact this rfl⟩
      clear hne HJ HE hig hlt
      go_wp2
      obtain ⟨w0, rfl⟩ : ∃ w0 : World, w0 = wr := ⟨_, rfl⟩
      have hfresh := Lib.IsBuilderF.of (Lib.fresh_isBuilder 94 5 w0)
      have HB1 := Aside0.mk (below_alloc (Below.refl w0.heap.size w0) (.cells #[.pointer none, .slice none 0 0] 94))
      have hsz : w0.heap.size < (w0.alloc (.cells #[.pointer none, .slice none 0 0] 94)).heap.size := by simp
      have HF := Aside0.mk hfresh
      have HSZ := Aside0.mk hsz
      clear hfresh hsz hd hie
      generalize w0.alloc (.cells #[.pointer none, .slice none 0 0] 94) = w1 at *
      go_loopg [23] l0.length (fun g v wx => ∃ (j : Nat) (acc : List UInt8), v = .int .i64 j ∧ j + g = l0.length ∧ acc.length ≤ 65538 ∧ Aside0 (rowsJ (l0.drop j) acc = (R1, R2)) ∧ Aside0 (Lib.IsBuilderF 94 5 w0.heap.size w0.heap.size (Lib.byteCells acc) wx) ∧ Aside0 (w0.heap.size < wx.heap.size) ∧ Aside0 (Below w0.heap.size w0 wx))
      case atStart => exact ⟨0, [], rfl, by omega, by simp, HW, HF, HSZ, HB1⟩
      case round =>
        clear HW HF HSZ HB1
        obtain ⟨j, acc, rfl, hjg, hacc, HW, HBd, HS, HB⟩ := hrel
        have hNb := HN.out
        by_cases hlt : j < l0.length
        · obtain ⟨wo, rfl⟩ : ∃ wo : World, wo = wr := ⟨_, rfl⟩
          have hd : decide ((j : Int) < (l0.length : Int)) = true := decide_eq_true (by omega)
          have p1 : 0 ≤ (j : Int) := by omega
          have q1 : (j : Int) < (l0.length : Int) := by omega
          have hXN := HNR.out _ (mem_rd hlt)
          have hXE := HNE.out _ (mem_rd hlt)
          have hdr := drop_rd hlt
          obtain ⟨ad1, A1, cap1, e1, hx0, hl1, hC1⟩ := at_L1 HR0.out (j : Int) p1 q1
          cases e1
          rw [Int.toNat_natCast] at hx0
          have hx1 := pw_cell_below HB.out hx0
          clear hx0
          generalize rd_L1 l0 (j : Int) = X at *
          have hX0 : 0 < X.length := List.length_pos_iff.2 hXE
          have HC1 := Aside0.mk hC1
          have HXN := Aside0.mk hXN
          have hW := HW.out
          rw [hdr, rowsJ_cons] at hW
          have HW2 : Aside0 (restJ (l0.drop (j + 1)) (cellsJ (X.drop 0) (decide (0 = 0)) acc) = (R1, R2)) := ⟨hW⟩
          replace p1 := eq_true p1
          replace q1 := eq_true q1
          clear hdr hW HW hC1 hXN hXE
          go_wp2
          clear hx1 p1 q1 hd
          go_loopg [29] X.length (fun g v wx => ∃ (i : Nat) (acc : List UInt8), v = .int .i64 i ∧ i + g = X.length ∧ acc.length ≤ 65538 ∧ (0 < i → acc.length ≤ 65536) ∧ Aside0 (restJ (l0.drop (j + 1)) (cellsJ (X.drop i) (decide (i = 0)) acc) = (R1, R2)) ∧ Aside0 (Lib.IsBuilderF 94 5 w0.heap.size w0.heap.size (Lib.byteCells acc) wx) ∧ Aside0 (w0.heap.size < wx.heap.size) ∧ Aside0 (Below w0.heap.size w0 wx))
          case atStart => exact ⟨0, acc, rfl, by omega, hacc, fun h => absurd h (by omega), HW2, HBd, HS, HB⟩
          case round =>
            clear HW2 HBd HS HB hacc
            obtain ⟨i, acc, rfl, hig, hacc, hacc2, HW, HBd, HS, HB⟩ := hrel
            have hXb := HXN.out
            have hlen := Lib.byteCells_length acc
            by_cases hli : i < X.length
            · as_aux_lemma =>
              have hd : decide ((i : Int) < (X.length : Int)) = true := decide_eq_true (by omega)
              have p1 : 0 ≤ (i : Int) := by omega
              have q1 : (i : Int) < (X.length : Int) := by omega
              obtain ⟨ad2, e2, hx2⟩ := Kd.at_string (Kd.C_below HC1.out HB.out) (i : Int) p1 q1
              cases e2
              rw [Int.toNat_natCast] at hx2
              have hW := HW.out
              rw [drop_rs hli, cellsJ] at hW
              generalize rdOf ByteArray.empty X (i : Int) = s at *
              replace p1 := eq_true p1
              replace q1 := eq_true q1
              have HIG := Aside0.mk hig
              have HLI := Aside0.mk hli
              clear HW
              -- the comma
              obtain ⟨a1, ha1⟩ : ∃ a1, a1 = (if decide (i = 0) = true then acc else acc ++ [44]) := ⟨_, rfl⟩
              rw [← ha1] at hW
              have HWW := Aside0.mk hW
              have HA1 := Aside0.mk ha1
              clear hW ha1
              by_cases hpos : 0 < i
              focus
                have hpb : decide ((i : Int) > 0) = true := decide_eq_true (by omega)
                have ha := HA1.out
                rw [if_neg (by simp; omega)] at ha
                subst ha
                go_upto_region 16 with (go_at_call 38; refine (Tryz.Builder_WriteByte_k w0.heap.size w0.heap.size _ 44 _ HBd.out (by omega) (Nat.le_of_lt HS.out)).mono ?_; rintro e w3 ⟨rfl, hw2, hw3, hw4⟩)
                have HBd1 : Aside0 (Lib.IsBuilderF 94 5 w0.heap.size w0.heap.size (Lib.byteCells (acc ++ [44])) w3) := ⟨by rw [bytes_snoc]; exact Or.inr hw2⟩
                have HS1 : Aside0 (w0.heap.size < w3.heap.size) := ⟨Nat.lt_of_lt_of_le HS.out hw3.size⟩
                have HB1 : Aside0 (Below w0.heap.size w0 w3) := ⟨HB.out.trans hw3⟩
                have hal : (acc ++ [44]).length ≤ 65539 := by rw [List.length_append, List.length_singleton]; omega
                clear hpos hpb hlen hw2 hw3 hw4 HBd HS HB HA1 hacc hacc2 hx2
                generalize acc ++ [44] = a1 at *
              rotate_left
              focus
                have hpb : decide ((i : Int) > 0) = false := decide_eq_false (by omega)
                have ha := HA1.out
                rw [if_pos (by simp; omega)] at ha
                subst ha
                go_upto_region 16 with (fail)
                have HBd1 := HBd
                have HS1 := HS
                have HB1 := HB
                have hal : a1.length ≤ 65539 := by omega
                clear hpos hpb hlen HBd HS HB HA1 hacc hacc2 hx2
              all_goals
                have hlen := Lib.byteCells_length a1
                have hWW := HWW.out
                by_cases hbig : 65536 < s.size
                · rw [if_pos hbig] at hWW
                  obtain ⟨rfl, rfl⟩ := Prod.mk.inj hWW
                  clear hWW HWW
                  go_wp2
                  go_ret2
                  exact ⟨rfl, HB1.out⟩
                · rw [if_neg hbig] at hWW
                  have hsb : s.size ≤ 65536 := by omega
                  have hws : (wrB s).size ≤ 131074 := by
                    show (CsvP.wr s.data.toList).toArray.size ≤ _
                    rw [List.size_toArray]
                    have := esc_len s.data.toList
                    rw [← Lib.size_eq] at this
                    unfold CsvP.wr
                    split
                    · simp only [List.length_cons, List.length_append, List.length_nil]; omega
                    · rw [← Lib.size_eq]; omega
                  have hstr : Lib.byteCells a1 ++ Lib.strCells (wrB s) = Lib.byteCells (a1 ++ CsvP.wr s.data.toList) := by simp [Lib.byteCells, Lib.strCells, wrB]
                  have HST := Aside0.mk hstr
                  have hwl : (wrB s).size = (CsvP.wr s.data.toList).length := by
                    show (CsvP.wr s.data.toList).toArray.size = _
                    rw [List.size_toArray]
                  have HWL := Aside0.mk hwl
                  have HW3 := Aside0.mk hWW
                  clear hWW HWW hbig hstr hwl
                  obtain ⟨a2, ha2⟩ : ∃ a2, a1 ++ CsvP.wr s.data.toList = a2 := ⟨_, rfl⟩
                  have ha2l : a2.length = a1.length + (wrB s).size := by rw [← ha2, List.length_append, HWL.out]
                  rw [ha2] at HW3 HST
                  have HA2 := Aside0.mk ha2l
                  clear ha2 ha2l
                  go_upto_region 19 with (first | (go_at_call 40; refine (csv_written s _ hsb ⟨hL.out.below HB1.out⟩).mono ?_; rintro e w4 ⟨rfl, hb4⟩; have hB4 := builder_below HBd1.out hb4) | (go_at_call 39; refine (Tryz.Builder_WriteString_k w0.heap.size w0.heap.size _ _ _ hB4 (by omega) (Nat.le_trans (Nat.le_of_lt HS1.out) hb4.size)).mono ?_; rintro e w5 ⟨rfl, hw2, hw3, hw4⟩))
                  have HBd5 : Aside0 (Lib.IsBuilderF 94 5 w0.heap.size w0.heap.size (Lib.byteCells a2) w5) := ⟨by rw [← HST.out]; exact Or.inr hw2⟩
                  have HB5 : Aside0 (Below w0.heap.size w0 w5) := ⟨(HB1.out.trans (hb4.mono (Nat.le_of_lt HS1.out))).trans hw3⟩
                  have HS5 : Aside0 (w0.heap.size < w5.heap.size) := ⟨Nat.lt_of_lt_of_le HS1.out (Nat.le_trans hb4.size hw3.size)⟩
                  clear hw2 hw3 hw4 hb4 hB4 HBd1 HB1 HS1 HST hlen
                  have hlen := Lib.byteCells_length a2
                  by_cases hb2 : 65536 < a2.length
                  · have hW3 := HW3.out
                    rw [if_pos hb2] at hW3
                    obtain ⟨rfl, rfl⟩ := Prod.mk.inj hW3
                    clear hW3 HW3
                    go_wp2_with (go_at_call 41; refine (Tryz.Builder_Len_f w0.heap.size w0.heap.size _ _ HBd5.out).mono ?_; rintro e w6 ⟨rfl, rfl⟩; rw [hlen])
                    go_ret2
                    exact ⟨rfl, HB5.out⟩
                  · have hW3 := HW3.out
                    rw [if_neg hb2] at hW3
                    have HW4 := Aside0.mk hW3
                    have ha2 : a2.length ≤ 65536 := by omega
                    clear hW3 HW3 hb2
                    go_wp2_with (go_at_call 41; refine (Tryz.Builder_Len_f w0.heap.size w0.heap.size _ _ HBd5.out).mono ?_; rintro e w6 ⟨rfl, rfl⟩; rw [hlen])
                    go_roundg (X.length - (i + 1))
                    case measure => have := HIG.out; have := HLI.out; omega
                    case rel => exact ⟨i + 1, a2, rfl, by have := HLI.out; omega, by omega, fun _ => ha2, HW4, HBd5, HS5, HB5⟩
            · as_aux_lemma =>
              have hie : i = X.length := by omega
              have hW := HW.out
              rw [show X.drop i = [] from List.drop_eq_nil_of_le (by omega), cellsJ] at hW
              have HW5 : Aside0 (rowsJ (l0.drop (j + 1)) (acc ++ [13, 10]) = (R1, R2)) := ⟨hW⟩
              have ha := hacc2 (by omega)
              have hd : decide ((i : Int) < (X.length : Int)) = false := decide_eq_false (by omega)
              have hst : Lib.byteCells acc ++ Lib.strCells (⟨#[13, 10]⟩ : ByteArray) = Lib.byteCells (acc ++ [13, 10]) := by simp [Lib.byteCells, Lib.strCells]
              have HST := Aside0.mk hst
              clear hW HW hst
              go_wp2_with (go_at_call 39; refine (Tryz.Builder_WriteString_k w0.heap.size w0.heap.size _ _ _ HBd.out (by rw [hlen, size_lit2]; omega) (Nat.le_of_lt HS.out)).mono ?_; rintro e w5 ⟨rfl, hw2, hw3, hw4⟩)
              go_roundg (l0.length - (j + 1))
              case measure => omega
              case rel => exact ⟨j + 1, acc ++ [13, 10], rfl, by omega, by simp; omega, HW5, ⟨by rw [← HST.out]; exact Or.inr hw2⟩, ⟨Nat.lt_of_lt_of_le HS.out hw3.size⟩, ⟨HB.out.trans hw3⟩⟩
        · as_aux_lemma =>
          have hje : j = l0.length := by omega
          have hd : decide ((j : Int) < (l0.length : Int)) = false := decide_eq_false (by omega)
          have hlen := Lib.byteCells_length acc
          have hW := HW.out
          rw [List.drop_eq_nil_of_le (by omega), rowsJ] at hW
          have hle := HS.out
          clear HW hlt
          by_cases hbig : 65536 < acc.length
          · rw [if_pos hbig] at hW
            obtain ⟨rfl, rfl⟩ := Prod.mk.inj hW
            clear hW
            go_wp2_with (go_at_call 41; refine (Tryz.Builder_Len_f w0.heap.size w0.heap.size _ _ HBd.out).mono ?_; rintro e w6 ⟨rfl, rfl⟩; rw [hlen])
            go_ret2
            exact ⟨rfl, HB.out⟩
          · rw [if_neg hbig] at hW
            obtain ⟨rfl, rfl⟩ := Prod.mk.inj hW
            clear hW
            go_wp2_with (first | (go_at_call 41; refine (Tryz.Builder_Len_f w0.heap.size w0.heap.size _ _ HBd.out).mono ?_; rintro e w6 ⟨rfl, rfl⟩; rw [hlen]) | (go_at_call 42; refine (Tryz.Builder_String_any_k w0.heap.size w0.heap.size acc _ HBd.out (Nat.le_of_lt HS.out)).mono ?_; rintro e w7 ⟨rfl, hw2, hw3, hw4⟩))
            go_ret2
            exact ⟨rfl, HB.out.trans hw3⟩
end Go.Proofs.YtpkbhfdfgapmlaaGreatDoor.Pr
end

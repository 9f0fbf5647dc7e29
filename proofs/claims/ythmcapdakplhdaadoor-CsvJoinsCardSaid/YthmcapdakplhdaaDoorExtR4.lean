import Derived.Test.YthmcapdakplhdaaDoorExtR3
import Derived.Test.YthmcapdakplhdaaDoorCsvD
import Derived.Test.YthmcapdakplhdaaDoorShC
namespace Go.Proofs.YthmcapdakplhdaaDoor.Pr
open Go.RowKit Go.Proofs.YthmcapdakplhdaaDoorW.PrintWords Go.Proofs.YthmcapdakplhdaaDoorW.PrintLast Go.Proofs.YthmcapdakplhdaaDoorW.PrintMore
set_option maxRecDepth 100000
set_option linter.unusedVariables false
set_option linter.unusedSimpArgs false
attribute [local go_sem high] Go.Proofs.YthmcapdakplhdaaDoor.isSome_setCell

def toB (l : List UInt8) : ByteArray := ⟨l.toArray⟩
def rowB (r : CsvP.Row) : List ByteArray := r.map toB
theorem rowB_snoc (r : CsvP.Row) (x : List UInt8) : rowB (r ++ [x]) = rowB r ++ [toB x] := by simp [rowB]
theorem rowB_len (r : CsvP.Row) : (rowB r).length = r.length := by simp [rowB]
/-- What a row's reader answers. -/
def RowOut (b : Nat) (s : ByteArray) (rows : List (List ByteArray)) (w : World) (res : Except (Nat × Int) (CsvP.Row × List UInt8 × Nat)) (e : Ending) (w' : World) : Prop :=
  match res with
  | .error (q, er) => e = .returned (.agg #[.int .i64 er, .int .i64 q]) ∧ Below b w w'
  | .ok (row, _, q) => e = .returned (.agg #[.int .i64 0, .int .i64 0]) ∧ Below b w w' ∧ ∃ v', Rd b s q v' w' ∧ Kd.S (Kd.slice 9 Kd.string) 22 w' b (fun k => k ≠ b) v' (rows ++ [rowB row])
/-- Where a row's reader stands: the reader at i, the row so far in v3, the result's block; below all is as it was, but for the reader's own block. -/
structure RSt (b : Nat) (s : ByteArray) (v : Value) (w : World) (i : Nat) (row : List ByteArray) (v3 : Value) (wx : World) : Prop where
  R : Rd b s i v wx
  W : Kd.R Kd.string 9 wx (w.heap.size + 1) (fun _ => True) v3 row
  C : wx.heap[w.heap.size]? = some (.cells #[.int .i64 0, .int .i64 0] 72 (0, 0))
  G : w.grownBy wx (some b)
  N : w.heap.size < wx.heap.size
theorem R_but {α : Type} {d : Kd α} {e base b : Nat} {ok : Nat → Prop} {v : Value} {xs : List α} {w w1 : World} (h : Kd.R d e w base ok v xs) (hg : w.grownBy w1 (some b)) (hb : b < base) : Kd.R d e w1 base ok v xs :=
  Kd.R_mono (Kd.R_move (Kd.R_bound h) (fun k hk => hg.block k hk.2.2.1 (by intro e; injection e; have := hk.2.1; omega))) (fun _ hk => hk.1)
theorem R_okp {α : Type} {d : Kd α} {e base b : Nat} {v : Value} {xs : List α} {w : World} (h : Kd.R d e w base (fun _ => True) v xs) (hb : b ≤ base) : Kd.R d e w b (fun k => base ≤ k) v xs := Kd.R_lower (Kd.R_mono (Kd.R_bound h) (fun k hk => hk.2.1)) hb
theorem Rd.put2 {b : Nat} {s : ByteArray} {p : Nat} {v : Value} {w : World} (h : Rd b s p v w) (u : Value) : Rd b s p u (w.setCell ⟨b, 2, none⟩ u) := blk_put h 2 _ rfl
section
variable {b : Nat} {s : ByteArray} {v : Value} {w : World} {i : Nat} {row : List ByteArray} {v3 : Value} {wx w5 : World}
theorem RSt.drewN (h : RSt b s v w i row v3 wx) (n : Nat) : RSt b s v w i row v3 (wx.drewN n) := ⟨h.R, Kd.R_drewN h.W n, h.C, gr_drewN h.G n, h.N⟩
theorem RSt.alloc (h : RSt b s v w i row v3 wx) (o : Obj) : RSt b s v w i row v3 (wx.alloc o) := ⟨blk_alloc h.R o, Kd.R_alloc h.W o, blk_alloc h.C o, gr_alloc h.G o, by rw [World.size_alloc]; have := h.N; omega⟩
theorem RSt.cell (h : RSt b s v w i row v3 wx) (hb : b < w.heap.size) {q : Nat} (hR : Rd b s q v w5) (hG : wx.grownBy w5 (some b)) : RSt b s v w q row v3 w5 :=
  ⟨hR, R_but h.W hG (by omega), (hG.block _ h.N (by intro e; injection e; omega)).trans h.C, gr_trans h.G hG, Nat.lt_of_lt_of_le h.N hG.size⟩
theorem RSt.put1 (h : RSt b s v w i row v3 wx) (hb : b < w.heap.size) : RSt b s v w (i + 1) row v3 (wx.setCell ⟨b, 1, none⟩ (.int .i64 ((i : Int) + 1))) := h.cell hb h.R.put1 (gr_set1 _ _ _ _)
theorem RSt.app (h : RSt b s v w i row v3 wx) (hb : b < w.heap.size) {v4 : Value} {xs : List ByteArray} (ho : Kd.R Kd.string 9 w5 (w.heap.size + 1) (fun _ => True) v4 xs) (hB : Below (w.heap.size + 1) wx w5) : RSt b s v w i xs v4 w5 :=
  ⟨(hB.block _ (by omega)).trans h.R, ho, (hB.block _ (Nat.lt_succ_self _)).trans h.C, gr_below h.G hB (Nat.le_succ _), Nat.lt_of_lt_of_le h.N hB.size⟩
end
/-- At the loop's head. -/
def RInv (b : Nat) (s : ByteArray) (v : Value) (w : World) (res : Except (Nat × Int) (CsvP.Row × List UInt8 × Nat)) (g : Nat) (v3 : Value) (wx : World) : Prop :=
  ∃ (i : Nat) (row : CsvP.Row) (f : Nat), i + g = s.size ∧ g < f ∧ row.length ≤ i ∧ Aside0 (CsvP.rowL f (s.data.toList.drop i) i row = res) ∧ Aside0 (RSt b s v w i (rowB row) v3 wx)
/-- The fault in the result's block, alone. -/
theorem fault_one {fn : Func} {c : Nat} {W : World} {x y : Value} (h : fn.results = #[.cell 2 72]) (tmps : Array Value) (hp : tmps.getD 2 undef = .pointer (some ⟨c, 0, none⟩)) (hg : W.heap[c]? = some (.cells #[x, y] 72 (0, 0))) :
    (results fn tmps).run Tryd.prog W = .ok (.agg #[x, y]) W := by
  have hp' : tmps[2]?.getD undef = .pointer (some ⟨c, 0, none⟩) := by simpa using hp
  simp [results, h, hp', asAddr, run_loadVar_row W c 72 72 #[x, y] (0, 0) _ hg Tryd.underlying72 rfl (by kernel_rfl)]
theorem below_of_gr {w w' : World} {b : Nat} (h : w.grownBy w' (some b)) (hb : b < w.heap.size) : Below b w w' :=
  ⟨h.os, h.tape, h.output, by have := h.size; omega, fun k hk => h.block k (by omega) (by intro e; injection e; omega)⟩
set_option maxHeartbeats 16000000 in
theorem csv_row (b : Nat) (s : ByteArray) (p : Nat) (v : Value) (w : World) (rows : List (List ByteArray)) (res : Except (Nat × Int) (CsvP.Row × List UInt8 × Nat)) (h : Rd b s p v w) (hp : p ≤ s.size) (hs : s.size ≤ 65536) (f : Nat) (hf : s.size - p < f)
    (HV : Aside0 (Kd.S (Kd.slice 9 Kd.string) 22 w b (fun k => k ≠ b) v rows)) (hl : Aside0 (rows.length ≤ 65536))
    (hres : Aside0 (CsvP.rowL f (s.data.toList.drop p) p [] = res)) :
    Calls Tryd.prog 34 #[.pointer (some ⟨b, 0, none⟩)] w fun e w' => RowOut b s rows w res e w' := by
  have HNE : Aside0 (b ≠ w.heap.size) := ⟨Nat.ne_of_lt h.lt⟩
  have HLT := Aside0.mk h.lt
  have HQ0 : Aside0 (RInv b s v w res (s.size - p) (.slice none 0 0) (w.alloc (.cells #[.int .i64 0, .int .i64 0] 72))) :=
    ⟨p, [], f, by omega, hf, Nat.zero_le _, hres, ⟨blk_alloc h _, Kd.R_nil _ _ _ _ _, blk_new _ _, World.grownBy_alloc _ _ _, by simp⟩⟩
  clear h hf hres
  obtain ⟨Av, cv, ev⟩ := Kd.S_slice HV.out
  subst ev
  go_enter Tryd.func34, Tryd.ntmps34
  go_wp2
  go_loopg [3] (s.size - p) (fun g v3 wx => RInv b s (.slice Av rows.length cv) w res g v3 wx)
  case atStart => exact HQ0.out
  case round =>
    clear HQ0 hp
    obtain ⟨i, row, f, hig, hgf, hrl, HP, HS⟩ := hrel
    obtain ⟨f', rfl⟩ : ∃ f', f = f' + 1 := ⟨f - 1, by omega⟩
    have hP := HP.out
    rw [CsvP.rowL] at hP
    clear HP
    rcases hcell : CsvP.cellL (s.data.toList.drop i) i with q | ⟨x, r, q⟩
    · rw [hcell] at hP
      have HP : Aside0 (Except.error (q, 40) = res) := ⟨hP⟩
      have HCE := Aside0.mk hcell
      clear hP hcell
      go_wp2_with (go_at_call 60; refine (csv_cell b s i _ _ _ HS.out.R (by omega) hs HCE).mono ?_; rintro e w5 ⟨rfl, ⟨p5, hR5⟩, hG5⟩; have HS5 := Aside0.mk (HS.out.cell HLT.out hR5 hG5); clear hR5 hG5; have hy0 := HS5.out.R.c0; have hy1 := HS5.out.R.c1; have hy2 := HS5.out.R.c2; have hyf := HS5.out.R.fz; have hz0 : w5.cell? ⟨w.heap.size, 0, none⟩ = some (.int .i64 0) := (by simp [World.cell?, HS5.out.C]); have hz1 : w5.cell? ⟨w.heap.size, 1, none⟩ = some (.int .i64 0) := (by simp [World.cell?, HS5.out.C]); have hzf := fun i => blk_frozen HS5.out.C i; have hzs := HS5.out.N)
      refine bodyPost_ret (fault_one rfl _ rfl (blk_alloc (blk_put (blk_put HS5.out.C 0 _ rfl) 1 _ rfl) _)) rfl ?_
      have hr := HP.out
      subst hr
      exact ⟨rfl, below_of_gr (gr_alloc (gr_new (gr_new HS5.out.G (Nat.le_refl _)) (Nat.le_refl _)) _) HLT.out⟩
    · rw [hcell] at hP
      have HCE := Aside0.mk hcell
      have hcl := CsvP.cell_len _ _ _ hcell
      obtain ⟨k, hk1, hk2⟩ := CsvP.cell_drop _ _ _ hcell
      have hdl : (s.data.toList.drop i).length = s.size - i := by rw [List.length_drop, ← Lib.size_eq]
      have hr : r = s.data.toList.drop q := by
        have e1 : r = (s.data.toList.drop i).drop k := hk1
        have e2 : q = i + k := hk2
        rw [e1, List.drop_drop, e2]
      have hq : q ≤ s.size ∧ i ≤ q := by
        have e2 : q = i + k := hk2
        have e3 : q + r.length = i + (s.data.toList.drop i).length := hcl.2
        omega
      obtain ⟨hq1, hq2⟩ := hq
      clear hcl hk1 hk2 hdl
      subst hr
      by_cases hqs : q < s.size
      · have hdq : decide (s.size ≤ q) = false := decide_eq_false (by omega)
        rw [drop_cons hqs] at hP
        dsimp only at hP
        by_cases c44 : s[q] = 44
        · rw [if_pos c44] at hP
          have HP := Aside0.mk hP
          clear hP hcell
          go_wp2_with (first | (go_at_call 60; refine (csv_cell b s i _ _ _ HS.out.R (by omega) hs HCE).mono ?_; rintro e w5 ⟨rfl, hR5, hG5⟩; have HS5 := Aside0.mk (HS.out.cell HLT.out hR5 hG5); clear hR5 hG5) | ((with_reducible refine gate_builtin (b := .append) (xs := #[.tmp 16, .tmp 18]) rfl ?_); at_builtin; refine Kd.R_append Kd.string (w0 := w5.alloc (.cells #[.int .i64 0, .int .i64 0] 72)) (w.heap.size + 1) rfl (.tmp 16) (.tmp 18) 22 9 (.string ⟨#[]⟩) 16 rfl Tryd.underlying22 info9 rfl (by decide) (by omega) u3 (rowB row) (toB x) [.string (toB x)] (fun _ => True) (fun _ => False) rfl ?aX ?aP (fun _ hk => hk.elim) ?aF ?aO ?aB ?aS ?aL ?_; (case aX => rw [World.size_alloc]; rfl); (case aP => exact rfl); (case aF => exact (fun _ _ => trivial)); (case aO => exact (Kd.R_alloc HS5.out.W _)); (case aB => exact Below.refl _ _); (case aS => rw [World.size_alloc]; have := HS5.out.N; omega); (case aL => rw [rowB_len]; omega); intro v4 w6 ho hb hg hat; rw [← rowB_snoc] at ho; have HS6 := Aside0.mk ((HS5.out.alloc (.cells #[.int .i64 0, .int .i64 0] 72)).app HLT.out ho hb); obtain ⟨A4, c4, e4⟩ := Kd.R_slice ho; subst e4; clear ho hb hg hat HS5 HS) | (go_at_call 33; refine (csv_end b s q _ _ HS6.out.R).mono ?_; rintro e w7 ⟨rfl, ⟨n7, rfl⟩⟩; rw [hdq]; have HS7 := Aside0.mk (HS6.out.drewN n7); clear HS6; generalize w6.drewN n7 = w7 at *; have hy0 := HS7.out.R.c0; have hy1 := HS7.out.R.c1; have hy2 := HS7.out.R.c2; have hyf := HS7.out.R.fz; have hz0 : w7.cell? ⟨w.heap.size, 0, none⟩ = some (.int .i64 0) := (by simp [World.cell?, HS7.out.C]); have hz1 : w7.cell? ⟨w.heap.size, 1, none⟩ = some (.int .i64 0) := (by simp [World.cell?, HS7.out.C]); have hzf := fun i => blk_frozen HS7.out.C i; have hzs := HS7.out.N))
          go_quiet (fail)
          go_wp2
          go_roundg (s.size - (q + 1))
          case measure => omega
          case rel => exact ⟨q + 1, row ++ [x], f', by omega, by omega, by rw [List.length_append, List.length_singleton]; omega, HP, ⟨(HS7.out.drewN nq).put1 HLT.out⟩⟩
        · rw [if_neg c44] at hP
          by_cases c10 : s[q] = 10
          · rw [if_pos c10] at hP
            have HP := Aside0.mk hP
            clear hP hcell c44
            go_wp2_with (first | (go_at_call 60; refine (csv_cell b s i _ _ _ HS.out.R (by omega) hs HCE).mono ?_; rintro e w5 ⟨rfl, hR5, hG5⟩; have HS5 := Aside0.mk (HS.out.cell HLT.out hR5 hG5); clear hR5 hG5) | ((with_reducible refine gate_builtin (b := .append) (xs := #[.tmp 16, .tmp 18]) rfl ?_); at_builtin; refine Kd.R_append Kd.string (w0 := w5.alloc (.cells #[.int .i64 0, .int .i64 0] 72)) (w.heap.size + 1) rfl (.tmp 16) (.tmp 18) 22 9 (.string ⟨#[]⟩) 16 rfl Tryd.underlying22 info9 rfl (by decide) (by omega) u3 (rowB row) (toB x) [.string (toB x)] (fun _ => True) (fun _ => False) rfl ?aX ?aP (fun _ hk => hk.elim) ?aF ?aO ?aB ?aS ?aL ?_; (case aX => rw [World.size_alloc]; rfl); (case aP => exact rfl); (case aF => exact (fun _ _ => trivial)); (case aO => exact (Kd.R_alloc HS5.out.W _)); (case aB => exact Below.refl _ _); (case aS => rw [World.size_alloc]; have := HS5.out.N; omega); (case aL => rw [rowB_len]; omega); intro v4 w6 ho hb hg hat; rw [← rowB_snoc] at ho; have HS6 := Aside0.mk ((HS5.out.alloc (.cells #[.int .i64 0, .int .i64 0] 72)).app HLT.out ho hb); obtain ⟨A4, c4, e4⟩ := Kd.R_slice ho; subst e4; clear ho hb hg hat HS5 HS) | (go_at_call 33; refine (csv_end b s q _ _ HS6.out.R).mono ?_; rintro e w7 ⟨rfl, ⟨n7, rfl⟩⟩; rw [hdq]; have HS7 := Aside0.mk (HS6.out.drewN n7); clear HS6; generalize w6.drewN n7 = w7 at *; have hy0 := HS7.out.R.c0; have hy1 := HS7.out.R.c1; have hy2 := HS7.out.R.c2; have hyf := HS7.out.R.fz; have hz0 : w7.cell? ⟨w.heap.size, 0, none⟩ = some (.int .i64 0) := (by simp [World.cell?, HS7.out.C]); have hz1 : w7.cell? ⟨w.heap.size, 1, none⟩ = some (.int .i64 0) := (by simp [World.cell?, HS7.out.C]); have hzf := fun i => blk_frozen HS7.out.C i; have hzs := HS7.out.N))
            go_quiet (fail)
            have HS9 := Aside0.mk ((HS7.out.drewN nq).put1 HLT.out)
            go_wp2_with (((with_reducible refine gate_builtin (b := .append) (xs := #[.tmp 80, .tmp 82]) rfl ?_); at_builtin; refine Kd.S_append (Kd.slice 9 Kd.string) (w0 := ((w7.drewN nq).setCell ⟨b, 1, none⟩ (.int .i64 ((q : Int) + 1)))) b rfl (.tmp 80) (.tmp 82) 24 22 (.slice none 0 0) 24 rfl Tryd.underlying24 info22 rfl (by decide) (by omega) (.slice Av rows.length cv) rows (rowB (row ++ [x])) [.slice A4 (rowB (row ++ [x])).length c4] (fun k => k ≠ b) (fun k => w.heap.size + 1 ≤ k) rfl ?aX ?aP ?aK ?aF ?aO ?aB ?aS ?aL ?_; (case aX => rw [World.size_setCell]; exact rfl); (case aP => exact ⟨_, rfl, R_okp HS9.out.W (by have := HLT.out; omega)⟩); (case aK => exact fun k hk => ⟨by have := HLT.out; omega, fun e => by have := Kd.S_lt HV.out k e.symm; omega⟩); (case aF => exact fun k hk => by have := HLT.out; have := HS9.out.N; omega); (case aO => exact Kd.S_mono (Kd.S_grown (Kd.S_bound HV.out) HS9.out.G (fun k hk e => hk.1 (by injection e))) (fun k hk => ⟨hk.1, by have := hk.2.2.1; omega⟩)); (case aB => exact Below.refl _ _); (case aS => have := HLT.out; have := HS9.out.N; omega); (case aL => have := hl.out; omega); intro v8 w8 ho hb hg hat; have hvb : ∀ k, (Value.slice Av rows.length cv).ownBlock = some k → k < w.heap.size ∧ k ≠ b := fun k e => ⟨Kd.S_lt HV.out k e, (Kd.S_R HV.out).1 k e⟩; have HR8 : Aside0 (Rd b s (q + 1) (.slice Av rows.length cv) w8) := ⟨(hg.block b HS9.out.R.lt (fun e => (hvb b e.symm).2 rfl)).trans HS9.out.R⟩; have HC8 : Aside0 (w8.heap[w.heap.size]? = some (.cells #[.int .i64 0, .int .i64 0] 72 (0, 0))) := ⟨(hg.block _ HS9.out.N (fun e => by have := (hvb _ e.symm).1; omega)).trans HS9.out.C⟩; have HO8 := Aside0.mk ho; have HB8 : Aside0 (Below b w w8) := ⟨(below_of_gr HS9.out.G HLT.out).trans hb⟩; have hk2 := HR8.out.c2; have hkf := HR8.out.fz; have hkz0 : w8.cell? ⟨w.heap.size, 0, none⟩ = some (.int .i64 0) := (by simp [World.cell?, HC8.out]); have hkz1 : w8.cell? ⟨w.heap.size, 1, none⟩ = some (.int .i64 0) := (by simp [World.cell?, HC8.out]); have hkzf := fun i => blk_frozen HC8.out i; obtain ⟨A8, c8, e8⟩ := Kd.S_slice HO8.out; subst e8; clear ho hb hg hat hvb))
            refine bodyPost_ret (fault_one rfl _ rfl (blk_put (blk_put (blk_far HC8.out (fun e => HNE.out e.symm) _) 0 _ rfl) 1 _ rfl)) rfl ?_
            have hr := HP.out
            subst hr
            have HR9 := HR8.out.put2 (.slice A8 (rows.length + 1) c8)
            have HO9 := HO8.out
            rw [List.length_append, List.length_singleton] at HO9
            exact ⟨rfl, Below.setCell (Below.setCell (Below.setCell HB8.out (Nat.le_refl _) _) (Nat.le_of_lt HLT.out) _) (Nat.le_of_lt HLT.out) _, _, blk_far (blk_far HR9 HNE.out _) HNE.out _, Kd.S_set (Kd.S_set (Kd.S_far HO9 (fun k hk => hk) _) (blk_far HC8.out (fun e => HNE.out e.symm) _) (by decide) 0 _) (blk_put (blk_far HC8.out (fun e => HNE.out e.symm) _) 0 _ rfl) (by decide) 1 _⟩

          · rw [if_neg c10] at hP
            by_cases c13 : s[q] = 13
            · rw [if_pos c13] at hP
              have hsl : ∀ w, (Instr.slice 9 (.string s) (some (.int .i64 q)) none none).run Tryd.prog w = .ok (.string (s.extract q s.size)) w := fun w => by rw [run_slice_string_from_if w 9 s .i64 q Tryd.underlying9, if_pos (by omega)]; rfl
              have htx : (s.extract q s.size).data.toList = s[q] :: s.data.toList.drop (q + 1) := by
                rw [cut_ext, ← drop_cons hqs]
                show (cut_ s q s.size) = _
                unfold cut_
                exact List.take_of_length_le (by rw [List.length_drop, ← Lib.size_eq]; omega)
              rw [c13] at htx
              clear c44 c10 hcell
              by_cases hnl : ∃ t', s.data.toList.drop (q + 1) = 10 :: t'
              · obtain ⟨t', ht'⟩ := hnl
                rw [ht'] at htx hP
                have hpre : Lib.hasPrefix (s.extract q s.size).data.toList (⟨#[13, 10]⟩ : ByteArray).data.toList = true := by rw [htx]; simp [Lib.hasPrefix]
                have HP : Aside0 (Except.ok (row ++ [x], t', q + 2) = res) := ⟨hP⟩
                have HPR := Aside0.mk hpre
                have HQ2 : Aside0 (q + 1 < s.size) := ⟨by
                  have e := congrArg List.length ht'
                  rw [List.length_drop, ← Lib.size_eq, List.length_cons] at e
                  omega⟩
                clear hP hpre htx ht'
                go_wp2_with (first | (go_at_call 60; refine (csv_cell b s i _ _ _ HS.out.R (by omega) hs HCE).mono ?_; rintro e w5 ⟨rfl, hR5, hG5⟩; have HS5 := Aside0.mk (HS.out.cell HLT.out hR5 hG5); clear hR5 hG5) | ((with_reducible refine gate_builtin (b := .append) (xs := #[.tmp 16, .tmp 18]) rfl ?_); at_builtin; refine Kd.R_append Kd.string (w0 := w5.alloc (.cells #[.int .i64 0, .int .i64 0] 72)) (w.heap.size + 1) rfl (.tmp 16) (.tmp 18) 22 9 (.string ⟨#[]⟩) 16 rfl Tryd.underlying22 info9 rfl (by decide) (by omega) u3 (rowB row) (toB x) [.string (toB x)] (fun _ => True) (fun _ => False) rfl ?aX ?aP (fun _ hk => hk.elim) ?aF ?aO ?aB ?aS ?aL ?_; (case aX => rw [World.size_alloc]; rfl); (case aP => exact rfl); (case aF => exact (fun _ _ => trivial)); (case aO => exact (Kd.R_alloc HS5.out.W _)); (case aB => exact Below.refl _ _); (case aS => rw [World.size_alloc]; have := HS5.out.N; omega); (case aL => rw [rowB_len]; omega); intro v4 w6 ho hb hg hat; rw [← rowB_snoc] at ho; have HS6 := Aside0.mk ((HS5.out.alloc (.cells #[.int .i64 0, .int .i64 0] 72)).app HLT.out ho hb); obtain ⟨A4, c4, e4⟩ := Kd.R_slice ho; subst e4; clear ho hb hg hat HS5 HS) | (go_at_call 33; refine (csv_end b s q _ _ HS6.out.R).mono ?_; rintro e w7 ⟨rfl, ⟨n7, rfl⟩⟩; rw [hdq]; have HS7 := Aside0.mk (HS6.out.drewN n7); clear HS6; generalize w6.drewN n7 = w7 at *; have hy0 := HS7.out.R.c0; have hy1 := HS7.out.R.c1; have hy2 := HS7.out.R.c2; have hyf := HS7.out.R.fz; have hz0 : w7.cell? ⟨w.heap.size, 0, none⟩ = some (.int .i64 0) := (by simp [World.cell?, HS7.out.C]); have hz1 : w7.cell? ⟨w.heap.size, 1, none⟩ = some (.int .i64 0) := (by simp [World.cell?, HS7.out.C]); have hzf := fun i => blk_frozen HS7.out.C i; have hzs := HS7.out.N))
                go_quiet (fail)
                go_wp2
                have HS8 := Aside0.mk (HS7.out.drewN nq)
                clear HS7 hy0 hy1 hy2 hyf hz0 hz1 hzf hzs
                generalize w7.drewN nq = w8 at *
                have hy0 := HS8.out.R.c0
                have hy1 := HS8.out.R.c1
                have hy2 := HS8.out.R.c2
                have hyf := HS8.out.R.fz
                have hz0 : w8.cell? ⟨w.heap.size, 0, none⟩ = some (.int .i64 0) := by simp [World.cell?, HS8.out.C]
                have hz1 : w8.cell? ⟨w.heap.size, 1, none⟩ = some (.int .i64 0) := by simp [World.cell?, HS8.out.C]
                have hzf := fun i => blk_frozen HS8.out.C i
                have hzs := HS8.out.N
                go_quiet ((go_at_call 45; refine Calls.quiet_of_same (v := .bool true) ((Tryd.strings_HasPrefix _ _ _).mono ?_); rintro e w2 ⟨rfl, rfl⟩; exact ⟨by rw [HPR.out], rfl⟩))
                have HS9 : Aside0 (RSt b s (.slice Av rows.length cv) w (q + 2) (rowB (row ++ [x])) (.slice A4 (rowB (row ++ [x])).length c4) (((w8.drewN nq).setCell ⟨b, 1, none⟩ (.int .i64 ((q : Int) + 1))).setCell ⟨b, 1, none⟩ (.int .i64 ((q : Int) + 1 + 1)))) := ⟨((HS8.out.drewN nq).put1 HLT.out).put1 HLT.out⟩
                go_wp2_with (((with_reducible refine gate_builtin (b := .append) (xs := #[.tmp 80, .tmp 82]) rfl ?_); at_builtin; refine Kd.S_append (Kd.slice 9 Kd.string) (w0 := (((w8.drewN nq).setCell ⟨b, 1, none⟩ (.int .i64 ((q : Int) + 1))).setCell ⟨b, 1, none⟩ (.int .i64 ((q : Int) + 1 + 1)))) b rfl (.tmp 80) (.tmp 82) 24 22 (.slice none 0 0) 24 rfl Tryd.underlying24 info22 rfl (by decide) (by omega) (.slice Av rows.length cv) rows (rowB (row ++ [x])) [.slice A4 (rowB (row ++ [x])).length c4] (fun k => k ≠ b) (fun k => w.heap.size + 1 ≤ k) rfl ?aX ?aP ?aK ?aF ?aO ?aB ?aS ?aL ?_; (case aX => rw [World.size_setCell, World.size_setCell]; exact rfl); (case aP => exact ⟨_, rfl, R_okp HS9.out.W (by have := HLT.out; omega)⟩); (case aK => exact fun k hk => ⟨by have := HLT.out; omega, fun e => by have := Kd.S_lt HV.out k e.symm; omega⟩); (case aF => exact fun k hk => by have := HLT.out; have := HS9.out.N; omega); (case aO => exact Kd.S_mono (Kd.S_grown (Kd.S_bound HV.out) HS9.out.G (fun k hk e => hk.1 (by injection e))) (fun k hk => ⟨hk.1, by have := hk.2.2.1; omega⟩)); (case aB => exact Below.refl _ _); (case aS => have := HLT.out; have := HS9.out.N; omega); (case aL => have := hl.out; omega); intro v8 w8 ho hb hg hat; have hvb : ∀ k, (Value.slice Av rows.length cv).ownBlock = some k → k < w.heap.size ∧ k ≠ b := fun k e => ⟨Kd.S_lt HV.out k e, (Kd.S_R HV.out).1 k e⟩; have HR8 : Aside0 (Rd b s (q + 2) (.slice Av rows.length cv) w8) := ⟨(hg.block b HS9.out.R.lt (fun e => (hvb b e.symm).2 rfl)).trans HS9.out.R⟩; have HC8 : Aside0 (w8.heap[w.heap.size]? = some (.cells #[.int .i64 0, .int .i64 0] 72 (0, 0))) := ⟨(hg.block _ HS9.out.N (fun e => by have := (hvb _ e.symm).1; omega)).trans HS9.out.C⟩; have HO8 := Aside0.mk ho; have HB8 : Aside0 (Below b w w8) := ⟨(below_of_gr HS9.out.G HLT.out).trans hb⟩; have hk2 := HR8.out.c2; have hkf := HR8.out.fz; have hkz0 : w8.cell? ⟨w.heap.size, 0, none⟩ = some (.int .i64 0) := (by simp [World.cell?, HC8.out]); have hkz1 : w8.cell? ⟨w.heap.size, 1, none⟩ = some (.int .i64 0) := (by simp [World.cell?, HC8.out]); have hkzf := fun i => blk_frozen HC8.out i; obtain ⟨A8, c8, e8⟩ := Kd.S_slice HO8.out; subst e8; clear ho hb hg hat hvb))
                refine bodyPost_ret (fault_one rfl _ rfl (blk_put (blk_put (blk_far HC8.out (fun e => HNE.out e.symm) _) 0 _ rfl) 1 _ rfl)) rfl ?_
                have hr := HP.out
                subst hr
                have HR9 := HR8.out.put2 (.slice A8 (rows.length + 1) c8)
                have HO9 := HO8.out
                rw [List.length_append, List.length_singleton] at HO9
                exact ⟨rfl, Below.setCell (Below.setCell (Below.setCell HB8.out (Nat.le_refl _) _) (Nat.le_of_lt HLT.out) _) (Nat.le_of_lt HLT.out) _, _, blk_far (blk_far HR9 HNE.out _) HNE.out _, Kd.S_set (Kd.S_set (Kd.S_far HO9 (fun k hk => hk) _) (blk_far HC8.out (fun e => HNE.out e.symm) _) (by decide) 0 _) (blk_put (blk_far HC8.out (fun e => HNE.out e.symm) _) 0 _ rfl) (by decide) 1 _⟩
              · have hpre : Lib.hasPrefix (s.extract q s.size).data.toList (⟨#[13, 10]⟩ : ByteArray).data.toList = false := by
                  rw [htx]
                  cases hd : s.data.toList.drop (q + 1) with
                  | nil => rfl
                  | cons d u =>
                    have : d ≠ 10 := fun e => hnl ⟨u, by rw [hd, e]⟩
                    show ((10 : UInt8) == d && List.isPrefixOf [] u) = false
                    rw [beq_eq_false_iff_ne.2 (fun e => this e.symm)]
                    rfl
                have HP : Aside0 (Except.error (q, 41) = res) := ⟨by
                  rw [← hP]
                  split
                  · rename_i t' ht'
                    exact absurd ⟨t', ht'⟩ hnl
                  · rfl⟩
                have HPR := Aside0.mk hpre
                clear hP hpre htx hnl
                go_wp2_with (first | (go_at_call 60; refine (csv_cell b s i _ _ _ HS.out.R (by omega) hs HCE).mono ?_; rintro e w5 ⟨rfl, hR5, hG5⟩; have HS5 := Aside0.mk (HS.out.cell HLT.out hR5 hG5); clear hR5 hG5) | ((with_reducible refine gate_builtin (b := .append) (xs := #[.tmp 16, .tmp 18]) rfl ?_); at_builtin; refine Kd.R_append Kd.string (w0 := w5.alloc (.cells #[.int .i64 0, .int .i64 0] 72)) (w.heap.size + 1) rfl (.tmp 16) (.tmp 18) 22 9 (.string ⟨#[]⟩) 16 rfl Tryd.underlying22 info9 rfl (by decide) (by omega) u3 (rowB row) (toB x) [.string (toB x)] (fun _ => True) (fun _ => False) rfl ?aX ?aP (fun _ hk => hk.elim) ?aF ?aO ?aB ?aS ?aL ?_; (case aX => rw [World.size_alloc]; rfl); (case aP => exact rfl); (case aF => exact (fun _ _ => trivial)); (case aO => exact (Kd.R_alloc HS5.out.W _)); (case aB => exact Below.refl _ _); (case aS => rw [World.size_alloc]; have := HS5.out.N; omega); (case aL => rw [rowB_len]; omega); intro v4 w6 ho hb hg hat; rw [← rowB_snoc] at ho; have HS6 := Aside0.mk ((HS5.out.alloc (.cells #[.int .i64 0, .int .i64 0] 72)).app HLT.out ho hb); obtain ⟨A4, c4, e4⟩ := Kd.R_slice ho; subst e4; clear ho hb hg hat HS5 HS) | (go_at_call 33; refine (csv_end b s q _ _ HS6.out.R).mono ?_; rintro e w7 ⟨rfl, ⟨n7, rfl⟩⟩; rw [hdq]; have HS7 := Aside0.mk (HS6.out.drewN n7); clear HS6; generalize w6.drewN n7 = w7 at *; have hy0 := HS7.out.R.c0; have hy1 := HS7.out.R.c1; have hy2 := HS7.out.R.c2; have hyf := HS7.out.R.fz; have hz0 : w7.cell? ⟨w.heap.size, 0, none⟩ = some (.int .i64 0) := (by simp [World.cell?, HS7.out.C]); have hz1 : w7.cell? ⟨w.heap.size, 1, none⟩ = some (.int .i64 0) := (by simp [World.cell?, HS7.out.C]); have hzf := fun i => blk_frozen HS7.out.C i; have hzs := HS7.out.N))
                go_quiet (fail)
                go_wp2
                have HS8 := Aside0.mk (HS7.out.drewN nq)
                clear HS7 hy0 hy1 hy2 hyf hz0 hz1 hzf hzs
                generalize w7.drewN nq = w8 at *
                have hy0 := HS8.out.R.c0
                have hy1 := HS8.out.R.c1
                have hy2 := HS8.out.R.c2
                have hyf := HS8.out.R.fz
                have hz0 : w8.cell? ⟨w.heap.size, 0, none⟩ = some (.int .i64 0) := by simp [World.cell?, HS8.out.C]
                have hz1 : w8.cell? ⟨w.heap.size, 1, none⟩ = some (.int .i64 0) := by simp [World.cell?, HS8.out.C]
                have hzf := fun i => blk_frozen HS8.out.C i
                have hzs := HS8.out.N
                go_quiet ((go_at_call 45; refine Calls.quiet_of_same (v := .bool false) ((Tryd.strings_HasPrefix _ _ _).mono ?_); rintro e w2 ⟨rfl, rfl⟩; exact ⟨by rw [HPR.out], rfl⟩))
                go_wp2
                refine bodyPost_ret (fault_one rfl _ rfl (blk_put (blk_put HS8.out.C 0 _ rfl) 1 _ rfl)) rfl ?_
                have hr := HP.out
                subst hr
                exact ⟨rfl, below_of_gr (gr_new (gr_new (gr_drewN HS8.out.G _) (Nat.le_refl _)) (Nat.le_refl _)) HLT.out⟩
            · rw [if_neg c13] at hP
              have HP := Aside0.mk hP
              have d44 : ((s[q].toNat : Int) != 44) = true := u8bn 44 c44
              have d10 : ((s[q].toNat : Int) != 10) = true := u8bn 10 c10
              have d13 : ((s[q].toNat : Int) == 13) = false := u8ne 13 c13
              clear hP hcell c44 c10 c13
              go_wp2_with (first | (go_at_call 60; refine (csv_cell b s i _ _ _ HS.out.R (by omega) hs HCE).mono ?_; rintro e w5 ⟨rfl, hR5, hG5⟩; have HS5 := Aside0.mk (HS.out.cell HLT.out hR5 hG5); clear hR5 hG5) | ((with_reducible refine gate_builtin (b := .append) (xs := #[.tmp 16, .tmp 18]) rfl ?_); at_builtin; refine Kd.R_append Kd.string (w0 := w5.alloc (.cells #[.int .i64 0, .int .i64 0] 72)) (w.heap.size + 1) rfl (.tmp 16) (.tmp 18) 22 9 (.string ⟨#[]⟩) 16 rfl Tryd.underlying22 info9 rfl (by decide) (by omega) u3 (rowB row) (toB x) [.string (toB x)] (fun _ => True) (fun _ => False) rfl ?aX ?aP (fun _ hk => hk.elim) ?aF ?aO ?aB ?aS ?aL ?_; (case aX => rw [World.size_alloc]; rfl); (case aP => exact rfl); (case aF => exact (fun _ _ => trivial)); (case aO => exact (Kd.R_alloc HS5.out.W _)); (case aB => exact Below.refl _ _); (case aS => rw [World.size_alloc]; have := HS5.out.N; omega); (case aL => rw [rowB_len]; omega); intro v4 w6 ho hb hg hat; rw [← rowB_snoc] at ho; have HS6 := Aside0.mk ((HS5.out.alloc (.cells #[.int .i64 0, .int .i64 0] 72)).app HLT.out ho hb); obtain ⟨A4, c4, e4⟩ := Kd.R_slice ho; subst e4; clear ho hb hg hat HS5 HS) | (go_at_call 33; refine (csv_end b s q _ _ HS6.out.R).mono ?_; rintro e w7 ⟨rfl, ⟨n7, rfl⟩⟩; rw [hdq]; have HS7 := Aside0.mk (HS6.out.drewN n7); clear HS6; generalize w6.drewN n7 = w7 at *; have hy0 := HS7.out.R.c0; have hy1 := HS7.out.R.c1; have hy2 := HS7.out.R.c2; have hyf := HS7.out.R.fz; have hz0 : w7.cell? ⟨w.heap.size, 0, none⟩ = some (.int .i64 0) := (by simp [World.cell?, HS7.out.C]); have hz1 : w7.cell? ⟨w.heap.size, 1, none⟩ = some (.int .i64 0) := (by simp [World.cell?, HS7.out.C]); have hzf := fun i => blk_frozen HS7.out.C i; have hzs := HS7.out.N))
              go_quiet (fail)
              go_wp2
              refine bodyPost_ret (fault_one rfl _ rfl (blk_put (blk_put HS7.out.C 0 _ rfl) 1 _ rfl)) rfl ?_
              have hr := HP.out
              subst hr
              exact ⟨rfl, below_of_gr (gr_new (gr_new (gr_drewN HS7.out.G _) (Nat.le_refl _)) (Nat.le_refl _)) HLT.out⟩
      · have hdq : decide (s.size ≤ q) = true := decide_eq_true (by omega)
        rw [List.drop_eq_nil_of_le (by rw [← Lib.size_eq]; omega)] at hP
        have HP : Aside0 (Except.ok (row ++ [x], [], q) = res) := ⟨hP⟩
        clear hP hcell
        go_wp2_with (first | (go_at_call 60; refine (csv_cell b s i _ _ _ HS.out.R (by omega) hs HCE).mono ?_; rintro e w5 ⟨rfl, hR5, hG5⟩; have HS5 := Aside0.mk (HS.out.cell HLT.out hR5 hG5); clear hR5 hG5) | ((with_reducible refine gate_builtin (b := .append) (xs := #[.tmp 16, .tmp 18]) rfl ?_); at_builtin; refine Kd.R_append Kd.string (w0 := w5.alloc (.cells #[.int .i64 0, .int .i64 0] 72)) (w.heap.size + 1) rfl (.tmp 16) (.tmp 18) 22 9 (.string ⟨#[]⟩) 16 rfl Tryd.underlying22 info9 rfl (by decide) (by omega) u3 (rowB row) (toB x) [.string (toB x)] (fun _ => True) (fun _ => False) rfl ?aX ?aP (fun _ hk => hk.elim) ?aF ?aO ?aB ?aS ?aL ?_; (case aX => rw [World.size_alloc]; rfl); (case aP => exact rfl); (case aF => exact (fun _ _ => trivial)); (case aO => exact (Kd.R_alloc HS5.out.W _)); (case aB => exact Below.refl _ _); (case aS => rw [World.size_alloc]; have := HS5.out.N; omega); (case aL => rw [rowB_len]; omega); intro v4 w6 ho hb hg hat; rw [← rowB_snoc] at ho; have HS6 := Aside0.mk ((HS5.out.alloc (.cells #[.int .i64 0, .int .i64 0] 72)).app HLT.out ho hb); obtain ⟨A4, c4, e4⟩ := Kd.R_slice ho; subst e4; clear ho hb hg hat HS5 HS) | (go_at_call 33; refine (csv_end b s q _ _ HS6.out.R).mono ?_; rintro e w7 ⟨rfl, ⟨n7, rfl⟩⟩; rw [hdq]; have HS7 := Aside0.mk (HS6.out.drewN n7); clear HS6; generalize w6.drewN n7 = w7 at *; have hy0 := HS7.out.R.c0; have hy1 := HS7.out.R.c1; have hy2 := HS7.out.R.c2; have hyf := HS7.out.R.fz; have hz0 : w7.cell? ⟨w.heap.size, 0, none⟩ = some (.int .i64 0) := (by simp [World.cell?, HS7.out.C]); have hz1 : w7.cell? ⟨w.heap.size, 1, none⟩ = some (.int .i64 0) := (by simp [World.cell?, HS7.out.C]); have hzf := fun i => blk_frozen HS7.out.C i; have hzs := HS7.out.N) | ((with_reducible refine gate_builtin (b := .append) (xs := #[.tmp 80, .tmp 82]) rfl ?_); at_builtin; refine Kd.S_append (Kd.slice 9 Kd.string) (w0 := w7) b rfl (.tmp 80) (.tmp 82) 24 22 (.slice none 0 0) 24 rfl Tryd.underlying24 info22 rfl (by decide) (by omega) (.slice Av rows.length cv) rows (rowB (row ++ [x])) [.slice A4 (rowB (row ++ [x])).length c4] (fun k => k ≠ b) (fun k => w.heap.size + 1 ≤ k) rfl ?aX ?aP ?aK ?aF ?aO ?aB ?aS ?aL ?_; (case aX => exact rfl); (case aP => exact ⟨_, rfl, R_okp HS7.out.W (by have := HLT.out; omega)⟩); (case aK => exact fun k hk => ⟨by have := HLT.out; omega, fun e => by have := Kd.S_lt HV.out k e.symm; omega⟩); (case aF => exact fun k hk => by have := HLT.out; have := HS7.out.N; omega); (case aO => exact Kd.S_mono (Kd.S_grown (Kd.S_bound HV.out) HS7.out.G (fun k hk e => hk.1 (by injection e))) (fun k hk => ⟨hk.1, by have := hk.2.2.1; omega⟩)); (case aB => exact Below.refl _ _); (case aS => have := HLT.out; have := HS7.out.N; omega); (case aL => have := hl.out; omega); intro v8 w8 ho hb hg hat; have hvb : ∀ k, (Value.slice Av rows.length cv).ownBlock = some k → k < w.heap.size ∧ k ≠ b := fun k e => ⟨Kd.S_lt HV.out k e, (Kd.S_R HV.out).1 k e⟩; have HR8 : Aside0 (Rd b s q (.slice Av rows.length cv) w8) := ⟨(hg.block b HS7.out.R.lt (fun e => (hvb b e.symm).2 rfl)).trans HS7.out.R⟩; have HC8 : Aside0 (w8.heap[w.heap.size]? = some (.cells #[.int .i64 0, .int .i64 0] 72 (0, 0))) := ⟨(hg.block _ HS7.out.N (fun e => by have := (hvb _ e.symm).1; omega)).trans HS7.out.C⟩; have HO8 := Aside0.mk ho; have HB8 : Aside0 (Below b w w8) := ⟨(below_of_gr HS7.out.G HLT.out).trans hb⟩; have hk2 := HR8.out.c2; have hkf := HR8.out.fz; have hkz0 : w8.cell? ⟨w.heap.size, 0, none⟩ = some (.int .i64 0) := (by simp [World.cell?, HC8.out]); have hkz1 : w8.cell? ⟨w.heap.size, 1, none⟩ = some (.int .i64 0) := (by simp [World.cell?, HC8.out]); have hkzf := fun i => blk_frozen HC8.out i; obtain ⟨A8, c8, e8⟩ := Kd.S_slice HO8.out; subst e8; clear ho hb hg hat hvb))
        refine bodyPost_ret (fault_one rfl _ rfl (blk_put (blk_put (blk_far HC8.out (fun e => HNE.out e.symm) _) 0 _ rfl) 1 _ rfl)) rfl ?_
        have hr := HP.out
        subst hr
        have HR9 := HR8.out.put2 (.slice A8 (rows.length + 1) c8)
        have HO9 := HO8.out
        rw [List.length_append, List.length_singleton] at HO9
        exact ⟨rfl, Below.setCell (Below.setCell (Below.setCell HB8.out (Nat.le_refl _) _) (Nat.le_of_lt HLT.out) _) (Nat.le_of_lt HLT.out) _, _, blk_far (blk_far HR9 HNE.out _) HNE.out _, Kd.S_set (Kd.S_set (Kd.S_far HO9 (fun k hk => hk) _) (blk_far HC8.out (fun e => HNE.out e.symm) _) (by decide) 0 _) (blk_put (blk_far HC8.out (fun e => HNE.out e.symm) _) 0 _ rfl) (by decide) 1 _⟩
end Go.Proofs.YthmcapdakplhdaaDoor.Pr

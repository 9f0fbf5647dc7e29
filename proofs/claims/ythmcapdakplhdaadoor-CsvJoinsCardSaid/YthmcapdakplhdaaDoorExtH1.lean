import Derived.Test.YthmcapdakplhdaaDoorExtR3
import Derived.Deep.RegionLaw
namespace Go.Proofs.YthmcapdakplhdaaDoor.Pr
open Go.RowKit Go.Proofs.YthmcapdakplhdaaDoorW.PrintWords Go.Proofs.YthmcapdakplhdaaDoorW.PrintLast Go.Proofs.YthmcapdakplhdaaDoorW.PrintMore
set_option maxRecDepth 100000
set_option linter.unusedVariables false
set_option linter.unusedSimpArgs false
attribute [local go_sem high] Go.Proofs.YthmcapdakplhdaaDoor.isSome_setCell

/-- The sheet's four cells. -/
def Sh (g : Nat) (v0 v1 v2 : Value) (st : Int) (w : World) : Prop := w.heap[g]? = some (.cells #[v0, v1, v2, .int .i64 st] 76 (0, 0))
section
variable {g : Nat} {v0 v1 v2 : Value} {st : Int} {w w' : World}
theorem Sh.c0 (h : Sh g v0 v1 v2 st w) : w.cell? ⟨g, 0, none⟩ = some v0 := by unfold Sh at h; simp [World.cell?, h]
theorem Sh.c1 (h : Sh g v0 v1 v2 st w) : w.cell? ⟨g, 1, none⟩ = some v1 := by unfold Sh at h; simp [World.cell?, h]
theorem Sh.c2 (h : Sh g v0 v1 v2 st w) : w.cell? ⟨g, 2, none⟩ = some v2 := by unfold Sh at h; simp [World.cell?, h]
theorem Sh.c3 (h : Sh g v0 v1 v2 st w) : w.cell? ⟨g, 3, none⟩ = some (.int .i64 st) := by unfold Sh at h; simp [World.cell?, h]
theorem Sh.fz (h : Sh g v0 v1 v2 st w) (i : Nat) : w.frozen? ⟨g, i, none⟩ = false := blk_frozen h i
theorem Sh.lt (h : Sh g v0 v1 v2 st w) : g < w.heap.size := blk_lt h
end
def bs (l : List UInt8) : List Int := l.map fun b => (b.toNat : Int)
theorem bs_str (l : List UInt8) : strOfNums (bs l) = ⟨l.toArray⟩ := by
  unfold strOfNums bs
  rw [List.map_map]
  congr 2
  refine (List.map_congr_left (fun x _ => ?_)).trans (List.map_id l)
  simp
/-- The sheet with what it owns: its rows, the row so far, the cell so far. -/
structure ShSt (g : Nat) (rows : List (List ByteArray)) (row : List ByteArray) (cell : List UInt8) (st : Int) (v0 v1 v2 : Value) (w : World) : Prop where
  H : Sh g v0 v1 v2 st w
  A : Kd.S (Kd.slice 9 Kd.string) 22 w g (fun k => k ≠ g ∧ some k ≠ v1.ownBlock) v0 rows
  B : Kd.R Kd.string 9 w g (fun k => k ≠ g) v1 row
  C : Kd.R (Kd.int .u8) 5 w g (fun k => k ≠ g) v2 (bs cell)
set_option maxHeartbeats 8000000 in
theorem ref_endCell (g : Nat) (rows : List (List ByteArray)) (row : List ByteArray) (cell : List UInt8) (st : Int) (v0 v1 v2 : Value) (w : World) (h : ShSt g rows row cell st v0 v1 v2 w) (hl : row.length ≤ 131072) :
    Calls Tryd.prog 35 #[.pointer (some ⟨g, 0, none⟩)] w fun e w' => e = .returned (.tuple #[]) ∧ Below g w w' ∧ ∃ v1', ShSt g rows (row ++ [⟨cell.toArray⟩]) [] 0 v0 v1' (.slice none 0 0) w' := by
  have HS := Aside0.mk h
  obtain ⟨A0, c0, e0⟩ := Kd.S_slice h.A
  subst e0
  obtain ⟨A1, c1, e1⟩ := Kd.R_slice h.B
  subst e1
  obtain ⟨A2, c2, e2⟩ := Kd.R_slice h.C
  subst e2
  have hx1 := h.H.c1
  have hx2 := h.H.c2
  have hfz := h.H.fz
  have HLT := Aside0.mk h.H.lt
  have hlt := HLT.out
  have hcv : (convert 39 9 (.slice A2 (bs cell).length c2)).run Tryd.prog w.drew = .ok (.string ⟨cell.toArray⟩) w.drew := by
    rw [own_string Tryd.underlying39 Tryd.underlying5 Tryd.underlying9 (Kd.own_of_R (Kd.R_drew h.C)), bs_str]
  clear h
  go_enter Tryd.func35, Tryd.ntmps35
  go_wp2
  go_region_law ((refine Kd.R_append_step Kd.string (w0 := w) g (by rfl) (.tmp 6) (.tmp 12) 22 9 (.string ⟨#[]⟩) 16 rfl Tryd.underlying22 info9 rfl (by decide) (by omega) (.slice A1 row.length c1) row ⟨cell.toArray⟩ [.string ⟨cell.toArray⟩] (fun k => k ≠ g) (fun _ => False) rfl rfl rfl (fun _ hk => hk.elim) (fun k hk => fun e => by subst e; exact Nat.lt_irrefl _ (Nat.lt_of_lt_of_le HLT.out hk)) (Kd.R_drew HS.out.B) (below_drew1 (Below.refl _ _)) (Nat.le_of_lt HLT.out) (by omega) ?_); intro v1 w1 ho hb hg hat; obtain ⟨A4, c4, e4⟩ := Kd.R_slice ho; subst e4; have HH1 : Aside0 (Sh g (.slice A0 rows.length c0) (.slice A1 row.length c1) (.slice A2 (bs cell).length c2) st w1) := ⟨(hg.block g HLT.out (fun e => (HS.out.B.1 g e.symm) rfl)).trans HS.out.H⟩; have hy1 := HH1.out.c1; have hy2 := HH1.out.c2; have hy3 := HH1.out.c3; have hyf := HH1.out.fz; have HO := Aside0.mk ho; have HB := Aside0.mk hb; have HG := Aside0.mk hg; have HA := Aside0.mk hat; clear ho hb hg hat)
  all_goals
    go_wp2
    go_end0
    have HO2 := HO.out
    have HA2 := HA.out
    have e5 : (row ++ [(⟨cell.toArray⟩ : ByteArray)]).length = row.length + 1 := by simp
    rw [e5] at HO2 HA2
    refine ⟨rfl, Below.setCell (Below.setCell (Below.setCell HB.out (Nat.le_refl _) _) (Nat.le_refl _) _) (Nat.le_refl _) _, .slice A4 (row.length + 1) c4, ?_⟩
    have k1 : Sh g (.slice A0 rows.length c0) (.slice A4 (row.length + 1) c4) (.slice A2 (bs cell).length c2) st (w1.setCell ⟨g, 1, none⟩ (.slice A4 (row.length + 1) c4)) := blk_put HH1.out 1 _ rfl
    have k2 : Sh g (.slice A0 rows.length c0) (.slice A4 (row.length + 1) c4) (.slice none 0 0) st ((w1.setCell ⟨g, 1, none⟩ (.slice A4 (row.length + 1) c4)).setCell ⟨g, 2, none⟩ (.slice none 0 0)) := blk_put k1 2 _ rfl
    refine ⟨blk_put k2 3 _ rfl, Kd.S_set (Kd.S_set (Kd.S_set (Kd.S_after (Kd.S_drew HS.out.A) HG.out HA2) HH1.out (by decide) 1 _) k1 (by decide) 2 _) k2 (by decide) 3 _, Kd.R_far (Kd.R_far (Kd.R_far HO2 (fun k hk => hk) _) (fun k hk => hk) _) (fun k hk => hk) _, Kd.R_nil _ _ _ _ _⟩
theorem str_own {w : World} {base : Nat} {ok : Nat → Prop} {v : Value} {xs : List ByteArray} (h : Kd.R Kd.string 9 w base ok v xs) : Kd.R Kd.string 9 w base (fun k => some k = v.ownBlock) v xs := ⟨fun _ hk => hk.symm, h.2⟩
set_option maxHeartbeats 8000000 in
theorem ref_endRow (g : Nat) (rows : List (List ByteArray)) (row : List ByteArray) (cell : List UInt8) (st : Int) (v0 v1 v2 : Value) (w : World) (h : ShSt g rows row cell st v0 v1 v2 w) (hl : row.length ≤ 131072) (hl0 : rows.length ≤ 131072) :
    Calls Tryd.prog 36 #[.pointer (some ⟨g, 0, none⟩)] w fun e w' => e = .returned (.tuple #[]) ∧ Below g w w' ∧ ∃ v0', ShSt g (rows ++ [row ++ [⟨cell.toArray⟩]]) [] [] 0 v0' (.slice none 0 0) (.slice none 0 0) w' := by
  have HS0 := Aside0.mk h
  obtain ⟨row', hrow⟩ : ∃ row', row ++ [(⟨cell.toArray⟩ : ByteArray)] = row' := ⟨_, rfl⟩
  rw [hrow]
  have HROW := Aside0.mk hrow
  clear h hrow
  go_enter Tryd.func36, Tryd.ntmps36
  go_wp2_with (go_at_call 35; refine (ref_endCell g rows row cell st v0 v1 v2 w HS0.out hl).mono ?_; rintro e w1 ⟨rfl, hB1, v1', h1⟩; have HS := Aside0.mk h1; have HB1 := Aside0.mk hB1; clear h1 hB1 HS0)
  rw [HROW.out] at HS
  obtain ⟨A0, c0, e0⟩ := Kd.S_slice HS.out.A
  subst e0
  obtain ⟨A1, c1, e1⟩ := Kd.R_slice HS.out.B
  subst e1
  have hx0 := HS.out.H.c0
  have hx1 := HS.out.H.c1
  have hfz := HS.out.H.fz
  have HLT := Aside0.mk HS.out.H.lt
  have hlt := HLT.out
  go_region_law ((refine Kd.S_append_step (Kd.slice 9 Kd.string) (w0 := w1) g (by rfl) (.tmp 8) (.tmp 13) 24 22 (.slice none 0 0) 24 rfl Tryd.underlying24 info22 rfl (by decide) (by omega) (.slice A0 rows.length c0) rows row' [.slice A1 row'.length c1] (fun k => k ≠ g) (fun k => some k = (Value.slice A1 row'.length c1).ownBlock) rfl rfl ⟨_, rfl, str_own (Kd.R_drew HS.out.B)⟩ (fun k hk => ⟨HS.out.B.1 k hk.symm, fun e => ((Kd.S_R HS.out.A).1 k e.symm).2 hk⟩) (fun k hk => fun e => by subst e; exact Nat.lt_irrefl _ (Nat.lt_of_lt_of_le HLT.out hk)) (Kd.S_drew HS.out.A) (below_drew1 (Below.refl _ _)) (Nat.le_of_lt HLT.out) (by omega) ?_); intro v4 w2 ho hb hg hat; obtain ⟨A4, c4, e4⟩ := Kd.S_slice ho; subst e4; have HH1 : Aside0 (Sh g (.slice A0 rows.length c0) (.slice A1 row'.length c1) (.slice none 0 0) 0 w2) := ⟨(hg.block g HLT.out (fun e => ((Kd.S_R HS.out.A).1 g e.symm).1 rfl)).trans HS.out.H⟩; have hy0 := HH1.out.c0; have hy1 := HH1.out.c1; have hy2 := HH1.out.c2; have hy3 := HH1.out.c3; have hyf := HH1.out.fz; have HO := Aside0.mk ho; have HB := Aside0.mk hb; clear ho hb hg hat)
  all_goals
    go_wp2
    go_end0
    have HO2 := HO.out
    have e5 : (rows ++ [row']).length = rows.length + 1 := by simp
    rw [e5] at HO2
    refine ⟨rfl, HB1.out.trans (Below.setCell (Below.setCell HB.out (Nat.le_refl _) _) (Nat.le_refl _) _), .slice A4 (rows.length + 1) c4, ?_⟩
    have k1 : Sh g (.slice A4 (rows.length + 1) c4) (.slice A1 row'.length c1) (.slice none 0 0) 0 (w2.setCell ⟨g, 0, none⟩ (.slice A4 (rows.length + 1) c4)) := blk_put HH1.out 0 _ rfl
    refine ⟨blk_put k1 1 _ rfl, Kd.S_apart_nil (Kd.S_set (Kd.S_set HO2 HH1.out (by decide) 0 _) k1 (by decide) 1 _), Kd.R_nil _ _ _ _ _, Kd.R_nil _ _ _ _ _⟩
end Go.Proofs.YthmcapdakplhdaaDoor.Pr

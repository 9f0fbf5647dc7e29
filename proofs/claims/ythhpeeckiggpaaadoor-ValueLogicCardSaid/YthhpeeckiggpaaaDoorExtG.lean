import Derived.Test.YthhpeeckiggpaaaDoorProg
import Derived.Test.YthhpeeckiggpaaaDoorExtA
import Derived.Test.YthhpeeckiggpaaaDoorWMore
import Derived.Lib.LaidTab
namespace Go.Proofs.YthhpeeckiggpaaaDoor
open Go Go.RowKit Go.Proofs.YthhpeeckiggpaaaDoorW.PrintWords Go.Proofs.YthhpeeckiggpaaaDoorW.PrintLast Go.Proofs.YthhpeeckiggpaaaDoorW.PrintMore
set_option linter.unusedVariables false
set_option linter.unusedSimpArgs false
theorem var_below {w w' : World} {P : Program} {n : String} {cs : Array Value} (h : w.var? P n = some cs) (hb : Below w.heap.size w w') : w'.var? P n = some cs := by
  unfold World.var? at h ⊢
  cases hg : P.globalNamed n with
  | none => rw [hg] at h; cases h
  | some g =>
    rw [hg] at h
    simp only [Option.bind_some] at h ⊢
    cases hh : w.heap[g]? with
    | none => simp [hh] at h
    | some o => rw [hb.block g (Array.getElem?_eq_some_iff.1 hh).1]; exact h
def G0c0 : List Int := [0, 1, 2, 1, 1, 1, 3, 3, 4, 4, 4, 4, 2, 2]
def G0cells : Array Value := #[.int .i64 0, .int .i64 1, .int .i64 2, .int .i64 1, .int .i64 1, .int .i64 1, .int .i64 3, .int .i64 3, .int .i64 4, .int .i64 4, .int .i64 4, .int .i64 4, .int .i64 2, .int .i64 2]
/-- The table refrain/value.wants, as the program's text lays it. -/
def LG0 (w : World) : Prop := w.var? Tryd.prog "refrain/value.wants" = some G0cells
theorem LG0.below {w w' : World} (h : LG0 w) (hb : Below w.heap.size w w') : LG0 w' := var_below h hb
theorem LG0.drewN {w : World} (h : LG0 w) (n : Nat) : LG0 (w.drewN n) := h
theorem LG0_tab0 : ∀ q : Nat, q < 14 → G0cells[q]? = some (.int .i64 (G0c0.getD q 0))
  | 0, _ => rfl
  | 1, _ => rfl
  | 2, _ => rfl
  | 3, _ => rfl
  | 4, _ => rfl
  | 5, _ => rfl
  | 6, _ => rfl
  | 7, _ => rfl
  | 8, _ => rfl
  | 9, _ => rfl
  | 10, _ => rfl
  | 11, _ => rfl
  | 12, _ => rfl
  | 13, _ => rfl
  | q + 14, h => absurd h (by omega)
theorem LG0.at0 {w : World} (h : LG0 w) (i : Int) (h0 : 0 ≤ i) (h1 : i < 14) : w.cell? ⟨0, i.toNat, none⟩ = some (.int .i64 (rd G0c0 i)) := by
  have hg : Tryd.prog.globalNamed "refrain/value.wants" = some 0 := by kernel_rfl
  have := World.var?_cell hg h (i.toNat)
  rw [LG0_tab0 i.toNat (by omega)] at this
  exact this
def G1c0 : List Int := [1, 10, 100, 1000, 10000, 100000, 1000000, 10000000, 100000000, 1000000000, 10000000000, 100000000000, 1000000000000, 10000000000000, 100000000000000, 1000000000000000, 10000000000000000, 100000000000000000, 1000000000000000000, 10000000000000000000]
def G1cells : Array Value := #[.int .u64 1, .int .u64 10, .int .u64 100, .int .u64 1000, .int .u64 10000, .int .u64 100000, .int .u64 1000000, .int .u64 10000000, .int .u64 100000000, .int .u64 1000000000, .int .u64 10000000000, .int .u64 100000000000, .int .u64 1000000000000, .int .u64 10000000000000, .int .u64 100000000000000, .int .u64 1000000000000000, .int .u64 10000000000000000, .int .u64 100000000000000000, .int .u64 1000000000000000000, .int .u64 10000000000000000000]
/-- The table internal/strconv.uint64pow10, as the program's text lays it. -/
def LG1 (w : World) : Prop := w.var? Tryd.prog "internal/strconv.uint64pow10" = some G1cells
theorem LG1.below {w w' : World} (h : LG1 w) (hb : Below w.heap.size w w') : LG1 w' := var_below h hb
theorem LG1.drewN {w : World} (h : LG1 w) (n : Nat) : LG1 (w.drewN n) := h
theorem LG1_tab0 : ∀ q : Nat, q < 20 → G1cells[q]? = some (.int .u64 (G1c0.getD q 0))
  | 0, _ => rfl
  | 1, _ => rfl
  | 2, _ => rfl
  | 3, _ => rfl
  | 4, _ => rfl
  | 5, _ => rfl
  | 6, _ => rfl
  | 7, _ => rfl
  | 8, _ => rfl
  | 9, _ => rfl
  | 10, _ => rfl
  | 11, _ => rfl
  | 12, _ => rfl
  | 13, _ => rfl
  | 14, _ => rfl
  | 15, _ => rfl
  | 16, _ => rfl
  | 17, _ => rfl
  | 18, _ => rfl
  | 19, _ => rfl
  | q + 20, h => absurd h (by omega)
theorem LG1.at0 {w : World} (h : LG1 w) (i : Int) (h0 : 0 ≤ i) (h1 : i < 20) : w.cell? ⟨1, i.toNat, none⟩ = some (.int .u64 (rd G1c0 i)) := by
  have hg : Tryd.prog.globalNamed "internal/strconv.uint64pow10" = some 1 := by kernel_rfl
  have := World.var?_cell hg h (i.toNat)
  rw [LG1_tab0 i.toNat (by omega)] at this
  exact this
end Go.Proofs.YthhpeeckiggpaaaDoor

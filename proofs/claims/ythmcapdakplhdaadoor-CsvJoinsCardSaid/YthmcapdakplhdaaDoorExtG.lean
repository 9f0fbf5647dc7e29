import Derived.Test.YthmcapdakplhdaaDoorProg
import Derived.Test.YthmcapdakplhdaaDoorExtA
import Derived.Test.YthmcapdakplhdaaDoorWMore
import Derived.Lib.LaidTab
namespace Go.Proofs.YthmcapdakplhdaaDoor
open Go Go.RowKit Go.Proofs.YthmcapdakplhdaaDoorW.PrintWords Go.Proofs.YthmcapdakplhdaaDoorW.PrintLast Go.Proofs.YthmcapdakplhdaaDoorW.PrintMore
set_option linter.unusedVariables false
set_option linter.unusedSimpArgs false
theorem var_below {w w' : World} {P : Program} {n : String} {cs : Array Value} (h : w.var? P n = some cs) (hb : Below w.heap.size w w') : w'.var? P n = some cs := by
  unfold World.var? at h ⊢
  cases hg : P.globalNamed n with
  | none => rw [hg] at h; cases h
  | some g =>
    rw [hg] at h
    simp only [Option.bind_some] at h ⊢
    cases hh : w.heap[g]? with
    | none => simp [hh] at h
    | some o => rw [hb.block g (Array.getElem?_eq_some_iff.1 hh).1]; exact h
def G0c0 : List ByteArray := [(⟨#[80, 65, 84, 84, 69, 82, 78]⟩ : ByteArray), (⟨#[83, 69, 81]⟩ : ByteArray), (⟨#[80, 65, 82, 84, 73, 84, 73, 79, 78]⟩ : ByteArray), (⟨#[66, 89]⟩ : ByteArray), (⟨#[87, 72, 69, 82, 69]⟩ : ByteArray), (⟨#[87, 73, 84, 72, 73, 78]⟩ : ByteArray), (⟨#[82, 69, 84, 85, 82, 78]⟩ : ByteArray), (⟨#[65, 78, 68]⟩ : ByteArray), (⟨#[79, 82]⟩ : ByteArray), (⟨#[78, 79, 84]⟩ : ByteArray), (⟨#[84, 82, 85, 69]⟩ : ByteArray), (⟨#[70, 65, 76, 83, 69]⟩ : ByteArray), (⟨#[84, 89, 80, 69]⟩ : ByteArray), (⟨#[73, 78, 84]⟩ : ByteArray), (⟨#[83, 84, 82]⟩ : ByteArray), (⟨#[66, 79, 79, 76]⟩ : ByteArray)]
def G0cells : Array Value := #[.string ⟨#[80, 65, 84, 84, 69, 82, 78]⟩, .string ⟨#[83, 69, 81]⟩, .string ⟨#[80, 65, 82, 84, 73, 84, 73, 79, 78]⟩, .string ⟨#[66, 89]⟩, .string ⟨#[87, 72, 69, 82, 69]⟩, .string ⟨#[87, 73, 84, 72, 73, 78]⟩, .string ⟨#[82, 69, 84, 85, 82, 78]⟩, .string ⟨#[65, 78, 68]⟩, .string ⟨#[79, 82]⟩, .string ⟨#[78, 79, 84]⟩, .string ⟨#[84, 82, 85, 69]⟩, .string ⟨#[70, 65, 76, 83, 69]⟩, .string ⟨#[84, 89, 80, 69]⟩, .string ⟨#[73, 78, 84]⟩, .string ⟨#[83, 84, 82]⟩, .string ⟨#[66, 79, 79, 76]⟩]
/-- The table refrain/token.words, as the program's text lays it. -/
def LG0 (w : World) : Prop := w.var? Tryd.prog "refrain/token.words" = some G0cells
theorem LG0.below {w w' : World} (h : LG0 w) (hb : Below w.heap.size w w') : LG0 w' := var_below h hb
theorem LG0.drewN {w : World} (h : LG0 w) (n : Nat) : LG0 (w.drewN n) := h
theorem LG0_tab0 : ∀ q : Nat, q < 16 → G0cells[q]? = some (.string (G0c0.getD q ByteArray.empty))
  | 0, _ => rfl
  | 1, _ => rfl
  | 2, _ => rfl
  | 3, _ => rfl
  | 4, _ => rfl
  | 5, _ => rfl
  | 6, _ => rfl
  | 7, _ => rfl
  | 8, _ => rfl
  | 9, _ => rfl
  | 10, _ => rfl
  | 11, _ => rfl
  | 12, _ => rfl
  | 13, _ => rfl
  | 14, _ => rfl
  | 15, _ => rfl
  | q + 16, h => absurd h (by omega)
theorem LG0.at0 {w : World} (h : LG0 w) (i : Int) (h0 : 0 ≤ i) (h1 : i < 16) : w.cell? ⟨0, i.toNat, none⟩ = some (.string (rdOf ByteArray.empty G0c0 i)) := by
  have hg : Tryd.prog.globalNamed "refrain/token.words" = some 0 := by kernel_rfl
  have := World.var?_cell hg h (i.toNat)
  rw [LG0_tab0 i.toNat (by omega)] at this
  exact this
def G6c0 : List Int := [1, 10, 100, 1000, 10000, 100000, 1000000, 10000000, 100000000, 1000000000, 10000000000, 100000000000, 1000000000000, 10000000000000, 100000000000000, 1000000000000000, 10000000000000000, 100000000000000000, 1000000000000000000, 10000000000000000000]
def G6cells : Array Value := #[.int .u64 1, .int .u64 10, .int .u64 100, .int .u64 1000, .int .u64 10000, .int .u64 100000, .int .u64 1000000, .int .u64 10000000, .int .u64 100000000, .int .u64 1000000000, .int .u64 10000000000, .int .u64 100000000000, .int .u64 1000000000000, .int .u64 10000000000000, .int .u64 100000000000000, .int .u64 1000000000000000, .int .u64 10000000000000000, .int .u64 100000000000000000, .int .u64 1000000000000000000, .int .u64 10000000000000000000]
/-- The table internal/strconv.uint64pow10, as the program's text lays it. -/
def LG6 (w : World) : Prop := w.var? Tryd.prog "internal/strconv.uint64pow10" = some G6cells
theorem LG6.below {w w' : World} (h : LG6 w) (hb : Below w.heap.size w w') : LG6 w' := var_below h hb
theorem LG6.drewN {w : World} (h : LG6 w) (n : Nat) : LG6 (w.drewN n) := h
theorem LG6_tab0 : ∀ q : Nat, q < 20 → G6cells[q]? = some (.int .u64 (G6c0.getD q 0))
  | 0, _ => rfl
  | 1, _ => rfl
  | 2, _ => rfl
  | 3, _ => rfl
  | 4, _ => rfl
  | 5, _ => rfl
  | 6, _ => rfl
  | 7, _ => rfl
  | 8, _ => rfl
  | 9, _ => rfl
  | 10, _ => rfl
  | 11, _ => rfl
  | 12, _ => rfl
  | 13, _ => rfl
  | 14, _ => rfl
  | 15, _ => rfl
  | 16, _ => rfl
  | 17, _ => rfl
  | 18, _ => rfl
  | 19, _ => rfl
  | q + 20, h => absurd h (by omega)
theorem LG6.at0 {w : World} (h : LG6 w) (i : Int) (h0 : 0 ≤ i) (h1 : i < 20) : w.cell? ⟨6, i.toNat, none⟩ = some (.int .u64 (rd G6c0 i)) := by
  have hg : Tryd.prog.globalNamed "internal/strconv.uint64pow10" = some 6 := by kernel_rfl
  have := World.var?_cell hg h (i.toNat)
  rw [LG6_tab0 i.toNat (by omega)] at this
  exact this
end Go.Proofs.YthmcapdakplhdaaDoor

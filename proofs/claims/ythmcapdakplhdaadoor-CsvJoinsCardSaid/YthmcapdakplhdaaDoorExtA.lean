import Derived.Test.YthmcapdakplhdaaDoorProg
import Derived.Below
import Derived.Deep.Draws
import Derived.WalkKit
namespace Go.Proofs.YthmcapdakplhdaaDoor
open Go Go.RowKit
set_option linter.unusedVariables false
set_option linter.unusedSimpArgs false
/-- A store changes no cell's being there. -/
theorem isSome_setCell (w : World) (a b : Addr) (v : Value) : ((w.setCell a v).cell? b).isSome = (w.cell? b).isSome := by
  simp only [World.setCell, World.cell?, Array.getElem?_modify]
  by_cases hb : a.block = b.block
  · simp only [hb, if_true]
    cases hh : w.heap[b.block]? with
    | none => simp
    | some o =>
      cases o with
      | cells c e f =>
        simp only [Option.map_some]
        cases hs : b.spot.isSome <;> cases ha : a.spot.isSome <;> simp
        by_cases ho : a.off < c.size
        · by_cases hq : b.off < c.size
          · simp [hq]
          · simp [hq]
        · simp [Array.setIfInBounds, ho]
      | _ => simp
  · simp [hb]
theorem size_lit1 (a : UInt8) : (⟨#[a]⟩ : ByteArray).size = 1 := rfl
theorem size_lit2 (a b : UInt8) : (⟨#[a, b]⟩ : ByteArray).size = 2 := rfl
theorem size_lit3 (a b c : UInt8) : (⟨#[a, b, c]⟩ : ByteArray).size = 3 := rfl
theorem size_lit4 (a b c d : UInt8) : (⟨#[a, b, c, d]⟩ : ByteArray).size = 4 := rfl
/-- The variable strconv.ErrRange holds some error, or none. -/
def LErr (w : World) : Prop := ∃ g ev, Tryd.prog.globalNamed "strconv.ErrRange" = some g ∧ w.cell? ⟨g, 0, none⟩ = some ev ∧ (ev = .nilIface ∨ ∃ te pe, ev = .iface te pe)
theorem cell_lt {w : World} {a : Addr} {v : Value} (h : w.cell? a = some v) : a.block < w.heap.size := by
  unfold World.cell? at h
  cases hb : w.heap[a.block]? with
  | none => rw [hb] at h; cases h
  | some o => exact (Array.getElem?_eq_some_iff.mp hb).1
theorem LErr.below {w w' : World} (h : LErr w) (hb : Below w.heap.size w w') : LErr w' := by
  obtain ⟨g, ev, hg, hc, he⟩ := h
  exact ⟨g, ev, hg, (hb.cell (p := ⟨g, 0, none⟩) (cell_lt hc)).trans hc, he⟩
theorem LErr.drewN {w : World} (h : LErr w) (n : Nat) : LErr (w.drewN n) := h
/-- The variable strconv.ErrSyntax holds some error, or none. -/
def LSyn (w : World) : Prop := ∃ g ev, Tryd.prog.globalNamed "strconv.ErrSyntax" = some g ∧ w.cell? ⟨g, 0, none⟩ = some ev ∧ (ev = .nilIface ∨ ∃ te pe, ev = .iface te pe)
theorem LSyn.below {w w' : World} (h : LSyn w) (hb : Below w.heap.size w w') : LSyn w' := by
  obtain ⟨g, ev, hg, hc, he⟩ := h
  exact ⟨g, ev, hg, (hb.cell (p := ⟨g, 0, none⟩) (cell_lt hc)).trans hc, he⟩
theorem LSyn.drewN {w : World} (h : LSyn w) (n : Nat) : LSyn (w.drewN n) := h
theorem arr_cell (xs : List ByteArray) (i : Nat) (h : i < xs.length) : ((xs.map Value.string).toArray)[i]? = some (.string (xs.getD i ⟨#[]⟩)) := by
  simp [List.getElem?_eq_getElem h]
end Go.Proofs.YthmcapdakplhdaaDoor

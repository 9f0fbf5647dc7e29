import Derived.Test.YthhpeeckiggpaaaDoorExtA
namespace Go.Proofs.YthhpeeckiggpaaaDoor
open Go Go.RowKit
/-- An error of package strconv: none, or a pointer to a new one. -/
def ErrX : Option Int → Value → Prop
  | none, v => v = .nilIface
  | some _, v => ∃ N : Nat, v = .iface 126 (.pointer (some ⟨N, 0, none⟩))
theorem ErrX_none {v : Value} (h : ErrX none v) : v = .nilIface := h
theorem ErrX_some {c : Int} {v : Value} (h : ErrX (some c) v) : ∃ N : Nat, v = .iface 126 (.pointer (some ⟨N, 0, none⟩)) := h
end Go.Proofs.YthhpeeckiggpaaaDoor

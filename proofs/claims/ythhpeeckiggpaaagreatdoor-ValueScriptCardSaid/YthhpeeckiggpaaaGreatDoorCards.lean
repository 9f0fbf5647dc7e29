/-
  DERIVED. GIVEN WITH THE SEED: THE CARDS: each row of YthhpeeckiggpaaaGreatDoorRows.lean that lists a variable, with what it lists TIED to the program's text (the seventh form; the later family's looks); each row that meets fmt, with fmt's text TOLD by the authors' own Lean function (tested against real Go, not proved from fmt's source: count such statements apart). THE CARD IS WHAT COUNTS. Prove the row's statement (the work); the ties are given (YthhpeeckiggpaaaGreatDoorTie.lean); close each card by the builder's one call (the guide's Derived/Test/ToyasCard.lean, 'card_holds'). Laid BY PROGRAM, IN A SANDBOX (cutbox-door.mjs). By AI agents, Wed Nov 11 2026. No macro, syntax, notation, axiom, sorry.
-/
import Derived.Test.YthhpeeckiggpaaaGreatDoorRows
import GoSem.ClaimSeven
namespace Go.Proofs.YthhpeeckiggpaaaGreatDoor
namespace Rows

/-- THE TIED CARD OF 'refrainlaw1.ValueScript'. -/
def valueScriptCard : Claim7 := { stood := { row := valueScriptRow, standIns := [], harness := (true, "c9f9c8729dc95c2eed107653d1950eac9f81f5f2818eeb759464753ac61e8e19"), looks := true }, kinds := [], alts := [], laidByText := true, laidKinds := [.data, .data, .data, .data, .sentinel, .sentinel, .data, .pinned, .pinned], laidTests := true, laidLooks := .later }
def ValueScriptCardSaid : Prop := Claim7.holds Tryz.pinned (.plain (OpenSpec.ofChange valueScriptSpec)) valueScriptCard

/-- THE SECOND FORM's CARD OF 'refrainlaw1.ValueScript'. -/
def valueScriptUptoCard : Claim7 := { stood := { row := valueScriptUptoRow, standIns := [], harness := (true, "c9f9c8729dc95c2eed107653d1950eac9f81f5f2818eeb759464753ac61e8e19"), looks := true }, kinds := [], alts := [], laidByText := true, laidKinds := [.data, .data, .data, .data, .sentinel, .sentinel, .data, .pinned, .pinned], laidTests := true, laidLooks := .later }
def ValueScriptUptoCardSaid : Prop := Claim7.holds Tryz.pinned (.plain (OpenSpec.upto valueScriptSpec)) valueScriptUptoCard
end Rows
end Go.Proofs.YthhpeeckiggpaaaGreatDoor

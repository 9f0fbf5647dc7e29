/-
  DERIVED. GIVEN WITH THE SEED: THE CARDS: each row of YtpkbhfdfgapmlaaGreatDoorRows.lean that lists a variable, with what it lists TIED to the program's text (the seventh form; the later family's looks); each row that meets fmt, with fmt's text TOLD by the authors' own Lean function (tested against real Go, not proved from fmt's source: count such statements apart). THE CARD IS WHAT COUNTS. Prove the row's statement (the work); the ties are given (YtpkbhfdfgapmlaaGreatDoorTie.lean); close each card by the builder's one call (the guide's Derived/Test/ToyasCard.lean, 'card_holds'). Laid BY PROGRAM, IN A SANDBOX (cutbox-door.mjs). By AI agents, Wed Nov 11 2026. No macro, syntax, notation, axiom, sorry.
-/
import Derived.Test.YtpkbhfdfgapmlaaGreatDoorRows
import GoSem.ClaimSeven
namespace Go.Proofs.YtpkbhfdfgapmlaaGreatDoor
namespace Rows

/-- THE TIED CARD OF 'refrainlaw4.CsvEvents'. -/
def csvEventsCard : Claim7 := { stood := { row := csvEventsRow, standIns := [], harness := (true, "321147b9b4062ddab5f6774b25282c56f921ccecfcbb2c34626370976239b298"), looks := true }, kinds := [], alts := [], laidByText := true, laidKinds := [.data, .data, .data, .data, .sentinel, .sentinel, .pinned, .pinned], laidTests := true, laidLooks := .later }
def CsvEventsCardSaid : Prop := Claim7.holds Tryz.pinned (.plain (OpenSpec.ofChange csvEventsSpec)) csvEventsCard

/-- THE TIED CARD OF 'refrainlaw4.CsvCarries'. -/
def csvCarriesCard : Claim7 := { stood := { row := csvCarriesRow, standIns := [], harness := (true, "321147b9b4062ddab5f6774b25282c56f921ccecfcbb2c34626370976239b298"), looks := true }, kinds := [], alts := [], laidByText := true, laidKinds := [.data, .data, .data, .data, .sentinel, .sentinel, .pinned, .pinned], laidTests := true, laidLooks := .later }
def CsvCarriesCardSaid : Prop := Claim7.holds Tryz.pinned (.plain (OpenSpec.ofChange csvCarriesSpec)) csvCarriesCard

/-- THE TIED CARD OF 'refrainlaw4.CsvFresh'. -/
def csvFreshCard : Claim7 := { stood := { row := csvFreshRow, standIns := [], harness := (true, "321147b9b4062ddab5f6774b25282c56f921ccecfcbb2c34626370976239b298"), looks := true }, kinds := [], alts := [], laidByText := true, laidKinds := [.data, .data, .data, .data, .sentinel, .sentinel, .pinned, .pinned], laidTests := true, laidLooks := .later }
def CsvFreshCardSaid : Prop := Claim7.holds Tryz.pinned (.plain (OpenSpec.ofChange csvFreshSpec)) csvFreshCard

/-- THE TIED CARD OF 'refrainlaw4.CsvScript'. -/
def csvScriptCard : Claim7 := { stood := { row := csvScriptRow, standIns := [], harness := (true, "321147b9b4062ddab5f6774b25282c56f921ccecfcbb2c34626370976239b298"), looks := true }, kinds := [], alts := [], laidByText := true, laidKinds := [.data, .data, .data, .data, .sentinel, .sentinel, .pinned, .pinned], laidTests := true, laidLooks := .later }
def CsvScriptCardSaid : Prop := Claim7.holds Tryz.pinned (.plain (OpenSpec.ofChange csvScriptSpec)) csvScriptCard

/-- THE SECOND FORM's CARD OF 'refrainlaw4.CsvEvents'. -/
def csvEventsUptoCard : Claim7 := { stood := { row := csvEventsUptoRow, standIns := [], harness := (true, "321147b9b4062ddab5f6774b25282c56f921ccecfcbb2c34626370976239b298"), looks := true }, kinds := [], alts := [], laidByText := true, laidKinds := [.data, .data, .data, .data, .sentinel, .sentinel, .pinned, .pinned], laidTests := true, laidLooks := .later }
def CsvEventsUptoCardSaid : Prop := Claim7.holds Tryz.pinned (.plain (OpenSpec.upto csvEventsSpec)) csvEventsUptoCard

/-- THE SECOND FORM's CARD OF 'refrainlaw4.CsvCarries'. -/
def csvCarriesUptoCard : Claim7 := { stood := { row := csvCarriesUptoRow, standIns := [], harness := (true, "321147b9b4062ddab5f6774b25282c56f921ccecfcbb2c34626370976239b298"), looks := true }, kinds := [], alts := [], laidByText := true, laidKinds := [.data, .data, .data, .data, .sentinel, .sentinel, .pinned, .pinned], laidTests := true, laidLooks := .later }
def CsvCarriesUptoCardSaid : Prop := Claim7.holds Tryz.pinned (.plain (OpenSpec.upto csvCarriesSpec)) csvCarriesUptoCard

/-- THE SECOND FORM's CARD OF 'refrainlaw4.CsvFresh'. -/
def csvFreshUptoCard : Claim7 := { stood := { row := csvFreshUptoRow, standIns := [], harness := (true, "321147b9b4062ddab5f6774b25282c56f921ccecfcbb2c34626370976239b298"), looks := true }, kinds := [], alts := [], laidByText := true, laidKinds := [.data, .data, .data, .data, .sentinel, .sentinel, .pinned, .pinned], laidTests := true, laidLooks := .later }
def CsvFreshUptoCardSaid : Prop := Claim7.holds Tryz.pinned (.plain (OpenSpec.upto csvFreshSpec)) csvFreshUptoCard

/-- THE SECOND FORM's CARD OF 'refrainlaw4.CsvScript'. -/
def csvScriptUptoCard : Claim7 := { stood := { row := csvScriptUptoRow, standIns := [], harness := (true, "321147b9b4062ddab5f6774b25282c56f921ccecfcbb2c34626370976239b298"), looks := true }, kinds := [], alts := [], laidByText := true, laidKinds := [.data, .data, .data, .data, .sentinel, .sentinel, .pinned, .pinned], laidTests := true, laidLooks := .later }
def CsvScriptUptoCardSaid : Prop := Claim7.holds Tryz.pinned (.plain (OpenSpec.upto csvScriptSpec)) csvScriptUptoCard
end Rows
end Go.Proofs.YtpkbhfdfgapmlaaGreatDoor

/-
  DERIVED. GIVEN WITH THE SEED: THE CARDS: each row of YthhpeeckiggpaaaDoorRows.lean that lists a variable, with what it lists TIED to the program's text (the seventh form; the later family's looks); each row that meets fmt, with fmt's text TOLD by the authors' own Lean function (tested against real Go, not proved from fmt's source: count such statements apart). THE CARD IS WHAT COUNTS. Prove the row's statement (the work); the ties are given (YthhpeeckiggpaaaDoorTie.lean); close each card by the builder's one call (the guide's Derived/Test/ToyasCard.lean, 'card_holds'). Laid BY PROGRAM, IN A SANDBOX (cutbox-door.mjs). By AI agents, Wed Nov 11 2026. No macro, syntax, notation, axiom, sorry.
-/
import Derived.Test.YthhpeeckiggpaaaDoorRows
import GoSem.ClaimSeven
namespace Go.Proofs.YthhpeeckiggpaaaDoor
namespace Rows

/-- THE TIED CARD OF 'refrainlaw1.ValueShows'. -/
def valueShowsCard : Claim7 := { stood := { row := valueShowsRow, standIns := [], harness := (true, "634c8a22d281de2fb54e12b2ea1623f4f40980fd96418a2c3038827170fc096b"), looks := true }, kinds := [], alts := [], laidByText := true, laidKinds := [.data, .data, .data, .data, .sentinel, .sentinel, .data, .pinned, .pinned], laidTests := true, laidLooks := .later }
def ValueShowsCardSaid : Prop := Claim7.holds Tryd.pinned (.plain (OpenSpec.ofChange valueShowsSpec)) valueShowsCard

/-- THE TIED CARD OF 'refrainlaw1.ValueReads'. -/
def valueReadsCard : Claim7 := { stood := { row := valueReadsRow, standIns := [], harness := (true, "634c8a22d281de2fb54e12b2ea1623f4f40980fd96418a2c3038827170fc096b"), looks := true }, kinds := [], alts := [], laidByText := true, laidKinds := [.data, .data, .data, .data, .sentinel, .sentinel, .data, .pinned, .pinned], laidTests := true, laidLooks := .later }
def ValueReadsCardSaid : Prop := Claim7.holds Tryd.pinned (.plain (OpenSpec.ofChange valueReadsSpec)) valueReadsCard

/-- THE TIED CARD OF 'refrainlaw1.ValueRound'. -/
def valueRoundCard : Claim7 := { stood := { row := valueRoundRow, standIns := [], harness := (true, "634c8a22d281de2fb54e12b2ea1623f4f40980fd96418a2c3038827170fc096b"), looks := true }, kinds := [], alts := [], laidByText := true, laidKinds := [.data, .data, .data, .data, .sentinel, .sentinel, .data, .pinned, .pinned], laidTests := true, laidLooks := .later }
def ValueRoundCardSaid : Prop := Claim7.holds Tryd.pinned (.plain (OpenSpec.ofChange valueRoundSpec)) valueRoundCard

/-- THE TIED CARD OF 'refrainlaw1.ValueOrder'. -/
def valueOrderCard : Claim7 := { stood := { row := valueOrderRow, standIns := [], harness := (true, "634c8a22d281de2fb54e12b2ea1623f4f40980fd96418a2c3038827170fc096b"), looks := true }, kinds := [], alts := [], laidByText := true, laidKinds := [.data, .data, .data, .data, .sentinel, .sentinel, .data, .pinned, .pinned], laidTests := true, laidLooks := .later }
def ValueOrderCardSaid : Prop := Claim7.holds Tryd.pinned (.plain (OpenSpec.ofChange valueOrderSpec)) valueOrderCard

/-- THE TIED CARD OF 'refrainlaw1.ValueOps'. -/
def valueOpsCard : Claim7 := { stood := { row := valueOpsRow, standIns := [], harness := (true, "634c8a22d281de2fb54e12b2ea1623f4f40980fd96418a2c3038827170fc096b"), looks := true }, kinds := [], alts := [], laidByText := true, laidKinds := [.data, .data, .data, .data, .sentinel, .sentinel, .data, .pinned, .pinned], laidTests := true, laidLooks := .later }
def ValueOpsCardSaid : Prop := Claim7.holds Tryd.pinned (.plain (OpenSpec.ofChange valueOpsSpec)) valueOpsCard

/-- THE TIED CARD OF 'refrainlaw1.ValueRing'. -/
def valueRingCard : Claim7 := { stood := { row := valueRingRow, standIns := [], harness := (true, "634c8a22d281de2fb54e12b2ea1623f4f40980fd96418a2c3038827170fc096b"), looks := true }, kinds := [], alts := [], laidByText := true, laidKinds := [.data, .data, .data, .data, .sentinel, .sentinel, .data, .pinned, .pinned], laidTests := true, laidLooks := .later }
def ValueRingCardSaid : Prop := Claim7.holds Tryd.pinned (.plain (OpenSpec.ofChange valueRingSpec)) valueRingCard

/-- THE TIED CARD OF 'refrainlaw1.ValueLogic'. -/
def valueLogicCard : Claim7 := { stood := { row := valueLogicRow, standIns := [], harness := (true, "634c8a22d281de2fb54e12b2ea1623f4f40980fd96418a2c3038827170fc096b"), looks := true }, kinds := [], alts := [], laidByText := true, laidKinds := [.data, .data, .data, .data, .sentinel, .sentinel, .data, .pinned, .pinned], laidTests := true, laidLooks := .later }
def ValueLogicCardSaid : Prop := Claim7.holds Tryd.pinned (.plain (OpenSpec.ofChange valueLogicSpec)) valueLogicCard

/-- THE SECOND FORM's CARD OF 'refrainlaw1.ValueShows'. -/
def valueShowsUptoCard : Claim7 := { stood := { row := valueShowsUptoRow, standIns := [], harness := (true, "634c8a22d281de2fb54e12b2ea1623f4f40980fd96418a2c3038827170fc096b"), looks := true }, kinds := [], alts := [], laidByText := true, laidKinds := [.data, .data, .data, .data, .sentinel, .sentinel, .data, .pinned, .pinned], laidTests := true, laidLooks := .later }
def ValueShowsUptoCardSaid : Prop := Claim7.holds Tryd.pinned (.plain (OpenSpec.upto valueShowsSpec)) valueShowsUptoCard

/-- THE SECOND FORM's CARD OF 'refrainlaw1.ValueReads'. -/
def valueReadsUptoCard : Claim7 := { stood := { row := valueReadsUptoRow, standIns := [], harness := (true, "634c8a22d281de2fb54e12b2ea1623f4f40980fd96418a2c3038827170fc096b"), looks := true }, kinds := [], alts := [], laidByText := true, laidKinds := [.data, .data, .data, .data, .sentinel, .sentinel, .data, .pinned, .pinned], laidTests := true, laidLooks := .later }
def ValueReadsUptoCardSaid : Prop := Claim7.holds Tryd.pinned (.plain (OpenSpec.upto valueReadsSpec)) valueReadsUptoCard

/-- THE SECOND FORM's CARD OF 'refrainlaw1.ValueRound'. -/
def valueRoundUptoCard : Claim7 := { stood := { row := valueRoundUptoRow, standIns := [], harness := (true, "634c8a22d281de2fb54e12b2ea1623f4f40980fd96418a2c3038827170fc096b"), looks := true }, kinds := [], alts := [], laidByText := true, laidKinds := [.data, .data, .data, .data, .sentinel, .sentinel, .data, .pinned, .pinned], laidTests := true, laidLooks := .later }
def ValueRoundUptoCardSaid : Prop := Claim7.holds Tryd.pinned (.plain (OpenSpec.upto valueRoundSpec)) valueRoundUptoCard

/-- THE SECOND FORM's CARD OF 'refrainlaw1.ValueOrder'. -/
def valueOrderUptoCard : Claim7 := { stood := { row := valueOrderUptoRow, standIns := [], harness := (true, "634c8a22d281de2fb54e12b2ea1623f4f40980fd96418a2c3038827170fc096b"), looks := true }, kinds := [], alts := [], laidByText := true, laidKinds := [.data, .data, .data, .data, .sentinel, .sentinel, .data, .pinned, .pinned], laidTests := true, laidLooks := .later }
def ValueOrderUptoCardSaid : Prop := Claim7.holds Tryd.pinned (.plain (OpenSpec.upto valueOrderSpec)) valueOrderUptoCard

/-- THE SECOND FORM's CARD OF 'refrainlaw1.ValueOps'. -/
def valueOpsUptoCard : Claim7 := { stood := { row := valueOpsUptoRow, standIns := [], harness := (true, "634c8a22d281de2fb54e12b2ea1623f4f40980fd96418a2c3038827170fc096b"), looks := true }, kinds := [], alts := [], laidByText := true, laidKinds := [.data, .data, .data, .data, .sentinel, .sentinel, .data, .pinned, .pinned], laidTests := true, laidLooks := .later }
def ValueOpsUptoCardSaid : Prop := Claim7.holds Tryd.pinned (.plain (OpenSpec.upto valueOpsSpec)) valueOpsUptoCard

/-- THE SECOND FORM's CARD OF 'refrainlaw1.ValueRing'. -/
def valueRingUptoCard : Claim7 := { stood := { row := valueRingUptoRow, standIns := [], harness := (true, "634c8a22d281de2fb54e12b2ea1623f4f40980fd96418a2c3038827170fc096b"), looks := true }, kinds := [], alts := [], laidByText := true, laidKinds := [.data, .data, .data, .data, .sentinel, .sentinel, .data, .pinned, .pinned], laidTests := true, laidLooks := .later }
def ValueRingUptoCardSaid : Prop := Claim7.holds Tryd.pinned (.plain (OpenSpec.upto valueRingSpec)) valueRingUptoCard

/-- THE SECOND FORM's CARD OF 'refrainlaw1.ValueLogic'. -/
def valueLogicUptoCard : Claim7 := { stood := { row := valueLogicUptoRow, standIns := [], harness := (true, "634c8a22d281de2fb54e12b2ea1623f4f40980fd96418a2c3038827170fc096b"), looks := true }, kinds := [], alts := [], laidByText := true, laidKinds := [.data, .data, .data, .data, .sentinel, .sentinel, .data, .pinned, .pinned], laidTests := true, laidLooks := .later }
def ValueLogicUptoCardSaid : Prop := Claim7.holds Tryd.pinned (.plain (OpenSpec.upto valueLogicSpec)) valueLogicUptoCard
end Rows
end Go.Proofs.YthhpeeckiggpaaaDoor

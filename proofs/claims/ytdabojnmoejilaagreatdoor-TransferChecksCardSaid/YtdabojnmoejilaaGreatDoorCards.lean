/-
  DERIVED. GIVEN WITH THE SEED: THE CARDS: each row of YtdabojnmoejilaaGreatDoorRows.lean that lists a variable, with what it lists TIED to the program's text (the seventh form; the later family's looks); each row that meets fmt, with fmt's text TOLD by the authors' own Lean function (tested against real Go, not proved from fmt's source: count such statements apart). THE CARD IS WHAT COUNTS. Prove the row's statement (the work); the ties are given (YtdabojnmoejilaaGreatDoorTie.lean); close each card by the builder's one call (the guide's Derived/Test/ToyasCard.lean, 'card_holds'). Laid BY PROGRAM, IN A SANDBOX (cutbox-door.mjs). By AI agents, Wed Nov 11 2026. No macro, syntax, notation, axiom, sorry.
-/
import Derived.Test.YtdabojnmoejilaaGreatDoorRows
import GoSem.ClaimSeven
namespace Go.Proofs.YtdabojnmoejilaaGreatDoor
namespace Rows

/-- THE TIED CARD OF 'bombardelaw40.TransferLosses'. -/
def transferLossesCard : Claim7 := { stood := { row := transferLossesRow, standIns := [], harness := (true, "ed17a21b90b04908009f5a20b77f89f3a2f6a92a35c345d3c115f6e7a9e93d88"), looks := false }, kinds := [], alts := [], laidByText := true, laidKinds := [.data, .data, .data], laidTests := true, laidLooks := .later }
def TransferLossesCardSaid : Prop := Claim7.holds Tryz.pinned (.plain (OpenSpec.ofChange transferLossesSpec)) transferLossesCard

/-- THE TIED CARD OF 'bombardelaw40.TransferBest'. -/
def transferBestCard : Claim7 := { stood := { row := transferBestRow, standIns := [], harness := (true, "ed17a21b90b04908009f5a20b77f89f3a2f6a92a35c345d3c115f6e7a9e93d88"), looks := false }, kinds := [], alts := [], laidByText := true, laidKinds := [.data, .data, .data], laidTests := true, laidLooks := .later }
def TransferBestCardSaid : Prop := Claim7.holds Tryz.pinned (.plain (OpenSpec.ofChange transferBestSpec)) transferBestCard

/-- THE TIED CARD OF 'bombardelaw40.TransferVerifies'. -/
def transferVerifiesCard : Claim7 := { stood := { row := transferVerifiesRow, standIns := [], harness := (true, "ed17a21b90b04908009f5a20b77f89f3a2f6a92a35c345d3c115f6e7a9e93d88"), looks := false }, kinds := [], alts := [], laidByText := true, laidKinds := [.data, .data, .data], laidTests := true, laidLooks := .later }
def TransferVerifiesCardSaid : Prop := Claim7.holds Tryz.pinned (.plain (OpenSpec.ofChange transferVerifiesSpec)) transferVerifiesCard

/-- THE TIED CARD OF 'bombardelaw40.TransferMore'. -/
def transferMoreCard : Claim7 := { stood := { row := transferMoreRow, standIns := [], harness := (true, "ed17a21b90b04908009f5a20b77f89f3a2f6a92a35c345d3c115f6e7a9e93d88"), looks := false }, kinds := [], alts := [], laidByText := true, laidKinds := [.data, .data, .data], laidTests := true, laidLooks := .later }
def TransferMoreCardSaid : Prop := Claim7.holds Tryz.pinned (.plain (OpenSpec.ofChange transferMoreSpec)) transferMoreCard

/-- THE TIED CARD OF 'bombardelaw40.TransferLimits'. -/
def transferLimitsCard : Claim7 := { stood := { row := transferLimitsRow, standIns := [], harness := (true, "ed17a21b90b04908009f5a20b77f89f3a2f6a92a35c345d3c115f6e7a9e93d88"), looks := false }, kinds := [], alts := [], laidByText := true, laidKinds := [.data, .data, .data], laidTests := true, laidLooks := .later }
def TransferLimitsCardSaid : Prop := Claim7.holds Tryz.pinned (.plain (OpenSpec.ofChange transferLimitsSpec)) transferLimitsCard

/-- THE TIED CARD OF 'bombardelaw40.TransferStops'. -/
def transferStopsCard : Claim7 := { stood := { row := transferStopsRow, standIns := [], harness := (true, "ed17a21b90b04908009f5a20b77f89f3a2f6a92a35c345d3c115f6e7a9e93d88"), looks := false }, kinds := [], alts := [], laidByText := true, laidKinds := [.data, .data, .data], laidTests := true, laidLooks := .later }
def TransferStopsCardSaid : Prop := Claim7.holds Tryz.pinned (.plain (OpenSpec.ofChange transferStopsSpec)) transferStopsCard

/-- THE TIED CARD OF 'bombardelaw40.TransferChecks'. -/
def transferChecksCard : Claim7 := { stood := { row := transferChecksRow, standIns := [], harness := (true, "ed17a21b90b04908009f5a20b77f89f3a2f6a92a35c345d3c115f6e7a9e93d88"), looks := false }, kinds := [], alts := [], laidByText := true, laidKinds := [.data, .data, .data], laidTests := true, laidLooks := .later }
def TransferChecksCardSaid : Prop := Claim7.holds Tryz.pinned (.plain (OpenSpec.ofChange transferChecksSpec)) transferChecksCard

/-- THE TIED CARD OF 'bombardelaw40.TransferCarries'. -/
def transferCarriesCard : Claim7 := { stood := { row := transferCarriesRow, standIns := [], harness := (true, "ed17a21b90b04908009f5a20b77f89f3a2f6a92a35c345d3c115f6e7a9e93d88"), looks := false }, kinds := [], alts := [], laidByText := true, laidKinds := [.data, .data, .data], laidTests := true, laidLooks := .later }
def TransferCarriesCardSaid : Prop := Claim7.holds Tryz.pinned (.plain (OpenSpec.ofChange transferCarriesSpec)) transferCarriesCard

/-- THE TIED CARD OF 'bombardelaw40.TransferItself'. -/
def transferItselfCard : Claim7 := { stood := { row := transferItselfRow, standIns := [], harness := (true, "ed17a21b90b04908009f5a20b77f89f3a2f6a92a35c345d3c115f6e7a9e93d88"), looks := false }, kinds := [], alts := [], laidByText := true, laidKinds := [.data, .data, .data], laidTests := true, laidLooks := .later }
def TransferItselfCardSaid : Prop := Claim7.holds Tryz.pinned (.plain (OpenSpec.ofChange transferItselfSpec)) transferItselfCard

/-- THE SECOND FORM's CARD OF 'bombardelaw40.TransferLosses'. -/
def transferLossesUptoCard : Claim7 := { stood := { row := transferLossesUptoRow, standIns := [], harness := (true, "ed17a21b90b04908009f5a20b77f89f3a2f6a92a35c345d3c115f6e7a9e93d88"), looks := false }, kinds := [], alts := [], laidByText := true, laidKinds := [.data, .data, .data], laidTests := true, laidLooks := .later }
def TransferLossesUptoCardSaid : Prop := Claim7.holds Tryz.pinned (.plain (OpenSpec.upto transferLossesSpec)) transferLossesUptoCard

/-- THE SECOND FORM's CARD OF 'bombardelaw40.TransferBest'. -/
def transferBestUptoCard : Claim7 := { stood := { row := transferBestUptoRow, standIns := [], harness := (true, "ed17a21b90b04908009f5a20b77f89f3a2f6a92a35c345d3c115f6e7a9e93d88"), looks := false }, kinds := [], alts := [], laidByText := true, laidKinds := [.data, .data, .data], laidTests := true, laidLooks := .later }
def TransferBestUptoCardSaid : Prop := Claim7.holds Tryz.pinned (.plain (OpenSpec.upto transferBestSpec)) transferBestUptoCard

/-- THE SECOND FORM's CARD OF 'bombardelaw40.TransferVerifies'. -/
def transferVerifiesUptoCard : Claim7 := { stood := { row := transferVerifiesUptoRow, standIns := [], harness := (true, "ed17a21b90b04908009f5a20b77f89f3a2f6a92a35c345d3c115f6e7a9e93d88"), looks := false }, kinds := [], alts := [], laidByText := true, laidKinds := [.data, .data, .data], laidTests := true, laidLooks := .later }
def TransferVerifiesUptoCardSaid : Prop := Claim7.holds Tryz.pinned (.plain (OpenSpec.upto transferVerifiesSpec)) transferVerifiesUptoCard

/-- THE SECOND FORM's CARD OF 'bombardelaw40.TransferMore'. -/
def transferMoreUptoCard : Claim7 := { stood := { row := transferMoreUptoRow, standIns := [], harness := (true, "ed17a21b90b04908009f5a20b77f89f3a2f6a92a35c345d3c115f6e7a9e93d88"), looks := false }, kinds := [], alts := [], laidByText := true, laidKinds := [.data, .data, .data], laidTests := true, laidLooks := .later }
def TransferMoreUptoCardSaid : Prop := Claim7.holds Tryz.pinned (.plain (OpenSpec.upto transferMoreSpec)) transferMoreUptoCard

/-- THE SECOND FORM's CARD OF 'bombardelaw40.TransferLimits'. -/
def transferLimitsUptoCard : Claim7 := { stood := { row := transferLimitsUptoRow, standIns := [], harness := (true, "ed17a21b90b04908009f5a20b77f89f3a2f6a92a35c345d3c115f6e7a9e93d88"), looks := false }, kinds := [], alts := [], laidByText := true, laidKinds := [.data, .data, .data], laidTests := true, laidLooks := .later }
def TransferLimitsUptoCardSaid : Prop := Claim7.holds Tryz.pinned (.plain (OpenSpec.upto transferLimitsSpec)) transferLimitsUptoCard

/-- THE SECOND FORM's CARD OF 'bombardelaw40.TransferStops'. -/
def transferStopsUptoCard : Claim7 := { stood := { row := transferStopsUptoRow, standIns := [], harness := (true, "ed17a21b90b04908009f5a20b77f89f3a2f6a92a35c345d3c115f6e7a9e93d88"), looks := false }, kinds := [], alts := [], laidByText := true, laidKinds := [.data, .data, .data], laidTests := true, laidLooks := .later }
def TransferStopsUptoCardSaid : Prop := Claim7.holds Tryz.pinned (.plain (OpenSpec.upto transferStopsSpec)) transferStopsUptoCard

/-- THE SECOND FORM's CARD OF 'bombardelaw40.TransferChecks'. -/
def transferChecksUptoCard : Claim7 := { stood := { row := transferChecksUptoRow, standIns := [], harness := (true, "ed17a21b90b04908009f5a20b77f89f3a2f6a92a35c345d3c115f6e7a9e93d88"), looks := false }, kinds := [], alts := [], laidByText := true, laidKinds := [.data, .data, .data], laidTests := true, laidLooks := .later }
def TransferChecksUptoCardSaid : Prop := Claim7.holds Tryz.pinned (.plain (OpenSpec.upto transferChecksSpec)) transferChecksUptoCard

/-- THE SECOND FORM's CARD OF 'bombardelaw40.TransferCarries'. -/
def transferCarriesUptoCard : Claim7 := { stood := { row := transferCarriesUptoRow, standIns := [], harness := (true, "ed17a21b90b04908009f5a20b77f89f3a2f6a92a35c345d3c115f6e7a9e93d88"), looks := false }, kinds := [], alts := [], laidByText := true, laidKinds := [.data, .data, .data], laidTests := true, laidLooks := .later }
def TransferCarriesUptoCardSaid : Prop := Claim7.holds Tryz.pinned (.plain (OpenSpec.upto transferCarriesSpec)) transferCarriesUptoCard

/-- THE SECOND FORM's CARD OF 'bombardelaw40.TransferItself'. -/
def transferItselfUptoCard : Claim7 := { stood := { row := transferItselfUptoRow, standIns := [], harness := (true, "ed17a21b90b04908009f5a20b77f89f3a2f6a92a35c345d3c115f6e7a9e93d88"), looks := false }, kinds := [], alts := [], laidByText := true, laidKinds := [.data, .data, .data], laidTests := true, laidLooks := .later }
def TransferItselfUptoCardSaid : Prop := Claim7.holds Tryz.pinned (.plain (OpenSpec.upto transferItselfSpec)) transferItselfUptoCard
end Rows
end Go.Proofs.YtdabojnmoejilaaGreatDoor

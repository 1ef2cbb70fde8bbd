/-
  DERIVED. GIVEN WITH THE SEED: THE CARDS: each row of YtnhdddmhkhdlhaaGreatDoorRows.lean that lists a variable, with what it lists TIED to the program's text (the seventh form; the later family's looks); each row that meets fmt, with fmt's text TOLD by the authors' own Lean function (tested against real Go, not proved from fmt's source: count such statements apart). THE CARD IS WHAT COUNTS. Prove the row's statement (the work); the ties are given (YtnhdddmhkhdlhaaGreatDoorTie.lean); close each card by the builder's one call (the guide's Derived/Test/ToyasCard.lean, 'card_holds'). Laid BY PROGRAM, IN A SANDBOX (cutbox-door.mjs). By AI agents, Wed Nov 11 2026. No macro, syntax, notation, axiom, sorry.
-/
import Derived.Test.YtnhdddmhkhdlhaaGreatDoorRows
import GoSem.ClaimSeven
namespace Go.Proofs.YtnhdddmhkhdlhaaGreatDoor
namespace Rows

/-- THE TIED CARD OF 'bombardelaw45.PieceOrgans'. -/
def pieceOrgansCard : Claim7 := { stood := { row := pieceOrgansRow, standIns := [], harness := (true, "e38f1347a79eadbbe46ac204f7a7266a9b8c789b8bb95e2cfdacfcf8daa977c7"), looks := false }, kinds := [], alts := [], laidByText := true, laidKinds := [.data, .data, .data], laidTests := true, laidLooks := .later }
def PieceOrgansCardSaid : Prop := Claim7.holds Tryz.pinned (.plain (OpenSpec.ofChange pieceOrgansSpec)) pieceOrgansCard

/-- THE TIED CARD OF 'bombardelaw45.PieceSlices'. -/
def pieceSlicesCard : Claim7 := { stood := { row := pieceSlicesRow, standIns := [], harness := (true, "e38f1347a79eadbbe46ac204f7a7266a9b8c789b8bb95e2cfdacfcf8daa977c7"), looks := false }, kinds := [], alts := [], laidByText := true, laidKinds := [.data, .data, .data], laidTests := true, laidLooks := .later }
def PieceSlicesCardSaid : Prop := Claim7.holds Tryz.pinned (.plain (OpenSpec.ofChange pieceSlicesSpec)) pieceSlicesCard

/-- THE TIED CARD OF 'bombardelaw45.PieceCuts'. -/
def pieceCutsCard : Claim7 := { stood := { row := pieceCutsRow, standIns := [], harness := (true, "e38f1347a79eadbbe46ac204f7a7266a9b8c789b8bb95e2cfdacfcf8daa977c7"), looks := false }, kinds := [], alts := [], laidByText := true, laidKinds := [.data, .data, .data], laidTests := true, laidLooks := .later }
def PieceCutsCardSaid : Prop := Claim7.holds Tryz.pinned (.plain (OpenSpec.ofChange pieceCutsSpec)) pieceCutsCard

/-- THE TIED CARD OF 'bombardelaw45.PieceEquals'. -/
def pieceEqualsCard : Claim7 := { stood := { row := pieceEqualsRow, standIns := [], harness := (true, "e38f1347a79eadbbe46ac204f7a7266a9b8c789b8bb95e2cfdacfcf8daa977c7"), looks := false }, kinds := [], alts := [], laidByText := true, laidKinds := [.data, .data, .data], laidTests := true, laidLooks := .later }
def PieceEqualsCardSaid : Prop := Claim7.holds Tryz.pinned (.plain (OpenSpec.ofChange pieceEqualsSpec)) pieceEqualsCard

/-- THE TIED CARD OF 'bombardelaw45.PieceTransposes'. -/
def pieceTransposesCard : Claim7 := { stood := { row := pieceTransposesRow, standIns := [], harness := (true, "e38f1347a79eadbbe46ac204f7a7266a9b8c789b8bb95e2cfdacfcf8daa977c7"), looks := false }, kinds := [], alts := [], laidByText := true, laidKinds := [.data, .data, .data], laidTests := true, laidLooks := .later }
def PieceTransposesCardSaid : Prop := Claim7.holds Tryz.pinned (.plain (OpenSpec.ofChange pieceTransposesSpec)) pieceTransposesCard

/-- THE TIED CARD OF 'bombardelaw45.PieceFollows'. -/
def pieceFollowsCard : Claim7 := { stood := { row := pieceFollowsRow, standIns := [], harness := (true, "e38f1347a79eadbbe46ac204f7a7266a9b8c789b8bb95e2cfdacfcf8daa977c7"), looks := false }, kinds := [], alts := [], laidByText := true, laidKinds := [.data, .data, .data], laidTests := true, laidLooks := .later }
def PieceFollowsCardSaid : Prop := Claim7.holds Tryz.pinned (.plain (OpenSpec.ofChange pieceFollowsSpec)) pieceFollowsCard

/-- THE TIED CARD OF 'bombardelaw45.PieceTicks'. -/
def pieceTicksCard : Claim7 := { stood := { row := pieceTicksRow, standIns := [], harness := (true, "e38f1347a79eadbbe46ac204f7a7266a9b8c789b8bb95e2cfdacfcf8daa977c7"), looks := false }, kinds := [], alts := [], laidByText := true, laidKinds := [.data, .data, .data], laidTests := true, laidLooks := .later }
def PieceTicksCardSaid : Prop := Claim7.holds Tryz.pinned (.plain (OpenSpec.ofChange pieceTicksSpec)) pieceTicksCard

/-- THE TIED CARD OF 'bombardelaw45.PieceChecks'. -/
def pieceChecksCard : Claim7 := { stood := { row := pieceChecksRow, standIns := [], harness := (true, "e38f1347a79eadbbe46ac204f7a7266a9b8c789b8bb95e2cfdacfcf8daa977c7"), looks := false }, kinds := [], alts := [], laidByText := true, laidKinds := [.data, .data, .data], laidTests := true, laidLooks := .later }
def PieceChecksCardSaid : Prop := Claim7.holds Tryz.pinned (.plain (OpenSpec.ofChange pieceChecksSpec)) pieceChecksCard

/-- THE SECOND FORM's CARD OF 'bombardelaw45.PieceOrgans'. -/
def pieceOrgansUptoCard : Claim7 := { stood := { row := pieceOrgansUptoRow, standIns := [], harness := (true, "e38f1347a79eadbbe46ac204f7a7266a9b8c789b8bb95e2cfdacfcf8daa977c7"), looks := false }, kinds := [], alts := [], laidByText := true, laidKinds := [.data, .data, .data], laidTests := true, laidLooks := .later }
def PieceOrgansUptoCardSaid : Prop := Claim7.holds Tryz.pinned (.plain (OpenSpec.upto pieceOrgansSpec)) pieceOrgansUptoCard

/-- THE SECOND FORM's CARD OF 'bombardelaw45.PieceSlices'. -/
def pieceSlicesUptoCard : Claim7 := { stood := { row := pieceSlicesUptoRow, standIns := [], harness := (true, "e38f1347a79eadbbe46ac204f7a7266a9b8c789b8bb95e2cfdacfcf8daa977c7"), looks := false }, kinds := [], alts := [], laidByText := true, laidKinds := [.data, .data, .data], laidTests := true, laidLooks := .later }
def PieceSlicesUptoCardSaid : Prop := Claim7.holds Tryz.pinned (.plain (OpenSpec.upto pieceSlicesSpec)) pieceSlicesUptoCard

/-- THE SECOND FORM's CARD OF 'bombardelaw45.PieceCuts'. -/
def pieceCutsUptoCard : Claim7 := { stood := { row := pieceCutsUptoRow, standIns := [], harness := (true, "e38f1347a79eadbbe46ac204f7a7266a9b8c789b8bb95e2cfdacfcf8daa977c7"), looks := false }, kinds := [], alts := [], laidByText := true, laidKinds := [.data, .data, .data], laidTests := true, laidLooks := .later }
def PieceCutsUptoCardSaid : Prop := Claim7.holds Tryz.pinned (.plain (OpenSpec.upto pieceCutsSpec)) pieceCutsUptoCard

/-- THE SECOND FORM's CARD OF 'bombardelaw45.PieceEquals'. -/
def pieceEqualsUptoCard : Claim7 := { stood := { row := pieceEqualsUptoRow, standIns := [], harness := (true, "e38f1347a79eadbbe46ac204f7a7266a9b8c789b8bb95e2cfdacfcf8daa977c7"), looks := false }, kinds := [], alts := [], laidByText := true, laidKinds := [.data, .data, .data], laidTests := true, laidLooks := .later }
def PieceEqualsUptoCardSaid : Prop := Claim7.holds Tryz.pinned (.plain (OpenSpec.upto pieceEqualsSpec)) pieceEqualsUptoCard

/-- THE SECOND FORM's CARD OF 'bombardelaw45.PieceTransposes'. -/
def pieceTransposesUptoCard : Claim7 := { stood := { row := pieceTransposesUptoRow, standIns := [], harness := (true, "e38f1347a79eadbbe46ac204f7a7266a9b8c789b8bb95e2cfdacfcf8daa977c7"), looks := false }, kinds := [], alts := [], laidByText := true, laidKinds := [.data, .data, .data], laidTests := true, laidLooks := .later }
def PieceTransposesUptoCardSaid : Prop := Claim7.holds Tryz.pinned (.plain (OpenSpec.upto pieceTransposesSpec)) pieceTransposesUptoCard

/-- THE SECOND FORM's CARD OF 'bombardelaw45.PieceFollows'. -/
def pieceFollowsUptoCard : Claim7 := { stood := { row := pieceFollowsUptoRow, standIns := [], harness := (true, "e38f1347a79eadbbe46ac204f7a7266a9b8c789b8bb95e2cfdacfcf8daa977c7"), looks := false }, kinds := [], alts := [], laidByText := true, laidKinds := [.data, .data, .data], laidTests := true, laidLooks := .later }
def PieceFollowsUptoCardSaid : Prop := Claim7.holds Tryz.pinned (.plain (OpenSpec.upto pieceFollowsSpec)) pieceFollowsUptoCard

/-- THE SECOND FORM's CARD OF 'bombardelaw45.PieceTicks'. -/
def pieceTicksUptoCard : Claim7 := { stood := { row := pieceTicksUptoRow, standIns := [], harness := (true, "e38f1347a79eadbbe46ac204f7a7266a9b8c789b8bb95e2cfdacfcf8daa977c7"), looks := false }, kinds := [], alts := [], laidByText := true, laidKinds := [.data, .data, .data], laidTests := true, laidLooks := .later }
def PieceTicksUptoCardSaid : Prop := Claim7.holds Tryz.pinned (.plain (OpenSpec.upto pieceTicksSpec)) pieceTicksUptoCard

/-- THE SECOND FORM's CARD OF 'bombardelaw45.PieceChecks'. -/
def pieceChecksUptoCard : Claim7 := { stood := { row := pieceChecksUptoRow, standIns := [], harness := (true, "e38f1347a79eadbbe46ac204f7a7266a9b8c789b8bb95e2cfdacfcf8daa977c7"), looks := false }, kinds := [], alts := [], laidByText := true, laidKinds := [.data, .data, .data], laidTests := true, laidLooks := .later }
def PieceChecksUptoCardSaid : Prop := Claim7.holds Tryz.pinned (.plain (OpenSpec.upto pieceChecksSpec)) pieceChecksUptoCard
end Rows
end Go.Proofs.YtnhdddmhkhdlhaaGreatDoor

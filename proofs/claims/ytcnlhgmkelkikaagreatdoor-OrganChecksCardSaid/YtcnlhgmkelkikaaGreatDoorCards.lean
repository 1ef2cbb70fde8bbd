/-
  DERIVED. GIVEN WITH THE SEED: THE CARDS: each row of YtcnlhgmkelkikaaGreatDoorRows.lean that lists a variable, with what it lists TIED to the program's text (the seventh form; the later family's looks); each row that meets fmt, with fmt's text TOLD by the authors' own Lean function (tested against real Go, not proved from fmt's source: count such statements apart). THE CARD IS WHAT COUNTS. Prove the row's statement (the work); the ties are given (YtcnlhgmkelkikaaGreatDoorTie.lean); close each card by the builder's one call (the guide's Derived/Test/ToyasCard.lean, 'card_holds'). Laid BY PROGRAM, IN A SANDBOX (cutbox-door.mjs). By AI agents, Wed Nov 11 2026. No macro, syntax, notation, axiom, sorry.
-/
import Derived.Test.YtcnlhgmkelkikaaGreatDoorRows
import GoSem.ClaimSeven
namespace Go.Proofs.YtcnlhgmkelkikaaGreatDoor
namespace Rows

/-- THE TIED CARD OF 'bombardelaw18.OrganCounts'. -/
def organCountsCard : Claim7 := { stood := { row := organCountsRow, standIns := [], harness := (true, "c1f7b0b4a00388cc04eb55a720db02f0250b02c8bbc18d10f287c231ac9438e9"), looks := false }, kinds := [], alts := [], laidByText := true, laidKinds := [.data, .data, .data], laidTests := true, laidLooks := .later }
def OrganCountsCardSaid : Prop := Claim7.holds Tryz.pinned (.plain (OpenSpec.ofChange organCountsSpec)) organCountsCard

/-- THE TIED CARD OF 'bombardelaw18.OrganDraws'. -/
def organDrawsCard : Claim7 := { stood := { row := organDrawsRow, standIns := [], harness := (true, "c1f7b0b4a00388cc04eb55a720db02f0250b02c8bbc18d10f287c231ac9438e9"), looks := false }, kinds := [], alts := [], laidByText := true, laidKinds := [.data, .data, .data], laidTests := true, laidLooks := .later }
def OrganDrawsCardSaid : Prop := Claim7.holds Tryz.pinned (.plain (OpenSpec.ofChange organDrawsSpec)) organDrawsCard

/-- THE TIED CARD OF 'bombardelaw18.OrganNames'. -/
def organNamesCard : Claim7 := { stood := { row := organNamesRow, standIns := [], harness := (true, "c1f7b0b4a00388cc04eb55a720db02f0250b02c8bbc18d10f287c231ac9438e9"), looks := false }, kinds := [], alts := [], laidByText := true, laidKinds := [.data, .data, .data], laidTests := true, laidLooks := .later }
def OrganNamesCardSaid : Prop := Claim7.holds Tryz.pinned (.plain (OpenSpec.ofChange organNamesSpec)) organNamesCard

/-- THE TIED CARD OF 'bombardelaw18.OrganRegistrations'. -/
def organRegistrationsCard : Claim7 := { stood := { row := organRegistrationsRow, standIns := [], harness := (true, "c1f7b0b4a00388cc04eb55a720db02f0250b02c8bbc18d10f287c231ac9438e9"), looks := false }, kinds := [], alts := [], laidByText := true, laidKinds := [.data, .data, .data], laidTests := true, laidLooks := .later }
def OrganRegistrationsCardSaid : Prop := Claim7.holds Tryz.pinned (.plain (OpenSpec.ofChange organRegistrationsSpec)) organRegistrationsCard

/-- THE TIED CARD OF 'bombardelaw18.OrganEquals'. -/
def organEqualsCard : Claim7 := { stood := { row := organEqualsRow, standIns := [], harness := (true, "c1f7b0b4a00388cc04eb55a720db02f0250b02c8bbc18d10f287c231ac9438e9"), looks := false }, kinds := [], alts := [], laidByText := true, laidKinds := [.data, .data, .data], laidTests := true, laidLooks := .later }
def OrganEqualsCardSaid : Prop := Claim7.holds Tryz.pinned (.plain (OpenSpec.ofChange organEqualsSpec)) organEqualsCard

/-- THE TIED CARD OF 'bombardelaw18.OrganKeys'. -/
def organKeysCard : Claim7 := { stood := { row := organKeysRow, standIns := [], harness := (true, "c1f7b0b4a00388cc04eb55a720db02f0250b02c8bbc18d10f287c231ac9438e9"), looks := false }, kinds := [], alts := [], laidByText := true, laidKinds := [.data, .data, .data], laidTests := true, laidLooks := .later }
def OrganKeysCardSaid : Prop := Claim7.holds Tryz.pinned (.plain (OpenSpec.ofChange organKeysSpec)) organKeysCard

/-- THE TIED CARD OF 'bombardelaw18.OrganPlays'. -/
def organPlaysCard : Claim7 := { stood := { row := organPlaysRow, standIns := [], harness := (true, "c1f7b0b4a00388cc04eb55a720db02f0250b02c8bbc18d10f287c231ac9438e9"), looks := false }, kinds := [], alts := [], laidByText := true, laidKinds := [.data, .data, .data], laidTests := true, laidLooks := .later }
def OrganPlaysCardSaid : Prop := Claim7.holds Tryz.pinned (.plain (OpenSpec.ofChange organPlaysSpec)) organPlaysCard

/-- THE TIED CARD OF 'bombardelaw18.OrganChecks'. -/
def organChecksCard : Claim7 := { stood := { row := organChecksRow, standIns := [], harness := (true, "c1f7b0b4a00388cc04eb55a720db02f0250b02c8bbc18d10f287c231ac9438e9"), looks := false }, kinds := [], alts := [], laidByText := true, laidKinds := [.data, .data, .data], laidTests := true, laidLooks := .later }
def OrganChecksCardSaid : Prop := Claim7.holds Tryz.pinned (.plain (OpenSpec.ofChange organChecksSpec)) organChecksCard

/-- THE SECOND FORM's CARD OF 'bombardelaw18.OrganCounts'. -/
def organCountsUptoCard : Claim7 := { stood := { row := organCountsUptoRow, standIns := [], harness := (true, "c1f7b0b4a00388cc04eb55a720db02f0250b02c8bbc18d10f287c231ac9438e9"), looks := false }, kinds := [], alts := [], laidByText := true, laidKinds := [.data, .data, .data], laidTests := true, laidLooks := .later }
def OrganCountsUptoCardSaid : Prop := Claim7.holds Tryz.pinned (.plain (OpenSpec.upto organCountsSpec)) organCountsUptoCard

/-- THE SECOND FORM's CARD OF 'bombardelaw18.OrganDraws'. -/
def organDrawsUptoCard : Claim7 := { stood := { row := organDrawsUptoRow, standIns := [], harness := (true, "c1f7b0b4a00388cc04eb55a720db02f0250b02c8bbc18d10f287c231ac9438e9"), looks := false }, kinds := [], alts := [], laidByText := true, laidKinds := [.data, .data, .data], laidTests := true, laidLooks := .later }
def OrganDrawsUptoCardSaid : Prop := Claim7.holds Tryz.pinned (.plain (OpenSpec.upto organDrawsSpec)) organDrawsUptoCard

/-- THE SECOND FORM's CARD OF 'bombardelaw18.OrganNames'. -/
def organNamesUptoCard : Claim7 := { stood := { row := organNamesUptoRow, standIns := [], harness := (true, "c1f7b0b4a00388cc04eb55a720db02f0250b02c8bbc18d10f287c231ac9438e9"), looks := false }, kinds := [], alts := [], laidByText := true, laidKinds := [.data, .data, .data], laidTests := true, laidLooks := .later }
def OrganNamesUptoCardSaid : Prop := Claim7.holds Tryz.pinned (.plain (OpenSpec.upto organNamesSpec)) organNamesUptoCard

/-- THE SECOND FORM's CARD OF 'bombardelaw18.OrganRegistrations'. -/
def organRegistrationsUptoCard : Claim7 := { stood := { row := organRegistrationsUptoRow, standIns := [], harness := (true, "c1f7b0b4a00388cc04eb55a720db02f0250b02c8bbc18d10f287c231ac9438e9"), looks := false }, kinds := [], alts := [], laidByText := true, laidKinds := [.data, .data, .data], laidTests := true, laidLooks := .later }
def OrganRegistrationsUptoCardSaid : Prop := Claim7.holds Tryz.pinned (.plain (OpenSpec.upto organRegistrationsSpec)) organRegistrationsUptoCard

/-- THE SECOND FORM's CARD OF 'bombardelaw18.OrganEquals'. -/
def organEqualsUptoCard : Claim7 := { stood := { row := organEqualsUptoRow, standIns := [], harness := (true, "c1f7b0b4a00388cc04eb55a720db02f0250b02c8bbc18d10f287c231ac9438e9"), looks := false }, kinds := [], alts := [], laidByText := true, laidKinds := [.data, .data, .data], laidTests := true, laidLooks := .later }
def OrganEqualsUptoCardSaid : Prop := Claim7.holds Tryz.pinned (.plain (OpenSpec.upto organEqualsSpec)) organEqualsUptoCard

/-- THE SECOND FORM's CARD OF 'bombardelaw18.OrganKeys'. -/
def organKeysUptoCard : Claim7 := { stood := { row := organKeysUptoRow, standIns := [], harness := (true, "c1f7b0b4a00388cc04eb55a720db02f0250b02c8bbc18d10f287c231ac9438e9"), looks := false }, kinds := [], alts := [], laidByText := true, laidKinds := [.data, .data, .data], laidTests := true, laidLooks := .later }
def OrganKeysUptoCardSaid : Prop := Claim7.holds Tryz.pinned (.plain (OpenSpec.upto organKeysSpec)) organKeysUptoCard

/-- THE SECOND FORM's CARD OF 'bombardelaw18.OrganPlays'. -/
def organPlaysUptoCard : Claim7 := { stood := { row := organPlaysUptoRow, standIns := [], harness := (true, "c1f7b0b4a00388cc04eb55a720db02f0250b02c8bbc18d10f287c231ac9438e9"), looks := false }, kinds := [], alts := [], laidByText := true, laidKinds := [.data, .data, .data], laidTests := true, laidLooks := .later }
def OrganPlaysUptoCardSaid : Prop := Claim7.holds Tryz.pinned (.plain (OpenSpec.upto organPlaysSpec)) organPlaysUptoCard

/-- THE SECOND FORM's CARD OF 'bombardelaw18.OrganChecks'. -/
def organChecksUptoCard : Claim7 := { stood := { row := organChecksUptoRow, standIns := [], harness := (true, "c1f7b0b4a00388cc04eb55a720db02f0250b02c8bbc18d10f287c231ac9438e9"), looks := false }, kinds := [], alts := [], laidByText := true, laidKinds := [.data, .data, .data], laidTests := true, laidLooks := .later }
def OrganChecksUptoCardSaid : Prop := Claim7.holds Tryz.pinned (.plain (OpenSpec.upto organChecksSpec)) organChecksUptoCard
end Rows
end Go.Proofs.YtcnlhgmkelkikaaGreatDoor

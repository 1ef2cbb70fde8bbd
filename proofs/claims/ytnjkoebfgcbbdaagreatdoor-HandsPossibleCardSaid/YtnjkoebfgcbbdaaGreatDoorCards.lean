/-
  DERIVED. GIVEN WITH THE SEED: THE CARDS: each row of YtnjkoebfgcbbdaaGreatDoorRows.lean that lists a variable, with what it lists TIED to the program's text (the seventh form; the later family's looks); each row that meets fmt, with fmt's text TOLD by the authors' own Lean function (tested against real Go, not proved from fmt's source: count such statements apart). THE CARD IS WHAT COUNTS. Prove the row's statement (the work); the ties are given (YtnjkoebfgcbbdaaGreatDoorTie.lean); close each card by the builder's one call (the guide's Derived/Test/ToyasCard.lean, 'card_holds'). Laid BY PROGRAM, IN A SANDBOX (cutbox-door.mjs). By AI agents, Wed Nov 11 2026. No macro, syntax, notation, axiom, sorry.
-/
import Derived.Test.YtnjkoebfgcbbdaaGreatDoorRows
import GoSem.ClaimSeven
namespace Go.Proofs.YtnjkoebfgcbbdaaGreatDoor
namespace Rows

/-- THE TIED CARD OF 'bombardelaw46.HandsMany'. -/
def handsManyCard : Claim7 := { stood := { row := handsManyRow, standIns := [], harness := (true, "71dfa9740cb10a2467dab5fcfd3bb5f39386d4f2fe8d9029e128cc0eb7c9d05d"), looks := false }, kinds := [], alts := [], laidByText := true, laidKinds := [.data, .data, .data], laidTests := true, laidLooks := .later }
def HandsManyCardSaid : Prop := Claim7.holds Tryz.pinned (.plain (OpenSpec.ofChange handsManySpec)) handsManyCard

/-- THE TIED CARD OF 'bombardelaw46.HandsBest'. -/
def handsBestCard : Claim7 := { stood := { row := handsBestRow, standIns := [], harness := (true, "71dfa9740cb10a2467dab5fcfd3bb5f39386d4f2fe8d9029e128cc0eb7c9d05d"), looks := false }, kinds := [], alts := [], laidByText := true, laidKinds := [.data, .data, .data], laidTests := true, laidLooks := .later }
def HandsBestCardSaid : Prop := Claim7.holds Tryz.pinned (.plain (OpenSpec.ofChange handsBestSpec)) handsBestCard

/-- THE TIED CARD OF 'bombardelaw46.HandsGrows'. -/
def handsGrowsCard : Claim7 := { stood := { row := handsGrowsRow, standIns := [], harness := (true, "71dfa9740cb10a2467dab5fcfd3bb5f39386d4f2fe8d9029e128cc0eb7c9d05d"), looks := false }, kinds := [], alts := [], laidByText := true, laidKinds := [.data, .data, .data], laidTests := true, laidLooks := .later }
def HandsGrowsCardSaid : Prop := Claim7.holds Tryz.pinned (.plain (OpenSpec.ofChange handsGrowsSpec)) handsGrowsCard

/-- THE TIED CARD OF 'bombardelaw46.HandsLaws'. -/
def handsLawsCard : Claim7 := { stood := { row := handsLawsRow, standIns := [], harness := (true, "71dfa9740cb10a2467dab5fcfd3bb5f39386d4f2fe8d9029e128cc0eb7c9d05d"), looks := false }, kinds := [], alts := [], laidByText := true, laidKinds := [.data, .data, .data], laidTests := true, laidLooks := .later }
def HandsLawsCardSaid : Prop := Claim7.holds Tryz.pinned (.plain (OpenSpec.ofChange handsLawsSpec)) handsLawsCard

/-- THE TIED CARD OF 'bombardelaw46.HandsPossible'. -/
def handsPossibleCard : Claim7 := { stood := { row := handsPossibleRow, standIns := [], harness := (true, "71dfa9740cb10a2467dab5fcfd3bb5f39386d4f2fe8d9029e128cc0eb7c9d05d"), looks := false }, kinds := [], alts := [], laidByText := true, laidKinds := [.data, .data, .data], laidTests := true, laidLooks := .later }
def HandsPossibleCardSaid : Prop := Claim7.holds Tryz.pinned (.plain (OpenSpec.ofChange handsPossibleSpec)) handsPossibleCard

/-- THE TIED CARD OF 'bombardelaw46.HandsChecks'. -/
def handsChecksCard : Claim7 := { stood := { row := handsChecksRow, standIns := [], harness := (true, "71dfa9740cb10a2467dab5fcfd3bb5f39386d4f2fe8d9029e128cc0eb7c9d05d"), looks := false }, kinds := [], alts := [], laidByText := true, laidKinds := [.data, .data, .data], laidTests := true, laidLooks := .later }
def HandsChecksCardSaid : Prop := Claim7.holds Tryz.pinned (.plain (OpenSpec.ofChange handsChecksSpec)) handsChecksCard

/-- THE SECOND FORM's CARD OF 'bombardelaw46.HandsMany'. -/
def handsManyUptoCard : Claim7 := { stood := { row := handsManyUptoRow, standIns := [], harness := (true, "71dfa9740cb10a2467dab5fcfd3bb5f39386d4f2fe8d9029e128cc0eb7c9d05d"), looks := false }, kinds := [], alts := [], laidByText := true, laidKinds := [.data, .data, .data], laidTests := true, laidLooks := .later }
def HandsManyUptoCardSaid : Prop := Claim7.holds Tryz.pinned (.plain (OpenSpec.upto handsManySpec)) handsManyUptoCard

/-- THE SECOND FORM's CARD OF 'bombardelaw46.HandsBest'. -/
def handsBestUptoCard : Claim7 := { stood := { row := handsBestUptoRow, standIns := [], harness := (true, "71dfa9740cb10a2467dab5fcfd3bb5f39386d4f2fe8d9029e128cc0eb7c9d05d"), looks := false }, kinds := [], alts := [], laidByText := true, laidKinds := [.data, .data, .data], laidTests := true, laidLooks := .later }
def HandsBestUptoCardSaid : Prop := Claim7.holds Tryz.pinned (.plain (OpenSpec.upto handsBestSpec)) handsBestUptoCard

/-- THE SECOND FORM's CARD OF 'bombardelaw46.HandsGrows'. -/
def handsGrowsUptoCard : Claim7 := { stood := { row := handsGrowsUptoRow, standIns := [], harness := (true, "71dfa9740cb10a2467dab5fcfd3bb5f39386d4f2fe8d9029e128cc0eb7c9d05d"), looks := false }, kinds := [], alts := [], laidByText := true, laidKinds := [.data, .data, .data], laidTests := true, laidLooks := .later }
def HandsGrowsUptoCardSaid : Prop := Claim7.holds Tryz.pinned (.plain (OpenSpec.upto handsGrowsSpec)) handsGrowsUptoCard

/-- THE SECOND FORM's CARD OF 'bombardelaw46.HandsLaws'. -/
def handsLawsUptoCard : Claim7 := { stood := { row := handsLawsUptoRow, standIns := [], harness := (true, "71dfa9740cb10a2467dab5fcfd3bb5f39386d4f2fe8d9029e128cc0eb7c9d05d"), looks := false }, kinds := [], alts := [], laidByText := true, laidKinds := [.data, .data, .data], laidTests := true, laidLooks := .later }
def HandsLawsUptoCardSaid : Prop := Claim7.holds Tryz.pinned (.plain (OpenSpec.upto handsLawsSpec)) handsLawsUptoCard

/-- THE SECOND FORM's CARD OF 'bombardelaw46.HandsPossible'. -/
def handsPossibleUptoCard : Claim7 := { stood := { row := handsPossibleUptoRow, standIns := [], harness := (true, "71dfa9740cb10a2467dab5fcfd3bb5f39386d4f2fe8d9029e128cc0eb7c9d05d"), looks := false }, kinds := [], alts := [], laidByText := true, laidKinds := [.data, .data, .data], laidTests := true, laidLooks := .later }
def HandsPossibleUptoCardSaid : Prop := Claim7.holds Tryz.pinned (.plain (OpenSpec.upto handsPossibleSpec)) handsPossibleUptoCard

/-- THE SECOND FORM's CARD OF 'bombardelaw46.HandsChecks'. -/
def handsChecksUptoCard : Claim7 := { stood := { row := handsChecksUptoRow, standIns := [], harness := (true, "71dfa9740cb10a2467dab5fcfd3bb5f39386d4f2fe8d9029e128cc0eb7c9d05d"), looks := false }, kinds := [], alts := [], laidByText := true, laidKinds := [.data, .data, .data], laidTests := true, laidLooks := .later }
def HandsChecksUptoCardSaid : Prop := Claim7.holds Tryz.pinned (.plain (OpenSpec.upto handsChecksSpec)) handsChecksUptoCard
end Rows
end Go.Proofs.YtnjkoebfgcbbdaaGreatDoor

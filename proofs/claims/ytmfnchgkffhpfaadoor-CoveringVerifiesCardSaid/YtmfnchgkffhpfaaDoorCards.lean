/-
  DERIVED. GIVEN WITH THE SEED: THE CARDS: each row of YtmfnchgkffhpfaaDoorRows.lean that lists a variable, with what it lists TIED to the program's text (the seventh form; the later family's looks); each row that meets fmt, with fmt's text TOLD by the authors' own Lean function (tested against real Go, not proved from fmt's source: count such statements apart). THE CARD IS WHAT COUNTS. Prove the row's statement (the work); the ties are given (YtmfnchgkffhpfaaDoorTie.lean); close each card by the builder's one call (the guide's Derived/Test/ToyasCard.lean, 'card_holds'). Laid BY PROGRAM, IN A SANDBOX (cutbox-door.mjs). By AI agents, Wed Nov 11 2026. No macro, syntax, notation, axiom, sorry.
-/
import Derived.Test.YtmfnchgkffhpfaaDoorRows
import GoSem.ClaimSeven
namespace Go.Proofs.YtmfnchgkffhpfaaDoor
namespace Rows

/-- THE TIED CARD OF 'bombardelaw10.CoveringPackings'. -/
def coveringPackingsCard : Claim7 := { stood := { row := coveringPackingsRow, standIns := [], harness := (true, "82ab540c7fbe66f33c6533c802fbdc4b42efacca3faa9e32848caa34854d6f66"), looks := false }, kinds := [], alts := [], laidByText := true, laidKinds := [.data], laidTests := true, laidLooks := .later }
def CoveringPackingsCardSaid : Prop := Claim7.holds Tryd.pinned (.plain (OpenSpec.ofChange coveringPackingsSpec)) coveringPackingsCard

/-- THE TIED CARD OF 'bombardelaw10.CoveringMissing'. -/
def coveringMissingCard : Claim7 := { stood := { row := coveringMissingRow, standIns := [], harness := (true, "82ab540c7fbe66f33c6533c802fbdc4b42efacca3faa9e32848caa34854d6f66"), looks := false }, kinds := [], alts := [], laidByText := true, laidKinds := [.data], laidTests := true, laidLooks := .later }
def CoveringMissingCardSaid : Prop := Claim7.holds Tryd.pinned (.plain (OpenSpec.ofChange coveringMissingSpec)) coveringMissingCard

/-- THE TIED CARD OF 'bombardelaw10.CoveringVerifies'. -/
def coveringVerifiesCard : Claim7 := { stood := { row := coveringVerifiesRow, standIns := [], harness := (true, "82ab540c7fbe66f33c6533c802fbdc4b42efacca3faa9e32848caa34854d6f66"), looks := false }, kinds := [], alts := [], laidByText := true, laidKinds := [.data], laidTests := true, laidLooks := .later }
def CoveringVerifiesCardSaid : Prop := Claim7.holds Tryd.pinned (.plain (OpenSpec.ofChange coveringVerifiesSpec)) coveringVerifiesCard

/-- THE TIED CARD OF 'bombardelaw10.CoveringSolves'. -/
def coveringSolvesCard : Claim7 := { stood := { row := coveringSolvesRow, standIns := [], harness := (true, "82ab540c7fbe66f33c6533c802fbdc4b42efacca3faa9e32848caa34854d6f66"), looks := false }, kinds := [], alts := [], laidByText := true, laidKinds := [.data], laidTests := true, laidLooks := .later }
def CoveringSolvesCardSaid : Prop := Claim7.holds Tryd.pinned (.plain (OpenSpec.ofChange coveringSolvesSpec)) coveringSolvesCard

/-- THE TIED CARD OF 'bombardelaw10.CoveringGreedy'. -/
def coveringGreedyCard : Claim7 := { stood := { row := coveringGreedyRow, standIns := [], harness := (true, "82ab540c7fbe66f33c6533c802fbdc4b42efacca3faa9e32848caa34854d6f66"), looks := false }, kinds := [], alts := [], laidByText := true, laidKinds := [.data], laidTests := true, laidLooks := .later }
def CoveringGreedyCardSaid : Prop := Claim7.holds Tryd.pinned (.plain (OpenSpec.ofChange coveringGreedySpec)) coveringGreedyCard

/-- THE TIED CARD OF 'bombardelaw10.CoveringLaws'. -/
def coveringLawsCard : Claim7 := { stood := { row := coveringLawsRow, standIns := [], harness := (true, "82ab540c7fbe66f33c6533c802fbdc4b42efacca3faa9e32848caa34854d6f66"), looks := false }, kinds := [], alts := [], laidByText := true, laidKinds := [.data], laidTests := true, laidLooks := .later }
def CoveringLawsCardSaid : Prop := Claim7.holds Tryd.pinned (.plain (OpenSpec.ofChange coveringLawsSpec)) coveringLawsCard

/-- THE TIED CARD OF 'bombardelaw10.CoveringChecks'. -/
def coveringChecksCard : Claim7 := { stood := { row := coveringChecksRow, standIns := [], harness := (true, "82ab540c7fbe66f33c6533c802fbdc4b42efacca3faa9e32848caa34854d6f66"), looks := false }, kinds := [], alts := [], laidByText := true, laidKinds := [.data], laidTests := true, laidLooks := .later }
def CoveringChecksCardSaid : Prop := Claim7.holds Tryd.pinned (.plain (OpenSpec.ofChange coveringChecksSpec)) coveringChecksCard

/-- THE SECOND FORM's CARD OF 'bombardelaw10.CoveringPackings'. -/
def coveringPackingsUptoCard : Claim7 := { stood := { row := coveringPackingsUptoRow, standIns := [], harness := (true, "82ab540c7fbe66f33c6533c802fbdc4b42efacca3faa9e32848caa34854d6f66"), looks := false }, kinds := [], alts := [], laidByText := true, laidKinds := [.data], laidTests := true, laidLooks := .later }
def CoveringPackingsUptoCardSaid : Prop := Claim7.holds Tryd.pinned (.plain (OpenSpec.upto coveringPackingsSpec)) coveringPackingsUptoCard

/-- THE SECOND FORM's CARD OF 'bombardelaw10.CoveringMissing'. -/
def coveringMissingUptoCard : Claim7 := { stood := { row := coveringMissingUptoRow, standIns := [], harness := (true, "82ab540c7fbe66f33c6533c802fbdc4b42efacca3faa9e32848caa34854d6f66"), looks := false }, kinds := [], alts := [], laidByText := true, laidKinds := [.data], laidTests := true, laidLooks := .later }
def CoveringMissingUptoCardSaid : Prop := Claim7.holds Tryd.pinned (.plain (OpenSpec.upto coveringMissingSpec)) coveringMissingUptoCard

/-- THE SECOND FORM's CARD OF 'bombardelaw10.CoveringVerifies'. -/
def coveringVerifiesUptoCard : Claim7 := { stood := { row := coveringVerifiesUptoRow, standIns := [], harness := (true, "82ab540c7fbe66f33c6533c802fbdc4b42efacca3faa9e32848caa34854d6f66"), looks := false }, kinds := [], alts := [], laidByText := true, laidKinds := [.data], laidTests := true, laidLooks := .later }
def CoveringVerifiesUptoCardSaid : Prop := Claim7.holds Tryd.pinned (.plain (OpenSpec.upto coveringVerifiesSpec)) coveringVerifiesUptoCard

/-- THE SECOND FORM's CARD OF 'bombardelaw10.CoveringSolves'. -/
def coveringSolvesUptoCard : Claim7 := { stood := { row := coveringSolvesUptoRow, standIns := [], harness := (true, "82ab540c7fbe66f33c6533c802fbdc4b42efacca3faa9e32848caa34854d6f66"), looks := false }, kinds := [], alts := [], laidByText := true, laidKinds := [.data], laidTests := true, laidLooks := .later }
def CoveringSolvesUptoCardSaid : Prop := Claim7.holds Tryd.pinned (.plain (OpenSpec.upto coveringSolvesSpec)) coveringSolvesUptoCard

/-- THE SECOND FORM's CARD OF 'bombardelaw10.CoveringGreedy'. -/
def coveringGreedyUptoCard : Claim7 := { stood := { row := coveringGreedyUptoRow, standIns := [], harness := (true, "82ab540c7fbe66f33c6533c802fbdc4b42efacca3faa9e32848caa34854d6f66"), looks := false }, kinds := [], alts := [], laidByText := true, laidKinds := [.data], laidTests := true, laidLooks := .later }
def CoveringGreedyUptoCardSaid : Prop := Claim7.holds Tryd.pinned (.plain (OpenSpec.upto coveringGreedySpec)) coveringGreedyUptoCard

/-- THE SECOND FORM's CARD OF 'bombardelaw10.CoveringLaws'. -/
def coveringLawsUptoCard : Claim7 := { stood := { row := coveringLawsUptoRow, standIns := [], harness := (true, "82ab540c7fbe66f33c6533c802fbdc4b42efacca3faa9e32848caa34854d6f66"), looks := false }, kinds := [], alts := [], laidByText := true, laidKinds := [.data], laidTests := true, laidLooks := .later }
def CoveringLawsUptoCardSaid : Prop := Claim7.holds Tryd.pinned (.plain (OpenSpec.upto coveringLawsSpec)) coveringLawsUptoCard

/-- THE SECOND FORM's CARD OF 'bombardelaw10.CoveringChecks'. -/
def coveringChecksUptoCard : Claim7 := { stood := { row := coveringChecksUptoRow, standIns := [], harness := (true, "82ab540c7fbe66f33c6533c802fbdc4b42efacca3faa9e32848caa34854d6f66"), looks := false }, kinds := [], alts := [], laidByText := true, laidKinds := [.data], laidTests := true, laidLooks := .later }
def CoveringChecksUptoCardSaid : Prop := Claim7.holds Tryd.pinned (.plain (OpenSpec.upto coveringChecksSpec)) coveringChecksUptoCard
end Rows
end Go.Proofs.YtmfnchgkffhpfaaDoor

/-
  DERIVED. GIVEN WITH THE SEED: THE CARDS: each row of YtemfebbakfhknaaDoorRows.lean that lists a variable, with what it lists TIED to the program's text (the seventh form; the later family's looks); each row that meets fmt, with fmt's text TOLD by the authors' own Lean function (tested against real Go, not proved from fmt's source: count such statements apart). THE CARD IS WHAT COUNTS. Prove the row's statement (the work); the ties are given (YtemfebbakfhknaaDoorTie.lean); close each card by the builder's one call (the guide's Derived/Test/ToyasCard.lean, 'card_holds'). Laid BY PROGRAM, IN A SANDBOX (cutbox-door.mjs). By AI agents, Wed Nov 11 2026. No macro, syntax, notation, axiom, sorry.
-/
import Derived.Test.YtemfebbakfhknaaDoorRows
import GoSem.ClaimSeven
namespace Go.Proofs.YtemfebbakfhknaaDoor
namespace Rows

/-- THE TIED CARD OF 'bombardelaw44.ScalingValues'. -/
def scalingValuesCard : Claim7 := { stood := { row := scalingValuesRow, standIns := [], harness := (true, "52ffca95a5c8777215f4428796fcd92621f0ee07534763257c046d17b82fe7b0"), looks := false }, kinds := [], alts := [], laidByText := true, laidKinds := [.data, .data, .data], laidTests := true, laidLooks := .later }
def ScalingValuesCardSaid : Prop := Claim7.holds Tryd.pinned (.plain (OpenSpec.ofChange scalingValuesSpec)) scalingValuesCard

/-- THE TIED CARD OF 'bombardelaw44.ScalingHalvings'. -/
def scalingHalvingsCard : Claim7 := { stood := { row := scalingHalvingsRow, standIns := [], harness := (true, "52ffca95a5c8777215f4428796fcd92621f0ee07534763257c046d17b82fe7b0"), looks := false }, kinds := [], alts := [], laidByText := true, laidKinds := [.data, .data, .data], laidTests := true, laidLooks := .later }
def ScalingHalvingsCardSaid : Prop := Claim7.holds Tryd.pinned (.plain (OpenSpec.ofChange scalingHalvingsSpec)) scalingHalvingsCard

/-- THE TIED CARD OF 'bombardelaw44.ScalingLengths'. -/
def scalingLengthsCard : Claim7 := { stood := { row := scalingLengthsRow, standIns := [], harness := (true, "52ffca95a5c8777215f4428796fcd92621f0ee07534763257c046d17b82fe7b0"), looks := false }, kinds := [], alts := [], laidByText := true, laidKinds := [.data, .data, .data], laidTests := true, laidLooks := .later }
def ScalingLengthsCardSaid : Prop := Claim7.holds Tryd.pinned (.plain (OpenSpec.ofChange scalingLengthsSpec)) scalingLengthsCard

/-- THE TIED CARD OF 'bombardelaw44.ScalingOctaves'. -/
def scalingOctavesCard : Claim7 := { stood := { row := scalingOctavesRow, standIns := [], harness := (true, "52ffca95a5c8777215f4428796fcd92621f0ee07534763257c046d17b82fe7b0"), looks := false }, kinds := [], alts := [], laidByText := true, laidKinds := [.data, .data, .data], laidTests := true, laidLooks := .later }
def ScalingOctavesCardSaid : Prop := Claim7.holds Tryd.pinned (.plain (OpenSpec.ofChange scalingOctavesSpec)) scalingOctavesCard

/-- THE TIED CARD OF 'bombardelaw44.ScalingFirsts'. -/
def scalingFirstsCard : Claim7 := { stood := { row := scalingFirstsRow, standIns := [], harness := (true, "52ffca95a5c8777215f4428796fcd92621f0ee07534763257c046d17b82fe7b0"), looks := false }, kinds := [], alts := [], laidByText := true, laidKinds := [.data, .data, .data], laidTests := true, laidLooks := .later }
def ScalingFirstsCardSaid : Prop := Claim7.holds Tryd.pinned (.plain (OpenSpec.ofChange scalingFirstsSpec)) scalingFirstsCard

/-- THE TIED CARD OF 'bombardelaw44.ScalingWider'. -/
def scalingWiderCard : Claim7 := { stood := { row := scalingWiderRow, standIns := [], harness := (true, "52ffca95a5c8777215f4428796fcd92621f0ee07534763257c046d17b82fe7b0"), looks := false }, kinds := [], alts := [], laidByText := true, laidKinds := [.data, .data, .data], laidTests := true, laidLooks := .later }
def ScalingWiderCardSaid : Prop := Claim7.holds Tryd.pinned (.plain (OpenSpec.ofChange scalingWiderSpec)) scalingWiderCard

/-- THE TIED CARD OF 'bombardelaw44.ScalingFalls'. -/
def scalingFallsCard : Claim7 := { stood := { row := scalingFallsRow, standIns := [], harness := (true, "52ffca95a5c8777215f4428796fcd92621f0ee07534763257c046d17b82fe7b0"), looks := false }, kinds := [], alts := [], laidByText := true, laidKinds := [.data, .data, .data], laidTests := true, laidLooks := .later }
def ScalingFallsCardSaid : Prop := Claim7.holds Tryd.pinned (.plain (OpenSpec.ofChange scalingFallsSpec)) scalingFallsCard

/-- THE TIED CARD OF 'bombardelaw44.ScalingTables'. -/
def scalingTablesCard : Claim7 := { stood := { row := scalingTablesRow, standIns := [], harness := (true, "52ffca95a5c8777215f4428796fcd92621f0ee07534763257c046d17b82fe7b0"), looks := false }, kinds := [], alts := [], laidByText := true, laidKinds := [.data, .data, .data], laidTests := true, laidLooks := .later }
def ScalingTablesCardSaid : Prop := Claim7.holds Tryd.pinned (.plain (OpenSpec.ofChange scalingTablesSpec)) scalingTablesCard

/-- THE TIED CARD OF 'bombardelaw44.ScalingChecks'. -/
def scalingChecksCard : Claim7 := { stood := { row := scalingChecksRow, standIns := [], harness := (true, "52ffca95a5c8777215f4428796fcd92621f0ee07534763257c046d17b82fe7b0"), looks := false }, kinds := [], alts := [], laidByText := true, laidKinds := [.data, .data, .data], laidTests := true, laidLooks := .later }
def ScalingChecksCardSaid : Prop := Claim7.holds Tryd.pinned (.plain (OpenSpec.ofChange scalingChecksSpec)) scalingChecksCard

/-- THE SECOND FORM's CARD OF 'bombardelaw44.ScalingValues'. -/
def scalingValuesUptoCard : Claim7 := { stood := { row := scalingValuesUptoRow, standIns := [], harness := (true, "52ffca95a5c8777215f4428796fcd92621f0ee07534763257c046d17b82fe7b0"), looks := false }, kinds := [], alts := [], laidByText := true, laidKinds := [.data, .data, .data], laidTests := true, laidLooks := .later }
def ScalingValuesUptoCardSaid : Prop := Claim7.holds Tryd.pinned (.plain (OpenSpec.upto scalingValuesSpec)) scalingValuesUptoCard

/-- THE SECOND FORM's CARD OF 'bombardelaw44.ScalingHalvings'. -/
def scalingHalvingsUptoCard : Claim7 := { stood := { row := scalingHalvingsUptoRow, standIns := [], harness := (true, "52ffca95a5c8777215f4428796fcd92621f0ee07534763257c046d17b82fe7b0"), looks := false }, kinds := [], alts := [], laidByText := true, laidKinds := [.data, .data, .data], laidTests := true, laidLooks := .later }
def ScalingHalvingsUptoCardSaid : Prop := Claim7.holds Tryd.pinned (.plain (OpenSpec.upto scalingHalvingsSpec)) scalingHalvingsUptoCard

/-- THE SECOND FORM's CARD OF 'bombardelaw44.ScalingLengths'. -/
def scalingLengthsUptoCard : Claim7 := { stood := { row := scalingLengthsUptoRow, standIns := [], harness := (true, "52ffca95a5c8777215f4428796fcd92621f0ee07534763257c046d17b82fe7b0"), looks := false }, kinds := [], alts := [], laidByText := true, laidKinds := [.data, .data, .data], laidTests := true, laidLooks := .later }
def ScalingLengthsUptoCardSaid : Prop := Claim7.holds Tryd.pinned (.plain (OpenSpec.upto scalingLengthsSpec)) scalingLengthsUptoCard

/-- THE SECOND FORM's CARD OF 'bombardelaw44.ScalingOctaves'. -/
def scalingOctavesUptoCard : Claim7 := { stood := { row := scalingOctavesUptoRow, standIns := [], harness := (true, "52ffca95a5c8777215f4428796fcd92621f0ee07534763257c046d17b82fe7b0"), looks := false }, kinds := [], alts := [], laidByText := true, laidKinds := [.data, .data, .data], laidTests := true, laidLooks := .later }
def ScalingOctavesUptoCardSaid : Prop := Claim7.holds Tryd.pinned (.plain (OpenSpec.upto scalingOctavesSpec)) scalingOctavesUptoCard

/-- THE SECOND FORM's CARD OF 'bombardelaw44.ScalingFirsts'. -/
def scalingFirstsUptoCard : Claim7 := { stood := { row := scalingFirstsUptoRow, standIns := [], harness := (true, "52ffca95a5c8777215f4428796fcd92621f0ee07534763257c046d17b82fe7b0"), looks := false }, kinds := [], alts := [], laidByText := true, laidKinds := [.data, .data, .data], laidTests := true, laidLooks := .later }
def ScalingFirstsUptoCardSaid : Prop := Claim7.holds Tryd.pinned (.plain (OpenSpec.upto scalingFirstsSpec)) scalingFirstsUptoCard

/-- THE SECOND FORM's CARD OF 'bombardelaw44.ScalingWider'. -/
def scalingWiderUptoCard : Claim7 := { stood := { row := scalingWiderUptoRow, standIns := [], harness := (true, "52ffca95a5c8777215f4428796fcd92621f0ee07534763257c046d17b82fe7b0"), looks := false }, kinds := [], alts := [], laidByText := true, laidKinds := [.data, .data, .data], laidTests := true, laidLooks := .later }
def ScalingWiderUptoCardSaid : Prop := Claim7.holds Tryd.pinned (.plain (OpenSpec.upto scalingWiderSpec)) scalingWiderUptoCard

/-- THE SECOND FORM's CARD OF 'bombardelaw44.ScalingFalls'. -/
def scalingFallsUptoCard : Claim7 := { stood := { row := scalingFallsUptoRow, standIns := [], harness := (true, "52ffca95a5c8777215f4428796fcd92621f0ee07534763257c046d17b82fe7b0"), looks := false }, kinds := [], alts := [], laidByText := true, laidKinds := [.data, .data, .data], laidTests := true, laidLooks := .later }
def ScalingFallsUptoCardSaid : Prop := Claim7.holds Tryd.pinned (.plain (OpenSpec.upto scalingFallsSpec)) scalingFallsUptoCard

/-- THE SECOND FORM's CARD OF 'bombardelaw44.ScalingTables'. -/
def scalingTablesUptoCard : Claim7 := { stood := { row := scalingTablesUptoRow, standIns := [], harness := (true, "52ffca95a5c8777215f4428796fcd92621f0ee07534763257c046d17b82fe7b0"), looks := false }, kinds := [], alts := [], laidByText := true, laidKinds := [.data, .data, .data], laidTests := true, laidLooks := .later }
def ScalingTablesUptoCardSaid : Prop := Claim7.holds Tryd.pinned (.plain (OpenSpec.upto scalingTablesSpec)) scalingTablesUptoCard

/-- THE SECOND FORM's CARD OF 'bombardelaw44.ScalingChecks'. -/
def scalingChecksUptoCard : Claim7 := { stood := { row := scalingChecksUptoRow, standIns := [], harness := (true, "52ffca95a5c8777215f4428796fcd92621f0ee07534763257c046d17b82fe7b0"), looks := false }, kinds := [], alts := [], laidByText := true, laidKinds := [.data, .data, .data], laidTests := true, laidLooks := .later }
def ScalingChecksUptoCardSaid : Prop := Claim7.holds Tryd.pinned (.plain (OpenSpec.upto scalingChecksSpec)) scalingChecksUptoCard
end Rows
end Go.Proofs.YtemfebbakfhknaaDoor

/-
  DERIVED. GIVEN WITH THE SEED: THE CARDS: each row of YtabjkjgpaahbhaaDoorRows.lean that lists a variable, with what it lists TIED to the program's text (the seventh form; the later family's looks); each row that meets fmt, with fmt's text TOLD by the authors' own Lean function (tested against real Go, not proved from fmt's source: count such statements apart). THE CARD IS WHAT COUNTS. Prove the row's statement (the work); the ties are given (YtabjkjgpaahbhaaDoorTie.lean); close each card by the builder's one call (the guide's Derived/Test/ToyasCard.lean, 'card_holds'). Laid BY PROGRAM, IN A SANDBOX (cutbox-door.mjs). By AI agents, Wed Nov 11 2026. No macro, syntax, notation, axiom, sorry.
-/
import Derived.Test.YtabjkjgpaahbhaaDoorRows
import GoSem.ClaimSeven
namespace Go.Proofs.YtabjkjgpaahbhaaDoor
namespace Rows

/-- THE TIED CARD OF 'bombardelaw14.RankSounds'. -/
def rankSoundsCard : Claim7 := { stood := { row := rankSoundsRow, standIns := [], harness := (true, "c1e8e99e7650f1832ee582a9097e7f4fecb30993aa831369d916011cc0a65be4"), looks := false }, kinds := [], alts := [], laidByText := true, laidKinds := [.data, .data, .data], laidTests := true, laidLooks := .later }
def RankSoundsCardSaid : Prop := Claim7.holds Tryd.pinned (.plain (OpenSpec.ofChange rankSoundsSpec)) rankSoundsCard

/-- THE TIED CARD OF 'bombardelaw14.RankRepitches'. -/
def rankRepitchesCard : Claim7 := { stood := { row := rankRepitchesRow, standIns := [], harness := (true, "c1e8e99e7650f1832ee582a9097e7f4fecb30993aa831369d916011cc0a65be4"), looks := false }, kinds := [], alts := [], laidByText := true, laidKinds := [.data, .data, .data], laidTests := true, laidLooks := .later }
def RankRepitchesCardSaid : Prop := Claim7.holds Tryd.pinned (.plain (OpenSpec.ofChange rankRepitchesSpec)) rankRepitchesCard

/-- THE TIED CARD OF 'bombardelaw14.RankAdds'. -/
def rankAddsCard : Claim7 := { stood := { row := rankAddsRow, standIns := [], harness := (true, "c1e8e99e7650f1832ee582a9097e7f4fecb30993aa831369d916011cc0a65be4"), looks := false }, kinds := [], alts := [], laidByText := true, laidKinds := [.data, .data, .data], laidTests := true, laidLooks := .later }
def RankAddsCardSaid : Prop := Claim7.holds Tryd.pinned (.plain (OpenSpec.ofChange rankAddsSpec)) rankAddsCard

/-- THE TIED CARD OF 'bombardelaw14.RankEquals'. -/
def rankEqualsCard : Claim7 := { stood := { row := rankEqualsRow, standIns := [], harness := (true, "c1e8e99e7650f1832ee582a9097e7f4fecb30993aa831369d916011cc0a65be4"), looks := false }, kinds := [], alts := [], laidByText := true, laidKinds := [.data, .data, .data], laidTests := true, laidLooks := .later }
def RankEqualsCardSaid : Prop := Claim7.holds Tryd.pinned (.plain (OpenSpec.ofChange rankEqualsSpec)) rankEqualsCard

/-- THE TIED CARD OF 'bombardelaw14.RankPipes'. -/
def rankPipesCard : Claim7 := { stood := { row := rankPipesRow, standIns := [], harness := (true, "c1e8e99e7650f1832ee582a9097e7f4fecb30993aa831369d916011cc0a65be4"), looks := false }, kinds := [], alts := [], laidByText := true, laidKinds := [.data, .data, .data], laidTests := true, laidLooks := .later }
def RankPipesCardSaid : Prop := Claim7.holds Tryd.pinned (.plain (OpenSpec.ofChange rankPipesSpec)) rankPipesCard

/-- THE TIED CARD OF 'bombardelaw14.RankSlices'. -/
def rankSlicesCard : Claim7 := { stood := { row := rankSlicesRow, standIns := [], harness := (true, "c1e8e99e7650f1832ee582a9097e7f4fecb30993aa831369d916011cc0a65be4"), looks := false }, kinds := [], alts := [], laidByText := true, laidKinds := [.data, .data, .data], laidTests := true, laidLooks := .later }
def RankSlicesCardSaid : Prop := Claim7.holds Tryd.pinned (.plain (OpenSpec.ofChange rankSlicesSpec)) rankSlicesCard

/-- THE TIED CARD OF 'bombardelaw14.RankJoins'. -/
def rankJoinsCard : Claim7 := { stood := { row := rankJoinsRow, standIns := [], harness := (true, "c1e8e99e7650f1832ee582a9097e7f4fecb30993aa831369d916011cc0a65be4"), looks := false }, kinds := [], alts := [], laidByText := true, laidKinds := [.data, .data, .data], laidTests := true, laidLooks := .later }
def RankJoinsCardSaid : Prop := Claim7.holds Tryd.pinned (.plain (OpenSpec.ofChange rankJoinsSpec)) rankJoinsCard

/-- THE TIED CARD OF 'bombardelaw14.RankChecks'. -/
def rankChecksCard : Claim7 := { stood := { row := rankChecksRow, standIns := [], harness := (true, "c1e8e99e7650f1832ee582a9097e7f4fecb30993aa831369d916011cc0a65be4"), looks := false }, kinds := [], alts := [], laidByText := true, laidKinds := [.data, .data, .data], laidTests := true, laidLooks := .later }
def RankChecksCardSaid : Prop := Claim7.holds Tryd.pinned (.plain (OpenSpec.ofChange rankChecksSpec)) rankChecksCard

/-- THE SECOND FORM's CARD OF 'bombardelaw14.RankSounds'. -/
def rankSoundsUptoCard : Claim7 := { stood := { row := rankSoundsUptoRow, standIns := [], harness := (true, "c1e8e99e7650f1832ee582a9097e7f4fecb30993aa831369d916011cc0a65be4"), looks := false }, kinds := [], alts := [], laidByText := true, laidKinds := [.data, .data, .data], laidTests := true, laidLooks := .later }
def RankSoundsUptoCardSaid : Prop := Claim7.holds Tryd.pinned (.plain (OpenSpec.upto rankSoundsSpec)) rankSoundsUptoCard

/-- THE SECOND FORM's CARD OF 'bombardelaw14.RankRepitches'. -/
def rankRepitchesUptoCard : Claim7 := { stood := { row := rankRepitchesUptoRow, standIns := [], harness := (true, "c1e8e99e7650f1832ee582a9097e7f4fecb30993aa831369d916011cc0a65be4"), looks := false }, kinds := [], alts := [], laidByText := true, laidKinds := [.data, .data, .data], laidTests := true, laidLooks := .later }
def RankRepitchesUptoCardSaid : Prop := Claim7.holds Tryd.pinned (.plain (OpenSpec.upto rankRepitchesSpec)) rankRepitchesUptoCard

/-- THE SECOND FORM's CARD OF 'bombardelaw14.RankAdds'. -/
def rankAddsUptoCard : Claim7 := { stood := { row := rankAddsUptoRow, standIns := [], harness := (true, "c1e8e99e7650f1832ee582a9097e7f4fecb30993aa831369d916011cc0a65be4"), looks := false }, kinds := [], alts := [], laidByText := true, laidKinds := [.data, .data, .data], laidTests := true, laidLooks := .later }
def RankAddsUptoCardSaid : Prop := Claim7.holds Tryd.pinned (.plain (OpenSpec.upto rankAddsSpec)) rankAddsUptoCard

/-- THE SECOND FORM's CARD OF 'bombardelaw14.RankEquals'. -/
def rankEqualsUptoCard : Claim7 := { stood := { row := rankEqualsUptoRow, standIns := [], harness := (true, "c1e8e99e7650f1832ee582a9097e7f4fecb30993aa831369d916011cc0a65be4"), looks := false }, kinds := [], alts := [], laidByText := true, laidKinds := [.data, .data, .data], laidTests := true, laidLooks := .later }
def RankEqualsUptoCardSaid : Prop := Claim7.holds Tryd.pinned (.plain (OpenSpec.upto rankEqualsSpec)) rankEqualsUptoCard

/-- THE SECOND FORM's CARD OF 'bombardelaw14.RankPipes'. -/
def rankPipesUptoCard : Claim7 := { stood := { row := rankPipesUptoRow, standIns := [], harness := (true, "c1e8e99e7650f1832ee582a9097e7f4fecb30993aa831369d916011cc0a65be4"), looks := false }, kinds := [], alts := [], laidByText := true, laidKinds := [.data, .data, .data], laidTests := true, laidLooks := .later }
def RankPipesUptoCardSaid : Prop := Claim7.holds Tryd.pinned (.plain (OpenSpec.upto rankPipesSpec)) rankPipesUptoCard

/-- THE SECOND FORM's CARD OF 'bombardelaw14.RankSlices'. -/
def rankSlicesUptoCard : Claim7 := { stood := { row := rankSlicesUptoRow, standIns := [], harness := (true, "c1e8e99e7650f1832ee582a9097e7f4fecb30993aa831369d916011cc0a65be4"), looks := false }, kinds := [], alts := [], laidByText := true, laidKinds := [.data, .data, .data], laidTests := true, laidLooks := .later }
def RankSlicesUptoCardSaid : Prop := Claim7.holds Tryd.pinned (.plain (OpenSpec.upto rankSlicesSpec)) rankSlicesUptoCard

/-- THE SECOND FORM's CARD OF 'bombardelaw14.RankJoins'. -/
def rankJoinsUptoCard : Claim7 := { stood := { row := rankJoinsUptoRow, standIns := [], harness := (true, "c1e8e99e7650f1832ee582a9097e7f4fecb30993aa831369d916011cc0a65be4"), looks := false }, kinds := [], alts := [], laidByText := true, laidKinds := [.data, .data, .data], laidTests := true, laidLooks := .later }
def RankJoinsUptoCardSaid : Prop := Claim7.holds Tryd.pinned (.plain (OpenSpec.upto rankJoinsSpec)) rankJoinsUptoCard

/-- THE SECOND FORM's CARD OF 'bombardelaw14.RankChecks'. -/
def rankChecksUptoCard : Claim7 := { stood := { row := rankChecksUptoRow, standIns := [], harness := (true, "c1e8e99e7650f1832ee582a9097e7f4fecb30993aa831369d916011cc0a65be4"), looks := false }, kinds := [], alts := [], laidByText := true, laidKinds := [.data, .data, .data], laidTests := true, laidLooks := .later }
def RankChecksUptoCardSaid : Prop := Claim7.holds Tryd.pinned (.plain (OpenSpec.upto rankChecksSpec)) rankChecksUptoCard
end Rows
end Go.Proofs.YtabjkjgpaahbhaaDoor

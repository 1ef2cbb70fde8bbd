/-
  DERIVED. GIVEN WITH THE SEED: THE CARDS: each row of YthlffjlbidibdaaGreatDoorRows.lean that lists a variable, with what it lists TIED to the program's text (the seventh form; the later family's looks); each row that meets fmt, with fmt's text TOLD by the authors' own Lean function (tested against real Go, not proved from fmt's source: count such statements apart). THE CARD IS WHAT COUNTS. Prove the row's statement (the work); the ties are given (YthlffjlbidibdaaGreatDoorTie.lean); close each card by the builder's one call (the guide's Derived/Test/ToyasCard.lean, 'card_holds'). Laid BY PROGRAM, IN A SANDBOX (cutbox-door.mjs). By AI agents, Wed Nov 11 2026. No macro, syntax, notation, axiom, sorry.
-/
import Derived.Test.YthlffjlbidibdaaGreatDoorRows
import GoSem.ClaimSeven
namespace Go.Proofs.YthlffjlbidibdaaGreatDoor
namespace Rows

/-- THE TIED CARD OF 'bombardetop.TopHandsReach'. -/
def topHandsReachCard : Claim7 := { stood := { row := topHandsReachRow, standIns := [], harness := (true, "77fa8168c383c01d1b1f538b8777f86b8779b61528ebfb899181d3c7c0bd81a8"), looks := false }, kinds := [], alts := [], laidByText := true, laidKinds := [.data, .data, .data], laidTests := true, laidLooks := .later }
def TopHandsReachCardSaid : Prop := Claim7.holds Tryz.pinned (.plain (OpenSpec.ofChange topHandsReachSpec)) topHandsReachCard

/-- THE SECOND FORM's CARD OF 'bombardetop.TopHandsReach'. -/
def topHandsReachUptoCard : Claim7 := { stood := { row := topHandsReachUptoRow, standIns := [], harness := (true, "77fa8168c383c01d1b1f538b8777f86b8779b61528ebfb899181d3c7c0bd81a8"), looks := false }, kinds := [], alts := [], laidByText := true, laidKinds := [.data, .data, .data], laidTests := true, laidLooks := .later }
def TopHandsReachUptoCardSaid : Prop := Claim7.holds Tryz.pinned (.plain (OpenSpec.upto topHandsReachSpec)) topHandsReachUptoCard
end Rows
end Go.Proofs.YthlffjlbidibdaaGreatDoor

/-
  NARROWER THAN 'FOR EVERY INPUT', by the rows' own cells (each row's printed sentence says how): CoveringPackings: laid · CoveringMissing: laid · CoveringVerifies: laid · CoveringSolves: laid · CoveringGreedy: laid · CoveringLaws: laid · CoveringChecks: laid.
  DERIVED. THE GIVEN ROWS OF THIS SEAT. 7 by the template 'for every input the law returns true; each argument reads behind the call as it read before'; 0 by the template 'total and deterministic' (their statements: YtmfnchgkffhpfaaDoorTotals.lean).
  GIVEN WITH THE SEED: the statements are not yours to turn. If you find one false, say at which input.
  Laid BY PROGRAM, IN A SANDBOX (cutbox-rows.mjs): the forced cells as the released guide's own fill.sh prints them over the translation b0e729cdc07dd6c5… (all of the seat's roots in one cut). By AI agents, Wed Nov 11 2026. No macro, syntax, notation, axiom, sorry.
-/
import Derived.Test.YtmfnchgkffhpfaaDoorChecked
import GoSem.Claim
import GoSem.ClaimJoined
import GoSem.ClaimMapViews
import Derived.JoinedTies
import Derived.KernelRfl
namespace Go.Proofs.YtmfnchgkffhpfaaDoor
/- THE CELL 'sum', in the pinned program and in every row, IS THE sha256 OF THE DUMP (.gsa) THAT YtmfnchgkffhpfaaDoorProg.lean LOADS. Nothing in Lean hashes anything: it is a label: what it is worth is what the hold of that sum in a sandbox is worth. -/
noncomputable def Tryd.pinned : Pinned := { name := "ytmfnchgkffhpfaadoor", sum := "b0e729cdc07dd6c51a030e3989f180725d4a536eaf0eaae0de264cc101feca41", checked := Tryd.checked }
namespace Rows
def none {H : Type} : Left H := { results := [], args := [] }

/- WHAT THE LISTED PACKAGE-LEVEL VARIABLES READ AS WHEN THE CALL BEGINS. Each datum BY PROGRAM (the guide's laid-datum.mjs) off the statement by which the dump's own 'gosem.cut.vars' lays the variable. In a bare row this is a premise. The card (YtmfnchgkffhpfaaDoorCards.lean) ties it to the program's text. -/
def laid_math_bits_deBruijn64tab {H : Type} : DataW H := .agg [.lit (.int .u8 0), .lit (.int .u8 1), .lit (.int .u8 56), .lit (.int .u8 2), .lit (.int .u8 57), .lit (.int .u8 49), .lit (.int .u8 28), .lit (.int .u8 3), .lit (.int .u8 61), .lit (.int .u8 58), .lit (.int .u8 42), .lit (.int .u8 50), .lit (.int .u8 38), .lit (.int .u8 29), .lit (.int .u8 17), .lit (.int .u8 4), .lit (.int .u8 62), .lit (.int .u8 47), .lit (.int .u8 59), .lit (.int .u8 36), .lit (.int .u8 45), .lit (.int .u8 43), .lit (.int .u8 51), .lit (.int .u8 22), .lit (.int .u8 53), .lit (.int .u8 39), .lit (.int .u8 33), .lit (.int .u8 30), .lit (.int .u8 24), .lit (.int .u8 18), .lit (.int .u8 12), .lit (.int .u8 5), .lit (.int .u8 63), .lit (.int .u8 55), .lit (.int .u8 48), .lit (.int .u8 27), .lit (.int .u8 60), .lit (.int .u8 41), .lit (.int .u8 37), .lit (.int .u8 16), .lit (.int .u8 46), .lit (.int .u8 35), .lit (.int .u8 44), .lit (.int .u8 21), .lit (.int .u8 52), .lit (.int .u8 32), .lit (.int .u8 23), .lit (.int .u8 11), .lit (.int .u8 54), .lit (.int .u8 26), .lit (.int .u8 40), .lit (.int .u8 15), .lit (.int .u8 34), .lit (.int .u8 20), .lit (.int .u8 31), .lit (.int .u8 10), .lit (.int .u8 25), .lit (.int .u8 14), .lit (.int .u8 19), .lit (.int .u8 9), .lit (.int .u8 13), .lit (.int .u8 8), .lit (.int .u8 7), .lit (.int .u8 6)]

/-- 'bombardelaw10.CoveringPackings': WHATEVER THE INPUT: true; the input reads as it did. -/
def coveringPackingsSpec : ChangeSpec := { name := "coveringPackings", fn := fun _ => fun
  | [d1, d2] => { results := [.lit (.bool true)], args := [d1, d2] }
  | _ => none }
def coveringPackingsRow : OpenClaim := { program := "ytmfnchgkffhpfaadoor", sum := "b0e729cdc07dd6c51a030e3989f180725d4a536eaf0eaae0de264cc101feca41", func := "bombarde/bombardelaw10.CoveringPackings", spec := "coveringPackings", unfollowed := true, recurses := true, named := ["math/bits.deBruijn64tab"], apart := false, laid := [("math/bits.deBruijn64tab", laid_math_bits_deBruijn64tab)] }
def CoveringPackingsSaid : Prop := coveringPackingsRow.holds Tryd.pinned (OpenSpec.ofChange coveringPackingsSpec)

/-- ITS FALSE NEIGHBOUR: 'it returns false'. Refute it at one input. -/
def coveringPackingsWrong : ChangeSpec := { name := "coveringPackings", fn := fun _ => fun
  | [d1, d2] => { results := [.lit (.bool false)], args := [d1, d2] }
  | _ => none }
def CoveringPackingsWrongFalsely : Prop := coveringPackingsRow.holds Tryd.pinned (OpenSpec.ofChange coveringPackingsWrong)

/-- 'bombardelaw10.CoveringMissing': WHATEVER THE INPUT: true; the input reads as it did. -/
def coveringMissingSpec : ChangeSpec := { name := "coveringMissing", fn := fun _ => fun
  | [d1, d2] => { results := [.lit (.bool true)], args := [d1, d2] }
  | _ => none }
def coveringMissingRow : OpenClaim := { program := "ytmfnchgkffhpfaadoor", sum := "b0e729cdc07dd6c51a030e3989f180725d4a536eaf0eaae0de264cc101feca41", func := "bombarde/bombardelaw10.CoveringMissing", spec := "coveringMissing", unfollowed := true, recurses := true, named := ["math/bits.deBruijn64tab"], apart := false, laid := [("math/bits.deBruijn64tab", laid_math_bits_deBruijn64tab)] }
def CoveringMissingSaid : Prop := coveringMissingRow.holds Tryd.pinned (OpenSpec.ofChange coveringMissingSpec)

/-- ITS FALSE NEIGHBOUR: 'it returns false'. Refute it at one input. -/
def coveringMissingWrong : ChangeSpec := { name := "coveringMissing", fn := fun _ => fun
  | [d1, d2] => { results := [.lit (.bool false)], args := [d1, d2] }
  | _ => none }
def CoveringMissingWrongFalsely : Prop := coveringMissingRow.holds Tryd.pinned (OpenSpec.ofChange coveringMissingWrong)

/-- 'bombardelaw10.CoveringVerifies': WHATEVER THE INPUT: true; the input reads as it did. -/
def coveringVerifiesSpec : ChangeSpec := { name := "coveringVerifies", fn := fun _ => fun
  | [d1, d2] => { results := [.lit (.bool true)], args := [d1, d2] }
  | _ => none }
def coveringVerifiesRow : OpenClaim := { program := "ytmfnchgkffhpfaadoor", sum := "b0e729cdc07dd6c51a030e3989f180725d4a536eaf0eaae0de264cc101feca41", func := "bombarde/bombardelaw10.CoveringVerifies", spec := "coveringVerifies", unfollowed := true, recurses := true, named := ["math/bits.deBruijn64tab"], apart := false, laid := [("math/bits.deBruijn64tab", laid_math_bits_deBruijn64tab)] }
def CoveringVerifiesSaid : Prop := coveringVerifiesRow.holds Tryd.pinned (OpenSpec.ofChange coveringVerifiesSpec)

/-- ITS FALSE NEIGHBOUR: 'it returns false'. Refute it at one input. -/
def coveringVerifiesWrong : ChangeSpec := { name := "coveringVerifies", fn := fun _ => fun
  | [d1, d2] => { results := [.lit (.bool false)], args := [d1, d2] }
  | _ => none }
def CoveringVerifiesWrongFalsely : Prop := coveringVerifiesRow.holds Tryd.pinned (OpenSpec.ofChange coveringVerifiesWrong)

/-- 'bombardelaw10.CoveringSolves': WHATEVER THE INPUT: true; the input reads as it did. -/
def coveringSolvesSpec : ChangeSpec := { name := "coveringSolves", fn := fun _ => fun
  | [d] => { results := [.lit (.bool true)], args := [d] }
  | _ => none }
def coveringSolvesRow : OpenClaim := { program := "ytmfnchgkffhpfaadoor", sum := "b0e729cdc07dd6c51a030e3989f180725d4a536eaf0eaae0de264cc101feca41", func := "bombarde/bombardelaw10.CoveringSolves", spec := "coveringSolves", unfollowed := true, recurses := true, named := ["math/bits.deBruijn64tab"], apart := false, laid := [("math/bits.deBruijn64tab", laid_math_bits_deBruijn64tab)] }
def CoveringSolvesSaid : Prop := coveringSolvesRow.holds Tryd.pinned (OpenSpec.ofChange coveringSolvesSpec)

/-- ITS FALSE NEIGHBOUR: 'it returns false'. Refute it at one input. -/
def coveringSolvesWrong : ChangeSpec := { name := "coveringSolves", fn := fun _ => fun
  | [d] => { results := [.lit (.bool false)], args := [d] }
  | _ => none }
def CoveringSolvesWrongFalsely : Prop := coveringSolvesRow.holds Tryd.pinned (OpenSpec.ofChange coveringSolvesWrong)

/-- 'bombardelaw10.CoveringGreedy': WHATEVER THE INPUT: true; the input reads as it did. -/
def coveringGreedySpec : ChangeSpec := { name := "coveringGreedy", fn := fun _ => fun
  | [d] => { results := [.lit (.bool true)], args := [d] }
  | _ => none }
def coveringGreedyRow : OpenClaim := { program := "ytmfnchgkffhpfaadoor", sum := "b0e729cdc07dd6c51a030e3989f180725d4a536eaf0eaae0de264cc101feca41", func := "bombarde/bombardelaw10.CoveringGreedy", spec := "coveringGreedy", unfollowed := true, recurses := true, named := ["math/bits.deBruijn64tab"], apart := false, laid := [("math/bits.deBruijn64tab", laid_math_bits_deBruijn64tab)] }
def CoveringGreedySaid : Prop := coveringGreedyRow.holds Tryd.pinned (OpenSpec.ofChange coveringGreedySpec)

/-- ITS FALSE NEIGHBOUR: 'it returns false'. Refute it at one input. -/
def coveringGreedyWrong : ChangeSpec := { name := "coveringGreedy", fn := fun _ => fun
  | [d] => { results := [.lit (.bool false)], args := [d] }
  | _ => none }
def CoveringGreedyWrongFalsely : Prop := coveringGreedyRow.holds Tryd.pinned (OpenSpec.ofChange coveringGreedyWrong)

/-- 'bombardelaw10.CoveringLaws': WHATEVER THE INPUT: true; the input reads as it did. -/
def coveringLawsSpec : ChangeSpec := { name := "coveringLaws", fn := fun _ => fun
  | [d] => { results := [.lit (.bool true)], args := [d] }
  | _ => none }
def coveringLawsRow : OpenClaim := { program := "ytmfnchgkffhpfaadoor", sum := "b0e729cdc07dd6c51a030e3989f180725d4a536eaf0eaae0de264cc101feca41", func := "bombarde/bombardelaw10.CoveringLaws", spec := "coveringLaws", unfollowed := true, recurses := true, named := ["math/bits.deBruijn64tab"], apart := false, laid := [("math/bits.deBruijn64tab", laid_math_bits_deBruijn64tab)] }
def CoveringLawsSaid : Prop := coveringLawsRow.holds Tryd.pinned (OpenSpec.ofChange coveringLawsSpec)

/-- ITS FALSE NEIGHBOUR: 'it returns false'. Refute it at one input. -/
def coveringLawsWrong : ChangeSpec := { name := "coveringLaws", fn := fun _ => fun
  | [d] => { results := [.lit (.bool false)], args := [d] }
  | _ => none }
def CoveringLawsWrongFalsely : Prop := coveringLawsRow.holds Tryd.pinned (OpenSpec.ofChange coveringLawsWrong)

/-- 'bombardelaw10.CoveringChecks': WHATEVER THE INPUT: true; the input reads as it did. -/
def coveringChecksSpec : ChangeSpec := { name := "coveringChecks", fn := fun _ => fun
  | [d] => { results := [.lit (.bool true)], args := [d] }
  | _ => none }
def coveringChecksRow : OpenClaim := { program := "ytmfnchgkffhpfaadoor", sum := "b0e729cdc07dd6c51a030e3989f180725d4a536eaf0eaae0de264cc101feca41", func := "bombarde/bombardelaw10.CoveringChecks", spec := "coveringChecks", unfollowed := true, recurses := true, named := ["math/bits.deBruijn64tab"], apart := false, laid := [("math/bits.deBruijn64tab", laid_math_bits_deBruijn64tab)] }
def CoveringChecksSaid : Prop := coveringChecksRow.holds Tryd.pinned (OpenSpec.ofChange coveringChecksSpec)

/-- ITS FALSE NEIGHBOUR: 'it returns false'. Refute it at one input. -/
def coveringChecksWrong : ChangeSpec := { name := "coveringChecks", fn := fun _ => fun
  | [d] => { results := [.lit (.bool false)], args := [d] }
  | _ => none }
def CoveringChecksWrongFalsely : Prop := coveringChecksRow.holds Tryd.pinned (OpenSpec.ofChange coveringChecksWrong)

/- THE SECOND FORM. 'bulk': how many values and letters a reading holds, each counted each time it is reached (what is shared counts as often as it is met; a slice's spare places count too). A statement '..UptoSaid' is the law's where the arguments, and the package variables that the reading takes, are together of bulk at most 1048576: NARROWER than '..Said'. Prove '..Said' where nothing that the law and all that it calls make is longer than what came in: it says more and counts as full. Else prove '..UptoSaid'. A law counts once. -/
mutual
def uptoBulk {H : Type} : DataW H → Nat
  | .lit (.string bytes) => bytes.length + 1
  | .lit _ => 1
  | .nil => 1
  | .ptr d => uptoBulk d + 1
  | .slice elems spare => uptoBulkAll elems + uptoBulkAll spare + 1
  | .agg parts => uptoBulkAll parts + 1
  | .iface _ d => uptoBulk d + 1
  | .map entries => uptoBulkEntries entries + 1
  | .held _ => 1
def uptoBulkAll {H : Type} : List (DataW H) → Nat
  | [] => 0
  | d :: r => uptoBulk d + uptoBulkAll r
def uptoBulkEntries {H : Type} : List (Lit × DataW H) → Nat
  | [] => 0
  | x :: r => uptoBulkEntry x + uptoBulkEntries r
def uptoBulkEntry {H : Type} : Lit × DataW H → Nat
  | (.string bytes, d) => bytes.length + uptoBulk d + 1
  | (_, d) => uptoBulk d + 1
 end
def uptoSmall : (H : Type) → List (DataW H) → Bool := fun _ ds => decide (uptoBulkAll ds ≤ 1048576)
def OpenSpec.upto (s : _root_.Go.ChangeSpec) : _root_.Go.OpenSpec := { _root_.Go.OpenSpec.ofChange s with cond := some uptoSmall }

/-- 'bombardelaw10.CoveringPackings', WHERE WHAT IT READS IS OF BULK AT MOST 1048576: true; the input reads as it did. -/
def coveringPackingsUptoRow : OpenClaim := { program := "ytmfnchgkffhpfaadoor", sum := "b0e729cdc07dd6c51a030e3989f180725d4a536eaf0eaae0de264cc101feca41", func := "bombarde/bombardelaw10.CoveringPackings", spec := "coveringPackings", unfollowed := true, recurses := true, named := ["math/bits.deBruijn64tab"], apart := false, laid := [("math/bits.deBruijn64tab", laid_math_bits_deBruijn64tab)], narrowed := true }
def CoveringPackingsUptoSaid : Prop := coveringPackingsUptoRow.holds Tryd.pinned (OpenSpec.upto coveringPackingsSpec)

/-- 'bombardelaw10.CoveringMissing', WHERE WHAT IT READS IS OF BULK AT MOST 1048576: true; the input reads as it did. -/
def coveringMissingUptoRow : OpenClaim := { program := "ytmfnchgkffhpfaadoor", sum := "b0e729cdc07dd6c51a030e3989f180725d4a536eaf0eaae0de264cc101feca41", func := "bombarde/bombardelaw10.CoveringMissing", spec := "coveringMissing", unfollowed := true, recurses := true, named := ["math/bits.deBruijn64tab"], apart := false, laid := [("math/bits.deBruijn64tab", laid_math_bits_deBruijn64tab)], narrowed := true }
def CoveringMissingUptoSaid : Prop := coveringMissingUptoRow.holds Tryd.pinned (OpenSpec.upto coveringMissingSpec)

/-- 'bombardelaw10.CoveringVerifies', WHERE WHAT IT READS IS OF BULK AT MOST 1048576: true; the input reads as it did. -/
def coveringVerifiesUptoRow : OpenClaim := { program := "ytmfnchgkffhpfaadoor", sum := "b0e729cdc07dd6c51a030e3989f180725d4a536eaf0eaae0de264cc101feca41", func := "bombarde/bombardelaw10.CoveringVerifies", spec := "coveringVerifies", unfollowed := true, recurses := true, named := ["math/bits.deBruijn64tab"], apart := false, laid := [("math/bits.deBruijn64tab", laid_math_bits_deBruijn64tab)], narrowed := true }
def CoveringVerifiesUptoSaid : Prop := coveringVerifiesUptoRow.holds Tryd.pinned (OpenSpec.upto coveringVerifiesSpec)

/-- 'bombardelaw10.CoveringSolves', WHERE WHAT IT READS IS OF BULK AT MOST 1048576: true; the input reads as it did. -/
def coveringSolvesUptoRow : OpenClaim := { program := "ytmfnchgkffhpfaadoor", sum := "b0e729cdc07dd6c51a030e3989f180725d4a536eaf0eaae0de264cc101feca41", func := "bombarde/bombardelaw10.CoveringSolves", spec := "coveringSolves", unfollowed := true, recurses := true, named := ["math/bits.deBruijn64tab"], apart := false, laid := [("math/bits.deBruijn64tab", laid_math_bits_deBruijn64tab)], narrowed := true }
def CoveringSolvesUptoSaid : Prop := coveringSolvesUptoRow.holds Tryd.pinned (OpenSpec.upto coveringSolvesSpec)

/-- 'bombardelaw10.CoveringGreedy', WHERE WHAT IT READS IS OF BULK AT MOST 1048576: true; the input reads as it did. -/
def coveringGreedyUptoRow : OpenClaim := { program := "ytmfnchgkffhpfaadoor", sum := "b0e729cdc07dd6c51a030e3989f180725d4a536eaf0eaae0de264cc101feca41", func := "bombarde/bombardelaw10.CoveringGreedy", spec := "coveringGreedy", unfollowed := true, recurses := true, named := ["math/bits.deBruijn64tab"], apart := false, laid := [("math/bits.deBruijn64tab", laid_math_bits_deBruijn64tab)], narrowed := true }
def CoveringGreedyUptoSaid : Prop := coveringGreedyUptoRow.holds Tryd.pinned (OpenSpec.upto coveringGreedySpec)

/-- 'bombardelaw10.CoveringLaws', WHERE WHAT IT READS IS OF BULK AT MOST 1048576: true; the input reads as it did. -/
def coveringLawsUptoRow : OpenClaim := { program := "ytmfnchgkffhpfaadoor", sum := "b0e729cdc07dd6c51a030e3989f180725d4a536eaf0eaae0de264cc101feca41", func := "bombarde/bombardelaw10.CoveringLaws", spec := "coveringLaws", unfollowed := true, recurses := true, named := ["math/bits.deBruijn64tab"], apart := false, laid := [("math/bits.deBruijn64tab", laid_math_bits_deBruijn64tab)], narrowed := true }
def CoveringLawsUptoSaid : Prop := coveringLawsUptoRow.holds Tryd.pinned (OpenSpec.upto coveringLawsSpec)

/-- 'bombardelaw10.CoveringChecks', WHERE WHAT IT READS IS OF BULK AT MOST 1048576: true; the input reads as it did. -/
def coveringChecksUptoRow : OpenClaim := { program := "ytmfnchgkffhpfaadoor", sum := "b0e729cdc07dd6c51a030e3989f180725d4a536eaf0eaae0de264cc101feca41", func := "bombarde/bombardelaw10.CoveringChecks", spec := "coveringChecks", unfollowed := true, recurses := true, named := ["math/bits.deBruijn64tab"], apart := false, laid := [("math/bits.deBruijn64tab", laid_math_bits_deBruijn64tab)], narrowed := true }
def CoveringChecksUptoSaid : Prop := coveringChecksUptoRow.holds Tryd.pinned (OpenSpec.upto coveringChecksSpec)

end Rows
end Go.Proofs.YtmfnchgkffhpfaaDoor

/-
  NARROWER THAN 'FOR EVERY INPUT', by the rows' own cells (each row's printed sentence says how): ScalingValues: laid · ScalingHalvings: laid · ScalingLengths: laid · ScalingOctaves: laid · ScalingFirsts: laid · ScalingWider: laid · ScalingFalls: laid · ScalingTables: laid · ScalingChecks: laid.
  DERIVED. THE GIVEN ROWS OF THIS SEAT. 9 by the template 'for every input the law returns true; each argument reads behind the call as it read before'; 0 by the template 'total and deterministic' (their statements: YtemfebbakfhknaaDoorTotals.lean).
  GIVEN WITH THE SEED: the statements are not yours to turn. If you find one false, say at which input.
  Laid BY PROGRAM, IN A SANDBOX (cutbox-rows.mjs): the forced cells as the released guide's own fill.sh prints them over the translation da0ad2fbf6c0d0f4… (all of the seat's roots in one cut). By AI agents, Wed Nov 11 2026. No macro, syntax, notation, axiom, sorry.
-/
import Derived.Test.YtemfebbakfhknaaDoorChecked
import GoSem.Claim
import GoSem.ClaimJoined
import GoSem.ClaimMapViews
import Derived.JoinedTies
import Derived.KernelRfl
namespace Go.Proofs.YtemfebbakfhknaaDoor
/- THE CELL 'sum', in the pinned program and in every row, IS THE sha256 OF THE DUMP (.gsa) THAT YtemfebbakfhknaaDoorProg.lean LOADS. Nothing in Lean hashes anything: it is a label: what it is worth is what the hold of that sum in a sandbox is worth. -/
noncomputable def Tryd.pinned : Pinned := { name := "ytemfebbakfhknaadoor", sum := "da0ad2fbf6c0d0f4a4b7ca423f28fbb3572a30dca7ec270118b8293080e3d6f5", checked := Tryd.checked }
namespace Rows
def none {H : Type} : Left H := { results := [], args := [] }

/- WHAT THE LISTED PACKAGE-LEVEL VARIABLES READ AS WHEN THE CALL BEGINS. Each datum BY PROGRAM (the guide's laid-datum.mjs) off the statement by which the dump's own 'gosem.cut.vars' lays the variable. In a bare row this is a premise. The card (YtemfebbakfhknaaDoorCards.lean) ties it to the program's text. -/
def laid_math_bits_deBruijn32tab {H : Type} : DataW H := .agg [.lit (.int .u8 0), .lit (.int .u8 1), .lit (.int .u8 28), .lit (.int .u8 2), .lit (.int .u8 29), .lit (.int .u8 14), .lit (.int .u8 24), .lit (.int .u8 3), .lit (.int .u8 30), .lit (.int .u8 22), .lit (.int .u8 20), .lit (.int .u8 15), .lit (.int .u8 25), .lit (.int .u8 17), .lit (.int .u8 4), .lit (.int .u8 8), .lit (.int .u8 31), .lit (.int .u8 27), .lit (.int .u8 13), .lit (.int .u8 23), .lit (.int .u8 21), .lit (.int .u8 19), .lit (.int .u8 16), .lit (.int .u8 7), .lit (.int .u8 26), .lit (.int .u8 12), .lit (.int .u8 18), .lit (.int .u8 6), .lit (.int .u8 11), .lit (.int .u8 5), .lit (.int .u8 10), .lit (.int .u8 9)]
def laid_math_bits_deBruijn64tab {H : Type} : DataW H := .agg [.lit (.int .u8 0), .lit (.int .u8 1), .lit (.int .u8 56), .lit (.int .u8 2), .lit (.int .u8 57), .lit (.int .u8 49), .lit (.int .u8 28), .lit (.int .u8 3), .lit (.int .u8 61), .lit (.int .u8 58), .lit (.int .u8 42), .lit (.int .u8 50), .lit (.int .u8 38), .lit (.int .u8 29), .lit (.int .u8 17), .lit (.int .u8 4), .lit (.int .u8 62), .lit (.int .u8 47), .lit (.int .u8 59), .lit (.int .u8 36), .lit (.int .u8 45), .lit (.int .u8 43), .lit (.int .u8 51), .lit (.int .u8 22), .lit (.int .u8 53), .lit (.int .u8 39), .lit (.int .u8 33), .lit (.int .u8 30), .lit (.int .u8 24), .lit (.int .u8 18), .lit (.int .u8 12), .lit (.int .u8 5), .lit (.int .u8 63), .lit (.int .u8 55), .lit (.int .u8 48), .lit (.int .u8 27), .lit (.int .u8 60), .lit (.int .u8 41), .lit (.int .u8 37), .lit (.int .u8 16), .lit (.int .u8 46), .lit (.int .u8 35), .lit (.int .u8 44), .lit (.int .u8 21), .lit (.int .u8 52), .lit (.int .u8 32), .lit (.int .u8 23), .lit (.int .u8 11), .lit (.int .u8 54), .lit (.int .u8 26), .lit (.int .u8 40), .lit (.int .u8 15), .lit (.int .u8 34), .lit (.int .u8 20), .lit (.int .u8 31), .lit (.int .u8 10), .lit (.int .u8 25), .lit (.int .u8 14), .lit (.int .u8 19), .lit (.int .u8 9), .lit (.int .u8 13), .lit (.int .u8 8), .lit (.int .u8 7), .lit (.int .u8 6)]
def laid_internal_strconv_uint64pow10 {H : Type} : DataW H := .agg [.lit (.int .u64 1), .lit (.int .u64 10), .lit (.int .u64 100), .lit (.int .u64 1000), .lit (.int .u64 10000), .lit (.int .u64 100000), .lit (.int .u64 1000000), .lit (.int .u64 10000000), .lit (.int .u64 100000000), .lit (.int .u64 1000000000), .lit (.int .u64 10000000000), .lit (.int .u64 100000000000), .lit (.int .u64 1000000000000), .lit (.int .u64 10000000000000), .lit (.int .u64 100000000000000), .lit (.int .u64 1000000000000000), .lit (.int .u64 10000000000000000), .lit (.int .u64 100000000000000000), .lit (.int .u64 1000000000000000000), .lit (.int .u64 10000000000000000000)]

/-- 'bombardelaw44.ScalingValues': WHATEVER THE INPUT: true; the input reads as it did. -/
def scalingValuesSpec : ChangeSpec := { name := "scalingValues", fn := fun _ => fun
  | [d1, d2] => { results := [.lit (.bool true)], args := [d1, d2] }
  | _ => none }
def scalingValuesRow : OpenClaim := { program := "ytemfebbakfhknaadoor", sum := "da0ad2fbf6c0d0f4a4b7ca423f28fbb3572a30dca7ec270118b8293080e3d6f5", func := "bombarde/bombardelaw44.ScalingValues", spec := "scalingValues", inPlace := ["internal/abi.NoEscape", "internal/bytealg.MakeNoZero", "internal/bytealg.abigen_runtime_cmpstring"], unfollowed := true, recurses := true, named := ["internal/strconv.uint64pow10", "math/bits.deBruijn32tab", "math/bits.deBruijn64tab"], apart := false, laid := [("math/bits.deBruijn32tab", laid_math_bits_deBruijn32tab), ("math/bits.deBruijn64tab", laid_math_bits_deBruijn64tab), ("internal/strconv.uint64pow10", laid_internal_strconv_uint64pow10)] }
def ScalingValuesSaid : Prop := scalingValuesRow.holds Tryd.pinned (OpenSpec.ofChange scalingValuesSpec)

/-- ITS FALSE NEIGHBOUR: 'it returns false'. Refute it at one input. -/
def scalingValuesWrong : ChangeSpec := { name := "scalingValues", fn := fun _ => fun
  | [d1, d2] => { results := [.lit (.bool false)], args := [d1, d2] }
  | _ => none }
def ScalingValuesWrongFalsely : Prop := scalingValuesRow.holds Tryd.pinned (OpenSpec.ofChange scalingValuesWrong)

/-- 'bombardelaw44.ScalingHalvings': WHATEVER THE INPUT: true; the input reads as it did. -/
def scalingHalvingsSpec : ChangeSpec := { name := "scalingHalvings", fn := fun _ => fun
  | [d1, d2, d3] => { results := [.lit (.bool true)], args := [d1, d2, d3] }
  | _ => none }
def scalingHalvingsRow : OpenClaim := { program := "ytemfebbakfhknaadoor", sum := "da0ad2fbf6c0d0f4a4b7ca423f28fbb3572a30dca7ec270118b8293080e3d6f5", func := "bombarde/bombardelaw44.ScalingHalvings", spec := "scalingHalvings", inPlace := ["internal/abi.NoEscape", "internal/bytealg.MakeNoZero", "internal/bytealg.abigen_runtime_cmpstring"], unfollowed := true, recurses := true, named := ["internal/strconv.uint64pow10", "math/bits.deBruijn32tab", "math/bits.deBruijn64tab"], apart := false, laid := [("math/bits.deBruijn32tab", laid_math_bits_deBruijn32tab), ("math/bits.deBruijn64tab", laid_math_bits_deBruijn64tab), ("internal/strconv.uint64pow10", laid_internal_strconv_uint64pow10)] }
def ScalingHalvingsSaid : Prop := scalingHalvingsRow.holds Tryd.pinned (OpenSpec.ofChange scalingHalvingsSpec)

/-- ITS FALSE NEIGHBOUR: 'it returns false'. Refute it at one input. -/
def scalingHalvingsWrong : ChangeSpec := { name := "scalingHalvings", fn := fun _ => fun
  | [d1, d2, d3] => { results := [.lit (.bool false)], args := [d1, d2, d3] }
  | _ => none }
def ScalingHalvingsWrongFalsely : Prop := scalingHalvingsRow.holds Tryd.pinned (OpenSpec.ofChange scalingHalvingsWrong)

/-- 'bombardelaw44.ScalingLengths': WHATEVER THE INPUT: true; the input reads as it did. -/
def scalingLengthsSpec : ChangeSpec := { name := "scalingLengths", fn := fun _ => fun
  | [d1, d2, d3] => { results := [.lit (.bool true)], args := [d1, d2, d3] }
  | _ => none }
def scalingLengthsRow : OpenClaim := { program := "ytemfebbakfhknaadoor", sum := "da0ad2fbf6c0d0f4a4b7ca423f28fbb3572a30dca7ec270118b8293080e3d6f5", func := "bombarde/bombardelaw44.ScalingLengths", spec := "scalingLengths", inPlace := ["internal/abi.NoEscape", "internal/bytealg.MakeNoZero", "internal/bytealg.abigen_runtime_cmpstring"], unfollowed := true, recurses := true, named := ["internal/strconv.uint64pow10", "math/bits.deBruijn32tab", "math/bits.deBruijn64tab"], apart := false, laid := [("math/bits.deBruijn32tab", laid_math_bits_deBruijn32tab), ("math/bits.deBruijn64tab", laid_math_bits_deBruijn64tab), ("internal/strconv.uint64pow10", laid_internal_strconv_uint64pow10)] }
def ScalingLengthsSaid : Prop := scalingLengthsRow.holds Tryd.pinned (OpenSpec.ofChange scalingLengthsSpec)

/-- ITS FALSE NEIGHBOUR: 'it returns false'. Refute it at one input. -/
def scalingLengthsWrong : ChangeSpec := { name := "scalingLengths", fn := fun _ => fun
  | [d1, d2, d3] => { results := [.lit (.bool false)], args := [d1, d2, d3] }
  | _ => none }
def ScalingLengthsWrongFalsely : Prop := scalingLengthsRow.holds Tryd.pinned (OpenSpec.ofChange scalingLengthsWrong)

/-- 'bombardelaw44.ScalingOctaves': WHATEVER THE INPUT: true; the input reads as it did. -/
def scalingOctavesSpec : ChangeSpec := { name := "scalingOctaves", fn := fun _ => fun
  | [d1, d2, d3] => { results := [.lit (.bool true)], args := [d1, d2, d3] }
  | _ => none }
def scalingOctavesRow : OpenClaim := { program := "ytemfebbakfhknaadoor", sum := "da0ad2fbf6c0d0f4a4b7ca423f28fbb3572a30dca7ec270118b8293080e3d6f5", func := "bombarde/bombardelaw44.ScalingOctaves", spec := "scalingOctaves", inPlace := ["internal/abi.NoEscape", "internal/bytealg.MakeNoZero", "internal/bytealg.abigen_runtime_cmpstring"], unfollowed := true, recurses := true, named := ["internal/strconv.uint64pow10", "math/bits.deBruijn32tab", "math/bits.deBruijn64tab"], apart := false, laid := [("math/bits.deBruijn32tab", laid_math_bits_deBruijn32tab), ("math/bits.deBruijn64tab", laid_math_bits_deBruijn64tab), ("internal/strconv.uint64pow10", laid_internal_strconv_uint64pow10)] }
def ScalingOctavesSaid : Prop := scalingOctavesRow.holds Tryd.pinned (OpenSpec.ofChange scalingOctavesSpec)

/-- ITS FALSE NEIGHBOUR: 'it returns false'. Refute it at one input. -/
def scalingOctavesWrong : ChangeSpec := { name := "scalingOctaves", fn := fun _ => fun
  | [d1, d2, d3] => { results := [.lit (.bool false)], args := [d1, d2, d3] }
  | _ => none }
def ScalingOctavesWrongFalsely : Prop := scalingOctavesRow.holds Tryd.pinned (OpenSpec.ofChange scalingOctavesWrong)

/-- 'bombardelaw44.ScalingFirsts': WHATEVER THE INPUT: true; the input reads as it did. -/
def scalingFirstsSpec : ChangeSpec := { name := "scalingFirsts", fn := fun _ => fun
  | [d1, d2, d3] => { results := [.lit (.bool true)], args := [d1, d2, d3] }
  | _ => none }
def scalingFirstsRow : OpenClaim := { program := "ytemfebbakfhknaadoor", sum := "da0ad2fbf6c0d0f4a4b7ca423f28fbb3572a30dca7ec270118b8293080e3d6f5", func := "bombarde/bombardelaw44.ScalingFirsts", spec := "scalingFirsts", inPlace := ["internal/abi.NoEscape", "internal/bytealg.MakeNoZero", "internal/bytealg.abigen_runtime_cmpstring"], unfollowed := true, recurses := true, named := ["internal/strconv.uint64pow10", "math/bits.deBruijn32tab", "math/bits.deBruijn64tab"], apart := false, laid := [("math/bits.deBruijn32tab", laid_math_bits_deBruijn32tab), ("math/bits.deBruijn64tab", laid_math_bits_deBruijn64tab), ("internal/strconv.uint64pow10", laid_internal_strconv_uint64pow10)] }
def ScalingFirstsSaid : Prop := scalingFirstsRow.holds Tryd.pinned (OpenSpec.ofChange scalingFirstsSpec)

/-- ITS FALSE NEIGHBOUR: 'it returns false'. Refute it at one input. -/
def scalingFirstsWrong : ChangeSpec := { name := "scalingFirsts", fn := fun _ => fun
  | [d1, d2, d3] => { results := [.lit (.bool false)], args := [d1, d2, d3] }
  | _ => none }
def ScalingFirstsWrongFalsely : Prop := scalingFirstsRow.holds Tryd.pinned (OpenSpec.ofChange scalingFirstsWrong)

/-- 'bombardelaw44.ScalingWider': WHATEVER THE INPUT: true; the input reads as it did. -/
def scalingWiderSpec : ChangeSpec := { name := "scalingWider", fn := fun _ => fun
  | [d1, d2, d3] => { results := [.lit (.bool true)], args := [d1, d2, d3] }
  | _ => none }
def scalingWiderRow : OpenClaim := { program := "ytemfebbakfhknaadoor", sum := "da0ad2fbf6c0d0f4a4b7ca423f28fbb3572a30dca7ec270118b8293080e3d6f5", func := "bombarde/bombardelaw44.ScalingWider", spec := "scalingWider", inPlace := ["internal/abi.NoEscape", "internal/bytealg.MakeNoZero", "internal/bytealg.abigen_runtime_cmpstring"], unfollowed := true, recurses := true, named := ["internal/strconv.uint64pow10", "math/bits.deBruijn32tab", "math/bits.deBruijn64tab"], apart := false, laid := [("math/bits.deBruijn32tab", laid_math_bits_deBruijn32tab), ("math/bits.deBruijn64tab", laid_math_bits_deBruijn64tab), ("internal/strconv.uint64pow10", laid_internal_strconv_uint64pow10)] }
def ScalingWiderSaid : Prop := scalingWiderRow.holds Tryd.pinned (OpenSpec.ofChange scalingWiderSpec)

/-- ITS FALSE NEIGHBOUR: 'it returns false'. Refute it at one input. -/
def scalingWiderWrong : ChangeSpec := { name := "scalingWider", fn := fun _ => fun
  | [d1, d2, d3] => { results := [.lit (.bool false)], args := [d1, d2, d3] }
  | _ => none }
def ScalingWiderWrongFalsely : Prop := scalingWiderRow.holds Tryd.pinned (OpenSpec.ofChange scalingWiderWrong)

/-- 'bombardelaw44.ScalingFalls': WHATEVER THE INPUT: true; the input reads as it did. -/
def scalingFallsSpec : ChangeSpec := { name := "scalingFalls", fn := fun _ => fun
  | [d1, d2, d3] => { results := [.lit (.bool true)], args := [d1, d2, d3] }
  | _ => none }
def scalingFallsRow : OpenClaim := { program := "ytemfebbakfhknaadoor", sum := "da0ad2fbf6c0d0f4a4b7ca423f28fbb3572a30dca7ec270118b8293080e3d6f5", func := "bombarde/bombardelaw44.ScalingFalls", spec := "scalingFalls", inPlace := ["internal/abi.NoEscape", "internal/bytealg.MakeNoZero", "internal/bytealg.abigen_runtime_cmpstring"], unfollowed := true, recurses := true, named := ["internal/strconv.uint64pow10", "math/bits.deBruijn32tab", "math/bits.deBruijn64tab"], apart := false, laid := [("math/bits.deBruijn32tab", laid_math_bits_deBruijn32tab), ("math/bits.deBruijn64tab", laid_math_bits_deBruijn64tab), ("internal/strconv.uint64pow10", laid_internal_strconv_uint64pow10)] }
def ScalingFallsSaid : Prop := scalingFallsRow.holds Tryd.pinned (OpenSpec.ofChange scalingFallsSpec)

/-- ITS FALSE NEIGHBOUR: 'it returns false'. Refute it at one input. -/
def scalingFallsWrong : ChangeSpec := { name := "scalingFalls", fn := fun _ => fun
  | [d1, d2, d3] => { results := [.lit (.bool false)], args := [d1, d2, d3] }
  | _ => none }
def ScalingFallsWrongFalsely : Prop := scalingFallsRow.holds Tryd.pinned (OpenSpec.ofChange scalingFallsWrong)

/-- 'bombardelaw44.ScalingTables': WHATEVER THE INPUT: true; the input reads as it did. -/
def scalingTablesSpec : ChangeSpec := { name := "scalingTables", fn := fun _ => fun
  | [d1, d2, d3] => { results := [.lit (.bool true)], args := [d1, d2, d3] }
  | _ => none }
def scalingTablesRow : OpenClaim := { program := "ytemfebbakfhknaadoor", sum := "da0ad2fbf6c0d0f4a4b7ca423f28fbb3572a30dca7ec270118b8293080e3d6f5", func := "bombarde/bombardelaw44.ScalingTables", spec := "scalingTables", inPlace := ["internal/abi.NoEscape", "internal/bytealg.MakeNoZero", "internal/bytealg.abigen_runtime_cmpstring"], unfollowed := true, recurses := true, named := ["internal/strconv.uint64pow10", "math/bits.deBruijn32tab", "math/bits.deBruijn64tab"], apart := false, laid := [("math/bits.deBruijn32tab", laid_math_bits_deBruijn32tab), ("math/bits.deBruijn64tab", laid_math_bits_deBruijn64tab), ("internal/strconv.uint64pow10", laid_internal_strconv_uint64pow10)] }
def ScalingTablesSaid : Prop := scalingTablesRow.holds Tryd.pinned (OpenSpec.ofChange scalingTablesSpec)

/-- ITS FALSE NEIGHBOUR: 'it returns false'. Refute it at one input. -/
def scalingTablesWrong : ChangeSpec := { name := "scalingTables", fn := fun _ => fun
  | [d1, d2, d3] => { results := [.lit (.bool false)], args := [d1, d2, d3] }
  | _ => none }
def ScalingTablesWrongFalsely : Prop := scalingTablesRow.holds Tryd.pinned (OpenSpec.ofChange scalingTablesWrong)

/-- 'bombardelaw44.ScalingChecks': WHATEVER THE INPUT: true; the input reads as it did. -/
def scalingChecksSpec : ChangeSpec := { name := "scalingChecks", fn := fun _ => fun
  | [d1, d2] => { results := [.lit (.bool true)], args := [d1, d2] }
  | _ => none }
def scalingChecksRow : OpenClaim := { program := "ytemfebbakfhknaadoor", sum := "da0ad2fbf6c0d0f4a4b7ca423f28fbb3572a30dca7ec270118b8293080e3d6f5", func := "bombarde/bombardelaw44.ScalingChecks", spec := "scalingChecks", inPlace := ["internal/abi.NoEscape", "internal/bytealg.MakeNoZero", "internal/bytealg.abigen_runtime_cmpstring"], unfollowed := true, recurses := true, named := ["internal/strconv.uint64pow10", "math/bits.deBruijn32tab", "math/bits.deBruijn64tab"], apart := false, laid := [("math/bits.deBruijn32tab", laid_math_bits_deBruijn32tab), ("math/bits.deBruijn64tab", laid_math_bits_deBruijn64tab), ("internal/strconv.uint64pow10", laid_internal_strconv_uint64pow10)] }
def ScalingChecksSaid : Prop := scalingChecksRow.holds Tryd.pinned (OpenSpec.ofChange scalingChecksSpec)

/-- ITS FALSE NEIGHBOUR: 'it returns false'. Refute it at one input. -/
def scalingChecksWrong : ChangeSpec := { name := "scalingChecks", fn := fun _ => fun
  | [d1, d2] => { results := [.lit (.bool false)], args := [d1, d2] }
  | _ => none }
def ScalingChecksWrongFalsely : Prop := scalingChecksRow.holds Tryd.pinned (OpenSpec.ofChange scalingChecksWrong)

/- THE SECOND FORM. 'bulk': how many values and letters a reading holds, each counted each time it is reached (what is shared counts as often as it is met; a slice's spare places count too). A statement '..UptoSaid' is the law's where the arguments, and the package variables that the reading takes, are together of bulk at most 1048576: NARROWER than '..Said'. Prove '..Said' where nothing that the law and all that it calls make is longer than what came in: it says more and counts as full. Else prove '..UptoSaid'. A law counts once. -/
mutual
def uptoBulk {H : Type} : DataW H → Nat
  | .lit (.string bytes) => bytes.length + 1
  | .lit _ => 1
  | .nil => 1
  | .ptr d => uptoBulk d + 1
  | .slice elems spare => uptoBulkAll elems + uptoBulkAll spare + 1
  | .agg parts => uptoBulkAll parts + 1
  | .iface _ d => uptoBulk d + 1
  | .map entries => uptoBulkEntries entries + 1
  | .held _ => 1
def uptoBulkAll {H : Type} : List (DataW H) → Nat
  | [] => 0
  | d :: r => uptoBulk d + uptoBulkAll r
def uptoBulkEntries {H : Type} : List (Lit × DataW H) → Nat
  | [] => 0
  | x :: r => uptoBulkEntry x + uptoBulkEntries r
def uptoBulkEntry {H : Type} : Lit × DataW H → Nat
  | (.string bytes, d) => bytes.length + uptoBulk d + 1
  | (_, d) => uptoBulk d + 1
 end
def uptoSmall : (H : Type) → List (DataW H) → Bool := fun _ ds => decide (uptoBulkAll ds ≤ 1048576)
def OpenSpec.upto (s : _root_.Go.ChangeSpec) : _root_.Go.OpenSpec := { _root_.Go.OpenSpec.ofChange s with cond := some uptoSmall }

/-- 'bombardelaw44.ScalingValues', WHERE WHAT IT READS IS OF BULK AT MOST 1048576: true; the input reads as it did. -/
def scalingValuesUptoRow : OpenClaim := { program := "ytemfebbakfhknaadoor", sum := "da0ad2fbf6c0d0f4a4b7ca423f28fbb3572a30dca7ec270118b8293080e3d6f5", func := "bombarde/bombardelaw44.ScalingValues", spec := "scalingValues", inPlace := ["internal/abi.NoEscape", "internal/bytealg.MakeNoZero", "internal/bytealg.abigen_runtime_cmpstring"], unfollowed := true, recurses := true, named := ["internal/strconv.uint64pow10", "math/bits.deBruijn32tab", "math/bits.deBruijn64tab"], apart := false, laid := [("math/bits.deBruijn32tab", laid_math_bits_deBruijn32tab), ("math/bits.deBruijn64tab", laid_math_bits_deBruijn64tab), ("internal/strconv.uint64pow10", laid_internal_strconv_uint64pow10)], narrowed := true }
def ScalingValuesUptoSaid : Prop := scalingValuesUptoRow.holds Tryd.pinned (OpenSpec.upto scalingValuesSpec)

/-- 'bombardelaw44.ScalingHalvings', WHERE WHAT IT READS IS OF BULK AT MOST 1048576: true; the input reads as it did. -/
def scalingHalvingsUptoRow : OpenClaim := { program := "ytemfebbakfhknaadoor", sum := "da0ad2fbf6c0d0f4a4b7ca423f28fbb3572a30dca7ec270118b8293080e3d6f5", func := "bombarde/bombardelaw44.ScalingHalvings", spec := "scalingHalvings", inPlace := ["internal/abi.NoEscape", "internal/bytealg.MakeNoZero", "internal/bytealg.abigen_runtime_cmpstring"], unfollowed := true, recurses := true, named := ["internal/strconv.uint64pow10", "math/bits.deBruijn32tab", "math/bits.deBruijn64tab"], apart := false, laid := [("math/bits.deBruijn32tab", laid_math_bits_deBruijn32tab), ("math/bits.deBruijn64tab", laid_math_bits_deBruijn64tab), ("internal/strconv.uint64pow10", laid_internal_strconv_uint64pow10)], narrowed := true }
def ScalingHalvingsUptoSaid : Prop := scalingHalvingsUptoRow.holds Tryd.pinned (OpenSpec.upto scalingHalvingsSpec)

/-- 'bombardelaw44.ScalingLengths', WHERE WHAT IT READS IS OF BULK AT MOST 1048576: true; the input reads as it did. -/
def scalingLengthsUptoRow : OpenClaim := { program := "ytemfebbakfhknaadoor", sum := "da0ad2fbf6c0d0f4a4b7ca423f28fbb3572a30dca7ec270118b8293080e3d6f5", func := "bombarde/bombardelaw44.ScalingLengths", spec := "scalingLengths", inPlace := ["internal/abi.NoEscape", "internal/bytealg.MakeNoZero", "internal/bytealg.abigen_runtime_cmpstring"], unfollowed := true, recurses := true, named := ["internal/strconv.uint64pow10", "math/bits.deBruijn32tab", "math/bits.deBruijn64tab"], apart := false, laid := [("math/bits.deBruijn32tab", laid_math_bits_deBruijn32tab), ("math/bits.deBruijn64tab", laid_math_bits_deBruijn64tab), ("internal/strconv.uint64pow10", laid_internal_strconv_uint64pow10)], narrowed := true }
def ScalingLengthsUptoSaid : Prop := scalingLengthsUptoRow.holds Tryd.pinned (OpenSpec.upto scalingLengthsSpec)

/-- 'bombardelaw44.ScalingOctaves', WHERE WHAT IT READS IS OF BULK AT MOST 1048576: true; the input reads as it did. -/
def scalingOctavesUptoRow : OpenClaim := { program := "ytemfebbakfhknaadoor", sum := "da0ad2fbf6c0d0f4a4b7ca423f28fbb3572a30dca7ec270118b8293080e3d6f5", func := "bombarde/bombardelaw44.ScalingOctaves", spec := "scalingOctaves", inPlace := ["internal/abi.NoEscape", "internal/bytealg.MakeNoZero", "internal/bytealg.abigen_runtime_cmpstring"], unfollowed := true, recurses := true, named := ["internal/strconv.uint64pow10", "math/bits.deBruijn32tab", "math/bits.deBruijn64tab"], apart := false, laid := [("math/bits.deBruijn32tab", laid_math_bits_deBruijn32tab), ("math/bits.deBruijn64tab", laid_math_bits_deBruijn64tab), ("internal/strconv.uint64pow10", laid_internal_strconv_uint64pow10)], narrowed := true }
def ScalingOctavesUptoSaid : Prop := scalingOctavesUptoRow.holds Tryd.pinned (OpenSpec.upto scalingOctavesSpec)

/-- 'bombardelaw44.ScalingFirsts', WHERE WHAT IT READS IS OF BULK AT MOST 1048576: true; the input reads as it did. -/
def scalingFirstsUptoRow : OpenClaim := { program := "ytemfebbakfhknaadoor", sum := "da0ad2fbf6c0d0f4a4b7ca423f28fbb3572a30dca7ec270118b8293080e3d6f5", func := "bombarde/bombardelaw44.ScalingFirsts", spec := "scalingFirsts", inPlace := ["internal/abi.NoEscape", "internal/bytealg.MakeNoZero", "internal/bytealg.abigen_runtime_cmpstring"], unfollowed := true, recurses := true, named := ["internal/strconv.uint64pow10", "math/bits.deBruijn32tab", "math/bits.deBruijn64tab"], apart := false, laid := [("math/bits.deBruijn32tab", laid_math_bits_deBruijn32tab), ("math/bits.deBruijn64tab", laid_math_bits_deBruijn64tab), ("internal/strconv.uint64pow10", laid_internal_strconv_uint64pow10)], narrowed := true }
def ScalingFirstsUptoSaid : Prop := scalingFirstsUptoRow.holds Tryd.pinned (OpenSpec.upto scalingFirstsSpec)

/-- 'bombardelaw44.ScalingWider', WHERE WHAT IT READS IS OF BULK AT MOST 1048576: true; the input reads as it did. -/
def scalingWiderUptoRow : OpenClaim := { program := "ytemfebbakfhknaadoor", sum := "da0ad2fbf6c0d0f4a4b7ca423f28fbb3572a30dca7ec270118b8293080e3d6f5", func := "bombarde/bombardelaw44.ScalingWider", spec := "scalingWider", inPlace := ["internal/abi.NoEscape", "internal/bytealg.MakeNoZero", "internal/bytealg.abigen_runtime_cmpstring"], unfollowed := true, recurses := true, named := ["internal/strconv.uint64pow10", "math/bits.deBruijn32tab", "math/bits.deBruijn64tab"], apart := false, laid := [("math/bits.deBruijn32tab", laid_math_bits_deBruijn32tab), ("math/bits.deBruijn64tab", laid_math_bits_deBruijn64tab), ("internal/strconv.uint64pow10", laid_internal_strconv_uint64pow10)], narrowed := true }
def ScalingWiderUptoSaid : Prop := scalingWiderUptoRow.holds Tryd.pinned (OpenSpec.upto scalingWiderSpec)

/-- 'bombardelaw44.ScalingFalls', WHERE WHAT IT READS IS OF BULK AT MOST 1048576: true; the input reads as it did. -/
def scalingFallsUptoRow : OpenClaim := { program := "ytemfebbakfhknaadoor", sum := "da0ad2fbf6c0d0f4a4b7ca423f28fbb3572a30dca7ec270118b8293080e3d6f5", func := "bombarde/bombardelaw44.ScalingFalls", spec := "scalingFalls", inPlace := ["internal/abi.NoEscape", "internal/bytealg.MakeNoZero", "internal/bytealg.abigen_runtime_cmpstring"], unfollowed := true, recurses := true, named := ["internal/strconv.uint64pow10", "math/bits.deBruijn32tab", "math/bits.deBruijn64tab"], apart := false, laid := [("math/bits.deBruijn32tab", laid_math_bits_deBruijn32tab), ("math/bits.deBruijn64tab", laid_math_bits_deBruijn64tab), ("internal/strconv.uint64pow10", laid_internal_strconv_uint64pow10)], narrowed := true }
def ScalingFallsUptoSaid : Prop := scalingFallsUptoRow.holds Tryd.pinned (OpenSpec.upto scalingFallsSpec)

/-- 'bombardelaw44.ScalingTables', WHERE WHAT IT READS IS OF BULK AT MOST 1048576: true; the input reads as it did. -/
def scalingTablesUptoRow : OpenClaim := { program := "ytemfebbakfhknaadoor", sum := "da0ad2fbf6c0d0f4a4b7ca423f28fbb3572a30dca7ec270118b8293080e3d6f5", func := "bombarde/bombardelaw44.ScalingTables", spec := "scalingTables", inPlace := ["internal/abi.NoEscape", "internal/bytealg.MakeNoZero", "internal/bytealg.abigen_runtime_cmpstring"], unfollowed := true, recurses := true, named := ["internal/strconv.uint64pow10", "math/bits.deBruijn32tab", "math/bits.deBruijn64tab"], apart := false, laid := [("math/bits.deBruijn32tab", laid_math_bits_deBruijn32tab), ("math/bits.deBruijn64tab", laid_math_bits_deBruijn64tab), ("internal/strconv.uint64pow10", laid_internal_strconv_uint64pow10)], narrowed := true }
def ScalingTablesUptoSaid : Prop := scalingTablesUptoRow.holds Tryd.pinned (OpenSpec.upto scalingTablesSpec)

/-- 'bombardelaw44.ScalingChecks', WHERE WHAT IT READS IS OF BULK AT MOST 1048576: true; the input reads as it did. -/
def scalingChecksUptoRow : OpenClaim := { program := "ytemfebbakfhknaadoor", sum := "da0ad2fbf6c0d0f4a4b7ca423f28fbb3572a30dca7ec270118b8293080e3d6f5", func := "bombarde/bombardelaw44.ScalingChecks", spec := "scalingChecks", inPlace := ["internal/abi.NoEscape", "internal/bytealg.MakeNoZero", "internal/bytealg.abigen_runtime_cmpstring"], unfollowed := true, recurses := true, named := ["internal/strconv.uint64pow10", "math/bits.deBruijn32tab", "math/bits.deBruijn64tab"], apart := false, laid := [("math/bits.deBruijn32tab", laid_math_bits_deBruijn32tab), ("math/bits.deBruijn64tab", laid_math_bits_deBruijn64tab), ("internal/strconv.uint64pow10", laid_internal_strconv_uint64pow10)], narrowed := true }
def ScalingChecksUptoSaid : Prop := scalingChecksUptoRow.holds Tryd.pinned (OpenSpec.upto scalingChecksSpec)

end Rows
end Go.Proofs.YtemfebbakfhknaaDoor

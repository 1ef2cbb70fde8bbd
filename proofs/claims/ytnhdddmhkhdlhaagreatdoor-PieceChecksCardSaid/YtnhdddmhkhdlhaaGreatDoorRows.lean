/-
  NARROWER THAN 'FOR EVERY INPUT', by the rows' own cells (each row's printed sentence says how): PieceOrgans: laid · PieceSlices: laid · PieceCuts: laid · PieceEquals: laid · PieceTransposes: laid · PieceFollows: laid · PieceTicks: laid · PieceChecks: laid.
  DERIVED. THE GIVEN ROWS OF THIS SEAT. 8 by the template 'for every input the law returns true; each argument reads behind the call as it read before'; 0 by the template 'total and deterministic' (their statements: YtnhdddmhkhdlhaaGreatDoorTotals.lean).
  GIVEN WITH THE SEED: the statements are not yours to turn. If you find one false, say at which input.
  Laid BY PROGRAM, IN A SANDBOX (cutbox-rows.mjs): the forced cells as the released guide's own fill.sh prints them over the translation 733d1a97a94c41aa… (all of the seat's roots in one cut). By AI agents, Wed Nov 11 2026. No macro, syntax, notation, axiom, sorry.
-/
import Derived.Test.YtnhdddmhkhdlhaaGreatDoorChecked
import GoSem.Claim
import GoSem.ClaimJoined
import GoSem.ClaimMapViews
import Derived.JoinedTies
import Derived.KernelRfl
namespace Go.Proofs.YtnhdddmhkhdlhaaGreatDoor
/- THE CELL 'sum', in the pinned program and in every row, IS THE sha256 OF THE DUMP (.gsa) THAT YtnhdddmhkhdlhaaGreatDoorProg.lean LOADS. Nothing in Lean hashes anything: it is a label: what it is worth is what the hold of that sum in a sandbox is worth. -/
noncomputable def Tryz.pinned : Pinned := { name := "ytnhdddmhkhdlhaagreatdoor", sum := "733d1a97a94c41aa3e4fd2dbff93876d1bf9d4700c2884ab143eeb2da78ceb88", checked := Tryz.checked }
namespace Rows
def none {H : Type} : Left H := { results := [], args := [] }

/- WHAT THE LISTED PACKAGE-LEVEL VARIABLES READ AS WHEN THE CALL BEGINS. Each datum BY PROGRAM (the guide's laid-datum.mjs) off the statement by which the dump's own 'gosem.cut.vars' lays the variable. In a bare row this is a premise. The card (YtnhdddmhkhdlhaaGreatDoorCards.lean) ties it to the program's text. -/
def laid_math_bits_deBruijn32tab {H : Type} : DataW H := .agg [.lit (.int .u8 0), .lit (.int .u8 1), .lit (.int .u8 28), .lit (.int .u8 2), .lit (.int .u8 29), .lit (.int .u8 14), .lit (.int .u8 24), .lit (.int .u8 3), .lit (.int .u8 30), .lit (.int .u8 22), .lit (.int .u8 20), .lit (.int .u8 15), .lit (.int .u8 25), .lit (.int .u8 17), .lit (.int .u8 4), .lit (.int .u8 8), .lit (.int .u8 31), .lit (.int .u8 27), .lit (.int .u8 13), .lit (.int .u8 23), .lit (.int .u8 21), .lit (.int .u8 19), .lit (.int .u8 16), .lit (.int .u8 7), .lit (.int .u8 26), .lit (.int .u8 12), .lit (.int .u8 18), .lit (.int .u8 6), .lit (.int .u8 11), .lit (.int .u8 5), .lit (.int .u8 10), .lit (.int .u8 9)]
def laid_math_bits_deBruijn64tab {H : Type} : DataW H := .agg [.lit (.int .u8 0), .lit (.int .u8 1), .lit (.int .u8 56), .lit (.int .u8 2), .lit (.int .u8 57), .lit (.int .u8 49), .lit (.int .u8 28), .lit (.int .u8 3), .lit (.int .u8 61), .lit (.int .u8 58), .lit (.int .u8 42), .lit (.int .u8 50), .lit (.int .u8 38), .lit (.int .u8 29), .lit (.int .u8 17), .lit (.int .u8 4), .lit (.int .u8 62), .lit (.int .u8 47), .lit (.int .u8 59), .lit (.int .u8 36), .lit (.int .u8 45), .lit (.int .u8 43), .lit (.int .u8 51), .lit (.int .u8 22), .lit (.int .u8 53), .lit (.int .u8 39), .lit (.int .u8 33), .lit (.int .u8 30), .lit (.int .u8 24), .lit (.int .u8 18), .lit (.int .u8 12), .lit (.int .u8 5), .lit (.int .u8 63), .lit (.int .u8 55), .lit (.int .u8 48), .lit (.int .u8 27), .lit (.int .u8 60), .lit (.int .u8 41), .lit (.int .u8 37), .lit (.int .u8 16), .lit (.int .u8 46), .lit (.int .u8 35), .lit (.int .u8 44), .lit (.int .u8 21), .lit (.int .u8 52), .lit (.int .u8 32), .lit (.int .u8 23), .lit (.int .u8 11), .lit (.int .u8 54), .lit (.int .u8 26), .lit (.int .u8 40), .lit (.int .u8 15), .lit (.int .u8 34), .lit (.int .u8 20), .lit (.int .u8 31), .lit (.int .u8 10), .lit (.int .u8 25), .lit (.int .u8 14), .lit (.int .u8 19), .lit (.int .u8 9), .lit (.int .u8 13), .lit (.int .u8 8), .lit (.int .u8 7), .lit (.int .u8 6)]
def laid_internal_strconv_uint64pow10 {H : Type} : DataW H := .agg [.lit (.int .u64 1), .lit (.int .u64 10), .lit (.int .u64 100), .lit (.int .u64 1000), .lit (.int .u64 10000), .lit (.int .u64 100000), .lit (.int .u64 1000000), .lit (.int .u64 10000000), .lit (.int .u64 100000000), .lit (.int .u64 1000000000), .lit (.int .u64 10000000000), .lit (.int .u64 100000000000), .lit (.int .u64 1000000000000), .lit (.int .u64 10000000000000), .lit (.int .u64 100000000000000), .lit (.int .u64 1000000000000000), .lit (.int .u64 10000000000000000), .lit (.int .u64 100000000000000000), .lit (.int .u64 1000000000000000000), .lit (.int .u64 10000000000000000000)]

/-- 'bombardelaw45.PieceOrgans': WHATEVER THE INPUT: true; the input reads as it did. -/
def pieceOrgansSpec : ChangeSpec := { name := "pieceOrgans", fn := fun _ => fun
  | [d1, d2] => { results := [.lit (.bool true)], args := [d1, d2] }
  | _ => none }
def pieceOrgansRow : OpenClaim := { program := "ytnhdddmhkhdlhaagreatdoor", sum := "733d1a97a94c41aa3e4fd2dbff93876d1bf9d4700c2884ab143eeb2da78ceb88", func := "bombarde/bombardelaw45.PieceOrgans", spec := "pieceOrgans", inPlace := ["internal/abi.NoEscape", "internal/bytealg.MakeNoZero", "internal/bytealg.abigen_runtime_cmpstring"], unfollowed := true, recurses := true, named := ["internal/strconv.uint64pow10", "math/bits.deBruijn32tab", "math/bits.deBruijn64tab"], plainKeys := false, apart := false, laid := [("math/bits.deBruijn32tab", laid_math_bits_deBruijn32tab), ("math/bits.deBruijn64tab", laid_math_bits_deBruijn64tab), ("internal/strconv.uint64pow10", laid_internal_strconv_uint64pow10)] }
def PieceOrgansSaid : Prop := pieceOrgansRow.holds Tryz.pinned (OpenSpec.ofChange pieceOrgansSpec)

/-- ITS FALSE NEIGHBOUR: 'it returns false'. Refute it at one input. -/
def pieceOrgansWrong : ChangeSpec := { name := "pieceOrgans", fn := fun _ => fun
  | [d1, d2] => { results := [.lit (.bool false)], args := [d1, d2] }
  | _ => none }
def PieceOrgansWrongFalsely : Prop := pieceOrgansRow.holds Tryz.pinned (OpenSpec.ofChange pieceOrgansWrong)

/-- 'bombardelaw45.PieceSlices': WHATEVER THE INPUT: true; the input reads as it did. -/
def pieceSlicesSpec : ChangeSpec := { name := "pieceSlices", fn := fun _ => fun
  | [d] => { results := [.lit (.bool true)], args := [d] }
  | _ => none }
def pieceSlicesRow : OpenClaim := { program := "ytnhdddmhkhdlhaagreatdoor", sum := "733d1a97a94c41aa3e4fd2dbff93876d1bf9d4700c2884ab143eeb2da78ceb88", func := "bombarde/bombardelaw45.PieceSlices", spec := "pieceSlices", inPlace := ["internal/abi.NoEscape", "internal/bytealg.MakeNoZero", "internal/bytealg.abigen_runtime_cmpstring"], unfollowed := true, recurses := true, named := ["internal/strconv.uint64pow10", "math/bits.deBruijn32tab", "math/bits.deBruijn64tab"], plainKeys := false, apart := false, laid := [("math/bits.deBruijn32tab", laid_math_bits_deBruijn32tab), ("math/bits.deBruijn64tab", laid_math_bits_deBruijn64tab), ("internal/strconv.uint64pow10", laid_internal_strconv_uint64pow10)] }
def PieceSlicesSaid : Prop := pieceSlicesRow.holds Tryz.pinned (OpenSpec.ofChange pieceSlicesSpec)

/-- ITS FALSE NEIGHBOUR: 'it returns false'. Refute it at one input. -/
def pieceSlicesWrong : ChangeSpec := { name := "pieceSlices", fn := fun _ => fun
  | [d] => { results := [.lit (.bool false)], args := [d] }
  | _ => none }
def PieceSlicesWrongFalsely : Prop := pieceSlicesRow.holds Tryz.pinned (OpenSpec.ofChange pieceSlicesWrong)

/-- 'bombardelaw45.PieceCuts': WHATEVER THE INPUT: true; the input reads as it did. -/
def pieceCutsSpec : ChangeSpec := { name := "pieceCuts", fn := fun _ => fun
  | [d1, d2, d3] => { results := [.lit (.bool true)], args := [d1, d2, d3] }
  | _ => none }
def pieceCutsRow : OpenClaim := { program := "ytnhdddmhkhdlhaagreatdoor", sum := "733d1a97a94c41aa3e4fd2dbff93876d1bf9d4700c2884ab143eeb2da78ceb88", func := "bombarde/bombardelaw45.PieceCuts", spec := "pieceCuts", inPlace := ["internal/abi.NoEscape", "internal/bytealg.MakeNoZero", "internal/bytealg.abigen_runtime_cmpstring"], unfollowed := true, recurses := true, named := ["internal/strconv.uint64pow10", "math/bits.deBruijn32tab", "math/bits.deBruijn64tab"], plainKeys := false, apart := false, laid := [("math/bits.deBruijn32tab", laid_math_bits_deBruijn32tab), ("math/bits.deBruijn64tab", laid_math_bits_deBruijn64tab), ("internal/strconv.uint64pow10", laid_internal_strconv_uint64pow10)] }
def PieceCutsSaid : Prop := pieceCutsRow.holds Tryz.pinned (OpenSpec.ofChange pieceCutsSpec)

/-- ITS FALSE NEIGHBOUR: 'it returns false'. Refute it at one input. -/
def pieceCutsWrong : ChangeSpec := { name := "pieceCuts", fn := fun _ => fun
  | [d1, d2, d3] => { results := [.lit (.bool false)], args := [d1, d2, d3] }
  | _ => none }
def PieceCutsWrongFalsely : Prop := pieceCutsRow.holds Tryz.pinned (OpenSpec.ofChange pieceCutsWrong)

/-- 'bombardelaw45.PieceEquals': WHATEVER THE INPUT: true; the input reads as it did. -/
def pieceEqualsSpec : ChangeSpec := { name := "pieceEquals", fn := fun _ => fun
  | [d1, d2, d3] => { results := [.lit (.bool true)], args := [d1, d2, d3] }
  | _ => none }
def pieceEqualsRow : OpenClaim := { program := "ytnhdddmhkhdlhaagreatdoor", sum := "733d1a97a94c41aa3e4fd2dbff93876d1bf9d4700c2884ab143eeb2da78ceb88", func := "bombarde/bombardelaw45.PieceEquals", spec := "pieceEquals", inPlace := ["internal/abi.NoEscape", "internal/bytealg.MakeNoZero", "internal/bytealg.abigen_runtime_cmpstring"], unfollowed := true, recurses := true, named := ["internal/strconv.uint64pow10", "math/bits.deBruijn32tab", "math/bits.deBruijn64tab"], plainKeys := false, apart := false, laid := [("math/bits.deBruijn32tab", laid_math_bits_deBruijn32tab), ("math/bits.deBruijn64tab", laid_math_bits_deBruijn64tab), ("internal/strconv.uint64pow10", laid_internal_strconv_uint64pow10)] }
def PieceEqualsSaid : Prop := pieceEqualsRow.holds Tryz.pinned (OpenSpec.ofChange pieceEqualsSpec)

/-- ITS FALSE NEIGHBOUR: 'it returns false'. Refute it at one input. -/
def pieceEqualsWrong : ChangeSpec := { name := "pieceEquals", fn := fun _ => fun
  | [d1, d2, d3] => { results := [.lit (.bool false)], args := [d1, d2, d3] }
  | _ => none }
def PieceEqualsWrongFalsely : Prop := pieceEqualsRow.holds Tryz.pinned (OpenSpec.ofChange pieceEqualsWrong)

/-- 'bombardelaw45.PieceTransposes': WHATEVER THE INPUT: true; the input reads as it did. -/
def pieceTransposesSpec : ChangeSpec := { name := "pieceTransposes", fn := fun _ => fun
  | [d1, d2] => { results := [.lit (.bool true)], args := [d1, d2] }
  | _ => none }
def pieceTransposesRow : OpenClaim := { program := "ytnhdddmhkhdlhaagreatdoor", sum := "733d1a97a94c41aa3e4fd2dbff93876d1bf9d4700c2884ab143eeb2da78ceb88", func := "bombarde/bombardelaw45.PieceTransposes", spec := "pieceTransposes", inPlace := ["internal/abi.NoEscape", "internal/bytealg.MakeNoZero", "internal/bytealg.abigen_runtime_cmpstring"], unfollowed := true, recurses := true, named := ["internal/strconv.uint64pow10", "math/bits.deBruijn32tab", "math/bits.deBruijn64tab"], plainKeys := false, apart := false, laid := [("math/bits.deBruijn32tab", laid_math_bits_deBruijn32tab), ("math/bits.deBruijn64tab", laid_math_bits_deBruijn64tab), ("internal/strconv.uint64pow10", laid_internal_strconv_uint64pow10)] }
def PieceTransposesSaid : Prop := pieceTransposesRow.holds Tryz.pinned (OpenSpec.ofChange pieceTransposesSpec)

/-- ITS FALSE NEIGHBOUR: 'it returns false'. Refute it at one input. -/
def pieceTransposesWrong : ChangeSpec := { name := "pieceTransposes", fn := fun _ => fun
  | [d1, d2] => { results := [.lit (.bool false)], args := [d1, d2] }
  | _ => none }
def PieceTransposesWrongFalsely : Prop := pieceTransposesRow.holds Tryz.pinned (OpenSpec.ofChange pieceTransposesWrong)

/-- 'bombardelaw45.PieceFollows': WHATEVER THE INPUT: true; the input reads as it did. -/
def pieceFollowsSpec : ChangeSpec := { name := "pieceFollows", fn := fun _ => fun
  | [d1, d2, d3] => { results := [.lit (.bool true)], args := [d1, d2, d3] }
  | _ => none }
def pieceFollowsRow : OpenClaim := { program := "ytnhdddmhkhdlhaagreatdoor", sum := "733d1a97a94c41aa3e4fd2dbff93876d1bf9d4700c2884ab143eeb2da78ceb88", func := "bombarde/bombardelaw45.PieceFollows", spec := "pieceFollows", inPlace := ["internal/abi.NoEscape", "internal/bytealg.MakeNoZero", "internal/bytealg.abigen_runtime_cmpstring"], unfollowed := true, recurses := true, named := ["internal/strconv.uint64pow10", "math/bits.deBruijn32tab", "math/bits.deBruijn64tab"], plainKeys := false, apart := false, laid := [("math/bits.deBruijn32tab", laid_math_bits_deBruijn32tab), ("math/bits.deBruijn64tab", laid_math_bits_deBruijn64tab), ("internal/strconv.uint64pow10", laid_internal_strconv_uint64pow10)] }
def PieceFollowsSaid : Prop := pieceFollowsRow.holds Tryz.pinned (OpenSpec.ofChange pieceFollowsSpec)

/-- ITS FALSE NEIGHBOUR: 'it returns false'. Refute it at one input. -/
def pieceFollowsWrong : ChangeSpec := { name := "pieceFollows", fn := fun _ => fun
  | [d1, d2, d3] => { results := [.lit (.bool false)], args := [d1, d2, d3] }
  | _ => none }
def PieceFollowsWrongFalsely : Prop := pieceFollowsRow.holds Tryz.pinned (OpenSpec.ofChange pieceFollowsWrong)

/-- 'bombardelaw45.PieceTicks': WHATEVER THE INPUT: true; the input reads as it did. -/
def pieceTicksSpec : ChangeSpec := { name := "pieceTicks", fn := fun _ => fun
  | [d1, d2] => { results := [.lit (.bool true)], args := [d1, d2] }
  | _ => none }
def pieceTicksRow : OpenClaim := { program := "ytnhdddmhkhdlhaagreatdoor", sum := "733d1a97a94c41aa3e4fd2dbff93876d1bf9d4700c2884ab143eeb2da78ceb88", func := "bombarde/bombardelaw45.PieceTicks", spec := "pieceTicks", inPlace := ["internal/abi.NoEscape", "internal/bytealg.MakeNoZero", "internal/bytealg.abigen_runtime_cmpstring"], unfollowed := true, recurses := true, named := ["internal/strconv.uint64pow10", "math/bits.deBruijn32tab", "math/bits.deBruijn64tab"], plainKeys := false, apart := false, laid := [("math/bits.deBruijn32tab", laid_math_bits_deBruijn32tab), ("math/bits.deBruijn64tab", laid_math_bits_deBruijn64tab), ("internal/strconv.uint64pow10", laid_internal_strconv_uint64pow10)] }
def PieceTicksSaid : Prop := pieceTicksRow.holds Tryz.pinned (OpenSpec.ofChange pieceTicksSpec)

/-- ITS FALSE NEIGHBOUR: 'it returns false'. Refute it at one input. -/
def pieceTicksWrong : ChangeSpec := { name := "pieceTicks", fn := fun _ => fun
  | [d1, d2] => { results := [.lit (.bool false)], args := [d1, d2] }
  | _ => none }
def PieceTicksWrongFalsely : Prop := pieceTicksRow.holds Tryz.pinned (OpenSpec.ofChange pieceTicksWrong)

/-- 'bombardelaw45.PieceChecks': WHATEVER THE INPUT: true; the input reads as it did. -/
def pieceChecksSpec : ChangeSpec := { name := "pieceChecks", fn := fun _ => fun
  | [d1, d2, d3] => { results := [.lit (.bool true)], args := [d1, d2, d3] }
  | _ => none }
def pieceChecksRow : OpenClaim := { program := "ytnhdddmhkhdlhaagreatdoor", sum := "733d1a97a94c41aa3e4fd2dbff93876d1bf9d4700c2884ab143eeb2da78ceb88", func := "bombarde/bombardelaw45.PieceChecks", spec := "pieceChecks", inPlace := ["internal/abi.NoEscape", "internal/bytealg.MakeNoZero", "internal/bytealg.abigen_runtime_cmpstring"], unfollowed := true, recurses := true, named := ["internal/strconv.uint64pow10", "math/bits.deBruijn32tab", "math/bits.deBruijn64tab"], plainKeys := false, apart := false, laid := [("math/bits.deBruijn32tab", laid_math_bits_deBruijn32tab), ("math/bits.deBruijn64tab", laid_math_bits_deBruijn64tab), ("internal/strconv.uint64pow10", laid_internal_strconv_uint64pow10)] }
def PieceChecksSaid : Prop := pieceChecksRow.holds Tryz.pinned (OpenSpec.ofChange pieceChecksSpec)

/-- ITS FALSE NEIGHBOUR: 'it returns false'. Refute it at one input. -/
def pieceChecksWrong : ChangeSpec := { name := "pieceChecks", fn := fun _ => fun
  | [d1, d2, d3] => { results := [.lit (.bool false)], args := [d1, d2, d3] }
  | _ => none }
def PieceChecksWrongFalsely : Prop := pieceChecksRow.holds Tryz.pinned (OpenSpec.ofChange pieceChecksWrong)

/- THE SECOND FORM. 'bulk': how many values and letters a reading holds, each counted each time it is reached (what is shared counts as often as it is met; a slice's spare places count too). A statement '..UptoSaid' is the law's where the arguments, and the package variables that the reading takes, are together of bulk at most 1048576: NARROWER than '..Said'. Prove '..Said' where nothing that the law and all that it calls make is longer than what came in: it says more and counts as full. Else prove '..UptoSaid'. A law counts once. -/
mutual
def uptoBulk {H : Type} : DataW H → Nat
  | .lit (.string bytes) => bytes.length + 1
  | .lit _ => 1
  | .nil => 1
  | .ptr d => uptoBulk d + 1
  | .slice elems spare => uptoBulkAll elems + uptoBulkAll spare + 1
  | .agg parts => uptoBulkAll parts + 1
  | .iface _ d => uptoBulk d + 1
  | .map entries => uptoBulkEntries entries + 1
  | .held _ => 1
def uptoBulkAll {H : Type} : List (DataW H) → Nat
  | [] => 0
  | d :: r => uptoBulk d + uptoBulkAll r
def uptoBulkEntries {H : Type} : List (Lit × DataW H) → Nat
  | [] => 0
  | x :: r => uptoBulkEntry x + uptoBulkEntries r
def uptoBulkEntry {H : Type} : Lit × DataW H → Nat
  | (.string bytes, d) => bytes.length + uptoBulk d + 1
  | (_, d) => uptoBulk d + 1
 end
def uptoSmall : (H : Type) → List (DataW H) → Bool := fun _ ds => decide (uptoBulkAll ds ≤ 1048576)
def OpenSpec.upto (s : _root_.Go.ChangeSpec) : _root_.Go.OpenSpec := { _root_.Go.OpenSpec.ofChange s with cond := some uptoSmall }

/-- 'bombardelaw45.PieceOrgans', WHERE WHAT IT READS IS OF BULK AT MOST 1048576: true; the input reads as it did. -/
def pieceOrgansUptoRow : OpenClaim := { program := "ytnhdddmhkhdlhaagreatdoor", sum := "733d1a97a94c41aa3e4fd2dbff93876d1bf9d4700c2884ab143eeb2da78ceb88", func := "bombarde/bombardelaw45.PieceOrgans", spec := "pieceOrgans", inPlace := ["internal/abi.NoEscape", "internal/bytealg.MakeNoZero", "internal/bytealg.abigen_runtime_cmpstring"], unfollowed := true, recurses := true, named := ["internal/strconv.uint64pow10", "math/bits.deBruijn32tab", "math/bits.deBruijn64tab"], plainKeys := false, apart := false, laid := [("math/bits.deBruijn32tab", laid_math_bits_deBruijn32tab), ("math/bits.deBruijn64tab", laid_math_bits_deBruijn64tab), ("internal/strconv.uint64pow10", laid_internal_strconv_uint64pow10)], narrowed := true }
def PieceOrgansUptoSaid : Prop := pieceOrgansUptoRow.holds Tryz.pinned (OpenSpec.upto pieceOrgansSpec)

/-- 'bombardelaw45.PieceSlices', WHERE WHAT IT READS IS OF BULK AT MOST 1048576: true; the input reads as it did. -/
def pieceSlicesUptoRow : OpenClaim := { program := "ytnhdddmhkhdlhaagreatdoor", sum := "733d1a97a94c41aa3e4fd2dbff93876d1bf9d4700c2884ab143eeb2da78ceb88", func := "bombarde/bombardelaw45.PieceSlices", spec := "pieceSlices", inPlace := ["internal/abi.NoEscape", "internal/bytealg.MakeNoZero", "internal/bytealg.abigen_runtime_cmpstring"], unfollowed := true, recurses := true, named := ["internal/strconv.uint64pow10", "math/bits.deBruijn32tab", "math/bits.deBruijn64tab"], plainKeys := false, apart := false, laid := [("math/bits.deBruijn32tab", laid_math_bits_deBruijn32tab), ("math/bits.deBruijn64tab", laid_math_bits_deBruijn64tab), ("internal/strconv.uint64pow10", laid_internal_strconv_uint64pow10)], narrowed := true }
def PieceSlicesUptoSaid : Prop := pieceSlicesUptoRow.holds Tryz.pinned (OpenSpec.upto pieceSlicesSpec)

/-- 'bombardelaw45.PieceCuts', WHERE WHAT IT READS IS OF BULK AT MOST 1048576: true; the input reads as it did. -/
def pieceCutsUptoRow : OpenClaim := { program := "ytnhdddmhkhdlhaagreatdoor", sum := "733d1a97a94c41aa3e4fd2dbff93876d1bf9d4700c2884ab143eeb2da78ceb88", func := "bombarde/bombardelaw45.PieceCuts", spec := "pieceCuts", inPlace := ["internal/abi.NoEscape", "internal/bytealg.MakeNoZero", "internal/bytealg.abigen_runtime_cmpstring"], unfollowed := true, recurses := true, named := ["internal/strconv.uint64pow10", "math/bits.deBruijn32tab", "math/bits.deBruijn64tab"], plainKeys := false, apart := false, laid := [("math/bits.deBruijn32tab", laid_math_bits_deBruijn32tab), ("math/bits.deBruijn64tab", laid_math_bits_deBruijn64tab), ("internal/strconv.uint64pow10", laid_internal_strconv_uint64pow10)], narrowed := true }
def PieceCutsUptoSaid : Prop := pieceCutsUptoRow.holds Tryz.pinned (OpenSpec.upto pieceCutsSpec)

/-- 'bombardelaw45.PieceEquals', WHERE WHAT IT READS IS OF BULK AT MOST 1048576: true; the input reads as it did. -/
def pieceEqualsUptoRow : OpenClaim := { program := "ytnhdddmhkhdlhaagreatdoor", sum := "733d1a97a94c41aa3e4fd2dbff93876d1bf9d4700c2884ab143eeb2da78ceb88", func := "bombarde/bombardelaw45.PieceEquals", spec := "pieceEquals", inPlace := ["internal/abi.NoEscape", "internal/bytealg.MakeNoZero", "internal/bytealg.abigen_runtime_cmpstring"], unfollowed := true, recurses := true, named := ["internal/strconv.uint64pow10", "math/bits.deBruijn32tab", "math/bits.deBruijn64tab"], plainKeys := false, apart := false, laid := [("math/bits.deBruijn32tab", laid_math_bits_deBruijn32tab), ("math/bits.deBruijn64tab", laid_math_bits_deBruijn64tab), ("internal/strconv.uint64pow10", laid_internal_strconv_uint64pow10)], narrowed := true }
def PieceEqualsUptoSaid : Prop := pieceEqualsUptoRow.holds Tryz.pinned (OpenSpec.upto pieceEqualsSpec)

/-- 'bombardelaw45.PieceTransposes', WHERE WHAT IT READS IS OF BULK AT MOST 1048576: true; the input reads as it did. -/
def pieceTransposesUptoRow : OpenClaim := { program := "ytnhdddmhkhdlhaagreatdoor", sum := "733d1a97a94c41aa3e4fd2dbff93876d1bf9d4700c2884ab143eeb2da78ceb88", func := "bombarde/bombardelaw45.PieceTransposes", spec := "pieceTransposes", inPlace := ["internal/abi.NoEscape", "internal/bytealg.MakeNoZero", "internal/bytealg.abigen_runtime_cmpstring"], unfollowed := true, recurses := true, named := ["internal/strconv.uint64pow10", "math/bits.deBruijn32tab", "math/bits.deBruijn64tab"], plainKeys := false, apart := false, laid := [("math/bits.deBruijn32tab", laid_math_bits_deBruijn32tab), ("math/bits.deBruijn64tab", laid_math_bits_deBruijn64tab), ("internal/strconv.uint64pow10", laid_internal_strconv_uint64pow10)], narrowed := true }
def PieceTransposesUptoSaid : Prop := pieceTransposesUptoRow.holds Tryz.pinned (OpenSpec.upto pieceTransposesSpec)

/-- 'bombardelaw45.PieceFollows', WHERE WHAT IT READS IS OF BULK AT MOST 1048576: true; the input reads as it did. -/
def pieceFollowsUptoRow : OpenClaim := { program := "ytnhdddmhkhdlhaagreatdoor", sum := "733d1a97a94c41aa3e4fd2dbff93876d1bf9d4700c2884ab143eeb2da78ceb88", func := "bombarde/bombardelaw45.PieceFollows", spec := "pieceFollows", inPlace := ["internal/abi.NoEscape", "internal/bytealg.MakeNoZero", "internal/bytealg.abigen_runtime_cmpstring"], unfollowed := true, recurses := true, named := ["internal/strconv.uint64pow10", "math/bits.deBruijn32tab", "math/bits.deBruijn64tab"], plainKeys := false, apart := false, laid := [("math/bits.deBruijn32tab", laid_math_bits_deBruijn32tab), ("math/bits.deBruijn64tab", laid_math_bits_deBruijn64tab), ("internal/strconv.uint64pow10", laid_internal_strconv_uint64pow10)], narrowed := true }
def PieceFollowsUptoSaid : Prop := pieceFollowsUptoRow.holds Tryz.pinned (OpenSpec.upto pieceFollowsSpec)

/-- 'bombardelaw45.PieceTicks', WHERE WHAT IT READS IS OF BULK AT MOST 1048576: true; the input reads as it did. -/
def pieceTicksUptoRow : OpenClaim := { program := "ytnhdddmhkhdlhaagreatdoor", sum := "733d1a97a94c41aa3e4fd2dbff93876d1bf9d4700c2884ab143eeb2da78ceb88", func := "bombarde/bombardelaw45.PieceTicks", spec := "pieceTicks", inPlace := ["internal/abi.NoEscape", "internal/bytealg.MakeNoZero", "internal/bytealg.abigen_runtime_cmpstring"], unfollowed := true, recurses := true, named := ["internal/strconv.uint64pow10", "math/bits.deBruijn32tab", "math/bits.deBruijn64tab"], plainKeys := false, apart := false, laid := [("math/bits.deBruijn32tab", laid_math_bits_deBruijn32tab), ("math/bits.deBruijn64tab", laid_math_bits_deBruijn64tab), ("internal/strconv.uint64pow10", laid_internal_strconv_uint64pow10)], narrowed := true }
def PieceTicksUptoSaid : Prop := pieceTicksUptoRow.holds Tryz.pinned (OpenSpec.upto pieceTicksSpec)

/-- 'bombardelaw45.PieceChecks', WHERE WHAT IT READS IS OF BULK AT MOST 1048576: true; the input reads as it did. -/
def pieceChecksUptoRow : OpenClaim := { program := "ytnhdddmhkhdlhaagreatdoor", sum := "733d1a97a94c41aa3e4fd2dbff93876d1bf9d4700c2884ab143eeb2da78ceb88", func := "bombarde/bombardelaw45.PieceChecks", spec := "pieceChecks", inPlace := ["internal/abi.NoEscape", "internal/bytealg.MakeNoZero", "internal/bytealg.abigen_runtime_cmpstring"], unfollowed := true, recurses := true, named := ["internal/strconv.uint64pow10", "math/bits.deBruijn32tab", "math/bits.deBruijn64tab"], plainKeys := false, apart := false, laid := [("math/bits.deBruijn32tab", laid_math_bits_deBruijn32tab), ("math/bits.deBruijn64tab", laid_math_bits_deBruijn64tab), ("internal/strconv.uint64pow10", laid_internal_strconv_uint64pow10)], narrowed := true }
def PieceChecksUptoSaid : Prop := pieceChecksUptoRow.holds Tryz.pinned (OpenSpec.upto pieceChecksSpec)

end Rows
end Go.Proofs.YtnhdddmhkhdlhaaGreatDoor

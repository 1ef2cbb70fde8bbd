/-
  NARROWER THAN 'FOR EVERY INPUT', by the rows' own cells (each row's printed sentence says how): TransferLosses: laid · TransferBest: laid · TransferVerifies: laid · TransferMore: laid · TransferLimits: laid · TransferStops: laid · TransferChecks: laid · TransferCarries: laid · TransferItself: laid.
  DERIVED. THE GIVEN ROWS OF THIS SEAT. 9 by the template 'for every input the law returns true; each argument reads behind the call as it read before'; 0 by the template 'total and deterministic' (their statements: YtdabojnmoejilaaGreatDoorTotals.lean).
  GIVEN WITH THE SEED: the statements are not yours to turn. If you find one false, say at which input.
  Laid BY PROGRAM, IN A SANDBOX (cutbox-rows.mjs): the forced cells as the released guide's own fill.sh prints them over the translation 85af5c83752804ee… (all of the seat's roots in one cut). By AI agents, Wed Nov 11 2026. No macro, syntax, notation, axiom, sorry.
-/
import Derived.Test.YtdabojnmoejilaaGreatDoorChecked
import GoSem.Claim
import GoSem.ClaimJoined
import GoSem.ClaimMapViews
import Derived.JoinedTies
import Derived.KernelRfl
namespace Go.Proofs.YtdabojnmoejilaaGreatDoor
/- THE CELL 'sum', in the pinned program and in every row, IS THE sha256 OF THE DUMP (.gsa) THAT YtdabojnmoejilaaGreatDoorProg.lean LOADS. Nothing in Lean hashes anything: it is a label: what it is worth is what the hold of that sum in a sandbox is worth. -/
noncomputable def Tryz.pinned : Pinned := { name := "ytdabojnmoejilaagreatdoor", sum := "85af5c83752804eee6b20f4ba9c4121d9b5ab9781b3a62d6f5a4ba2aa86abc91", checked := Tryz.checked }
namespace Rows
def none {H : Type} : Left H := { results := [], args := [] }

/- WHAT THE LISTED PACKAGE-LEVEL VARIABLES READ AS WHEN THE CALL BEGINS. Each datum BY PROGRAM (the guide's laid-datum.mjs) off the statement by which the dump's own 'gosem.cut.vars' lays the variable. In a bare row this is a premise. The card (YtdabojnmoejilaaGreatDoorCards.lean) ties it to the program's text. -/
def laid_math_bits_deBruijn32tab {H : Type} : DataW H := .agg [.lit (.int .u8 0), .lit (.int .u8 1), .lit (.int .u8 28), .lit (.int .u8 2), .lit (.int .u8 29), .lit (.int .u8 14), .lit (.int .u8 24), .lit (.int .u8 3), .lit (.int .u8 30), .lit (.int .u8 22), .lit (.int .u8 20), .lit (.int .u8 15), .lit (.int .u8 25), .lit (.int .u8 17), .lit (.int .u8 4), .lit (.int .u8 8), .lit (.int .u8 31), .lit (.int .u8 27), .lit (.int .u8 13), .lit (.int .u8 23), .lit (.int .u8 21), .lit (.int .u8 19), .lit (.int .u8 16), .lit (.int .u8 7), .lit (.int .u8 26), .lit (.int .u8 12), .lit (.int .u8 18), .lit (.int .u8 6), .lit (.int .u8 11), .lit (.int .u8 5), .lit (.int .u8 10), .lit (.int .u8 9)]
def laid_math_bits_deBruijn64tab {H : Type} : DataW H := .agg [.lit (.int .u8 0), .lit (.int .u8 1), .lit (.int .u8 56), .lit (.int .u8 2), .lit (.int .u8 57), .lit (.int .u8 49), .lit (.int .u8 28), .lit (.int .u8 3), .lit (.int .u8 61), .lit (.int .u8 58), .lit (.int .u8 42), .lit (.int .u8 50), .lit (.int .u8 38), .lit (.int .u8 29), .lit (.int .u8 17), .lit (.int .u8 4), .lit (.int .u8 62), .lit (.int .u8 47), .lit (.int .u8 59), .lit (.int .u8 36), .lit (.int .u8 45), .lit (.int .u8 43), .lit (.int .u8 51), .lit (.int .u8 22), .lit (.int .u8 53), .lit (.int .u8 39), .lit (.int .u8 33), .lit (.int .u8 30), .lit (.int .u8 24), .lit (.int .u8 18), .lit (.int .u8 12), .lit (.int .u8 5), .lit (.int .u8 63), .lit (.int .u8 55), .lit (.int .u8 48), .lit (.int .u8 27), .lit (.int .u8 60), .lit (.int .u8 41), .lit (.int .u8 37), .lit (.int .u8 16), .lit (.int .u8 46), .lit (.int .u8 35), .lit (.int .u8 44), .lit (.int .u8 21), .lit (.int .u8 52), .lit (.int .u8 32), .lit (.int .u8 23), .lit (.int .u8 11), .lit (.int .u8 54), .lit (.int .u8 26), .lit (.int .u8 40), .lit (.int .u8 15), .lit (.int .u8 34), .lit (.int .u8 20), .lit (.int .u8 31), .lit (.int .u8 10), .lit (.int .u8 25), .lit (.int .u8 14), .lit (.int .u8 19), .lit (.int .u8 9), .lit (.int .u8 13), .lit (.int .u8 8), .lit (.int .u8 7), .lit (.int .u8 6)]
def laid_internal_strconv_uint64pow10 {H : Type} : DataW H := .agg [.lit (.int .u64 1), .lit (.int .u64 10), .lit (.int .u64 100), .lit (.int .u64 1000), .lit (.int .u64 10000), .lit (.int .u64 100000), .lit (.int .u64 1000000), .lit (.int .u64 10000000), .lit (.int .u64 100000000), .lit (.int .u64 1000000000), .lit (.int .u64 10000000000), .lit (.int .u64 100000000000), .lit (.int .u64 1000000000000), .lit (.int .u64 10000000000000), .lit (.int .u64 100000000000000), .lit (.int .u64 1000000000000000), .lit (.int .u64 10000000000000000), .lit (.int .u64 100000000000000000), .lit (.int .u64 1000000000000000000), .lit (.int .u64 10000000000000000000)]

/-- 'bombardelaw40.TransferLosses': WHATEVER THE INPUT: true; the input reads as it did. -/
def transferLossesSpec : ChangeSpec := { name := "transferLosses", fn := fun _ => fun
  | [d] => { results := [.lit (.bool true)], args := [d] }
  | _ => none }
def transferLossesRow : OpenClaim := { program := "ytdabojnmoejilaagreatdoor", sum := "85af5c83752804eee6b20f4ba9c4121d9b5ab9781b3a62d6f5a4ba2aa86abc91", func := "bombarde/bombardelaw40.TransferLosses", spec := "transferLosses", inPlace := ["internal/abi.NoEscape", "internal/bytealg.MakeNoZero", "internal/bytealg.abigen_runtime_cmpstring"], unfollowed := true, recurses := true, named := ["internal/strconv.uint64pow10", "math/bits.deBruijn32tab", "math/bits.deBruijn64tab"], plainKeys := false, apart := false, laid := [("math/bits.deBruijn32tab", laid_math_bits_deBruijn32tab), ("math/bits.deBruijn64tab", laid_math_bits_deBruijn64tab), ("internal/strconv.uint64pow10", laid_internal_strconv_uint64pow10)] }
def TransferLossesSaid : Prop := transferLossesRow.holds Tryz.pinned (OpenSpec.ofChange transferLossesSpec)

/-- ITS FALSE NEIGHBOUR: 'it returns false'. Refute it at one input. -/
def transferLossesWrong : ChangeSpec := { name := "transferLosses", fn := fun _ => fun
  | [d] => { results := [.lit (.bool false)], args := [d] }
  | _ => none }
def TransferLossesWrongFalsely : Prop := transferLossesRow.holds Tryz.pinned (OpenSpec.ofChange transferLossesWrong)

/-- 'bombardelaw40.TransferBest': WHATEVER THE INPUT: true; the input reads as it did. -/
def transferBestSpec : ChangeSpec := { name := "transferBest", fn := fun _ => fun
  | [d] => { results := [.lit (.bool true)], args := [d] }
  | _ => none }
def transferBestRow : OpenClaim := { program := "ytdabojnmoejilaagreatdoor", sum := "85af5c83752804eee6b20f4ba9c4121d9b5ab9781b3a62d6f5a4ba2aa86abc91", func := "bombarde/bombardelaw40.TransferBest", spec := "transferBest", inPlace := ["internal/abi.NoEscape", "internal/bytealg.MakeNoZero", "internal/bytealg.abigen_runtime_cmpstring"], unfollowed := true, recurses := true, named := ["internal/strconv.uint64pow10", "math/bits.deBruijn32tab", "math/bits.deBruijn64tab"], plainKeys := false, apart := false, laid := [("math/bits.deBruijn32tab", laid_math_bits_deBruijn32tab), ("math/bits.deBruijn64tab", laid_math_bits_deBruijn64tab), ("internal/strconv.uint64pow10", laid_internal_strconv_uint64pow10)] }
def TransferBestSaid : Prop := transferBestRow.holds Tryz.pinned (OpenSpec.ofChange transferBestSpec)

/-- ITS FALSE NEIGHBOUR: 'it returns false'. Refute it at one input. -/
def transferBestWrong : ChangeSpec := { name := "transferBest", fn := fun _ => fun
  | [d] => { results := [.lit (.bool false)], args := [d] }
  | _ => none }
def TransferBestWrongFalsely : Prop := transferBestRow.holds Tryz.pinned (OpenSpec.ofChange transferBestWrong)

/-- 'bombardelaw40.TransferVerifies': WHATEVER THE INPUT: true; the input reads as it did. -/
def transferVerifiesSpec : ChangeSpec := { name := "transferVerifies", fn := fun _ => fun
  | [d1, d2] => { results := [.lit (.bool true)], args := [d1, d2] }
  | _ => none }
def transferVerifiesRow : OpenClaim := { program := "ytdabojnmoejilaagreatdoor", sum := "85af5c83752804eee6b20f4ba9c4121d9b5ab9781b3a62d6f5a4ba2aa86abc91", func := "bombarde/bombardelaw40.TransferVerifies", spec := "transferVerifies", inPlace := ["internal/abi.NoEscape", "internal/bytealg.MakeNoZero", "internal/bytealg.abigen_runtime_cmpstring"], unfollowed := true, recurses := true, named := ["internal/strconv.uint64pow10", "math/bits.deBruijn32tab", "math/bits.deBruijn64tab"], plainKeys := false, apart := false, laid := [("math/bits.deBruijn32tab", laid_math_bits_deBruijn32tab), ("math/bits.deBruijn64tab", laid_math_bits_deBruijn64tab), ("internal/strconv.uint64pow10", laid_internal_strconv_uint64pow10)] }
def TransferVerifiesSaid : Prop := transferVerifiesRow.holds Tryz.pinned (OpenSpec.ofChange transferVerifiesSpec)

/-- ITS FALSE NEIGHBOUR: 'it returns false'. Refute it at one input. -/
def transferVerifiesWrong : ChangeSpec := { name := "transferVerifies", fn := fun _ => fun
  | [d1, d2] => { results := [.lit (.bool false)], args := [d1, d2] }
  | _ => none }
def TransferVerifiesWrongFalsely : Prop := transferVerifiesRow.holds Tryz.pinned (OpenSpec.ofChange transferVerifiesWrong)

/-- 'bombardelaw40.TransferMore': WHATEVER THE INPUT: true; the input reads as it did. -/
def transferMoreSpec : ChangeSpec := { name := "transferMore", fn := fun _ => fun
  | [d1, d2, d3] => { results := [.lit (.bool true)], args := [d1, d2, d3] }
  | _ => none }
def transferMoreRow : OpenClaim := { program := "ytdabojnmoejilaagreatdoor", sum := "85af5c83752804eee6b20f4ba9c4121d9b5ab9781b3a62d6f5a4ba2aa86abc91", func := "bombarde/bombardelaw40.TransferMore", spec := "transferMore", inPlace := ["internal/abi.NoEscape", "internal/bytealg.MakeNoZero", "internal/bytealg.abigen_runtime_cmpstring"], unfollowed := true, recurses := true, named := ["internal/strconv.uint64pow10", "math/bits.deBruijn32tab", "math/bits.deBruijn64tab"], plainKeys := false, apart := false, laid := [("math/bits.deBruijn32tab", laid_math_bits_deBruijn32tab), ("math/bits.deBruijn64tab", laid_math_bits_deBruijn64tab), ("internal/strconv.uint64pow10", laid_internal_strconv_uint64pow10)] }
def TransferMoreSaid : Prop := transferMoreRow.holds Tryz.pinned (OpenSpec.ofChange transferMoreSpec)

/-- ITS FALSE NEIGHBOUR: 'it returns false'. Refute it at one input. -/
def transferMoreWrong : ChangeSpec := { name := "transferMore", fn := fun _ => fun
  | [d1, d2, d3] => { results := [.lit (.bool false)], args := [d1, d2, d3] }
  | _ => none }
def TransferMoreWrongFalsely : Prop := transferMoreRow.holds Tryz.pinned (OpenSpec.ofChange transferMoreWrong)

/-- 'bombardelaw40.TransferLimits': WHATEVER THE INPUT: true; the input reads as it did. -/
def transferLimitsSpec : ChangeSpec := { name := "transferLimits", fn := fun _ => fun
  | [d] => { results := [.lit (.bool true)], args := [d] }
  | _ => none }
def transferLimitsRow : OpenClaim := { program := "ytdabojnmoejilaagreatdoor", sum := "85af5c83752804eee6b20f4ba9c4121d9b5ab9781b3a62d6f5a4ba2aa86abc91", func := "bombarde/bombardelaw40.TransferLimits", spec := "transferLimits", inPlace := ["internal/abi.NoEscape", "internal/bytealg.MakeNoZero", "internal/bytealg.abigen_runtime_cmpstring"], unfollowed := true, recurses := true, named := ["internal/strconv.uint64pow10", "math/bits.deBruijn32tab", "math/bits.deBruijn64tab"], plainKeys := false, apart := false, laid := [("math/bits.deBruijn32tab", laid_math_bits_deBruijn32tab), ("math/bits.deBruijn64tab", laid_math_bits_deBruijn64tab), ("internal/strconv.uint64pow10", laid_internal_strconv_uint64pow10)] }
def TransferLimitsSaid : Prop := transferLimitsRow.holds Tryz.pinned (OpenSpec.ofChange transferLimitsSpec)

/-- ITS FALSE NEIGHBOUR: 'it returns false'. Refute it at one input. -/
def transferLimitsWrong : ChangeSpec := { name := "transferLimits", fn := fun _ => fun
  | [d] => { results := [.lit (.bool false)], args := [d] }
  | _ => none }
def TransferLimitsWrongFalsely : Prop := transferLimitsRow.holds Tryz.pinned (OpenSpec.ofChange transferLimitsWrong)

/-- 'bombardelaw40.TransferStops': WHATEVER THE INPUT: true; the input reads as it did. -/
def transferStopsSpec : ChangeSpec := { name := "transferStops", fn := fun _ => fun
  | [d1, d2] => { results := [.lit (.bool true)], args := [d1, d2] }
  | _ => none }
def transferStopsRow : OpenClaim := { program := "ytdabojnmoejilaagreatdoor", sum := "85af5c83752804eee6b20f4ba9c4121d9b5ab9781b3a62d6f5a4ba2aa86abc91", func := "bombarde/bombardelaw40.TransferStops", spec := "transferStops", inPlace := ["internal/abi.NoEscape", "internal/bytealg.MakeNoZero", "internal/bytealg.abigen_runtime_cmpstring"], unfollowed := true, recurses := true, named := ["internal/strconv.uint64pow10", "math/bits.deBruijn32tab", "math/bits.deBruijn64tab"], plainKeys := false, apart := false, laid := [("math/bits.deBruijn32tab", laid_math_bits_deBruijn32tab), ("math/bits.deBruijn64tab", laid_math_bits_deBruijn64tab), ("internal/strconv.uint64pow10", laid_internal_strconv_uint64pow10)] }
def TransferStopsSaid : Prop := transferStopsRow.holds Tryz.pinned (OpenSpec.ofChange transferStopsSpec)

/-- ITS FALSE NEIGHBOUR: 'it returns false'. Refute it at one input. -/
def transferStopsWrong : ChangeSpec := { name := "transferStops", fn := fun _ => fun
  | [d1, d2] => { results := [.lit (.bool false)], args := [d1, d2] }
  | _ => none }
def TransferStopsWrongFalsely : Prop := transferStopsRow.holds Tryz.pinned (OpenSpec.ofChange transferStopsWrong)

/-- 'bombardelaw40.TransferChecks': WHATEVER THE INPUT: true; the input reads as it did. -/
def transferChecksSpec : ChangeSpec := { name := "transferChecks", fn := fun _ => fun
  | [d1, d2, d3] => { results := [.lit (.bool true)], args := [d1, d2, d3] }
  | _ => none }
def transferChecksRow : OpenClaim := { program := "ytdabojnmoejilaagreatdoor", sum := "85af5c83752804eee6b20f4ba9c4121d9b5ab9781b3a62d6f5a4ba2aa86abc91", func := "bombarde/bombardelaw40.TransferChecks", spec := "transferChecks", inPlace := ["internal/abi.NoEscape", "internal/bytealg.MakeNoZero", "internal/bytealg.abigen_runtime_cmpstring"], unfollowed := true, recurses := true, named := ["internal/strconv.uint64pow10", "math/bits.deBruijn32tab", "math/bits.deBruijn64tab"], plainKeys := false, apart := false, laid := [("math/bits.deBruijn32tab", laid_math_bits_deBruijn32tab), ("math/bits.deBruijn64tab", laid_math_bits_deBruijn64tab), ("internal/strconv.uint64pow10", laid_internal_strconv_uint64pow10)] }
def TransferChecksSaid : Prop := transferChecksRow.holds Tryz.pinned (OpenSpec.ofChange transferChecksSpec)

/-- ITS FALSE NEIGHBOUR: 'it returns false'. Refute it at one input. -/
def transferChecksWrong : ChangeSpec := { name := "transferChecks", fn := fun _ => fun
  | [d1, d2, d3] => { results := [.lit (.bool false)], args := [d1, d2, d3] }
  | _ => none }
def TransferChecksWrongFalsely : Prop := transferChecksRow.holds Tryz.pinned (OpenSpec.ofChange transferChecksWrong)

/-- 'bombardelaw40.TransferCarries': WHATEVER THE INPUT: true; the input reads as it did. -/
def transferCarriesSpec : ChangeSpec := { name := "transferCarries", fn := fun _ => fun
  | [d1, d2] => { results := [.lit (.bool true)], args := [d1, d2] }
  | _ => none }
def transferCarriesRow : OpenClaim := { program := "ytdabojnmoejilaagreatdoor", sum := "85af5c83752804eee6b20f4ba9c4121d9b5ab9781b3a62d6f5a4ba2aa86abc91", func := "bombarde/bombardelaw40.TransferCarries", spec := "transferCarries", inPlace := ["internal/abi.NoEscape", "internal/bytealg.MakeNoZero", "internal/bytealg.abigen_runtime_cmpstring"], unfollowed := true, recurses := true, named := ["internal/strconv.uint64pow10", "math/bits.deBruijn32tab", "math/bits.deBruijn64tab"], plainKeys := false, apart := false, laid := [("math/bits.deBruijn32tab", laid_math_bits_deBruijn32tab), ("math/bits.deBruijn64tab", laid_math_bits_deBruijn64tab), ("internal/strconv.uint64pow10", laid_internal_strconv_uint64pow10)] }
def TransferCarriesSaid : Prop := transferCarriesRow.holds Tryz.pinned (OpenSpec.ofChange transferCarriesSpec)

/-- ITS FALSE NEIGHBOUR: 'it returns false'. Refute it at one input. -/
def transferCarriesWrong : ChangeSpec := { name := "transferCarries", fn := fun _ => fun
  | [d1, d2] => { results := [.lit (.bool false)], args := [d1, d2] }
  | _ => none }
def TransferCarriesWrongFalsely : Prop := transferCarriesRow.holds Tryz.pinned (OpenSpec.ofChange transferCarriesWrong)

/-- 'bombardelaw40.TransferItself': WHATEVER THE INPUT: true; the input reads as it did. -/
def transferItselfSpec : ChangeSpec := { name := "transferItself", fn := fun _ => fun
  | [d] => { results := [.lit (.bool true)], args := [d] }
  | _ => none }
def transferItselfRow : OpenClaim := { program := "ytdabojnmoejilaagreatdoor", sum := "85af5c83752804eee6b20f4ba9c4121d9b5ab9781b3a62d6f5a4ba2aa86abc91", func := "bombarde/bombardelaw40.TransferItself", spec := "transferItself", inPlace := ["internal/abi.NoEscape", "internal/bytealg.MakeNoZero", "internal/bytealg.abigen_runtime_cmpstring"], unfollowed := true, recurses := true, named := ["internal/strconv.uint64pow10", "math/bits.deBruijn32tab", "math/bits.deBruijn64tab"], plainKeys := false, apart := false, laid := [("math/bits.deBruijn32tab", laid_math_bits_deBruijn32tab), ("math/bits.deBruijn64tab", laid_math_bits_deBruijn64tab), ("internal/strconv.uint64pow10", laid_internal_strconv_uint64pow10)] }
def TransferItselfSaid : Prop := transferItselfRow.holds Tryz.pinned (OpenSpec.ofChange transferItselfSpec)

/-- ITS FALSE NEIGHBOUR: 'it returns false'. Refute it at one input. -/
def transferItselfWrong : ChangeSpec := { name := "transferItself", fn := fun _ => fun
  | [d] => { results := [.lit (.bool false)], args := [d] }
  | _ => none }
def TransferItselfWrongFalsely : Prop := transferItselfRow.holds Tryz.pinned (OpenSpec.ofChange transferItselfWrong)

/- THE SECOND FORM. 'bulk': how many values and letters a reading holds, each counted each time it is reached (what is shared counts as often as it is met; a slice's spare places count too). A statement '..UptoSaid' is the law's where the arguments, and the package variables that the reading takes, are together of bulk at most 1048576: NARROWER than '..Said'. Prove '..Said' where nothing that the law and all that it calls make is longer than what came in: it says more and counts as full. Else prove '..UptoSaid'. A law counts once. -/
mutual
def uptoBulk {H : Type} : DataW H → Nat
  | .lit (.string bytes) => bytes.length + 1
  | .lit _ => 1
  | .nil => 1
  | .ptr d => uptoBulk d + 1
  | .slice elems spare => uptoBulkAll elems + uptoBulkAll spare + 1
  | .agg parts => uptoBulkAll parts + 1
  | .iface _ d => uptoBulk d + 1
  | .map entries => uptoBulkEntries entries + 1
  | .held _ => 1
def uptoBulkAll {H : Type} : List (DataW H) → Nat
  | [] => 0
  | d :: r => uptoBulk d + uptoBulkAll r
def uptoBulkEntries {H : Type} : List (Lit × DataW H) → Nat
  | [] => 0
  | x :: r => uptoBulkEntry x + uptoBulkEntries r
def uptoBulkEntry {H : Type} : Lit × DataW H → Nat
  | (.string bytes, d) => bytes.length + uptoBulk d + 1
  | (_, d) => uptoBulk d + 1
 end
def uptoSmall : (H : Type) → List (DataW H) → Bool := fun _ ds => decide (uptoBulkAll ds ≤ 1048576)
def OpenSpec.upto (s : _root_.Go.ChangeSpec) : _root_.Go.OpenSpec := { _root_.Go.OpenSpec.ofChange s with cond := some uptoSmall }

/-- 'bombardelaw40.TransferLosses', WHERE WHAT IT READS IS OF BULK AT MOST 1048576: true; the input reads as it did. -/
def transferLossesUptoRow : OpenClaim := { program := "ytdabojnmoejilaagreatdoor", sum := "85af5c83752804eee6b20f4ba9c4121d9b5ab9781b3a62d6f5a4ba2aa86abc91", func := "bombarde/bombardelaw40.TransferLosses", spec := "transferLosses", inPlace := ["internal/abi.NoEscape", "internal/bytealg.MakeNoZero", "internal/bytealg.abigen_runtime_cmpstring"], unfollowed := true, recurses := true, named := ["internal/strconv.uint64pow10", "math/bits.deBruijn32tab", "math/bits.deBruijn64tab"], plainKeys := false, apart := false, laid := [("math/bits.deBruijn32tab", laid_math_bits_deBruijn32tab), ("math/bits.deBruijn64tab", laid_math_bits_deBruijn64tab), ("internal/strconv.uint64pow10", laid_internal_strconv_uint64pow10)], narrowed := true }
def TransferLossesUptoSaid : Prop := transferLossesUptoRow.holds Tryz.pinned (OpenSpec.upto transferLossesSpec)

/-- 'bombardelaw40.TransferBest', WHERE WHAT IT READS IS OF BULK AT MOST 1048576: true; the input reads as it did. -/
def transferBestUptoRow : OpenClaim := { program := "ytdabojnmoejilaagreatdoor", sum := "85af5c83752804eee6b20f4ba9c4121d9b5ab9781b3a62d6f5a4ba2aa86abc91", func := "bombarde/bombardelaw40.TransferBest", spec := "transferBest", inPlace := ["internal/abi.NoEscape", "internal/bytealg.MakeNoZero", "internal/bytealg.abigen_runtime_cmpstring"], unfollowed := true, recurses := true, named := ["internal/strconv.uint64pow10", "math/bits.deBruijn32tab", "math/bits.deBruijn64tab"], plainKeys := false, apart := false, laid := [("math/bits.deBruijn32tab", laid_math_bits_deBruijn32tab), ("math/bits.deBruijn64tab", laid_math_bits_deBruijn64tab), ("internal/strconv.uint64pow10", laid_internal_strconv_uint64pow10)], narrowed := true }
def TransferBestUptoSaid : Prop := transferBestUptoRow.holds Tryz.pinned (OpenSpec.upto transferBestSpec)

/-- 'bombardelaw40.TransferVerifies', WHERE WHAT IT READS IS OF BULK AT MOST 1048576: true; the input reads as it did. -/
def transferVerifiesUptoRow : OpenClaim := { program := "ytdabojnmoejilaagreatdoor", sum := "85af5c83752804eee6b20f4ba9c4121d9b5ab9781b3a62d6f5a4ba2aa86abc91", func := "bombarde/bombardelaw40.TransferVerifies", spec := "transferVerifies", inPlace := ["internal/abi.NoEscape", "internal/bytealg.MakeNoZero", "internal/bytealg.abigen_runtime_cmpstring"], unfollowed := true, recurses := true, named := ["internal/strconv.uint64pow10", "math/bits.deBruijn32tab", "math/bits.deBruijn64tab"], plainKeys := false, apart := false, laid := [("math/bits.deBruijn32tab", laid_math_bits_deBruijn32tab), ("math/bits.deBruijn64tab", laid_math_bits_deBruijn64tab), ("internal/strconv.uint64pow10", laid_internal_strconv_uint64pow10)], narrowed := true }
def TransferVerifiesUptoSaid : Prop := transferVerifiesUptoRow.holds Tryz.pinned (OpenSpec.upto transferVerifiesSpec)

/-- 'bombardelaw40.TransferMore', WHERE WHAT IT READS IS OF BULK AT MOST 1048576: true; the input reads as it did. -/
def transferMoreUptoRow : OpenClaim := { program := "ytdabojnmoejilaagreatdoor", sum := "85af5c83752804eee6b20f4ba9c4121d9b5ab9781b3a62d6f5a4ba2aa86abc91", func := "bombarde/bombardelaw40.TransferMore", spec := "transferMore", inPlace := ["internal/abi.NoEscape", "internal/bytealg.MakeNoZero", "internal/bytealg.abigen_runtime_cmpstring"], unfollowed := true, recurses := true, named := ["internal/strconv.uint64pow10", "math/bits.deBruijn32tab", "math/bits.deBruijn64tab"], plainKeys := false, apart := false, laid := [("math/bits.deBruijn32tab", laid_math_bits_deBruijn32tab), ("math/bits.deBruijn64tab", laid_math_bits_deBruijn64tab), ("internal/strconv.uint64pow10", laid_internal_strconv_uint64pow10)], narrowed := true }
def TransferMoreUptoSaid : Prop := transferMoreUptoRow.holds Tryz.pinned (OpenSpec.upto transferMoreSpec)

/-- 'bombardelaw40.TransferLimits', WHERE WHAT IT READS IS OF BULK AT MOST 1048576: true; the input reads as it did. -/
def transferLimitsUptoRow : OpenClaim := { program := "ytdabojnmoejilaagreatdoor", sum := "85af5c83752804eee6b20f4ba9c4121d9b5ab9781b3a62d6f5a4ba2aa86abc91", func := "bombarde/bombardelaw40.TransferLimits", spec := "transferLimits", inPlace := ["internal/abi.NoEscape", "internal/bytealg.MakeNoZero", "internal/bytealg.abigen_runtime_cmpstring"], unfollowed := true, recurses := true, named := ["internal/strconv.uint64pow10", "math/bits.deBruijn32tab", "math/bits.deBruijn64tab"], plainKeys := false, apart := false, laid := [("math/bits.deBruijn32tab", laid_math_bits_deBruijn32tab), ("math/bits.deBruijn64tab", laid_math_bits_deBruijn64tab), ("internal/strconv.uint64pow10", laid_internal_strconv_uint64pow10)], narrowed := true }
def TransferLimitsUptoSaid : Prop := transferLimitsUptoRow.holds Tryz.pinned (OpenSpec.upto transferLimitsSpec)

/-- 'bombardelaw40.TransferStops', WHERE WHAT IT READS IS OF BULK AT MOST 1048576: true; the input reads as it did. -/
def transferStopsUptoRow : OpenClaim := { program := "ytdabojnmoejilaagreatdoor", sum := "85af5c83752804eee6b20f4ba9c4121d9b5ab9781b3a62d6f5a4ba2aa86abc91", func := "bombarde/bombardelaw40.TransferStops", spec := "transferStops", inPlace := ["internal/abi.NoEscape", "internal/bytealg.MakeNoZero", "internal/bytealg.abigen_runtime_cmpstring"], unfollowed := true, recurses := true, named := ["internal/strconv.uint64pow10", "math/bits.deBruijn32tab", "math/bits.deBruijn64tab"], plainKeys := false, apart := false, laid := [("math/bits.deBruijn32tab", laid_math_bits_deBruijn32tab), ("math/bits.deBruijn64tab", laid_math_bits_deBruijn64tab), ("internal/strconv.uint64pow10", laid_internal_strconv_uint64pow10)], narrowed := true }
def TransferStopsUptoSaid : Prop := transferStopsUptoRow.holds Tryz.pinned (OpenSpec.upto transferStopsSpec)

/-- 'bombardelaw40.TransferChecks', WHERE WHAT IT READS IS OF BULK AT MOST 1048576: true; the input reads as it did. -/
def transferChecksUptoRow : OpenClaim := { program := "ytdabojnmoejilaagreatdoor", sum := "85af5c83752804eee6b20f4ba9c4121d9b5ab9781b3a62d6f5a4ba2aa86abc91", func := "bombarde/bombardelaw40.TransferChecks", spec := "transferChecks", inPlace := ["internal/abi.NoEscape", "internal/bytealg.MakeNoZero", "internal/bytealg.abigen_runtime_cmpstring"], unfollowed := true, recurses := true, named := ["internal/strconv.uint64pow10", "math/bits.deBruijn32tab", "math/bits.deBruijn64tab"], plainKeys := false, apart := false, laid := [("math/bits.deBruijn32tab", laid_math_bits_deBruijn32tab), ("math/bits.deBruijn64tab", laid_math_bits_deBruijn64tab), ("internal/strconv.uint64pow10", laid_internal_strconv_uint64pow10)], narrowed := true }
def TransferChecksUptoSaid : Prop := transferChecksUptoRow.holds Tryz.pinned (OpenSpec.upto transferChecksSpec)

/-- 'bombardelaw40.TransferCarries', WHERE WHAT IT READS IS OF BULK AT MOST 1048576: true; the input reads as it did. -/
def transferCarriesUptoRow : OpenClaim := { program := "ytdabojnmoejilaagreatdoor", sum := "85af5c83752804eee6b20f4ba9c4121d9b5ab9781b3a62d6f5a4ba2aa86abc91", func := "bombarde/bombardelaw40.TransferCarries", spec := "transferCarries", inPlace := ["internal/abi.NoEscape", "internal/bytealg.MakeNoZero", "internal/bytealg.abigen_runtime_cmpstring"], unfollowed := true, recurses := true, named := ["internal/strconv.uint64pow10", "math/bits.deBruijn32tab", "math/bits.deBruijn64tab"], plainKeys := false, apart := false, laid := [("math/bits.deBruijn32tab", laid_math_bits_deBruijn32tab), ("math/bits.deBruijn64tab", laid_math_bits_deBruijn64tab), ("internal/strconv.uint64pow10", laid_internal_strconv_uint64pow10)], narrowed := true }
def TransferCarriesUptoSaid : Prop := transferCarriesUptoRow.holds Tryz.pinned (OpenSpec.upto transferCarriesSpec)

/-- 'bombardelaw40.TransferItself', WHERE WHAT IT READS IS OF BULK AT MOST 1048576: true; the input reads as it did. -/
def transferItselfUptoRow : OpenClaim := { program := "ytdabojnmoejilaagreatdoor", sum := "85af5c83752804eee6b20f4ba9c4121d9b5ab9781b3a62d6f5a4ba2aa86abc91", func := "bombarde/bombardelaw40.TransferItself", spec := "transferItself", inPlace := ["internal/abi.NoEscape", "internal/bytealg.MakeNoZero", "internal/bytealg.abigen_runtime_cmpstring"], unfollowed := true, recurses := true, named := ["internal/strconv.uint64pow10", "math/bits.deBruijn32tab", "math/bits.deBruijn64tab"], plainKeys := false, apart := false, laid := [("math/bits.deBruijn32tab", laid_math_bits_deBruijn32tab), ("math/bits.deBruijn64tab", laid_math_bits_deBruijn64tab), ("internal/strconv.uint64pow10", laid_internal_strconv_uint64pow10)], narrowed := true }
def TransferItselfUptoSaid : Prop := transferItselfUptoRow.holds Tryz.pinned (OpenSpec.upto transferItselfSpec)

end Rows
end Go.Proofs.YtdabojnmoejilaaGreatDoor

/-
  NARROWER THAN 'FOR EVERY INPUT', by the rows' own cells (each row's printed sentence says how): OrganCounts: laid · OrganDraws: laid · OrganNames: laid · OrganRegistrations: laid · OrganEquals: laid · OrganKeys: laid · OrganPlays: laid · OrganChecks: laid.
  DERIVED. THE GIVEN ROWS OF THIS SEAT. 8 by the template 'for every input the law returns true; each argument reads behind the call as it read before'; 0 by the template 'total and deterministic' (their statements: YtcnlhgmkelkikaaGreatDoorTotals.lean).
  GIVEN WITH THE SEED: the statements are not yours to turn. If you find one false, say at which input.
  Laid BY PROGRAM, IN A SANDBOX (cutbox-rows.mjs): the forced cells as the released guide's own fill.sh prints them over the translation 52bcdf6ad4342af6… (all of the seat's roots in one cut). By AI agents, Wed Nov 11 2026. No macro, syntax, notation, axiom, sorry.
-/
import Derived.Test.YtcnlhgmkelkikaaGreatDoorChecked
import GoSem.Claim
import GoSem.ClaimJoined
import GoSem.ClaimMapViews
import Derived.JoinedTies
import Derived.KernelRfl
namespace Go.Proofs.YtcnlhgmkelkikaaGreatDoor
/- THE CELL 'sum', in the pinned program and in every row, IS THE sha256 OF THE DUMP (.gsa) THAT YtcnlhgmkelkikaaGreatDoorProg.lean LOADS. Nothing in Lean hashes anything: it is a label: what it is worth is what the hold of that sum in a sandbox is worth. -/
noncomputable def Tryz.pinned : Pinned := { name := "ytcnlhgmkelkikaagreatdoor", sum := "52bcdf6ad4342af61d8deb5c66f6a777d4eac20bbc5549d4da0ad4377a0f6dab", checked := Tryz.checked }
namespace Rows
def none {H : Type} : Left H := { results := [], args := [] }

/- WHAT THE LISTED PACKAGE-LEVEL VARIABLES READ AS WHEN THE CALL BEGINS. Each datum BY PROGRAM (the guide's laid-datum.mjs) off the statement by which the dump's own 'gosem.cut.vars' lays the variable. In a bare row this is a premise. The card (YtcnlhgmkelkikaaGreatDoorCards.lean) ties it to the program's text. -/
def laid_math_bits_deBruijn32tab {H : Type} : DataW H := .agg [.lit (.int .u8 0), .lit (.int .u8 1), .lit (.int .u8 28), .lit (.int .u8 2), .lit (.int .u8 29), .lit (.int .u8 14), .lit (.int .u8 24), .lit (.int .u8 3), .lit (.int .u8 30), .lit (.int .u8 22), .lit (.int .u8 20), .lit (.int .u8 15), .lit (.int .u8 25), .lit (.int .u8 17), .lit (.int .u8 4), .lit (.int .u8 8), .lit (.int .u8 31), .lit (.int .u8 27), .lit (.int .u8 13), .lit (.int .u8 23), .lit (.int .u8 21), .lit (.int .u8 19), .lit (.int .u8 16), .lit (.int .u8 7), .lit (.int .u8 26), .lit (.int .u8 12), .lit (.int .u8 18), .lit (.int .u8 6), .lit (.int .u8 11), .lit (.int .u8 5), .lit (.int .u8 10), .lit (.int .u8 9)]
def laid_math_bits_deBruijn64tab {H : Type} : DataW H := .agg [.lit (.int .u8 0), .lit (.int .u8 1), .lit (.int .u8 56), .lit (.int .u8 2), .lit (.int .u8 57), .lit (.int .u8 49), .lit (.int .u8 28), .lit (.int .u8 3), .lit (.int .u8 61), .lit (.int .u8 58), .lit (.int .u8 42), .lit (.int .u8 50), .lit (.int .u8 38), .lit (.int .u8 29), .lit (.int .u8 17), .lit (.int .u8 4), .lit (.int .u8 62), .lit (.int .u8 47), .lit (.int .u8 59), .lit (.int .u8 36), .lit (.int .u8 45), .lit (.int .u8 43), .lit (.int .u8 51), .lit (.int .u8 22), .lit (.int .u8 53), .lit (.int .u8 39), .lit (.int .u8 33), .lit (.int .u8 30), .lit (.int .u8 24), .lit (.int .u8 18), .lit (.int .u8 12), .lit (.int .u8 5), .lit (.int .u8 63), .lit (.int .u8 55), .lit (.int .u8 48), .lit (.int .u8 27), .lit (.int .u8 60), .lit (.int .u8 41), .lit (.int .u8 37), .lit (.int .u8 16), .lit (.int .u8 46), .lit (.int .u8 35), .lit (.int .u8 44), .lit (.int .u8 21), .lit (.int .u8 52), .lit (.int .u8 32), .lit (.int .u8 23), .lit (.int .u8 11), .lit (.int .u8 54), .lit (.int .u8 26), .lit (.int .u8 40), .lit (.int .u8 15), .lit (.int .u8 34), .lit (.int .u8 20), .lit (.int .u8 31), .lit (.int .u8 10), .lit (.int .u8 25), .lit (.int .u8 14), .lit (.int .u8 19), .lit (.int .u8 9), .lit (.int .u8 13), .lit (.int .u8 8), .lit (.int .u8 7), .lit (.int .u8 6)]
def laid_internal_strconv_uint64pow10 {H : Type} : DataW H := .agg [.lit (.int .u64 1), .lit (.int .u64 10), .lit (.int .u64 100), .lit (.int .u64 1000), .lit (.int .u64 10000), .lit (.int .u64 100000), .lit (.int .u64 1000000), .lit (.int .u64 10000000), .lit (.int .u64 100000000), .lit (.int .u64 1000000000), .lit (.int .u64 10000000000), .lit (.int .u64 100000000000), .lit (.int .u64 1000000000000), .lit (.int .u64 10000000000000), .lit (.int .u64 100000000000000), .lit (.int .u64 1000000000000000), .lit (.int .u64 10000000000000000), .lit (.int .u64 100000000000000000), .lit (.int .u64 1000000000000000000), .lit (.int .u64 10000000000000000000)]

/-- 'bombardelaw18.OrganCounts': WHATEVER THE INPUT: true; the input reads as it did. -/
def organCountsSpec : ChangeSpec := { name := "organCounts", fn := fun _ => fun
  | [d] => { results := [.lit (.bool true)], args := [d] }
  | _ => none }
def organCountsRow : OpenClaim := { program := "ytcnlhgmkelkikaagreatdoor", sum := "52bcdf6ad4342af61d8deb5c66f6a777d4eac20bbc5549d4da0ad4377a0f6dab", func := "bombarde/bombardelaw18.OrganCounts", spec := "organCounts", inPlace := ["internal/abi.NoEscape", "internal/bytealg.MakeNoZero", "internal/bytealg.abigen_runtime_cmpstring"], unfollowed := true, recurses := true, named := ["internal/strconv.uint64pow10", "math/bits.deBruijn32tab", "math/bits.deBruijn64tab"], apart := false, laid := [("math/bits.deBruijn32tab", laid_math_bits_deBruijn32tab), ("math/bits.deBruijn64tab", laid_math_bits_deBruijn64tab), ("internal/strconv.uint64pow10", laid_internal_strconv_uint64pow10)] }
def OrganCountsSaid : Prop := organCountsRow.holds Tryz.pinned (OpenSpec.ofChange organCountsSpec)

/-- ITS FALSE NEIGHBOUR: 'it returns false'. Refute it at one input. -/
def organCountsWrong : ChangeSpec := { name := "organCounts", fn := fun _ => fun
  | [d] => { results := [.lit (.bool false)], args := [d] }
  | _ => none }
def OrganCountsWrongFalsely : Prop := organCountsRow.holds Tryz.pinned (OpenSpec.ofChange organCountsWrong)

/-- 'bombardelaw18.OrganDraws': WHATEVER THE INPUT: true; the input reads as it did. -/
def organDrawsSpec : ChangeSpec := { name := "organDraws", fn := fun _ => fun
  | [d1, d2, d3] => { results := [.lit (.bool true)], args := [d1, d2, d3] }
  | _ => none }
def organDrawsRow : OpenClaim := { program := "ytcnlhgmkelkikaagreatdoor", sum := "52bcdf6ad4342af61d8deb5c66f6a777d4eac20bbc5549d4da0ad4377a0f6dab", func := "bombarde/bombardelaw18.OrganDraws", spec := "organDraws", inPlace := ["internal/abi.NoEscape", "internal/bytealg.MakeNoZero", "internal/bytealg.abigen_runtime_cmpstring"], unfollowed := true, recurses := true, named := ["internal/strconv.uint64pow10", "math/bits.deBruijn32tab", "math/bits.deBruijn64tab"], apart := false, laid := [("math/bits.deBruijn32tab", laid_math_bits_deBruijn32tab), ("math/bits.deBruijn64tab", laid_math_bits_deBruijn64tab), ("internal/strconv.uint64pow10", laid_internal_strconv_uint64pow10)] }
def OrganDrawsSaid : Prop := organDrawsRow.holds Tryz.pinned (OpenSpec.ofChange organDrawsSpec)

/-- ITS FALSE NEIGHBOUR: 'it returns false'. Refute it at one input. -/
def organDrawsWrong : ChangeSpec := { name := "organDraws", fn := fun _ => fun
  | [d1, d2, d3] => { results := [.lit (.bool false)], args := [d1, d2, d3] }
  | _ => none }
def OrganDrawsWrongFalsely : Prop := organDrawsRow.holds Tryz.pinned (OpenSpec.ofChange organDrawsWrong)

/-- 'bombardelaw18.OrganNames': WHATEVER THE INPUT: true; the input reads as it did. -/
def organNamesSpec : ChangeSpec := { name := "organNames", fn := fun _ => fun
  | [d1, d2, d3] => { results := [.lit (.bool true)], args := [d1, d2, d3] }
  | _ => none }
def organNamesRow : OpenClaim := { program := "ytcnlhgmkelkikaagreatdoor", sum := "52bcdf6ad4342af61d8deb5c66f6a777d4eac20bbc5549d4da0ad4377a0f6dab", func := "bombarde/bombardelaw18.OrganNames", spec := "organNames", inPlace := ["internal/abi.NoEscape", "internal/bytealg.MakeNoZero", "internal/bytealg.abigen_runtime_cmpstring"], unfollowed := true, recurses := true, named := ["internal/strconv.uint64pow10", "math/bits.deBruijn32tab", "math/bits.deBruijn64tab"], apart := false, laid := [("math/bits.deBruijn32tab", laid_math_bits_deBruijn32tab), ("math/bits.deBruijn64tab", laid_math_bits_deBruijn64tab), ("internal/strconv.uint64pow10", laid_internal_strconv_uint64pow10)] }
def OrganNamesSaid : Prop := organNamesRow.holds Tryz.pinned (OpenSpec.ofChange organNamesSpec)

/-- ITS FALSE NEIGHBOUR: 'it returns false'. Refute it at one input. -/
def organNamesWrong : ChangeSpec := { name := "organNames", fn := fun _ => fun
  | [d1, d2, d3] => { results := [.lit (.bool false)], args := [d1, d2, d3] }
  | _ => none }
def OrganNamesWrongFalsely : Prop := organNamesRow.holds Tryz.pinned (OpenSpec.ofChange organNamesWrong)

/-- 'bombardelaw18.OrganRegistrations': WHATEVER THE INPUT: true; the input reads as it did. -/
def organRegistrationsSpec : ChangeSpec := { name := "organRegistrations", fn := fun _ => fun
  | [d1, d2, d3] => { results := [.lit (.bool true)], args := [d1, d2, d3] }
  | _ => none }
def organRegistrationsRow : OpenClaim := { program := "ytcnlhgmkelkikaagreatdoor", sum := "52bcdf6ad4342af61d8deb5c66f6a777d4eac20bbc5549d4da0ad4377a0f6dab", func := "bombarde/bombardelaw18.OrganRegistrations", spec := "organRegistrations", inPlace := ["internal/abi.NoEscape", "internal/bytealg.MakeNoZero", "internal/bytealg.abigen_runtime_cmpstring"], unfollowed := true, recurses := true, named := ["internal/strconv.uint64pow10", "math/bits.deBruijn32tab", "math/bits.deBruijn64tab"], apart := false, laid := [("math/bits.deBruijn32tab", laid_math_bits_deBruijn32tab), ("math/bits.deBruijn64tab", laid_math_bits_deBruijn64tab), ("internal/strconv.uint64pow10", laid_internal_strconv_uint64pow10)] }
def OrganRegistrationsSaid : Prop := organRegistrationsRow.holds Tryz.pinned (OpenSpec.ofChange organRegistrationsSpec)

/-- ITS FALSE NEIGHBOUR: 'it returns false'. Refute it at one input. -/
def organRegistrationsWrong : ChangeSpec := { name := "organRegistrations", fn := fun _ => fun
  | [d1, d2, d3] => { results := [.lit (.bool false)], args := [d1, d2, d3] }
  | _ => none }
def OrganRegistrationsWrongFalsely : Prop := organRegistrationsRow.holds Tryz.pinned (OpenSpec.ofChange organRegistrationsWrong)

/-- 'bombardelaw18.OrganEquals': WHATEVER THE INPUT: true; the input reads as it did. -/
def organEqualsSpec : ChangeSpec := { name := "organEquals", fn := fun _ => fun
  | [d1, d2, d3] => { results := [.lit (.bool true)], args := [d1, d2, d3] }
  | _ => none }
def organEqualsRow : OpenClaim := { program := "ytcnlhgmkelkikaagreatdoor", sum := "52bcdf6ad4342af61d8deb5c66f6a777d4eac20bbc5549d4da0ad4377a0f6dab", func := "bombarde/bombardelaw18.OrganEquals", spec := "organEquals", inPlace := ["internal/abi.NoEscape", "internal/bytealg.MakeNoZero", "internal/bytealg.abigen_runtime_cmpstring"], unfollowed := true, recurses := true, named := ["internal/strconv.uint64pow10", "math/bits.deBruijn32tab", "math/bits.deBruijn64tab"], apart := false, laid := [("math/bits.deBruijn32tab", laid_math_bits_deBruijn32tab), ("math/bits.deBruijn64tab", laid_math_bits_deBruijn64tab), ("internal/strconv.uint64pow10", laid_internal_strconv_uint64pow10)] }
def OrganEqualsSaid : Prop := organEqualsRow.holds Tryz.pinned (OpenSpec.ofChange organEqualsSpec)

/-- ITS FALSE NEIGHBOUR: 'it returns false'. Refute it at one input. -/
def organEqualsWrong : ChangeSpec := { name := "organEquals", fn := fun _ => fun
  | [d1, d2, d3] => { results := [.lit (.bool false)], args := [d1, d2, d3] }
  | _ => none }
def OrganEqualsWrongFalsely : Prop := organEqualsRow.holds Tryz.pinned (OpenSpec.ofChange organEqualsWrong)

/-- 'bombardelaw18.OrganKeys': WHATEVER THE INPUT: true; the input reads as it did. -/
def organKeysSpec : ChangeSpec := { name := "organKeys", fn := fun _ => fun
  | [d1, d2] => { results := [.lit (.bool true)], args := [d1, d2] }
  | _ => none }
def organKeysRow : OpenClaim := { program := "ytcnlhgmkelkikaagreatdoor", sum := "52bcdf6ad4342af61d8deb5c66f6a777d4eac20bbc5549d4da0ad4377a0f6dab", func := "bombarde/bombardelaw18.OrganKeys", spec := "organKeys", inPlace := ["internal/abi.NoEscape", "internal/bytealg.MakeNoZero", "internal/bytealg.abigen_runtime_cmpstring"], unfollowed := true, recurses := true, named := ["internal/strconv.uint64pow10", "math/bits.deBruijn32tab", "math/bits.deBruijn64tab"], apart := false, laid := [("math/bits.deBruijn32tab", laid_math_bits_deBruijn32tab), ("math/bits.deBruijn64tab", laid_math_bits_deBruijn64tab), ("internal/strconv.uint64pow10", laid_internal_strconv_uint64pow10)] }
def OrganKeysSaid : Prop := organKeysRow.holds Tryz.pinned (OpenSpec.ofChange organKeysSpec)

/-- ITS FALSE NEIGHBOUR: 'it returns false'. Refute it at one input. -/
def organKeysWrong : ChangeSpec := { name := "organKeys", fn := fun _ => fun
  | [d1, d2] => { results := [.lit (.bool false)], args := [d1, d2] }
  | _ => none }
def OrganKeysWrongFalsely : Prop := organKeysRow.holds Tryz.pinned (OpenSpec.ofChange organKeysWrong)

/-- 'bombardelaw18.OrganPlays': WHATEVER THE INPUT: true; the input reads as it did. -/
def organPlaysSpec : ChangeSpec := { name := "organPlays", fn := fun _ => fun
  | [d1, d2, d3] => { results := [.lit (.bool true)], args := [d1, d2, d3] }
  | _ => none }
def organPlaysRow : OpenClaim := { program := "ytcnlhgmkelkikaagreatdoor", sum := "52bcdf6ad4342af61d8deb5c66f6a777d4eac20bbc5549d4da0ad4377a0f6dab", func := "bombarde/bombardelaw18.OrganPlays", spec := "organPlays", inPlace := ["internal/abi.NoEscape", "internal/bytealg.MakeNoZero", "internal/bytealg.abigen_runtime_cmpstring"], unfollowed := true, recurses := true, named := ["internal/strconv.uint64pow10", "math/bits.deBruijn32tab", "math/bits.deBruijn64tab"], apart := false, laid := [("math/bits.deBruijn32tab", laid_math_bits_deBruijn32tab), ("math/bits.deBruijn64tab", laid_math_bits_deBruijn64tab), ("internal/strconv.uint64pow10", laid_internal_strconv_uint64pow10)] }
def OrganPlaysSaid : Prop := organPlaysRow.holds Tryz.pinned (OpenSpec.ofChange organPlaysSpec)

/-- ITS FALSE NEIGHBOUR: 'it returns false'. Refute it at one input. -/
def organPlaysWrong : ChangeSpec := { name := "organPlays", fn := fun _ => fun
  | [d1, d2, d3] => { results := [.lit (.bool false)], args := [d1, d2, d3] }
  | _ => none }
def OrganPlaysWrongFalsely : Prop := organPlaysRow.holds Tryz.pinned (OpenSpec.ofChange organPlaysWrong)

/-- 'bombardelaw18.OrganChecks': WHATEVER THE INPUT: true; the input reads as it did. -/
def organChecksSpec : ChangeSpec := { name := "organChecks", fn := fun _ => fun
  | [d1, d2, d3] => { results := [.lit (.bool true)], args := [d1, d2, d3] }
  | _ => none }
def organChecksRow : OpenClaim := { program := "ytcnlhgmkelkikaagreatdoor", sum := "52bcdf6ad4342af61d8deb5c66f6a777d4eac20bbc5549d4da0ad4377a0f6dab", func := "bombarde/bombardelaw18.OrganChecks", spec := "organChecks", inPlace := ["internal/abi.NoEscape", "internal/bytealg.MakeNoZero", "internal/bytealg.abigen_runtime_cmpstring"], unfollowed := true, recurses := true, named := ["internal/strconv.uint64pow10", "math/bits.deBruijn32tab", "math/bits.deBruijn64tab"], apart := false, laid := [("math/bits.deBruijn32tab", laid_math_bits_deBruijn32tab), ("math/bits.deBruijn64tab", laid_math_bits_deBruijn64tab), ("internal/strconv.uint64pow10", laid_internal_strconv_uint64pow10)] }
def OrganChecksSaid : Prop := organChecksRow.holds Tryz.pinned (OpenSpec.ofChange organChecksSpec)

/-- ITS FALSE NEIGHBOUR: 'it returns false'. Refute it at one input. -/
def organChecksWrong : ChangeSpec := { name := "organChecks", fn := fun _ => fun
  | [d1, d2, d3] => { results := [.lit (.bool false)], args := [d1, d2, d3] }
  | _ => none }
def OrganChecksWrongFalsely : Prop := organChecksRow.holds Tryz.pinned (OpenSpec.ofChange organChecksWrong)

/- THE SECOND FORM. 'bulk': how many values and letters a reading holds, each counted each time it is reached (what is shared counts as often as it is met; a slice's spare places count too). A statement '..UptoSaid' is the law's where the arguments, and the package variables that the reading takes, are together of bulk at most 1048576: NARROWER than '..Said'. Prove '..Said' where nothing that the law and all that it calls make is longer than what came in: it says more and counts as full. Else prove '..UptoSaid'. A law counts once. -/
mutual
def uptoBulk {H : Type} : DataW H → Nat
  | .lit (.string bytes) => bytes.length + 1
  | .lit _ => 1
  | .nil => 1
  | .ptr d => uptoBulk d + 1
  | .slice elems spare => uptoBulkAll elems + uptoBulkAll spare + 1
  | .agg parts => uptoBulkAll parts + 1
  | .iface _ d => uptoBulk d + 1
  | .map entries => uptoBulkEntries entries + 1
  | .held _ => 1
def uptoBulkAll {H : Type} : List (DataW H) → Nat
  | [] => 0
  | d :: r => uptoBulk d + uptoBulkAll r
def uptoBulkEntries {H : Type} : List (Lit × DataW H) → Nat
  | [] => 0
  | x :: r => uptoBulkEntry x + uptoBulkEntries r
def uptoBulkEntry {H : Type} : Lit × DataW H → Nat
  | (.string bytes, d) => bytes.length + uptoBulk d + 1
  | (_, d) => uptoBulk d + 1
 end
def uptoSmall : (H : Type) → List (DataW H) → Bool := fun _ ds => decide (uptoBulkAll ds ≤ 1048576)
def OpenSpec.upto (s : _root_.Go.ChangeSpec) : _root_.Go.OpenSpec := { _root_.Go.OpenSpec.ofChange s with cond := some uptoSmall }

/-- 'bombardelaw18.OrganCounts', WHERE WHAT IT READS IS OF BULK AT MOST 1048576: true; the input reads as it did. -/
def organCountsUptoRow : OpenClaim := { program := "ytcnlhgmkelkikaagreatdoor", sum := "52bcdf6ad4342af61d8deb5c66f6a777d4eac20bbc5549d4da0ad4377a0f6dab", func := "bombarde/bombardelaw18.OrganCounts", spec := "organCounts", inPlace := ["internal/abi.NoEscape", "internal/bytealg.MakeNoZero", "internal/bytealg.abigen_runtime_cmpstring"], unfollowed := true, recurses := true, named := ["internal/strconv.uint64pow10", "math/bits.deBruijn32tab", "math/bits.deBruijn64tab"], apart := false, laid := [("math/bits.deBruijn32tab", laid_math_bits_deBruijn32tab), ("math/bits.deBruijn64tab", laid_math_bits_deBruijn64tab), ("internal/strconv.uint64pow10", laid_internal_strconv_uint64pow10)], narrowed := true }
def OrganCountsUptoSaid : Prop := organCountsUptoRow.holds Tryz.pinned (OpenSpec.upto organCountsSpec)

/-- 'bombardelaw18.OrganDraws', WHERE WHAT IT READS IS OF BULK AT MOST 1048576: true; the input reads as it did. -/
def organDrawsUptoRow : OpenClaim := { program := "ytcnlhgmkelkikaagreatdoor", sum := "52bcdf6ad4342af61d8deb5c66f6a777d4eac20bbc5549d4da0ad4377a0f6dab", func := "bombarde/bombardelaw18.OrganDraws", spec := "organDraws", inPlace := ["internal/abi.NoEscape", "internal/bytealg.MakeNoZero", "internal/bytealg.abigen_runtime_cmpstring"], unfollowed := true, recurses := true, named := ["internal/strconv.uint64pow10", "math/bits.deBruijn32tab", "math/bits.deBruijn64tab"], apart := false, laid := [("math/bits.deBruijn32tab", laid_math_bits_deBruijn32tab), ("math/bits.deBruijn64tab", laid_math_bits_deBruijn64tab), ("internal/strconv.uint64pow10", laid_internal_strconv_uint64pow10)], narrowed := true }
def OrganDrawsUptoSaid : Prop := organDrawsUptoRow.holds Tryz.pinned (OpenSpec.upto organDrawsSpec)

/-- 'bombardelaw18.OrganNames', WHERE WHAT IT READS IS OF BULK AT MOST 1048576: true; the input reads as it did. -/
def organNamesUptoRow : OpenClaim := { program := "ytcnlhgmkelkikaagreatdoor", sum := "52bcdf6ad4342af61d8deb5c66f6a777d4eac20bbc5549d4da0ad4377a0f6dab", func := "bombarde/bombardelaw18.OrganNames", spec := "organNames", inPlace := ["internal/abi.NoEscape", "internal/bytealg.MakeNoZero", "internal/bytealg.abigen_runtime_cmpstring"], unfollowed := true, recurses := true, named := ["internal/strconv.uint64pow10", "math/bits.deBruijn32tab", "math/bits.deBruijn64tab"], apart := false, laid := [("math/bits.deBruijn32tab", laid_math_bits_deBruijn32tab), ("math/bits.deBruijn64tab", laid_math_bits_deBruijn64tab), ("internal/strconv.uint64pow10", laid_internal_strconv_uint64pow10)], narrowed := true }
def OrganNamesUptoSaid : Prop := organNamesUptoRow.holds Tryz.pinned (OpenSpec.upto organNamesSpec)

/-- 'bombardelaw18.OrganRegistrations', WHERE WHAT IT READS IS OF BULK AT MOST 1048576: true; the input reads as it did. -/
def organRegistrationsUptoRow : OpenClaim := { program := "ytcnlhgmkelkikaagreatdoor", sum := "52bcdf6ad4342af61d8deb5c66f6a777d4eac20bbc5549d4da0ad4377a0f6dab", func := "bombarde/bombardelaw18.OrganRegistrations", spec := "organRegistrations", inPlace := ["internal/abi.NoEscape", "internal/bytealg.MakeNoZero", "internal/bytealg.abigen_runtime_cmpstring"], unfollowed := true, recurses := true, named := ["internal/strconv.uint64pow10", "math/bits.deBruijn32tab", "math/bits.deBruijn64tab"], apart := false, laid := [("math/bits.deBruijn32tab", laid_math_bits_deBruijn32tab), ("math/bits.deBruijn64tab", laid_math_bits_deBruijn64tab), ("internal/strconv.uint64pow10", laid_internal_strconv_uint64pow10)], narrowed := true }
def OrganRegistrationsUptoSaid : Prop := organRegistrationsUptoRow.holds Tryz.pinned (OpenSpec.upto organRegistrationsSpec)

/-- 'bombardelaw18.OrganEquals', WHERE WHAT IT READS IS OF BULK AT MOST 1048576: true; the input reads as it did. -/
def organEqualsUptoRow : OpenClaim := { program := "ytcnlhgmkelkikaagreatdoor", sum := "52bcdf6ad4342af61d8deb5c66f6a777d4eac20bbc5549d4da0ad4377a0f6dab", func := "bombarde/bombardelaw18.OrganEquals", spec := "organEquals", inPlace := ["internal/abi.NoEscape", "internal/bytealg.MakeNoZero", "internal/bytealg.abigen_runtime_cmpstring"], unfollowed := true, recurses := true, named := ["internal/strconv.uint64pow10", "math/bits.deBruijn32tab", "math/bits.deBruijn64tab"], apart := false, laid := [("math/bits.deBruijn32tab", laid_math_bits_deBruijn32tab), ("math/bits.deBruijn64tab", laid_math_bits_deBruijn64tab), ("internal/strconv.uint64pow10", laid_internal_strconv_uint64pow10)], narrowed := true }
def OrganEqualsUptoSaid : Prop := organEqualsUptoRow.holds Tryz.pinned (OpenSpec.upto organEqualsSpec)

/-- 'bombardelaw18.OrganKeys', WHERE WHAT IT READS IS OF BULK AT MOST 1048576: true; the input reads as it did. -/
def organKeysUptoRow : OpenClaim := { program := "ytcnlhgmkelkikaagreatdoor", sum := "52bcdf6ad4342af61d8deb5c66f6a777d4eac20bbc5549d4da0ad4377a0f6dab", func := "bombarde/bombardelaw18.OrganKeys", spec := "organKeys", inPlace := ["internal/abi.NoEscape", "internal/bytealg.MakeNoZero", "internal/bytealg.abigen_runtime_cmpstring"], unfollowed := true, recurses := true, named := ["internal/strconv.uint64pow10", "math/bits.deBruijn32tab", "math/bits.deBruijn64tab"], apart := false, laid := [("math/bits.deBruijn32tab", laid_math_bits_deBruijn32tab), ("math/bits.deBruijn64tab", laid_math_bits_deBruijn64tab), ("internal/strconv.uint64pow10", laid_internal_strconv_uint64pow10)], narrowed := true }
def OrganKeysUptoSaid : Prop := organKeysUptoRow.holds Tryz.pinned (OpenSpec.upto organKeysSpec)

/-- 'bombardelaw18.OrganPlays', WHERE WHAT IT READS IS OF BULK AT MOST 1048576: true; the input reads as it did. -/
def organPlaysUptoRow : OpenClaim := { program := "ytcnlhgmkelkikaagreatdoor", sum := "52bcdf6ad4342af61d8deb5c66f6a777d4eac20bbc5549d4da0ad4377a0f6dab", func := "bombarde/bombardelaw18.OrganPlays", spec := "organPlays", inPlace := ["internal/abi.NoEscape", "internal/bytealg.MakeNoZero", "internal/bytealg.abigen_runtime_cmpstring"], unfollowed := true, recurses := true, named := ["internal/strconv.uint64pow10", "math/bits.deBruijn32tab", "math/bits.deBruijn64tab"], apart := false, laid := [("math/bits.deBruijn32tab", laid_math_bits_deBruijn32tab), ("math/bits.deBruijn64tab", laid_math_bits_deBruijn64tab), ("internal/strconv.uint64pow10", laid_internal_strconv_uint64pow10)], narrowed := true }
def OrganPlaysUptoSaid : Prop := organPlaysUptoRow.holds Tryz.pinned (OpenSpec.upto organPlaysSpec)

/-- 'bombardelaw18.OrganChecks', WHERE WHAT IT READS IS OF BULK AT MOST 1048576: true; the input reads as it did. -/
def organChecksUptoRow : OpenClaim := { program := "ytcnlhgmkelkikaagreatdoor", sum := "52bcdf6ad4342af61d8deb5c66f6a777d4eac20bbc5549d4da0ad4377a0f6dab", func := "bombarde/bombardelaw18.OrganChecks", spec := "organChecks", inPlace := ["internal/abi.NoEscape", "internal/bytealg.MakeNoZero", "internal/bytealg.abigen_runtime_cmpstring"], unfollowed := true, recurses := true, named := ["internal/strconv.uint64pow10", "math/bits.deBruijn32tab", "math/bits.deBruijn64tab"], apart := false, laid := [("math/bits.deBruijn32tab", laid_math_bits_deBruijn32tab), ("math/bits.deBruijn64tab", laid_math_bits_deBruijn64tab), ("internal/strconv.uint64pow10", laid_internal_strconv_uint64pow10)], narrowed := true }
def OrganChecksUptoSaid : Prop := organChecksUptoRow.holds Tryz.pinned (OpenSpec.upto organChecksSpec)

end Rows
end Go.Proofs.YtcnlhgmkelkikaaGreatDoor

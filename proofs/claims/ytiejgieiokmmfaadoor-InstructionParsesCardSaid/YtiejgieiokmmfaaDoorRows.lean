/-
  NARROWER THAN 'FOR EVERY INPUT', by the rows' own cells (each row's printed sentence says how): InstructionRuns: laid · InstructionScans: laid · InstructionCompacts: laid · InstructionParses: laid · InstructionReaches: laid · InstructionKeeps: laid · InstructionChecks: laid.
  DERIVED. THE GIVEN ROWS OF THIS SEAT. 7 by the template 'for every input the law returns true; each argument reads behind the call as it read before'; 0 by the template 'total and deterministic' (their statements: YtiejgieiokmmfaaDoorTotals.lean).
  GIVEN WITH THE SEED: the statements are not yours to turn. If you find one false, say at which input.
  Laid BY PROGRAM, IN A SANDBOX (cutbox-rows.mjs): the forced cells as the released guide's own fill.sh prints them over the translation d310fde51becbdcb… (all of the seat's roots in one cut). By AI agents, Wed Nov 11 2026. No macro, syntax, notation, axiom, sorry.
-/
import Derived.Test.YtiejgieiokmmfaaDoorChecked
import GoSem.PinnedTables
import GoSem.Claim
import GoSem.ClaimJoined
import GoSem.ClaimMapViews
import Derived.JoinedTies
import Derived.KernelRfl
namespace Go.Proofs.YtiejgieiokmmfaaDoor
/- THE CELL 'sum', in the pinned program and in every row, IS THE sha256 OF THE DUMP (.gsa) THAT YtiejgieiokmmfaaDoorProg.lean LOADS. Nothing in Lean hashes anything: it is a label: what it is worth is what the hold of that sum in a sandbox is worth. -/
noncomputable def Tryd.pinned : Pinned := { name := "ytiejgieiokmmfaadoor", sum := "d310fde51becbdcb0633aeba54ed9192ba7a260dfa731f661c64ff8e0d9890fb", checked := Tryd.checked }
namespace Rows
def none {H : Type} : Left H := { results := [], args := [] }

/- WHAT THE LISTED PACKAGE-LEVEL VARIABLES READ AS WHEN THE CALL BEGINS. Each datum BY PROGRAM (the guide's laid-datum.mjs) off the statement by which the dump's own 'gosem.cut.vars' lays the variable. In a bare row this is a premise. The card (YtiejgieiokmmfaaDoorCards.lean) ties it to the program's text. -/
def laid_math_bits_deBruijn32tab {H : Type} : DataW H := .agg [.lit (.int .u8 0), .lit (.int .u8 1), .lit (.int .u8 28), .lit (.int .u8 2), .lit (.int .u8 29), .lit (.int .u8 14), .lit (.int .u8 24), .lit (.int .u8 3), .lit (.int .u8 30), .lit (.int .u8 22), .lit (.int .u8 20), .lit (.int .u8 15), .lit (.int .u8 25), .lit (.int .u8 17), .lit (.int .u8 4), .lit (.int .u8 8), .lit (.int .u8 31), .lit (.int .u8 27), .lit (.int .u8 13), .lit (.int .u8 23), .lit (.int .u8 21), .lit (.int .u8 19), .lit (.int .u8 16), .lit (.int .u8 7), .lit (.int .u8 26), .lit (.int .u8 12), .lit (.int .u8 18), .lit (.int .u8 6), .lit (.int .u8 11), .lit (.int .u8 5), .lit (.int .u8 10), .lit (.int .u8 9)]
def laid_math_bits_deBruijn64tab {H : Type} : DataW H := .agg [.lit (.int .u8 0), .lit (.int .u8 1), .lit (.int .u8 56), .lit (.int .u8 2), .lit (.int .u8 57), .lit (.int .u8 49), .lit (.int .u8 28), .lit (.int .u8 3), .lit (.int .u8 61), .lit (.int .u8 58), .lit (.int .u8 42), .lit (.int .u8 50), .lit (.int .u8 38), .lit (.int .u8 29), .lit (.int .u8 17), .lit (.int .u8 4), .lit (.int .u8 62), .lit (.int .u8 47), .lit (.int .u8 59), .lit (.int .u8 36), .lit (.int .u8 45), .lit (.int .u8 43), .lit (.int .u8 51), .lit (.int .u8 22), .lit (.int .u8 53), .lit (.int .u8 39), .lit (.int .u8 33), .lit (.int .u8 30), .lit (.int .u8 24), .lit (.int .u8 18), .lit (.int .u8 12), .lit (.int .u8 5), .lit (.int .u8 63), .lit (.int .u8 55), .lit (.int .u8 48), .lit (.int .u8 27), .lit (.int .u8 60), .lit (.int .u8 41), .lit (.int .u8 37), .lit (.int .u8 16), .lit (.int .u8 46), .lit (.int .u8 35), .lit (.int .u8 44), .lit (.int .u8 21), .lit (.int .u8 52), .lit (.int .u8 32), .lit (.int .u8 23), .lit (.int .u8 11), .lit (.int .u8 54), .lit (.int .u8 26), .lit (.int .u8 40), .lit (.int .u8 15), .lit (.int .u8 34), .lit (.int .u8 20), .lit (.int .u8 31), .lit (.int .u8 10), .lit (.int .u8 25), .lit (.int .u8 14), .lit (.int .u8 19), .lit (.int .u8 9), .lit (.int .u8 13), .lit (.int .u8 8), .lit (.int .u8 7), .lit (.int .u8 6)]
def laid_internal_strconv_uint64pow10 {H : Type} : DataW H := .agg [.lit (.int .u64 1), .lit (.int .u64 10), .lit (.int .u64 100), .lit (.int .u64 1000), .lit (.int .u64 10000), .lit (.int .u64 100000), .lit (.int .u64 1000000), .lit (.int .u64 10000000), .lit (.int .u64 100000000), .lit (.int .u64 1000000000), .lit (.int .u64 10000000000), .lit (.int .u64 100000000000), .lit (.int .u64 1000000000000), .lit (.int .u64 10000000000000), .lit (.int .u64 100000000000000), .lit (.int .u64 1000000000000000), .lit (.int .u64 10000000000000000), .lit (.int .u64 100000000000000000), .lit (.int .u64 1000000000000000000), .lit (.int .u64 10000000000000000000)]
def laid_unicode_utf8_acceptRanges {H : Type} : DataW H := .agg [.agg [.lit (.int .u8 128), .lit (.int .u8 191)], .agg [.lit (.int .u8 160), .lit (.int .u8 191)], .agg [.lit (.int .u8 128), .lit (.int .u8 159)], .agg [.lit (.int .u8 144), .lit (.int .u8 191)], .agg [.lit (.int .u8 128), .lit (.int .u8 143)], .agg [.lit (.int .u8 0), .lit (.int .u8 0)], .agg [.lit (.int .u8 0), .lit (.int .u8 0)], .agg [.lit (.int .u8 0), .lit (.int .u8 0)], .agg [.lit (.int .u8 0), .lit (.int .u8 0)], .agg [.lit (.int .u8 0), .lit (.int .u8 0)], .agg [.lit (.int .u8 0), .lit (.int .u8 0)], .agg [.lit (.int .u8 0), .lit (.int .u8 0)], .agg [.lit (.int .u8 0), .lit (.int .u8 0)], .agg [.lit (.int .u8 0), .lit (.int .u8 0)], .agg [.lit (.int .u8 0), .lit (.int .u8 0)], .agg [.lit (.int .u8 0), .lit (.int .u8 0)]]
/-- One of Go's own tables, pinned by name: the form's constant. -/
def laid_unicode_utf8_first : DataW Unit := Go.Pinned.utf8First

/-- 'overseerlaw52.InstructionRuns': WHATEVER THE INPUT: true; the input reads as it did. -/
def instructionRunsSpec : ChangeSpec := { name := "instructionRuns", fn := fun _ => fun
  | [d1, d2] => { results := [.lit (.bool true)], args := [d1, d2] }
  | _ => none }
def instructionRunsRow : OpenClaim := { program := "ytiejgieiokmmfaadoor", sum := "d310fde51becbdcb0633aeba54ed9192ba7a260dfa731f661c64ff8e0d9890fb", func := "overseer/overseerlaw52.InstructionRuns", spec := "instructionRuns", inPlace := ["internal/abi.NoEscape", "internal/bytealg.MakeNoZero"], unfollowed := true, recurses := true, named := ["internal/strconv.uint64pow10", "math/bits.deBruijn32tab", "math/bits.deBruijn64tab"], apart := false, laid := [("math/bits.deBruijn32tab", laid_math_bits_deBruijn32tab), ("math/bits.deBruijn64tab", laid_math_bits_deBruijn64tab), ("internal/strconv.uint64pow10", laid_internal_strconv_uint64pow10)] }
def InstructionRunsSaid : Prop := instructionRunsRow.holds Tryd.pinned (OpenSpec.ofChange instructionRunsSpec)

/-- ITS FALSE NEIGHBOUR: 'it returns false'. Refute it at one input. -/
def instructionRunsWrong : ChangeSpec := { name := "instructionRuns", fn := fun _ => fun
  | [d1, d2] => { results := [.lit (.bool false)], args := [d1, d2] }
  | _ => none }
def InstructionRunsWrongFalsely : Prop := instructionRunsRow.holds Tryd.pinned (OpenSpec.ofChange instructionRunsWrong)

/-- 'overseerlaw52.InstructionScans': WHATEVER THE INPUT: true; the input reads as it did. -/
def instructionScansSpec : ChangeSpec := { name := "instructionScans", fn := fun _ => fun
  | [d1, d2, d3] => { results := [.lit (.bool true)], args := [d1, d2, d3] }
  | _ => none }
def instructionScansRow : OpenClaim := { program := "ytiejgieiokmmfaadoor", sum := "d310fde51becbdcb0633aeba54ed9192ba7a260dfa731f661c64ff8e0d9890fb", func := "overseer/overseerlaw52.InstructionScans", spec := "instructionScans", inPlace := ["internal/abi.NoEscape", "internal/bytealg.MakeNoZero"], unfollowed := true, recurses := true, named := ["internal/strconv.uint64pow10", "math/bits.deBruijn32tab", "math/bits.deBruijn64tab"], apart := false, laid := [("math/bits.deBruijn32tab", laid_math_bits_deBruijn32tab), ("math/bits.deBruijn64tab", laid_math_bits_deBruijn64tab), ("internal/strconv.uint64pow10", laid_internal_strconv_uint64pow10)] }
def InstructionScansSaid : Prop := instructionScansRow.holds Tryd.pinned (OpenSpec.ofChange instructionScansSpec)

/-- ITS FALSE NEIGHBOUR: 'it returns false'. Refute it at one input. -/
def instructionScansWrong : ChangeSpec := { name := "instructionScans", fn := fun _ => fun
  | [d1, d2, d3] => { results := [.lit (.bool false)], args := [d1, d2, d3] }
  | _ => none }
def InstructionScansWrongFalsely : Prop := instructionScansRow.holds Tryd.pinned (OpenSpec.ofChange instructionScansWrong)

/-- 'overseerlaw52.InstructionCompacts': WHATEVER THE INPUT: true; the input reads as it did. -/
def instructionCompactsSpec : ChangeSpec := { name := "instructionCompacts", fn := fun _ => fun
  | [d] => { results := [.lit (.bool true)], args := [d] }
  | _ => none }
def instructionCompactsRow : OpenClaim := { program := "ytiejgieiokmmfaadoor", sum := "d310fde51becbdcb0633aeba54ed9192ba7a260dfa731f661c64ff8e0d9890fb", func := "overseer/overseerlaw52.InstructionCompacts", spec := "instructionCompacts", inPlace := ["internal/abi.NoEscape", "internal/bytealg.MakeNoZero"], unfollowed := true, recurses := true, named := ["internal/strconv.uint64pow10", "math/bits.deBruijn32tab", "math/bits.deBruijn64tab"], apart := false, laid := [("math/bits.deBruijn32tab", laid_math_bits_deBruijn32tab), ("math/bits.deBruijn64tab", laid_math_bits_deBruijn64tab), ("internal/strconv.uint64pow10", laid_internal_strconv_uint64pow10)] }
def InstructionCompactsSaid : Prop := instructionCompactsRow.holds Tryd.pinned (OpenSpec.ofChange instructionCompactsSpec)

/-- ITS FALSE NEIGHBOUR: 'it returns false'. Refute it at one input. -/
def instructionCompactsWrong : ChangeSpec := { name := "instructionCompacts", fn := fun _ => fun
  | [d] => { results := [.lit (.bool false)], args := [d] }
  | _ => none }
def InstructionCompactsWrongFalsely : Prop := instructionCompactsRow.holds Tryd.pinned (OpenSpec.ofChange instructionCompactsWrong)

/-- 'overseerlaw52.InstructionParses': WHATEVER THE INPUT: true; the input reads as it did. -/
def instructionParsesSpec : ChangeSpec := { name := "instructionParses", fn := fun _ => fun
  | [d] => { results := [.lit (.bool true)], args := [d] }
  | _ => none }
def instructionParsesRow : OpenClaim := { program := "ytiejgieiokmmfaadoor", sum := "d310fde51becbdcb0633aeba54ed9192ba7a260dfa731f661c64ff8e0d9890fb", func := "overseer/overseerlaw52.InstructionParses", spec := "instructionParses", inPlace := ["internal/abi.NoEscape", "internal/bytealg.MakeNoZero", "internal/bytealg.CountString", "internal/bytealg.IndexByteString", "internal/bytealg.IndexString"], unfollowed := true, recurses := true, named := ["internal/strconv.uint64pow10", "math/bits.deBruijn32tab", "math/bits.deBruijn64tab", "unicode/utf8.first", "unicode/utf8.acceptRanges", "internal/bytealg.MaxLen"], apart := false, laid := [("math/bits.deBruijn32tab", laid_math_bits_deBruijn32tab), ("math/bits.deBruijn64tab", laid_math_bits_deBruijn64tab), ("internal/strconv.uint64pow10", laid_internal_strconv_uint64pow10), ("unicode/utf8.acceptRanges", laid_unicode_utf8_acceptRanges), ("unicode/utf8.first", laid_unicode_utf8_first)] }
def InstructionParsesSaid : Prop := instructionParsesRow.holds Tryd.pinned (OpenSpec.ofChange instructionParsesSpec)

/-- ITS FALSE NEIGHBOUR: 'it returns false'. Refute it at one input. -/
def instructionParsesWrong : ChangeSpec := { name := "instructionParses", fn := fun _ => fun
  | [d] => { results := [.lit (.bool false)], args := [d] }
  | _ => none }
def InstructionParsesWrongFalsely : Prop := instructionParsesRow.holds Tryd.pinned (OpenSpec.ofChange instructionParsesWrong)

/-- 'overseerlaw52.InstructionReaches': WHATEVER THE INPUT: true; the input reads as it did. -/
def instructionReachesSpec : ChangeSpec := { name := "instructionReaches", fn := fun _ => fun
  | [d] => { results := [.lit (.bool true)], args := [d] }
  | _ => none }
def instructionReachesRow : OpenClaim := { program := "ytiejgieiokmmfaadoor", sum := "d310fde51becbdcb0633aeba54ed9192ba7a260dfa731f661c64ff8e0d9890fb", func := "overseer/overseerlaw52.InstructionReaches", spec := "instructionReaches", inPlace := ["internal/abi.NoEscape", "internal/bytealg.MakeNoZero"], unfollowed := true, recurses := true, named := ["internal/strconv.uint64pow10", "math/bits.deBruijn32tab", "math/bits.deBruijn64tab"], apart := false, laid := [("math/bits.deBruijn32tab", laid_math_bits_deBruijn32tab), ("math/bits.deBruijn64tab", laid_math_bits_deBruijn64tab), ("internal/strconv.uint64pow10", laid_internal_strconv_uint64pow10)] }
def InstructionReachesSaid : Prop := instructionReachesRow.holds Tryd.pinned (OpenSpec.ofChange instructionReachesSpec)

/-- ITS FALSE NEIGHBOUR: 'it returns false'. Refute it at one input. -/
def instructionReachesWrong : ChangeSpec := { name := "instructionReaches", fn := fun _ => fun
  | [d] => { results := [.lit (.bool false)], args := [d] }
  | _ => none }
def InstructionReachesWrongFalsely : Prop := instructionReachesRow.holds Tryd.pinned (OpenSpec.ofChange instructionReachesWrong)

/-- 'overseerlaw52.InstructionKeeps': WHATEVER THE INPUT: true; the input reads as it did. -/
def instructionKeepsSpec : ChangeSpec := { name := "instructionKeeps", fn := fun _ => fun
  | [d1, d2] => { results := [.lit (.bool true)], args := [d1, d2] }
  | _ => none }
def instructionKeepsRow : OpenClaim := { program := "ytiejgieiokmmfaadoor", sum := "d310fde51becbdcb0633aeba54ed9192ba7a260dfa731f661c64ff8e0d9890fb", func := "overseer/overseerlaw52.InstructionKeeps", spec := "instructionKeeps", inPlace := ["internal/abi.NoEscape", "internal/bytealg.MakeNoZero"], unfollowed := true, recurses := true, named := ["internal/strconv.uint64pow10", "math/bits.deBruijn32tab", "math/bits.deBruijn64tab"], apart := false, laid := [("math/bits.deBruijn32tab", laid_math_bits_deBruijn32tab), ("math/bits.deBruijn64tab", laid_math_bits_deBruijn64tab), ("internal/strconv.uint64pow10", laid_internal_strconv_uint64pow10)] }
def InstructionKeepsSaid : Prop := instructionKeepsRow.holds Tryd.pinned (OpenSpec.ofChange instructionKeepsSpec)

/-- ITS FALSE NEIGHBOUR: 'it returns false'. Refute it at one input. -/
def instructionKeepsWrong : ChangeSpec := { name := "instructionKeeps", fn := fun _ => fun
  | [d1, d2] => { results := [.lit (.bool false)], args := [d1, d2] }
  | _ => none }
def InstructionKeepsWrongFalsely : Prop := instructionKeepsRow.holds Tryd.pinned (OpenSpec.ofChange instructionKeepsWrong)

/-- 'overseerlaw52.InstructionChecks': WHATEVER THE INPUT: true; the input reads as it did. -/
def instructionChecksSpec : ChangeSpec := { name := "instructionChecks", fn := fun _ => fun
  | [d] => { results := [.lit (.bool true)], args := [d] }
  | _ => none }
def instructionChecksRow : OpenClaim := { program := "ytiejgieiokmmfaadoor", sum := "d310fde51becbdcb0633aeba54ed9192ba7a260dfa731f661c64ff8e0d9890fb", func := "overseer/overseerlaw52.InstructionChecks", spec := "instructionChecks", inPlace := ["internal/abi.NoEscape", "internal/bytealg.MakeNoZero"], unfollowed := true, recurses := true, named := ["internal/strconv.uint64pow10", "math/bits.deBruijn32tab", "math/bits.deBruijn64tab"], apart := false, laid := [("math/bits.deBruijn32tab", laid_math_bits_deBruijn32tab), ("math/bits.deBruijn64tab", laid_math_bits_deBruijn64tab), ("internal/strconv.uint64pow10", laid_internal_strconv_uint64pow10)] }
def InstructionChecksSaid : Prop := instructionChecksRow.holds Tryd.pinned (OpenSpec.ofChange instructionChecksSpec)

/-- ITS FALSE NEIGHBOUR: 'it returns false'. Refute it at one input. -/
def instructionChecksWrong : ChangeSpec := { name := "instructionChecks", fn := fun _ => fun
  | [d] => { results := [.lit (.bool false)], args := [d] }
  | _ => none }
def InstructionChecksWrongFalsely : Prop := instructionChecksRow.holds Tryd.pinned (OpenSpec.ofChange instructionChecksWrong)

/- THE SECOND FORM. 'bulk': how many values and letters a reading holds, each counted each time it is reached (what is shared counts as often as it is met; a slice's spare places count too). A statement '..UptoSaid' is the law's where the arguments, and the package variables that the reading takes, are together of bulk at most 1048576: NARROWER than '..Said'. Prove '..Said' where nothing that the law and all that it calls make is longer than what came in: it says more and counts as full. Else prove '..UptoSaid'. A law counts once. -/
mutual
def uptoBulk {H : Type} : DataW H → Nat
  | .lit (.string bytes) => bytes.length + 1
  | .lit _ => 1
  | .nil => 1
  | .ptr d => uptoBulk d + 1
  | .slice elems spare => uptoBulkAll elems + uptoBulkAll spare + 1
  | .agg parts => uptoBulkAll parts + 1
  | .iface _ d => uptoBulk d + 1
  | .map entries => uptoBulkEntries entries + 1
  | .held _ => 1
def uptoBulkAll {H : Type} : List (DataW H) → Nat
  | [] => 0
  | d :: r => uptoBulk d + uptoBulkAll r
def uptoBulkEntries {H : Type} : List (Lit × DataW H) → Nat
  | [] => 0
  | x :: r => uptoBulkEntry x + uptoBulkEntries r
def uptoBulkEntry {H : Type} : Lit × DataW H → Nat
  | (.string bytes, d) => bytes.length + uptoBulk d + 1
  | (_, d) => uptoBulk d + 1
 end
def uptoSmall : (H : Type) → List (DataW H) → Bool := fun _ ds => decide (uptoBulkAll ds ≤ 1048576)
def OpenSpec.upto (s : _root_.Go.ChangeSpec) : _root_.Go.OpenSpec := { _root_.Go.OpenSpec.ofChange s with cond := some uptoSmall }

/-- 'overseerlaw52.InstructionRuns', WHERE WHAT IT READS IS OF BULK AT MOST 1048576: true; the input reads as it did. -/
def instructionRunsUptoRow : OpenClaim := { program := "ytiejgieiokmmfaadoor", sum := "d310fde51becbdcb0633aeba54ed9192ba7a260dfa731f661c64ff8e0d9890fb", func := "overseer/overseerlaw52.InstructionRuns", spec := "instructionRuns", inPlace := ["internal/abi.NoEscape", "internal/bytealg.MakeNoZero"], unfollowed := true, recurses := true, named := ["internal/strconv.uint64pow10", "math/bits.deBruijn32tab", "math/bits.deBruijn64tab"], apart := false, laid := [("math/bits.deBruijn32tab", laid_math_bits_deBruijn32tab), ("math/bits.deBruijn64tab", laid_math_bits_deBruijn64tab), ("internal/strconv.uint64pow10", laid_internal_strconv_uint64pow10)], narrowed := true }
def InstructionRunsUptoSaid : Prop := instructionRunsUptoRow.holds Tryd.pinned (OpenSpec.upto instructionRunsSpec)

/-- 'overseerlaw52.InstructionScans', WHERE WHAT IT READS IS OF BULK AT MOST 1048576: true; the input reads as it did. -/
def instructionScansUptoRow : OpenClaim := { program := "ytiejgieiokmmfaadoor", sum := "d310fde51becbdcb0633aeba54ed9192ba7a260dfa731f661c64ff8e0d9890fb", func := "overseer/overseerlaw52.InstructionScans", spec := "instructionScans", inPlace := ["internal/abi.NoEscape", "internal/bytealg.MakeNoZero"], unfollowed := true, recurses := true, named := ["internal/strconv.uint64pow10", "math/bits.deBruijn32tab", "math/bits.deBruijn64tab"], apart := false, laid := [("math/bits.deBruijn32tab", laid_math_bits_deBruijn32tab), ("math/bits.deBruijn64tab", laid_math_bits_deBruijn64tab), ("internal/strconv.uint64pow10", laid_internal_strconv_uint64pow10)], narrowed := true }
def InstructionScansUptoSaid : Prop := instructionScansUptoRow.holds Tryd.pinned (OpenSpec.upto instructionScansSpec)

/-- 'overseerlaw52.InstructionCompacts', WHERE WHAT IT READS IS OF BULK AT MOST 1048576: true; the input reads as it did. -/
def instructionCompactsUptoRow : OpenClaim := { program := "ytiejgieiokmmfaadoor", sum := "d310fde51becbdcb0633aeba54ed9192ba7a260dfa731f661c64ff8e0d9890fb", func := "overseer/overseerlaw52.InstructionCompacts", spec := "instructionCompacts", inPlace := ["internal/abi.NoEscape", "internal/bytealg.MakeNoZero"], unfollowed := true, recurses := true, named := ["internal/strconv.uint64pow10", "math/bits.deBruijn32tab", "math/bits.deBruijn64tab"], apart := false, laid := [("math/bits.deBruijn32tab", laid_math_bits_deBruijn32tab), ("math/bits.deBruijn64tab", laid_math_bits_deBruijn64tab), ("internal/strconv.uint64pow10", laid_internal_strconv_uint64pow10)], narrowed := true }
def InstructionCompactsUptoSaid : Prop := instructionCompactsUptoRow.holds Tryd.pinned (OpenSpec.upto instructionCompactsSpec)

/-- 'overseerlaw52.InstructionParses', WHERE WHAT IT READS IS OF BULK AT MOST 1048576: true; the input reads as it did. -/
def instructionParsesUptoRow : OpenClaim := { program := "ytiejgieiokmmfaadoor", sum := "d310fde51becbdcb0633aeba54ed9192ba7a260dfa731f661c64ff8e0d9890fb", func := "overseer/overseerlaw52.InstructionParses", spec := "instructionParses", inPlace := ["internal/abi.NoEscape", "internal/bytealg.MakeNoZero", "internal/bytealg.CountString", "internal/bytealg.IndexByteString", "internal/bytealg.IndexString"], unfollowed := true, recurses := true, named := ["internal/strconv.uint64pow10", "math/bits.deBruijn32tab", "math/bits.deBruijn64tab", "unicode/utf8.first", "unicode/utf8.acceptRanges", "internal/bytealg.MaxLen"], apart := false, laid := [("math/bits.deBruijn32tab", laid_math_bits_deBruijn32tab), ("math/bits.deBruijn64tab", laid_math_bits_deBruijn64tab), ("internal/strconv.uint64pow10", laid_internal_strconv_uint64pow10), ("unicode/utf8.acceptRanges", laid_unicode_utf8_acceptRanges), ("unicode/utf8.first", laid_unicode_utf8_first)], narrowed := true }
def InstructionParsesUptoSaid : Prop := instructionParsesUptoRow.holds Tryd.pinned (OpenSpec.upto instructionParsesSpec)

/-- 'overseerlaw52.InstructionReaches', WHERE WHAT IT READS IS OF BULK AT MOST 1048576: true; the input reads as it did. -/
def instructionReachesUptoRow : OpenClaim := { program := "ytiejgieiokmmfaadoor", sum := "d310fde51becbdcb0633aeba54ed9192ba7a260dfa731f661c64ff8e0d9890fb", func := "overseer/overseerlaw52.InstructionReaches", spec := "instructionReaches", inPlace := ["internal/abi.NoEscape", "internal/bytealg.MakeNoZero"], unfollowed := true, recurses := true, named := ["internal/strconv.uint64pow10", "math/bits.deBruijn32tab", "math/bits.deBruijn64tab"], apart := false, laid := [("math/bits.deBruijn32tab", laid_math_bits_deBruijn32tab), ("math/bits.deBruijn64tab", laid_math_bits_deBruijn64tab), ("internal/strconv.uint64pow10", laid_internal_strconv_uint64pow10)], narrowed := true }
def InstructionReachesUptoSaid : Prop := instructionReachesUptoRow.holds Tryd.pinned (OpenSpec.upto instructionReachesSpec)

/-- 'overseerlaw52.InstructionKeeps', WHERE WHAT IT READS IS OF BULK AT MOST 1048576: true; the input reads as it did. -/
def instructionKeepsUptoRow : OpenClaim := { program := "ytiejgieiokmmfaadoor", sum := "d310fde51becbdcb0633aeba54ed9192ba7a260dfa731f661c64ff8e0d9890fb", func := "overseer/overseerlaw52.InstructionKeeps", spec := "instructionKeeps", inPlace := ["internal/abi.NoEscape", "internal/bytealg.MakeNoZero"], unfollowed := true, recurses := true, named := ["internal/strconv.uint64pow10", "math/bits.deBruijn32tab", "math/bits.deBruijn64tab"], apart := false, laid := [("math/bits.deBruijn32tab", laid_math_bits_deBruijn32tab), ("math/bits.deBruijn64tab", laid_math_bits_deBruijn64tab), ("internal/strconv.uint64pow10", laid_internal_strconv_uint64pow10)], narrowed := true }
def InstructionKeepsUptoSaid : Prop := instructionKeepsUptoRow.holds Tryd.pinned (OpenSpec.upto instructionKeepsSpec)

/-- 'overseerlaw52.InstructionChecks', WHERE WHAT IT READS IS OF BULK AT MOST 1048576: true; the input reads as it did. -/
def instructionChecksUptoRow : OpenClaim := { program := "ytiejgieiokmmfaadoor", sum := "d310fde51becbdcb0633aeba54ed9192ba7a260dfa731f661c64ff8e0d9890fb", func := "overseer/overseerlaw52.InstructionChecks", spec := "instructionChecks", inPlace := ["internal/abi.NoEscape", "internal/bytealg.MakeNoZero"], unfollowed := true, recurses := true, named := ["internal/strconv.uint64pow10", "math/bits.deBruijn32tab", "math/bits.deBruijn64tab"], apart := false, laid := [("math/bits.deBruijn32tab", laid_math_bits_deBruijn32tab), ("math/bits.deBruijn64tab", laid_math_bits_deBruijn64tab), ("internal/strconv.uint64pow10", laid_internal_strconv_uint64pow10)], narrowed := true }
def InstructionChecksUptoSaid : Prop := instructionChecksUptoRow.holds Tryd.pinned (OpenSpec.upto instructionChecksSpec)

end Rows
end Go.Proofs.YtiejgieiokmmfaaDoor

/-
  No cell of these rows narrows 'for every input' (looked for: loops, veiled, ifaces, maps, wideKeys, modest, calm, conditions, laid).
  DERIVED. THE GIVEN ROWS OF THIS SEAT. 8 by the template 'for every input the law returns true; each argument reads behind the call as it read before'; 0 by the template 'total and deterministic' (their statements: YtoajpgclgdhhlaaTotals.lean).
  GIVEN WITH THE SEED: the statements are not yours to turn. If you find one false, say at which input.
  Laid BY PROGRAM, IN A SANDBOX (cutbox-rows.mjs): the forced cells as the released guide's own fill.sh prints them over the translation a89d004c4996b2f2… (all of the seat's roots in one cut). By AI agents, Wed Nov 11 2026. No macro, syntax, notation, axiom, sorry.
-/
import Derived.Test.YtoajpgclgdhhlaaChecked
import GoSem.Claim
import GoSem.ClaimJoined
import GoSem.ClaimMapViews
import Derived.JoinedTies
import Derived.KernelRfl
namespace Go.Proofs.Ytoajpgclgdhhlaa
/- THE CELL 'sum', in the pinned program and in every row, IS THE sha256 OF THE DUMP (.gsa) THAT YtoajpgclgdhhlaaProg.lean LOADS. Nothing in Lean hashes anything: it is a label: what it is worth is what the hold of that sum in a sandbox is worth. -/
noncomputable def Try.pinned : Pinned := { name := "ytoajpgclgdhhlaa", sum := "a89d004c4996b2f2ab5065f482c407ed5ae2271d031e7dbc46ff12436674ae45", checked := Try.checked }
namespace Rows
def none {H : Type} : Left H := { results := [], args := [] }

/-- 'overseerlaw16.LexerLengths': WHATEVER THE INPUT: true; the input reads as it did. -/
def lexerLengthsSpec : ChangeSpec := { name := "lexerLengths", fn := fun _ => fun
  | [d] => { results := [.lit (.bool true)], args := [d] }
  | _ => none }
def lexerLengthsRow : OpenClaim := { program := "ytoajpgclgdhhlaa", sum := "a89d004c4996b2f2ab5065f482c407ed5ae2271d031e7dbc46ff12436674ae45", func := "overseer/overseerlaw16.LexerLengths", spec := "lexerLengths", inPlace := ["internal/bytealg.IndexByteString", "internal/abi.NoEscape", "internal/bytealg.MakeNoZero"], unfollowed := true, recurses := true, apart := false }
def LexerLengthsSaid : Prop := lexerLengthsRow.holds Try.pinned (OpenSpec.ofChange lexerLengthsSpec)

/-- ITS FALSE NEIGHBOUR: 'it returns false'. Refute it at one input. -/
def lexerLengthsWrong : ChangeSpec := { name := "lexerLengths", fn := fun _ => fun
  | [d] => { results := [.lit (.bool false)], args := [d] }
  | _ => none }
def LexerLengthsWrongFalsely : Prop := lexerLengthsRow.holds Try.pinned (OpenSpec.ofChange lexerLengthsWrong)

/-- 'overseerlaw16.LexerJoins': WHATEVER THE INPUT: true; the input reads as it did. -/
def lexerJoinsSpec : ChangeSpec := { name := "lexerJoins", fn := fun _ => fun
  | [d] => { results := [.lit (.bool true)], args := [d] }
  | _ => none }
def lexerJoinsRow : OpenClaim := { program := "ytoajpgclgdhhlaa", sum := "a89d004c4996b2f2ab5065f482c407ed5ae2271d031e7dbc46ff12436674ae45", func := "overseer/overseerlaw16.LexerJoins", spec := "lexerJoins", inPlace := ["internal/bytealg.IndexByteString", "internal/abi.NoEscape", "internal/bytealg.MakeNoZero"], unfollowed := true, recurses := true, apart := false }
def LexerJoinsSaid : Prop := lexerJoinsRow.holds Try.pinned (OpenSpec.ofChange lexerJoinsSpec)

/-- ITS FALSE NEIGHBOUR: 'it returns false'. Refute it at one input. -/
def lexerJoinsWrong : ChangeSpec := { name := "lexerJoins", fn := fun _ => fun
  | [d] => { results := [.lit (.bool false)], args := [d] }
  | _ => none }
def LexerJoinsWrongFalsely : Prop := lexerJoinsRow.holds Try.pinned (OpenSpec.ofChange lexerJoinsWrong)

/-- 'overseerlaw16.LexerPlaces': WHATEVER THE INPUT: true; the input reads as it did. -/
def lexerPlacesSpec : ChangeSpec := { name := "lexerPlaces", fn := fun _ => fun
  | [d] => { results := [.lit (.bool true)], args := [d] }
  | _ => none }
def lexerPlacesRow : OpenClaim := { program := "ytoajpgclgdhhlaa", sum := "a89d004c4996b2f2ab5065f482c407ed5ae2271d031e7dbc46ff12436674ae45", func := "overseer/overseerlaw16.LexerPlaces", spec := "lexerPlaces", inPlace := ["internal/bytealg.IndexByteString", "internal/abi.NoEscape", "internal/bytealg.MakeNoZero"], unfollowed := true, recurses := true, apart := false }
def LexerPlacesSaid : Prop := lexerPlacesRow.holds Try.pinned (OpenSpec.ofChange lexerPlacesSpec)

/-- ITS FALSE NEIGHBOUR: 'it returns false'. Refute it at one input. -/
def lexerPlacesWrong : ChangeSpec := { name := "lexerPlaces", fn := fun _ => fun
  | [d] => { results := [.lit (.bool false)], args := [d] }
  | _ => none }
def LexerPlacesWrongFalsely : Prop := lexerPlacesRow.holds Try.pinned (OpenSpec.ofChange lexerPlacesWrong)

/-- 'overseerlaw16.LexerFollows': WHATEVER THE INPUT: true; the input reads as it did. -/
def lexerFollowsSpec : ChangeSpec := { name := "lexerFollows", fn := fun _ => fun
  | [d1, d2] => { results := [.lit (.bool true)], args := [d1, d2] }
  | _ => none }
def lexerFollowsRow : OpenClaim := { program := "ytoajpgclgdhhlaa", sum := "a89d004c4996b2f2ab5065f482c407ed5ae2271d031e7dbc46ff12436674ae45", func := "overseer/overseerlaw16.LexerFollows", spec := "lexerFollows", inPlace := ["internal/bytealg.IndexByteString", "internal/abi.NoEscape", "internal/bytealg.MakeNoZero"], unfollowed := true, recurses := true, apart := false }
def LexerFollowsSaid : Prop := lexerFollowsRow.holds Try.pinned (OpenSpec.ofChange lexerFollowsSpec)

/-- ITS FALSE NEIGHBOUR: 'it returns false'. Refute it at one input. -/
def lexerFollowsWrong : ChangeSpec := { name := "lexerFollows", fn := fun _ => fun
  | [d1, d2] => { results := [.lit (.bool false)], args := [d1, d2] }
  | _ => none }
def LexerFollowsWrongFalsely : Prop := lexerFollowsRow.holds Try.pinned (OpenSpec.ofChange lexerFollowsWrong)

/-- 'overseerlaw16.LexerSpaces': WHATEVER THE INPUT: true; the input reads as it did. -/
def lexerSpacesSpec : ChangeSpec := { name := "lexerSpaces", fn := fun _ => fun
  | [d1, d2] => { results := [.lit (.bool true)], args := [d1, d2] }
  | _ => none }
def lexerSpacesRow : OpenClaim := { program := "ytoajpgclgdhhlaa", sum := "a89d004c4996b2f2ab5065f482c407ed5ae2271d031e7dbc46ff12436674ae45", func := "overseer/overseerlaw16.LexerSpaces", spec := "lexerSpaces", inPlace := ["internal/bytealg.IndexByteString", "internal/abi.NoEscape", "internal/bytealg.MakeNoZero"], unfollowed := true, recurses := true, apart := false }
def LexerSpacesSaid : Prop := lexerSpacesRow.holds Try.pinned (OpenSpec.ofChange lexerSpacesSpec)

/-- ITS FALSE NEIGHBOUR: 'it returns false'. Refute it at one input. -/
def lexerSpacesWrong : ChangeSpec := { name := "lexerSpaces", fn := fun _ => fun
  | [d1, d2] => { results := [.lit (.bool false)], args := [d1, d2] }
  | _ => none }
def LexerSpacesWrongFalsely : Prop := lexerSpacesRow.holds Try.pinned (OpenSpec.ofChange lexerSpacesWrong)

/-- 'overseerlaw16.LexerScans': WHATEVER THE INPUT: true; the input reads as it did. -/
def lexerScansSpec : ChangeSpec := { name := "lexerScans", fn := fun _ => fun
  | [d] => { results := [.lit (.bool true)], args := [d] }
  | _ => none }
def lexerScansRow : OpenClaim := { program := "ytoajpgclgdhhlaa", sum := "a89d004c4996b2f2ab5065f482c407ed5ae2271d031e7dbc46ff12436674ae45", func := "overseer/overseerlaw16.LexerScans", spec := "lexerScans", inPlace := ["internal/bytealg.IndexByteString", "internal/abi.NoEscape", "internal/bytealg.MakeNoZero"], unfollowed := true, recurses := true, apart := false }
def LexerScansSaid : Prop := lexerScansRow.holds Try.pinned (OpenSpec.ofChange lexerScansSpec)

/-- ITS FALSE NEIGHBOUR: 'it returns false'. Refute it at one input. -/
def lexerScansWrong : ChangeSpec := { name := "lexerScans", fn := fun _ => fun
  | [d] => { results := [.lit (.bool false)], args := [d] }
  | _ => none }
def LexerScansWrongFalsely : Prop := lexerScansRow.holds Try.pinned (OpenSpec.ofChange lexerScansWrong)

/-- 'overseerlaw16.LexerNil': WHATEVER THE INPUT: true; the input reads as it did. -/
def lexerNilSpec : ChangeSpec := { name := "lexerNil", fn := fun _ => fun
  | [d] => { results := [.lit (.bool true)], args := [d] }
  | _ => none }
def lexerNilRow : OpenClaim := { program := "ytoajpgclgdhhlaa", sum := "a89d004c4996b2f2ab5065f482c407ed5ae2271d031e7dbc46ff12436674ae45", func := "overseer/overseerlaw16.LexerNil", spec := "lexerNil", inPlace := ["internal/bytealg.IndexByteString", "internal/abi.NoEscape", "internal/bytealg.MakeNoZero"], unfollowed := true, recurses := true, apart := false }
def LexerNilSaid : Prop := lexerNilRow.holds Try.pinned (OpenSpec.ofChange lexerNilSpec)

/-- ITS FALSE NEIGHBOUR: 'it returns false'. Refute it at one input. -/
def lexerNilWrong : ChangeSpec := { name := "lexerNil", fn := fun _ => fun
  | [d] => { results := [.lit (.bool false)], args := [d] }
  | _ => none }
def LexerNilWrongFalsely : Prop := lexerNilRow.holds Try.pinned (OpenSpec.ofChange lexerNilWrong)

/-- 'overseerlaw16.LexerReads': WHATEVER THE INPUT: true; the input reads as it did. -/
def lexerReadsSpec : ChangeSpec := { name := "lexerReads", fn := fun _ => fun
  | [d1, d2] => { results := [.lit (.bool true)], args := [d1, d2] }
  | _ => none }
def lexerReadsRow : OpenClaim := { program := "ytoajpgclgdhhlaa", sum := "a89d004c4996b2f2ab5065f482c407ed5ae2271d031e7dbc46ff12436674ae45", func := "overseer/overseerlaw16.LexerReads", spec := "lexerReads", inPlace := ["internal/bytealg.IndexByteString", "internal/abi.NoEscape", "internal/bytealg.MakeNoZero"], unfollowed := true, recurses := true, apart := false }
def LexerReadsSaid : Prop := lexerReadsRow.holds Try.pinned (OpenSpec.ofChange lexerReadsSpec)

/-- ITS FALSE NEIGHBOUR: 'it returns false'. Refute it at one input. -/
def lexerReadsWrong : ChangeSpec := { name := "lexerReads", fn := fun _ => fun
  | [d1, d2] => { results := [.lit (.bool false)], args := [d1, d2] }
  | _ => none }
def LexerReadsWrongFalsely : Prop := lexerReadsRow.holds Try.pinned (OpenSpec.ofChange lexerReadsWrong)

/- THE SECOND FORM. 'bulk': how many values and letters a reading holds, each counted each time it is reached (what is shared counts as often as it is met; a slice's spare places count too). A statement '..UptoSaid' is the law's where the arguments, and the package variables that the reading takes, are together of bulk at most 1048576: NARROWER than '..Said'. Prove '..Said' where nothing that the law and all that it calls make is longer than what came in: it says more and counts as full. Else prove '..UptoSaid'. A law counts once. -/
mutual
def uptoBulk {H : Type} : DataW H → Nat
  | .lit (.string bytes) => bytes.length + 1
  | .lit _ => 1
  | .nil => 1
  | .ptr d => uptoBulk d + 1
  | .slice elems spare => uptoBulkAll elems + uptoBulkAll spare + 1
  | .agg parts => uptoBulkAll parts + 1
  | .iface _ d => uptoBulk d + 1
  | .map entries => uptoBulkEntries entries + 1
  | .held _ => 1
def uptoBulkAll {H : Type} : List (DataW H) → Nat
  | [] => 0
  | d :: r => uptoBulk d + uptoBulkAll r
def uptoBulkEntries {H : Type} : List (Lit × DataW H) → Nat
  | [] => 0
  | x :: r => uptoBulkEntry x + uptoBulkEntries r
def uptoBulkEntry {H : Type} : Lit × DataW H → Nat
  | (.string bytes, d) => bytes.length + uptoBulk d + 1
  | (_, d) => uptoBulk d + 1
 end
def uptoSmall : (H : Type) → List (DataW H) → Bool := fun _ ds => decide (uptoBulkAll ds ≤ 1048576)
def OpenSpec.upto (s : _root_.Go.ChangeSpec) : _root_.Go.OpenSpec := { _root_.Go.OpenSpec.ofChange s with cond := some uptoSmall }

/-- 'overseerlaw16.LexerLengths', WHERE WHAT IT READS IS OF BULK AT MOST 1048576: true; the input reads as it did. -/
def lexerLengthsUptoRow : OpenClaim := { program := "ytoajpgclgdhhlaa", sum := "a89d004c4996b2f2ab5065f482c407ed5ae2271d031e7dbc46ff12436674ae45", func := "overseer/overseerlaw16.LexerLengths", spec := "lexerLengths", inPlace := ["internal/bytealg.IndexByteString", "internal/abi.NoEscape", "internal/bytealg.MakeNoZero"], unfollowed := true, recurses := true, apart := false, narrowed := true }
def LexerLengthsUptoSaid : Prop := lexerLengthsUptoRow.holds Try.pinned (OpenSpec.upto lexerLengthsSpec)

/-- 'overseerlaw16.LexerJoins', WHERE WHAT IT READS IS OF BULK AT MOST 1048576: true; the input reads as it did. -/
def lexerJoinsUptoRow : OpenClaim := { program := "ytoajpgclgdhhlaa", sum := "a89d004c4996b2f2ab5065f482c407ed5ae2271d031e7dbc46ff12436674ae45", func := "overseer/overseerlaw16.LexerJoins", spec := "lexerJoins", inPlace := ["internal/bytealg.IndexByteString", "internal/abi.NoEscape", "internal/bytealg.MakeNoZero"], unfollowed := true, recurses := true, apart := false, narrowed := true }
def LexerJoinsUptoSaid : Prop := lexerJoinsUptoRow.holds Try.pinned (OpenSpec.upto lexerJoinsSpec)

/-- 'overseerlaw16.LexerPlaces', WHERE WHAT IT READS IS OF BULK AT MOST 1048576: true; the input reads as it did. -/
def lexerPlacesUptoRow : OpenClaim := { program := "ytoajpgclgdhhlaa", sum := "a89d004c4996b2f2ab5065f482c407ed5ae2271d031e7dbc46ff12436674ae45", func := "overseer/overseerlaw16.LexerPlaces", spec := "lexerPlaces", inPlace := ["internal/bytealg.IndexByteString", "internal/abi.NoEscape", "internal/bytealg.MakeNoZero"], unfollowed := true, recurses := true, apart := false, narrowed := true }
def LexerPlacesUptoSaid : Prop := lexerPlacesUptoRow.holds Try.pinned (OpenSpec.upto lexerPlacesSpec)

/-- 'overseerlaw16.LexerFollows', WHERE WHAT IT READS IS OF BULK AT MOST 1048576: true; the input reads as it did. -/
def lexerFollowsUptoRow : OpenClaim := { program := "ytoajpgclgdhhlaa", sum := "a89d004c4996b2f2ab5065f482c407ed5ae2271d031e7dbc46ff12436674ae45", func := "overseer/overseerlaw16.LexerFollows", spec := "lexerFollows", inPlace := ["internal/bytealg.IndexByteString", "internal/abi.NoEscape", "internal/bytealg.MakeNoZero"], unfollowed := true, recurses := true, apart := false, narrowed := true }
def LexerFollowsUptoSaid : Prop := lexerFollowsUptoRow.holds Try.pinned (OpenSpec.upto lexerFollowsSpec)

/-- 'overseerlaw16.LexerSpaces', WHERE WHAT IT READS IS OF BULK AT MOST 1048576: true; the input reads as it did. -/
def lexerSpacesUptoRow : OpenClaim := { program := "ytoajpgclgdhhlaa", sum := "a89d004c4996b2f2ab5065f482c407ed5ae2271d031e7dbc46ff12436674ae45", func := "overseer/overseerlaw16.LexerSpaces", spec := "lexerSpaces", inPlace := ["internal/bytealg.IndexByteString", "internal/abi.NoEscape", "internal/bytealg.MakeNoZero"], unfollowed := true, recurses := true, apart := false, narrowed := true }
def LexerSpacesUptoSaid : Prop := lexerSpacesUptoRow.holds Try.pinned (OpenSpec.upto lexerSpacesSpec)

/-- 'overseerlaw16.LexerScans', WHERE WHAT IT READS IS OF BULK AT MOST 1048576: true; the input reads as it did. -/
def lexerScansUptoRow : OpenClaim := { program := "ytoajpgclgdhhlaa", sum := "a89d004c4996b2f2ab5065f482c407ed5ae2271d031e7dbc46ff12436674ae45", func := "overseer/overseerlaw16.LexerScans", spec := "lexerScans", inPlace := ["internal/bytealg.IndexByteString", "internal/abi.NoEscape", "internal/bytealg.MakeNoZero"], unfollowed := true, recurses := true, apart := false, narrowed := true }
def LexerScansUptoSaid : Prop := lexerScansUptoRow.holds Try.pinned (OpenSpec.upto lexerScansSpec)

/-- 'overseerlaw16.LexerNil', WHERE WHAT IT READS IS OF BULK AT MOST 1048576: true; the input reads as it did. -/
def lexerNilUptoRow : OpenClaim := { program := "ytoajpgclgdhhlaa", sum := "a89d004c4996b2f2ab5065f482c407ed5ae2271d031e7dbc46ff12436674ae45", func := "overseer/overseerlaw16.LexerNil", spec := "lexerNil", inPlace := ["internal/bytealg.IndexByteString", "internal/abi.NoEscape", "internal/bytealg.MakeNoZero"], unfollowed := true, recurses := true, apart := false, narrowed := true }
def LexerNilUptoSaid : Prop := lexerNilUptoRow.holds Try.pinned (OpenSpec.upto lexerNilSpec)

/-- 'overseerlaw16.LexerReads', WHERE WHAT IT READS IS OF BULK AT MOST 1048576: true; the input reads as it did. -/
def lexerReadsUptoRow : OpenClaim := { program := "ytoajpgclgdhhlaa", sum := "a89d004c4996b2f2ab5065f482c407ed5ae2271d031e7dbc46ff12436674ae45", func := "overseer/overseerlaw16.LexerReads", spec := "lexerReads", inPlace := ["internal/bytealg.IndexByteString", "internal/abi.NoEscape", "internal/bytealg.MakeNoZero"], unfollowed := true, recurses := true, apart := false, narrowed := true }
def LexerReadsUptoSaid : Prop := lexerReadsUptoRow.holds Try.pinned (OpenSpec.upto lexerReadsSpec)

end Rows
end Go.Proofs.Ytoajpgclgdhhlaa

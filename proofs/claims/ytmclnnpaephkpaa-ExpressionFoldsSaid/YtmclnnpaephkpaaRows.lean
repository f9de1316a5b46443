/-
  NARROWER THAN 'FOR EVERY INPUT', by the rows' own cells (each row's printed sentence says how): ExpressionChecks: loops · ExpressionValues: loops · ExpressionBounds: loops · ExpressionFolds: loops.
  DERIVED. THE GIVEN ROWS OF THIS SEAT. 9 by the template 'for every input the law returns true; each argument reads behind the call as it read before'; 0 by the template 'total and deterministic' (their statements: YtmclnnpaephkpaaTotals.lean).
  GIVEN WITH THE SEED: the statements are not yours to turn. If you find one false, say at which input.
  Laid BY PROGRAM, IN A SANDBOX (cutbox-rows.mjs): the forced cells as the released guide's own fill.sh prints them over the translation 2c2e00f958fcd193… (all of the seat's roots in one cut). By AI agents, Wed Nov 11 2026. No macro, syntax, notation, axiom, sorry.
-/
import Derived.Test.YtmclnnpaephkpaaChecked
import GoSem.Claim
import GoSem.ClaimJoined
import GoSem.ClaimMapViews
import Derived.JoinedTies
import Derived.KernelRfl
namespace Go.Proofs.Ytmclnnpaephkpaa
/- THE CELL 'sum', in the pinned program and in every row, IS THE sha256 OF THE DUMP (.gsa) THAT YtmclnnpaephkpaaProg.lean LOADS. Nothing in Lean hashes anything: it is a label: what it is worth is what the hold of that sum in a sandbox is worth. -/
noncomputable def Try.pinned : Pinned := { name := "ytmclnnpaephkpaa", sum := "2c2e00f958fcd193a37f70b1de40029f1694ef260f35bcc294725903272b35a1", checked := Try.checked }
namespace Rows
def none {H : Type} : Left H := { results := [], args := [] }

/-- 'overseerlaw14.ExpressionChecks': WHATEVER THE INPUT: true; the input reads as it did. -/
def expressionChecksSpec : ChangeSpec := { name := "expressionChecks", fn := fun _ => fun
  | [d1, d2, d3] => { results := [.lit (.bool true)], args := [d1, d2, d3] }
  | _ => none }
def expressionChecksRow : OpenClaim := { program := "ytmclnnpaephkpaa", sum := "2c2e00f958fcd193a37f70b1de40029f1694ef260f35bcc294725903272b35a1", func := "overseer/overseerlaw14.ExpressionChecks", spec := "expressionChecks", unfollowed := true, recurses := true, loops := true, apart := false }
def ExpressionChecksSaid : Prop := expressionChecksRow.holds Try.pinned (OpenSpec.ofChange expressionChecksSpec)

/-- ITS FALSE NEIGHBOUR: 'it returns false'. Refute it at one input. -/
def expressionChecksWrong : ChangeSpec := { name := "expressionChecks", fn := fun _ => fun
  | [d1, d2, d3] => { results := [.lit (.bool false)], args := [d1, d2, d3] }
  | _ => none }
def ExpressionChecksWrongFalsely : Prop := expressionChecksRow.holds Try.pinned (OpenSpec.ofChange expressionChecksWrong)

/-- 'overseerlaw14.ExpressionValues': WHATEVER THE INPUT: true; the input reads as it did. -/
def expressionValuesSpec : ChangeSpec := { name := "expressionValues", fn := fun _ => fun
  | [d1, d2, d3] => { results := [.lit (.bool true)], args := [d1, d2, d3] }
  | _ => none }
def expressionValuesRow : OpenClaim := { program := "ytmclnnpaephkpaa", sum := "2c2e00f958fcd193a37f70b1de40029f1694ef260f35bcc294725903272b35a1", func := "overseer/overseerlaw14.ExpressionValues", spec := "expressionValues", unfollowed := true, recurses := true, loops := true, apart := false }
def ExpressionValuesSaid : Prop := expressionValuesRow.holds Try.pinned (OpenSpec.ofChange expressionValuesSpec)

/-- ITS FALSE NEIGHBOUR: 'it returns false'. Refute it at one input. -/
def expressionValuesWrong : ChangeSpec := { name := "expressionValues", fn := fun _ => fun
  | [d1, d2, d3] => { results := [.lit (.bool false)], args := [d1, d2, d3] }
  | _ => none }
def ExpressionValuesWrongFalsely : Prop := expressionValuesRow.holds Try.pinned (OpenSpec.ofChange expressionValuesWrong)

/-- 'overseerlaw14.ExpressionBounds': WHATEVER THE INPUT: true; the input reads as it did. -/
def expressionBoundsSpec : ChangeSpec := { name := "expressionBounds", fn := fun _ => fun
  | [d1, d2, d3] => { results := [.lit (.bool true)], args := [d1, d2, d3] }
  | _ => none }
def expressionBoundsRow : OpenClaim := { program := "ytmclnnpaephkpaa", sum := "2c2e00f958fcd193a37f70b1de40029f1694ef260f35bcc294725903272b35a1", func := "overseer/overseerlaw14.ExpressionBounds", spec := "expressionBounds", unfollowed := true, recurses := true, loops := true, apart := false }
def ExpressionBoundsSaid : Prop := expressionBoundsRow.holds Try.pinned (OpenSpec.ofChange expressionBoundsSpec)

/-- ITS FALSE NEIGHBOUR: 'it returns false'. Refute it at one input. -/
def expressionBoundsWrong : ChangeSpec := { name := "expressionBounds", fn := fun _ => fun
  | [d1, d2, d3] => { results := [.lit (.bool false)], args := [d1, d2, d3] }
  | _ => none }
def ExpressionBoundsWrongFalsely : Prop := expressionBoundsRow.holds Try.pinned (OpenSpec.ofChange expressionBoundsWrong)

/-- 'overseerlaw14.ExpressionKeeps': WHATEVER THE INPUT: true; the input reads as it did. -/
def expressionKeepsSpec : ChangeSpec := { name := "expressionKeeps", fn := fun _ => fun
  | [d1, d2, d3] => { results := [.lit (.bool true)], args := [d1, d2, d3] }
  | _ => none }
def expressionKeepsRow : OpenClaim := { program := "ytmclnnpaephkpaa", sum := "2c2e00f958fcd193a37f70b1de40029f1694ef260f35bcc294725903272b35a1", func := "overseer/overseerlaw14.ExpressionKeeps", spec := "expressionKeeps", unfollowed := true, recurses := true, apart := false }
def ExpressionKeepsSaid : Prop := expressionKeepsRow.holds Try.pinned (OpenSpec.ofChange expressionKeepsSpec)

/-- ITS FALSE NEIGHBOUR: 'it returns false'. Refute it at one input. -/
def expressionKeepsWrong : ChangeSpec := { name := "expressionKeeps", fn := fun _ => fun
  | [d1, d2, d3] => { results := [.lit (.bool false)], args := [d1, d2, d3] }
  | _ => none }
def ExpressionKeepsWrongFalsely : Prop := expressionKeepsRow.holds Try.pinned (OpenSpec.ofChange expressionKeepsWrong)

/-- 'overseerlaw14.ExpressionLies': WHATEVER THE INPUT: true; the input reads as it did. -/
def expressionLiesSpec : ChangeSpec := { name := "expressionLies", fn := fun _ => fun
  | [d1, d2, d3] => { results := [.lit (.bool true)], args := [d1, d2, d3] }
  | _ => none }
def expressionLiesRow : OpenClaim := { program := "ytmclnnpaephkpaa", sum := "2c2e00f958fcd193a37f70b1de40029f1694ef260f35bcc294725903272b35a1", func := "overseer/overseerlaw14.ExpressionLies", spec := "expressionLies", unfollowed := true, recurses := true, apart := false }
def ExpressionLiesSaid : Prop := expressionLiesRow.holds Try.pinned (OpenSpec.ofChange expressionLiesSpec)

/-- ITS FALSE NEIGHBOUR: 'it returns false'. Refute it at one input. -/
def expressionLiesWrong : ChangeSpec := { name := "expressionLies", fn := fun _ => fun
  | [d1, d2, d3] => { results := [.lit (.bool false)], args := [d1, d2, d3] }
  | _ => none }
def ExpressionLiesWrongFalsely : Prop := expressionLiesRow.holds Try.pinned (OpenSpec.ofChange expressionLiesWrong)

/-- 'overseerlaw14.ExpressionSubstitutes': WHATEVER THE INPUT: true; the input reads as it did. -/
def expressionSubstitutesSpec : ChangeSpec := { name := "expressionSubstitutes", fn := fun _ => fun
  | [d1, d2, d3] => { results := [.lit (.bool true)], args := [d1, d2, d3] }
  | _ => none }
def expressionSubstitutesRow : OpenClaim := { program := "ytmclnnpaephkpaa", sum := "2c2e00f958fcd193a37f70b1de40029f1694ef260f35bcc294725903272b35a1", func := "overseer/overseerlaw14.ExpressionSubstitutes", spec := "expressionSubstitutes", unfollowed := true, recurses := true, apart := false }
def ExpressionSubstitutesSaid : Prop := expressionSubstitutesRow.holds Try.pinned (OpenSpec.ofChange expressionSubstitutesSpec)

/-- ITS FALSE NEIGHBOUR: 'it returns false'. Refute it at one input. -/
def expressionSubstitutesWrong : ChangeSpec := { name := "expressionSubstitutes", fn := fun _ => fun
  | [d1, d2, d3] => { results := [.lit (.bool false)], args := [d1, d2, d3] }
  | _ => none }
def ExpressionSubstitutesWrongFalsely : Prop := expressionSubstitutesRow.holds Try.pinned (OpenSpec.ofChange expressionSubstitutesWrong)

/-- 'overseerlaw14.ExpressionReplaces': WHATEVER THE INPUT: true; the input reads as it did. -/
def expressionReplacesSpec : ChangeSpec := { name := "expressionReplaces", fn := fun _ => fun
  | [d1, d2, d3] => { results := [.lit (.bool true)], args := [d1, d2, d3] }
  | _ => none }
def expressionReplacesRow : OpenClaim := { program := "ytmclnnpaephkpaa", sum := "2c2e00f958fcd193a37f70b1de40029f1694ef260f35bcc294725903272b35a1", func := "overseer/overseerlaw14.ExpressionReplaces", spec := "expressionReplaces", unfollowed := true, recurses := true, apart := false }
def ExpressionReplacesSaid : Prop := expressionReplacesRow.holds Try.pinned (OpenSpec.ofChange expressionReplacesSpec)

/-- ITS FALSE NEIGHBOUR: 'it returns false'. Refute it at one input. -/
def expressionReplacesWrong : ChangeSpec := { name := "expressionReplaces", fn := fun _ => fun
  | [d1, d2, d3] => { results := [.lit (.bool false)], args := [d1, d2, d3] }
  | _ => none }
def ExpressionReplacesWrongFalsely : Prop := expressionReplacesRow.holds Try.pinned (OpenSpec.ofChange expressionReplacesWrong)

/-- 'overseerlaw14.ExpressionVariables': WHATEVER THE INPUT: true; the input reads as it did. -/
def expressionVariablesSpec : ChangeSpec := { name := "expressionVariables", fn := fun _ => fun
  | [d1, d2, d3] => { results := [.lit (.bool true)], args := [d1, d2, d3] }
  | _ => none }
def expressionVariablesRow : OpenClaim := { program := "ytmclnnpaephkpaa", sum := "2c2e00f958fcd193a37f70b1de40029f1694ef260f35bcc294725903272b35a1", func := "overseer/overseerlaw14.ExpressionVariables", spec := "expressionVariables", unfollowed := true, recurses := true, apart := false }
def ExpressionVariablesSaid : Prop := expressionVariablesRow.holds Try.pinned (OpenSpec.ofChange expressionVariablesSpec)

/-- ITS FALSE NEIGHBOUR: 'it returns false'. Refute it at one input. -/
def expressionVariablesWrong : ChangeSpec := { name := "expressionVariables", fn := fun _ => fun
  | [d1, d2, d3] => { results := [.lit (.bool false)], args := [d1, d2, d3] }
  | _ => none }
def ExpressionVariablesWrongFalsely : Prop := expressionVariablesRow.holds Try.pinned (OpenSpec.ofChange expressionVariablesWrong)

/-- 'overseerlaw14.ExpressionFolds': WHATEVER THE INPUT: true; the input reads as it did. -/
def expressionFoldsSpec : ChangeSpec := { name := "expressionFolds", fn := fun _ => fun
  | [d1, d2] => { results := [.lit (.bool true)], args := [d1, d2] }
  | _ => none }
def expressionFoldsRow : OpenClaim := { program := "ytmclnnpaephkpaa", sum := "2c2e00f958fcd193a37f70b1de40029f1694ef260f35bcc294725903272b35a1", func := "overseer/overseerlaw14.ExpressionFolds", spec := "expressionFolds", unfollowed := true, recurses := true, loops := true, apart := false }
def ExpressionFoldsSaid : Prop := expressionFoldsRow.holds Try.pinned (OpenSpec.ofChange expressionFoldsSpec)

/-- ITS FALSE NEIGHBOUR: 'it returns false'. Refute it at one input. -/
def expressionFoldsWrong : ChangeSpec := { name := "expressionFolds", fn := fun _ => fun
  | [d1, d2] => { results := [.lit (.bool false)], args := [d1, d2] }
  | _ => none }
def ExpressionFoldsWrongFalsely : Prop := expressionFoldsRow.holds Try.pinned (OpenSpec.ofChange expressionFoldsWrong)

/- THE SECOND FORM. 'bulk': how many values and letters a reading holds, each counted each time it is reached (what is shared counts as often as it is met; a slice's spare places count too). A statement '..UptoSaid' is the law's where the arguments, and the package variables that the reading takes, are together of bulk at most 1048576: NARROWER than '..Said'. Prove '..Said' where nothing that the law and all that it calls make is longer than what came in: it says more and counts as full. Else prove '..UptoSaid'. A law counts once. -/
mutual
def uptoBulk {H : Type} : DataW H → Nat
  | .lit (.string bytes) => bytes.length + 1
  | .lit _ => 1
  | .nil => 1
  | .ptr d => uptoBulk d + 1
  | .slice elems spare => uptoBulkAll elems + uptoBulkAll spare + 1
  | .agg parts => uptoBulkAll parts + 1
  | .iface _ d => uptoBulk d + 1
  | .map entries => uptoBulkEntries entries + 1
  | .held _ => 1
def uptoBulkAll {H : Type} : List (DataW H) → Nat
  | [] => 0
  | d :: r => uptoBulk d + uptoBulkAll r
def uptoBulkEntries {H : Type} : List (Lit × DataW H) → Nat
  | [] => 0
  | x :: r => uptoBulkEntry x + uptoBulkEntries r
def uptoBulkEntry {H : Type} : Lit × DataW H → Nat
  | (.string bytes, d) => bytes.length + uptoBulk d + 1
  | (_, d) => uptoBulk d + 1
 end
def uptoSmall : (H : Type) → List (DataW H) → Bool := fun _ ds => decide (uptoBulkAll ds ≤ 1048576)
def OpenSpec.upto (s : _root_.Go.ChangeSpec) : _root_.Go.OpenSpec := { _root_.Go.OpenSpec.ofChange s with cond := some uptoSmall }

/-- 'overseerlaw14.ExpressionChecks', WHERE WHAT IT READS IS OF BULK AT MOST 1048576: true; the input reads as it did. -/
def expressionChecksUptoRow : OpenClaim := { program := "ytmclnnpaephkpaa", sum := "2c2e00f958fcd193a37f70b1de40029f1694ef260f35bcc294725903272b35a1", func := "overseer/overseerlaw14.ExpressionChecks", spec := "expressionChecks", unfollowed := true, recurses := true, loops := true, apart := false, narrowed := true }
def ExpressionChecksUptoSaid : Prop := expressionChecksUptoRow.holds Try.pinned (OpenSpec.upto expressionChecksSpec)

/-- 'overseerlaw14.ExpressionValues', WHERE WHAT IT READS IS OF BULK AT MOST 1048576: true; the input reads as it did. -/
def expressionValuesUptoRow : OpenClaim := { program := "ytmclnnpaephkpaa", sum := "2c2e00f958fcd193a37f70b1de40029f1694ef260f35bcc294725903272b35a1", func := "overseer/overseerlaw14.ExpressionValues", spec := "expressionValues", unfollowed := true, recurses := true, loops := true, apart := false, narrowed := true }
def ExpressionValuesUptoSaid : Prop := expressionValuesUptoRow.holds Try.pinned (OpenSpec.upto expressionValuesSpec)

/-- 'overseerlaw14.ExpressionBounds', WHERE WHAT IT READS IS OF BULK AT MOST 1048576: true; the input reads as it did. -/
def expressionBoundsUptoRow : OpenClaim := { program := "ytmclnnpaephkpaa", sum := "2c2e00f958fcd193a37f70b1de40029f1694ef260f35bcc294725903272b35a1", func := "overseer/overseerlaw14.ExpressionBounds", spec := "expressionBounds", unfollowed := true, recurses := true, loops := true, apart := false, narrowed := true }
def ExpressionBoundsUptoSaid : Prop := expressionBoundsUptoRow.holds Try.pinned (OpenSpec.upto expressionBoundsSpec)

/-- 'overseerlaw14.ExpressionKeeps', WHERE WHAT IT READS IS OF BULK AT MOST 1048576: true; the input reads as it did. -/
def expressionKeepsUptoRow : OpenClaim := { program := "ytmclnnpaephkpaa", sum := "2c2e00f958fcd193a37f70b1de40029f1694ef260f35bcc294725903272b35a1", func := "overseer/overseerlaw14.ExpressionKeeps", spec := "expressionKeeps", unfollowed := true, recurses := true, apart := false, narrowed := true }
def ExpressionKeepsUptoSaid : Prop := expressionKeepsUptoRow.holds Try.pinned (OpenSpec.upto expressionKeepsSpec)

/-- 'overseerlaw14.ExpressionLies', WHERE WHAT IT READS IS OF BULK AT MOST 1048576: true; the input reads as it did. -/
def expressionLiesUptoRow : OpenClaim := { program := "ytmclnnpaephkpaa", sum := "2c2e00f958fcd193a37f70b1de40029f1694ef260f35bcc294725903272b35a1", func := "overseer/overseerlaw14.ExpressionLies", spec := "expressionLies", unfollowed := true, recurses := true, apart := false, narrowed := true }
def ExpressionLiesUptoSaid : Prop := expressionLiesUptoRow.holds Try.pinned (OpenSpec.upto expressionLiesSpec)

/-- 'overseerlaw14.ExpressionSubstitutes', WHERE WHAT IT READS IS OF BULK AT MOST 1048576: true; the input reads as it did. -/
def expressionSubstitutesUptoRow : OpenClaim := { program := "ytmclnnpaephkpaa", sum := "2c2e00f958fcd193a37f70b1de40029f1694ef260f35bcc294725903272b35a1", func := "overseer/overseerlaw14.ExpressionSubstitutes", spec := "expressionSubstitutes", unfollowed := true, recurses := true, apart := false, narrowed := true }
def ExpressionSubstitutesUptoSaid : Prop := expressionSubstitutesUptoRow.holds Try.pinned (OpenSpec.upto expressionSubstitutesSpec)

/-- 'overseerlaw14.ExpressionReplaces', WHERE WHAT IT READS IS OF BULK AT MOST 1048576: true; the input reads as it did. -/
def expressionReplacesUptoRow : OpenClaim := { program := "ytmclnnpaephkpaa", sum := "2c2e00f958fcd193a37f70b1de40029f1694ef260f35bcc294725903272b35a1", func := "overseer/overseerlaw14.ExpressionReplaces", spec := "expressionReplaces", unfollowed := true, recurses := true, apart := false, narrowed := true }
def ExpressionReplacesUptoSaid : Prop := expressionReplacesUptoRow.holds Try.pinned (OpenSpec.upto expressionReplacesSpec)

/-- 'overseerlaw14.ExpressionVariables', WHERE WHAT IT READS IS OF BULK AT MOST 1048576: true; the input reads as it did. -/
def expressionVariablesUptoRow : OpenClaim := { program := "ytmclnnpaephkpaa", sum := "2c2e00f958fcd193a37f70b1de40029f1694ef260f35bcc294725903272b35a1", func := "overseer/overseerlaw14.ExpressionVariables", spec := "expressionVariables", unfollowed := true, recurses := true, apart := false, narrowed := true }
def ExpressionVariablesUptoSaid : Prop := expressionVariablesUptoRow.holds Try.pinned (OpenSpec.upto expressionVariablesSpec)

/-- 'overseerlaw14.ExpressionFolds', WHERE WHAT IT READS IS OF BULK AT MOST 1048576: true; the input reads as it did. -/
def expressionFoldsUptoRow : OpenClaim := { program := "ytmclnnpaephkpaa", sum := "2c2e00f958fcd193a37f70b1de40029f1694ef260f35bcc294725903272b35a1", func := "overseer/overseerlaw14.ExpressionFolds", spec := "expressionFolds", unfollowed := true, recurses := true, loops := true, apart := false, narrowed := true }
def ExpressionFoldsUptoSaid : Prop := expressionFoldsUptoRow.holds Try.pinned (OpenSpec.upto expressionFoldsSpec)

end Rows
end Go.Proofs.Ytmclnnpaephkpaa

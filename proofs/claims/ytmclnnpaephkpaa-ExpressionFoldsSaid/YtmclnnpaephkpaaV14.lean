/-
  Contracts for the second table of chapter 14: what the first one answers, and the library's sort.
-/
import Derived.Test.YtmclnnpaephkpaaC14n
import Derived.Test.YtmclnnpaephkpaaC14f
import Derived.Test.YtmclnnpaephkpaaPU14
namespace Go.Proofs.Ytmclnnpaephkpaa
set_option linter.unusedVariables false
set_option linter.unusedSimpArgs false
set_option linter.unnecessarySimpa false
set_option linter.unusedSectionVars false
open Go.RowKit
theorem mixed14 : Try.prog.follows .mixedOrders = true := by kernel_rfl
def keepG (g : Nat) : Bool := [12, 13, 14, 15, 17, 18, 19, 25, 38, 39, 40, 51].any fun k => Nat.beq k g
noncomputable def CSW : Cal := fun g args h => match keepG g with
  | true => SS.CC g args h
  | false => CS g args h
theorem CSW_ok : calOK Try.prog CSW := by
  intro g args h r h' hv
  unfold CSW at hv
  split at hv
  · exact CC_sound mixed14 SS_ok (fun _ _ _ _ _ hv => by cases hv) g args h r h' hv
  · exact CS_ok g args h r h' hv
end Go.Proofs.Ytmclnnpaephkpaa

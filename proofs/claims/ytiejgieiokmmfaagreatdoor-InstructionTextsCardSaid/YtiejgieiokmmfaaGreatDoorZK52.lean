/-
  The examples of chapter 52, computed.
-/
import Derived.Test.YtiejgieiokmmfaaGreatDoorZB52
namespace Go.Proofs.YtiejgieiokmmfaaGreatDoor
set_option linter.unusedVariables false
set_option linter.unusedSimpArgs false
set_option linter.unnecessarySimpa false
set_option linter.unusedSectionVars false
open Go.RowKit
set_option maxRecDepth 1000000
theorem c10 : SS.CC 4 [] [] = some (.bool true, []) := CC_of_sem SS_ok 60 (by kernel_rfl)
end Go.Proofs.YtiejgieiokmmfaaGreatDoor

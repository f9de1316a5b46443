/-
  The examples of chapters 47 and 48, computed.
-/
import Derived.Test.YtkkgfoknknehfaaDoorBT
namespace Go.Proofs.YtkkgfoknknehfaaDoor.W
set_option linter.unusedVariables false
set_option linter.unusedSimpArgs false
set_option linter.unnecessarySimpa false
set_option linter.unusedSectionVars false
open Go.RowKit
set_option maxRecDepth 1000000
theorem k4 : SS.CC 4 [] [] = some (.bool true, []) := CC_of_sem SS_ok 60 (by kernel_rfl)
theorem k5 : SS.CC 5 [] [] = some (.bool true, []) := CC_of_sem SS_ok 60 (by kernel_rfl)
end Go.Proofs.YtkkgfoknknehfaaDoor.W

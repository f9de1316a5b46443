/-
  The examples of chapter 16, computed.
-/
import Derived.Test.YtoajpgclgdhhlaaW16
namespace Go.Proofs.Ytoajpgclgdhhlaa.W
set_option linter.unusedVariables false
set_option linter.unusedSimpArgs false
set_option linter.unnecessarySimpa false
set_option linter.unusedSectionVars false
open Go.RowKit
set_option maxRecDepth 1000000
theorem c11 : SS.CC 11 [] [] = some (.bool true, []) := CC_of_sem SS_ok 60 (by kernel_rfl)
end Go.Proofs.Ytoajpgclgdhhlaa.W

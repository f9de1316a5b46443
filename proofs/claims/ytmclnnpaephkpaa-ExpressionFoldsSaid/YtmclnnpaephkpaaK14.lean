/-
  The examples of chapter 14, computed.
-/
import Derived.Test.YtmclnnpaephkpaaB14
namespace Go.Proofs.Ytmclnnpaephkpaa
set_option linter.unusedVariables false
set_option linter.unusedSimpArgs false
set_option linter.unnecessarySimpa false
set_option linter.unusedSectionVars false
open Go.RowKit
set_option maxRecDepth 1000000
theorem c12 : SS.CC 12 [] [] = some (.bool true, []) := CC_of_sem SS_ok 60 (by kernel_rfl)
end Go.Proofs.Ytmclnnpaephkpaa

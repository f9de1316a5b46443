/-
  What the table of TopSemiflows stands on.
-/
import Derived.Test.YtkkgfoknknehfaaDoorTD5
import Derived.Test.YtkkgfoknknehfaaDoorAbH
namespace Go.Proofs.YtkkgfoknknehfaaDoor
set_option linter.unusedVariables false
set_option linter.unusedSimpArgs false
set_option linter.unnecessarySimpa false
set_option linter.unusedSectionVars false
end Go.Proofs.YtkkgfoknknehfaaDoor

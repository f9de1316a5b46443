/-
  PLAIN LAWS of chapter 14: the examples of known.
-/
import Derived.Test.YtmclnnpaephkpaaPure14
namespace Go.Proofs.Ytmclnnpaephkpaa
set_option linter.unusedVariables false
set_option linter.unusedSimpArgs false
set_option linter.unnecessarySimpa false
set_option linter.unusedSectionVars false
def kX : EX := .node 1 0 0 []
def kC (n : Int) : EX := .node 0 n 0 []
def kY : EX := .node 3 0 0 [.node 4 0 0 [kX, kX], kC 4]
def kL : EX := .node 8 0 0 [kX, kC 4]
def kI : EX := .node 6 0 0 [kX, kC 1]
def kA : EX := .node 11 0 0 [.node 9 0 0 [kC 2, kC 3], kI]
def kV : List VT := [⟨⟨#[120]⟩, 0, 3, 0⟩]
theorem kY_bounds : boundsS kY kV = (-4, 5, 0) := by decide +kernel
theorem kL_bounds : boundsS kL kV = (1, 1, 0) := by decide +kernel
theorem kY_eval : evaluateS kY [3] = (5, 0) := by decide +kernel
theorem kA_fold2 : (foldS kA).2 = 0 := by decide +kernel
theorem kA_fold : sameE (foldS kA).1 kI = true := by decide +kernel
theorem kT_same : sameE trueE (truthE true) = true := by decide +kernel
end Go.Proofs.Ytmclnnpaephkpaa

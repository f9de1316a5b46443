/-
  A world for the witness: the settled one, the listed tables holding what the row says.
-/
import Derived.Test.YtiejgieiokmmfaaDoorO52
import Derived.Test.YtiejgieiokmmfaaDoorRows
import Derived.Test.YtiejgieiokmmfaaDoorCards
import Derived.Test.YtiejgieiokmmfaaDoorTie
namespace Go.Proofs.YtiejgieiokmmfaaDoor
set_option linter.unusedVariables false
set_option linter.unusedSimpArgs false
set_option linter.unnecessarySimpa false
set_option linter.unusedSectionVars false
open Go.RowKit Go.ChangeShapes Go.WideShapes Go.ChangeAt
set_option maxRecDepth 100000
def litsOf : DataW Unit → Array Value
  | .agg l => (l.map fun d => match d with | .lit (.int k n) => Value.int k n | _ => undef).toArray
  | _ => #[]
def putTab (g : Nat) (d : DataW Unit) (h : Array Obj) : Array Obj := h.modify g fun
  | .cells _ t frozen => .cells (litsOf d) t frozen
  | o => o
noncomputable def laidWorld (os : Os) : World :=
  { World.holding Tryd.prog os ⟨#[], #[], []⟩ with heap := putTab 4 Rows.laid_math_bits_deBruijn32tab (putTab 5 Rows.laid_math_bits_deBruijn64tab (putTab 1 Rows.laid_internal_strconv_uint64pow10 (World.holding Tryd.prog os ⟨#[], #[], []⟩).heap)) }
theorem laid_runs (os : Os) : laidMet Tryd.prog Rows.instructionRunsRow.laid ((laidWorld os).forCall (fun _ _ => 0) ⟨#[], #[.agg #[.int .u8 0, .slice none 0 0], .slice none 0 0], []⟩).memory :=
  laidMet_of_run' 8 (by kernel_rfl) (by kernel_rfl)
end Go.Proofs.YtiejgieiokmmfaaDoor

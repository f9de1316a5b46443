/-
  A world for the witness: the settled one, all five listed tables holding what the row says.
-/
import Derived.Test.YtiejgieiokmmfaaDoorO52w
namespace Go.Proofs.YtiejgieiokmmfaaDoor
set_option linter.unusedVariables false
set_option linter.unusedSimpArgs false
set_option linter.unnecessarySimpa false
set_option linter.unusedSectionVars false
open Go.RowKit Go.ChangeShapes Go.WideShapes Go.ChangeAt
set_option maxRecDepth 100000
def litsOne : DataW Unit → List Value
  | .lit (.int k n) => [Value.int k n]
  | _ => []
def litsTwo : DataW Unit → List Value
  | .agg l => l.flatMap litsOne
  | d => litsOne d
def litsAll : DataW Unit → Array Value
  | .agg l => (l.flatMap litsTwo).toArray
  | _ => #[]
def putTabs (g : Nat) (d : DataW Unit) (h : Array Obj) : Array Obj := h.modify g fun
  | .cells _ t frozen => .cells (litsAll d) t frozen
  | o => o
noncomputable def laidWorld5 (os : Os) : World :=
  { World.holding Tryd.prog os ⟨#[], #[], []⟩ with heap := putTabs 2 Rows.laid_unicode_utf8_first (putTabs 3 Rows.laid_unicode_utf8_acceptRanges (putTab 4 Rows.laid_math_bits_deBruijn32tab (putTab 5 Rows.laid_math_bits_deBruijn64tab (putTab 1 Rows.laid_internal_strconv_uint64pow10 (World.holding Tryd.prog os ⟨#[], #[], []⟩).heap)))) }
theorem laid_parses (os : Os) : laidMet Tryd.prog Rows.instructionParsesRow.laid ((laidWorld5 os).forCall (fun _ _ => 0) ⟨#[], #[.string .empty], []⟩).memory :=
  laidMet_of_run' 8 (by kernel_rfl) (by kernel_rfl)
end Go.Proofs.YtiejgieiokmmfaaDoor

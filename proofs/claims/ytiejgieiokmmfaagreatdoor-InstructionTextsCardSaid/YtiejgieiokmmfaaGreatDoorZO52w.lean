/-
  A world for the witness: the settled one, all five listed tables holding what the row says; the table of powers of ten in every world that the row speaks of.
-/
import Derived.Test.YtiejgieiokmmfaaGreatDoorZO52
import Derived.Test.YtiejgieiokmmfaaGreatDoorRows
import Derived.Test.YtiejgieiokmmfaaGreatDoorCards
import Derived.Test.YtiejgieiokmmfaaGreatDoorTie
import Derived.Stop.LaidErr
namespace Go.Proofs.YtiejgieiokmmfaaGreatDoor
set_option linter.unusedVariables false
set_option linter.unusedSimpArgs false
set_option linter.unnecessarySimpa false
set_option linter.unusedSectionVars false
open Go.RowKit Go.ChangeShapes Go.WideShapes Go.ChangeAt
set_option maxRecDepth 100000
def litsOne : DataW Unit → List Value
  | .lit (.int k n) => [Value.int k n]
  | _ => []
def litsTwo : DataW Unit → List Value
  | .agg l => l.flatMap litsOne
  | d => litsOne d
def litsAll : DataW Unit → Array Value
  | .agg l => (l.flatMap litsTwo).toArray
  | _ => #[]
def putTabs (g : Nat) (d : DataW Unit) (h : Array Obj) : Array Obj := h.modify g fun
  | .cells _ t frozen => .cells (litsAll d) t frozen
  | o => o
noncomputable def laidWorld6 (os : Os) : World :=
  { World.holding Tryz.prog os ⟨#[], #[], []⟩ with heap := putTabs 2 Rows.laid_unicode_utf8_first (putTabs 3 Rows.laid_unicode_utf8_acceptRanges (putTabs 4 Rows.laid_math_bits_deBruijn32tab (putTabs 5 Rows.laid_math_bits_deBruijn64tab (putTabs 0 Rows.laid_internal_strconv_uint64pow10 (World.holding Tryz.prog os ⟨#[], #[], []⟩).heap)))) }
theorem pow_laid {H : Type} : (Rows.laid_internal_strconv_uint64pow10 : DataW H) = Lib.tabData .u64 Lib.pow10Tab := by kernel_rfl
theorem gw_of {W : World} (h : laidMet Tryz.prog Rows.instructionTextsRow.laid W) : GW W := by
  have h1 : laidMet Tryz.prog (("internal/strconv.uint64pow10", Rows.laid_internal_strconv_uint64pow10) :: [("unicode/utf8.acceptRanges", Rows.laid_unicode_utf8_acceptRanges), ("unicode/utf8.first", Rows.laid_unicode_utf8_first)]) W := h.tail.tail
  rw [pow_laid] at h1
  have ht := Lib.tabIs_of_head (g := 0) (t := 135) (e := 118) (n := 20) (by kernel_rfl) (by kernel_rfl) (by kernel_rfl) (by kernel_rfl) (by kernel_rfl) (by kernel_rfl) h1
  intro b o v hg
  unfold Glob at hg
  have e : tabsG = [(0, Lib.pow10Tab.map (Value.int .u64))] := rfl
  rw [e] at hg
  by_cases hb : b = 0
  · subst hb
    have hg : (Lib.pow10Tab.map (Value.int .u64))[o]? = some v := hg
    rw [List.getElem?_map] at hg
    obtain ⟨z, hz, rfl⟩ := Option.map_eq_some_iff.1 hg
    have ho : o < Lib.pow10Tab.length := (List.getElem?_eq_some_iff.1 hz).1
    have hc := ht.cell (g := 0) (by kernel_rfl) o ho
    refine whole0_some.2 ⟨?_, rfl⟩
    rw [hc, List.getD_eq_getElem?_getD, hz]; rfl
  · have : (b == 0) = false := by simpa using hb
    simp [List.lookup, this] at hg
end Go.Proofs.YtiejgieiokmmfaaGreatDoor

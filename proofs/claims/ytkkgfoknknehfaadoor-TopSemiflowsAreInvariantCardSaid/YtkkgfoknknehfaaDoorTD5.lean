/-
  The table of contracts: cross, Itoa, Builder.
-/
import Derived.Test.YtkkgfoknknehfaaDoorTD4
namespace Go.Proofs.YtkkgfoknknehfaaDoor
set_option linter.unusedVariables false
set_option linter.unusedSimpArgs false
set_option linter.unnecessarySimpa false
set_option linter.unusedSectionVars false
open Go.RowKit Go.Shelf
set_option maxRecDepth 100000
def CS : Cal := fun g args h => match g, args, h with
 | 68, [.int .i64 a, .int .i64 b, .int .i64 c, .int .i64 d, .int .i64 e], [] => (match smallB a && (smallB b && (smallB c && (smallB d && (smallB e && !(e == 0))))) with
  | true => some (.int .i64 (Int.tdiv (a * b - c * d) e), [])
  | false => none)
 | 63, [.int .i64 n], h => (match decide (0 ≤ n) && decide (n < ITOAB) with | true => some (.str ⟨(Lib.decDigits n.toNat).toArray⟩, h) | false => none)
 | 65, [.ptr 0 0], [some [.bld 123 0, .slT l]] => some (.str ⟨l.toArray⟩, [some [.bld 123 0, .sl false 1 (bytesPV l)]])
 | 74, [.ptr 0 0], [some [.bld 123 0, .slT l]] => some (.tuple [], [some [.bld 123 0, .slT l]])
 | _, _, _ => none
theorem CS_ok : calOK Tryd.prog CS := by
 intro g args h r h' hv
 unfold CS at hv
 split at hv
 ·split at hv
  ·rename_i hc
   simp only [Bool.and_eq_true, Bool.not_eq_true', beq_eq_false_iff_ne] at hc
   cases hv
   exact ev_cross _ _ _ _ _ hc.1 hc.2.1 hc.2.2.1 hc.2.2.2.1 hc.2.2.2.2.1 hc.2.2.2.2.2
  ·cases hv
 ·split at hv
  ·rename_i hc
   simp only [Bool.and_eq_true, decide_eq_true_eq] at hc
   cases hv
   exact ev_itoa _ hc.1 hc.2 _
  ·cases hv
 ·cases hv
  exact ev_String _
 ·cases hv
  exact ev_copyCheck _
 ·cases hv
end Go.Proofs.YtkkgfoknknehfaaDoor

/-
  Functions as equations. Printed by a program (wip/tool/dc.py).
-/
import Derived.Test.YtiejgieiokmmfaaDoorB52
namespace Go.Proofs.YtiejgieiokmmfaaDoor
set_option linter.unusedVariables false
set_option linter.unusedSimpArgs false
set_option linter.unnecessarySimpa false
set_option linter.unusedSectionVars false
open Go.RowKit
set_option maxRecDepth 1000000
/-! overseer/instruction.operations$1 -/
noncomputable def g81_c : Code := bodyOf Tryd.f81
noncomputable def g81_E : AE := SS.ae 81 6
noncomputable def g81_X : XE := SS.xe SS.CC SS.LL g81_E 0
theorem g81_eq (a0 : Bool) (a1 : Bool) : SS.CC 81 [.bool a0, .bool a1] [] =
    some (.bool a1, []) := (CC_run SS_ok rfl).trans (by kernel_rfl)
/-! overseer/instruction.operations$2 -/
noncomputable def g82_c : Code := bodyOf Tryd.f82
noncomputable def g82_E : AE := SS.ae 82 7
noncomputable def g82_X : XE := SS.xe SS.CC SS.LL g82_E 0
theorem g82_eq (a0 : Bool) (a1 : Bool) : SS.CC 82 [.bool a0, .bool a1] [] =
    some (.bool (!a1), []) := (CC_run SS_ok rfl).trans (by kernel_rfl)
/-! overseer/instruction.operations$3 -/
noncomputable def g83_c : Code := bodyOf Tryd.f83
noncomputable def g83_E : AE := SS.ae 83 9
noncomputable def g83_X : XE := SS.xe SS.CC SS.LL g83_E 0
theorem g83_eq (a0 : Bool) (a1 : Bool) : SS.CC 83 [.bool a0, .bool a1] [] =
    bsel a0 (some (.bool a1, [])) (some (.bool false, [])) := (CC_run SS_ok rfl).trans (by kernel_rfl)
/-! overseer/instruction.operations$4 -/
noncomputable def g84_c : Code := bodyOf Tryd.f84
noncomputable def g84_E : AE := SS.ae 84 10
noncomputable def g84_X : XE := SS.xe SS.CC SS.LL g84_E 0
theorem g84_eq (a0 : Bool) (a1 : Bool) : SS.CC 84 [.bool a0, .bool a1] [] =
    bsel a0 (some (.bool (!a1), [])) (some (.bool false, [])) := (CC_run SS_ok rfl).trans (by kernel_rfl)
/-! overseer/instruction.operations$5 -/
noncomputable def g85_c : Code := bodyOf Tryd.f85
noncomputable def g85_E : AE := SS.ae 85 9
noncomputable def g85_X : XE := SS.xe SS.CC SS.LL g85_E 0
theorem g85_eq (a0 : Bool) (a1 : Bool) : SS.CC 85 [.bool a0, .bool a1] [] =
    bsel a0 (some (.bool true, [])) (some (.bool a1, [])) := (CC_run SS_ok rfl).trans (by kernel_rfl)
/-! overseer/instruction.operations$6 -/
noncomputable def g86_c : Code := bodyOf Tryd.f86
noncomputable def g86_E : AE := SS.ae 86 10
noncomputable def g86_X : XE := SS.xe SS.CC SS.LL g86_E 0
theorem g86_eq (a0 : Bool) (a1 : Bool) : SS.CC 86 [.bool a0, .bool a1] [] =
    bsel a0 (some (.bool true, [])) (some (.bool (!a1), [])) := (CC_run SS_ok rfl).trans (by kernel_rfl)
/-! overseer/instruction.operations$7 -/
noncomputable def g87_c : Code := bodyOf Tryd.f87
noncomputable def g87_E : AE := SS.ae 87 6
noncomputable def g87_X : XE := SS.xe SS.CC SS.LL g87_E 0
theorem g87_eq (a0 : Bool) (a1 : Bool) : SS.CC 87 [.bool a0, .bool a1] [] =
    some (.bool a0, []) := (CC_run SS_ok rfl).trans (by kernel_rfl)
/-! overseer/instruction.operations$8 -/
noncomputable def g88_c : Code := bodyOf Tryd.f88
noncomputable def g88_E : AE := SS.ae 88 7
noncomputable def g88_X : XE := SS.xe SS.CC SS.LL g88_E 0
theorem g88_eq (a0 : Bool) (a1 : Bool) : SS.CC 88 [.bool a0, .bool a1] [] =
    some (.bool (!a0), []) := (CC_run SS_ok rfl).trans (by kernel_rfl)
/-! overseer/instruction.operations$9 -/
noncomputable def g89_c : Code := bodyOf Tryd.f89
noncomputable def g89_E : AE := SS.ae 89 9
noncomputable def g89_X : XE := SS.xe SS.CC SS.LL g89_E 0
theorem g89_eq (a0 : Bool) (a1 : Bool) : SS.CC 89 [.bool a0, .bool a1] [] =
    bsel a1 (some (.bool true, [])) (some (.bool a0, [])) := (CC_run SS_ok rfl).trans (by kernel_rfl)
/-! overseer/instruction.operations$10 -/
noncomputable def g90_c : Code := bodyOf Tryd.f90
noncomputable def g90_E : AE := SS.ae 90 10
noncomputable def g90_X : XE := SS.xe SS.CC SS.LL g90_E 0
theorem g90_eq (a0 : Bool) (a1 : Bool) : SS.CC 90 [.bool a0, .bool a1] [] =
    bsel a1 (some (.bool (!a0), [])) (some (.bool false, [])) := (CC_run SS_ok rfl).trans (by kernel_rfl)
/-! overseer/instruction.operations$11 -/
noncomputable def g91_c : Code := bodyOf Tryd.f91
noncomputable def g91_E : AE := SS.ae 91 3
noncomputable def g91_X : XE := SS.xe SS.CC SS.LL g91_E 0
theorem g91_eq (a0 : Bool) : SS.CC 91 [.bool a0] [] =
    some (.bool true, []) := (CC_run SS_ok rfl).trans (by kernel_rfl)
/-! overseer/instruction.operations$12 -/
noncomputable def g92_c : Code := bodyOf Tryd.f92
noncomputable def g92_E : AE := SS.ae 92 4
noncomputable def g92_X : XE := SS.xe SS.CC SS.LL g92_E 0
theorem g92_eq (a0 : Bool) : SS.CC 92 [.bool a0] [] =
    some (.bool a0, []) := (CC_run SS_ok rfl).trans (by kernel_rfl)
/-! overseer/instruction.operations$13 -/
noncomputable def g93_c : Code := bodyOf Tryd.f93
noncomputable def g93_E : AE := SS.ae 93 5
noncomputable def g93_X : XE := SS.xe SS.CC SS.LL g93_E 0
theorem g93_eq (a0 : Bool) : SS.CC 93 [.bool a0] [] =
    some (.bool (!a0), []) := (CC_run SS_ok rfl).trans (by kernel_rfl)
end Go.Proofs.YtiejgieiokmmfaaDoor

/-
  Functions as equations. Printed by a program (wip/tool/dc.py).
-/
import Derived.Test.YtiejgieiokmmfaaGreatDoorZB52
namespace Go.Proofs.YtiejgieiokmmfaaGreatDoor
set_option linter.unusedVariables false
set_option linter.unusedSimpArgs false
set_option linter.unnecessarySimpa false
set_option linter.unusedSectionVars false
open Go.RowKit
set_option maxRecDepth 1000000
/-! overseer/instruction.operations$1 -/
noncomputable def g49_c : Code := bodyOf Tryz.f49
noncomputable def g49_E : AE := SS.ae 49 6
noncomputable def g49_X : XE := SS.xe SS.CC SS.LL g49_E 0
theorem g49_eq (a0 : Bool) (a1 : Bool) : SS.CC 49 [.bool a0, .bool a1] [] =
    some (.bool a1, []) := (CC_run SS_ok rfl).trans (by kernel_rfl)
/-! overseer/instruction.operations$2 -/
noncomputable def g50_c : Code := bodyOf Tryz.f50
noncomputable def g50_E : AE := SS.ae 50 7
noncomputable def g50_X : XE := SS.xe SS.CC SS.LL g50_E 0
theorem g50_eq (a0 : Bool) (a1 : Bool) : SS.CC 50 [.bool a0, .bool a1] [] =
    some (.bool (!a1), []) := (CC_run SS_ok rfl).trans (by kernel_rfl)
/-! overseer/instruction.operations$3 -/
noncomputable def g51_c : Code := bodyOf Tryz.f51
noncomputable def g51_E : AE := SS.ae 51 9
noncomputable def g51_X : XE := SS.xe SS.CC SS.LL g51_E 0
theorem g51_eq (a0 : Bool) (a1 : Bool) : SS.CC 51 [.bool a0, .bool a1] [] =
    bsel a0 (some (.bool a1, [])) (some (.bool false, [])) := (CC_run SS_ok rfl).trans (by kernel_rfl)
/-! overseer/instruction.operations$4 -/
noncomputable def g52_c : Code := bodyOf Tryz.f52
noncomputable def g52_E : AE := SS.ae 52 10
noncomputable def g52_X : XE := SS.xe SS.CC SS.LL g52_E 0
theorem g52_eq (a0 : Bool) (a1 : Bool) : SS.CC 52 [.bool a0, .bool a1] [] =
    bsel a0 (some (.bool (!a1), [])) (some (.bool false, [])) := (CC_run SS_ok rfl).trans (by kernel_rfl)
/-! overseer/instruction.operations$5 -/
noncomputable def g53_c : Code := bodyOf Tryz.f53
noncomputable def g53_E : AE := SS.ae 53 9
noncomputable def g53_X : XE := SS.xe SS.CC SS.LL g53_E 0
theorem g53_eq (a0 : Bool) (a1 : Bool) : SS.CC 53 [.bool a0, .bool a1] [] =
    bsel a0 (some (.bool true, [])) (some (.bool a1, [])) := (CC_run SS_ok rfl).trans (by kernel_rfl)
/-! overseer/instruction.operations$6 -/
noncomputable def g54_c : Code := bodyOf Tryz.f54
noncomputable def g54_E : AE := SS.ae 54 10
noncomputable def g54_X : XE := SS.xe SS.CC SS.LL g54_E 0
theorem g54_eq (a0 : Bool) (a1 : Bool) : SS.CC 54 [.bool a0, .bool a1] [] =
    bsel a0 (some (.bool true, [])) (some (.bool (!a1), [])) := (CC_run SS_ok rfl).trans (by kernel_rfl)
/-! overseer/instruction.operations$7 -/
noncomputable def g55_c : Code := bodyOf Tryz.f55
noncomputable def g55_E : AE := SS.ae 55 6
noncomputable def g55_X : XE := SS.xe SS.CC SS.LL g55_E 0
theorem g55_eq (a0 : Bool) (a1 : Bool) : SS.CC 55 [.bool a0, .bool a1] [] =
    some (.bool a0, []) := (CC_run SS_ok rfl).trans (by kernel_rfl)
/-! overseer/instruction.operations$8 -/
noncomputable def g56_c : Code := bodyOf Tryz.f56
noncomputable def g56_E : AE := SS.ae 56 7
noncomputable def g56_X : XE := SS.xe SS.CC SS.LL g56_E 0
theorem g56_eq (a0 : Bool) (a1 : Bool) : SS.CC 56 [.bool a0, .bool a1] [] =
    some (.bool (!a0), []) := (CC_run SS_ok rfl).trans (by kernel_rfl)
/-! overseer/instruction.operations$9 -/
noncomputable def g57_c : Code := bodyOf Tryz.f57
noncomputable def g57_E : AE := SS.ae 57 9
noncomputable def g57_X : XE := SS.xe SS.CC SS.LL g57_E 0
theorem g57_eq (a0 : Bool) (a1 : Bool) : SS.CC 57 [.bool a0, .bool a1] [] =
    bsel a1 (some (.bool true, [])) (some (.bool a0, [])) := (CC_run SS_ok rfl).trans (by kernel_rfl)
/-! overseer/instruction.operations$10 -/
noncomputable def g58_c : Code := bodyOf Tryz.f58
noncomputable def g58_E : AE := SS.ae 58 10
noncomputable def g58_X : XE := SS.xe SS.CC SS.LL g58_E 0
theorem g58_eq (a0 : Bool) (a1 : Bool) : SS.CC 58 [.bool a0, .bool a1] [] =
    bsel a1 (some (.bool (!a0), [])) (some (.bool false, [])) := (CC_run SS_ok rfl).trans (by kernel_rfl)
/-! overseer/instruction.operations$11 -/
noncomputable def g59_c : Code := bodyOf Tryz.f59
noncomputable def g59_E : AE := SS.ae 59 3
noncomputable def g59_X : XE := SS.xe SS.CC SS.LL g59_E 0
theorem g59_eq (a0 : Bool) : SS.CC 59 [.bool a0] [] =
    some (.bool true, []) := (CC_run SS_ok rfl).trans (by kernel_rfl)
/-! overseer/instruction.operations$12 -/
noncomputable def g60_c : Code := bodyOf Tryz.f60
noncomputable def g60_E : AE := SS.ae 60 4
noncomputable def g60_X : XE := SS.xe SS.CC SS.LL g60_E 0
theorem g60_eq (a0 : Bool) : SS.CC 60 [.bool a0] [] =
    some (.bool a0, []) := (CC_run SS_ok rfl).trans (by kernel_rfl)
/-! overseer/instruction.operations$13 -/
noncomputable def g61_c : Code := bodyOf Tryz.f61
noncomputable def g61_E : AE := SS.ae 61 5
noncomputable def g61_X : XE := SS.xe SS.CC SS.LL g61_E 0
theorem g61_eq (a0 : Bool) : SS.CC 61 [.bool a0] [] =
    some (.bool (!a0), []) := (CC_run SS_ok rfl).trans (by kernel_rfl)
end Go.Proofs.YtiejgieiokmmfaaGreatDoor

/-
  The parts of tokens$1, named. Printed by a program (wip/tool/mk16f.py).
-/
import Derived.Test.YtoajpgclgdhhlaaT16s
namespace Go.Proofs.Ytoajpgclgdhhlaa
set_option linter.unusedVariables false
set_option linter.unusedSimpArgs false
set_option linter.unnecessarySimpa false
set_option linter.unusedSectionVars false
open Go.RowKit
set_option maxRecDepth 1000000
noncomputable def k : Code := Code.sub [] p58a_c
noncomputable def k0 : Code := Code.sub [false] p58a_c
noncomputable def k00 : Code := Code.sub [false, false] p58a_c
theorem k00_eq : k00 = .region 0 (opsOf k00) false := by kernel_rfl
noncomputable def k01 : Code := Code.sub [false, true] p58a_c
noncomputable def k010 : Code := Code.sub [false, true, false] p58a_c
theorem k010_eq : k010 = .label 0 := by kernel_rfl
noncomputable def k011 : Code := Code.sub [false, true, true] p58a_c
noncomputable def k0110 : Code := Code.sub [false, true, true, false] p58a_c
noncomputable def k01100 : Code := Code.sub [false, true, true, false, false] p58a_c
noncomputable def k011000 : Code := Code.sub [false, true, true, false, false, false] p58a_c
noncomputable def k0110000 : Code := Code.sub [false, true, true, false, false, false, false] p58a_c
noncomputable def k0110001 : Code := Code.sub [false, true, true, false, false, false, true] p58a_c
noncomputable def k01100010 : Code := Code.sub [false, true, true, false, false, false, true, false] p58a_c
noncomputable def k01100011 : Code := Code.sub [false, true, true, false, false, false, true, true] p58a_c
noncomputable def k011000110 : Code := Code.sub [false, true, true, false, false, false, true, true, false] p58a_c
noncomputable def k011000111 : Code := Code.sub [false, true, true, false, false, false, true, true, true] p58a_c
noncomputable def k0110001110 : Code := Code.sub [false, true, true, false, false, false, true, true, true, false] p58a_c
noncomputable def k0110001111 : Code := Code.sub [false, true, true, false, false, false, true, true, true, true] p58a_c
noncomputable def k01100011110 : Code := Code.sub [false, true, true, false, false, false, true, true, true, true, false] p58a_c
noncomputable def k011000111100 : Code := Code.sub [false, true, true, false, false, false, true, true, true, true, false, false] p58a_c
noncomputable def k011000111101 : Code := Code.sub [false, true, true, false, false, false, true, true, true, true, false, true] p58a_c
noncomputable def k0110001111010 : Code := Code.sub [false, true, true, false, false, false, true, true, true, true, false, true, false] p58a_c
noncomputable def k01100011110100 : Code := Code.sub [false, true, true, false, false, false, true, true, true, true, false, true, false, false] p58a_c
theorem k01100011110100_eq : k01100011110100 = .region 10 (opsOf k01100011110100) false := by kernel_rfl
noncomputable def k01100011110101 : Code := Code.sub [false, true, true, false, false, false, true, true, true, true, false, true, false, true] p58a_c
theorem k01100011110101_eq : k01100011110101 = .ret := by kernel_rfl
theorem k0110001111010_eq : k0110001111010 = .seq k01100011110100 k01100011110101 := by kernel_rfl
noncomputable def k0110001111011 : Code := Code.sub [false, true, true, false, false, false, true, true, true, true, false, true, true] p58a_c
theorem k0110001111011_eq : k0110001111011 = .skip := by kernel_rfl
theorem k011000111101_eq : k011000111101 = .cond (.tmp 41) k0110001111010 k0110001111011 := by kernel_rfl
theorem k01100011110_eq : k01100011110 = .seq k011000111100 k011000111101 := by kernel_rfl
noncomputable def k01100011111 : Code := Code.sub [false, true, true, false, false, false, true, true, true, true, true] p58a_c
noncomputable def k011000111110 : Code := Code.sub [false, true, true, false, false, false, true, true, true, true, true, false] p58a_c
noncomputable def k011000111111 : Code := Code.sub [false, true, true, false, false, false, true, true, true, true, true, true] p58a_c
noncomputable def k0110001111110 : Code := Code.sub [false, true, true, false, false, false, true, true, true, true, true, true, false] p58a_c
noncomputable def k0110001111111 : Code := Code.sub [false, true, true, false, false, false, true, true, true, true, true, true, true] p58a_c
noncomputable def k01100011111110 : Code := Code.sub [false, true, true, false, false, false, true, true, true, true, true, true, true, false] p58a_c
noncomputable def k01100011111111 : Code := Code.sub [false, true, true, false, false, false, true, true, true, true, true, true, true, true] p58a_c
noncomputable def k011000111111110 : Code := Code.sub [false, true, true, false, false, false, true, true, true, true, true, true, true, true, false] p58a_c
noncomputable def k0110001111111100 : Code := Code.sub [false, true, true, false, false, false, true, true, true, true, true, true, true, true, false, false] p58a_c
theorem k0110001111111100_eq : k0110001111111100 = .region 19 (opsOf k0110001111111100) false := by kernel_rfl
noncomputable def k0110001111111101 : Code := Code.sub [false, true, true, false, false, false, true, true, true, true, true, true, true, true, false, true] p58a_c
noncomputable def k01100011111111010 : Code := Code.sub [false, true, true, false, false, false, true, true, true, true, true, true, true, true, false, true, false] p58a_c
theorem k01100011111111010_eq : k01100011111111010 = .ret := by kernel_rfl
noncomputable def k01100011111111011 : Code := Code.sub [false, true, true, false, false, false, true, true, true, true, true, true, true, true, false, true, true] p58a_c
theorem k01100011111111011_eq : k01100011111111011 = .skip := by kernel_rfl
theorem k0110001111111101_eq : k0110001111111101 = .cond (.tmp 80) k01100011111111010 k01100011111111011 := by kernel_rfl
theorem k011000111111110_eq : k011000111111110 = .seq k0110001111111100 k0110001111111101 := by kernel_rfl
noncomputable def k011000111111111 : Code := Code.sub [false, true, true, false, false, false, true, true, true, true, true, true, true, true, true] p58a_c
noncomputable def k0110001111111110 : Code := Code.sub [false, true, true, false, false, false, true, true, true, true, true, true, true, true, true, false] p58a_c
noncomputable def k0110001111111111 : Code := Code.sub [false, true, true, false, false, false, true, true, true, true, true, true, true, true, true, true] p58a_c
theorem k0110001111111111_eq : k0110001111111111 = .exit 1 := by kernel_rfl
theorem k011000111111111_eq : k011000111111111 = .seq k0110001111111110 k0110001111111111 := by kernel_rfl
theorem k01100011111111_eq : k01100011111111 = .seq k011000111111110 k011000111111111 := by kernel_rfl
theorem k0110001111111_eq : k0110001111111 = .seq k01100011111110 k01100011111111 := by kernel_rfl
theorem k011000111111_eq : k011000111111 = .seq k0110001111110 k0110001111111 := by kernel_rfl
theorem k01100011111_eq : k01100011111 = .seq k011000111110 k011000111111 := by kernel_rfl
theorem k0110001111_eq : k0110001111 = .seq k01100011110 k01100011111 := by kernel_rfl
theorem k011000111_eq : k011000111 = .seq k0110001110 k0110001111 := by kernel_rfl
theorem k01100011_eq : k01100011 = .seq k011000110 k011000111 := by kernel_rfl
theorem k0110001_eq : k0110001 = .seq k01100010 k01100011 := by kernel_rfl
theorem k011000_eq : k011000 = .seq k0110000 k0110001 := by kernel_rfl
theorem k01100_eq : k01100 = .block 1 k011000 := by kernel_rfl
theorem k0110_eq : k0110 = .loop k01100 := by kernel_rfl
theorem k011_eq : k011 = .block 0 k0110 := by kernel_rfl
theorem k01_eq : k01 = .seq k010 k011 := by kernel_rfl
theorem k0_eq : k0 = .seq k00 k01 := by kernel_rfl
theorem k_eq : k = .scope k0 := by kernel_rfl
noncomputable def k01100011110100_o : Oper := (opsOf k01100011110100)[4]!
noncomputable def k01100011110100_cl : Call := match k01100011110100_o.op with | .call c => c | _ => default
theorem k01100011110100_1 : k01100011110100_o.op = .call k01100011110100_cl := by kernel_rfl
theorem k01100011110100_2 : k01100011110100_o.guard = none := by kernel_rfl
theorem k01100011110100_3 : k01100011110100_cl.callee = .value (.tmp 42) := by kernel_rfl
theorem k01100011110100_4 : k01100011110100_cl.args = #[(.tmp 45), (.const (.int .i64 0))] := by kernel_rfl
theorem k01100011110100_5 : k01100011110100_o.dst = some 46 := by kernel_rfl
theorem k01100011110100_6 : (opsOf k01100011110100).toList = ((opsOf k01100011110100).toList.drop 0).take 4 ++ k01100011110100_o :: ((opsOf k01100011110100).toList.drop 5).take 5 := by kernel_rfl
noncomputable def k0110001111111100_o : Oper := (opsOf k0110001111111100)[5]!
noncomputable def k0110001111111100_cl : Call := match k0110001111111100_o.op with | .call c => c | _ => default
theorem k0110001111111100_1 : k0110001111111100_o.op = .call k0110001111111100_cl := by kernel_rfl
theorem k0110001111111100_2 : k0110001111111100_o.guard = none := by kernel_rfl
theorem k0110001111111100_3 : k0110001111111100_cl.callee = .value (.tmp 70) := by kernel_rfl
theorem k0110001111111100_4 : k0110001111111100_cl.args = #[(.tmp 73), (.tmp 74)] := by kernel_rfl
theorem k0110001111111100_5 : k0110001111111100_o.dst = some 75 := by kernel_rfl
theorem k0110001111111100_6 : (opsOf k0110001111111100).toList = ((opsOf k0110001111111100).toList.drop 0).take 5 ++ k0110001111111100_o :: ((opsOf k0110001111111100).toList.drop 6).take 5 := by kernel_rfl
end Go.Proofs.Ytoajpgclgdhhlaa

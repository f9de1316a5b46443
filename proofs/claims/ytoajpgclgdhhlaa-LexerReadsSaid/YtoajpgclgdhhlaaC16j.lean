/-
  The parts of Scan, named. Printed by a program (wip/tool/mk16j.py).
-/
import Derived.Test.YtoajpgclgdhhlaaC16i
import Derived.Test.YtoajpgclgdhhlaaAbT
namespace Go.Proofs.Ytoajpgclgdhhlaa
set_option linter.unusedVariables false
set_option linter.unusedSimpArgs false
set_option linter.unnecessarySimpa false
set_option linter.unusedSectionVars false
open Go.RowKit
set_option maxRecDepth 1000000
noncomputable def s : Code := Code.sub [] p12a_c
noncomputable def s0 : Code := Code.sub [false] p12a_c
noncomputable def s1 : Code := Code.sub [true] p12a_c
noncomputable def s10 : Code := Code.sub [true, false] p12a_c
noncomputable def s11 : Code := Code.sub [true, true] p12a_c
noncomputable def s110 : Code := Code.sub [true, true, false] p12a_c
noncomputable def s1100 : Code := Code.sub [true, true, false, false] p12a_c
noncomputable def s1101 : Code := Code.sub [true, true, false, true] p12a_c
noncomputable def s11010 : Code := Code.sub [true, true, false, true, false] p12a_c
theorem s11010_eq : s11010 = .rangeFunc (.tmp 12) #[13, 14] sc_asg sc_body := by kernel_rfl
theorem s1101_eq : s1101 = .block 0 s11010 := by kernel_rfl
theorem s110_eq : s110 = .seq s1100 s1101 := by kernel_rfl
noncomputable def s111 : Code := Code.sub [true, true, true] p12a_c
noncomputable def s1110 : Code := Code.sub [true, true, true, false] p12a_c
noncomputable def s1111 : Code := Code.sub [true, true, true, true] p12a_c
theorem s1111_eq : s1111 = .ret := by kernel_rfl
theorem s111_eq : s111 = .seq s1110 s1111 := by kernel_rfl
theorem s11_eq : s11 = .seq s110 s111 := by kernel_rfl
theorem s1_eq : s1 = .seq s10 s11 := by kernel_rfl
theorem s_eq : s = .seq s0 s1 := by kernel_rfl
noncomputable def s_E : AE := SS.ae 12 27
noncomputable def s_X : XE := SS.xe SS.CC SS.LL s_E 0
abbrev s_sl (s : ByteArray) (t : Slots) : Slots := (0, .str s) :: (2, .ptr 0 0) :: (3, .ptr 1 0) :: (4, .ptr 2 0) :: (5, .ptr 3 0) :: t
abbrev s_h (o : Bool) (z : Nat) (L : List PV) (a b c : Int) : Objs := [some [.sl o z L], some [.int .i64 a], some [.int .i64 b], some [.int .i64 c]]
theorem c31 (s : ByteArray) : SS.CC 31 [.str s] [] = some (.func (.func 58) [] [.cst (.str s)], []) := (CC_run SS_ok rfl).trans (by kernel_rfl)
theorem s0_x (K : AX → ASt → R) (s : ByteArray) : exK s_X s0 K ⟨[(0, .str s)], []⟩ = K .normal ⟨s_sl s [], s_h true 0 [] 0 0 0⟩ := by kernel_rfl
theorem s10_x (K : AX → ASt → R) (s : ByteArray) : exK s_X s10 K ⟨s_sl s [], s_h true 0 [] 0 0 0⟩ = bsel (decide ((65536 : Int) < (s.size : Int))) (K .ret ⟨s_sl s [], s_h true 0 [] 1 1 15⟩) (K .normal ⟨s_sl s [(8, .str s), (9, .int .i64 (s.size : Int)), (10, .bool false)], s_h true 5 [] 0 0 0⟩) := by kernel_rfl
theorem s1100_x (K : AX → ASt → R) (s : ByteArray) : exK s_X s1100 K ⟨s_sl s [], s_h true 5 [] 0 0 0⟩ = K .normal ⟨s_sl s [(11, .str s), (12, .func (.func 58) [] [.cst (.str s)])], s_h true 5 [] 0 0 0⟩ := by
  have : exK s_X s1100 K ⟨s_sl s [], s_h true 5 [] 0 0 0⟩ = clX SS.CC 31 [.str s] fun r => SS.W 31 [] r [] fun r' _ => (match PV.flat r' with | true => K .normal ⟨s_sl s [(11, .str s), (12, r')], s_h true 5 [] 0 0 0⟩ | false => none) := by kernel_rfl
  refine this.trans ((clX_of (c31 s)).trans ?_)
  kernel_rfl
theorem s1110_x (K : AX → ASt → R) (L : List PV) : exK s_X s1110 K ⟨[(2, .ptr 0 0), (3, .ptr 1 0), (4, .ptr 2 0), (5, .ptr 3 0)], s_h true 5 L 0 0 0⟩ = K .normal ⟨[(2, .ptr 0 0), (3, .ptr 1 0), (4, .ptr 2 0), (5, .ptr 3 0), (26, .sl false 5 L)], s_h false 5 L 0 0 0⟩ := by kernel_rfl

end Go.Proofs.Ytoajpgclgdhhlaa

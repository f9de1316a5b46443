/-
  Functions as equations. Printed by a program (wip/tool/dc.py).
-/
import Derived.Test.YtkkgfoknknehfaaDoorBT
namespace Go.Proofs.YtkkgfoknknehfaaDoor.W
set_option linter.unusedVariables false
set_option linter.unusedSimpArgs false
set_option linter.unnecessarySimpa false
set_option linter.unusedSectionVars false
open Go.RowKit
set_option maxRecDepth 1000000
noncomputable section
theorem g62_eq (a1 : ByteArray) (h0_1 : List UInt8) : SS.CC 62 [.ptr 0 0, .str a1] [O42 (h0_1, ())] =
 H29 74 [.ptr 0 0] [O42 (h0_1, ())] fun _ u1 => chk (decide (u1.1.length + a1.size ≤ LIM)) (some (.tuple [.int .i64 (a1.size : Int), .raw .nilIface], [O42 ((u1.1 ++ a1.data.toList), ())])) := cc
theorem g64_eq (a1 : Int) (h0_1 : List UInt8) : SS.CC 64 [.ptr 0 0, .int .u8 a1] [O42 (h0_1, ())] =
 H29 74 [.ptr 0 0] [O42 (h0_1, ())] fun _ u1 => chk (decide (u1.1.length + 1 ≤ LIM) && decide ((0 : Int) ≤ a1) && decide (a1 < (256 : Int))) (some (.raw .nilIface, [O42 ((u1.1 ++ [UInt8.ofNat (Int.toNat a1)]), ())])) := cc
theorem g55_eq (a0 : List PV) : SS.CC 55 [.sl false 1 a0, .func (.func 56) [] []] [] =
 G6 71 [.sl false 1 a0, .func (.func 56) [] []] fun n1 => some (.bool (decide (0 ≤ n1)), []) := cc
def g71_K0 : KT := SS.rK Tryd.f71 71 0 []
def g71_K1 : KT := SS.jK 71 19 0 (cS Tryd.f71 7) g71_K0
def g71_K2 : KT := blkK 0 g71_K1
def g71_L3 (x0 : List PV) (x8 : Int) : R := SS.LL (SS.ae 71 19) 0 [0, 1, 7, 8] 0 (cS Tryd.f71 37) g71_K2 ⟨[(0, .sl false 1 x0), (1, .func (.func 56) [] []), (7, .int .i64 (x0.length : Int)), (8, .int .i64 x8)], []⟩
theorem g71_L3_eq (x0 : List PV) (x8 : Int) : g71_L3 x0 x8 =
 bsel (decide (x8 < (x0.length : Int))) (lgetX x0 x8 fun e1 => vI .i64 e1 fun n2 => G1 56 [.int .i64 n2] fun b3 => bsel b3 (some (.int .i64 x8, [])) (g71_L3 x0 (IntKind.i64.wrap (x8 + 1)))) (some (.int .i64 (-1), [])) := ll
theorem g71_eq (a0 : List PV) : SS.CC 71 [.sl false 1 a0, .func (.func 56) [] []] [] =
 g71_L3 a0 0 := cc
theorem g56_eq (a0 : Int) : SS.CC 56 [.int .i64 a0] [] =
 some (.bool (decide (a0 < 0)), []) := cc
end
end Go.Proofs.YtkkgfoknknehfaaDoor.W

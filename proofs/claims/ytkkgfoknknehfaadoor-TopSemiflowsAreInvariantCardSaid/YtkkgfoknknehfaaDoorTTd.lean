/-
  Functions as equations. Printed by a program (wip/tool/dc.py).
-/
import Derived.Test.YtkkgfoknknehfaaDoorBT
namespace Go.Proofs.YtkkgfoknknehfaaDoor.W
set_option linter.unusedVariables false
set_option linter.unusedSimpArgs false
set_option linter.unnecessarySimpa false
set_option linter.unusedSectionVars false
open Go.RowKit
set_option maxRecDepth 1000000
noncomputable section
def g40_K0 : KT := SS.rK Tryd.f40 40 0 []
def g40_K1 : KT := SS.jK 40 19 0 (cS Tryd.f40 31) g40_K0
def g40_K2 : KT := blkK 0 g40_K1
def g40_L5 (x1 : Sh.V S29) (x5 : Int) (o0_0 : List PV) (o1_0 : List PV) : R := SS.LL (SS.ae 40 19) 0 [1, 3, 4, 5] 3 (cS Tryd.f40 151) g40_K2 ⟨[(1, .cst (A29 x1)), (3, .ptr 0 0), (4, .ptr 2 0), (5, .int .i64 x5)], [O38 (o0_0, ()), O27 (o1_0, ()), some [.bld 0 1]]⟩
theorem g40_L5_eq (x1 : Sh.V S29) (x5 : Int) (o0_0 : List PV) (o1_0 : List PV) : g40_L5 x1 x5 o0_0 o1_0 =
 bsel (decide (x5 ≤ x1.1)) (H35 52 [.int .i64 x1.1, .int .i64 x5, .func (.func 53) [] [.ptr 0 0, .cst (A29 x1), .ptr 1 0]] [some [.bld 0 2], O38 (o0_0, ()), O27 (o1_0, ())] fun _ u1 u2 => g40_L5 x1 (IntKind.i64.wrap (x5 + 1)) u1.1 u2.1) (some (.sl false 11 o0_0, [])) := ll
theorem g40_eq (a0 : Sh.V S29) : SS.CC 40 [A29 a0] [] =
 g40_L5 a0 1 [] [] := cc
def g52_K0 : KT := SS.rK Tryd.f52 52 3 []
def g52_K1 : KT := SS.jK 52 70 3 (cS Tryd.f52 7) g52_K0
def g52_K2 : KT := blkK 0 g52_K1
def g52_K3 : KT := blkK 2 g52_K0
def g52_K4 : KT := SS.lK 52 70 3 [0, 1, 2, 6] 4 (cS Tryd.f52 19) g52_K3
def g52_K5 : KT := blkK 3 g52_K4
def g52_K6 : KT := SS.jK 52 70 3 (cS Tryd.f52 979) g52_K5
def g52_K7 : KT := blkK 4 g52_K6
def g52_K8 : KT := blkK 6 g52_K5
def g52_L3 (x0 : Int) (x1 : Int) (x2 : Int) (x2_a : List PV) (o1_0 : List PV) (o2_0 : List PV) (x14 : Int) (o3 : List PV) : R := SS.LL (SS.ae 52 70) 3 [0, 1, 2, 6, 13, 14] 4 (cS Tryd.f52 37) g52_K2 ⟨[(0, .int .i64 x0), (1, .int .i64 x1), (2, .func (.func 53) [] [.ptr 0 0, .cst (A29 (x2, x2_a, ())), .ptr 1 0]), (6, .slh 3 0 x1.toNat 1), (13, .int .i64 (x1.toNat : Int)), (14, .int .i64 x14)], [some [.bld 0 2], O38 (o1_0, ()), O27 (o2_0, ()), some o3]⟩
def g52_L7 (x0 : Int) (x1 : Int) (x2 : Int) (x2_a : List PV) (o1_0 : List PV) (o2_0 : List PV) (o3 : List PV) : R := SS.LL (SS.ae 52 70) 3 [0, 1, 2, 6] 4 (cS Tryd.f52 19) g52_K3 ⟨[(0, .int .i64 x0), (1, .int .i64 x1), (2, .func (.func 53) [] [.ptr 0 0, .cst (A29 (x2, x2_a, ())), .ptr 1 0]), (6, .slh 3 0 x1.toNat 1)], [some [.bld 0 2], O38 (o1_0, ()), O27 (o2_0, ()), some o3]⟩
def g52_L10 (x0 : Int) (x1 : Int) (x2 : Int) (x2_a : List PV) (o1_0 : List PV) (o2_0 : List PV) (o3 : List PV) (x8 : Int) : R := SS.LL (SS.ae 52 70) 3 [0, 1, 2, 6, 8] 4 (cS Tryd.f52 2259) g52_K7 ⟨[(0, .int .i64 x0), (1, .int .i64 x1), (2, .func (.func 53) [] [.ptr 0 0, .cst (A29 (x2, x2_a, ())), .ptr 1 0]), (6, .slh 3 0 x1.toNat 1), (8, .int .i64 x8)], [some [.bld 0 2], O38 (o1_0, ()), O27 (o2_0, ()), some o3]⟩
def g52_J12 (x0 : Int) (x1 : Int) (x2 : Int) (x2_a : List PV) (o1_0 : List PV) (o2_0 : List PV) (o3 : List PV) (x8 : Int) : R := exK (SS.xX 52 70 3) (cS Tryd.f52 979) g52_K5 ⟨[(0, .int .i64 x0), (1, .int .i64 x1), (2, .func (.func 53) [] [.ptr 0 0, .cst (A29 (x2, x2_a, ())), .ptr 1 0]), (6, .slh 3 0 x1.toNat 1), (8, .int .i64 x8)], [some [.bld 0 2], O38 (o1_0, ()), O27 (o2_0, ()), some o3]⟩
def g52_L15 (x0 : Int) (x1 : Int) (x2 : Int) (x2_a : List PV) (o1_0 : List PV) (o2_0 : List PV) (o3 : List PV) (x9 : Int) : R := SS.LL (SS.ae 52 70) 3 [0, 1, 2, 6, 9] 4 (cS Tryd.f52 20435) g52_K8 ⟨[(0, .int .i64 x0), (1, .int .i64 x1), (2, .func (.func 53) [] [.ptr 0 0, .cst (A29 (x2, x2_a, ())), .ptr 1 0]), (6, .slh 3 0 x1.toNat 1), (9, .int .i64 x9)], [some [.bld 0 2], O38 (o1_0, ()), O27 (o2_0, ()), some o3]⟩
theorem g52_L3_eq (x0 : Int) (x1 : Int) (x2 : Int) (x2_a : List PV) (o1_0 : List PV) (o2_0 : List PV) (x14 : Int) (o3 : List PV) : g52_L3 x0 x1 x2 x2_a o1_0 o2_0 x14 o3 =
 chk (o3.all flC && true) (bsel (decide (x14 < (x1.toNat : Int))) (chk (o3.all flC && true) (chk (decide (0 ≤ x14) && decide (x14 < (x1.toNat : Int))) (chk (decide (x14.toNat < o3.length)) (chk ((o3.set x14.toNat (.int .i64 x14)).all flC && true) (g52_L3 x0 x1 x2 x2_a o1_0 o2_0 (IntKind.i64.wrap (x14 + 1)) (o3.set x14.toNat (.int .i64 x14))))))) (chk (o3.all flC && true) (g52_L7 x0 x1 x2 x2_a o1_0 o2_0 o3))) := ll
theorem g52_L7_eq (x0 : Int) (x1 : Int) (x2 : Int) (x2_a : List PV) (o1_0 : List PV) (o2_0 : List PV) (o3 : List PV) : g52_L7 x0 x1 x2 x2_a o1_0 o2_0 o3 =
 chk (o3.all flC && true) (bsel (decide (x1 ≤ x0)) (chk (o3.all flC && true) (H36 53 [.slh 3 0 x1.toNat 1, .ptr 0 0, .cst (A29 (x2, x2_a, ())), .ptr 1 0] [some [.bld 0 2], O38 (o1_0, ()), O27 (o2_0, ()), some o3] fun _ u1 u2 l3 => g52_L10 x0 x1 x2 x2_a u1.1 u2.1 l3 (IntKind.i64.wrap (x1 - 1)))) (some (.tuple [], [some [.bld 0 2], O38 (o1_0, ()), O27 (o2_0, ())]))) := ll
theorem g52_L10_eq (x0 : Int) (x1 : Int) (x2 : Int) (x2_a : List PV) (o1_0 : List PV) (o2_0 : List PV) (o3 : List PV) (x8 : Int) : g52_L10 x0 x1 x2 x2_a o1_0 o2_0 o3 x8 =
 chk (o3.all flC && true) (bsel (decide (0 ≤ x8)) (chk (decide (0 ≤ x8) && decide (x8 < (x1.toNat : Int))) (ngetX o3 x8.toNat fun e1 => vI .i64 e1 fun n2 => bsel (n2 == (IntKind.i64.wrap ((IntKind.i64.wrap (x0 - x1)) + x8))) (chk (o3.all flC && true) (g52_L10 x0 x1 x2 x2_a o1_0 o2_0 o3 (IntKind.i64.wrap (x8 - 1)))) (chk (o3.all flC && true) (g52_J12 x0 x1 x2 x2_a o1_0 o2_0 o3 x8)))) (chk (o3.all flC && true) (g52_J12 x0 x1 x2 x2_a o1_0 o2_0 o3 x8))) := ll
theorem g52_J12_eq (x0 : Int) (x1 : Int) (x2 : Int) (x2_a : List PV) (o1_0 : List PV) (o2_0 : List PV) (o3 : List PV) (x8 : Int) : g52_J12 x0 x1 x2 x2_a o1_0 o2_0 o3 x8 =
 bsel (decide (x8 < 0)) (some (.tuple [], [some [.bld 0 2], O38 (o1_0, ()), O27 (o2_0, ())])) (chk (o3.all flC && true) (chk (decide (0 ≤ x8) && decide (x8 < (x1.toNat : Int))) (ngetX o3 x8.toNat fun e1 => vI .i64 e1 fun n2 => chk (decide (0 ≤ x8) && decide (x8 < (x1.toNat : Int))) (chk (decide (x8.toNat < o3.length)) (g52_L15 x0 x1 x2 x2_a o1_0 o2_0 (o3.set x8.toNat (.int .i64 (IntKind.i64.wrap (n2 + 1)))) (IntKind.i64.wrap (x8 + 1))))))) := by kernel_rfl
theorem g52_L15_eq (x0 : Int) (x1 : Int) (x2 : Int) (x2_a : List PV) (o1_0 : List PV) (o2_0 : List PV) (o3 : List PV) (x9 : Int) : g52_L15 x0 x1 x2 x2_a o1_0 o2_0 o3 x9 =
 chk (o3.all flC && true) (bsel (decide (x9 < x1)) (chk (o3.all flC && true) (chk (decide (0 ≤ (IntKind.i64.wrap (x9 - 1))) && decide ((IntKind.i64.wrap (x9 - 1)) < (x1.toNat : Int))) (ngetX o3 ((IntKind.i64.wrap (x9 - 1)).toNat) fun e1 => vI .i64 e1 fun n2 => chk (decide (0 ≤ x9) && decide (x9 < (x1.toNat : Int))) (chk (decide (x9.toNat < o3.length)) (chk ((o3.set x9.toNat (.int .i64 (IntKind.i64.wrap (n2 + 1)))).all flC && true) (g52_L15 x0 x1 x2 x2_a o1_0 o2_0 (o3.set x9.toNat (.int .i64 (IntKind.i64.wrap (n2 + 1)))) (IntKind.i64.wrap (x9 + 1)))))))) (g52_L7 x0 x1 x2 x2_a o1_0 o2_0 o3)) := ll
theorem g52_eq (a0 : Int) (a1 : Int) (a2 : Int) (a2_1 : List PV) (h1_0 : List PV) (h2_0 : List PV) : SS.CC 52 [.int .i64 a0, .int .i64 a1, .func (.func 53) [] [.ptr 0 0, .cst (A29 (a2, a2_1, ())), .ptr 1 0]] [some [.bld 0 2], O38 (h1_0, ()), O27 (h2_0, ())] =
 chk (decide (a1 = a1) && decide (0 ≤ a1) && decide (a1 ≤ 1073741824)) (g52_L3 a0 a1 a2 a2_1 h1_0 h2_0 0 (List.replicate a1.toNat (.int .i64 0 : PV))) := cc
def g53_K0 : KT := SS.rK Tryd.f53 53 4 [3]
def g53_K1 : KT := SS.jK 53 71 4 (cS Tryd.f53 7) g53_K0
def g53_K2 : KT := blkK 0 g53_K1
def g53_K3 : KT := SS.jK 53 71 4 (cS Tryd.f53 255) g53_K0
def g53_K4 : KT := blkK 4 g53_K3
def g53_L3 (x0 : Nat) (x2 : Sh.V S29) (o1_0 : List PV) (o2_0 : List PV) (o3 : List PV) (x5 : Int) (x16 : Int) : R := SS.LL (SS.ae 53 71) 4 [0, 1, 2, 3, 5, 14, 15, 16, 50] 4 (cS Tryd.f53 37) g53_K2 ⟨[(0, .slh 3 0 x0 1), (1, .ptr 0 0), (2, .cst (A29 x2)), (3, .ptr 1 0), (5, .int .u16 x5), (14, .slh 3 0 x0 1), (15, .int .i64 (x0 : Int)), (16, .int .i64 x16)], [some [.bld 0 2], O38 (o1_0, ()), O27 (o2_0, ()), some o3]⟩
def g53_L15 (x9 : List PV) (x50 : Nat) (o1_0 : List PV) (o2_0 : List PV) (o3 : List PV) (x52 : Int) (o4 : List PV) (x5 : Int) : R := SS.LL (SS.ae 53 71) 4 [1, 3, 5, 9, 11, 50, 51, 52, 7000011] 5 (cS Tryd.f53 1215) g53_K4 ⟨[(1, .ptr 0 0), (3, .ptr 1 0), (5, .int .u16 x5), (9, .sl false 1 x9), (11, .ptr 4 0), (50, .slh 3 0 x50 1), (51, .int .i64 (x50 : Int)), (52, .int .i64 x52)], [some [.bld 0 2], O38 (o1_0, ()), O27 (o2_0, ()), some o3, some o4]⟩
theorem g53_L3_eq (x0 : Nat) (x2 : Sh.V S29) (o1_0 : List PV) (o2_0 : List PV) (o3 : List PV) (x5 : Int) (x16 : Int) : g53_L3 x0 x2 o1_0 o2_0 o3 x5 x16 =
 chk (o3.all flC && true) (bsel (decide (x16 < (x0 : Int))) (chk (o3.all flC && true) (chk (decide (0 ≤ x16) && decide (x16 < (x0 : Int))) (ngetX o3 x16.toNat fun e1 => vI .i64 e1 fun n2 => chk (decide (0 ≤ n2)) (chk (o3.all flC && true) (g53_L3 x0 x2 o1_0 o2_0 o3 (IntKind.u16.wrap (BitVec.ofInt 16 x5 ||| BitVec.ofInt 16 (IntKind.u16.wrap (1 * 2 ^ min n2.toNat 16))).toNat) (IntKind.i64.wrap (x16 + 1))))))) (chk (o3.all flC && true) (rngX .u16 (fun n3 => some ((IntKind.u16.wrap (BitVec.ofInt 16 n3 &&& BitVec.ofInt 16 x5).toNat) == n3)) o2_0 (chk (o3.all flC && true) (some (.tuple [], [some [.bld 0 2], O38 (o1_0, ()), O27 (o2_0, ()), some o3]))) (chk (o3.all flC && true) (chk (o3.all flC && true) (H30 54 [A29 x2, .slh 0 0 x0 1] [some o3] fun u4 l6 => chk (l6.all flC && true) (bsel (!u4.2.1.1) (chk (l6.all flC && true) (some (.tuple [], [some [.bld 0 2], O38 (o1_0, ()), O27 (o2_0, ()), some l6]))) (G1 55 [.sl false 1 u4.1.1, .func (.func 56) [] []] fun b9 => bsel b9 (chk (l6.all flC && true) (some (.tuple [], [some [.bld 0 2], O38 (o1_0, ()), O27 (o2_0, ()), some l6]))) (chk (l6.all flC && true) (chk (decide (0 + 11 ≤ ([.int .u16 0, .int .i64 0, .int .i64 0, .int .i64 0, .int .i64 0, .int .i64 0, .int .i64 0, .int .i64 0, .int .i64 0, .int .i64 0, .int .i64 0] : List PV).length)) (g53_L15 u4.1.1 x0 o1_0 o2_0 l6 0 (([.int .u16 0, .int .i64 0, .int .i64 0, .int .i64 0, .int .i64 0, .int .i64 0, .int .i64 0, .int .i64 0, .int .i64 0, .int .i64 0, .int .i64 0] : List PV).take 0 ++ (([.int .u16 x5, .int .i64 0, .int .i64 0, .int .i64 0, .int .i64 0, .int .i64 0, .int .i64 0, .int .i64 0, .int .i64 0, .int .i64 0, .int .i64 0] : List PV) : List PV) ++ ([.int .u16 0, .int .i64 0, .int .i64 0, .int .i64 0, .int .i64 0, .int .i64 0, .int .i64 0, .int .i64 0, .int .i64 0, .int .i64 0, .int .i64 0] : List PV).drop (0 + 11)) x5))))))))))) := ll
theorem g53_L15_eq (x9 : List PV) (x50 : Nat) (o1_0 : List PV) (o2_0 : List PV) (o3 : List PV) (x52 : Int) (o4 : List PV) (x5 : Int) : g53_L15 x9 x50 o1_0 o2_0 o3 x52 o4 x5 =
 chk (o4.all flC && (o3.all flC && true)) (bsel (decide (x52 < (x50 : Int))) (chk (o4.all flC && (o3.all flC && true)) (chk (decide (0 ≤ x52) && decide (x52 < (x50 : Int))) (ngetX o3 x52.toNat fun e1 => vI .i64 e1 fun n2 => lgetX x9 x52 fun e3 => vI .i64 e3 fun n4 => chk (decide (0 ≤ n2) && decide (n2 < (10 : Int))) (chk (decide ((1 + n2.toNat * 1) < o4.length)) (chk ((o4.set (1 + n2.toNat * 1) (.int .i64 n4)).all flC && (o3.all flC && true)) (g53_L15 x9 x50 o1_0 o2_0 o3 (IntKind.i64.wrap (x52 + 1)) (o4.set (1 + n2.toNat * 1) (.int .i64 n4)) x5)))))) (chk (o4.all flC && (o3.all flC && true)) (chk (mapOK (some .u16) o2_0 (.int .u16 x5) && true) (chk (decide (0 + 11 ≤ o4.length)) (gvV S36 (.agg (((o4.drop 0).take 11).map PV.un)) fun u5 => chk (decide (o1_0.length + 1 ≤ LIM)) (chk (o3.all flC && true) (some (.tuple [], [some [.bld 0 2], O38 ((o1_0 ++ ([A36 u5] : List PV)), ()), O27 ((mapPut (some .u16) o2_0 (.int .u16 x5) (.bool true)), ()), some o3])))))))) := ll
theorem g53_eq (a0 : Nat) (a2 : Sh.V S29) (h1_0 : List PV) (h2_0 : List PV) (h3 : List PV) : SS.CC 53 [.slh 3 0 a0 1, .ptr 0 0, .cst (A29 a2), .ptr 1 0] [some [.bld 0 2], O38 (h1_0, ()), O27 (h2_0, ()), some h3] =
 g53_L3 a0 a2 h1_0 h2_0 h3 0 0 := cc
end
end Go.Proofs.YtkkgfoknknehfaaDoor.W

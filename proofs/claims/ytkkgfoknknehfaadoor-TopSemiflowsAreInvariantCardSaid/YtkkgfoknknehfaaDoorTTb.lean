/-
  Functions as equations. Printed by a program (wip/tool/dc.py).
-/
import Derived.Test.YtkkgfoknknehfaaDoorBT
namespace Go.Proofs.YtkkgfoknknehfaaDoor.W
set_option linter.unusedVariables false
set_option linter.unusedSimpArgs false
set_option linter.unnecessarySimpa false
set_option linter.unusedSectionVars false
open Go.RowKit
set_option maxRecDepth 1000000
noncomputable section
def g7_K0 : KT := SS.rK Tryd.f7 7 0 []
def g7_K1 : KT := SS.jK 7 36 0 (cS Tryd.f7 31) g7_K0
def g7_K2 : KT := blkK 0 g7_K1
def g7_J5 (o0_0 : List PV) (q1 : Sh.V S26) : R := exK (SS.xX 7 36 0) (cS Tryd.f7 15) g7_K0 ⟨[(3, .sl true 1 []), (5, .ptr 1 0)], [O27 (o0_0, ()), O26 q1]⟩
def g7_J5b : R := exK (SS.xX 7 36 0) (cS Tryd.f7 15) g7_K0 ⟨[(3, .sl true 1 []), (5, .nilp)], []⟩
def g7_L6 (q1 : Sh.V S26) (o0_0 : List PV) (x3 : List PV) (x21 : Int) : R := SS.LL (SS.ae 7 36) 0 [3, 5, 19, 20, 21] 2 (cS Tryd.f7 151) g7_K2 ⟨[(3, .sl true 1 x3), (5, .ptr 1 0), (19, .sl false 3 q1.1), (20, .int .i64 (q1.1.length : Int)), (21, .int .i64 x21)], [O27 (o0_0, ()), O26 q1]⟩
theorem g7_J5_eq (o0_0 : List PV) (q1 : Sh.V S26) : g7_J5 o0_0 q1 =
 g7_L6 q1 o0_0 [] 0 := by kernel_rfl
theorem g7_L6_eq (q1 : Sh.V S26) (o0_0 : List PV) (x3 : List PV) (x21 : Int) : g7_L6 q1 o0_0 x3 x21 =
 bsel (decide (x21 < (q1.1.length : Int))) (lgV S28 q1.1 x21 fun u2 => chk (decide (x3.length + 1 ≤ LIM)) (g7_L6 q1 o0_0 (x3 ++ ([.sl false 1 u2.1] : List PV)) (IntKind.i64.wrap (x21 + 1)))) (some (.tuple [.sl false 3 q1.2.1, .sl false 1 x3, .int .i64 0], [])) := ll
theorem g7_eq (a0 : Sh.V S0) : SS.CC 7 [A0 a0] [] =
 clH SS.CC 17 [A0 a0] [] fun r1 h2 => h17_0 r1 h2 (fun n3 l4 l5 l6 n7 => bsel (n3 != 0) (some (.tuple [.sl false 3 [], .sl false 1 [], .int .i64 n3], [])) (g7_J5 l4 (l5, l6, n7, ()))) (fun n8 => bsel (n8 != 0) (some (.tuple [.sl false 3 [], .sl false 1 [], .int .i64 n8], [])) (g7_J5b)) := cc
def g17_K0 : KT := SS.rK Tryd.f17 17 0 []
def g17_J8 (o0_0 : List PV) (q1 : Sh.V S26) : R := exK (SS.xX 17 26 0) (cS Tryd.f17 31) g17_K0 ⟨[(5, .ptr 1 0)], [O27 (o0_0, ()), O26 q1]⟩
def g17_J8b : R := exK (SS.xX 17 26 0) (cS Tryd.f17 31) g17_K0 ⟨[(5, .nilp)], []⟩
theorem g17_J8_eq (o0_0 : List PV) (q1 : Sh.V S26) : g17_J8 o0_0 q1 =
 bsel (decide (0 ≤ q1.2.2.1)) (some (.tuple [.nilp, .int .i64 23], [])) (some (.tuple [.ptr 1 0, .int .i64 0], [O27 (o0_0, ()), O26 q1])) := by kernel_rfl
theorem g17_eq (a0 : Sh.V S0) : SS.CC 17 [A0 a0] [] =
 G6 37 [A0 a0] fun n1 => bsel (n1 != 0) (some (.tuple [.nilp, .int .i64 n1], [])) (clH SS.CC 38 [A0 a0] [] fun r3 h4 => h38_0 r3 h4 (fun n5 l6 l7 l8 n9 => bsel (n5 != 0) (some (.tuple [.nilp, .int .i64 n5], [])) (g17_J8 l6 (l7, l8, n9, ()))) (fun n10 => bsel (n10 != 0) (some (.tuple [.nilp, .int .i64 n10], [])) (g17_J8b))) := cc
def g37_K0 : KT := SS.rK Tryd.f37 37 0 []
def g37_K1 : KT := SS.jK 37 58 0 (cS Tryd.f37 15) g37_K0
def g37_K2 : KT := blkK 1 g37_K1
def g37_K3 : KT := SS.lK 37 58 0 [1, 24, 25, 26] 0 (cS Tryd.f37 75) g37_K2
def g37_K4 : KT := SS.jK 37 58 0 (cS Tryd.f37 971) g37_K3
def g37_K5 : KT := blkK 2 g37_K4
def g37_K6 : KT := blkK 3 g37_K5
def g37_L9 (x1 : Sh.V S0) (x26 : Int) : R := SS.LL (SS.ae 37 58) 0 [1, 24, 25, 26] 0 (cS Tryd.f37 75) g37_K2 ⟨[(1, .cst (A0 x1)), (24, .sl false 3 x1.2.1), (25, .int .i64 (x1.2.1.length : Int)), (26, .int .i64 x26)], []⟩
def g37_L14 (x1 : Sh.V S0) (x42 : List PV) (x44 : Int) (x26 : Int) : R := SS.LL (SS.ae 37 58) 0 [1, 24, 25, 26, 42, 43, 44] 0 (cS Tryd.f37 40139) g37_K6 ⟨[(1, .cst (A0 x1)), (24, .sl false 3 x1.2.1), (25, .int .i64 (x1.2.1.length : Int)), (26, .int .i64 x26), (42, .sl true 1 x42), (43, .int .i64 2), (44, .int .i64 x44)], []⟩
theorem g37_L9_eq (x1 : Sh.V S0) (x26 : Int) : g37_L9 x1 x26 =
 bsel (decide (x26 < (x1.2.1.length : Int))) (lgV S2 x1.2.1 x26 fun u2 => bsel (decide (u2.1 < 0)) (some (.int .i64 2, [])) (bsel (decide (32 ≤ u2.1)) (some (.int .i64 2, [])) (g37_L14 x1 [.sl false 2 u2.2.1, .sl false 2 u2.2.2.1] 0 x26))) (some (.int .i64 0, [])) := ll
theorem g37_L14_eq (x1 : Sh.V S0) (x42 : List PV) (x44 : Int) (x26 : Int) : g37_L14 x1 x42 x44 x26 =
 bsel (decide (x44 < 2)) (lgetX x42 x44 fun e1 => vL false 2 e1 fun l2 => G6 47 [.sl false 2 l2, .int .i64 (x1.1.length : Int)] fun n3 => bsel (n3 != 0) (some (.int .i64 n3, [])) (g37_L14 x1 x42 (IntKind.i64.wrap (x44 + 1)) x26)) (g37_L9 x1 (IntKind.i64.wrap (x26 + 1))) := ll
theorem g37_eq (a0 : Sh.V S0) : SS.CC 37 [A0 a0] [] =
 bsel (decide (10 < (a0.1.length : Int))) (some (.int .i64 3, [])) (G1 46 [.sl false 1 a0.1] fun b1 => bsel (!b1) (some (.int .i64 2, [])) (bsel (decide (10 < (a0.2.1.length : Int))) (some (.int .i64 3, [])) (g37_L9 a0 0))) := cc
def g47_K0 : KT := SS.rK Tryd.f47 47 0 []
def g47_K1 : KT := SS.jK 47 48 0 (cS Tryd.f47 7) g47_K0
def g47_K2 : KT := blkK 0 g47_K1
def g47_L3 (x0 : List PV) (x1 : Int) (x9 : Int) : R := SS.LL (SS.ae 47 48) 0 [0, 1, 7, 8, 9] 0 (cS Tryd.f47 37) g47_K2 ⟨[(0, .sl false 2 x0), (1, .int .i64 x1), (7, .sl false 2 x0), (8, .int .i64 (x0.length : Int)), (9, .int .i64 x9)], []⟩
theorem g47_L3_eq (x0 : List PV) (x1 : Int) (x9 : Int) : g47_L3 x0 x1 x9 =
 bsel (decide (x9 < (x0.length : Int))) (lgV S5 x0 x9 fun u2 => bsel (decide (u2.1 < 0)) (some (.int .i64 2, [])) (bsel (decide (x1 ≤ u2.1)) (some (.int .i64 2, [])) (bsel (decide (0 < x9)) (lgV S5 x0 (IntKind.i64.wrap (x9 - 1)) fun u5 => bsel (decide (u2.1 ≤ u5.1)) (some (.int .i64 5, [])) (bsel (decide (u2.2.1 < 1)) (some (.int .i64 2, [])) (bsel (decide (8 < u2.2.1)) (some (.int .i64 2, [])) (g47_L3 x0 x1 (IntKind.i64.wrap (x9 + 1)))))) (bsel (decide (u2.2.1 < 1)) (some (.int .i64 2, [])) (bsel (decide (8 < u2.2.1)) (some (.int .i64 2, [])) (g47_L3 x0 x1 (IntKind.i64.wrap (x9 + 1)))))))) (some (.int .i64 0, [])) := ll
theorem g47_eq (a0 : List PV) (a1 : Int) : SS.CC 47 [.sl false 2 a0, .int .i64 a1] [] =
 g47_L3 a0 a1 0 := cc
def g38_K0 : KT := SS.rK Tryd.f38 38 0 []
def g38_K1 : KT := SS.jK 38 120 0 (cS Tryd.f38 31) g38_K0
def g38_K2 : KT := blkK 0 g38_K1
def g38_K3 : KT := SS.lK 38 120 0 [1, 4, 5] 2 (cS Tryd.f38 151) g38_K2
def g38_K4 : KT := SS.jK 38 120 0 (cS Tryd.f38 919) g38_K3
def g38_K5 : KT := blkK 1 g38_K4
def g38_K6 : KT := blkK 2 g38_K5
def g38_K7 : KT := SS.lK 38 120 0 [1, 4, 5, 39, 40, 41] 2 (cS Tryd.f38 9367) g38_K6
def g38_K8 : KT := SS.jK 38 120 0 (cS Tryd.f38 124055) g38_K7
def g38_K9 : KT := blkK 3 g38_K8
def g38_L5 (x1 : Sh.V S0) (o0_0 : List PV) (q1 : Sh.V S26) (x5 : Int) : R := SS.LL (SS.ae 38 120) 0 [1, 4, 5] 2 (cS Tryd.f38 151) g38_K2 ⟨[(1, .cst (A0 x1)), (4, .ptr 1 0), (5, .int .i64 x5)], [O27 (o0_0, ()), O26 q1]⟩
def g38_L8 (x1 : Sh.V S0) (x39 : List PV) (o0_0 : List PV) (q1 : Sh.V S26) (x41 : Int) (x5 : Int) : R := SS.LL (SS.ae 38 120) 0 [1, 4, 5, 39, 40, 41] 2 (cS Tryd.f38 9367) g38_K6 ⟨[(1, .cst (A0 x1)), (4, .ptr 1 0), (5, .int .i64 x5), (39, .sl false 1 x39), (40, .int .i64 (x39.length : Int)), (41, .int .i64 x41)], [O27 (o0_0, ()), O26 q1]⟩
def g38_J22 (x1 : Sh.V S0) (x7 : Int) (x10 : Int) (x39 : List PV) (o0_0 : List PV) (q1 : Sh.V S26) (x5 : Int) (x41 : Int) : R := exK (SS.xX 38 120 0) (cS Tryd.f38 8283287) g38_K9 ⟨[(1, .cst (A0 x1)), (4, .ptr 1 0), (5, .int .i64 x5), (7, .int .i64 x7), (10, .int .i64 x10), (39, .sl false 1 x39), (40, .int .i64 (x39.length : Int)), (41, .int .i64 x41)], [O27 (o0_0, ()), O26 q1]⟩
theorem g38_L5_eq (x1 : Sh.V S0) (o0_0 : List PV) (q1 : Sh.V S26) (x5 : Int) : g38_L5 x1 o0_0 q1 x5 =
 bsel (decide (x5 < (q1.1.length : Int))) (lgV S28 q1.1 x5 fun u2 => G17 45 [A0 x1, .sl false 1 u2.1] fun l5 => g38_L8 x1 l5 o0_0 q1 0 x5) (some (.tuple [.ptr 1 0, .int .i64 0], [O27 (o0_0, ()), O26 q1])) := ll
theorem g38_L8_eq (x1 : Sh.V S0) (x39 : List PV) (o0_0 : List PV) (q1 : Sh.V S26) (x41 : Int) (x5 : Int) : g38_L8 x1 x39 o0_0 q1 x41 x5 =
 bsel (decide (x41 < (x39.length : Int))) (lgetX x39 x41 fun e1 => vI .i64 e1 fun n2 => lgV S2 x1.2.1 n2 fun u4 => lgV S28 q1.1 x5 fun u8 => G5 49 [A2 u4, .sl false 1 u8.1] fun u11 => bsel (u11.2.1.1 != 0) (some (.tuple [.nilp, .int .i64 u11.2.1.1], [])) (G18 50 [.sl false 1 u11.1.1] fun s14 => mapX none o0_0 (.str s14) (fun e16 => vI .i64 e16 fun n17 => g38_J22 x1 n2 n17 x39 o0_0 q1 x5 x41) (H19 48 [.ptr 0 0, A28 (u11.1.1, x5, n2, ())] [O37 q1, O27 (o0_0, ())] fun _ u18 u21 => H20 51 [.ptr 0 0] [O37 u18, O27 u21] fun n24 u25 u28 => bsel (decide (0 ≤ n24)) (some (.tuple [.ptr 1 0, .int .i64 0], [O27 u28, O26 (u25.1, u25.2.1, n24, ())])) (bsel (decide (4096 < (u25.1.length : Int))) (some (.tuple [.nilp, .int .i64 3], [])) (g38_J22 x1 n2 (q1.1.length : Int) x39 u28.1 (u25.1, u25.2.1, n24, ()) x5 x41))))) (g38_L5 x1 o0_0 q1 (IntKind.i64.wrap (x5 + 1))) := ll
theorem g38_J22_eq (x1 : Sh.V S0) (x7 : Int) (x10 : Int) (x39 : List PV) (o0_0 : List PV) (q1 : Sh.V S26) (x5 : Int) (x41 : Int) : g38_J22 x1 x7 x10 x39 o0_0 q1 x5 x41 =
 chk (decide (q1.2.1.length + 1 ≤ LIM)) (g38_L8 x1 x39 o0_0 (q1.1, (q1.2.1 ++ ([A30 (x5, x7, x10, ())] : List PV)), q1.2.2.1, ()) (IntKind.i64.wrap (x41 + 1)) x5) := by kernel_rfl
theorem g38_eq (a0 : Sh.V S0) : SS.CC 38 [A0 a0] [] =
 G8 22 [.sl false 1 a0.1] fun l1 => H19 48 [.ptr 0 0, A28 (l1, (-1), (-1), ())] [O37 ([], [], (-1), ()), O27 ([], ())] fun _ u3 u6 => g38_L5 a0 u6.1 u3 0 := cc
def g45_K0 : KT := SS.rK Tryd.f45 45 0 []
def g45_K1 : KT := SS.jK 45 25 0 (cS Tryd.f45 15) g45_K0
def g45_K2 : KT := blkK 0 g45_K1
def g45_L4 (x1 : List PV) (x9 : List PV) (x5 : List PV) (x11 : Int) : R := SS.LL (SS.ae 45 25) 0 [1, 5, 9, 10, 11] 0 (cS Tryd.f45 75) g45_K2 ⟨[(1, .sl false 1 x1), (5, .sl true 1 x5), (9, .sl false 3 x9), (10, .int .i64 (x9.length : Int)), (11, .int .i64 x11)], []⟩
theorem g45_L4_eq (x1 : List PV) (x9 : List PV) (x5 : List PV) (x11 : Int) : g45_L4 x1 x9 x5 x11 =
 bsel (decide (x11 < (x9.length : Int))) (lgV S2 x9 x11 fun u2 => G1 60 [A2 u2, .sl false 1 x1] fun b5 => bsel b5 (chk (decide (x5.length + 1 ≤ LIM)) (g45_L4 x1 x9 (x5 ++ ([.int .i64 x11] : List PV)) (IntKind.i64.wrap (x11 + 1)))) (g45_L4 x1 x9 x5 (IntKind.i64.wrap (x11 + 1)))) (some (.sl false 1 x5, [])) := ll
theorem g45_eq (a0 : Sh.V S0) (a1 : List PV) : SS.CC 45 [A0 a0, .sl false 1 a1] [] =
 g45_L4 a1 a0.2.1 [] 0 := cc
theorem g60_eq (a0 : Sh.V S2) (a1 : List PV) : SS.CC 60 [A2 a0, .sl false 1 a1] [] =
 G1 72 [.sl false 2 a0.2.1, .func (.func 73) [] [.cst (.sl false 1 a1)]] fun b1 => some (.bool (!b1), []) := cc
theorem g73_eq (a0 : Sh.V S5) (a1 : List PV) : SS.CC 73 [A5 a0, .cst (.sl false 1 a1)] [] =
 lgetX a1 a0.1 fun e1 => vI .i64 e1 fun n2 => some (.bool (decide (n2 < a0.2.1)), []) := cc
def g49_K0 : KT := SS.rK Tryd.f49 49 0 []
def g49_K1 : KT := SS.jK 49 51 0 (cS Tryd.f49 15) g49_K0
def g49_K2 : KT := blkK 0 g49_K1
def g49_K3 : KT := SS.jK 49 51 0 (cS Tryd.f49 31) g49_K0
def g49_K4 : KT := blkK 2 g49_K3
def g49_L4 (x2 : Sh.V S2) (o0 : List PV) (x6 : Nat) (x16 : Int) : R := SS.LL (SS.ae 49 51) 0 [2, 6, 14, 15, 16] 1 (cS Tryd.f49 75) g49_K2 ⟨[(2, .cst (A2 x2)), (6, .slh 0 0 x6 1), (14, .sl false 2 x2.2.1), (15, .int .i64 (x2.2.1.length : Int)), (16, .int .i64 x16)], [some o0]⟩
def g49_L9 (x31 : List PV) (o0 : List PV) (x6 : Nat) (x33 : Int) : R := SS.LL (SS.ae 49 51) 0 [6, 31, 32, 33] 1 (cS Tryd.f49 151) g49_K4 ⟨[(6, .slh 0 0 x6 1), (31, .sl false 2 x31), (32, .int .i64 (x31.length : Int)), (33, .int .i64 x33)], [some o0]⟩
theorem g49_L4_eq (x2 : Sh.V S2) (o0 : List PV) (x6 : Nat) (x16 : Int) : g49_L4 x2 o0 x6 x16 =
 chk (o0.all flC && true) (bsel (decide (x16 < (x2.2.1.length : Int))) (chk (o0.all flC && true) (lgV S5 x2.2.1 x16 fun u2 => chk (decide (0 ≤ u2.1) && decide (u2.1 < (x6 : Int))) (ngetX o0 u2.1.toNat fun e4 => vI .i64 e4 fun n5 => chk (decide (0 ≤ u2.1) && decide (u2.1 < (x6 : Int))) (chk (decide (u2.1.toNat < o0.length)) (chk ((o0.set u2.1.toNat (.int .i64 (IntKind.i64.wrap (n5 - u2.2.1)))).all flC && true) (g49_L4 x2 (o0.set u2.1.toNat (.int .i64 (IntKind.i64.wrap (n5 - u2.2.1)))) x6 (IntKind.i64.wrap (x16 + 1)))))))) (chk (o0.all flC && true) (g49_L9 x2.2.2.1 o0 x6 0))) := ll
theorem g49_L9_eq (x31 : List PV) (o0 : List PV) (x6 : Nat) (x33 : Int) : g49_L9 x31 o0 x6 x33 =
 chk (o0.all flC && true) (bsel (decide (x33 < (x31.length : Int))) (chk (o0.all flC && true) (lgV S5 x31 x33 fun u2 => chk (decide (0 ≤ u2.1) && decide (u2.1 < (x6 : Int))) (ngetX o0 u2.1.toNat fun e4 => vI .i64 e4 fun n5 => chk (decide (0 ≤ u2.1) && decide (u2.1 < (x6 : Int))) (chk (decide (u2.1.toNat < o0.length)) (chk ((o0.set u2.1.toNat (.int .i64 (IntKind.i64.wrap (n5 + u2.2.1)))).all flC && true) (g49_L9 x31 (o0.set u2.1.toNat (.int .i64 (IntKind.i64.wrap (n5 + u2.2.1)))) x6 (IntKind.i64.wrap (x33 + 1)))))))) (chk (o0.all flC && true) (chk (o0.all flC && true) (H15 46 [.slh 0 0 x6 1] [some o0] fun b6 l7 => chk (l7.all flC && true) (bsel (!b6) (some (.tuple [.sl false 1 [], .int .i64 3], [])) (chk (l7.all flC && true) (chk (decide (x6 * 1 ≤ l7.length) && decide (0 < 1) && l7.all fun p => p.one && p.flat) (some (.tuple [.sl false 1 (chunkP 1 l7 x6), .int .i64 0], []))))))))) := ll
theorem g49_eq (a0 : Sh.V S2) (a1 : List PV) : SS.CC 49 [A2 a0, .sl false 1 a1] [] =
 G8 22 [.sl false 1 a1] fun l1 => chk (decide (0 < l1.length) && l1.all plainC) (g49_L4 a0 l1 l1.length 0) := cc
def g50_K0 : KT := SS.rK Tryd.f50 50 0 []
def g50_K1 : KT := SS.jK 50 18 0 (cS Tryd.f50 15) g50_K0
def g50_K2 : KT := blkK 0 g50_K1
def g50_L4 (x6 : List PV) (x8 : Int) (o0_1 : List UInt8) : R := SS.LL (SS.ae 50 18) 0 [3, 6, 7, 8] 1 (cS Tryd.f50 75) g50_K2 ⟨[(3, .ptr 0 0), (6, .sl false 1 x6), (7, .int .i64 (x6.length : Int)), (8, .int .i64 x8)], [O42 (o0_1, ())]⟩
theorem g50_L4_eq (x6 : List PV) (x8 : Int) (o0_1 : List UInt8) : g50_L4 x6 x8 o0_1 =
 bsel (decide (x8 < (x6.length : Int))) (lgetX x6 x8 fun e1 => vI .i64 e1 fun n2 => G18 63 [.int .i64 n2] fun s3 => H25 62 [.ptr 0 0, .str s3] [O42 (o0_1, ())] fun u5 u6 => H26 64 [.ptr 0 0, .int .u8 32] [O42 u6] fun u9 => g50_L4 x6 (IntKind.i64.wrap (x8 + 1)) u9.1) (H27 65 [.ptr 0 0] [O42 (o0_1, ())] fun s12 u13 => some (.str s12, [])) := ll
theorem g50_eq (a0 : List PV) : SS.CC 50 [.sl false 1 a0] [] =
 g50_L4 a0 0 [] := cc
theorem g48_eq (a1 : Sh.V S28) (h0 : Sh.V S37) (h1_0 : List PV) : SS.CC 48 [.ptr 0 0, A28 a1] [O37 h0, O27 (h1_0, ())] =
 G18 50 [.sl false 1 a1.1] fun s1 => chk (mapOK none h1_0 (.str s1) && true) (chk (decide (h0.1.length + 1 ≤ LIM)) (some (.tuple [], [O37 ((h0.1 ++ ([A28 a1] : List PV)), h0.2.1, h0.2.2.1, ()), O27 ((mapPut none h1_0 (.str s1) (.int .i64 (h0.1.length : Int))), ())]))) := cc
def g51_K0 : KT := SS.rK Tryd.f51 51 2 []
def g51_K1 : KT := SS.jK 51 61 2 (cS Tryd.f51 31) g51_K0
def g51_K2 : KT := blkK 0 g51_K1
def g51_K3 : KT := SS.lK 51 61 2 [0, 3, 4, 5] 3 (cS Tryd.f51 151) g51_K2
def g51_K4 : KT := SS.jK 51 61 2 (cS Tryd.f51 919) g51_K3
def g51_K5 : KT := blkK 1 g51_K4
def g51_K6 : KT := SS.jK 51 61 2 (cS Tryd.f51 7319) g51_K5
def g51_K7 : KT := blkK 2 g51_K6
def g51_L5 (x5 : Int) (q0 : Sh.V S37) (o1_0 : List PV) (q2 : Sh.V S28) (x4 : Int) : R := SS.LL (SS.ae 51 61) 2 [0, 3, 4, 5] 3 (cS Tryd.f51 151) g51_K2 ⟨[(0, .ptr 0 0), (3, .ptr 2 0), (4, .int .i64 x4), (5, .int .i64 x5)], [O37 q0, O27 (o1_0, ()), O28 q2]⟩
def g51_L9 (x5 : Int) (x40 : List PV) (q0 : Sh.V S37) (o1_0 : List PV) (q2 : Sh.V S28) (x6 : Bool) (x42 : Int) (x4 : Int) : R := SS.LL (SS.ae 51 61) 2 [0, 3, 4, 5, 6, 40, 41, 42] 3 (cS Tryd.f51 38039) g51_K7 ⟨[(0, .ptr 0 0), (3, .ptr 2 0), (4, .int .i64 x4), (5, .int .i64 x5), (6, .bool x6), (40, .sl false 1 x40), (41, .int .i64 (x40.length : Int)), (42, .int .i64 x42)], [O37 q0, O27 (o1_0, ()), O28 q2]⟩
def g51_J6 (x4 : Int) (q0 : Sh.V S37) (o1_0 : List PV) (q2 : Sh.V S28) (x5 : Int) : R := exK (SS.xX 51 61 2) (cS Tryd.f51 919) g51_K3 ⟨[(0, .ptr 0 0), (3, .ptr 2 0), (4, .int .i64 x4), (5, .int .i64 x5)], [O37 q0, O27 (o1_0, ()), O28 q2]⟩
theorem g51_L5_eq (x5 : Int) (q0 : Sh.V S37) (o1_0 : List PV) (q2 : Sh.V S28) (x4 : Int) : g51_L5 x5 q0 o1_0 q2 x4 =
 bsel (decide (0 ≤ x5)) (lgV S28 q0.1 x5 fun u2 => g51_L9 x5 u2.1 q0 o1_0 q2 true 0 x4) (some (.int .i64 x4, [O37 q0, O27 (o1_0, ())])) := ll
theorem g51_L9_eq (x5 : Int) (x40 : List PV) (q0 : Sh.V S37) (o1_0 : List PV) (q2 : Sh.V S28) (x6 : Bool) (x42 : Int) (x4 : Int) : g51_L9 x5 x40 q0 o1_0 q2 x6 x42 x4 =
 bsel (decide (x42 < (x40.length : Int))) (lgetX x40 x42 fun e1 => vI .i64 e1 fun n2 => bsel x6 (lgetX q2.1 x42 fun e3 => vI .i64 e3 fun n4 => g51_L9 x5 x40 q0 o1_0 q2 (decide (n2 ≤ n4)) (IntKind.i64.wrap (x42 + 1)) x4) (g51_L9 x5 x40 q0 o1_0 q2 false (IntKind.i64.wrap (x42 + 1)) x4)) (bsel x6 (g51_J6 x5 q0 o1_0 q2 x5) (g51_J6 x4 q0 o1_0 q2 x5)) := ll
theorem g51_J6_eq (x4 : Int) (q0 : Sh.V S37) (o1_0 : List PV) (q2 : Sh.V S28) (x5 : Int) : g51_J6 x4 q0 o1_0 q2 x5 =
 lgV S28 q0.1 x5 fun u2 => g51_L5 u2.2.1 q0 o1_0 q2 x4 := by kernel_rfl
theorem g51_eq (h0 : Sh.V S37) (h1_0 : List PV) : SS.CC 51 [.ptr 0 0] [O37 h0, O27 (h1_0, ())] =
 lgV S28 h0.1 (IntKind.i64.wrap ((h0.1.length : Int) - 1)) fun u2 => g51_L5 u2.2.1 h0 h1_0 u2 (-1) := cc
theorem g46_eq (a0 : List PV) : SS.CC 46 [.sl false 1 a0] [] =
 G1 42 [.sl false 1 a0, .func (.func 61) [] []] fun b1 => some (.bool (!b1), []) := cc
theorem g46_1i_eq (a0 : Nat) (h0 : List PV) : SS.CC 46 [.slh 0 0 a0 1] [some h0] =
 chk (h0.all flC && true) (H15 42 [.slh 0 0 a0 1, .func (.func 61) [] []] [some h0] fun b1 l2 => chk (l2.all flC && true) (chk (l2.all flC && true) (some (.bool (!b1), [some l2])))) := cc
theorem g61_eq (a0 : Int) : SS.CC 61 [.int .i64 a0] [] =
 bsel (decide (a0 < 0)) (some (.bool true, [])) (some (.bool (decide (65536 < a0)), [])) := cc
theorem g72_eq (a0 : List PV) (a1 : List PV) : SS.CC 72 [.sl false 2 a0, .func (.func 73) [] [.cst (.sl false 1 a1)]] [] =
 G6 80 [.sl false 2 a0, .func (.func 73) [] [.cst (.sl false 1 a1)]] fun n1 => some (.bool (decide (0 ≤ n1)), []) := cc
def g80_K0 : KT := SS.rK Tryd.f80 80 0 []
def g80_K1 : KT := SS.jK 80 19 0 (cS Tryd.f80 7) g80_K0
def g80_K2 : KT := blkK 0 g80_K1
def g80_L3 (x0 : List PV) (x1 : List PV) (x8 : Int) : R := SS.LL (SS.ae 80 19) 0 [0, 1, 7, 8] 0 (cS Tryd.f80 37) g80_K2 ⟨[(0, .sl false 2 x0), (1, .func (.func 73) [] [.cst (.sl false 1 x1)]), (7, .int .i64 (x0.length : Int)), (8, .int .i64 x8)], []⟩
theorem g80_L3_eq (x0 : List PV) (x1 : List PV) (x8 : Int) : g80_L3 x0 x1 x8 =
 bsel (decide (x8 < (x0.length : Int))) (lgV S5 x0 x8 fun u2 => G1 73 [A5 u2, .cst (.sl false 1 x1)] fun b4 => bsel b4 (some (.int .i64 x8, [])) (g80_L3 x0 x1 (IntKind.i64.wrap (x8 + 1)))) (some (.int .i64 (-1), [])) := ll
theorem g80_eq (a0 : List PV) (a1 : List PV) : SS.CC 80 [.sl false 2 a0, .func (.func 73) [] [.cst (.sl false 1 a1)]] [] =
 g80_L3 a0 a1 0 := cc
end
end Go.Proofs.YtkkgfoknknehfaaDoor.W

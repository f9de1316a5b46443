/-
  Functions as equations. Printed by a program (wip/tool/dc.py).
-/
import Derived.Test.YtkkgfoknknehfaaDoorBT
namespace Go.Proofs.YtkkgfoknknehfaaDoor.W
set_option linter.unusedVariables false
set_option linter.unusedSimpArgs false
set_option linter.unnecessarySimpa false
set_option linter.unusedSectionVars false
open Go.RowKit
set_option maxRecDepth 1000000
noncomputable section
def g19_K0 : KT := SS.rK Tryd.f19 19 0 []
def g19_K1 : KT := SS.jK 19 48 0 (cS Tryd.f19 63) g19_K0
def g19_K2 : KT := blkK 0 g19_K1
def g19_K3 : KT := SS.lK 19 48 0 [1, 5, 15, 16, 17] 0 (cS Tryd.f19 303) g19_K2
def g19_K4 : KT := SS.jK 19 48 0 (cS Tryd.f19 3887) g19_K3
def g19_K5 : KT := blkK 1 g19_K4
def g19_K6 : KT := SS.jK 19 48 0 (cS Tryd.f19 62255) g19_K5
def g19_K7 : KT := blkK 2 g19_K6
def g19_L7 (x1 : Sh.V S29) (x15 : List PV) (x5 : List PV) (x17 : Int) : R := SS.LL (SS.ae 19 48) 0 [1, 5, 15, 16, 17] 0 (cS Tryd.f19 303) g19_K2 ⟨[(1, .cst (A29 x1)), (5, .sl true 1 x5), (15, .sl false 11 x15), (16, .int .i64 (x15.length : Int)), (17, .int .i64 x17)], []⟩
def g19_L11 (x1 : Sh.V S29) (x15 : List PV) (q0 : Sh.V S36) (x26 : Int) (o1 : List PV) (x5 : List PV) (x17 : Int) : R := SS.LL (SS.ae 19 48) 0 [1, 5, 7, 8, 15, 16, 17, 25, 26] 2 (cS Tryd.f19 308015) g19_K7 ⟨[(1, .cst (A29 x1)), (5, .sl true 1 x5), (7, .ptr 0 0), (8, .slh 1 0 x1.1.toNat 1), (15, .sl false 11 x15), (16, .int .i64 (x15.length : Int)), (17, .int .i64 x17), (25, .int .i64 (x1.1.toNat : Int)), (26, .int .i64 x26)], [O36 q0, some o1]⟩
theorem g19_L7_eq (x1 : Sh.V S29) (x15 : List PV) (x5 : List PV) (x17 : Int) : g19_L7 x1 x15 x5 x17 =
 bsel (decide (x17 < (x15.length : Int))) (lgV S36 x15 x17 fun u2 => chk (decide (x1.1 = x1.1) && decide (0 ≤ x1.1) && decide (x1.1 ≤ 1073741824)) (g19_L11 x1 x15 u2 0 (List.replicate x1.1.toNat (.int .i64 0 : PV)) x5 x17)) (some (.tuple [.sl false 1 x5, .int .i64 0], [])) := ll
theorem g19_L11_eq (x1 : Sh.V S29) (x15 : List PV) (q0 : Sh.V S36) (x26 : Int) (o1 : List PV) (x5 : List PV) (x17 : Int) : g19_L11 x1 x15 q0 x26 o1 x5 x17 =
 chk (o1.all flC && true) (bsel (decide (x26 < (x1.1.toNat : Int))) (chk (o1.all flC && true) (chk (decide (0 ≤ x26) && decide (x26 < (10 : Int))) (ngetX [.int .u16 q0.1, .int .i64 q0.2.1, .int .i64 q0.2.2.1, .int .i64 q0.2.2.2.1, .int .i64 q0.2.2.2.2.1, .int .i64 q0.2.2.2.2.2.1, .int .i64 q0.2.2.2.2.2.2.1, .int .i64 q0.2.2.2.2.2.2.2.1, .int .i64 q0.2.2.2.2.2.2.2.2.1, .int .i64 q0.2.2.2.2.2.2.2.2.2.1, .int .i64 q0.2.2.2.2.2.2.2.2.2.2.1] (1 + x26.toNat * 1) fun e1 => vI .i64 e1 fun n2 => bsel (decide (65536 < n2)) (some (.tuple [.sl false 1 [], .int .i64 3], [])) (chk (o1.all flC && true) (chk (decide (0 ≤ x26) && decide (x26 < (10 : Int))) (ngetX [.int .u16 q0.1, .int .i64 q0.2.1, .int .i64 q0.2.2.1, .int .i64 q0.2.2.2.1, .int .i64 q0.2.2.2.2.1, .int .i64 q0.2.2.2.2.2.1, .int .i64 q0.2.2.2.2.2.2.1, .int .i64 q0.2.2.2.2.2.2.2.1, .int .i64 q0.2.2.2.2.2.2.2.2.1, .int .i64 q0.2.2.2.2.2.2.2.2.2.1, .int .i64 q0.2.2.2.2.2.2.2.2.2.2.1] (1 + x26.toNat * 1) fun e3 => vI .i64 e3 fun n4 => chk (decide (0 ≤ x26) && decide (x26 < (x1.1.toNat : Int))) (chk (decide (x26.toNat < o1.length)) (chk ((o1.set x26.toNat (.int .i64 n4)).all flC && true) (g19_L11 x1 x15 q0 (IntKind.i64.wrap (x26 + 1)) (o1.set x26.toNat (.int .i64 n4)) x5 x17))))))))) (chk (decide (x1.1.toNat * 1 ≤ o1.length) && decide (0 < 1) && o1.all fun p => p.one && p.flat) (chk (decide (x5.length + 1 ≤ LIM)) (g19_L7 x1 x15 (x5 ++ ([.sl false 1 (chunkP 1 o1 x1.1.toNat)] : List PV)) (IntKind.i64.wrap (x17 + 1)))))) := ll
theorem g19_eq (a0 : Sh.V S29) : SS.CC 19 [A29 a0] [] =
 G13 40 [A29 a0] fun l1 => bsel (decide (128 < (l1.length : Int))) (some (.tuple [.sl false 1 [], .int .i64 3], [])) (g19_L7 a0 l1 [] 0) := cc
def g20_K0 : KT := SS.rK Tryd.f20 20 0 []
def g20_K1 : KT := SS.jK 20 36 0 (cS Tryd.f20 31) g20_K0
def g20_K2 : KT := blkK 0 g20_K1
def g20_L6 (x18 : List PV) (q0 : Sh.V S29) (x20 : Int) : R := SS.LL (SS.ae 20 36) 0 [5, 18, 19, 20] 1 (cS Tryd.f20 151) g20_K2 ⟨[(5, .ptr 0 0), (18, .sl false 1 x18), (19, .int .i64 (x18.length : Int)), (20, .int .i64 x20)], [O29 q0]⟩
theorem g20_L6_eq (x18 : List PV) (q0 : Sh.V S29) (x20 : Int) : g20_L6 x18 q0 x20 =
 bsel (decide (x20 < (x18.length : Int))) (lgetX x18 x20 fun e1 => vL false 1 e1 fun l2 => G6 23 [.sl false 1 l2, .int .i64 q0.1] fun n3 => bsel (n3 != 0) (some (.int .i64 n3, [])) (G1 41 [A29 q0, .sl false 1 l2] fun b5 => bsel (!b5) (some (.int .i64 6, [])) (g20_L6 x18 q0 (IntKind.i64.wrap (x20 + 1))))) (some (.int .i64 0, [])) := ll
theorem g20_eq (a0 : Sh.V S0) (a1 : List PV) : SS.CC 20 [A0 a0, .sl false 1 a1] [] =
 G7 18 [A0 a0, .int .i64 1] fun u1 => bsel (u1.2.1.1 != 0) (some (.int .i64 u1.2.1.1, [])) (g20_L6 a1 u1.1 0) := cc
def g21_K0 : KT := SS.rK Tryd.f21 21 0 []
def g21_K1 : KT := SS.jK 21 25 0 (cS Tryd.f21 15) g21_K0
def g21_K2 : KT := blkK 0 g21_K1
def g21_L4 (x1 : List PV) (x8 : List PV) (x5 : Int) (x10 : Int) : R := SS.LL (SS.ae 21 25) 0 [1, 5, 8, 9, 10] 0 (cS Tryd.f21 75) g21_K2 ⟨[(1, .sl false 1 x1), (5, .int .i64 x5), (8, .sl false 1 x8), (9, .int .i64 (x8.length : Int)), (10, .int .i64 x10)], []⟩
theorem g21_L4_eq (x1 : List PV) (x8 : List PV) (x5 : Int) (x10 : Int) : g21_L4 x1 x8 x5 x10 =
 bsel (decide (x10 < (x8.length : Int))) (lgetX x8 x10 fun e1 => vI .i64 e1 fun n2 => lgetX x1 x10 fun e3 => vI .i64 e3 fun n4 => g21_L4 x1 x8 (IntKind.i64.wrap (x5 + (IntKind.i64.wrap (n2 * n4)))) (IntKind.i64.wrap (x10 + 1))) (some (.int .i64 x5, [])) := ll
theorem g21_eq (a0 : List PV) (a1 : List PV) : SS.CC 21 [.sl false 1 a0, .sl false 1 a1] [] =
 g21_L4 a1 a0 0 0 := cc
theorem g22_eq (a0 : List PV) : SS.CC 22 [.sl false 1 a0] [] =
 nilX a0 fun b1 => bsel (b1 == true) (some (.sl true 1 [], [])) (chk (decide (0 + a0.length ≤ LIM)) (some (.sl true 1 a0, []))) := cc
theorem g23_eq (a0 : List PV) (a1 : Int) : SS.CC 23 [.sl false 1 a0, .int .i64 a1] [] =
 bsel ((a0.length : Int) != a1) (some (.int .i64 4, [])) (G6 27 [.sl false 1 a0] fun n1 => some (.int .i64 n1, [])) := cc
theorem g23_1i_eq (a0 : Nat) (a1 : Int) (h0 : List PV) : SS.CC 23 [.slh 0 0 a0 1, .int .i64 a1] [some h0] =
 bsel ((a0 : Int) != a1) (chk (h0.all flC && true) (some (.int .i64 4, [some h0]))) (chk (h0.all flC && true) (chk (h0.all flC && true) (H14 27 [.slh 0 0 a0 1] [some h0] fun n1 l2 => chk (l2.all flC && true) (chk (l2.all flC && true) (some (.int .i64 n1, [some l2])))))) := cc
def g24_K0 : KT := SS.rK Tryd.f24 24 0 []
def g24_K1 : KT := SS.jK 24 32 0 (cS Tryd.f24 15) g24_K0
def g24_K2 : KT := blkK 0 g24_K1
def g24_L5 (x1 : List PV) (x15 : List PV) (x17 : Int) : R := SS.LL (SS.ae 24 32) 0 [1, 2, 15, 16, 17] 0 (cS Tryd.f24 75) g24_K2 ⟨[(1, .sl false 1 x1), (2, .func (.func 25) [] []), (15, .sl false 1 x15), (16, .int .i64 (x15.length : Int)), (17, .int .i64 x17)], []⟩
theorem g24_L5_eq (x1 : List PV) (x15 : List PV) (x17 : Int) : g24_L5 x1 x15 x17 =
 bsel (decide (x17 < (x15.length : Int))) (lgetX x15 x17 fun e1 => vL false 1 e1 fun l2 => lgetX x1 x17 fun e3 => vL false 1 e3 fun l4 => G1 25 [.sl false 1 l2, .sl false 1 l4] fun b5 => bsel (!b5) (some (.bool false, [])) (g24_L5 x1 x15 (IntKind.i64.wrap (x17 + 1)))) (some (.bool true, [])) := ll
theorem g24_eq (a0 : List PV) (a1 : List PV) : SS.CC 24 [.sl false 1 a0, .sl false 1 a1, .func (.func 25) [] []] [] =
 bsel ((a0.length : Int) != (a1.length : Int)) (some (.bool false, [])) (g24_L5 a1 a0 0) := cc
theorem g25_eq (a0 : List PV) (a1 : List PV) : SS.CC 25 [.sl false 1 a0, .sl false 1 a1] [] =
 G1 26 [.sl false 1 a0, .sl false 1 a1] fun b1 => some (.bool b1, []) := cc
def g26_K0 : KT := SS.rK Tryd.f26 26 0 []
def g26_K1 : KT := SS.jK 26 26 0 (cS Tryd.f26 15) g26_K0
def g26_K2 : KT := blkK 0 g26_K1
def g26_L5 (x0 : List PV) (x1 : List PV) (x13 : Int) : R := SS.LL (SS.ae 26 26) 0 [0, 1, 12, 13] 0 (cS Tryd.f26 75) g26_K2 ⟨[(0, .sl false 1 x0), (1, .sl false 1 x1), (12, .int .i64 (x0.length : Int)), (13, .int .i64 x13)], []⟩
theorem g26_L5_eq (x0 : List PV) (x1 : List PV) (x13 : Int) : g26_L5 x0 x1 x13 =
 bsel (decide (x13 < (x0.length : Int))) (lgetX x0 x13 fun e1 => vI .i64 e1 fun n2 => lgetX x1 x13 fun e3 => vI .i64 e3 fun n4 => bsel (n2 != n4) (some (.bool false, [])) (g26_L5 x0 x1 (IntKind.i64.wrap (x13 + 1)))) (some (.bool true, [])) := ll
theorem g26_eq (a0 : List PV) (a1 : List PV) : SS.CC 26 [.sl false 1 a0, .sl false 1 a1] [] =
 bsel ((a0.length : Int) != (a1.length : Int)) (some (.bool false, [])) (g26_L5 a0 a1 0) := cc
theorem g27_eq (a0 : List PV) : SS.CC 27 [.sl false 1 a0] [] =
 G1 42 [.sl false 1 a0, .func (.func 43) [] []] fun b1 => bsel b1 (some (.int .i64 2, [])) (some (.int .i64 0, [])) := cc
theorem g27_1i_eq (a0 : Nat) (h0 : List PV) : SS.CC 27 [.slh 0 0 a0 1] [some h0] =
 chk (h0.all flC && true) (H15 42 [.slh 0 0 a0 1, .func (.func 43) [] []] [some h0] fun b1 l2 => chk (l2.all flC && true) (bsel b1 (chk (l2.all flC && true) (some (.int .i64 2, [some l2]))) (chk (l2.all flC && true) (chk (l2.all flC && true) (some (.int .i64 0, [some l2])))))) := cc
def g41_K0 : KT := SS.rK Tryd.f41 41 0 []
def g41_K1 : KT := SS.jK 41 39 0 (cS Tryd.f41 7) g41_K0
def g41_K2 : KT := blkK 0 g41_K1
def g41_K3 : KT := SS.lK 41 39 0 [1, 11, 12, 13] 0 (cS Tryd.f41 37) g41_K2
def g41_K4 : KT := SS.jK 41 39 0 (cS Tryd.f41 485) g41_K3
def g41_K5 : KT := blkK 1 g41_K4
def g41_K6 : KT := SS.jK 41 39 0 (cS Tryd.f41 7781) g41_K5
def g41_K7 : KT := blkK 2 g41_K6
def g41_L3 (x1 : List PV) (x11 : List PV) (x13 : Int) : R := SS.LL (SS.ae 41 39) 0 [1, 11, 12, 13] 0 (cS Tryd.f41 37) g41_K2 ⟨[(1, .sl false 1 x1), (11, .sl false 10 x11), (12, .int .i64 (x11.length : Int)), (13, .int .i64 x13)], []⟩
def g41_L7 (x1 : List PV) (x11 : List PV) (q0 : Sh.V S41) (x7 : Int) (x19 : Int) (x13 : Int) : R := SS.LL (SS.ae 41 39) 0 [1, 6, 7, 11, 12, 13, 17, 18, 19] 1 (cS Tryd.f41 38501) g41_K7 ⟨[(1, .sl false 1 x1), (6, .ptr 0 0), (7, .int .i64 x7), (11, .sl false 10 x11), (12, .int .i64 (x11.length : Int)), (13, .int .i64 x13), (17, .sl false 1 x1), (18, .int .i64 (x1.length : Int)), (19, .int .i64 x19)], [O41 q0]⟩
theorem g41_L3_eq (x1 : List PV) (x11 : List PV) (x13 : Int) : g41_L3 x1 x11 x13 =
 bsel (decide (x13 < (x11.length : Int))) (lgV S41 x11 x13 fun u2 => g41_L7 x1 x11 u2 0 0 x13) (G17 57 [.sl false 1 x1] fun l12 => some (.bool (decide (0 < (l12.length : Int))), [])) := ll
theorem g41_L7_eq (x1 : List PV) (x11 : List PV) (q0 : Sh.V S41) (x7 : Int) (x19 : Int) (x13 : Int) : g41_L7 x1 x11 q0 x7 x19 x13 =
 bsel (decide (x19 < (x1.length : Int))) (lgetX x1 x19 fun e1 => vI .i64 e1 fun n2 => chk (decide (0 ≤ x19) && decide (x19 < (10 : Int))) (ngetX [.int .i64 q0.1, .int .i64 q0.2.1, .int .i64 q0.2.2.1, .int .i64 q0.2.2.2.1, .int .i64 q0.2.2.2.2.1, .int .i64 q0.2.2.2.2.2.1, .int .i64 q0.2.2.2.2.2.2.1, .int .i64 q0.2.2.2.2.2.2.2.1, .int .i64 q0.2.2.2.2.2.2.2.2.1, .int .i64 q0.2.2.2.2.2.2.2.2.2.1] (0 + x19.toNat * 1) fun e3 => vI .i64 e3 fun n4 => g41_L7 x1 x11 q0 (IntKind.i64.wrap (x7 + (IntKind.i64.wrap (n4 * n2)))) (IntKind.i64.wrap (x19 + 1)) x13)) (bsel (x7 != 0) (some (.bool false, [])) (g41_L3 x1 x11 (IntKind.i64.wrap (x13 + 1)))) := ll
theorem g41_eq (a0 : Sh.V S29) (a1 : List PV) : SS.CC 41 [A29 a0, .sl false 1 a1] [] =
 g41_L3 a1 a0.2.1 0 := cc
def g41_1i_K0 : KT := SS.rK Tryd.f41 41 1 [0]
def g41_1i_K1 : KT := SS.jK 41 39 1 (cS Tryd.f41 7) g41_1i_K0
def g41_1i_K2 : KT := blkK 0 g41_1i_K1
def g41_1i_K3 : KT := SS.lK 41 39 1 [1, 11, 12, 13] 1 (cS Tryd.f41 37) g41_1i_K2
def g41_1i_K4 : KT := SS.jK 41 39 1 (cS Tryd.f41 485) g41_1i_K3
def g41_1i_K5 : KT := blkK 1 g41_1i_K4
def g41_1i_K6 : KT := SS.jK 41 39 1 (cS Tryd.f41 7781) g41_1i_K5
def g41_1i_K7 : KT := blkK 2 g41_1i_K6
def g41_1i_L3 (x1 : Nat) (x11 : List PV) (o0 : List PV) (x13 : Int) : R := SS.LL (SS.ae 41 39) 1 [1, 11, 12, 13] 1 (cS Tryd.f41 37) g41_1i_K2 ⟨[(1, .slh 0 0 x1 1), (11, .sl false 10 x11), (12, .int .i64 (x11.length : Int)), (13, .int .i64 x13)], [some o0]⟩
def g41_1i_L7 (x1 : Nat) (x11 : List PV) (o0 : List PV) (q1 : Sh.V S41) (x7 : Int) (x19 : Int) (x13 : Int) : R := SS.LL (SS.ae 41 39) 1 [1, 6, 7, 11, 12, 13, 17, 18, 19] 2 (cS Tryd.f41 38501) g41_1i_K7 ⟨[(1, .slh 0 0 x1 1), (6, .ptr 1 0), (7, .int .i64 x7), (11, .sl false 10 x11), (12, .int .i64 (x11.length : Int)), (13, .int .i64 x13), (17, .slh 0 0 x1 1), (18, .int .i64 (x1 : Int)), (19, .int .i64 x19)], [some o0, O41 q1]⟩
theorem g41_1i_L3_eq (x1 : Nat) (x11 : List PV) (o0 : List PV) (x13 : Int) : g41_1i_L3 x1 x11 o0 x13 =
 chk (o0.all flC && true) (bsel (decide (x13 < (x11.length : Int))) (chk (o0.all flC && true) (lgV S41 x11 x13 fun u2 => g41_1i_L7 x1 x11 o0 u2 0 0 x13)) (chk (o0.all flC && true) (chk (o0.all flC && true) (H22 57 [.slh 0 0 x1 1] [some o0] fun l12 l13 => chk (l13.all flC && true) (chk (l13.all flC && true) (some (.bool (decide (0 < (l12.length : Int))), [some l13]))))))) := ll
theorem g41_1i_L7_eq (x1 : Nat) (x11 : List PV) (o0 : List PV) (q1 : Sh.V S41) (x7 : Int) (x19 : Int) (x13 : Int) : g41_1i_L7 x1 x11 o0 q1 x7 x19 x13 =
 chk (o0.all flC && true) (bsel (decide (x19 < (x1 : Int))) (chk (o0.all flC && true) (chk (decide (0 ≤ x19) && decide (x19 < (x1 : Int))) (ngetX o0 x19.toNat fun e1 => vI .i64 e1 fun n2 => chk (decide (0 ≤ x19) && decide (x19 < (10 : Int))) (ngetX [.int .i64 q1.1, .int .i64 q1.2.1, .int .i64 q1.2.2.1, .int .i64 q1.2.2.2.1, .int .i64 q1.2.2.2.2.1, .int .i64 q1.2.2.2.2.2.1, .int .i64 q1.2.2.2.2.2.2.1, .int .i64 q1.2.2.2.2.2.2.2.1, .int .i64 q1.2.2.2.2.2.2.2.2.1, .int .i64 q1.2.2.2.2.2.2.2.2.2.1] (0 + x19.toNat * 1) fun e3 => vI .i64 e3 fun n4 => chk (o0.all flC && true) (g41_1i_L7 x1 x11 o0 q1 (IntKind.i64.wrap (x7 + (IntKind.i64.wrap (n4 * n2)))) (IntKind.i64.wrap (x19 + 1)) x13))))) (chk (o0.all flC && true) (bsel (x7 != 0) (chk (o0.all flC && true) (some (.bool false, [some o0]))) (chk (o0.all flC && true) (g41_1i_L3 x1 x11 o0 (IntKind.i64.wrap (x13 + 1))))))) := ll
theorem g41_1i_eq (a0 : Sh.V S29) (a1 : Nat) (h0 : List PV) : SS.CC 41 [A29 a0, .slh 0 0 a1 1] [some h0] =
 g41_1i_L3 a1 a0.2.1 h0 0 := cc
theorem g43_eq (a0 : Int) : SS.CC 43 [.int .i64 a0] [] =
 bsel (decide (a0 < 0)) (some (.bool true, [])) (some (.bool (decide (65536 < a0)), [])) := cc
def g57_K0 : KT := SS.rK Tryd.f57 57 0 []
def g57_K1 : KT := SS.jK 57 21 0 (cS Tryd.f57 15) g57_K0
def g57_K2 : KT := blkK 0 g57_K1
def g57_L4 (x6 : List PV) (x3 : List PV) (x8 : Int) : R := SS.LL (SS.ae 57 21) 0 [3, 6, 7, 8] 0 (cS Tryd.f57 75) g57_K2 ⟨[(3, .sl true 1 x3), (6, .sl false 1 x6), (7, .int .i64 (x6.length : Int)), (8, .int .i64 x8)], []⟩
theorem g57_L4_eq (x6 : List PV) (x3 : List PV) (x8 : Int) : g57_L4 x6 x3 x8 =
 bsel (decide (x8 < (x6.length : Int))) (lgetX x6 x8 fun e1 => vI .i64 e1 fun n2 => bsel (n2 != 0) (chk (decide (x3.length + 1 ≤ LIM)) (g57_L4 x6 (x3 ++ ([.int .i64 x8] : List PV)) (IntKind.i64.wrap (x8 + 1)))) (g57_L4 x6 x3 (IntKind.i64.wrap (x8 + 1)))) (some (.sl false 1 x3, [])) := ll
theorem g57_eq (a0 : List PV) : SS.CC 57 [.sl false 1 a0] [] =
 g57_L4 a0 [] 0 := cc
def g57_1i_K0 : KT := SS.rK Tryd.f57 57 1 [0]
def g57_1i_K1 : KT := SS.jK 57 21 1 (cS Tryd.f57 15) g57_1i_K0
def g57_1i_K2 : KT := blkK 0 g57_1i_K1
def g57_1i_L4 (x6 : Nat) (o0 : List PV) (x3 : List PV) (x8 : Int) : R := SS.LL (SS.ae 57 21) 1 [3, 6, 7, 8] 1 (cS Tryd.f57 75) g57_1i_K2 ⟨[(3, .sl true 1 x3), (6, .slh 0 0 x6 1), (7, .int .i64 (x6 : Int)), (8, .int .i64 x8)], [some o0]⟩
theorem g57_1i_L4_eq (x6 : Nat) (o0 : List PV) (x3 : List PV) (x8 : Int) : g57_1i_L4 x6 o0 x3 x8 =
 chk (o0.all flC && true) (bsel (decide (x8 < (x6 : Int))) (chk (o0.all flC && true) (chk (decide (0 ≤ x8) && decide (x8 < (x6 : Int))) (ngetX o0 x8.toNat fun e1 => vI .i64 e1 fun n2 => bsel (n2 != 0) (chk (decide (x3.length + 1 ≤ LIM)) (chk (o0.all flC && true) (g57_1i_L4 x6 o0 (x3 ++ ([.int .i64 x8] : List PV)) (IntKind.i64.wrap (x8 + 1))))) (chk (o0.all flC && true) (g57_1i_L4 x6 o0 x3 (IntKind.i64.wrap (x8 + 1))))))) (chk (o0.all flC && true) (chk (o0.all flC && true) (some (.sl false 1 x3, [some o0]))))) := ll
theorem g57_1i_eq (a0 : Nat) (h0 : List PV) : SS.CC 57 [.slh 0 0 a0 1] [some h0] =
 g57_1i_L4 a0 h0 [] 0 := cc
theorem g42_eq (a0 : List PV) : SS.CC 42 [.sl false 1 a0, .func (.func 43) [] []] [] =
 G6 58 [.sl false 1 a0, .func (.func 43) [] []] fun n1 => some (.bool (decide (0 ≤ n1)), []) := cc
theorem g42_1i_eq (a0 : List PV) : SS.CC 42 [.sl false 1 a0, .func (.func 61) [] []] [] =
 G6 58 [.sl false 1 a0, .func (.func 61) [] []] fun n1 => some (.bool (decide (0 ≤ n1)), []) := cc
theorem g42_2i_eq (a0 : Nat) (h0 : List PV) : SS.CC 42 [.slh 0 0 a0 1, .func (.func 43) [] []] [some h0] =
 chk (h0.all flC && true) (H14 58 [.slh 0 0 a0 1, .func (.func 43) [] []] [some h0] fun n1 l2 => chk (l2.all flC && true) (chk (l2.all flC && true) (some (.bool (decide (0 ≤ n1)), [some l2])))) := cc
theorem g42_3i_eq (a0 : Nat) (h0 : List PV) : SS.CC 42 [.slh 0 0 a0 1, .func (.func 61) [] []] [some h0] =
 chk (h0.all flC && true) (H14 58 [.slh 0 0 a0 1, .func (.func 61) [] []] [some h0] fun n1 l2 => chk (l2.all flC && true) (chk (l2.all flC && true) (some (.bool (decide (0 ≤ n1)), [some l2])))) := cc
def g58_K0 : KT := SS.rK Tryd.f58 58 0 []
def g58_K1 : KT := SS.jK 58 19 0 (cS Tryd.f58 7) g58_K0
def g58_K2 : KT := blkK 0 g58_K1
def g58_L3 (x0 : List PV) (x8 : Int) : R := SS.LL (SS.ae 58 19) 0 [0, 1, 7, 8] 0 (cS Tryd.f58 37) g58_K2 ⟨[(0, .sl false 1 x0), (1, .func (.func 43) [] []), (7, .int .i64 (x0.length : Int)), (8, .int .i64 x8)], []⟩
theorem g58_L3_eq (x0 : List PV) (x8 : Int) : g58_L3 x0 x8 =
 bsel (decide (x8 < (x0.length : Int))) (lgetX x0 x8 fun e1 => vI .i64 e1 fun n2 => G1 43 [.int .i64 n2] fun b3 => bsel b3 (some (.int .i64 x8, [])) (g58_L3 x0 (IntKind.i64.wrap (x8 + 1)))) (some (.int .i64 (-1), [])) := ll
theorem g58_eq (a0 : List PV) : SS.CC 58 [.sl false 1 a0, .func (.func 43) [] []] [] =
 g58_L3 a0 0 := cc
def g58_1i_K0 : KT := SS.rK Tryd.f58 58 0 []
def g58_1i_K1 : KT := SS.jK 58 19 0 (cS Tryd.f58 7) g58_1i_K0
def g58_1i_K2 : KT := blkK 0 g58_1i_K1
def g58_1i_L3 (x0 : List PV) (x8 : Int) : R := SS.LL (SS.ae 58 19) 0 [0, 1, 7, 8] 0 (cS Tryd.f58 37) g58_1i_K2 ⟨[(0, .sl false 1 x0), (1, .func (.func 61) [] []), (7, .int .i64 (x0.length : Int)), (8, .int .i64 x8)], []⟩
theorem g58_1i_L3_eq (x0 : List PV) (x8 : Int) : g58_1i_L3 x0 x8 =
 bsel (decide (x8 < (x0.length : Int))) (lgetX x0 x8 fun e1 => vI .i64 e1 fun n2 => G1 61 [.int .i64 n2] fun b3 => bsel b3 (some (.int .i64 x8, [])) (g58_1i_L3 x0 (IntKind.i64.wrap (x8 + 1)))) (some (.int .i64 (-1), [])) := ll
theorem g58_1i_eq (a0 : List PV) : SS.CC 58 [.sl false 1 a0, .func (.func 61) [] []] [] =
 g58_1i_L3 a0 0 := cc
def g58_2i_K0 : KT := SS.rK Tryd.f58 58 1 [0]
def g58_2i_K1 : KT := SS.jK 58 19 1 (cS Tryd.f58 7) g58_2i_K0
def g58_2i_K2 : KT := blkK 0 g58_2i_K1
def g58_2i_L3 (x0 : Nat) (o0 : List PV) (x8 : Int) : R := SS.LL (SS.ae 58 19) 1 [0, 1, 7, 8] 1 (cS Tryd.f58 37) g58_2i_K2 ⟨[(0, .slh 0 0 x0 1), (1, .func (.func 43) [] []), (7, .int .i64 (x0 : Int)), (8, .int .i64 x8)], [some o0]⟩
theorem g58_2i_L3_eq (x0 : Nat) (o0 : List PV) (x8 : Int) : g58_2i_L3 x0 o0 x8 =
 chk (o0.all flC && true) (bsel (decide (x8 < (x0 : Int))) (chk (o0.all flC && true) (chk (decide (0 ≤ x8) && decide (x8 < (x0 : Int))) (ngetX o0 x8.toNat fun e1 => vI .i64 e1 fun n2 => G1 43 [.int .i64 n2] fun b3 => bsel b3 (chk (o0.all flC && true) (some (.int .i64 x8, [some o0]))) (chk (o0.all flC && true) (g58_2i_L3 x0 o0 (IntKind.i64.wrap (x8 + 1))))))) (chk (o0.all flC && true) (chk (o0.all flC && true) (some (.int .i64 (-1), [some o0]))))) := ll
theorem g58_2i_eq (a0 : Nat) (h0 : List PV) : SS.CC 58 [.slh 0 0 a0 1, .func (.func 43) [] []] [some h0] =
 g58_2i_L3 a0 h0 0 := cc
def g58_3i_K0 : KT := SS.rK Tryd.f58 58 1 [0]
def g58_3i_K1 : KT := SS.jK 58 19 1 (cS Tryd.f58 7) g58_3i_K0
def g58_3i_K2 : KT := blkK 0 g58_3i_K1
def g58_3i_L3 (x0 : Nat) (o0 : List PV) (x8 : Int) : R := SS.LL (SS.ae 58 19) 1 [0, 1, 7, 8] 1 (cS Tryd.f58 37) g58_3i_K2 ⟨[(0, .slh 0 0 x0 1), (1, .func (.func 61) [] []), (7, .int .i64 (x0 : Int)), (8, .int .i64 x8)], [some o0]⟩
theorem g58_3i_L3_eq (x0 : Nat) (o0 : List PV) (x8 : Int) : g58_3i_L3 x0 o0 x8 =
 chk (o0.all flC && true) (bsel (decide (x8 < (x0 : Int))) (chk (o0.all flC && true) (chk (decide (0 ≤ x8) && decide (x8 < (x0 : Int))) (ngetX o0 x8.toNat fun e1 => vI .i64 e1 fun n2 => G1 61 [.int .i64 n2] fun b3 => bsel b3 (chk (o0.all flC && true) (some (.int .i64 x8, [some o0]))) (chk (o0.all flC && true) (g58_3i_L3 x0 o0 (IntKind.i64.wrap (x8 + 1))))))) (chk (o0.all flC && true) (chk (o0.all flC && true) (some (.int .i64 (-1), [some o0]))))) := ll
theorem g58_3i_eq (a0 : Nat) (h0 : List PV) : SS.CC 58 [.slh 0 0 a0 1, .func (.func 61) [] []] [some h0] =
 g58_3i_L3 a0 h0 0 := cc
end
end Go.Proofs.YtkkgfoknknehfaaDoor.W

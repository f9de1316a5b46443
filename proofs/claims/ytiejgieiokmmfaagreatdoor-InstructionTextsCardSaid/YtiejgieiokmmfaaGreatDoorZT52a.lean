/-
  Functions as equations. Printed by a program (wip/tool/dc.py).
-/
import Derived.Test.YtiejgieiokmmfaaGreatDoorZB52
namespace Go.Proofs.YtiejgieiokmmfaaGreatDoor
set_option linter.unusedVariables false
set_option linter.unusedSimpArgs false
set_option linter.unnecessarySimpa false
set_option linter.unusedSectionVars false
open Go.RowKit
set_option maxRecDepth 1000000
/-! overseer/instruction.Start -/
noncomputable def g37_c : Code := bodyOf Tryz.f37
noncomputable def g37_E : AE := SS.ae 37 19
noncomputable def g37_X : XE := SS.xe SS.CC SS.LL g37_E 0
theorem g37_eq (a0 : Int) (a0_1 : Int) (a0_2 : Int) (a0_3 : List PV) (a0_4 : List PV) : SS.CC 37 [.agg [.int .i64 a0, .int .i64 a0_1, .int .i64 a0_2, .sl false 1 a0_3, .sl false 2 a0_4]] [] =
    clX SS.CC 23 [.agg [.int .i64 a0, .int .i64 a0_1, .int .i64 a0_2, .sl false 1 a0_3, .sl false 2 a0_4]] fun r2 => vI .i64 r2 fun n1 => bsel (n1 != 0) (some (.tuple [.agg [.sl false 1 [], .sl false 1 []], .int .i64 n1], [])) (chk (decide (a0_1 = a0_1) && decide (0 ≤ a0_1) && decide (a0_1 ≤ 1073741824)) (chk (decide (0 + a0_3.length ≤ LIM)) (some (.tuple [.agg [.sl false 1 (List.replicate a0_1.toNat (.bool false : PV)), .sl false 1 a0_3], .int .i64 0], [])))) := (CC_run SS_ok rfl).trans (by kernel_rfl)
/-! overseer/instruction.Run -/
noncomputable def g12_c : Code := bodyOf Tryz.f12
noncomputable def g12_E : AE := SS.ae 12 50
noncomputable def g12_X : XE := SS.xe SS.CC SS.LL g12_E 0
noncomputable def g12_K0 : AX → ASt → R := retK SS.P Tryz.f12.results.toList (SS.prm 12).ro 0 []
noncomputable def g12_c1 : Code := Code.sub [true, true, true, true, true] g12_c
noncomputable def g12_K1 : AX → ASt → R := thenK (joinX g12_E 0 g12_c1 (exK g12_X g12_c1 g12_K0)) g12_K0
noncomputable def g12_K2 : AX → ASt → R := blkK 0 g12_K1
noncomputable def g12_c2 : Code := Code.sub [true, true, true, true, false, true, false, false] g12_c
noncomputable def g12_L7 (x2 : Int) (x2_a : Int) (x2_b : Int) (x2_c : List PV) (x2_d : List PV) (x20 : List PV) (o0_0 : List PV) (o0_1 : List PV) (x8 : List PV) (x22 : Int) : R := SS.LL g12_E 0 [2, 6, 8, 20, 21, 22] 1 g12_c2 g12_K2 ⟨[(2, .cst (.agg [.int .i64 x2, .int .i64 x2_a, .int .i64 x2_b, .sl false 1 x2_c, .sl false 2 x2_d])), (6, .ptr 0 0), (8, .sl true 2 x8), (20, .sl false 1 x20), (21, .int .i64 (x20.length : Int)), (22, .int .i64 x22)], [some [.sl false 1 o0_0, .sl false 1 o0_1]]⟩
theorem g12_L7_eq (x2 : Int) (x2_a : Int) (x2_b : Int) (x2_c : List PV) (x2_d : List PV) (x20 : List PV) (o0_0 : List PV) (o0_1 : List PV) (x8 : List PV) (x22 : Int) : g12_L7 x2 x2_a x2_b x2_c x2_d x20 o0_0 o0_1 x8 x22 =
    bsel (decide (x22 < (x20.length : Int))) (lgetX x20 x22 fun e1 => vL false 1 e1 fun l2 => bsel ((l2.length : Int) != x2) (some (.tuple [.sl false 2 [], .int .i64 4], [])) (clX SS.CC 38 [.sl false 1 [.sl false 1 l2, .sl false 1 o0_0, .sl false 1 o0_1]] fun r4 => vL true 1 r4 fun l3 => chk (decide (0 < l3.length) && l3.all plainC) (chk (l3.all plainC && true) (clH SS.CC 39 [.agg [.int .i64 x2, .int .i64 x2_a, .int .i64 x2_b, .sl false 1 x2_c, .sl false 2 x2_d], .slh 0 0 l3.length 1] [some l3] fun r7 h8 => h39_0 r7 h8 fun l5 l6 => chk (l6.all plainC && true) (chk (decide (l3.length * 1 ≤ l6.length) && decide (0 < 1) && l6.all fun p => p.one && p.flat) (clX SS.CC 40 [.agg [.int .i64 x2, .int .i64 x2_a, .int .i64 x2_b, .sl false 1 x2_c, .sl false 2 x2_d], .sl false 1 (chunkP 1 l6 l3.length)] fun r11 => v47 r11 fun l9 l10 => chk (decide (x8.length + 1 ≤ LIM)) (g12_L7 x2 x2_a x2_b x2_c x2_d x20 l9 l10 (x8 ++ [.agg [.sl false 1 l9, .sl false 1 l10]]) (IntKind.i64.wrap (x22 + 1))))))))) (some (.tuple [.sl false 2 x8, .int .i64 0], [])) := (LL_eq SS_ok (by decide) (by kernel_rfl) (by kernel_rfl)).trans (by kernel_rfl)
theorem g12_eq (a0 : Int) (a0_1 : Int) (a0_2 : Int) (a0_3 : List PV) (a0_4 : List PV) (a1 : List PV) : SS.CC 12 [.agg [.int .i64 a0, .int .i64 a0_1, .int .i64 a0_2, .sl false 1 a0_3, .sl false 2 a0_4], .sl false 1 a1] [] =
    clX SS.CC 37 [.agg [.int .i64 a0, .int .i64 a0_1, .int .i64 a0_2, .sl false 1 a0_3, .sl false 2 a0_4]] fun r4 => w_47_3 r4 fun l1 l2 n3 => bsel (n3 != 0) (some (.tuple [.sl false 2 [], .int .i64 n3], [])) (g12_L7 a0 a0_1 a0_2 a0_3 a0_4 a1 l1 l2 [] 0) := (CC_run SS_ok rfl).trans (by kernel_rfl)
/-! overseer/instruction.Steps -/
noncomputable def g15_c : Code := bodyOf Tryz.f15
noncomputable def g15_E : AE := SS.ae 15 23
noncomputable def g15_X : XE := SS.xe SS.CC SS.LL g15_E 0
theorem g15_eq (a0 : Int) (a0_1 : Int) (a0_2 : Int) (a0_3 : List PV) (a0_4 : List PV) (a1 : List PV) (a1_1 : List PV) (a2 : List PV) : SS.CC 15 [.agg [.int .i64 a0, .int .i64 a0_1, .int .i64 a0_2, .sl false 1 a0_3, .sl false 2 a0_4], .agg [.sl false 1 a1, .sl false 1 a1_1], .sl false 1 a2] [] =
    clH SS.CC 41 [.agg [.int .i64 a0, .int .i64 a0_1, .int .i64 a0_2, .sl false 1 a0_3, .sl false 2 a0_4], .agg [.sl false 1 a1, .sl false 1 a1_1], .sl false 1 a2] [] fun r1 h2 => h41_0 r1 h2 (fun k3 n4 l5 => chk (l5.all plainC && true) (bsel (n4 != 0) (some (.tuple [.sl false 1 [], .int .i64 n4], [])) (chk (l5.all flC && true) (chk (l5.all plainC && true) (clH SS.CC 39 [.agg [.int .i64 a0, .int .i64 a0_1, .int .i64 a0_2, .sl false 1 a0_3, .sl false 2 a0_4], .slh 0 0 k3 1] [some l5] fun r8 h9 => h39_0 r8 h9 fun l6 l7 => chk (l7.all plainC && true) (some (.tuple [.sl false 1 l6, .int .i64 0], []))))))) (fun l10 n11 => bsel (n11 != 0) (some (.tuple [.sl false 1 [], .int .i64 n11], [])) (clX SS.CC 39 [.agg [.int .i64 a0, .int .i64 a0_1, .int .i64 a0_2, .sl false 1 a0_3, .sl false 2 a0_4], .sl false 1 l10] fun r13 => vL false 1 r13 fun l12 => some (.tuple [.sl false 1 l12, .int .i64 0], []))) := (CC_run SS_ok rfl).trans (by kernel_rfl)
/-! overseer/overseerlaw52.same -/
noncomputable def g17_c : Code := bodyOf Tryz.f17
noncomputable def g17_E : AE := SS.ae 17 26
noncomputable def g17_X : XE := SS.xe SS.CC SS.LL g17_E 0
noncomputable def g17_K0 : AX → ASt → R := retK SS.P Tryz.f17.results.toList (SS.prm 17).ro 0 []
noncomputable def g17_c1 : Code := Code.sub [true, true, true] g17_c
noncomputable def g17_K1 : AX → ASt → R := thenK (joinX g17_E 0 g17_c1 (exK g17_X g17_c1 g17_K0)) g17_K0
noncomputable def g17_K2 : AX → ASt → R := blkK 0 g17_K1
noncomputable def g17_c2 : Code := Code.sub [true, true, false, true, false, false] g17_c
noncomputable def g17_L5 (x0 : List PV) (x1 : List PV) (x5 : Int) : R := SS.LL g17_E 0 [0, 1, 5] 0 g17_c2 g17_K2 ⟨[(0, .sl false 1 x0), (1, .sl false 1 x1), (5, .int .i64 x5)], []⟩
theorem g17_L5_eq (x0 : List PV) (x1 : List PV) (x5 : Int) : g17_L5 x0 x1 x5 =
    bsel (decide (x5 < (x0.length : Int))) (lgetX x0 x5 fun e1 => vI .i64 e1 fun n2 => lgetX x1 x5 fun e3 => vI .i64 e3 fun n4 => bsel (n2 != n4) (some (.bool false, [])) (g17_L5 x0 x1 (IntKind.i64.wrap (x5 + 1)))) (some (.bool true, [])) := (LL_eq SS_ok (by decide) (by kernel_rfl) (by kernel_rfl)).trans (by kernel_rfl)
theorem g17_eq (a0 : List PV) (a1 : List PV) : SS.CC 17 [.sl false 1 a0, .sl false 1 a1] [] =
    bsel ((a0.length : Int) != (a1.length : Int)) (some (.bool false, [])) (g17_L5 a0 a1 0) := (CC_run SS_ok rfl).trans (by kernel_rfl)
/-! overseer/overseerlaw52.isJump -/
noncomputable def g21_c : Code := bodyOf Tryz.f21
noncomputable def g21_E : AE := SS.ae 21 9
noncomputable def g21_X : XE := SS.xe SS.CC SS.LL g21_E 0
theorem g21_eq (a0 : Int) : SS.CC 21 [.int .i64 a0] [] =
    bsel (decide (11 ≤ a0)) (some (.bool (decide (a0 ≤ 13)), [])) (some (.bool false, [])) := (CC_run SS_ok rfl).trans (by kernel_rfl)
/-! overseer/overseerlaw52.writes -/
noncomputable def g22_c : Code := bodyOf Tryz.f22
noncomputable def g22_E : AE := SS.ae 22 9
noncomputable def g22_X : XE := SS.xe SS.CC SS.LL g22_E 0
theorem g22_eq (a0 : Int) : SS.CC 22 [.int .i64 a0] [] =
    bsel (decide (7 ≤ a0)) (some (.bool (decide (a0 ≤ 10)), [])) (some (.bool false, [])) := (CC_run SS_ok rfl).trans (by kernel_rfl)
/-! overseer/instruction.Check -/
noncomputable def g23_c : Code := bodyOf Tryz.f23
noncomputable def g23_E : AE := SS.ae 23 24
noncomputable def g23_X : XE := SS.xe SS.CC SS.LL g23_E 0
noncomputable def g23_K0 : AX → ASt → R := retK SS.P Tryz.f23.results.toList (SS.prm 23).ro 0 []
noncomputable def g23_c1 : Code := Code.sub [true, true, true] g23_c
noncomputable def g23_K1 : AX → ASt → R := thenK (joinX g23_E 0 g23_c1 (exK g23_X g23_c1 g23_K0)) g23_K0
noncomputable def g23_K2 : AX → ASt → R := blkK 0 g23_K1
noncomputable def g23_c2 : Code := Code.sub [true, true, false, true, false, false] g23_c
noncomputable def g23_L6 (x1 : Int) (x1_a : Int) (x1_b : Int) (x1_c : List PV) (x1_d : List PV) (x14 : Int) : R := SS.LL g23_E 0 [1, 13, 14] 0 g23_c2 g23_K2 ⟨[(1, .cst (.agg [.int .i64 x1, .int .i64 x1_a, .int .i64 x1_b, .sl false 1 x1_c, .sl false 2 x1_d])), (13, .int .i64 (x1_d.length : Int)), (14, .int .i64 x14)], []⟩
theorem g23_L6_eq (x1 : Int) (x1_a : Int) (x1_b : Int) (x1_c : List PV) (x1_d : List PV) (x14 : Int) : g23_L6 x1 x1_a x1_b x1_c x1_d x14 =
    bsel (decide (x14 < (x1_d.length : Int))) (clX SS.CC 44 [.agg [.int .i64 x1, .int .i64 x1_a, .int .i64 x1_b, .sl false 1 x1_c, .sl false 2 x1_d], .int .i64 x14] fun r2 => vI .i64 r2 fun n1 => bsel (n1 != 0) (some (.int .i64 n1, [])) (g23_L6 x1 x1_a x1_b x1_c x1_d (IntKind.i64.wrap (x14 + 1)))) (some (.int .i64 0, [])) := (LL_eq SS_ok (by decide) (by kernel_rfl) (by kernel_rfl)).trans (by kernel_rfl)
theorem g23_eq (a0 : Int) (a0_1 : Int) (a0_2 : Int) (a0_3 : List PV) (a0_4 : List PV) : SS.CC 23 [.agg [.int .i64 a0, .int .i64 a0_1, .int .i64 a0_2, .sl false 1 a0_3, .sl false 2 a0_4]] [] =
    clX SS.CC 43 [.agg [.int .i64 a0, .int .i64 a0_1, .int .i64 a0_2, .sl false 1 a0_3, .sl false 2 a0_4]] fun r2 => vI .i64 r2 fun n1 => bsel (n1 != 0) (some (.int .i64 n1, [])) (g23_L6 a0 a0_1 a0_2 a0_3 a0_4 0) := (CC_run SS_ok rfl).trans (by kernel_rfl)
/-! overseer/overseerlaw52.sameBits -/
noncomputable def g20_c : Code := bodyOf Tryz.f20
noncomputable def g20_E : AE := SS.ae 20 26
noncomputable def g20_X : XE := SS.xe SS.CC SS.LL g20_E 0
noncomputable def g20_K0 : AX → ASt → R := retK SS.P Tryz.f20.results.toList (SS.prm 20).ro 0 []
noncomputable def g20_c1 : Code := Code.sub [true, true, true] g20_c
noncomputable def g20_K1 : AX → ASt → R := thenK (joinX g20_E 0 g20_c1 (exK g20_X g20_c1 g20_K0)) g20_K0
noncomputable def g20_K2 : AX → ASt → R := blkK 0 g20_K1
noncomputable def g20_c2 : Code := Code.sub [true, true, false, true, false, false] g20_c
noncomputable def g20_L5 (x0 : List PV) (x1 : List PV) (x5 : Int) : R := SS.LL g20_E 0 [0, 1, 5] 0 g20_c2 g20_K2 ⟨[(0, .sl false 1 x0), (1, .sl false 1 x1), (5, .int .i64 x5)], []⟩
theorem g20_L5_eq (x0 : List PV) (x1 : List PV) (x5 : Int) : g20_L5 x0 x1 x5 =
    bsel (decide (x5 < (x0.length : Int))) (lgetX x0 x5 fun e1 => vB e1 fun b2 => lgetX x1 x5 fun e3 => vB e3 fun b4 => bsel (!(b2 == b4)) (some (.bool false, [])) (g20_L5 x0 x1 (IntKind.i64.wrap (x5 + 1)))) (some (.bool true, [])) := (LL_eq SS_ok (by decide) (by kernel_rfl) (by kernel_rfl)).trans (by kernel_rfl)
theorem g20_eq (a0 : List PV) (a1 : List PV) : SS.CC 20 [.sl false 1 a0, .sl false 1 a1] [] =
    bsel ((a0.length : Int) != (a1.length : Int)) (some (.bool false, [])) (g20_L5 a0 a1 0) := (CC_run SS_ok rfl).trans (by kernel_rfl)
/-! slices.Concat[[]bool,bool] -/
noncomputable def g38_c : Code := bodyOf Tryz.f38
noncomputable def g38_E : AE := SS.ae 38 36
noncomputable def g38_X : XE := SS.xe SS.CC SS.LL g38_E 0
noncomputable def g38_K0 : AX → ASt → R := retK SS.P Tryz.f38.results.toList (SS.prm 38).ro 0 []
noncomputable def g38_c1 : Code := Code.sub [true, true, true] g38_c
noncomputable def g38_K1 : AX → ASt → R := thenK (joinX g38_E 0 g38_c1 (exK g38_X g38_c1 g38_K0)) g38_K0
noncomputable def g38_K2 : AX → ASt → R := blkK 0 g38_K1
noncomputable def g38_c2 : Code := Code.sub [true, true, false, true, false, false] g38_c
noncomputable def g38_c3 : Code := Code.sub [true, true, true, true, true] g38_c
noncomputable def g38_K3 : AX → ASt → R := thenK (joinX g38_E 0 g38_c3 (exK g38_X g38_c3 g38_K0)) g38_K0
noncomputable def g38_K4 : AX → ASt → R := blkK 2 g38_K3
noncomputable def g38_c4 : Code := Code.sub [true, true, true, true, false, true, false, false] g38_c
noncomputable def g38_L4 (x0 : List PV) (x3 : Int) (x11 : Int) : R := SS.LL g38_E 0 [0, 3, 9, 10, 11] 0 g38_c2 g38_K2 ⟨[(0, .sl false 1 x0), (3, .int .i64 x3), (9, .sl false 1 x0), (10, .int .i64 (x0.length : Int)), (11, .int .i64 x11)], []⟩
noncomputable def g38_L12 (x6 : List PV) (x25 : List PV) (x27 : Int) : R := SS.LL g38_E 0 [6, 25, 26, 27] 0 g38_c4 g38_K4 ⟨[(6, .sl true 1 x6), (25, .sl false 1 x25), (26, .int .i64 (x25.length : Int)), (27, .int .i64 x27)], []⟩
theorem g38_L4_eq (x0 : List PV) (x3 : Int) (x11 : Int) : g38_L4 x0 x3 x11 =
    bsel (decide (x11 < (x0.length : Int))) (lgetX x0 x11 fun e1 => vL false 1 e1 fun l2 => bsel (decide ((IntKind.i64.wrap (x3 + (l2.length : Int))) < 0)) (none) (g38_L4 x0 (IntKind.i64.wrap (x3 + (l2.length : Int))) (IntKind.i64.wrap (x11 + 1)))) (clX SS.CC 66 [.sl false 0 [], .int .i64 x3] fun r4 => vL true 1 r4 fun l3 => g38_L12 l3 x0 0) := (LL_eq SS_ok (by decide) (by kernel_rfl) (by kernel_rfl)).trans (by kernel_rfl)
theorem g38_L12_eq (x6 : List PV) (x25 : List PV) (x27 : Int) : g38_L12 x6 x25 x27 =
    bsel (decide (x27 < (x25.length : Int))) (lgetX x25 x27 fun e1 => vL false 1 e1 fun l2 => chk (decide (x6.length + l2.length ≤ LIM)) (g38_L12 (x6 ++ l2) x25 (IntKind.i64.wrap (x27 + 1)))) (some (.sl true 1 x6, [])) := (LL_eq SS_ok (by decide) (by kernel_rfl) (by kernel_rfl)).trans (by kernel_rfl)
theorem g38_eq (a0 : List PV) : SS.CC 38 [.sl false 1 a0] [] =
    g38_L4 a0 0 0 := (CC_run SS_ok rfl).trans (by kernel_rfl)
/-! overseer/instruction.scan -/
noncomputable def g39_c : Code := bodyOf Tryz.f39
noncomputable def g39_E : AE := SS.ae 39 72
noncomputable def g39_X : XE := SS.xe SS.CC SS.LL g39_E 1
noncomputable def g39_K0 : AX → ASt → R := retK SS.P Tryz.f39.results.toList (SS.prm 39).ro 1 [0]
noncomputable def g39_c1 : Code := Code.sub [true, true, true, true, true] g39_c
noncomputable def g39_K1 : AX → ASt → R := thenK (joinX g39_E 1 g39_c1 (exK g39_X g39_c1 g39_K0)) g39_K0
noncomputable def g39_K2 : AX → ASt → R := blkK 0 g39_K1
noncomputable def g39_c2 : Code := Code.sub [true, true, true, true, false, true, false, false] g39_c
noncomputable def g39_L6 (x1 : Nat) (x2 : Int) (x2_a : Int) (x2_b : Int) (x2_c : List PV) (x2_d : List PV) (x5 : List PV) (o0 : List PV) (x6 : List PV) (x7 : Bool) (x8 : Int) : R := SS.LL g39_E 1 [1, 2, 5, 6, 7, 8] 1 g39_c2 g39_K2 ⟨[(1, .slh 0 0 x1 1), (2, .cst (.agg [.int .i64 x2, .int .i64 x2_a, .int .i64 x2_b, .sl false 1 x2_c, .sl false 2 x2_d])), (5, .sl false 5 x5), (6, .sl true 1 x6), (7, .bool x7), (8, .int .i64 x8)], [some o0]⟩
theorem g39_L6_eq (x1 : Nat) (x2 : Int) (x2_a : Int) (x2_b : Int) (x2_c : List PV) (x2_d : List PV) (x5 : List PV) (o0 : List PV) (x6 : List PV) (x7 : Bool) (x8 : Int) : g39_L6 x1 x2 x2_a x2_b x2_c x2_d x5 o0 x6 x7 x8 =
    chk (o0.all flC && true) (bsel (decide (x8 < (x2_d.length : Int))) (chk (o0.all flC && true) (chk (decide (x6.length + 1 ≤ LIM)) (lgetX x2_d x8 fun e1 => v42 e1 fun n2 n3 => lgetX x5 (IntKind.i64.wrap (n2 - 1)) fun e4 => v66 e4 fun n5 s6 p7 p8 p9 => chk ([.int .i64 n5, .str s6, p7, p8, p9].all PV.one) (fnX (PV.un (PV.un (PV.un p7))) fun b10 => bsel (b10 == false) (chk (decide (0 ≤ n3) && decide (n3 < (x1 : Int))) (ngetX o0 n3.toNat fun e11 => vB e11 fun b12 => fvX (PV.un (PV.un (PV.un p7))) fun g13 f14 c15 => chk (PV.flats (f14 ++ [.bool x7, .bool b12] ++ c15)) (clX SS.CC g13 (f14 ++ [.bool x7, .bool b12] ++ c15) fun r16 => vB r16 fun b17 => g39_L6 x1 x2 x2_a x2_b x2_c x2_d x5 o0 (x6 ++ [.int .i64 x8]) b17 (IntKind.i64.wrap (x8 + 1))))) (fnX (PV.un (PV.un (PV.un p8))) fun b18 => bsel (b18 == false) (chk (decide (0 ≤ n3) && decide (n3 < (x1 : Int))) (ngetX o0 n3.toNat fun e19 => vB e19 fun b20 => fvX (PV.un (PV.un (PV.un p8))) fun g21 f22 c23 => chk (PV.flats (f22 ++ [.bool x7, .bool b20] ++ c23)) (clX SS.CC g21 (f22 ++ [.bool x7, .bool b20] ++ c23) fun r24 => vB r24 fun b25 => chk (decide (0 ≤ n3) && decide (n3 < (x1 : Int))) (chk (decide (n3.toNat < o0.length)) (g39_L6 x1 x2 x2_a x2_b x2_c x2_d x5 (o0.set n3.toNat (.bool b25)) (x6 ++ [.int .i64 x8]) x7 (IntKind.i64.wrap (x8 + 1))))))) (fvX (PV.un (PV.un (PV.un p9))) fun g26 f27 c28 => chk (PV.flats (f27 ++ [.bool x7] ++ c28)) (clX SS.CC g26 (f27 ++ [.bool x7] ++ c28) fun r29 => vB r29 fun b30 => bsel b30 (g39_L6 x1 x2 x2_a x2_b x2_c x2_d x5 o0 (x6 ++ [.int .i64 x8]) x7 n3) (g39_L6 x1 x2 x2_a x2_b x2_c x2_d x5 o0 (x6 ++ [.int .i64 x8]) x7 (IntKind.i64.wrap (x8 + 1)))))))))) (chk (o0.all flC && true) (chk (o0.all flC && true) (some (.sl false 1 x6, [some o0]))))) := (LL_eq SS_ok (by decide) (by kernel_rfl) (by kernel_rfl)).trans (by kernel_rfl)
theorem g39_eq (a0 : Int) (a0_1 : Int) (a0_2 : Int) (a0_3 : List PV) (a0_4 : List PV) (a1 : Nat) (h0 : List PV) : SS.CC 39 [.agg [.int .i64 a0, .int .i64 a0_1, .int .i64 a0_2, .sl false 1 a0_3, .sl false 2 a0_4], .slh 0 0 a1 1] [some h0] =
    clX SS.CC 26 [] fun r2 => vL false 5 r2 fun l1 => g39_L6 a1 a0 a0_1 a0_2 a0_3 a0_4 l1 h0 [] false 0 := (CC_run SS_ok rfl).trans (by kernel_rfl)
/-! overseer/instruction.state -/
noncomputable def g40_c : Code := bodyOf Tryz.f40
noncomputable def g40_E : AE := SS.ae 40 25
noncomputable def g40_X : XE := SS.xe SS.CC SS.LL g40_E 0
theorem g40_eq (a0 : Int) (a0_1 : Int) (a0_2 : Int) (a0_3 : List PV) (a0_4 : List PV) (a1 : List PV) : SS.CC 40 [.agg [.int .i64 a0, .int .i64 a0_1, .int .i64 a0_2, .sl false 1 a0_3, .sl false 2 a0_4], .sl false 1 a1] [] =
    chk (decide (0 ≤ a0) && decide (a0 ≤ (IntKind.i64.wrap (a0 + a0_1))) && decide ((IntKind.i64.wrap (a0 + a0_1)) ≤ (IntKind.i64.wrap (a0 + a0_1))) && decide ((IntKind.i64.wrap (a0 + a0_1)) ≤ (a1.length : Int))) (chk (decide (0 ≤ (IntKind.i64.wrap (a0 + a0_1))) && decide ((IntKind.i64.wrap (a0 + a0_1)) ≤ (a1.length : Int)) && decide ((a1.length : Int) ≤ (a1.length : Int)) && decide ((a1.length : Int) ≤ (a1.length : Int))) (some (.agg [.sl false 1 ((a1.take (IntKind.i64.wrap (a0 + a0_1)).toNat).drop a0.toNat), .sl false 1 ((a1.take (a1.length : Int).toNat).drop (IntKind.i64.wrap (a0 + a0_1)).toNat)], []))) := (CC_run SS_ok rfl).trans (by kernel_rfl)
/-! overseer/instruction.begin -/
noncomputable def g41_c : Code := bodyOf Tryz.f41
noncomputable def g41_E : AE := SS.ae 41 42
noncomputable def g41_X : XE := SS.xe SS.CC SS.LL g41_E 0
theorem g41_eq (a0 : Int) (a0_1 : Int) (a0_2 : Int) (a0_3 : List PV) (a0_4 : List PV) (a1 : List PV) (a1_1 : List PV) (a2 : List PV) : SS.CC 41 [.agg [.int .i64 a0, .int .i64 a0_1, .int .i64 a0_2, .sl false 1 a0_3, .sl false 2 a0_4], .agg [.sl false 1 a1, .sl false 1 a1_1], .sl false 1 a2] [] =
    clX SS.CC 23 [.agg [.int .i64 a0, .int .i64 a0_1, .int .i64 a0_2, .sl false 1 a0_3, .sl false 2 a0_4]] fun r2 => vI .i64 r2 fun n1 => bsel (n1 != 0) (some (.tuple [.sl false 1 [], .int .i64 n1], [])) (bsel ((a2.length : Int) != a0) (some (.tuple [.sl false 1 [], .int .i64 4], [])) (bsel ((a1.length : Int) != a0_1) (some (.tuple [.sl false 1 [], .int .i64 4], [])) (bsel ((a1_1.length : Int) != a0_2) (some (.tuple [.sl false 1 [], .int .i64 4], [])) (clX SS.CC 38 [.sl false 1 [.sl false 1 a2, .sl false 1 a1, .sl false 1 a1_1]] fun r4 => vL true 1 r4 fun l3 => chk (decide (0 < l3.length) && l3.all plainC) (chk (l3.all flC && true) (some (.tuple [.slh 0 0 l3.length 1, .int .i64 0], [some l3]))))))) := (CC_run SS_ok rfl).trans (by kernel_rfl)
/-! overseer/instruction.operations -/
noncomputable def g26_c : Code := bodyOf Tryz.f26
noncomputable def g26_E : AE := SS.ae 26 15
noncomputable def g26_X : XE := SS.xe SS.CC SS.LL g26_E 0
theorem g26_eq : SS.CC 26 [] [] =
    some (.sl false 5 [.agg [.int .i64 1, .str ⟨#[76, 68]⟩, .func (.func 49) [] [], .raw .nilFunc, .raw .nilFunc], .agg [.int .i64 2, .str ⟨#[76, 68, 78]⟩, .func (.func 50) [] [], .raw .nilFunc, .raw .nilFunc], .agg [.int .i64 3, .str ⟨#[65, 78, 68]⟩, .func (.func 51) [] [], .raw .nilFunc, .raw .nilFunc], .agg [.int .i64 4, .str ⟨#[65, 78, 68, 78]⟩, .func (.func 52) [] [], .raw .nilFunc, .raw .nilFunc], .agg [.int .i64 5, .str ⟨#[79, 82]⟩, .func (.func 53) [] [], .raw .nilFunc, .raw .nilFunc], .agg [.int .i64 6, .str ⟨#[79, 82, 78]⟩, .func (.func 54) [] [], .raw .nilFunc, .raw .nilFunc], .agg [.int .i64 7, .str ⟨#[83, 84]⟩, .raw .nilFunc, .func (.func 55) [] [], .raw .nilFunc], .agg [.int .i64 8, .str ⟨#[83, 84, 78]⟩, .raw .nilFunc, .func (.func 56) [] [], .raw .nilFunc], .agg [.int .i64 9, .str ⟨#[83]⟩, .raw .nilFunc, .func (.func 57) [] [], .raw .nilFunc], .agg [.int .i64 10, .str ⟨#[82]⟩, .raw .nilFunc, .func (.func 58) [] [], .raw .nilFunc], .agg [.int .i64 11, .str ⟨#[74, 77, 80]⟩, .raw .nilFunc, .raw .nilFunc, .func (.func 59) [] []], .agg [.int .i64 12, .str ⟨#[74, 77, 80, 67]⟩, .raw .nilFunc, .raw .nilFunc, .func (.func 60) [] []], .agg [.int .i64 13, .str ⟨#[74, 77, 80, 67, 78]⟩, .raw .nilFunc, .raw .nilFunc, .func (.func 61) [] []]], []) := (CC_run SS_ok rfl).trans (by kernel_rfl)
/-! overseer/instruction.checkHead -/
noncomputable def g43_c : Code := bodyOf Tryz.f43
noncomputable def g43_E : AE := SS.ae 43 34
noncomputable def g43_X : XE := SS.xe SS.CC SS.LL g43_E 0
noncomputable def g43_K0 : AX → ASt → R := retK SS.P Tryz.f43.results.toList (SS.prm 43).ro 0 []
noncomputable def g43_c1 : Code := Code.sub [true, true] g43_c
noncomputable def g43_K1 : AX → ASt → R := thenK (joinX g43_E 0 g43_c1 (exK g43_X g43_c1 g43_K0)) g43_K0
noncomputable def g43_K2 : AX → ASt → R := blkK 0 g43_K1
noncomputable def g43_c2 : Code := Code.sub [true, false, true, false, false] g43_c
noncomputable def g43_L3 (x1 : Int) (x1_a : Int) (x1_b : Int) (x1_c : List PV) (x1_d : List PV) (x12 : Int) : R := SS.LL g43_E 0 [1, 11, 12] 0 g43_c2 g43_K2 ⟨[(1, .cst (.agg [.int .i64 x1, .int .i64 x1_a, .int .i64 x1_b, .sl false 1 x1_c, .sl false 2 x1_d])), (11, .agg [.int .i64 x1, .int .i64 x1_a, .int .i64 x1_b]), (12, .int .i64 x12)], []⟩
theorem g43_L3_eq (x1 : Int) (x1_a : Int) (x1_b : Int) (x1_c : List PV) (x1_d : List PV) (x12 : Int) : g43_L3 x1 x1_a x1_b x1_c x1_d x12 =
    bsel (decide (x12 < 3)) (chk (decide (0 ≤ x12) && decide (x12 < (3 : Int))) (bsel (x12 == 0) (bsel (decide (x1 < 0)) (some (.int .i64 2, [])) (bsel (decide (256 < x1)) (some (.int .i64 2, [])) (g43_L3 x1 x1_a x1_b x1_c x1_d (IntKind.i64.wrap (x12 + 1))))) (bsel (x12 == 1) (bsel (decide (x1_a < 0)) (some (.int .i64 2, [])) (bsel (decide (256 < x1_a)) (some (.int .i64 2, [])) (g43_L3 x1 x1_a x1_b x1_c x1_d (IntKind.i64.wrap (x12 + 1))))) (bsel (x12 == 2) (bsel (decide (x1_b < 0)) (some (.int .i64 2, [])) (bsel (decide (256 < x1_b)) (some (.int .i64 2, [])) (g43_L3 x1 x1_a x1_b x1_c x1_d (IntKind.i64.wrap (x12 + 1))))) (none))))) (bsel ((x1_c.length : Int) != x1_b) (some (.int .i64 4, [])) (bsel (decide (2048 < (x1_d.length : Int))) (some (.int .i64 3, [])) (some (.int .i64 0, [])))) := (LL_eq SS_ok (by decide) (by kernel_rfl) (by kernel_rfl)).trans (by kernel_rfl)
theorem g43_eq (a0 : Int) (a0_1 : Int) (a0_2 : Int) (a0_3 : List PV) (a0_4 : List PV) : SS.CC 43 [.agg [.int .i64 a0, .int .i64 a0_1, .int .i64 a0_2, .sl false 1 a0_3, .sl false 2 a0_4]] [] =
    g43_L3 a0 a0_1 a0_2 a0_3 a0_4 0 := (CC_run SS_ok rfl).trans (by kernel_rfl)
/-! overseer/instruction.checkInstruction -/
noncomputable def g44_c : Code := bodyOf Tryz.f44
noncomputable def g44_E : AE := SS.ae 44 65
noncomputable def g44_X : XE := SS.xe SS.CC SS.LL g44_E 0
theorem g44_eq (a0 : Int) (a0_1 : Int) (a0_2 : Int) (a0_3 : List PV) (a0_4 : List PV) (a1 : Int) : SS.CC 44 [.agg [.int .i64 a0, .int .i64 a0_1, .int .i64 a0_2, .sl false 1 a0_3, .sl false 2 a0_4], .int .i64 a1] [] =
    lgetX a0_4 a1 fun e1 => v42 e1 fun n2 n3 => clX SS.CC 26 [] fun r5 => vL false 5 r5 fun l4 => bsel (decide (n2 < 1)) (some (.int .i64 11, [])) (bsel (decide ((l4.length : Int) < n2)) (some (.int .i64 11, [])) (lgetX l4 (IntKind.i64.wrap (n2 - 1)) fun e6 => v66 e6 fun n7 s8 p9 p10 p11 => chk ([.int .i64 n7, .str s8, p9, p10, p11].all PV.one) (fnX (PV.un (PV.un (PV.un p11))) fun b12 => bsel (b12 == false) (bsel (decide (n3 ≤ a1)) (some (.int .i64 2, [])) (bsel (decide ((a0_4.length : Int) < n3)) (some (.int .i64 2, [])) (some (.int .i64 0, [])))) (chk ([.int .i64 n7, .str s8, (PV.un p9), (PV.un p10), (PV.un p11)].all flC && true) (bsel (decide (n3 < 0)) (some (.int .i64 2, [])) (clX SS.CC 67 [.agg [.int .i64 a0, .int .i64 a0_1, .int .i64 a0_2, .sl false 1 a0_3, .sl false 2 a0_4]] fun r14 => vI .i64 r14 fun n13 => bsel (decide (n13 ≤ n3)) (some (.int .i64 2, [])) (chk ([.int .i64 n7, .str s8, (PV.un p9), (PV.un p10), (PV.un p11)].all flC && true) (fnX (PV.un (PV.un (PV.un p10))) fun b15 => bsel (b15 == false) (bsel (decide (n3 < a0)) (some (.int .i64 19, [])) (some (.int .i64 0, []))) (some (.int .i64 0, [])))))))))) := (CC_run SS_ok rfl).trans (by kernel_rfl)
/-! overseer/instruction.width -/
noncomputable def g67_c : Code := bodyOf Tryz.f67
noncomputable def g67_E : AE := SS.ae 67 11
noncomputable def g67_X : XE := SS.xe SS.CC SS.LL g67_E 0
theorem g67_eq (a0 : Int) (a0_1 : Int) (a0_2 : Int) (a0_3 : List PV) (a0_4 : List PV) : SS.CC 67 [.agg [.int .i64 a0, .int .i64 a0_1, .int .i64 a0_2, .sl false 1 a0_3, .sl false 2 a0_4]] [] =
    some (.int .i64 (IntKind.i64.wrap ((IntKind.i64.wrap (a0 + a0_1)) + a0_2)), []) := (CC_run SS_ok rfl).trans (by kernel_rfl)
end Go.Proofs.YtiejgieiokmmfaaGreatDoor

/-
  Functions as equations. Printed by a program (wip/tool/dc.py).
-/
import Derived.Test.YtiejgieiokmmfaaGreatDoorZB52
namespace Go.Proofs.YtiejgieiokmmfaaGreatDoor
set_option linter.unusedVariables false
set_option linter.unusedSimpArgs false
set_option linter.unnecessarySimpa false
set_option linter.unusedSectionVars false
open Go.RowKit
set_option maxRecDepth 1000000
/-! overseer/overseerlaw52.InstructionTexts -/
noncomputable def g3_c : Code := bodyOf Tryz.f3
noncomputable def g3_E : AE := SS.ae 3 71
noncomputable def g3_X : XE := SS.xe SS.CC SS.LL g3_E 0
theorem g3_eq (a0 : Int) (a0_1 : Int) (a0_2 : Int) (a0_3 : List PV) (a0_4 : List PV) (a1 : Int) (a1_1 : Int) (a1_2 : Int) (a1_3 : List PV) (a1_4 : List PV) : SS.CC 3 [.agg [.int .i64 a0, .int .i64 a0_1, .int .i64 a0_2, .sl false 1 a0_3, .sl false 2 a0_4], .agg [.int .i64 a1, .int .i64 a1_1, .int .i64 a1_2, .sl false 1 a1_3, .sl false 2 a1_4]] [] =
    clX SS.CC 4 [] fun r2 => vB r2 fun b1 => bsel (!b1) (clX SS.CC 4 [] fun r4 => vB r4 fun b3 => some (.bool b3, [])) (clX SS.CC 5 [.agg [.int .i64 a0, .int .i64 a0_1, .int .i64 a0_2, .sl false 1 a0_3, .sl false 2 a0_4]] fun r6 => vB r6 fun b5 => bsel (!b5) (clX SS.CC 4 [] fun r8 => vB r8 fun b7 => some (.bool b7, [])) (clX SS.CC 5 [.agg [.int .i64 a1, .int .i64 a1_1, .int .i64 a1_2, .sl false 1 a1_3, .sl false 2 a1_4]] fun r10 => vB r10 fun b9 => bsel (!b9) (clX SS.CC 4 [] fun r12 => vB r12 fun b11 => some (.bool b11, [])) (clX SS.CC 6 [.agg [.int .i64 a0, .int .i64 a0_1, .int .i64 a0_2, .sl false 1 a0_3, .sl false 2 a0_4], .agg [.int .i64 a1, .int .i64 a1_1, .int .i64 a1_2, .sl false 1 a1_3, .sl false 2 a1_4]] fun r14 => vB r14 fun b13 => clX SS.CC 7 [.agg [.int .i64 a0, .int .i64 a0_1, .int .i64 a0_2, .sl false 1 a0_3, .sl false 2 a0_4], .agg [.int .i64 a1, .int .i64 a1_1, .int .i64 a1_2, .sl false 1 a1_3, .sl false 2 a1_4]] fun r16 => vB r16 fun b15 => bsel (!(b13 == b15)) (some (.bool false, [])) (clX SS.CC 6 [.agg [.int .i64 a0, .int .i64 a0_1, .int .i64 a0_2, .sl false 1 a0_3, .sl false 2 a0_4], .agg [.int .i64 a0, .int .i64 a0_1, .int .i64 a0_2, .sl false 1 a0_3, .sl false 2 a0_4]] fun r18 => vB r18 fun b17 => bsel (!b17) (some (.bool false, [])) (clX SS.CC 8 [.agg [.int .i64 a0, .int .i64 a0_1, .int .i64 a0_2, .sl false 1 a0_3, .sl false 2 a0_4]] fun r20 => vI .i64 r20 fun n19 => bsel (n19 != 0) (some (.bool true, [])) (clX SS.CC 9 [.agg [.int .i64 a0, .int .i64 a0_1, .int .i64 a0_2, .sl false 1 a0_3, .sl false 2 a0_4]] fun r23 => w_9_3 r23 fun s21 n22 => clX SS.CC 10 [.str s21] fun r31 => w_24_3_3 r31 fun n24 n25 n26 l27 l28 n29 n30 => bsel (n22 == 0) (clX SS.CC 11 [.agg [.int .i64 a0, .int .i64 a0_1, .int .i64 a0_2, .sl false 1 a0_3, .sl false 2 a0_4]] fun r33 => vS r33 fun s32 => bsel (s21.toList == s32.toList) (bsel (n30 == 0) (bsel (n29 == 0) (clX SS.CC 7 [.agg [.int .i64 n24, .int .i64 n25, .int .i64 n26, .sl false 1 l27, .sl false 2 l28], .agg [.int .i64 a0, .int .i64 a0_1, .int .i64 a0_2, .sl false 1 a0_3, .sl false 2 a0_4]] fun r35 => vB r35 fun b34 => some (.bool b34, [])) (some (.bool false, []))) (some (.bool false, []))) (some (.bool false, []))) (some (.bool false, [])))))))) := (CC_run SS_ok rfl).trans (by kernel_rfl)
/-! overseer/overseerlaw52.few -/
noncomputable def g5_c : Code := bodyOf Tryz.f5
noncomputable def g5_E : AE := SS.ae 5 13
noncomputable def g5_X : XE := SS.xe SS.CC SS.LL g5_E 0
theorem g5_eq (a0 : Int) (a0_1 : Int) (a0_2 : Int) (a0_3 : List PV) (a0_4 : List PV) : SS.CC 5 [.agg [.int .i64 a0, .int .i64 a0_1, .int .i64 a0_2, .sl false 1 a0_3, .sl false 2 a0_4]] [] =
    bsel (decide ((a0_4.length : Int) ≤ 14)) (some (.bool (decide ((a0_3.length : Int) ≤ 20)), [])) (some (.bool false, [])) := (CC_run SS_ok rfl).trans (by kernel_rfl)
/-! overseer/instruction.Equal -/
noncomputable def g6_c : Code := bodyOf Tryz.f6
noncomputable def g6_E : AE := SS.ae 6 38
noncomputable def g6_X : XE := SS.xe SS.CC SS.LL g6_E 0
theorem g6_eq (a0 : Int) (a0_1 : Int) (a0_2 : Int) (a0_3 : List PV) (a0_4 : List PV) (a1 : Int) (a1_1 : Int) (a1_2 : Int) (a1_3 : List PV) (a1_4 : List PV) : SS.CC 6 [.agg [.int .i64 a0, .int .i64 a0_1, .int .i64 a0_2, .sl false 1 a0_3, .sl false 2 a0_4], .agg [.int .i64 a1, .int .i64 a1_1, .int .i64 a1_2, .sl false 1 a1_3, .sl false 2 a1_4]] [] =
    bsel (a0 == a1) (bsel (a0_1 == a1_1) (bsel (a0_2 == a1_2) (clX SS.CC 18 [.sl false 1 a0_3, .sl false 1 a1_3] fun r2 => vB r2 fun b1 => bsel b1 (clX SS.CC 19 [.sl false 2 a0_4, .sl false 2 a1_4] fun r4 => vB r4 fun b3 => some (.bool b3, [])) (some (.bool false, []))) (some (.bool false, []))) (some (.bool false, []))) (some (.bool false, [])) := (CC_run SS_ok rfl).trans (by kernel_rfl)
/-! overseer/overseerlaw52.equal -/
noncomputable def g7_c : Code := bodyOf Tryz.f7
noncomputable def g7_E : AE := SS.ae 7 60
noncomputable def g7_X : XE := SS.xe SS.CC SS.LL g7_E 0
noncomputable def g7_K0 : AX → ASt → R := retK SS.P Tryz.f7.results.toList (SS.prm 7).ro 0 []
noncomputable def g7_c1 : Code := Code.sub [true, true, true] g7_c
noncomputable def g7_K1 : AX → ASt → R := thenK (joinX g7_E 0 g7_c1 (exK g7_X g7_c1 g7_K0)) g7_K0
noncomputable def g7_K2 : AX → ASt → R := blkK 0 g7_K1
noncomputable def g7_c2 : Code := Code.sub [true, true, false, true, false, false] g7_c
noncomputable def g7_L5 (x2 : Int) (x2_a : Int) (x2_b : Int) (x2_c : List PV) (x2_d : List PV) (x3 : Int) (x3_a : Int) (x3_b : Int) (x3_c : List PV) (x3_d : List PV) (x5 : Int) : R := SS.LL g7_E 0 [2, 3, 5] 0 g7_c2 g7_K2 ⟨[(2, .cst (.agg [.int .i64 x2, .int .i64 x2_a, .int .i64 x2_b, .sl false 1 x2_c, .sl false 2 x2_d])), (3, .cst (.agg [.int .i64 x3, .int .i64 x3_a, .int .i64 x3_b, .sl false 1 x3_c, .sl false 2 x3_d])), (5, .int .i64 x5)], []⟩
theorem g7_L5_eq (x2 : Int) (x2_a : Int) (x2_b : Int) (x2_c : List PV) (x2_d : List PV) (x3 : Int) (x3_a : Int) (x3_b : Int) (x3_c : List PV) (x3_d : List PV) (x5 : Int) : g7_L5 x2 x2_a x2_b x2_c x2_d x3 x3_a x3_b x3_c x3_d x5 =
    bsel (decide (x5 < (x2_d.length : Int))) (lgetX x2_d x5 fun e1 => v42 e1 fun n2 n3 => lgetX x3_d x5 fun e4 => v42 e4 fun n5 n6 => bsel (!((n2 == n5) && ((n3 == n6) && true))) (some (.bool false, [])) (g7_L5 x2 x2_a x2_b x2_c x2_d x3 x3_a x3_b x3_c x3_d (IntKind.i64.wrap (x5 + 1)))) (some (.bool true, [])) := (LL_eq SS_ok (by decide) (by kernel_rfl) (by kernel_rfl)).trans (by kernel_rfl)
theorem g7_eq (a0 : Int) (a0_1 : Int) (a0_2 : Int) (a0_3 : List PV) (a0_4 : List PV) (a1 : Int) (a1_1 : Int) (a1_2 : Int) (a1_3 : List PV) (a1_4 : List PV) : SS.CC 7 [.agg [.int .i64 a0, .int .i64 a0_1, .int .i64 a0_2, .sl false 1 a0_3, .sl false 2 a0_4], .agg [.int .i64 a1, .int .i64 a1_1, .int .i64 a1_2, .sl false 1 a1_3, .sl false 2 a1_4]] [] =
    bsel (a0 != a1) (some (.bool false, [])) (bsel (a0_1 != a1_1) (some (.bool false, [])) (bsel (a0_2 != a1_2) (some (.bool false, [])) (clX SS.CC 20 [.sl false 1 a0_3, .sl false 1 a1_3] fun r2 => vB r2 fun b1 => bsel (!b1) (some (.bool false, [])) (bsel ((a0_4.length : Int) != (a1_4.length : Int)) (some (.bool false, [])) (g7_L5 a0 a0_1 a0_2 a0_3 a0_4 a1 a1_1 a1_2 a1_3 a1_4 0))))) := (CC_run SS_ok rfl).trans (by kernel_rfl)
/-! overseer/overseerlaw52.check -/
noncomputable def g8_c : Code := bodyOf Tryz.f8
noncomputable def g8_E : AE := SS.ae 8 113
noncomputable def g8_X : XE := SS.xe SS.CC SS.LL g8_E 0
noncomputable def g8_K0 : AX → ASt → R := retK SS.P Tryz.f8.results.toList (SS.prm 8).ro 0 []
noncomputable def g8_c1 : Code := Code.sub [true, true, true] g8_c
noncomputable def g8_K1 : AX → ASt → R := thenK (joinX g8_E 0 g8_c1 (exK g8_X g8_c1 g8_K0)) g8_K0
noncomputable def g8_K2 : AX → ASt → R := blkK 0 g8_K1
noncomputable def g8_c2 : Code := Code.sub [true, true, false, true, false, false] g8_c
noncomputable def g8_c3 : Code := Code.sub [true, true, true, true, true, true] g8_c
noncomputable def g8_K3 : AX → ASt → R := thenK (joinX g8_E 0 g8_c3 (exK g8_X g8_c3 g8_K0)) g8_K0
noncomputable def g8_K4 : AX → ASt → R := blkK 2 g8_K3
noncomputable def g8_c4 : Code := Code.sub [true, true, true, true, true, false, true, false, false] g8_c
noncomputable def g8_L4 (x1 : Int) (x1_a : Int) (x1_b : Int) (x1_c : List PV) (x1_d : List PV) (x4 : Int) : R := SS.LL g8_E 0 [1, 3, 4] 0 g8_c2 g8_K2 ⟨[(1, .cst (.agg [.int .i64 x1, .int .i64 x1_a, .int .i64 x1_b, .sl false 1 x1_c, .sl false 2 x1_d])), (3, .sl true 1 [.int .i64 x1, .int .i64 x1_a, .int .i64 x1_b]), (4, .int .i64 x4)], []⟩
noncomputable def g8_L13 (x1 : Int) (x1_a : Int) (x1_b : Int) (x1_c : List PV) (x1_d : List PV) (x5 : Int) : R := SS.LL g8_E 0 [1, 5] 0 g8_c4 g8_K4 ⟨[(1, .cst (.agg [.int .i64 x1, .int .i64 x1_a, .int .i64 x1_b, .sl false 1 x1_c, .sl false 2 x1_d])), (5, .int .i64 x5)], []⟩
theorem g8_L4_eq (x1 : Int) (x1_a : Int) (x1_b : Int) (x1_c : List PV) (x1_d : List PV) (x4 : Int) : g8_L4 x1 x1_a x1_b x1_c x1_d x4 =
    bsel (decide (x4 < 3)) (lgetX [.int .i64 x1, .int .i64 x1_a, .int .i64 x1_b] x4 fun e1 => vI .i64 e1 fun n2 => bsel (decide (n2 < 0)) (some (.int .i64 2, [])) (lgetX [.int .i64 x1, .int .i64 x1_a, .int .i64 x1_b] x4 fun e3 => vI .i64 e3 fun n4 => bsel (decide (256 < n4)) (some (.int .i64 2, [])) (g8_L4 x1 x1_a x1_b x1_c x1_d (IntKind.i64.wrap (x4 + 1))))) (bsel ((x1_c.length : Int) != x1_b) (some (.int .i64 4, [])) (bsel (decide (2048 < (x1_d.length : Int))) (some (.int .i64 3, [])) (g8_L13 x1 x1_a x1_b x1_c x1_d 0))) := (LL_eq SS_ok (by decide) (by kernel_rfl) (by kernel_rfl)).trans (by kernel_rfl)
theorem g8_L13_eq (x1 : Int) (x1_a : Int) (x1_b : Int) (x1_c : List PV) (x1_d : List PV) (x5 : Int) : g8_L13 x1 x1_a x1_b x1_c x1_d x5 =
    bsel (decide (x5 < (x1_d.length : Int))) (lgetX x1_d x5 fun e1 => v42 e1 fun n2 n3 => bsel (decide (n2 < 1)) (some (.int .i64 11, [])) (bsel (decide (13 < n2)) (some (.int .i64 11, [])) (clX SS.CC 21 [.int .i64 n2] fun r5 => vB r5 fun b4 => bsel b4 (bsel (decide (n3 ≤ x5)) (some (.int .i64 2, [])) (bsel (decide ((x1_d.length : Int) < n3)) (some (.int .i64 2, [])) (clX SS.CC 21 [.int .i64 n2] fun r7 => vB r7 fun b6 => bsel (!b6) (bsel (decide (n3 < 0)) (some (.int .i64 2, [])) (bsel (decide ((IntKind.i64.wrap ((IntKind.i64.wrap (x1 + x1_a)) + x1_b)) ≤ n3)) (some (.int .i64 2, [])) (clX SS.CC 22 [.int .i64 n2] fun r9 => vB r9 fun b8 => bsel b8 (bsel (decide (n3 < x1)) (some (.int .i64 19, [])) (g8_L13 x1 x1_a x1_b x1_c x1_d (IntKind.i64.wrap (x5 + 1)))) (g8_L13 x1 x1_a x1_b x1_c x1_d (IntKind.i64.wrap (x5 + 1)))))) (clX SS.CC 22 [.int .i64 n2] fun r11 => vB r11 fun b10 => bsel b10 (bsel (decide (n3 < x1)) (some (.int .i64 19, [])) (g8_L13 x1 x1_a x1_b x1_c x1_d (IntKind.i64.wrap (x5 + 1)))) (g8_L13 x1 x1_a x1_b x1_c x1_d (IntKind.i64.wrap (x5 + 1))))))) (clX SS.CC 21 [.int .i64 n2] fun r13 => vB r13 fun b12 => bsel (!b12) (bsel (decide (n3 < 0)) (some (.int .i64 2, [])) (bsel (decide ((IntKind.i64.wrap ((IntKind.i64.wrap (x1 + x1_a)) + x1_b)) ≤ n3)) (some (.int .i64 2, [])) (clX SS.CC 22 [.int .i64 n2] fun r15 => vB r15 fun b14 => bsel b14 (bsel (decide (n3 < x1)) (some (.int .i64 19, [])) (g8_L13 x1 x1_a x1_b x1_c x1_d (IntKind.i64.wrap (x5 + 1)))) (g8_L13 x1 x1_a x1_b x1_c x1_d (IntKind.i64.wrap (x5 + 1)))))) (clX SS.CC 22 [.int .i64 n2] fun r17 => vB r17 fun b16 => bsel b16 (bsel (decide (n3 < x1)) (some (.int .i64 19, [])) (g8_L13 x1 x1_a x1_b x1_c x1_d (IntKind.i64.wrap (x5 + 1)))) (g8_L13 x1 x1_a x1_b x1_c x1_d (IntKind.i64.wrap (x5 + 1)))))))) (some (.int .i64 0, [])) := (LL_eq SS_ok (by decide) (by kernel_rfl) (by kernel_rfl)).trans (by kernel_rfl)
theorem g8_eq (a0 : Int) (a0_1 : Int) (a0_2 : Int) (a0_3 : List PV) (a0_4 : List PV) : SS.CC 8 [.agg [.int .i64 a0, .int .i64 a0_1, .int .i64 a0_2, .sl false 1 a0_3, .sl false 2 a0_4]] [] =
    g8_L4 a0 a0_1 a0_2 a0_3 a0_4 0 := (CC_run SS_ok rfl).trans (by kernel_rfl)
/-! overseer/overseerlaw52.text -/
noncomputable def g11_c : Code := bodyOf Tryz.f11
noncomputable def g11_E : AE := SS.ae 11 73
noncomputable def g11_X : XE := SS.xe SS.CC SS.LL g11_E 0
noncomputable def g11_K0 : AX → ASt → R := retK SS.P Tryz.f11.results.toList (SS.prm 11).ro 0 []
noncomputable def g11_c1 : Code := Code.sub [true, true, true] g11_c
noncomputable def g11_K1 : AX → ASt → R := thenK (joinX g11_E 0 g11_c1 (exK g11_X g11_c1 g11_K0)) g11_K0
noncomputable def g11_c2 : Code := Code.sub [true, true, false, true, false, true, true] g11_c
noncomputable def g11_K2 : AX → ASt → R := thenK (joinX g11_E 0 g11_c2 (exK g11_X g11_c2 g11_K1)) g11_K1
noncomputable def g11_K3 : AX → ASt → R := blkK 0 g11_K2
noncomputable def g11_c3 : Code := Code.sub [true, true, false, true, false, true, false, true, false, false] g11_c
noncomputable def g11_c4 : Code := Code.sub [true, true, true, true] g11_c
noncomputable def g11_K4 : AX → ASt → R := thenK (joinX g11_E 0 g11_c4 (exK g11_X g11_c4 g11_K0)) g11_K0
noncomputable def g11_K5 : AX → ASt → R := blkK 2 g11_K4
noncomputable def g11_c5 : Code := Code.sub [true, true, true, false, true, false, false] g11_c
noncomputable def g11_L6 (x1 : Int) (x1_a : Int) (x1_b : Int) (x1_c : List PV) (x1_d : List PV) (x3 : ByteArray) (x4 : Int) : R := SS.LL g11_E 0 [1, 3, 4] 0 g11_c3 g11_K3 ⟨[(1, .cst (.agg [.int .i64 x1, .int .i64 x1_a, .int .i64 x1_b, .sl false 1 x1_c, .sl false 2 x1_d])), (3, .str x3), (4, .int .i64 x4)], []⟩
noncomputable def g11_J12 (x1 : Int) (x1_a : Int) (x1_b : Int) (x1_c : List PV) (x1_d : List PV) (x3 : ByteArray) : R := exK g11_X g11_c1 g11_K0 ⟨[(1, .cst (.agg [.int .i64 x1, .int .i64 x1_a, .int .i64 x1_b, .sl false 1 x1_c, .sl false 2 x1_d])), (3, .str x3)], []⟩
noncomputable def g11_L13 (x1 : Int) (x1_a : Int) (x1_b : Int) (x1_c : List PV) (x1_d : List PV) (x3 : ByteArray) (x5 : Int) : R := SS.LL g11_E 0 [1, 3, 5] 0 g11_c5 g11_K5 ⟨[(1, .cst (.agg [.int .i64 x1, .int .i64 x1_a, .int .i64 x1_b, .sl false 1 x1_c, .sl false 2 x1_d])), (3, .str x3), (5, .int .i64 x5)], []⟩
theorem g11_L6_eq (x1 : Int) (x1_a : Int) (x1_b : Int) (x1_c : List PV) (x1_d : List PV) (x3 : ByteArray) (x4 : Int) : g11_L6 x1 x1_a x1_b x1_c x1_d x3 x4 =
    bsel (decide (x4 < (x1_c.length : Int))) (lgetX x1_c x4 fun e1 => vB e1 fun b2 => bsel b2 (chk (decide (x3.size + (⟨#[49]⟩ : ByteArray).size ≤ LIM)) (g11_L6 x1 x1_a x1_b x1_c x1_d (x3 ++ (⟨#[49]⟩ : ByteArray)) (IntKind.i64.wrap (x4 + 1)))) (chk (decide (x3.size + (⟨#[48]⟩ : ByteArray).size ≤ LIM)) (g11_L6 x1 x1_a x1_b x1_c x1_d (x3 ++ (⟨#[48]⟩ : ByteArray)) (IntKind.i64.wrap (x4 + 1))))) (chk (decide (x3.size + (⟨#[10]⟩ : ByteArray).size ≤ LIM)) (g11_J12 x1 x1_a x1_b x1_c x1_d (x3 ++ (⟨#[10]⟩ : ByteArray)))) := (LL_eq SS_ok (by decide) (by kernel_rfl) (by kernel_rfl)).trans (by kernel_rfl)
theorem g11_J12_eq (x1 : Int) (x1_a : Int) (x1_b : Int) (x1_c : List PV) (x1_d : List PV) (x3 : ByteArray) : g11_J12 x1 x1_a x1_b x1_c x1_d x3 =
    g11_L13 x1 x1_a x1_b x1_c x1_d x3 0 := by kernel_rfl
theorem g11_L13_eq (x1 : Int) (x1_a : Int) (x1_b : Int) (x1_c : List PV) (x1_d : List PV) (x3 : ByteArray) (x5 : Int) : g11_L13 x1 x1_a x1_b x1_c x1_d x3 x5 =
    bsel (decide (x5 < (x1_d.length : Int))) (clX SS.CC 35 [] fun r2 => vL false 1 r2 fun l1 => lgetX x1_d x5 fun e3 => v42 e3 fun n4 n5 => lgetX l1 n4 fun e6 => vS e6 fun s7 => chk (decide (x3.size + s7.size ≤ LIM)) (chk (decide ((x3 ++ s7).size + (⟨#[32]⟩ : ByteArray).size ≤ LIM)) (lgetX x1_d x5 fun e8 => v42 e8 fun n9 n10 => clX SS.CC 36 [.agg [.int .i64 x1, .int .i64 x1_a, .int .i64 x1_b, .sl false 1 x1_c, .sl false 2 x1_d], .agg [.int .i64 n9, .int .i64 n10]] fun r12 => vS r12 fun s11 => chk (decide (((x3 ++ s7) ++ (⟨#[32]⟩ : ByteArray)).size + s11.size ≤ LIM)) (chk (decide ((((x3 ++ s7) ++ (⟨#[32]⟩ : ByteArray)) ++ s11).size + (⟨#[10]⟩ : ByteArray).size ≤ LIM)) (g11_L13 x1 x1_a x1_b x1_c x1_d ((((x3 ++ s7) ++ (⟨#[32]⟩ : ByteArray)) ++ s11) ++ (⟨#[10]⟩ : ByteArray)) (IntKind.i64.wrap (x5 + 1))))))) (some (.str x3, [])) := (LL_eq SS_ok (by decide) (by kernel_rfl) (by kernel_rfl)).trans (by kernel_rfl)
theorem g11_eq (a0 : Int) (a0_1 : Int) (a0_2 : Int) (a0_3 : List PV) (a0_4 : List PV) : SS.CC 11 [.agg [.int .i64 a0, .int .i64 a0_1, .int .i64 a0_2, .sl false 1 a0_3, .sl false 2 a0_4]] [] =
    clX SS.CC 34 [.int .i64 a0] fun r2 => vS r2 fun s1 => chk (decide ((⟨#[112, 114, 111, 103, 114, 97, 109, 32]⟩ : ByteArray).size + s1.size ≤ LIM)) (chk (decide (((⟨#[112, 114, 111, 103, 114, 97, 109, 32]⟩ : ByteArray) ++ s1).size + (⟨#[32]⟩ : ByteArray).size ≤ LIM)) (clX SS.CC 34 [.int .i64 a0_1] fun r4 => vS r4 fun s3 => chk (decide ((((⟨#[112, 114, 111, 103, 114, 97, 109, 32]⟩ : ByteArray) ++ s1) ++ (⟨#[32]⟩ : ByteArray)).size + s3.size ≤ LIM)) (chk (decide (((((⟨#[112, 114, 111, 103, 114, 97, 109, 32]⟩ : ByteArray) ++ s1) ++ (⟨#[32]⟩ : ByteArray)) ++ s3).size + (⟨#[32]⟩ : ByteArray).size ≤ LIM)) (clX SS.CC 34 [.int .i64 a0_2] fun r6 => vS r6 fun s5 => chk (decide ((((((⟨#[112, 114, 111, 103, 114, 97, 109, 32]⟩ : ByteArray) ++ s1) ++ (⟨#[32]⟩ : ByteArray)) ++ s3) ++ (⟨#[32]⟩ : ByteArray)).size + s5.size ≤ LIM)) (chk (decide (((((((⟨#[112, 114, 111, 103, 114, 97, 109, 32]⟩ : ByteArray) ++ s1) ++ (⟨#[32]⟩ : ByteArray)) ++ s3) ++ (⟨#[32]⟩ : ByteArray)) ++ s5).size + (⟨#[10]⟩ : ByteArray).size ≤ LIM)) (bsel (decide (0 < a0_2)) (chk (decide ((((((((⟨#[112, 114, 111, 103, 114, 97, 109, 32]⟩ : ByteArray) ++ s1) ++ (⟨#[32]⟩ : ByteArray)) ++ s3) ++ (⟨#[32]⟩ : ByteArray)) ++ s5) ++ (⟨#[10]⟩ : ByteArray)).size + (⟨#[115, 116, 97, 114, 116, 32]⟩ : ByteArray).size ≤ LIM)) (g11_L6 a0 a0_1 a0_2 a0_3 a0_4 ((((((((⟨#[112, 114, 111, 103, 114, 97, 109, 32]⟩ : ByteArray) ++ s1) ++ (⟨#[32]⟩ : ByteArray)) ++ s3) ++ (⟨#[32]⟩ : ByteArray)) ++ s5) ++ (⟨#[10]⟩ : ByteArray)) ++ (⟨#[115, 116, 97, 114, 116, 32]⟩ : ByteArray)) 0)) (g11_J12 a0 a0_1 a0_2 a0_3 a0_4 (((((((⟨#[112, 114, 111, 103, 114, 97, 109, 32]⟩ : ByteArray) ++ s1) ++ (⟨#[32]⟩ : ByteArray)) ++ s3) ++ (⟨#[32]⟩ : ByteArray)) ++ s5) ++ (⟨#[10]⟩ : ByteArray))))))))) := (CC_run SS_ok rfl).trans (by kernel_rfl)
/-! slices.Equal[[]bool,bool] -/
noncomputable def g18_c : Code := bodyOf Tryz.f18
noncomputable def g18_E : AE := SS.ae 18 26
noncomputable def g18_X : XE := SS.xe SS.CC SS.LL g18_E 0
noncomputable def g18_K0 : AX → ASt → R := retK SS.P Tryz.f18.results.toList (SS.prm 18).ro 0 []
noncomputable def g18_c1 : Code := Code.sub [true, true, true] g18_c
noncomputable def g18_K1 : AX → ASt → R := thenK (joinX g18_E 0 g18_c1 (exK g18_X g18_c1 g18_K0)) g18_K0
noncomputable def g18_K2 : AX → ASt → R := blkK 0 g18_K1
noncomputable def g18_c2 : Code := Code.sub [true, true, false, true, false, false] g18_c
noncomputable def g18_L5 (x0 : List PV) (x1 : List PV) (x13 : Int) : R := SS.LL g18_E 0 [0, 1, 12, 13] 0 g18_c2 g18_K2 ⟨[(0, .sl false 1 x0), (1, .sl false 1 x1), (12, .int .i64 (x0.length : Int)), (13, .int .i64 x13)], []⟩
theorem g18_L5_eq (x0 : List PV) (x1 : List PV) (x13 : Int) : g18_L5 x0 x1 x13 =
    bsel (decide (x13 < (x0.length : Int))) (lgetX x0 x13 fun e1 => vB e1 fun b2 => lgetX x1 x13 fun e3 => vB e3 fun b4 => bsel (!(b2 == b4)) (some (.bool false, [])) (g18_L5 x0 x1 (IntKind.i64.wrap (x13 + 1)))) (some (.bool true, [])) := (LL_eq SS_ok (by decide) (by kernel_rfl) (by kernel_rfl)).trans (by kernel_rfl)
theorem g18_eq (a0 : List PV) (a1 : List PV) : SS.CC 18 [.sl false 1 a0, .sl false 1 a1] [] =
    bsel ((a0.length : Int) != (a1.length : Int)) (some (.bool false, [])) (g18_L5 a0 a1 0) := (CC_run SS_ok rfl).trans (by kernel_rfl)
/-! slices.Equal[[]overseer/api.Instruction,overseer/api.Instruction] -/
noncomputable def g19_c : Code := bodyOf Tryz.f19
noncomputable def g19_E : AE := SS.ae 19 26
noncomputable def g19_X : XE := SS.xe SS.CC SS.LL g19_E 0
noncomputable def g19_K0 : AX → ASt → R := retK SS.P Tryz.f19.results.toList (SS.prm 19).ro 0 []
noncomputable def g19_c1 : Code := Code.sub [true, true, true] g19_c
noncomputable def g19_K1 : AX → ASt → R := thenK (joinX g19_E 0 g19_c1 (exK g19_X g19_c1 g19_K0)) g19_K0
noncomputable def g19_K2 : AX → ASt → R := blkK 0 g19_K1
noncomputable def g19_c2 : Code := Code.sub [true, true, false, true, false, false] g19_c
noncomputable def g19_L5 (x0 : List PV) (x1 : List PV) (x13 : Int) : R := SS.LL g19_E 0 [0, 1, 12, 13] 0 g19_c2 g19_K2 ⟨[(0, .sl false 2 x0), (1, .sl false 2 x1), (12, .int .i64 (x0.length : Int)), (13, .int .i64 x13)], []⟩
theorem g19_L5_eq (x0 : List PV) (x1 : List PV) (x13 : Int) : g19_L5 x0 x1 x13 =
    bsel (decide (x13 < (x0.length : Int))) (lgetX x0 x13 fun e1 => v42 e1 fun n2 n3 => lgetX x1 x13 fun e4 => v42 e4 fun n5 n6 => bsel (!((n2 == n5) && ((n3 == n6) && true))) (some (.bool false, [])) (g19_L5 x0 x1 (IntKind.i64.wrap (x13 + 1)))) (some (.bool true, [])) := (LL_eq SS_ok (by decide) (by kernel_rfl) (by kernel_rfl)).trans (by kernel_rfl)
theorem g19_eq (a0 : List PV) (a1 : List PV) : SS.CC 19 [.sl false 2 a0, .sl false 2 a1] [] =
    bsel ((a0.length : Int) != (a1.length : Int)) (some (.bool false, [])) (g19_L5 a0 a1 0) := (CC_run SS_ok rfl).trans (by kernel_rfl)
/-! overseer/overseerlaw52.number -/
noncomputable def g34_c : Code := bodyOf Tryz.f34
noncomputable def g34_E : AE := SS.ae 34 18
noncomputable def g34_X : XE := SS.xe SS.CC SS.LL g34_E 0
theorem g34_eq (a0 : Int) : SS.CC 34 [.int .i64 a0] [] =
    chk (bytesP [.int .u8 (IntKind.u8.wrap (IntKind.i64.wrap (48 + (Int.tmod a0 10))))]) (bsel (decide (10 ≤ a0)) (clX SS.CC 34 [.int .i64 (IntKind.i64.wrap (Int.tdiv a0 10))] fun r2 => vS r2 fun s1 => chk (decide (s1.size + (strOf [.int .u8 (IntKind.u8.wrap (IntKind.i64.wrap (48 + (Int.tmod a0 10))))]).size ≤ LIM)) (some (.str (s1 ++ (strOf [.int .u8 (IntKind.u8.wrap (IntKind.i64.wrap (48 + (Int.tmod a0 10))))])), []))) (some (.str (strOf [.int .u8 (IntKind.u8.wrap (IntKind.i64.wrap (48 + (Int.tmod a0 10))))]), []))) := (CC_run SS_ok rfl).trans (by kernel_rfl)
/-! overseer/overseerlaw52.names -/
noncomputable def g35_c : Code := bodyOf Tryz.f35
noncomputable def g35_E : AE := SS.ae 35 2
noncomputable def g35_X : XE := SS.xe SS.CC SS.LL g35_E 0
theorem g35_eq : SS.CC 35 [] [] =
    some (.sl false 1 [.str ⟨#[]⟩, .str ⟨#[76, 68]⟩, .str ⟨#[76, 68, 78]⟩, .str ⟨#[65, 78, 68]⟩, .str ⟨#[65, 78, 68, 78]⟩, .str ⟨#[79, 82]⟩, .str ⟨#[79, 82, 78]⟩, .str ⟨#[83, 84]⟩, .str ⟨#[83, 84, 78]⟩, .str ⟨#[83]⟩, .str ⟨#[82]⟩, .str ⟨#[74, 77, 80]⟩, .str ⟨#[74, 77, 80, 67]⟩, .str ⟨#[74, 77, 80, 67, 78]⟩], []) := (CC_run SS_ok rfl).trans (by kernel_rfl)
/-! overseer/overseerlaw52.operand -/
noncomputable def g36_c : Code := bodyOf Tryz.f36
noncomputable def g36_E : AE := SS.ae 36 48
noncomputable def g36_X : XE := SS.xe SS.CC SS.LL g36_E 0
theorem g36_eq (a0 : Int) (a0_1 : Int) (a0_2 : Int) (a0_3 : List PV) (a0_4 : List PV) (a1 : Int) (a1_1 : Int) : SS.CC 36 [.agg [.int .i64 a0, .int .i64 a0_1, .int .i64 a0_2, .sl false 1 a0_3, .sl false 2 a0_4], .agg [.int .i64 a1, .int .i64 a1_1]] [] =
    clX SS.CC 21 [.int .i64 a1] fun r2 => vB r2 fun b1 => bsel b1 (clX SS.CC 34 [.int .i64 a1_1] fun r4 => vS r4 fun s3 => some (.str s3, [])) (bsel (decide (a1_1 < a0)) (clX SS.CC 34 [.int .i64 a1_1] fun r6 => vS r6 fun s5 => chk (decide ((⟨#[73]⟩ : ByteArray).size + s5.size ≤ LIM)) (some (.str ((⟨#[73]⟩ : ByteArray) ++ s5), []))) (bsel (decide (a1_1 < (IntKind.i64.wrap (a0 + a0_1)))) (clX SS.CC 34 [.int .i64 (IntKind.i64.wrap (a1_1 - a0))] fun r8 => vS r8 fun s7 => chk (decide ((⟨#[81]⟩ : ByteArray).size + s7.size ≤ LIM)) (some (.str ((⟨#[81]⟩ : ByteArray) ++ s7), []))) (clX SS.CC 34 [.int .i64 (IntKind.i64.wrap ((IntKind.i64.wrap (a1_1 - a0)) - a0_1))] fun r10 => vS r10 fun s9 => chk (decide ((⟨#[77]⟩ : ByteArray).size + s9.size ≤ LIM)) (some (.str ((⟨#[77]⟩ : ByteArray) ++ s9), []))))) := (CC_run SS_ok rfl).trans (by kernel_rfl)
end Go.Proofs.YtiejgieiokmmfaaGreatDoor

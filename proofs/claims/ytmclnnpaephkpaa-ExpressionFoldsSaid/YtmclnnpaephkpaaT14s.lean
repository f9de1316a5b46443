/-
  Functions as equations. Printed by a program (wip/tool/dc.py).
-/
import Derived.Test.YtmclnnpaephkpaaB14
namespace Go.Proofs.Ytmclnnpaephkpaa
set_option linter.unusedVariables false
set_option linter.unusedSimpArgs false
set_option linter.unnecessarySimpa false
set_option linter.unusedSectionVars false
open Go.RowKit
set_option maxRecDepth 1000000
/-! overseer/overseerlaw14.ExpressionSubstitutes -/
noncomputable def g8_c : Code := bodyOf Try.f8
noncomputable def g8_E : AE := SS.ae 8 97
noncomputable def g8_X : XE := SS.xe SS.CC SS.LL g8_E 0
noncomputable def g8_K0 : AX → ASt → R := retK SS.P Try.f8.results.toList (SS.prm 8).ro 0 []
noncomputable def g8_c1 : Code := Code.sub [true, true, true, true, true, true] g8_c
noncomputable def g8_c2 : Code := Code.sub [true, true, true, true, true, true, true, true] g8_c
noncomputable def g8_J11 (x2 : Int) (x10 : Int) (o0_0 : Int) (o0_1 : Int) (o0_2 : Int) (o0_3 : List PV) (o1_0 : Int) (o1_1 : Int) (o1_2 : Int) (o1_3 : List PV) (o2_0 : Int) (o2_1 : Int) (o2_2 : Int) (o2_3 : List PV) (x11 : Int) : R := exK g8_X g8_c1 g8_K0 ⟨[(2, .int .i64 x2), (7, .ptr 0 0), (8, .ptr 1 0), (9, .ptr 2 0), (10, .int .i64 x10), (11, .int .i64 x11)], [some [.int .i64 o0_0, .int .i64 o0_1, .int .i64 o0_2, .sl false 4 o0_3], some [.int .i64 o1_0, .int .i64 o1_1, .int .i64 o1_2, .sl false 4 o1_3], some [.int .i64 o2_0, .int .i64 o2_1, .int .i64 o2_2, .sl false 4 o2_3]]⟩
noncomputable def g8_J14 (x2 : Int) (x10 : Int) (x11 : Int) (o0_0 : Int) (o0_1 : Int) (o0_2 : Int) (o0_3 : List PV) (o1_0 : Int) (o1_1 : Int) (o1_2 : Int) (o1_3 : List PV) (o2_0 : Int) (o2_1 : Int) (o2_2 : Int) (o2_3 : List PV) (o3_0 : Int) (o3_1 : Int) (o3_2 : Int) (o3_3 : List PV) : R := exK g8_X g8_c2 g8_K0 ⟨[(2, .int .i64 x2), (7, .ptr 0 0), (8, .ptr 1 0), (9, .ptr 2 0), (10, .int .i64 x10), (11, .int .i64 x11), (12, .ptr 3 0)], [some [.int .i64 o0_0, .int .i64 o0_1, .int .i64 o0_2, .sl false 4 o0_3], some [.int .i64 o1_0, .int .i64 o1_1, .int .i64 o1_2, .sl false 4 o1_3], some [.int .i64 o2_0, .int .i64 o2_1, .int .i64 o2_2, .sl false 4 o2_3], some [.int .i64 o3_0, .int .i64 o3_1, .int .i64 o3_2, .sl false 4 o3_3]]⟩
theorem g8_J11_eq (x2 : Int) (x10 : Int) (o0_0 : Int) (o0_1 : Int) (o0_2 : Int) (o0_3 : List PV) (o1_0 : Int) (o1_1 : Int) (o1_2 : Int) (o1_3 : List PV) (o2_0 : Int) (o2_1 : Int) (o2_2 : Int) (o2_3 : List PV) (x11 : Int) : g8_J11 x2 x10 o0_0 o0_1 o0_2 o0_3 o1_0 o1_1 o1_2 o1_3 o2_0 o2_1 o2_2 o2_3 x11 =
    clX SS.CC 31 [.agg [.int .i64 o0_0, .int .i64 o0_1, .int .i64 o0_2, .sl false 4 o0_3], .int .i64 x2, .agg [.int .i64 o1_0, .int .i64 o1_1, .int .i64 o1_2, .sl false 4 o1_3]] fun r5 => v23 r5 fun n1 n2 n3 l4 => bsel (x11 == 0) (clX SS.CC 15 [.agg [.int .i64 n1, .int .i64 n2, .int .i64 n3, .sl false 4 l4], .int .i64 16] fun r8 => w_3_3 r8 fun n6 n7 => g8_J14 x2 x10 n7 o0_0 o0_1 o0_2 o0_3 o1_0 o1_1 o1_2 o1_3 o2_0 o2_1 o2_2 o2_3 n1 n2 n3 l4) (g8_J14 x2 x10 x11 o0_0 o0_1 o0_2 o0_3 o1_0 o1_1 o1_2 o1_3 o2_0 o2_1 o2_2 o2_3 n1 n2 n3 l4) := by kernel_rfl
theorem g8_J14_eq (x2 : Int) (x10 : Int) (x11 : Int) (o0_0 : Int) (o0_1 : Int) (o0_2 : Int) (o0_3 : List PV) (o1_0 : Int) (o1_1 : Int) (o1_2 : Int) (o1_3 : List PV) (o2_0 : Int) (o2_1 : Int) (o2_2 : Int) (o2_3 : List PV) (o3_0 : Int) (o3_1 : Int) (o3_2 : Int) (o3_3 : List PV) : g8_J14 x2 x10 x11 o0_0 o0_1 o0_2 o0_3 o1_0 o1_1 o1_2 o1_3 o2_0 o2_1 o2_2 o2_3 o3_0 o3_1 o3_2 o3_3 =
    bsel (x11 != 0) (clX SS.CC 17 [.agg [.int .i64 o2_0, .int .i64 o2_1, .int .i64 o2_2, .sl false 4 o2_3], .agg [.int .i64 0, .int .i64 0, .int .i64 0, .sl false 4 []]] fun r2 => vB r2 fun b1 => bsel b1 (some (.bool (x10 == x11), [])) (some (.bool false, []))) (clX SS.CC 29 [.agg [.int .i64 14, .int .i64 0, .int .i64 0, .sl false 4 []], .int .i64 x2, .agg [.int .i64 o1_0, .int .i64 o1_1, .int .i64 o1_2, .sl false 4 o1_3]] fun r8 => w_23_3 r8 fun n3 n4 n5 l6 n7 => clX SS.CC 29 [.agg [.int .i64 o0_0, .int .i64 o0_1, .int .i64 o0_2, .sl false 4 o0_3], .int .i64 x2, .agg [.int .i64 (-1), .int .i64 0, .int .i64 0, .sl false 4 []]] fun r14 => w_23_3 r14 fun n9 n10 n11 l12 n13 => clX SS.CC 17 [.agg [.int .i64 o2_0, .int .i64 o2_1, .int .i64 o2_2, .sl false 4 o2_3], .agg [.int .i64 o3_0, .int .i64 o3_1, .int .i64 o3_2, .sl false 4 o3_3]] fun r16 => vB r16 fun b15 => bsel b15 (bsel (x10 == 0) (bsel (n7 == 11) (some (.bool (n13 == 11), [])) (some (.bool false, []))) (some (.bool false, []))) (some (.bool false, []))) := by kernel_rfl
theorem g8_eq (a0 : List PV) (a1 : List PV) (a2 : Int) : SS.CC 8 [.sl false 1 a0, .sl false 1 a1, .int .i64 a2] [] =
    clX SS.CC 12 [] fun r2 => vB r2 fun b1 => bsel (!b1) (some (.bool false, [])) (clX SS.CC 18 [.sl false 1 a0, .int .i64 3, .int .i64 (IntKind.i64.wrap (1 + (Int.tmod (a0.length : Int) 2)))] fun r7 => v23 r7 fun n3 n4 n5 l6 => clX SS.CC 18 [.sl false 1 a1, .int .i64 3, .int .i64 (IntKind.i64.wrap (1 + (Int.tmod (a1.length : Int) 2)))] fun r12 => v23 r12 fun n8 n9 n10 l11 => clX SS.CC 29 [.agg [.int .i64 n3, .int .i64 n4, .int .i64 n5, .sl false 4 l6], .int .i64 a2, .agg [.int .i64 n8, .int .i64 n9, .int .i64 n10, .sl false 4 l11]] fun r18 => w_23_3 r18 fun n13 n14 n15 l16 n17 => clX SS.CC 30 [.agg [.int .i64 n8, .int .i64 n9, .int .i64 n10, .sl false 4 l11]] fun r20 => vI .i64 r20 fun n19 => bsel (n19 != 1) (g8_J11 a2 n17 n3 n4 n5 l6 n8 n9 n10 l11 n13 n14 n15 l16 16) (bsel (decide (a2 < 0)) (g8_J11 a2 n17 n3 n4 n5 l6 n8 n9 n10 l11 n13 n14 n15 l16 2) (bsel (decide (16 ≤ a2)) (g8_J11 a2 n17 n3 n4 n5 l6 n8 n9 n10 l11 n13 n14 n15 l16 2) (g8_J11 a2 n17 n3 n4 n5 l6 n8 n9 n10 l11 n13 n14 n15 l16 0)))) := (CC_run SS_ok rfl).trans (by kernel_rfl)
/-! overseer/expression.Substitute -/
noncomputable def g29_c : Code := bodyOf Try.f29
noncomputable def g29_E : AE := SS.ae 29 59
noncomputable def g29_X : XE := SS.xe SS.CC SS.LL g29_E 0
theorem g29_eq (a0 : Int) (a0_1 : Int) (a0_2 : Int) (a0_3 : List PV) (a1 : Int) (a2 : Int) (a2_1 : Int) (a2_2 : Int) (a2_3 : List PV) : SS.CC 29 [.agg [.int .i64 a0, .int .i64 a0_1, .int .i64 a0_2, .sl false 4 a0_3], .int .i64 a1, .agg [.int .i64 a2, .int .i64 a2_1, .int .i64 a2_2, .sl false 4 a2_3]] [] =
    clX SS.CC 14 [.agg [.int .i64 a0, .int .i64 a0_1, .int .i64 a0_2, .sl false 4 a0_3], .int .i64 16] fun r3 => w_3_3 r3 fun n1 n2 => bsel (n2 != 0) (some (.tuple [.agg [.int .i64 0, .int .i64 0, .int .i64 0, .sl false 4 []], .int .i64 n2], [])) (clX SS.CC 14 [.agg [.int .i64 a2, .int .i64 a2_1, .int .i64 a2_2, .sl false 4 a2_3], .int .i64 16] fun r6 => w_3_3 r6 fun n4 n5 => bsel (n5 != 0) (some (.tuple [.agg [.int .i64 0, .int .i64 0, .int .i64 0, .sl false 4 []], .int .i64 n5], [])) (bsel (n4 != 1) (some (.tuple [.agg [.int .i64 0, .int .i64 0, .int .i64 0, .sl false 4 []], .int .i64 16], [])) (bsel (decide (a1 < 0)) (some (.tuple [.agg [.int .i64 0, .int .i64 0, .int .i64 0, .sl false 4 []], .int .i64 2], [])) (bsel (decide (16 ≤ a1)) (some (.tuple [.agg [.int .i64 0, .int .i64 0, .int .i64 0, .sl false 4 []], .int .i64 2], [])) (clX SS.CC 54 [.agg [.int .i64 a0, .int .i64 a0_1, .int .i64 a0_2, .sl false 4 a0_3], .func (.func 56) [] [.cst (.int .i64 a1), .cst (.agg [.int .i64 a2, .int .i64 a2_1, .int .i64 a2_2, .sl false 4 a2_3])]] fun r11 => v23 r11 fun n7 n8 n9 l10 => clX SS.CC 14 [.agg [.int .i64 n7, .int .i64 n8, .int .i64 n9, .sl false 4 l10], .int .i64 16] fun r14 => w_3_3 r14 fun n12 n13 => bsel (n13 != 0) (some (.tuple [.agg [.int .i64 0, .int .i64 0, .int .i64 0, .sl false 4 []], .int .i64 n13], [])) (some (.tuple [.agg [.int .i64 n7, .int .i64 n8, .int .i64 n9, .sl false 4 l10], .int .i64 0], []))))))) := (CC_run SS_ok rfl).trans (by kernel_rfl)
/-! overseer/overseerlaw14.replaced -/
noncomputable def g31_c : Code := bodyOf Try.f31
noncomputable def g31_E : AE := SS.ae 31 47
noncomputable def g31_X : XE := SS.xe SS.CC SS.LL g31_E 0
noncomputable def g31_K0 : AX → ASt → R := retK SS.P Try.f31.results.toList (SS.prm 31).ro 0 []
noncomputable def g31_c1 : Code := Code.sub [true, true] g31_c
noncomputable def g31_c2 : Code := Code.sub [true, true, true, true] g31_c
noncomputable def g31_K1 : AX → ASt → R := thenK (joinX g31_E 0 g31_c2 (exK g31_X g31_c2 g31_K0)) g31_K0
noncomputable def g31_K2 : AX → ASt → R := blkK 0 g31_K1
noncomputable def g31_c3 : Code := Code.sub [true, true, true, false, true, false, false] g31_c
noncomputable def g31_J4 (x1 : Int) (x3 : Int) (x3_a : Int) (x3_b : Int) (x3_c : List PV) (x5 : Int) (x5_a : Int) (x5_b : Int) (x5_c : List PV) : R := exK g31_X g31_c1 g31_K0 ⟨[(1, .int .i64 x1), (3, .cst (.agg [.int .i64 x3, .int .i64 x3_a, .int .i64 x3_b, .sl false 4 x3_c])), (5, .cst (.agg [.int .i64 x5, .int .i64 x5_a, .int .i64 x5_b, .sl false 4 x5_c])), (6, .ptr 0 0)], [some [.int .i64 0, .int .i64 0, .int .i64 0, .sl true 4 []]]⟩
noncomputable def g31_L6 (x1 : Int) (x3 : Int) (x3_a : Int) (x3_b : Int) (x3_c : List PV) (x5 : Int) (x5_a : Int) (x5_b : Int) (x5_c : List PV) (x8 : Int) (o1_3 : List PV) : R := SS.LL g31_E 0 [1, 3, 5, 6, 7, 8] 2 g31_c3 g31_K2 ⟨[(1, .int .i64 x1), (3, .cst (.agg [.int .i64 x3, .int .i64 x3_a, .int .i64 x3_b, .sl false 4 x3_c])), (5, .cst (.agg [.int .i64 x5, .int .i64 x5_a, .int .i64 x5_b, .sl false 4 x5_c])), (6, .ptr 0 0), (7, .ptr 1 0), (8, .int .i64 x8)], [some [.int .i64 0, .int .i64 0, .int .i64 0, .sl true 4 []], some [.int .i64 x3, .int .i64 x3_a, .int .i64 x3_b, .sl true 4 o1_3]]⟩
theorem g31_J4_eq (x1 : Int) (x3 : Int) (x3_a : Int) (x3_b : Int) (x3_c : List PV) (x5 : Int) (x5_a : Int) (x5_b : Int) (x5_c : List PV) : g31_J4 x1 x3 x3_a x3_b x3_c x5 x5_a x5_b x5_c =
    g31_L6 x1 x3 x3_a x3_b x3_c x5 x5_a x5_b x5_c 0 [] := by kernel_rfl
theorem g31_L6_eq (x1 : Int) (x3 : Int) (x3_a : Int) (x3_b : Int) (x3_c : List PV) (x5 : Int) (x5_a : Int) (x5_b : Int) (x5_c : List PV) (x8 : Int) (o1_3 : List PV) : g31_L6 x1 x3 x3_a x3_b x3_c x5 x5_a x5_b x5_c x8 o1_3 =
    bsel (decide (x8 < (x3_c.length : Int))) (lgetX x3_c x8 fun e1 => v23 e1 fun n2 n3 n4 l5 => clX SS.CC 31 [.agg [.int .i64 n2, .int .i64 n3, .int .i64 n4, .sl false 4 l5], .int .i64 x1, .agg [.int .i64 x5, .int .i64 x5_a, .int .i64 x5_b, .sl false 4 x5_c]] fun r10 => v23 r10 fun n6 n7 n8 l9 => chk (decide (o1_3.length + 1 ≤ LIM)) (g31_L6 x1 x3 x3_a x3_b x3_c x5 x5_a x5_b x5_c (IntKind.i64.wrap (x8 + 1)) (o1_3 ++ [.agg [.int .i64 n6, .int .i64 n7, .int .i64 n8, .sl false 4 l9]]))) (some (.agg [.int .i64 x3, .int .i64 x3_a, .int .i64 x3_b, .sl false 4 o1_3], [])) := (LL_eq SS_ok (by decide) (by kernel_rfl) (by kernel_rfl)).trans (by kernel_rfl)
theorem g31_eq (a0 : Int) (a0_1 : Int) (a0_2 : Int) (a0_3 : List PV) (a1 : Int) (a2 : Int) (a2_1 : Int) (a2_2 : Int) (a2_3 : List PV) : SS.CC 31 [.agg [.int .i64 a0, .int .i64 a0_1, .int .i64 a0_2, .sl false 4 a0_3], .int .i64 a1, .agg [.int .i64 a2, .int .i64 a2_1, .int .i64 a2_2, .sl false 4 a2_3]] [] =
    bsel (a0 == 1) (bsel (a0_2 == a1) (some (.agg [.int .i64 a2, .int .i64 a2_1, .int .i64 a2_2, .sl false 4 a2_3], [])) (g31_J4 a1 a0 a0_1 a0_2 a0_3 a2 a2_1 a2_2 a2_3)) (g31_J4 a1 a0 a0_1 a0_2 a0_3 a2 a2_1 a2_2 a2_3) := (CC_run SS_ok rfl).trans (by kernel_rfl)
/-! overseer/expression.change -/
noncomputable def g54_1i_c : Code := bodyOf Try.f54
noncomputable def g54_1i_E : AE := SS.ae 54 34
noncomputable def g54_1i_X : XE := SS.xe SS.CC SS.LL g54_1i_E 0
noncomputable def g54_1i_K0 : AX → ASt → R := retK SS.P Try.f54.results.toList (SS.prm 54).ro 0 []
noncomputable def g54_1i_c1 : Code := Code.sub [true, true, true] g54_1i_c
noncomputable def g54_1i_K1 : AX → ASt → R := thenK (joinX g54_1i_E 0 g54_1i_c1 (exK g54_1i_X g54_1i_c1 g54_1i_K0)) g54_1i_K0
noncomputable def g54_1i_K2 : AX → ASt → R := blkK 0 g54_1i_K1
noncomputable def g54_1i_c2 : Code := Code.sub [true, true, false, true, false, false] g54_1i_c
noncomputable def g54_1i_L4 (x1 : Int) (x1_a : Int) (x1_b : Int) (x1_c : Int) (x1_d : List PV) (x16 : List PV) (o1_0 : Int) (o1_1 : Int) (o1_2 : Int) (x18 : Int) (o1_3 : List PV) : R := SS.LL g54_1i_E 0 [1, 4, 5, 16, 17, 18] 2 g54_1i_c2 g54_1i_K2 ⟨[(1, .func (.func 56) [] [.cst (.int .i64 x1), .cst (.agg [.int .i64 x1_a, .int .i64 x1_b, .int .i64 x1_c, .sl false 4 x1_d])]), (4, .ptr 0 0), (5, .ptr 1 0), (16, .sl false 4 x16), (17, .int .i64 (x16.length : Int)), (18, .int .i64 x18)], [some [.int .i64 0, .int .i64 0, .int .i64 0, .sl true 4 []], some [.int .i64 o1_0, .int .i64 o1_1, .int .i64 o1_2, .sl true 4 o1_3]]⟩
theorem g54_1i_L4_eq (x1 : Int) (x1_a : Int) (x1_b : Int) (x1_c : Int) (x1_d : List PV) (x16 : List PV) (o1_0 : Int) (o1_1 : Int) (o1_2 : Int) (x18 : Int) (o1_3 : List PV) : g54_1i_L4 x1 x1_a x1_b x1_c x1_d x16 o1_0 o1_1 o1_2 x18 o1_3 =
    bsel (decide (x18 < (x16.length : Int))) (lgetX x16 x18 fun e1 => v23 e1 fun n2 n3 n4 l5 => clX SS.CC 54 [.agg [.int .i64 n2, .int .i64 n3, .int .i64 n4, .sl false 4 l5], .func (.func 56) [] [.cst (.int .i64 x1), .cst (.agg [.int .i64 x1_a, .int .i64 x1_b, .int .i64 x1_c, .sl false 4 x1_d])]] fun r10 => v23 r10 fun n6 n7 n8 l9 => chk (decide (o1_3.length + 1 ≤ LIM)) (g54_1i_L4 x1 x1_a x1_b x1_c x1_d x16 o1_0 o1_1 o1_2 (IntKind.i64.wrap (x18 + 1)) (o1_3 ++ [.agg [.int .i64 n6, .int .i64 n7, .int .i64 n8, .sl false 4 l9]]))) (clX SS.CC 56 [.agg [.int .i64 o1_0, .int .i64 o1_1, .int .i64 o1_2, .sl false 4 o1_3], .cst (.int .i64 x1), .cst (.agg [.int .i64 x1_a, .int .i64 x1_b, .int .i64 x1_c, .sl false 4 x1_d])] fun r15 => v23 r15 fun n11 n12 n13 l14 => some (.agg [.int .i64 n11, .int .i64 n12, .int .i64 n13, .sl false 4 l14], [])) := (LL_eq SS_ok (by decide) (by kernel_rfl) (by kernel_rfl)).trans (by kernel_rfl)
theorem g54_1i_eq (a0 : Int) (a0_1 : Int) (a0_2 : Int) (a0_3 : List PV) (a1 : Int) (a1_1 : Int) (a1_2 : Int) (a1_3 : Int) (a1_4 : List PV) : SS.CC 54 [.agg [.int .i64 a0, .int .i64 a0_1, .int .i64 a0_2, .sl false 4 a0_3], .func (.func 56) [] [.cst (.int .i64 a1), .cst (.agg [.int .i64 a1_1, .int .i64 a1_2, .int .i64 a1_3, .sl false 4 a1_4])]] [] =
    g54_1i_L4 a1 a1_1 a1_2 a1_3 a1_4 a0_3 a0 a0_1 a0_2 0 [] := (CC_run SS_ok rfl).trans (by kernel_rfl)
/-! overseer/expression.Substitute$1 -/
noncomputable def g56_c : Code := bodyOf Try.f56
noncomputable def g56_E : AE := SS.ae 56 17
noncomputable def g56_X : XE := SS.xe SS.CC SS.LL g56_E 0
theorem g56_eq (a0 : Int) (a0_1 : Int) (a0_2 : Int) (a0_3 : List PV) (a1 : Int) (a2 : Int) (a2_1 : Int) (a2_2 : Int) (a2_3 : List PV) : SS.CC 56 [.agg [.int .i64 a0, .int .i64 a0_1, .int .i64 a0_2, .sl false 4 a0_3], .cst (.int .i64 a1), .cst (.agg [.int .i64 a2, .int .i64 a2_1, .int .i64 a2_2, .sl false 4 a2_3])] [] =
    bsel (a0 == 1) (bsel (a0_2 == a1) (clX SS.CC 57 [.agg [.int .i64 a2, .int .i64 a2_1, .int .i64 a2_2, .sl false 4 a2_3]] fun r5 => v23 r5 fun n1 n2 n3 l4 => some (.agg [.int .i64 n1, .int .i64 n2, .int .i64 n3, .sl false 4 l4], [])) (some (.agg [.int .i64 a0, .int .i64 a0_1, .int .i64 a0_2, .sl false 4 a0_3], []))) (some (.agg [.int .i64 a0, .int .i64 a0_1, .int .i64 a0_2, .sl false 4 a0_3], [])) := (CC_run SS_ok rfl).trans (by kernel_rfl)
/-! overseer/expression.copied -/
noncomputable def g57_c : Code := bodyOf Try.f57
noncomputable def g57_E : AE := SS.ae 57 5
noncomputable def g57_X : XE := SS.xe SS.CC SS.LL g57_E 0
theorem g57_eq (a0 : Int) (a0_1 : Int) (a0_2 : Int) (a0_3 : List PV) : SS.CC 57 [.agg [.int .i64 a0, .int .i64 a0_1, .int .i64 a0_2, .sl false 4 a0_3]] [] =
    clX SS.CC 54 [.agg [.int .i64 a0, .int .i64 a0_1, .int .i64 a0_2, .sl false 4 a0_3], .func (.func 76) [] []] fun r5 => v23 r5 fun n1 n2 n3 l4 => some (.agg [.int .i64 n1, .int .i64 n2, .int .i64 n3, .sl false 4 l4], []) := (CC_run SS_ok rfl).trans (by kernel_rfl)
/-! overseer/expression.change -/
noncomputable def g54_3i_c : Code := bodyOf Try.f54
noncomputable def g54_3i_E : AE := SS.ae 54 34
noncomputable def g54_3i_X : XE := SS.xe SS.CC SS.LL g54_3i_E 0
noncomputable def g54_3i_K0 : AX → ASt → R := retK SS.P Try.f54.results.toList (SS.prm 54).ro 0 []
noncomputable def g54_3i_c1 : Code := Code.sub [true, true, true] g54_3i_c
noncomputable def g54_3i_K1 : AX → ASt → R := thenK (joinX g54_3i_E 0 g54_3i_c1 (exK g54_3i_X g54_3i_c1 g54_3i_K0)) g54_3i_K0
noncomputable def g54_3i_K2 : AX → ASt → R := blkK 0 g54_3i_K1
noncomputable def g54_3i_c2 : Code := Code.sub [true, true, false, true, false, false] g54_3i_c
noncomputable def g54_3i_L4 (x16 : List PV) (o1_0 : Int) (o1_1 : Int) (o1_2 : Int) (x18 : Int) (o1_3 : List PV) : R := SS.LL g54_3i_E 0 [1, 4, 5, 16, 17, 18] 2 g54_3i_c2 g54_3i_K2 ⟨[(1, .func (.func 76) [] []), (4, .ptr 0 0), (5, .ptr 1 0), (16, .sl false 4 x16), (17, .int .i64 (x16.length : Int)), (18, .int .i64 x18)], [some [.int .i64 0, .int .i64 0, .int .i64 0, .sl true 4 []], some [.int .i64 o1_0, .int .i64 o1_1, .int .i64 o1_2, .sl true 4 o1_3]]⟩
theorem g54_3i_L4_eq (x16 : List PV) (o1_0 : Int) (o1_1 : Int) (o1_2 : Int) (x18 : Int) (o1_3 : List PV) : g54_3i_L4 x16 o1_0 o1_1 o1_2 x18 o1_3 =
    bsel (decide (x18 < (x16.length : Int))) (lgetX x16 x18 fun e1 => v23 e1 fun n2 n3 n4 l5 => clX SS.CC 54 [.agg [.int .i64 n2, .int .i64 n3, .int .i64 n4, .sl false 4 l5], .func (.func 76) [] []] fun r10 => v23 r10 fun n6 n7 n8 l9 => chk (decide (o1_3.length + 1 ≤ LIM)) (g54_3i_L4 x16 o1_0 o1_1 o1_2 (IntKind.i64.wrap (x18 + 1)) (o1_3 ++ [.agg [.int .i64 n6, .int .i64 n7, .int .i64 n8, .sl false 4 l9]]))) (clX SS.CC 76 [.agg [.int .i64 o1_0, .int .i64 o1_1, .int .i64 o1_2, .sl false 4 o1_3]] fun r15 => v23 r15 fun n11 n12 n13 l14 => some (.agg [.int .i64 n11, .int .i64 n12, .int .i64 n13, .sl false 4 l14], [])) := (LL_eq SS_ok (by decide) (by kernel_rfl) (by kernel_rfl)).trans (by kernel_rfl)
theorem g54_3i_eq (a0 : Int) (a0_1 : Int) (a0_2 : Int) (a0_3 : List PV) : SS.CC 54 [.agg [.int .i64 a0, .int .i64 a0_1, .int .i64 a0_2, .sl false 4 a0_3], .func (.func 76) [] []] [] =
    g54_3i_L4 a0_3 a0 a0_1 a0_2 0 [] := (CC_run SS_ok rfl).trans (by kernel_rfl)
/-! overseer/expression.copied$1 -/
noncomputable def g76_c : Code := bodyOf Try.f76
noncomputable def g76_E : AE := SS.ae 76 4
noncomputable def g76_X : XE := SS.xe SS.CC SS.LL g76_E 0
theorem g76_eq (a0 : Int) (a0_1 : Int) (a0_2 : Int) (a0_3 : List PV) : SS.CC 76 [.agg [.int .i64 a0, .int .i64 a0_1, .int .i64 a0_2, .sl false 4 a0_3]] [] =
    some (.agg [.int .i64 a0, .int .i64 a0_1, .int .i64 a0_2, .sl false 4 a0_3], []) := (CC_run SS_ok rfl).trans (by kernel_rfl)
end Go.Proofs.Ytmclnnpaephkpaa

/-
  Functions as equations. Printed by a program (wip/tool/dc.py).
-/
import Derived.Test.YtmclnnpaephkpaaB14
namespace Go.Proofs.Ytmclnnpaephkpaa
set_option linter.unusedVariables false
set_option linter.unusedSimpArgs false
set_option linter.unnecessarySimpa false
set_option linter.unusedSectionVars false
open Go.RowKit
set_option maxRecDepth 1000000
/-! overseer/overseerlaw14.small -/
noncomputable def g13_c : Code := bodyOf Try.f13
noncomputable def g13_E : AE := SS.ae 13 6
noncomputable def g13_X : XE := SS.xe SS.CC SS.LL g13_E 0
theorem g13_eq (a0 : Int) (a0_1 : Int) (a0_2 : Int) (a0_3 : List PV) : SS.CC 13 [.agg [.int .i64 a0, .int .i64 a0_1, .int .i64 a0_2, .sl false 4 a0_3]] [] =
    clH SS.CC 41 [.agg [.int .i64 a0, .int .i64 a0_1, .int .i64 a0_2, .sl false 4 a0_3], .int .i64 1, .ptr 0 0] [some [.int .i64 80]] fun r3 h4 => h41_0 r3 h4 fun b1 n2 => some (.bool b1, []) := (CC_run SS_ok rfl).trans (by kernel_rfl)
/-! overseer/expression.Check -/
noncomputable def g14_c : Code := bodyOf Try.f14
noncomputable def g14_E : AE := SS.ae 14 25
noncomputable def g14_X : XE := SS.xe SS.CC SS.LL g14_E 0
theorem g14_eq (a0 : Int) (a0_1 : Int) (a0_2 : Int) (a0_3 : List PV) (a1 : Int) : SS.CC 14 [.agg [.int .i64 a0, .int .i64 a0_1, .int .i64 a0_2, .sl false 4 a0_3], .int .i64 a1] [] =
    bsel (decide (a1 < 0)) (some (.tuple [.int .i64 0, .int .i64 2], [])) (bsel (decide (16 < a1)) (some (.tuple [.int .i64 0, .int .i64 2], [])) (clH SS.CC 42 [.agg [.int .i64 a0, .int .i64 a0_1, .int .i64 a0_2, .sl false 4 a0_3], .int .i64 a1, .int .i64 1, .ptr 0 0] [some [.int .i64 0]] fun r3 h4 => h42_0 r3 h4 fun n1 n2 => bsel (n1 != 0) (some (.tuple [.int .i64 0, .int .i64 n1], [])) (clX SS.CC 43 [.agg [.int .i64 a0, .int .i64 a0_1, .int .i64 a0_2, .sl false 4 a0_3]] fun r6 => vI .i64 r6 fun n5 => bsel (n5 == 0) (some (.tuple [.int .i64 0, .int .i64 16], [])) (some (.tuple [.int .i64 n5, .int .i64 0], []))))) := (CC_run SS_ok rfl).trans (by kernel_rfl)
/-! overseer/overseerlaw14.check -/
noncomputable def g15_c : Code := bodyOf Try.f15
noncomputable def g15_E : AE := SS.ae 15 26
noncomputable def g15_X : XE := SS.xe SS.CC SS.LL g15_E 0
theorem g15_eq (a0 : Int) (a0_1 : Int) (a0_2 : Int) (a0_3 : List PV) (a1 : Int) : SS.CC 15 [.agg [.int .i64 a0, .int .i64 a0_1, .int .i64 a0_2, .sl false 4 a0_3], .int .i64 a1] [] =
    bsel (decide (a1 < 0)) (some (.tuple [.int .i64 0, .int .i64 2], [])) (bsel (decide (16 < a1)) (some (.tuple [.int .i64 0, .int .i64 2], [])) (clH SS.CC 44 [.agg [.int .i64 a0, .int .i64 a0_1, .int .i64 a0_2, .sl false 4 a0_3], .int .i64 a1, .int .i64 1, .ptr 0 0] [some [.int .i64 64]] fun r3 h4 => h44_0 r3 h4 fun n1 n2 => bsel (n1 != 0) (some (.tuple [.int .i64 0, .int .i64 n1], [])) (clX SS.CC 30 [.agg [.int .i64 a0, .int .i64 a0_1, .int .i64 a0_2, .sl false 4 a0_3]] fun r6 => vI .i64 r6 fun n5 => bsel (n5 == 0) (some (.tuple [.int .i64 0, .int .i64 16], [])) (some (.tuple [.int .i64 n5, .int .i64 0], []))))) := (CC_run SS_ok rfl).trans (by kernel_rfl)
/-! overseer/expression.Equal -/
noncomputable def g16_c : Code := bodyOf Try.f16
noncomputable def g16_E : AE := SS.ae 16 31
noncomputable def g16_X : XE := SS.xe SS.CC SS.LL g16_E 0
theorem g16_eq (a0 : Int) (a0_1 : Int) (a0_2 : Int) (a0_3 : List PV) (a1 : Int) (a1_1 : Int) (a1_2 : Int) (a1_3 : List PV) : SS.CC 16 [.agg [.int .i64 a0, .int .i64 a0_1, .int .i64 a0_2, .sl false 4 a0_3], .agg [.int .i64 a1, .int .i64 a1_1, .int .i64 a1_2, .sl false 4 a1_3]] [] =
    bsel (a0 == a1) (bsel (a0_1 == a1_1) (bsel (a0_2 == a1_2) (clX SS.CC 45 [.sl false 4 a0_3, .sl false 4 a1_3, .func (.func 16) [] []] fun r2 => vB r2 fun b1 => some (.bool b1, [])) (some (.bool false, []))) (some (.bool false, []))) (some (.bool false, [])) := (CC_run SS_ok rfl).trans (by kernel_rfl)
/-! overseer/overseerlaw14.same -/
noncomputable def g17_c : Code := bodyOf Try.f17
noncomputable def g17_E : AE := SS.ae 17 53
noncomputable def g17_X : XE := SS.xe SS.CC SS.LL g17_E 0
noncomputable def g17_K0 : AX → ASt → R := retK SS.P Try.f17.results.toList (SS.prm 17).ro 0 []
noncomputable def g17_c1 : Code := Code.sub [true, true, true] g17_c
noncomputable def g17_K1 : AX → ASt → R := thenK (joinX g17_E 0 g17_c1 (exK g17_X g17_c1 g17_K0)) g17_K0
noncomputable def g17_K2 : AX → ASt → R := blkK 0 g17_K1
noncomputable def g17_c2 : Code := Code.sub [true, true, false, true, false, false] g17_c
noncomputable def g17_L5 (x2 : Int) (x2_a : Int) (x2_b : Int) (x2_c : List PV) (x3 : Int) (x3_a : Int) (x3_b : Int) (x3_c : List PV) (x5 : Int) : R := SS.LL g17_E 0 [2, 3, 5] 0 g17_c2 g17_K2 ⟨[(2, .cst (.agg [.int .i64 x2, .int .i64 x2_a, .int .i64 x2_b, .sl false 4 x2_c])), (3, .cst (.agg [.int .i64 x3, .int .i64 x3_a, .int .i64 x3_b, .sl false 4 x3_c])), (5, .int .i64 x5)], []⟩
theorem g17_L5_eq (x2 : Int) (x2_a : Int) (x2_b : Int) (x2_c : List PV) (x3 : Int) (x3_a : Int) (x3_b : Int) (x3_c : List PV) (x5 : Int) : g17_L5 x2 x2_a x2_b x2_c x3 x3_a x3_b x3_c x5 =
    bsel (decide (x5 < (x2_c.length : Int))) (lgetX x2_c x5 fun e1 => v23 e1 fun n2 n3 n4 l5 => lgetX x3_c x5 fun e6 => v23 e6 fun n7 n8 n9 l10 => clX SS.CC 17 [.agg [.int .i64 n2, .int .i64 n3, .int .i64 n4, .sl false 4 l5], .agg [.int .i64 n7, .int .i64 n8, .int .i64 n9, .sl false 4 l10]] fun r12 => vB r12 fun b11 => bsel (!b11) (some (.bool false, [])) (g17_L5 x2 x2_a x2_b x2_c x3 x3_a x3_b x3_c (IntKind.i64.wrap (x5 + 1)))) (some (.bool true, [])) := (LL_eq SS_ok (by decide) (by kernel_rfl) (by kernel_rfl)).trans (by kernel_rfl)
theorem g17_eq (a0 : Int) (a0_1 : Int) (a0_2 : Int) (a0_3 : List PV) (a1 : Int) (a1_1 : Int) (a1_2 : Int) (a1_3 : List PV) : SS.CC 17 [.agg [.int .i64 a0, .int .i64 a0_1, .int .i64 a0_2, .sl false 4 a0_3], .agg [.int .i64 a1, .int .i64 a1_1, .int .i64 a1_2, .sl false 4 a1_3]] [] =
    bsel (a0 != a1) (some (.bool false, [])) (bsel (a0_1 != a1_1) (some (.bool false, [])) (bsel (a0_2 != a1_2) (some (.bool false, [])) (bsel ((a0_3.length : Int) != (a1_3.length : Int)) (some (.bool false, [])) (g17_L5 a0 a0_1 a0_2 a0_3 a1 a1_1 a1_2 a1_3 0)))) := (CC_run SS_ok rfl).trans (by kernel_rfl)
/-! overseer/overseerlaw14.Grow -/
noncomputable def g18_c : Code := bodyOf Try.f18
noncomputable def g18_E : AE := SS.ae 18 19
noncomputable def g18_X : XE := SS.xe SS.CC SS.LL g18_E 0
theorem g18_eq (a0 : List PV) (a1 : Int) (a2 : Int) : SS.CC 18 [.sl false 1 a0, .int .i64 a1, .int .i64 a2] [] =
    chk (decide (0 ≤ (if (60 : Int) < (a0.length : Int) then (60 : Int) else (a0.length : Int))) && decide ((if (60 : Int) < (a0.length : Int) then (60 : Int) else (a0.length : Int)) ≤ (a0.length : Int))) (clH SS.CC 46 [.ptr 0 0, .int .i64 a2, .int .i64 5] [some [.sl false 1 (a0.take (if (60 : Int) < (a0.length : Int) then (60 : Int) else (a0.length : Int)).toNat), .int .i64 a1, .int .i64 0]] fun r8 h9 => h46_0 r8 h9 fun n1 n2 n3 l4 l5 n6 n7 => some (.agg [.int .i64 n1, .int .i64 n2, .int .i64 n3, .sl false 4 l4], [])) := (CC_run SS_ok rfl).trans (by kernel_rfl)
/-! overseer/overseerlaw14.beyond -/
noncomputable def g19_c : Code := bodyOf Try.f19
noncomputable def g19_E : AE := SS.ae 19 14
noncomputable def g19_X : XE := SS.xe SS.CC SS.LL g19_E 0
theorem g19_eq (a0 : Int) (a1 : Int) : SS.CC 19 [.int .i64 a0, .int .i64 a1] [] =
    bsel (decide (a0 < (IntKind.i64.wrap (0 - a1)))) (some (.bool true, [])) (some (.bool (decide (a1 < a0)), [])) := (CC_run SS_ok rfl).trans (by kernel_rfl)
/-! overseer/expression.Evaluate -/
noncomputable def g20_c : Code := bodyOf Try.f20
noncomputable def g20_E : AE := SS.ae 20 31
noncomputable def g20_X : XE := SS.xe SS.CC SS.LL g20_E 0
theorem g20_eq (a0 : Int) (a0_1 : Int) (a0_2 : Int) (a0_3 : List PV) (a1 : List PV) : SS.CC 20 [.agg [.int .i64 a0, .int .i64 a0_1, .int .i64 a0_2, .sl false 4 a0_3], .sl false 1 a1] [] =
    clX SS.CC 14 [.agg [.int .i64 a0, .int .i64 a0_1, .int .i64 a0_2, .sl false 4 a0_3], .int .i64 (a1.length : Int)] fun r3 => w_3_3 r3 fun n1 n2 => bsel (n2 != 0) (some (.tuple [.int .i64 0, .int .i64 n2], [])) (clX SS.CC 47 [.sl false 1 a1, .func (.func 48) [] []] fun r5 => vB r5 fun b4 => bsel b4 (some (.tuple [.int .i64 0, .int .i64 2], [])) (clX SS.CC 50 [.agg [.int .i64 a0, .int .i64 a0_1, .int .i64 a0_2, .sl false 4 a0_3], .sl false 1 a1] fun r8 => w_3_4 r8 fun n6 b7 => bsel (!b7) (some (.tuple [.int .i64 0, .int .i64 17], [])) (some (.tuple [.int .i64 n6, .int .i64 0], [])))) := (CC_run SS_ok rfl).trans (by kernel_rfl)
/-! overseer/overseerlaw14.evaluate -/
noncomputable def g21_c : Code := bodyOf Try.f21
noncomputable def g21_E : AE := SS.ae 21 80
noncomputable def g21_X : XE := SS.xe SS.CC SS.LL g21_E 0
noncomputable def g21_K0 : AX → ASt → R := retK SS.P Try.f21.results.toList (SS.prm 21).ro 0 []
noncomputable def g21_c1 : Code := Code.sub [true, true, true, true] g21_c
noncomputable def g21_K1 : AX → ASt → R := thenK (joinX g21_E 0 g21_c1 (exK g21_X g21_c1 g21_K0)) g21_K0
noncomputable def g21_K2 : AX → ASt → R := blkK 1 g21_K1
noncomputable def g21_c2 : Code := Code.sub [true, true, true, false, true, false, false] g21_c
noncomputable def g21_L14 (x1 : List PV) (x2 : Int) (x2_a : Int) (x2_b : Int) (x2_c : List PV) (x8 : List PV) (x9 : Int) : R := SS.LL g21_E 0 [1, 2, 8, 9] 0 g21_c2 g21_K2 ⟨[(1, .sl false 1 x1), (2, .cst (.agg [.int .i64 x2, .int .i64 x2_a, .int .i64 x2_b, .sl false 4 x2_c])), (8, .sl true 1 x8), (9, .int .i64 x9)], []⟩
theorem g21_L14_eq (x1 : List PV) (x2 : Int) (x2_a : Int) (x2_b : Int) (x2_c : List PV) (x8 : List PV) (x9 : Int) : g21_L14 x1 x2 x2_a x2_b x2_c x8 x9 =
    bsel (decide (x9 < (x2_c.length : Int))) (lgetX x2_c x9 fun e1 => v23 e1 fun n2 n3 n4 l5 => clX SS.CC 21 [.agg [.int .i64 n2, .int .i64 n3, .int .i64 n4, .sl false 4 l5], .sl false 1 x1] fun r8 => w_3_4 r8 fun n6 b7 => bsel (!b7) (some (.tuple [.int .i64 0, .bool false], [])) (chk (decide (x8.length + 1 ≤ LIM)) (g21_L14 x1 x2 x2_a x2_b x2_c (x8 ++ [.int .i64 n6]) (IntKind.i64.wrap (x9 + 1))))) (clX SS.CC 51 [.int .i64 x2, .sl false 1 x8] fun r10 => vI .i64 r10 fun n9 => clX SS.CC 19 [.int .i64 n9, .int .i64 1073741824] fun r12 => vB r12 fun b11 => some (.tuple [.int .i64 n9, .bool (!b11)], [])) := (LL_eq SS_ok (by decide) (by kernel_rfl) (by kernel_rfl)).trans (by kernel_rfl)
theorem g21_eq (a0 : Int) (a0_1 : Int) (a0_2 : Int) (a0_3 : List PV) (a1 : List PV) : SS.CC 21 [.agg [.int .i64 a0, .int .i64 a0_1, .int .i64 a0_2, .sl false 4 a0_3], .sl false 1 a1] [] =
    bsel (a0 == 0) (some (.tuple [.int .i64 a0_1, .bool true], [])) (bsel (a0 == 1) (lgetX a1 a0_2 fun e1 => vI .i64 e1 fun n2 => some (.tuple [.int .i64 n2, .bool true], [])) (bsel (a0 == 13) (lgetX a0_3 0 fun e3 => v23 e3 fun n4 n5 n6 l7 => clX SS.CC 21 [.agg [.int .i64 n4, .int .i64 n5, .int .i64 n6, .sl false 4 l7], .sl false 1 a1] fun r10 => w_3_4 r10 fun n8 b9 => bsel (!b9) (some (.tuple [.int .i64 0, .bool false], [])) (lgetX a0_3 (IntKind.i64.wrap (2 - n8)) fun e11 => v23 e11 fun n12 n13 n14 l15 => clX SS.CC 21 [.agg [.int .i64 n12, .int .i64 n13, .int .i64 n14, .sl false 4 l15], .sl false 1 a1] fun r18 => w_3_4 r18 fun n16 b17 => some (.tuple [.int .i64 n16, .bool b17], []))) (g21_L14 a1 a0 a0_1 a0_2 a0_3 [] 0))) := (CC_run SS_ok rfl).trans (by kernel_rfl)
/-! overseer/overseerlaw14.kind -/
noncomputable def g30_c : Code := bodyOf Try.f30
noncomputable def g30_E : AE := SS.ae 30 69
noncomputable def g30_X : XE := SS.xe SS.CC SS.LL g30_E 0
noncomputable def g30_K0 : AX → ASt → R := retK SS.P Try.f30.results.toList (SS.prm 30).ro 0 []
noncomputable def g30_c1 : Code := Code.sub [true, true, true] g30_c
noncomputable def g30_K1 : AX → ASt → R := thenK (joinX g30_E 0 g30_c1 (exK g30_X g30_c1 g30_K0)) g30_K0
noncomputable def g30_K2 : AX → ASt → R := blkK 0 g30_K1
noncomputable def g30_c2 : Code := Code.sub [true, true, false, true, false, false] g30_c
noncomputable def g30_c3 : Code := Code.sub [true, true, true, true, true] g30_c
noncomputable def g30_c4 : Code := Code.sub [true, true, true, true, true, true] g30_c
noncomputable def g30_K3 : AX → ASt → R := thenK (joinX g30_E 0 g30_c4 (exK g30_X g30_c4 g30_K0)) g30_K0
noncomputable def g30_K4 : AX → ASt → R := blkK 3 g30_K3
noncomputable def g30_c5 : Code := Code.sub [true, true, true, true, true, false, true, false, false] g30_c
noncomputable def g30_L4 (x1 : Int) (x1_a : Int) (x1_b : Int) (x1_c : List PV) (x3 : List PV) (x4 : Int) : R := SS.LL g30_E 0 [1, 3, 4] 0 g30_c2 g30_K2 ⟨[(1, .cst (.agg [.int .i64 x1, .int .i64 x1_a, .int .i64 x1_b, .sl false 4 x1_c])), (3, .sl true 1 x3), (4, .int .i64 x4)], []⟩
noncomputable def g30_J19 (x6 : Int) (x7 : Int) (x3 : List PV) : R := exK g30_X g30_c3 g30_K0 ⟨[(3, .sl true 1 x3), (6, .int .i64 x6), (7, .int .i64 x7)], []⟩
noncomputable def g30_L20 (x6 : Int) (x7 : Int) (x3 : List PV) (x8 : Int) : R := SS.LL g30_E 0 [3, 6, 7, 8] 0 g30_c5 g30_K4 ⟨[(3, .sl true 1 x3), (6, .int .i64 x6), (7, .int .i64 x7), (8, .int .i64 x8)], []⟩
theorem g30_L4_eq (x1 : Int) (x1_a : Int) (x1_b : Int) (x1_c : List PV) (x3 : List PV) (x4 : Int) : g30_L4 x1 x1_a x1_b x1_c x3 x4 =
    bsel (decide (x4 < (x1_c.length : Int))) (lgetX x1_c x4 fun e1 => v23 e1 fun n2 n3 n4 l5 => clX SS.CC 30 [.agg [.int .i64 n2, .int .i64 n3, .int .i64 n4, .sl false 4 l5]] fun r7 => vI .i64 r7 fun n6 => bsel (n6 == 0) (some (.int .i64 0, [])) (chk (decide (x3.length + 1 ≤ LIM)) (g30_L4 x1 x1_a x1_b x1_c (x3 ++ [.int .i64 n6]) (IntKind.i64.wrap (x4 + 1))))) (bsel (x1 == 13) (lgetX x3 0 fun e8 => vI .i64 e8 fun n9 => bsel (n9 != 2) (some (.int .i64 0, [])) (lgetX x3 1 fun e10 => vI .i64 e10 fun n11 => lgetX x3 2 fun e12 => vI .i64 e12 fun n13 => bsel (n11 != n13) (some (.int .i64 0, [])) (lgetX x3 1 fun e14 => vI .i64 e14 fun n15 => some (.int .i64 n15, [])))) (bsel (decide (10 ≤ x1)) (g30_J19 2 2 x3) (bsel (decide (6 ≤ x1)) (g30_J19 1 2 x3) (g30_J19 1 1 x3)))) := (LL_eq SS_ok (by decide) (by kernel_rfl) (by kernel_rfl)).trans (by kernel_rfl)
theorem g30_J19_eq (x6 : Int) (x7 : Int) (x3 : List PV) : g30_J19 x6 x7 x3 =
    g30_L20 x6 x7 x3 0 := by kernel_rfl
theorem g30_L20_eq (x6 : Int) (x7 : Int) (x3 : List PV) (x8 : Int) : g30_L20 x6 x7 x3 x8 =
    bsel (decide (x8 < (x3.length : Int))) (lgetX x3 x8 fun e1 => vI .i64 e1 fun n2 => bsel (n2 != x6) (some (.int .i64 0, [])) (g30_L20 x6 x7 x3 (IntKind.i64.wrap (x8 + 1)))) (some (.int .i64 x7, [])) := (LL_eq SS_ok (by decide) (by kernel_rfl) (by kernel_rfl)).trans (by kernel_rfl)
theorem g30_eq (a0 : Int) (a0_1 : Int) (a0_2 : Int) (a0_3 : List PV) : SS.CC 30 [.agg [.int .i64 a0, .int .i64 a0_1, .int .i64 a0_2, .sl false 4 a0_3]] [] =
    g30_L4 a0 a0_1 a0_2 a0_3 [] 0 := (CC_run SS_ok rfl).trans (by kernel_rfl)
/-! overseer/overseerlaw14.few -/
noncomputable def g41_c : Code := bodyOf Try.f41
noncomputable def g41_E : AE := SS.ae 41 44
noncomputable def g41_X : XE := SS.xe SS.CC SS.LL g41_E 1
noncomputable def g41_K0 : AX → ASt → R := retK SS.P Try.f41.results.toList (SS.prm 41).ro 1 []
noncomputable def g41_c1 : Code := Code.sub [true, true, true, true] g41_c
noncomputable def g41_K1 : AX → ASt → R := thenK (joinX g41_E 1 g41_c1 (exK g41_X g41_c1 g41_K0)) g41_K0
noncomputable def g41_K2 : AX → ASt → R := blkK 0 g41_K1
noncomputable def g41_c2 : Code := Code.sub [true, true, true, false, true, false, false] g41_c
noncomputable def g41_L6 (x1 : Int) (x3 : Int) (x3_a : Int) (x3_b : Int) (x3_c : List PV) (o0_0 : Int) (x7 : Int) : R := SS.LL g41_E 1 [1, 2, 3, 7] 1 g41_c2 g41_K2 ⟨[(1, .int .i64 x1), (2, .ptr 0 0), (3, .cst (.agg [.int .i64 x3, .int .i64 x3_a, .int .i64 x3_b, .sl false 4 x3_c])), (7, .int .i64 x7)], [some [.int .i64 o0_0]]⟩
theorem g41_L6_eq (x1 : Int) (x3 : Int) (x3_a : Int) (x3_b : Int) (x3_c : List PV) (o0_0 : Int) (x7 : Int) : g41_L6 x1 x3 x3_a x3_b x3_c o0_0 x7 =
    bsel (decide (x7 < (x3_c.length : Int))) (lgetX x3_c x7 fun e1 => v23 e1 fun n2 n3 n4 l5 => clH SS.CC 41 [.agg [.int .i64 n2, .int .i64 n3, .int .i64 n4, .sl false 4 l5], .int .i64 (IntKind.i64.wrap (x1 + 1)), .ptr 0 0] [some [.int .i64 o0_0]] fun r8 h9 => h41_0 r8 h9 fun b6 n7 => bsel (!b6) (some (.bool false, [some [.int .i64 n7]])) (g41_L6 x1 x3 x3_a x3_b x3_c n7 (IntKind.i64.wrap (x7 + 1)))) (some (.bool true, [some [.int .i64 o0_0]])) := (LL_eq SS_ok (by decide) (by kernel_rfl) (by kernel_rfl)).trans (by kernel_rfl)
theorem g41_eq (a0 : Int) (a0_1 : Int) (a0_2 : Int) (a0_3 : List PV) (a1 : Int) (h0_0 : Int) : SS.CC 41 [.agg [.int .i64 a0, .int .i64 a0_1, .int .i64 a0_2, .sl false 4 a0_3], .int .i64 a1, .ptr 0 0] [some [.int .i64 h0_0]] =
    bsel (h0_0 == 0) (some (.bool false, [some [.int .i64 h0_0]])) (bsel (decide (10 < a1)) (some (.bool false, [some [.int .i64 h0_0]])) (bsel (decide (4 < (a0_3.length : Int))) (some (.bool false, [some [.int .i64 h0_0]])) (g41_L6 a1 a0 a0_1 a0_2 a0_3 (IntKind.i64.wrap (h0_0 - 1)) 0))) := (CC_run SS_ok rfl).trans (by kernel_rfl)
/-! overseer/expression.formed -/
noncomputable def g42_c : Code := bodyOf Try.f42
noncomputable def g42_E : AE := SS.ae 42 103
noncomputable def g42_X : XE := SS.xe SS.CC SS.LL g42_E 1
noncomputable def g42_K0 : AX → ASt → R := retK SS.P Try.f42.results.toList (SS.prm 42).ro 1 []
noncomputable def g42_c1 : Code := Code.sub [true, true, true, true, true] g42_c
noncomputable def g42_c2 : Code := Code.sub [true, true, true, true, true, true] g42_c
noncomputable def g42_K1 : AX → ASt → R := thenK (joinX g42_E 1 g42_c2 (exK g42_X g42_c2 g42_K0)) g42_K0
noncomputable def g42_K2 : AX → ASt → R := blkK 1 g42_K1
noncomputable def g42_c3 : Code := Code.sub [true, true, true, true, true, false, true, false, false] g42_c
noncomputable def g42_J14 (x1 : Int) (x2 : Int) (x4 : Int) (x4_a : Int) (x4_b : Int) (x4_c : List PV) (o0_0 : Int) : R := exK g42_X g42_c1 g42_K0 ⟨[(1, .int .i64 x1), (2, .int .i64 x2), (3, .ptr 0 0), (4, .cst (.agg [.int .i64 x4, .int .i64 x4_a, .int .i64 x4_b, .sl false 4 x4_c]))], [some [.int .i64 o0_0]]⟩
noncomputable def g42_L15 (x1 : Int) (x2 : Int) (x87 : List PV) (o0_0 : Int) (x89 : Int) : R := SS.LL g42_E 1 [1, 2, 3, 87, 88, 89] 1 g42_c3 g42_K2 ⟨[(1, .int .i64 x1), (2, .int .i64 x2), (3, .ptr 0 0), (87, .sl false 4 x87), (88, .int .i64 (x87.length : Int)), (89, .int .i64 x89)], [some [.int .i64 o0_0]]⟩
theorem g42_J14_eq (x1 : Int) (x2 : Int) (x4 : Int) (x4_a : Int) (x4_b : Int) (x4_c : List PV) (o0_0 : Int) : g42_J14 x1 x2 x4 x4_a x4_b x4_c o0_0 =
    g42_L15 x1 x2 x4_c o0_0 0 := by kernel_rfl
theorem g42_L15_eq (x1 : Int) (x2 : Int) (x87 : List PV) (o0_0 : Int) (x89 : Int) : g42_L15 x1 x2 x87 o0_0 x89 =
    bsel (decide (x89 < (x87.length : Int))) (lgetX x87 x89 fun e1 => v23 e1 fun n2 n3 n4 l5 => clH SS.CC 42 [.agg [.int .i64 n2, .int .i64 n3, .int .i64 n4, .sl false 4 l5], .int .i64 x1, .int .i64 (IntKind.i64.wrap (x2 + 1)), .ptr 0 0] [some [.int .i64 o0_0]] fun r8 h9 => h42_0 r8 h9 fun n6 n7 => bsel (n6 != 0) (some (.int .i64 n6, [some [.int .i64 n7]])) (g42_L15 x1 x2 x87 n7 (IntKind.i64.wrap (x89 + 1)))) (some (.int .i64 0, [some [.int .i64 o0_0]])) := (LL_eq SS_ok (by decide) (by kernel_rfl) (by kernel_rfl)).trans (by kernel_rfl)
theorem g42_eq (a0 : Int) (a0_1 : Int) (a0_2 : Int) (a0_3 : List PV) (a1 : Int) (a2 : Int) (h0_0 : Int) : SS.CC 42 [.agg [.int .i64 a0, .int .i64 a0_1, .int .i64 a0_2, .sl false 4 a0_3], .int .i64 a1, .int .i64 a2, .ptr 0 0] [some [.int .i64 h0_0]] =
    bsel (h0_0 == 64) (some (.int .i64 3, [some [.int .i64 h0_0]])) (bsel (decide (8 < a2)) (some (.int .i64 3, [some [.int .i64 h0_0]])) (clX SS.CC 65 [.int .i64 a0] fun r3 => w_3_4 r3 fun n1 b2 => bsel (!b2) (some (.int .i64 11, [some [.int .i64 (IntKind.i64.wrap (h0_0 + 1))]])) (bsel ((a0_3.length : Int) != n1) (some (.int .i64 4, [some [.int .i64 (IntKind.i64.wrap (h0_0 + 1))]])) (bsel (a0 != 0) (bsel (a0_1 != 0) (some (.int .i64 6, [some [.int .i64 (IntKind.i64.wrap (h0_0 + 1))]])) (bsel (a0 != 1) (bsel (a0_2 != 0) (some (.int .i64 6, [some [.int .i64 (IntKind.i64.wrap (h0_0 + 1))]])) (bsel (a0 == 0) (clX SS.CC 49 [.int .i64 a0_1, .int .i64 65536] fun r5 => vB r5 fun b4 => bsel b4 (some (.int .i64 2, [some [.int .i64 (IntKind.i64.wrap (h0_0 + 1))]])) (bsel (a0 == 1) (bsel (decide (a0_2 < 0)) (some (.int .i64 2, [some [.int .i64 (IntKind.i64.wrap (h0_0 + 1))]])) (bsel (decide (a1 ≤ a0_2)) (some (.int .i64 2, [some [.int .i64 (IntKind.i64.wrap (h0_0 + 1))]])) (g42_J14 a1 a2 a0 a0_1 a0_2 a0_3 (IntKind.i64.wrap (h0_0 + 1))))) (g42_J14 a1 a2 a0 a0_1 a0_2 a0_3 (IntKind.i64.wrap (h0_0 + 1))))) (bsel (a0 == 1) (bsel (decide (a0_2 < 0)) (some (.int .i64 2, [some [.int .i64 (IntKind.i64.wrap (h0_0 + 1))]])) (bsel (decide (a1 ≤ a0_2)) (some (.int .i64 2, [some [.int .i64 (IntKind.i64.wrap (h0_0 + 1))]])) (g42_J14 a1 a2 a0 a0_1 a0_2 a0_3 (IntKind.i64.wrap (h0_0 + 1))))) (g42_J14 a1 a2 a0 a0_1 a0_2 a0_3 (IntKind.i64.wrap (h0_0 + 1)))))) (bsel (a0 == 0) (clX SS.CC 49 [.int .i64 a0_1, .int .i64 65536] fun r7 => vB r7 fun b6 => bsel b6 (some (.int .i64 2, [some [.int .i64 (IntKind.i64.wrap (h0_0 + 1))]])) (bsel (a0 == 1) (bsel (decide (a0_2 < 0)) (some (.int .i64 2, [some [.int .i64 (IntKind.i64.wrap (h0_0 + 1))]])) (bsel (decide (a1 ≤ a0_2)) (some (.int .i64 2, [some [.int .i64 (IntKind.i64.wrap (h0_0 + 1))]])) (g42_J14 a1 a2 a0 a0_1 a0_2 a0_3 (IntKind.i64.wrap (h0_0 + 1))))) (g42_J14 a1 a2 a0 a0_1 a0_2 a0_3 (IntKind.i64.wrap (h0_0 + 1))))) (bsel (a0 == 1) (bsel (decide (a0_2 < 0)) (some (.int .i64 2, [some [.int .i64 (IntKind.i64.wrap (h0_0 + 1))]])) (bsel (decide (a1 ≤ a0_2)) (some (.int .i64 2, [some [.int .i64 (IntKind.i64.wrap (h0_0 + 1))]])) (g42_J14 a1 a2 a0 a0_1 a0_2 a0_3 (IntKind.i64.wrap (h0_0 + 1))))) (g42_J14 a1 a2 a0 a0_1 a0_2 a0_3 (IntKind.i64.wrap (h0_0 + 1))))))) (bsel (a0 != 1) (bsel (a0_2 != 0) (some (.int .i64 6, [some [.int .i64 (IntKind.i64.wrap (h0_0 + 1))]])) (bsel (a0 == 0) (clX SS.CC 49 [.int .i64 a0_1, .int .i64 65536] fun r9 => vB r9 fun b8 => bsel b8 (some (.int .i64 2, [some [.int .i64 (IntKind.i64.wrap (h0_0 + 1))]])) (bsel (a0 == 1) (bsel (decide (a0_2 < 0)) (some (.int .i64 2, [some [.int .i64 (IntKind.i64.wrap (h0_0 + 1))]])) (bsel (decide (a1 ≤ a0_2)) (some (.int .i64 2, [some [.int .i64 (IntKind.i64.wrap (h0_0 + 1))]])) (g42_J14 a1 a2 a0 a0_1 a0_2 a0_3 (IntKind.i64.wrap (h0_0 + 1))))) (g42_J14 a1 a2 a0 a0_1 a0_2 a0_3 (IntKind.i64.wrap (h0_0 + 1))))) (bsel (a0 == 1) (bsel (decide (a0_2 < 0)) (some (.int .i64 2, [some [.int .i64 (IntKind.i64.wrap (h0_0 + 1))]])) (bsel (decide (a1 ≤ a0_2)) (some (.int .i64 2, [some [.int .i64 (IntKind.i64.wrap (h0_0 + 1))]])) (g42_J14 a1 a2 a0 a0_1 a0_2 a0_3 (IntKind.i64.wrap (h0_0 + 1))))) (g42_J14 a1 a2 a0 a0_1 a0_2 a0_3 (IntKind.i64.wrap (h0_0 + 1)))))) (bsel (a0 == 0) (clX SS.CC 49 [.int .i64 a0_1, .int .i64 65536] fun r11 => vB r11 fun b10 => bsel b10 (some (.int .i64 2, [some [.int .i64 (IntKind.i64.wrap (h0_0 + 1))]])) (bsel (a0 == 1) (bsel (decide (a0_2 < 0)) (some (.int .i64 2, [some [.int .i64 (IntKind.i64.wrap (h0_0 + 1))]])) (bsel (decide (a1 ≤ a0_2)) (some (.int .i64 2, [some [.int .i64 (IntKind.i64.wrap (h0_0 + 1))]])) (g42_J14 a1 a2 a0 a0_1 a0_2 a0_3 (IntKind.i64.wrap (h0_0 + 1))))) (g42_J14 a1 a2 a0 a0_1 a0_2 a0_3 (IntKind.i64.wrap (h0_0 + 1))))) (bsel (a0 == 1) (bsel (decide (a0_2 < 0)) (some (.int .i64 2, [some [.int .i64 (IntKind.i64.wrap (h0_0 + 1))]])) (bsel (decide (a1 ≤ a0_2)) (some (.int .i64 2, [some [.int .i64 (IntKind.i64.wrap (h0_0 + 1))]])) (g42_J14 a1 a2 a0 a0_1 a0_2 a0_3 (IntKind.i64.wrap (h0_0 + 1))))) (g42_J14 a1 a2 a0 a0_1 a0_2 a0_3 (IntKind.i64.wrap (h0_0 + 1)))))))))) := (CC_run SS_ok rfl).trans (by kernel_rfl)
/-! overseer/expression.kind -/
noncomputable def g43_c : Code := bodyOf Try.f43
noncomputable def g43_E : AE := SS.ae 43 68
noncomputable def g43_X : XE := SS.xe SS.CC SS.LL g43_E 0
noncomputable def g43_K0 : AX → ASt → R := retK SS.P Try.f43.results.toList (SS.prm 43).ro 0 []
noncomputable def g43_c1 : Code := Code.sub [true, true, true] g43_c
noncomputable def g43_K1 : AX → ASt → R := thenK (joinX g43_E 0 g43_c1 (exK g43_X g43_c1 g43_K0)) g43_K0
noncomputable def g43_K2 : AX → ASt → R := blkK 0 g43_K1
noncomputable def g43_c2 : Code := Code.sub [true, true, false, true, false, false] g43_c
noncomputable def g43_L4 (x1 : Int) (x1_a : Int) (x1_b : Int) (x1_c : List PV) (x11 : Int) (o0_0 : List PV) : R := SS.LL g43_E 0 [1, 3, 9, 10, 11] 1 g43_c2 g43_K2 ⟨[(1, .cst (.agg [.int .i64 x1, .int .i64 x1_a, .int .i64 x1_b, .sl false 4 x1_c])), (3, .ptr 0 0), (9, .sl false 4 x1_c), (10, .int .i64 (x1_c.length : Int)), (11, .int .i64 x11)], [some [.sl true 1 o0_0]]⟩
theorem g43_L4_eq (x1 : Int) (x1_a : Int) (x1_b : Int) (x1_c : List PV) (x11 : Int) (o0_0 : List PV) : g43_L4 x1 x1_a x1_b x1_c x11 o0_0 =
    bsel (decide (x11 < (x1_c.length : Int))) (lgetX x1_c x11 fun e1 => v23 e1 fun n2 n3 n4 l5 => clX SS.CC 43 [.agg [.int .i64 n2, .int .i64 n3, .int .i64 n4, .sl false 4 l5]] fun r7 => vI .i64 r7 fun n6 => bsel (n6 == 0) (some (.int .i64 0, [])) (chk (decide (o0_0.length + 1 ≤ LIM)) (g43_L4 x1 x1_a x1_b x1_c (IntKind.i64.wrap (x11 + 1)) (o0_0 ++ [.int .i64 n6])))) (bsel (x1 == 0) (some (.int .i64 1, [])) (bsel (x1 == 1) (some (.int .i64 1, [])) (bsel (x1 == 2) (clH SS.CC 66 [.int .i64 1, .ptr 0 0] [some [.sl true 1 o0_0]] fun r10 h11 => h66_0 r10 h11 fun b8 l9 => bsel b8 (some (.int .i64 1, [])) (some (.int .i64 0, []))) (bsel (x1 == 3) (clH SS.CC 66 [.int .i64 1, .ptr 0 0] [some [.sl true 1 o0_0]] fun r14 h15 => h66_0 r14 h15 fun b12 l13 => bsel b12 (some (.int .i64 1, [])) (some (.int .i64 0, []))) (bsel (x1 == 4) (clH SS.CC 66 [.int .i64 1, .ptr 0 0] [some [.sl true 1 o0_0]] fun r18 h19 => h66_0 r18 h19 fun b16 l17 => bsel b16 (some (.int .i64 1, [])) (some (.int .i64 0, []))) (bsel (x1 == 5) (clH SS.CC 66 [.int .i64 1, .ptr 0 0] [some [.sl true 1 o0_0]] fun r22 h23 => h66_0 r22 h23 fun b20 l21 => bsel b20 (some (.int .i64 1, [])) (some (.int .i64 0, []))) (bsel (x1 == 6) (clH SS.CC 66 [.int .i64 1, .ptr 0 0] [some [.sl true 1 o0_0]] fun r26 h27 => h66_0 r26 h27 fun b24 l25 => bsel b24 (some (.int .i64 2, [])) (some (.int .i64 0, []))) (bsel (x1 == 7) (clH SS.CC 66 [.int .i64 1, .ptr 0 0] [some [.sl true 1 o0_0]] fun r30 h31 => h66_0 r30 h31 fun b28 l29 => bsel b28 (some (.int .i64 2, [])) (some (.int .i64 0, []))) (bsel (x1 == 8) (clH SS.CC 66 [.int .i64 1, .ptr 0 0] [some [.sl true 1 o0_0]] fun r34 h35 => h66_0 r34 h35 fun b32 l33 => bsel b32 (some (.int .i64 2, [])) (some (.int .i64 0, []))) (bsel (x1 == 9) (clH SS.CC 66 [.int .i64 1, .ptr 0 0] [some [.sl true 1 o0_0]] fun r38 h39 => h66_0 r38 h39 fun b36 l37 => bsel b36 (some (.int .i64 2, [])) (some (.int .i64 0, []))) (bsel (x1 == 10) (clH SS.CC 66 [.int .i64 2, .ptr 0 0] [some [.sl true 1 o0_0]] fun r42 h43 => h66_0 r42 h43 fun b40 l41 => bsel b40 (some (.int .i64 2, [])) (some (.int .i64 0, []))) (bsel (x1 == 11) (clH SS.CC 66 [.int .i64 2, .ptr 0 0] [some [.sl true 1 o0_0]] fun r46 h47 => h66_0 r46 h47 fun b44 l45 => bsel b44 (some (.int .i64 2, [])) (some (.int .i64 0, []))) (bsel (x1 == 12) (clH SS.CC 66 [.int .i64 2, .ptr 0 0] [some [.sl true 1 o0_0]] fun r50 h51 => h66_0 r50 h51 fun b48 l49 => bsel b48 (some (.int .i64 2, [])) (some (.int .i64 0, []))) (bsel (x1 == 13) (lgetX o0_0 0 fun e52 => vI .i64 e52 fun n53 => bsel (n53 == 2) (lgetX o0_0 1 fun e54 => vI .i64 e54 fun n55 => lgetX o0_0 2 fun e56 => vI .i64 e56 fun n57 => bsel (n55 == n57) (lgetX o0_0 1 fun e58 => vI .i64 e58 fun n59 => some (.int .i64 n59, [])) (some (.int .i64 0, []))) (some (.int .i64 0, []))) (some (.int .i64 0, [])))))))))))))))) := (LL_eq SS_ok (by decide) (by kernel_rfl) (by kernel_rfl)).trans (by kernel_rfl)
theorem g43_eq (a0 : Int) (a0_1 : Int) (a0_2 : Int) (a0_3 : List PV) : SS.CC 43 [.agg [.int .i64 a0, .int .i64 a0_1, .int .i64 a0_2, .sl false 4 a0_3]] [] =
    g43_L4 a0 a0_1 a0_2 a0_3 0 [] := (CC_run SS_ok rfl).trans (by kernel_rfl)
/-! overseer/overseerlaw14.form -/
noncomputable def g44_c : Code := bodyOf Try.f44
noncomputable def g44_E : AE := SS.ae 44 101
noncomputable def g44_X : XE := SS.xe SS.CC SS.LL g44_E 1
noncomputable def g44_K0 : AX → ASt → R := retK SS.P Try.f44.results.toList (SS.prm 44).ro 1 []
noncomputable def g44_c1 : Code := Code.sub [true, true] g44_c
noncomputable def g44_c2 : Code := Code.sub [true, true, true, true] g44_c
noncomputable def g44_K1 : AX → ASt → R := thenK (joinX g44_E 1 g44_c2 (exK g44_X g44_c2 g44_K0)) g44_K0
noncomputable def g44_K2 : AX → ASt → R := blkK 1 g44_K1
noncomputable def g44_c3 : Code := Code.sub [true, true, true, false, true, false, false] g44_c
noncomputable def g44_J12 (x1 : Int) (x2 : Int) (x4 : Int) (x4_a : Int) (x4_b : Int) (x4_c : List PV) (o0_0 : Int) : R := exK g44_X g44_c1 g44_K0 ⟨[(1, .int .i64 x1), (2, .int .i64 x2), (3, .ptr 0 0), (4, .cst (.agg [.int .i64 x4, .int .i64 x4_a, .int .i64 x4_b, .sl false 4 x4_c]))], [some [.int .i64 o0_0]]⟩
noncomputable def g44_L14 (x1 : Int) (x2 : Int) (x4 : Int) (x4_a : Int) (x4_b : Int) (x4_c : List PV) (o0_0 : Int) (x9 : Int) : R := SS.LL g44_E 1 [1, 2, 3, 4, 9] 1 g44_c3 g44_K2 ⟨[(1, .int .i64 x1), (2, .int .i64 x2), (3, .ptr 0 0), (4, .cst (.agg [.int .i64 x4, .int .i64 x4_a, .int .i64 x4_b, .sl false 4 x4_c])), (9, .int .i64 x9)], [some [.int .i64 o0_0]]⟩
theorem g44_J12_eq (x1 : Int) (x2 : Int) (x4 : Int) (x4_a : Int) (x4_b : Int) (x4_c : List PV) (o0_0 : Int) : g44_J12 x1 x2 x4 x4_a x4_b x4_c o0_0 =
    g44_L14 x1 x2 x4 x4_a x4_b x4_c (IntKind.i64.wrap (o0_0 - 1)) 0 := by kernel_rfl
theorem g44_L14_eq (x1 : Int) (x2 : Int) (x4 : Int) (x4_a : Int) (x4_b : Int) (x4_c : List PV) (o0_0 : Int) (x9 : Int) : g44_L14 x1 x2 x4 x4_a x4_b x4_c o0_0 x9 =
    bsel (decide (x9 < (x4_c.length : Int))) (lgetX x4_c x9 fun e1 => v23 e1 fun n2 n3 n4 l5 => clH SS.CC 44 [.agg [.int .i64 n2, .int .i64 n3, .int .i64 n4, .sl false 4 l5], .int .i64 x1, .int .i64 (IntKind.i64.wrap (x2 + 1)), .ptr 0 0] [some [.int .i64 o0_0]] fun r8 h9 => h44_0 r8 h9 fun n6 n7 => bsel (n6 != 0) (some (.int .i64 n6, [some [.int .i64 n7]])) (g44_L14 x1 x2 x4 x4_a x4_b x4_c n7 (IntKind.i64.wrap (x9 + 1)))) (some (.int .i64 0, [some [.int .i64 o0_0]])) := (LL_eq SS_ok (by decide) (by kernel_rfl) (by kernel_rfl)).trans (by kernel_rfl)
theorem g44_eq (a0 : Int) (a0_1 : Int) (a0_2 : Int) (a0_3 : List PV) (a1 : Int) (a2 : Int) (h0_0 : Int) : SS.CC 44 [.agg [.int .i64 a0, .int .i64 a0_1, .int .i64 a0_2, .sl false 4 a0_3], .int .i64 a1, .int .i64 a2, .ptr 0 0] [some [.int .i64 h0_0]] =
    bsel (h0_0 == 0) (some (.int .i64 3, [some [.int .i64 h0_0]])) (bsel (decide (8 < a2)) (some (.int .i64 3, [some [.int .i64 h0_0]])) (bsel (decide (a0 < 0)) (some (.int .i64 11, [some [.int .i64 h0_0]])) (bsel (decide (13 < a0)) (some (.int .i64 11, [some [.int .i64 h0_0]])) (clX SS.CC 68 [.int .i64 a0] fun r2 => vI .i64 r2 fun n1 => bsel ((a0_3.length : Int) != n1) (some (.int .i64 4, [some [.int .i64 h0_0]])) (bsel (a0 != 0) (bsel (a0_1 != 0) (some (.int .i64 6, [some [.int .i64 h0_0]])) (bsel (a0 != 1) (bsel (a0_2 != 0) (some (.int .i64 6, [some [.int .i64 h0_0]])) (clX SS.CC 19 [.int .i64 a0_1, .int .i64 65536] fun r4 => vB r4 fun b3 => bsel b3 (some (.int .i64 2, [some [.int .i64 h0_0]])) (bsel (a0 == 1) (bsel (decide (a0_2 < 0)) (some (.int .i64 2, [some [.int .i64 h0_0]])) (bsel (decide (a1 ≤ a0_2)) (some (.int .i64 2, [some [.int .i64 h0_0]])) (g44_J12 a1 a2 a0 a0_1 a0_2 a0_3 h0_0))) (g44_J12 a1 a2 a0 a0_1 a0_2 a0_3 h0_0)))) (clX SS.CC 19 [.int .i64 a0_1, .int .i64 65536] fun r6 => vB r6 fun b5 => bsel b5 (some (.int .i64 2, [some [.int .i64 h0_0]])) (bsel (a0 == 1) (bsel (decide (a0_2 < 0)) (some (.int .i64 2, [some [.int .i64 h0_0]])) (bsel (decide (a1 ≤ a0_2)) (some (.int .i64 2, [some [.int .i64 h0_0]])) (g44_J12 a1 a2 a0 a0_1 a0_2 a0_3 h0_0))) (g44_J12 a1 a2 a0 a0_1 a0_2 a0_3 h0_0))))) (bsel (a0 != 1) (bsel (a0_2 != 0) (some (.int .i64 6, [some [.int .i64 h0_0]])) (clX SS.CC 19 [.int .i64 a0_1, .int .i64 65536] fun r8 => vB r8 fun b7 => bsel b7 (some (.int .i64 2, [some [.int .i64 h0_0]])) (bsel (a0 == 1) (bsel (decide (a0_2 < 0)) (some (.int .i64 2, [some [.int .i64 h0_0]])) (bsel (decide (a1 ≤ a0_2)) (some (.int .i64 2, [some [.int .i64 h0_0]])) (g44_J12 a1 a2 a0 a0_1 a0_2 a0_3 h0_0))) (g44_J12 a1 a2 a0 a0_1 a0_2 a0_3 h0_0)))) (clX SS.CC 19 [.int .i64 a0_1, .int .i64 65536] fun r10 => vB r10 fun b9 => bsel b9 (some (.int .i64 2, [some [.int .i64 h0_0]])) (bsel (a0 == 1) (bsel (decide (a0_2 < 0)) (some (.int .i64 2, [some [.int .i64 h0_0]])) (bsel (decide (a1 ≤ a0_2)) (some (.int .i64 2, [some [.int .i64 h0_0]])) (g44_J12 a1 a2 a0 a0_1 a0_2 a0_3 h0_0))) (g44_J12 a1 a2 a0 a0_1 a0_2 a0_3 h0_0))))))))) := (CC_run SS_ok rfl).trans (by kernel_rfl)
/-! slices.EqualFunc[[]overseer/api.Expr,[]overseer/api.Expr,overseer/api.Expr,overseer/api.Expr] -/
noncomputable def g45_c : Code := bodyOf Try.f45
noncomputable def g45_E : AE := SS.ae 45 32
noncomputable def g45_X : XE := SS.xe SS.CC SS.LL g45_E 0
noncomputable def g45_K0 : AX → ASt → R := retK SS.P Try.f45.results.toList (SS.prm 45).ro 0 []
noncomputable def g45_c1 : Code := Code.sub [true, true, true] g45_c
noncomputable def g45_K1 : AX → ASt → R := thenK (joinX g45_E 0 g45_c1 (exK g45_X g45_c1 g45_K0)) g45_K0
noncomputable def g45_K2 : AX → ASt → R := blkK 0 g45_K1
noncomputable def g45_c2 : Code := Code.sub [true, true, false, true, false, false] g45_c
noncomputable def g45_L5 (x1 : List PV) (x15 : List PV) (x17 : Int) : R := SS.LL g45_E 0 [1, 2, 15, 16, 17] 0 g45_c2 g45_K2 ⟨[(1, .sl false 4 x1), (2, .func (.func 16) [] []), (15, .sl false 4 x15), (16, .int .i64 (x15.length : Int)), (17, .int .i64 x17)], []⟩
theorem g45_L5_eq (x1 : List PV) (x15 : List PV) (x17 : Int) : g45_L5 x1 x15 x17 =
    bsel (decide (x17 < (x15.length : Int))) (lgetX x15 x17 fun e1 => v23 e1 fun n2 n3 n4 l5 => lgetX x1 x17 fun e6 => v23 e6 fun n7 n8 n9 l10 => clX SS.CC 16 [.agg [.int .i64 n2, .int .i64 n3, .int .i64 n4, .sl false 4 l5], .agg [.int .i64 n7, .int .i64 n8, .int .i64 n9, .sl false 4 l10]] fun r12 => vB r12 fun b11 => bsel (!b11) (some (.bool false, [])) (g45_L5 x1 x15 (IntKind.i64.wrap (x17 + 1)))) (some (.bool true, [])) := (LL_eq SS_ok (by decide) (by kernel_rfl) (by kernel_rfl)).trans (by kernel_rfl)
theorem g45_eq (a0 : List PV) (a1 : List PV) : SS.CC 45 [.sl false 4 a0, .sl false 4 a1, .func (.func 16) [] []] [] =
    bsel ((a0.length : Int) != (a1.length : Int)) (some (.bool false, [])) (g45_L5 a1 a0 0) := (CC_run SS_ok rfl).trans (by kernel_rfl)
/-! (*overseer/overseerlaw14.grower).grow -/
noncomputable def g46_c : Code := bodyOf Try.f46
noncomputable def g46_E : AE := SS.ae 46 183
noncomputable def g46_X : XE := SS.xe SS.CC SS.LL g46_E 1
theorem g46_eq (a1 : Int) (a2 : Int) (h0_0 : List PV) (h0_1 : Int) (h0_2 : Int) : SS.CC 46 [.ptr 0 0, .int .i64 a1, .int .i64 a2] [some [.sl false 1 h0_0, .int .i64 h0_1, .int .i64 h0_2]] =
    clH SS.CC 69 [.ptr 0 0] [some [.sl false 1 h0_0, .int .i64 h0_1, .int .i64 (IntKind.i64.wrap (h0_2 + 1))]] fun r5 h6 => h69_0 r5 h6 fun n1 l2 n3 n4 => bsel (a1 == 1) (bsel (decide (a2 ≤ 1)) (bsel ((Int.tmod n1 2) == 0) (bsel (decide (0 < n3)) (chk (!(n3 == 0)) (some (.agg [.int .i64 1, .int .i64 0, .int .i64 (Int.tmod (IntKind.i64.wrap (Int.tdiv n1 8)) n3), .sl false 4 []], [some [.sl false 1 l2, .int .i64 n3, .int .i64 n4]]))) (some (.agg [.int .i64 0, .int .i64 (IntKind.i64.wrap ((IntKind.i64.wrap (Int.tdiv n1 8)) - 8)), .int .i64 0, .sl false 4 []], [some [.sl false 1 l2, .int .i64 n3, .int .i64 n4]]))) (some (.agg [.int .i64 0, .int .i64 (IntKind.i64.wrap ((IntKind.i64.wrap (Int.tdiv n1 8)) - 8)), .int .i64 0, .sl false 4 []], [some [.sl false 1 l2, .int .i64 n3, .int .i64 n4]]))) (bsel (decide (12 < n4)) (bsel ((Int.tmod n1 2) == 0) (bsel (decide (0 < n3)) (chk (!(n3 == 0)) (some (.agg [.int .i64 1, .int .i64 0, .int .i64 (Int.tmod (IntKind.i64.wrap (Int.tdiv n1 8)) n3), .sl false 4 []], [some [.sl false 1 l2, .int .i64 n3, .int .i64 n4]]))) (some (.agg [.int .i64 0, .int .i64 (IntKind.i64.wrap ((IntKind.i64.wrap (Int.tdiv n1 8)) - 8)), .int .i64 0, .sl false 4 []], [some [.sl false 1 l2, .int .i64 n3, .int .i64 n4]]))) (some (.agg [.int .i64 0, .int .i64 (IntKind.i64.wrap ((IntKind.i64.wrap (Int.tdiv n1 8)) - 8)), .int .i64 0, .sl false 4 []], [some [.sl false 1 l2, .int .i64 n3, .int .i64 n4]]))) (bsel (decide ((Int.tmod n1 8) < 4)) (bsel ((Int.tmod n1 2) == 0) (bsel (decide (0 < n3)) (chk (!(n3 == 0)) (some (.agg [.int .i64 1, .int .i64 0, .int .i64 (Int.tmod (IntKind.i64.wrap (Int.tdiv n1 8)) n3), .sl false 4 []], [some [.sl false 1 l2, .int .i64 n3, .int .i64 n4]]))) (some (.agg [.int .i64 0, .int .i64 (IntKind.i64.wrap ((IntKind.i64.wrap (Int.tdiv n1 8)) - 8)), .int .i64 0, .sl false 4 []], [some [.sl false 1 l2, .int .i64 n3, .int .i64 n4]]))) (some (.agg [.int .i64 0, .int .i64 (IntKind.i64.wrap ((IntKind.i64.wrap (Int.tdiv n1 8)) - 8)), .int .i64 0, .sl false 4 []], [some [.sl false 1 l2, .int .i64 n3, .int .i64 n4]]))) (bsel ((Int.tmod n1 8) == 4) (clH SS.CC 46 [.ptr 0 0, .int .i64 a1, .int .i64 (IntKind.i64.wrap (a2 - 1))] [some [.sl false 1 l2, .int .i64 n3, .int .i64 n4]] fun r14 h15 => h46_0 r14 h15 fun n7 n8 n9 l10 l11 n12 n13 => some (.agg [.int .i64 5, .int .i64 0, .int .i64 0, .sl false 4 [.agg [.int .i64 n7, .int .i64 n8, .int .i64 n9, .sl false 4 l10]]], [some [.sl false 1 l11, .int .i64 n12, .int .i64 n13]])) (bsel ((Int.tmod n1 8) == 5) (clH SS.CC 46 [.ptr 0 0, .int .i64 2, .int .i64 (IntKind.i64.wrap (a2 - 1))] [some [.sl false 1 l2, .int .i64 n3, .int .i64 n4]] fun r23 h24 => h46_0 r23 h24 fun n16 n17 n18 l19 l20 n21 n22 => clH SS.CC 46 [.ptr 0 0, .int .i64 a1, .int .i64 (IntKind.i64.wrap (a2 - 1))] [some [.sl false 1 l20, .int .i64 n21, .int .i64 n22]] fun r32 h33 => h46_0 r32 h33 fun n25 n26 n27 l28 l29 n30 n31 => clH SS.CC 46 [.ptr 0 0, .int .i64 a1, .int .i64 (IntKind.i64.wrap (a2 - 1))] [some [.sl false 1 l29, .int .i64 n30, .int .i64 n31]] fun r41 h42 => h46_0 r41 h42 fun n34 n35 n36 l37 l38 n39 n40 => some (.agg [.int .i64 13, .int .i64 0, .int .i64 0, .sl false 4 [.agg [.int .i64 n16, .int .i64 n17, .int .i64 n18, .sl false 4 l19], .agg [.int .i64 n25, .int .i64 n26, .int .i64 n27, .sl false 4 l28], .agg [.int .i64 n34, .int .i64 n35, .int .i64 n36, .sl false 4 l37]]], [some [.sl false 1 l38, .int .i64 n39, .int .i64 n40]])) (clH SS.CC 46 [.ptr 0 0, .int .i64 a1, .int .i64 (IntKind.i64.wrap (a2 - 1))] [some [.sl false 1 l2, .int .i64 n3, .int .i64 n4]] fun r50 h51 => h46_0 r50 h51 fun n43 n44 n45 l46 l47 n48 n49 => clH SS.CC 46 [.ptr 0 0, .int .i64 a1, .int .i64 (IntKind.i64.wrap (a2 - 1))] [some [.sl false 1 l47, .int .i64 n48, .int .i64 n49]] fun r59 h60 => h46_0 r59 h60 fun n52 n53 n54 l55 l56 n57 n58 => some (.agg [.int .i64 (IntKind.i64.wrap (2 + (Int.tmod (IntKind.i64.wrap (Int.tdiv n1 8)) 3))), .int .i64 0, .int .i64 0, .sl false 4 [.agg [.int .i64 n43, .int .i64 n44, .int .i64 n45, .sl false 4 l46], .agg [.int .i64 n52, .int .i64 n53, .int .i64 n54, .sl false 4 l55]]], [some [.sl false 1 l56, .int .i64 n57, .int .i64 n58]]))))))) (bsel (decide (a2 ≤ 1)) (clX SS.CC 39 [.bool ((Int.tmod n1 2) == 0)] fun r65 => v23 r65 fun n61 n62 n63 l64 => some (.agg [.int .i64 n61, .int .i64 n62, .int .i64 n63, .sl false 4 l64], [some [.sl false 1 l2, .int .i64 n3, .int .i64 n4]])) (bsel (decide (a2 ≤ 2)) (clH SS.CC 46 [.ptr 0 0, .int .i64 1, .int .i64 (IntKind.i64.wrap (a2 - 1))] [some [.sl false 1 l2, .int .i64 n3, .int .i64 n4]] fun r73 h74 => h46_0 r73 h74 fun n66 n67 n68 l69 l70 n71 n72 => clH SS.CC 46 [.ptr 0 0, .int .i64 1, .int .i64 (IntKind.i64.wrap (a2 - 1))] [some [.sl false 1 l70, .int .i64 n71, .int .i64 n72]] fun r82 h83 => h46_0 r82 h83 fun n75 n76 n77 l78 l79 n80 n81 => some (.agg [.int .i64 (IntKind.i64.wrap (6 + (Int.tmod (IntKind.i64.wrap (Int.tdiv n1 8)) 4))), .int .i64 0, .int .i64 0, .sl false 4 [.agg [.int .i64 n66, .int .i64 n67, .int .i64 n68, .sl false 4 l69], .agg [.int .i64 n75, .int .i64 n76, .int .i64 n77, .sl false 4 l78]]], [some [.sl false 1 l79, .int .i64 n80, .int .i64 n81]])) (bsel (decide (12 < n4)) (clH SS.CC 46 [.ptr 0 0, .int .i64 1, .int .i64 (IntKind.i64.wrap (a2 - 1))] [some [.sl false 1 l2, .int .i64 n3, .int .i64 n4]] fun r91 h92 => h46_0 r91 h92 fun n84 n85 n86 l87 l88 n89 n90 => clH SS.CC 46 [.ptr 0 0, .int .i64 1, .int .i64 (IntKind.i64.wrap (a2 - 1))] [some [.sl false 1 l88, .int .i64 n89, .int .i64 n90]] fun r100 h101 => h46_0 r100 h101 fun n93 n94 n95 l96 l97 n98 n99 => some (.agg [.int .i64 (IntKind.i64.wrap (6 + (Int.tmod (IntKind.i64.wrap (Int.tdiv n1 8)) 4))), .int .i64 0, .int .i64 0, .sl false 4 [.agg [.int .i64 n84, .int .i64 n85, .int .i64 n86, .sl false 4 l87], .agg [.int .i64 n93, .int .i64 n94, .int .i64 n95, .sl false 4 l96]]], [some [.sl false 1 l97, .int .i64 n98, .int .i64 n99]])) (bsel (decide ((Int.tmod n1 8) < 4)) (clH SS.CC 46 [.ptr 0 0, .int .i64 1, .int .i64 (IntKind.i64.wrap (a2 - 1))] [some [.sl false 1 l2, .int .i64 n3, .int .i64 n4]] fun r109 h110 => h46_0 r109 h110 fun n102 n103 n104 l105 l106 n107 n108 => clH SS.CC 46 [.ptr 0 0, .int .i64 1, .int .i64 (IntKind.i64.wrap (a2 - 1))] [some [.sl false 1 l106, .int .i64 n107, .int .i64 n108]] fun r118 h119 => h46_0 r118 h119 fun n111 n112 n113 l114 l115 n116 n117 => some (.agg [.int .i64 (IntKind.i64.wrap (6 + (Int.tmod (IntKind.i64.wrap (Int.tdiv n1 8)) 4))), .int .i64 0, .int .i64 0, .sl false 4 [.agg [.int .i64 n102, .int .i64 n103, .int .i64 n104, .sl false 4 l105], .agg [.int .i64 n111, .int .i64 n112, .int .i64 n113, .sl false 4 l114]]], [some [.sl false 1 l115, .int .i64 n116, .int .i64 n117]])) (bsel ((Int.tmod n1 8) == 4) (clH SS.CC 46 [.ptr 0 0, .int .i64 a1, .int .i64 (IntKind.i64.wrap (a2 - 1))] [some [.sl false 1 l2, .int .i64 n3, .int .i64 n4]] fun r127 h128 => h46_0 r127 h128 fun n120 n121 n122 l123 l124 n125 n126 => some (.agg [.int .i64 10, .int .i64 0, .int .i64 0, .sl false 4 [.agg [.int .i64 n120, .int .i64 n121, .int .i64 n122, .sl false 4 l123]]], [some [.sl false 1 l124, .int .i64 n125, .int .i64 n126]])) (bsel ((Int.tmod n1 8) == 5) (clH SS.CC 46 [.ptr 0 0, .int .i64 a1, .int .i64 (IntKind.i64.wrap (a2 - 1))] [some [.sl false 1 l2, .int .i64 n3, .int .i64 n4]] fun r136 h137 => h46_0 r136 h137 fun n129 n130 n131 l132 l133 n134 n135 => clH SS.CC 46 [.ptr 0 0, .int .i64 a1, .int .i64 (IntKind.i64.wrap (a2 - 1))] [some [.sl false 1 l133, .int .i64 n134, .int .i64 n135]] fun r145 h146 => h46_0 r145 h146 fun n138 n139 n140 l141 l142 n143 n144 => clH SS.CC 46 [.ptr 0 0, .int .i64 a1, .int .i64 (IntKind.i64.wrap (a2 - 1))] [some [.sl false 1 l142, .int .i64 n143, .int .i64 n144]] fun r154 h155 => h46_0 r154 h155 fun n147 n148 n149 l150 l151 n152 n153 => some (.agg [.int .i64 13, .int .i64 0, .int .i64 0, .sl false 4 [.agg [.int .i64 n129, .int .i64 n130, .int .i64 n131, .sl false 4 l132], .agg [.int .i64 n138, .int .i64 n139, .int .i64 n140, .sl false 4 l141], .agg [.int .i64 n147, .int .i64 n148, .int .i64 n149, .sl false 4 l150]]], [some [.sl false 1 l151, .int .i64 n152, .int .i64 n153]])) (clH SS.CC 46 [.ptr 0 0, .int .i64 a1, .int .i64 (IntKind.i64.wrap (a2 - 1))] [some [.sl false 1 l2, .int .i64 n3, .int .i64 n4]] fun r163 h164 => h46_0 r163 h164 fun n156 n157 n158 l159 l160 n161 n162 => clH SS.CC 46 [.ptr 0 0, .int .i64 a1, .int .i64 (IntKind.i64.wrap (a2 - 1))] [some [.sl false 1 l160, .int .i64 n161, .int .i64 n162]] fun r172 h173 => h46_0 r172 h173 fun n165 n166 n167 l168 l169 n170 n171 => some (.agg [.int .i64 (IntKind.i64.wrap (11 + (Int.tmod (IntKind.i64.wrap (Int.tdiv n1 8)) 2))), .int .i64 0, .int .i64 0, .sl false 4 [.agg [.int .i64 n156, .int .i64 n157, .int .i64 n158, .sl false 4 l159], .agg [.int .i64 n165, .int .i64 n166, .int .i64 n167, .sl false 4 l168]]], [some [.sl false 1 l169, .int .i64 n170, .int .i64 n171]])))))))) := (CC_run SS_ok rfl).trans (by kernel_rfl)
/-! slices.ContainsFunc[[]int,int] -/
noncomputable def g47_c : Code := bodyOf Try.f47
noncomputable def g47_E : AE := SS.ae 47 9
noncomputable def g47_X : XE := SS.xe SS.CC SS.LL g47_E 0
theorem g47_eq (a0 : List PV) : SS.CC 47 [.sl false 1 a0, .func (.func 48) [] []] [] =
    clX SS.CC 70 [.sl false 1 a0, .func (.func 48) [] []] fun r2 => vI .i64 r2 fun n1 => some (.bool (decide (0 ≤ n1)), []) := (CC_run SS_ok rfl).trans (by kernel_rfl)
/-! overseer/expression.evaluate -/
noncomputable def g50_c : Code := bodyOf Try.f50
noncomputable def g50_E : AE := SS.ae 50 78
noncomputable def g50_X : XE := SS.xe SS.CC SS.LL g50_E 0
noncomputable def g50_K0 : AX → ASt → R := retK SS.P Try.f50.results.toList (SS.prm 50).ro 0 []
noncomputable def g50_c1 : Code := Code.sub [true, true, true, true] g50_c
noncomputable def g50_K1 : AX → ASt → R := thenK (joinX g50_E 0 g50_c1 (exK g50_X g50_c1 g50_K0)) g50_K0
noncomputable def g50_K2 : AX → ASt → R := blkK 1 g50_K1
noncomputable def g50_c2 : Code := Code.sub [true, true, true, false, true, false, false] g50_c
noncomputable def g50_L14 (x1 : List PV) (x2 : Int) (x2_a : Int) (x2_b : Int) (x2_c : List PV) (x8 : List PV) (x53 : Int) : R := SS.LL g50_E 0 [1, 2, 8, 51, 52, 53] 0 g50_c2 g50_K2 ⟨[(1, .sl false 1 x1), (2, .cst (.agg [.int .i64 x2, .int .i64 x2_a, .int .i64 x2_b, .sl false 4 x2_c])), (8, .sl true 1 x8), (51, .sl false 4 x2_c), (52, .int .i64 (x2_c.length : Int)), (53, .int .i64 x53)], []⟩
theorem g50_L14_eq (x1 : List PV) (x2 : Int) (x2_a : Int) (x2_b : Int) (x2_c : List PV) (x8 : List PV) (x53 : Int) : g50_L14 x1 x2 x2_a x2_b x2_c x8 x53 =
    bsel (decide (x53 < (x2_c.length : Int))) (lgetX x2_c x53 fun e1 => v23 e1 fun n2 n3 n4 l5 => clX SS.CC 50 [.agg [.int .i64 n2, .int .i64 n3, .int .i64 n4, .sl false 4 l5], .sl false 1 x1] fun r8 => w_3_4 r8 fun n6 b7 => bsel (!b7) (some (.tuple [.int .i64 0, .bool false], [])) (chk (decide (x8.length + 1 ≤ LIM)) (g50_L14 x1 x2 x2_a x2_b x2_c (x8 ++ [.int .i64 n6]) (IntKind.i64.wrap (x53 + 1))))) (clX SS.CC 71 [.int .i64 x2, .sl false 1 x8] fun r10 => vI .i64 r10 fun n9 => clX SS.CC 49 [.int .i64 n9, .int .i64 1073741824] fun r12 => vB r12 fun b11 => some (.tuple [.int .i64 n9, .bool (!b11)], [])) := (LL_eq SS_ok (by decide) (by kernel_rfl) (by kernel_rfl)).trans (by kernel_rfl)
theorem g50_eq (a0 : Int) (a0_1 : Int) (a0_2 : Int) (a0_3 : List PV) (a1 : List PV) : SS.CC 50 [.agg [.int .i64 a0, .int .i64 a0_1, .int .i64 a0_2, .sl false 4 a0_3], .sl false 1 a1] [] =
    bsel (a0 == 0) (some (.tuple [.int .i64 a0_1, .bool true], [])) (bsel (a0 == 1) (lgetX a1 a0_2 fun e1 => vI .i64 e1 fun n2 => some (.tuple [.int .i64 n2, .bool true], [])) (bsel (a0 == 13) (lgetX a0_3 0 fun e3 => v23 e3 fun n4 n5 n6 l7 => clX SS.CC 50 [.agg [.int .i64 n4, .int .i64 n5, .int .i64 n6, .sl false 4 l7], .sl false 1 a1] fun r10 => w_3_4 r10 fun n8 b9 => bsel (!b9) (some (.tuple [.int .i64 0, .bool false], [])) (lgetX a0_3 (IntKind.i64.wrap (2 - n8)) fun e11 => v23 e11 fun n12 n13 n14 l15 => clX SS.CC 50 [.agg [.int .i64 n12, .int .i64 n13, .int .i64 n14, .sl false 4 l15], .sl false 1 a1] fun r18 => w_3_4 r18 fun n16 b17 => some (.tuple [.int .i64 n16, .bool b17], []))) (g50_L14 a1 a0 a0_1 a0_2 a0_3 [] 0))) := (CC_run SS_ok rfl).trans (by kernel_rfl)
/-! overseer/overseerlaw14.apply -/
noncomputable def g51_c : Code := bodyOf Try.f51
noncomputable def g51_E : AE := SS.ae 51 101
noncomputable def g51_X : XE := SS.xe SS.CC SS.LL g51_E 0
theorem g51_eq (a0 : Int) (a1 : List PV) : SS.CC 51 [.int .i64 a0, .sl false 1 a1] [] =
    bsel (a0 == 2) (lgetX a1 0 fun e1 => vI .i64 e1 fun n2 => lgetX a1 1 fun e3 => vI .i64 e3 fun n4 => some (.int .i64 (IntKind.i64.wrap (n2 + n4)), [])) (bsel (a0 == 3) (lgetX a1 0 fun e5 => vI .i64 e5 fun n6 => lgetX a1 1 fun e7 => vI .i64 e7 fun n8 => some (.int .i64 (IntKind.i64.wrap (n6 - n8)), [])) (bsel (a0 == 4) (lgetX a1 0 fun e9 => vI .i64 e9 fun n10 => lgetX a1 1 fun e11 => vI .i64 e11 fun n12 => some (.int .i64 (IntKind.i64.wrap (n10 * n12)), [])) (bsel (a0 == 5) (lgetX a1 0 fun e13 => vI .i64 e13 fun n14 => some (.int .i64 (IntKind.i64.wrap (0 - n14)), [])) (bsel (a0 == 6) (lgetX a1 0 fun e15 => vI .i64 e15 fun n16 => lgetX a1 1 fun e17 => vI .i64 e17 fun n18 => clX SS.CC 53 [.bool (n16 == n18)] fun r20 => vI .i64 r20 fun n19 => some (.int .i64 n19, [])) (bsel (a0 == 7) (lgetX a1 0 fun e21 => vI .i64 e21 fun n22 => lgetX a1 1 fun e23 => vI .i64 e23 fun n24 => clX SS.CC 53 [.bool (n22 != n24)] fun r26 => vI .i64 r26 fun n25 => some (.int .i64 n25, [])) (bsel (a0 == 8) (lgetX a1 0 fun e27 => vI .i64 e27 fun n28 => lgetX a1 1 fun e29 => vI .i64 e29 fun n30 => clX SS.CC 53 [.bool (decide (n28 < n30))] fun r32 => vI .i64 r32 fun n31 => some (.int .i64 n31, [])) (bsel (a0 == 9) (lgetX a1 0 fun e33 => vI .i64 e33 fun n34 => lgetX a1 1 fun e35 => vI .i64 e35 fun n36 => clX SS.CC 53 [.bool (decide (n34 ≤ n36))] fun r38 => vI .i64 r38 fun n37 => some (.int .i64 n37, [])) (bsel (a0 == 10) (lgetX a1 0 fun e39 => vI .i64 e39 fun n40 => some (.int .i64 (IntKind.i64.wrap (1 - n40)), [])) (bsel (a0 == 11) (lgetX a1 0 fun e41 => vI .i64 e41 fun n42 => lgetX a1 1 fun e43 => vI .i64 e43 fun n44 => some (.int .i64 (IntKind.i64.wrap (n42 * n44)), [])) (lgetX a1 0 fun e45 => vI .i64 e45 fun n46 => lgetX a1 1 fun e47 => vI .i64 e47 fun n48 => some (.int .i64 (if n48 > n46 then n48 else n46), []))))))))))) := (CC_run SS_ok rfl).trans (by kernel_rfl)
/-! overseer/overseerlaw14.bit -/
noncomputable def g53_c : Code := bodyOf Try.f53
noncomputable def g53_E : AE := SS.ae 53 4
noncomputable def g53_X : XE := SS.xe SS.CC SS.LL g53_E 0
theorem g53_eq (a0 : Bool) : SS.CC 53 [.bool a0] [] =
    bsel a0 (some (.int .i64 1, [])) (some (.int .i64 0, [])) := (CC_run SS_ok rfl).trans (by kernel_rfl)
/-! overseer/expression.large -/
noncomputable def g49_c : Code := bodyOf Try.f49
noncomputable def g49_E : AE := SS.ae 49 14
noncomputable def g49_X : XE := SS.xe SS.CC SS.LL g49_E 0
theorem g49_eq (a0 : Int) (a1 : Int) : SS.CC 49 [.int .i64 a0, .int .i64 a1] [] =
    bsel (decide (a1 < a0)) (some (.bool true, [])) (some (.bool (decide (a0 < (IntKind.i64.wrap (0 - a1)))), [])) := (CC_run SS_ok rfl).trans (by kernel_rfl)
/-! overseer/expression.arguments -/
noncomputable def g65_c : Code := bodyOf Try.f65
noncomputable def g65_E : AE := SS.ae 65 23
noncomputable def g65_X : XE := SS.xe SS.CC SS.LL g65_E 0
theorem g65_eq (a0 : Int) : SS.CC 65 [.int .i64 a0] [] =
    bsel (a0 == 0) (some (.tuple [.int .i64 0, .bool true], [])) (bsel (a0 == 1) (some (.tuple [.int .i64 0, .bool true], [])) (bsel (a0 == 5) (some (.tuple [.int .i64 1, .bool true], [])) (bsel (a0 == 10) (some (.tuple [.int .i64 1, .bool true], [])) (bsel (a0 == 2) (some (.tuple [.int .i64 2, .bool true], [])) (bsel (a0 == 3) (some (.tuple [.int .i64 2, .bool true], [])) (bsel (a0 == 4) (some (.tuple [.int .i64 2, .bool true], [])) (bsel (a0 == 6) (some (.tuple [.int .i64 2, .bool true], [])) (bsel (a0 == 7) (some (.tuple [.int .i64 2, .bool true], [])) (bsel (a0 == 8) (some (.tuple [.int .i64 2, .bool true], [])) (bsel (a0 == 9) (some (.tuple [.int .i64 2, .bool true], [])) (bsel (a0 == 11) (some (.tuple [.int .i64 2, .bool true], [])) (bsel (a0 == 12) (some (.tuple [.int .i64 2, .bool true], [])) (bsel (a0 == 13) (some (.tuple [.int .i64 3, .bool true], [])) (some (.tuple [.int .i64 0, .bool false], []))))))))))))))) := (CC_run SS_ok rfl).trans (by kernel_rfl)
/-! overseer/expression.kind$1 -/
noncomputable def g66_c : Code := bodyOf Try.f66
noncomputable def g66_E : AE := SS.ae 66 8
noncomputable def g66_X : XE := SS.xe SS.CC SS.LL g66_E 1
theorem g66_eq (a0 : Int) (h0_0 : List PV) : SS.CC 66 [.int .i64 a0, .ptr 0 0] [some [.sl true 1 h0_0]] =
    clX SS.CC 47 [.sl false 1 h0_0, .func (.func 67) [] [.cst (.int .i64 a0)]] fun r2 => vB r2 fun b1 => some (.bool (!b1), [some [.sl true 1 h0_0]]) := (CC_run SS_ok rfl).trans (by kernel_rfl)
/-! overseer/overseerlaw14.arity -/
noncomputable def g68_c : Code := bodyOf Try.f68
noncomputable def g68_E : AE := SS.ae 68 12
noncomputable def g68_X : XE := SS.xe SS.CC SS.LL g68_E 0
theorem g68_eq (a0 : Int) : SS.CC 68 [.int .i64 a0] [] =
    bsel (a0 == 0) (some (.int .i64 0, [])) (bsel (a0 == 1) (some (.int .i64 0, [])) (bsel (a0 == 5) (some (.int .i64 1, [])) (bsel (a0 == 10) (some (.int .i64 1, [])) (bsel (a0 == 13) (some (.int .i64 3, [])) (some (.int .i64 2, [])))))) := (CC_run SS_ok rfl).trans (by kernel_rfl)
/-! (*overseer/overseerlaw14.grower).next -/
noncomputable def g69_c : Code := bodyOf Try.f69
noncomputable def g69_E : AE := SS.ae 69 26
noncomputable def g69_X : XE := SS.xe SS.CC SS.LL g69_E 1
theorem g69_eq (h0_0 : List PV) (h0_1 : Int) (h0_2 : Int) : SS.CC 69 [.ptr 0 0] [some [.sl false 1 h0_0, .int .i64 h0_1, .int .i64 h0_2]] =
    bsel ((h0_0.length : Int) == 0) (some (.int .i64 0, [some [.sl false 1 h0_0, .int .i64 h0_1, .int .i64 h0_2]])) (lgetX h0_0 0 fun e1 => vI .u8 e1 fun n2 => chk (decide (0 ≤ 1) && decide (1 ≤ (h0_0.length : Int))) (some (.int .i64 (IntKind.i64.wrap n2), [some [.sl false 1 (h0_0.drop (1 : Int).toNat), .int .i64 h0_1, .int .i64 h0_2]]))) := (CC_run SS_ok rfl).trans (by kernel_rfl)
/-! slices.IndexFunc[[]int,int] -/
noncomputable def g70_c : Code := bodyOf Try.f70
noncomputable def g70_E : AE := SS.ae 70 19
noncomputable def g70_X : XE := SS.xe SS.CC SS.LL g70_E 0
noncomputable def g70_K0 : AX → ASt → R := retK SS.P Try.f70.results.toList (SS.prm 70).ro 0 []
noncomputable def g70_c1 : Code := Code.sub [true, true] g70_c
noncomputable def g70_K1 : AX → ASt → R := thenK (joinX g70_E 0 g70_c1 (exK g70_X g70_c1 g70_K0)) g70_K0
noncomputable def g70_K2 : AX → ASt → R := blkK 0 g70_K1
noncomputable def g70_c2 : Code := Code.sub [true, false, true, false, false] g70_c
noncomputable def g70_L3 (x0 : List PV) (x8 : Int) : R := SS.LL g70_E 0 [0, 1, 7, 8] 0 g70_c2 g70_K2 ⟨[(0, .sl false 1 x0), (1, .func (.func 48) [] []), (7, .int .i64 (x0.length : Int)), (8, .int .i64 x8)], []⟩
theorem g70_L3_eq (x0 : List PV) (x8 : Int) : g70_L3 x0 x8 =
    bsel (decide (x8 < (x0.length : Int))) (lgetX x0 x8 fun e1 => vI .i64 e1 fun n2 => clX SS.CC 48 [.int .i64 n2] fun r4 => vB r4 fun b3 => bsel b3 (some (.int .i64 x8, [])) (g70_L3 x0 (IntKind.i64.wrap (x8 + 1)))) (some (.int .i64 (-1), [])) := (LL_eq SS_ok (by decide) (by kernel_rfl) (by kernel_rfl)).trans (by kernel_rfl)
theorem g70_eq (a0 : List PV) : SS.CC 70 [.sl false 1 a0, .func (.func 48) [] []] [] =
    g70_L3 a0 0 := (CC_run SS_ok rfl).trans (by kernel_rfl)
/-! overseer/expression.apply -/
noncomputable def g71_c : Code := bodyOf Try.f71
noncomputable def g71_E : AE := SS.ae 71 101
noncomputable def g71_X : XE := SS.xe SS.CC SS.LL g71_E 0
theorem g71_eq (a0 : Int) (a1 : List PV) : SS.CC 71 [.int .i64 a0, .sl false 1 a1] [] =
    bsel (a0 == 2) (lgetX a1 0 fun e1 => vI .i64 e1 fun n2 => lgetX a1 1 fun e3 => vI .i64 e3 fun n4 => some (.int .i64 (IntKind.i64.wrap (n2 + n4)), [])) (bsel (a0 == 3) (lgetX a1 0 fun e5 => vI .i64 e5 fun n6 => lgetX a1 1 fun e7 => vI .i64 e7 fun n8 => some (.int .i64 (IntKind.i64.wrap (n6 - n8)), [])) (bsel (a0 == 4) (lgetX a1 0 fun e9 => vI .i64 e9 fun n10 => lgetX a1 1 fun e11 => vI .i64 e11 fun n12 => some (.int .i64 (IntKind.i64.wrap (n10 * n12)), [])) (bsel (a0 == 5) (lgetX a1 0 fun e13 => vI .i64 e13 fun n14 => some (.int .i64 (IntKind.i64.wrap (0 - n14)), [])) (bsel (a0 == 6) (lgetX a1 0 fun e15 => vI .i64 e15 fun n16 => lgetX a1 1 fun e17 => vI .i64 e17 fun n18 => clX SS.CC 80 [.bool (n16 == n18)] fun r20 => vI .i64 r20 fun n19 => some (.int .i64 n19, [])) (bsel (a0 == 7) (lgetX a1 0 fun e21 => vI .i64 e21 fun n22 => lgetX a1 1 fun e23 => vI .i64 e23 fun n24 => clX SS.CC 80 [.bool (n22 != n24)] fun r26 => vI .i64 r26 fun n25 => some (.int .i64 n25, [])) (bsel (a0 == 8) (lgetX a1 0 fun e27 => vI .i64 e27 fun n28 => lgetX a1 1 fun e29 => vI .i64 e29 fun n30 => clX SS.CC 80 [.bool (decide (n28 < n30))] fun r32 => vI .i64 r32 fun n31 => some (.int .i64 n31, [])) (bsel (a0 == 9) (lgetX a1 0 fun e33 => vI .i64 e33 fun n34 => lgetX a1 1 fun e35 => vI .i64 e35 fun n36 => clX SS.CC 80 [.bool (decide (n34 ≤ n36))] fun r38 => vI .i64 r38 fun n37 => some (.int .i64 n37, [])) (bsel (a0 == 10) (lgetX a1 0 fun e39 => vI .i64 e39 fun n40 => some (.int .i64 (IntKind.i64.wrap (1 - n40)), [])) (bsel (a0 == 11) (lgetX a1 0 fun e41 => vI .i64 e41 fun n42 => lgetX a1 1 fun e43 => vI .i64 e43 fun n44 => some (.int .i64 (IntKind.i64.wrap (BitVec.ofInt 64 n42 &&& BitVec.ofInt 64 n44).toNat), [])) (lgetX a1 0 fun e45 => vI .i64 e45 fun n46 => lgetX a1 1 fun e47 => vI .i64 e47 fun n48 => some (.int .i64 (IntKind.i64.wrap (BitVec.ofInt 64 n46 ||| BitVec.ofInt 64 n48).toNat), []))))))))))) := (CC_run SS_ok rfl).trans (by kernel_rfl)
/-! slices.ContainsFunc[[]int,int] -/
noncomputable def g47_1i_c : Code := bodyOf Try.f47
noncomputable def g47_1i_E : AE := SS.ae 47 9
noncomputable def g47_1i_X : XE := SS.xe SS.CC SS.LL g47_1i_E 0
theorem g47_1i_eq (a0 : List PV) (a1 : Int) : SS.CC 47 [.sl false 1 a0, .func (.func 67) [] [.cst (.int .i64 a1)]] [] =
    clX SS.CC 70 [.sl false 1 a0, .func (.func 67) [] [.cst (.int .i64 a1)]] fun r2 => vI .i64 r2 fun n1 => some (.bool (decide (0 ≤ n1)), []) := (CC_run SS_ok rfl).trans (by kernel_rfl)
/-! overseer/expression.Evaluate$1 -/
noncomputable def g48_c : Code := bodyOf Try.f48
noncomputable def g48_E : AE := SS.ae 48 5
noncomputable def g48_X : XE := SS.xe SS.CC SS.LL g48_E 0
theorem g48_eq (a0 : Int) : SS.CC 48 [.int .i64 a0] [] =
    clX SS.CC 49 [.int .i64 a0, .int .i64 65536] fun r2 => vB r2 fun b1 => some (.bool b1, []) := (CC_run SS_ok rfl).trans (by kernel_rfl)
/-! overseer/expression.truth -/
noncomputable def g80_c : Code := bodyOf Try.f80
noncomputable def g80_E : AE := SS.ae 80 4
noncomputable def g80_X : XE := SS.xe SS.CC SS.LL g80_E 0
theorem g80_eq (a0 : Bool) : SS.CC 80 [.bool a0] [] =
    bsel a0 (some (.int .i64 1, [])) (some (.int .i64 0, [])) := (CC_run SS_ok rfl).trans (by kernel_rfl)
/-! slices.IndexFunc[[]int,int] -/
noncomputable def g70_1i_c : Code := bodyOf Try.f70
noncomputable def g70_1i_E : AE := SS.ae 70 19
noncomputable def g70_1i_X : XE := SS.xe SS.CC SS.LL g70_1i_E 0
noncomputable def g70_1i_K0 : AX → ASt → R := retK SS.P Try.f70.results.toList (SS.prm 70).ro 0 []
noncomputable def g70_1i_c1 : Code := Code.sub [true, true] g70_1i_c
noncomputable def g70_1i_K1 : AX → ASt → R := thenK (joinX g70_1i_E 0 g70_1i_c1 (exK g70_1i_X g70_1i_c1 g70_1i_K0)) g70_1i_K0
noncomputable def g70_1i_K2 : AX → ASt → R := blkK 0 g70_1i_K1
noncomputable def g70_1i_c2 : Code := Code.sub [true, false, true, false, false] g70_1i_c
noncomputable def g70_1i_L3 (x0 : List PV) (x1 : Int) (x8 : Int) : R := SS.LL g70_1i_E 0 [0, 1, 7, 8] 0 g70_1i_c2 g70_1i_K2 ⟨[(0, .sl false 1 x0), (1, .func (.func 67) [] [.cst (.int .i64 x1)]), (7, .int .i64 (x0.length : Int)), (8, .int .i64 x8)], []⟩
theorem g70_1i_L3_eq (x0 : List PV) (x1 : Int) (x8 : Int) : g70_1i_L3 x0 x1 x8 =
    bsel (decide (x8 < (x0.length : Int))) (lgetX x0 x8 fun e1 => vI .i64 e1 fun n2 => clX SS.CC 67 [.int .i64 n2, .cst (.int .i64 x1)] fun r4 => vB r4 fun b3 => bsel b3 (some (.int .i64 x8, [])) (g70_1i_L3 x0 x1 (IntKind.i64.wrap (x8 + 1)))) (some (.int .i64 (-1), [])) := (LL_eq SS_ok (by decide) (by kernel_rfl) (by kernel_rfl)).trans (by kernel_rfl)
theorem g70_1i_eq (a0 : List PV) (a1 : Int) : SS.CC 70 [.sl false 1 a0, .func (.func 67) [] [.cst (.int .i64 a1)]] [] =
    g70_1i_L3 a0 a1 0 := (CC_run SS_ok rfl).trans (by kernel_rfl)
/-! overseer/expression.kind$1$1 -/
noncomputable def g67_c : Code := bodyOf Try.f67
noncomputable def g67_E : AE := SS.ae 67 7
noncomputable def g67_X : XE := SS.xe SS.CC SS.LL g67_E 0
theorem g67_eq (a0 : Int) (a1 : Int) : SS.CC 67 [.int .i64 a0, .cst (.int .i64 a1)] [] =
    some (.bool (a0 != a1), []) := (CC_run SS_ok rfl).trans (by kernel_rfl)
end Go.Proofs.Ytmclnnpaephkpaa

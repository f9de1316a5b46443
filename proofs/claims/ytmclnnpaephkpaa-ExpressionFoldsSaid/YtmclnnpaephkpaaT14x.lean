/-
  Functions as equations. Printed by a program (wip/tool/dc.py).
-/
import Derived.Test.YtmclnnpaephkpaaB14
namespace Go.Proofs.Ytmclnnpaephkpaa
set_option linter.unusedVariables false
set_option linter.unusedSimpArgs false
set_option linter.unnecessarySimpa false
set_option linter.unusedSectionVars false
open Go.RowKit
set_option maxRecDepth 1000000
/-! overseer/overseerlaw14.ExpressionLies -/
noncomputable def g7_c : Code := bodyOf Try.f7
noncomputable def g7_E : AE := SS.ae 7 72
noncomputable def g7_X : XE := SS.xe SS.CC SS.LL g7_E 0
theorem g7_eq (a0 : List PV) (a1 : List PV) (a2 : Int) (a2_1 : Int) (a2_2 : Int) : SS.CC 7 [.sl false 1 a0, .sl false 2 a1, .agg [.int .u8 a2, .int .u8 a2_1, .int .u8 a2_2]] [] =
    clX SS.CC 12 [] fun r2 => vB r2 fun b1 => bsel (!b1) (some (.bool false, [])) (clX SS.CC 22 [.sl false 2 a1] fun r4 => vL false 4 r4 fun l3 => clX SS.CC 18 [.sl false 1 a0, .int .i64 (l3.length : Int), .int .i64 (IntKind.i64.wrap (1 + (Int.tmod (a0.length : Int) 2)))] fun r9 => v23 r9 fun n5 n6 n7 l8 => clX SS.CC 27 [.sl false 4 l3, .agg [.int .u8 a2, .int .u8 a2_1, .int .u8 a2_2]] fun r11 => vL true 1 r11 fun l10 => clX SS.CC 20 [.agg [.int .i64 n5, .int .i64 n6, .int .i64 n7, .sl false 4 l8], .sl false 1 l10] fun r14 => w_3_3 r14 fun n12 n13 => clX SS.CC 23 [.agg [.int .i64 n5, .int .i64 n6, .int .i64 n7, .sl false 4 l8], .sl false 4 l3] fun r18 => w_3_3_3 r18 fun n15 n16 n17 => bsel (n17 == 17) (bsel (n15 == 0) (some (.bool (n16 == 0), [])) (some (.bool false, []))) (clX SS.CC 28 [.sl false 4 l3, .sl false 1 l10] fun r20 => vB r20 fun b19 => bsel b19 (bsel (n13 == 0) (bsel (n17 == 0) (bsel (decide (n15 ≤ n12)) (some (.bool (decide (n12 ≤ n16)), [])) (some (.bool false, []))) (some (.bool false, []))) (some (.bool false, []))) (some (.bool false, [])))) := (CC_run SS_ok rfl).trans (by kernel_rfl)
/-! overseer/overseerlaw14.size -/
noncomputable def g26_c : Code := bodyOf Try.f26
noncomputable def g26_E : AE := SS.ae 26 21
noncomputable def g26_X : XE := SS.xe SS.CC SS.LL g26_E 0
noncomputable def g26_K0 : AX → ASt → R := retK SS.P Try.f26.results.toList (SS.prm 26).ro 0 []
noncomputable def g26_c1 : Code := Code.sub [true, true, true] g26_c
noncomputable def g26_K1 : AX → ASt → R := thenK (joinX g26_E 0 g26_c1 (exK g26_X g26_c1 g26_K0)) g26_K0
noncomputable def g26_K2 : AX → ASt → R := blkK 0 g26_K1
noncomputable def g26_c2 : Code := Code.sub [true, true, false, true, false, false] g26_c
noncomputable def g26_L4 (x1 : Int) (x1_a : Int) (x1_b : Int) (x1_c : List PV) (x3 : Int) (x4 : Int) : R := SS.LL g26_E 0 [1, 3, 4] 0 g26_c2 g26_K2 ⟨[(1, .cst (.agg [.int .i64 x1, .int .i64 x1_a, .int .i64 x1_b, .sl false 4 x1_c])), (3, .int .i64 x3), (4, .int .i64 x4)], []⟩
theorem g26_L4_eq (x1 : Int) (x1_a : Int) (x1_b : Int) (x1_c : List PV) (x3 : Int) (x4 : Int) : g26_L4 x1 x1_a x1_b x1_c x3 x4 =
    bsel (decide (x4 < (x1_c.length : Int))) (lgetX x1_c x4 fun e1 => v23 e1 fun n2 n3 n4 l5 => clX SS.CC 26 [.agg [.int .i64 n2, .int .i64 n3, .int .i64 n4, .sl false 4 l5]] fun r7 => vI .i64 r7 fun n6 => g26_L4 x1 x1_a x1_b x1_c (IntKind.i64.wrap (x3 + n6)) (IntKind.i64.wrap (x4 + 1))) (some (.int .i64 x3, [])) := (LL_eq SS_ok (by decide) (by kernel_rfl) (by kernel_rfl)).trans (by kernel_rfl)
theorem g26_eq (a0 : Int) (a0_1 : Int) (a0_2 : Int) (a0_3 : List PV) : SS.CC 26 [.agg [.int .i64 a0, .int .i64 a0_1, .int .i64 a0_2, .sl false 4 a0_3]] [] =
    g26_L4 a0 a0_1 a0_2 a0_3 1 0 := (CC_run SS_ok rfl).trans (by kernel_rfl)
/-! slices.Min[[]int,int] -/
noncomputable def g73_c : Code := bodyOf Try.f73
noncomputable def g73_E : AE := SS.ae 73 25
noncomputable def g73_X : XE := SS.xe SS.CC SS.LL g73_E 0
noncomputable def g73_K0 : AX → ASt → R := retK SS.P Try.f73.results.toList (SS.prm 73).ro 0 []
noncomputable def g73_c1 : Code := Code.sub [true, true, true, true] g73_c
noncomputable def g73_K1 : AX → ASt → R := thenK (joinX g73_E 0 g73_c1 (exK g73_X g73_c1 g73_K0)) g73_K0
noncomputable def g73_K2 : AX → ASt → R := blkK 0 g73_K1
noncomputable def g73_c2 : Code := Code.sub [true, true, true, false, true, false, false] g73_c
noncomputable def g73_L6 (x0 : List PV) (x3 : Int) (x4 : Int) : R := SS.LL g73_E 0 [0, 3, 4] 0 g73_c2 g73_K2 ⟨[(0, .sl false 1 x0), (3, .int .i64 x3), (4, .int .i64 x4)], []⟩
theorem g73_L6_eq (x0 : List PV) (x3 : Int) (x4 : Int) : g73_L6 x0 x3 x4 =
    bsel (decide (x4 < (x0.length : Int))) (lgetX x0 x4 fun e1 => vI .i64 e1 fun n2 => g73_L6 x0 (if n2 < x3 then n2 else x3) (IntKind.i64.wrap (x4 + 1))) (some (.int .i64 x3, [])) := (LL_eq SS_ok (by decide) (by kernel_rfl) (by kernel_rfl)).trans (by kernel_rfl)
theorem g73_eq (a0 : List PV) : SS.CC 73 [.sl false 1 a0] [] =
    bsel (decide ((a0.length : Int) < 1)) (none) (lgetX a0 0 fun e1 => vI .i64 e1 fun n2 => g73_L6 a0 n2 1) := (CC_run SS_ok rfl).trans (by kernel_rfl)
/-! slices.Max[[]int,int] -/
noncomputable def g74_c : Code := bodyOf Try.f74
noncomputable def g74_E : AE := SS.ae 74 25
noncomputable def g74_X : XE := SS.xe SS.CC SS.LL g74_E 0
noncomputable def g74_K0 : AX → ASt → R := retK SS.P Try.f74.results.toList (SS.prm 74).ro 0 []
noncomputable def g74_c1 : Code := Code.sub [true, true, true, true] g74_c
noncomputable def g74_K1 : AX → ASt → R := thenK (joinX g74_E 0 g74_c1 (exK g74_X g74_c1 g74_K0)) g74_K0
noncomputable def g74_K2 : AX → ASt → R := blkK 0 g74_K1
noncomputable def g74_c2 : Code := Code.sub [true, true, true, false, true, false, false] g74_c
noncomputable def g74_L6 (x0 : List PV) (x3 : Int) (x4 : Int) : R := SS.LL g74_E 0 [0, 3, 4] 0 g74_c2 g74_K2 ⟨[(0, .sl false 1 x0), (3, .int .i64 x3), (4, .int .i64 x4)], []⟩
theorem g74_L6_eq (x0 : List PV) (x3 : Int) (x4 : Int) : g74_L6 x0 x3 x4 =
    bsel (decide (x4 < (x0.length : Int))) (lgetX x0 x4 fun e1 => vI .i64 e1 fun n2 => g74_L6 x0 (if n2 > x3 then n2 else x3) (IntKind.i64.wrap (x4 + 1))) (some (.int .i64 x3, [])) := (LL_eq SS_ok (by decide) (by kernel_rfl) (by kernel_rfl)).trans (by kernel_rfl)
theorem g74_eq (a0 : List PV) : SS.CC 74 [.sl false 1 a0] [] =
    bsel (decide ((a0.length : Int) < 1)) (none) (lgetX a0 0 fun e1 => vI .i64 e1 fun n2 => g74_L6 a0 n2 1) := (CC_run SS_ok rfl).trans (by kernel_rfl)
end Go.Proofs.Ytmclnnpaephkpaa

/-
  Functions as equations. Printed by a program (wip/tool/dc.py).
-/
import Derived.Test.YtmclnnpaephkpaaB14
namespace Go.Proofs.Ytmclnnpaephkpaa
set_option linter.unusedVariables false
set_option linter.unusedSimpArgs false
set_option linter.unnecessarySimpa false
set_option linter.unusedSectionVars false
open Go.RowKit
set_option maxRecDepth 1000000
/-! overseer/overseerlaw14.ExpressionKeeps -/
noncomputable def g6_c : Code := bodyOf Try.f6
noncomputable def g6_E : AE := SS.ae 6 118
noncomputable def g6_X : XE := SS.xe SS.CC SS.LL g6_E 0
theorem g6_eq (a0 : List PV) (a1 : List PV) (a2 : Int) (a2_1 : Int) (a2_2 : Int) : SS.CC 6 [.sl false 1 a0, .sl false 2 a1, .agg [.int .u8 a2, .int .u8 a2_1, .int .u8 a2_2]] [] =
    clX SS.CC 12 [] fun r2 => vB r2 fun b1 => bsel (!b1) (some (.bool false, [])) (clX SS.CC 22 [.sl false 2 a1] fun r4 => vL false 4 r4 fun l3 => clX SS.CC 18 [.sl false 1 a0, .int .i64 (l3.length : Int), .int .i64 (IntKind.i64.wrap (1 + (Int.tmod (a0.length : Int) 2)))] fun r9 => v23 r9 fun n5 n6 n7 l8 => clX SS.CC 25 [.agg [.int .i64 n5, .int .i64 n6, .int .i64 n7, .sl false 4 l8]] fun r15 => w_23_3 r15 fun n10 n11 n12 l13 n14 => clX SS.CC 25 [.agg [.int .i64 n10, .int .i64 n11, .int .i64 n12, .sl false 4 l13]] fun r21 => w_23_3 r21 fun n16 n17 n18 l19 n20 => clX SS.CC 14 [.agg [.int .i64 n5, .int .i64 n6, .int .i64 n7, .sl false 4 l8], .int .i64 (l3.length : Int)] fun r24 => w_3_3 r24 fun n22 n23 => clX SS.CC 14 [.agg [.int .i64 n10, .int .i64 n11, .int .i64 n12, .sl false 4 l13], .int .i64 (l3.length : Int)] fun r27 => w_3_3 r27 fun n25 n26 => bsel (n14 != 0) (some (.bool false, [])) (bsel (n20 != 0) (some (.bool false, [])) (bsel (n23 != 0) (some (.bool false, [])) (bsel (n26 != 0) (some (.bool false, [])) (bsel (n22 != n25) (some (.bool false, [])) (clX SS.CC 17 [.agg [.int .i64 n10, .int .i64 n11, .int .i64 n12, .sl false 4 l13], .agg [.int .i64 n16, .int .i64 n17, .int .i64 n18, .sl false 4 l19]] fun r29 => vB r29 fun b28 => bsel (!b28) (some (.bool false, [])) (clX SS.CC 26 [.agg [.int .i64 n10, .int .i64 n11, .int .i64 n12, .sl false 4 l13]] fun r31 => vI .i64 r31 fun n30 => clX SS.CC 26 [.agg [.int .i64 n5, .int .i64 n6, .int .i64 n7, .sl false 4 l8]] fun r33 => vI .i64 r33 fun n32 => bsel (decide (n32 < n30)) (some (.bool false, [])) (clX SS.CC 27 [.sl false 4 l3, .agg [.int .u8 a2, .int .u8 a2_1, .int .u8 a2_2]] fun r35 => vL true 1 r35 fun l34 => clX SS.CC 20 [.agg [.int .i64 n5, .int .i64 n6, .int .i64 n7, .sl false 4 l8], .sl false 1 l34] fun r38 => w_3_3 r38 fun n36 n37 => clX SS.CC 20 [.agg [.int .i64 n10, .int .i64 n11, .int .i64 n12, .sl false 4 l13], .sl false 1 l34] fun r41 => w_3_3 r41 fun n39 n40 => bsel (n37 == 17) (some (.bool true, [])) (bsel (n37 == 0) (bsel (n40 == 0) (some (.bool (n36 == n39), [])) (some (.bool false, []))) (some (.bool false, []))))))))))) := (CC_run SS_ok rfl).trans (by kernel_rfl)
end Go.Proofs.Ytmclnnpaephkpaa

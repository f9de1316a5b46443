/-
  Functions as equations. Printed by a program (wip/tool/dc.py).
-/
import Derived.Test.YtmclnnpaephkpaaB14
namespace Go.Proofs.Ytmclnnpaephkpaa
set_option linter.unusedVariables false
set_option linter.unusedSimpArgs false
set_option linter.unnecessarySimpa false
set_option linter.unusedSectionVars false
open Go.RowKit
set_option maxRecDepth 1000000
/-! overseer/overseerlaw14.ExpressionReplaces -/
noncomputable def g9_c : Code := bodyOf Try.f9
noncomputable def g9_E : AE := SS.ae 9 107
noncomputable def g9_X : XE := SS.xe SS.CC SS.LL g9_E 0
theorem g9_eq (a0 : List PV) (a1 : List PV) (a2 : Int) (a2_1 : Int) (a2_2 : Int) (a2_3 : Int) (a2_4 : Int) (a2_5 : Int) : SS.CC 9 [.sl false 1 a0, .sl false 1 a1, .agg [.int .u8 a2, .int .u8 a2_1, .int .u8 a2_2, .int .u8 a2_3, .int .u8 a2_4, .int .u8 a2_5]] [] =
    clX SS.CC 12 [] fun r2 => vB r2 fun b1 => bsel (!b1) (some (.bool false, [])) (clX SS.CC 22 [.sl false 2 [.agg [.int .i8 (IntKind.i8.wrap a2), .int .i8 3], .agg [.int .i8 (IntKind.i8.wrap a2_1), .int .i8 2], .agg [.int .i8 0, .int .i8 1]]] fun r4 => vL false 4 r4 fun l3 => clX SS.CC 18 [.sl false 1 a0, .int .i64 3, .int .i64 (IntKind.i64.wrap (1 + (Int.tmod (a0.length : Int) 2)))] fun r9 => v23 r9 fun n5 n6 n7 l8 => clX SS.CC 18 [.sl false 1 a1, .int .i64 3, .int .i64 1] fun r14 => v23 r14 fun n10 n11 n12 l13 => clX SS.CC 29 [.agg [.int .i64 n5, .int .i64 n6, .int .i64 n7, .sl false 4 l8], .int .i64 (IntKind.i64.wrap (Int.tmod a2_2 3)), .agg [.int .i64 n10, .int .i64 n11, .int .i64 n12, .sl false 4 l13]] fun r20 => w_23_3 r20 fun n15 n16 n17 l18 n19 => bsel (n19 != 0) (some (.bool (n19 == 3), [])) (clX SS.CC 27 [.sl false 4 l3, .agg [.int .u8 a2_3, .int .u8 a2_4, .int .u8 a2_5]] fun r22 => vL true 1 r22 fun l21 => chk (decide (0 < l21.length) && l21.all plainC) (chk ((decide (l21.length ≤ l21.length) && l21.all plainC) && true) (clX SS.CC 20 [.agg [.int .i64 n10, .int .i64 n11, .int .i64 n12, .sl false 4 l13], .sl false 1 (l21.take l21.length)] fun r25 => w_3_3 r25 fun n23 n24 => bsel (n24 != 0) (bsel (n24 == 0) (some (.bool true, [])) (some (.bool (n24 == 17), []))) (clX SS.CC 19 [.int .i64 n23, .int .i64 65536] fun r27 => vB r27 fun b26 => bsel b26 (bsel (n24 == 0) (some (.bool true, [])) (some (.bool (n24 == 17), []))) (chk (l21.all plainC && true) (chk ((decide (l21.length ≤ l21.length) && l21.all plainC) && true) (clX SS.CC 20 [.agg [.int .i64 n15, .int .i64 n16, .int .i64 n17, .sl false 4 l18], .sl false 1 (l21.take l21.length)] fun r30 => w_3_3 r30 fun n28 n29 => chk (decide (0 ≤ (IntKind.i64.wrap (Int.tmod a2_2 3))) && decide ((IntKind.i64.wrap (Int.tmod a2_2 3)) < (l21.length : Int))) (chk (decide (((IntKind.i64.wrap (Int.tmod a2_2 3)).toNat) < l21.length)) (chk ((decide (l21.length ≤ (l21.set ((IntKind.i64.wrap (Int.tmod a2_2 3)).toNat) (.int .i64 n23)).length) && (l21.set ((IntKind.i64.wrap (Int.tmod a2_2 3)).toNat) (.int .i64 n23)).all plainC) && true) (clX SS.CC 20 [.agg [.int .i64 n5, .int .i64 n6, .int .i64 n7, .sl false 4 l8], .sl false 1 ((l21.set ((IntKind.i64.wrap (Int.tmod a2_2 3)).toNat) (.int .i64 n23)).take l21.length)] fun r33 => w_3_3 r33 fun n31 n32 => bsel (n29 == n32) (some (.bool (n28 == n31), [])) (some (.bool false, []))))))))))))) := (CC_run SS_ok rfl).trans (by kernel_rfl)
end Go.Proofs.Ytmclnnpaephkpaa

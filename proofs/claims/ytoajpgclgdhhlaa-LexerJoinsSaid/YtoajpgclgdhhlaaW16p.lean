/-
  Functions as equations. Printed by a program (wip/tool/dc.py).
-/
import Derived.Test.YtoajpgclgdhhlaaW16
namespace Go.Proofs.Ytoajpgclgdhhlaa.W
set_option linter.unusedVariables false
set_option linter.unusedSimpArgs false
set_option linter.unnecessarySimpa false
set_option linter.unusedSectionVars false
open Go.RowKit
set_option maxRecDepth 1000000
/-! overseer/overseerlaw16.LexerPlaces -/
noncomputable def g5_c : Code := bodyOf Try.f5
noncomputable def g5_E : AE := SS.ae 5 129
noncomputable def g5_X : XE := SS.xe SS.CC SS.LL g5_E 0
noncomputable def g5_K0 : AX → ASt → R := retK SS.P Try.f5.results.toList (SS.prm 5).ro 0 []
noncomputable def g5_c1 : Code := Code.sub [true, true, true, true, true, true] g5_c
noncomputable def g5_K1 : AX → ASt → R := thenK (joinX g5_E 0 g5_c1 (exK g5_X g5_c1 g5_K0)) g5_K0
noncomputable def g5_K2 : AX → ASt → R := blkK 0 g5_K1
noncomputable def g5_c2 : Code := Code.sub [true, true, true, true, true, false, true, false, false] g5_c
noncomputable def g5_K3 : AX → ASt → R := thenK (fun σ => SS.LL g5_E 0 [0, 3, 7, 8, 9, 10] 0 g5_c2 g5_K2 (σ.gc [0, 3, 7, 8, 9, 10] 0)) g5_K2
noncomputable def g5_c3 : Code := Code.sub [true, true, true, true, true, false, true, false, false, true, true] g5_c
noncomputable def g5_K4 : AX → ASt → R := thenK (joinX g5_E 0 g5_c3 (exK g5_X g5_c3 g5_K3)) g5_K3
noncomputable def g5_K5 : AX → ASt → R := blkK 1 g5_K4
noncomputable def g5_c4 : Code := Code.sub [true, true, true, true, true, false, true, false, false, true, false, false, true] g5_c
noncomputable def g5_L9 (x0 : ByteArray) (x3 : List PV) (x7 : Int) (x9 : Int) (x10 : Int) (x8 : Int) : R := SS.LL g5_E 0 [0, 3, 7, 8, 9, 10] 0 g5_c2 g5_K2 ⟨[(0, .str x0), (3, .sl false 5 x3), (7, .int .i64 x7), (8, .int .i64 x8), (9, .int .i64 x9), (10, .int .i64 x10)], []⟩
noncomputable def g5_J16 (x0 : ByteArray) (x3 : List PV) (x9 : Int) (x7 : Int) (x8 : Int) (x10 : Int) : R := exK g5_X g5_c4 g5_K5 ⟨[(0, .str x0), (3, .sl false 5 x3), (7, .int .i64 x7), (8, .int .i64 x8), (9, .int .i64 x9), (10, .int .i64 x10)], []⟩
theorem g5_L9_eq (x0 : ByteArray) (x3 : List PV) (x7 : Int) (x9 : Int) (x10 : Int) (x8 : Int) : g5_L9 x0 x3 x7 x9 x10 x8 =
    bsel (decide (x10 ≤ (x0.size : Int))) (bsel (decide (x9 < (x3.length : Int))) (lgetX x3 x9 fun e1 => v29 e1 fun n2 s3 n4 n5 n6 => bsel (n5 == x7) (lgetX x3 x9 fun e7 => v29 e7 fun n8 s9 n10 n11 n12 => bsel (n12 == x8) (lgetX x3 x9 fun e13 => v29 e13 fun n14 s15 n16 n17 n18 => bsel (decide ((x0.size : Int) < (IntKind.i64.wrap (x10 + (s15.size : Int))))) (some (.bool false, [])) (chk (decide (0 ≤ x10) && decide (x10 ≤ (IntKind.i64.wrap (x10 + (s15.size : Int)))) && decide ((IntKind.i64.wrap (x10 + (s15.size : Int))) ≤ (x0.size : Int))) (bsel (!((x0.extract x10.toNat (IntKind.i64.wrap (x10 + (s15.size : Int))).toNat).toList == s15.toList)) (some (.bool false, [])) (lgetX x3 x9 fun e19 => v29 e19 fun n20 s21 n22 n23 n24 => bsel (!((n20 == 4) == (x10 == (x0.size : Int)))) (some (.bool false, [])) (g5_J16 x0 x3 (IntKind.i64.wrap (x9 + 1)) x7 x8 x10))))) (g5_J16 x0 x3 x9 x7 x8 x10)) (g5_J16 x0 x3 x9 x7 x8 x10)) (g5_J16 x0 x3 x9 x7 x8 x10)) (bsel (x9 == (x3.length : Int)) (bsel (decide (1 ≤ x9)) (lgetX x3 (IntKind.i64.wrap (x9 - 1)) fun e25 => v29 e25 fun n26 s27 n28 n29 n30 => some (.bool (n26 == 4), [])) (some (.bool false, []))) (some (.bool false, []))) := (LL_eq SS_ok (by decide) (by kernel_rfl) (by kernel_rfl)).trans (by kernel_rfl)
theorem g5_J16_eq (x0 : ByteArray) (x3 : List PV) (x9 : Int) (x7 : Int) (x8 : Int) (x10 : Int) : g5_J16 x0 x3 x9 x7 x8 x10 =
    bsel (decide (x10 < (x0.size : Int))) (byteX x0 x10 fun c1 => bsel (c1 == 10) (g5_L9 x0 x3 (IntKind.i64.wrap (x7 + 1)) x9 (IntKind.i64.wrap (x10 + 1)) 1) (g5_L9 x0 x3 x7 x9 (IntKind.i64.wrap (x10 + 1)) (IntKind.i64.wrap (x8 + 1)))) (g5_L9 x0 x3 x7 x9 (IntKind.i64.wrap (x10 + 1)) (IntKind.i64.wrap (x8 + 1))) := by kernel_rfl
theorem g5_eq (a0 : ByteArray) : SS.CC 5 [.str a0] [] =
    clX SS.CC 11 [] fun r2 => vB r2 fun b1 => bsel (!b1) (clX SS.CC 11 [] fun r4 => vB r4 fun b3 => some (.bool b3, [])) (bsel (decide (300 < (a0.size : Int))) (clX SS.CC 11 [] fun r6 => vB r6 fun b5 => some (.bool b5, [])) (clX SS.CC 12 [.str a0] fun r11 => w_24_3_3_3 r11 fun l7 n8 n9 n10 => bsel (n10 != 0) (some (.bool ((l7.length : Int) == 0), [])) (g5_L9 a0 l7 1 0 0 1))) := (CC_run SS_ok rfl).trans (by kernel_rfl)
end Go.Proofs.Ytoajpgclgdhhlaa.W

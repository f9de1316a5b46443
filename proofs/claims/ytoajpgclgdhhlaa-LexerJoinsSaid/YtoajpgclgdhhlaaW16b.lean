/-
  Functions as equations. Printed by a program (wip/tool/dc.py).
-/
import Derived.Test.YtoajpgclgdhhlaaW16
namespace Go.Proofs.Ytoajpgclgdhhlaa.W
set_option linter.unusedVariables false
set_option linter.unusedSimpArgs false
set_option linter.unnecessarySimpa false
set_option linter.unusedSectionVars false
open Go.RowKit
set_option maxRecDepth 1000000
/-! overseer/overseerlaw16.LexerSpaces -/
noncomputable def g7_c : Code := bodyOf Try.f7
noncomputable def g7_E : AE := SS.ae 7 82
noncomputable def g7_X : XE := SS.xe SS.CC SS.LL g7_E 0
noncomputable def g7_K0 : AX → ASt → R := retK SS.P Try.f7.results.toList (SS.prm 7).ro 0 []
noncomputable def g7_c1 : Code := Code.sub [true, true, true, true, true, true] g7_c
noncomputable def g7_K1 : AX → ASt → R := thenK (joinX g7_E 0 g7_c1 (exK g7_X g7_c1 g7_K0)) g7_K0
noncomputable def g7_K2 : AX → ASt → R := blkK 0 g7_K1
noncomputable def g7_c2 : Code := Code.sub [true, true, true, true, true, false, true, false, false] g7_c
noncomputable def g7_L9 (x1 : List PV) (x5 : List PV) (x9 : ByteArray) (x10 : Int) : R := SS.LL g7_E 0 [1, 5, 9, 10] 0 g7_c2 g7_K2 ⟨[(1, .sl false 1 x1), (5, .sl false 5 x5), (9, .str x9), (10, .int .i64 x10)], []⟩
theorem g7_L9_eq (x1 : List PV) (x5 : List PV) (x9 : ByteArray) (x10 : Int) : g7_L9 x1 x5 x9 x10 =
    bsel (decide (x10 < (x5.length : Int))) (lgetX x5 x10 fun e1 => v29 e1 fun n2 s3 n4 n5 n6 => chk (decide (x9.size + s3.size ≤ LIM)) (chk (decide ((x9 ++ s3).size + (⟨#[32]⟩ : ByteArray).size ≤ LIM)) (bsel (decide (x10 < (x1.length : Int))) (lgetX x1 x10 fun e7 => vI .u8 e7 fun n8 => lgetX [.str ⟨#[]⟩, .str ⟨#[32]⟩, .str ⟨#[10]⟩, .str ⟨#[9]⟩, .str ⟨#[47, 47, 32, 97, 32, 99, 111, 109, 109, 101, 110, 116, 32, 45, 62, 32, 49, 120, 10]⟩, .str ⟨#[13, 10]⟩, .str ⟨#[47, 47, 10]⟩] (Int.tmod n8 7) fun e9 => vS e9 fun s10 => chk (decide (((x9 ++ s3) ++ (⟨#[32]⟩ : ByteArray)).size + s10.size ≤ LIM)) (g7_L9 x1 x5 (((x9 ++ s3) ++ (⟨#[32]⟩ : ByteArray)) ++ s10) (IntKind.i64.wrap (x10 + 1)))) (g7_L9 x1 x5 ((x9 ++ s3) ++ (⟨#[32]⟩ : ByteArray)) (IntKind.i64.wrap (x10 + 1)))))) (clX SS.CC 12 [.str x9] fun r15 => w_24_3_3_3 r15 fun l11 n12 n13 n14 => bsel (n14 == 0) (clX SS.CC 19 [.sl false 5 x5, .sl false 5 l11] fun r17 => vB r17 fun b16 => some (.bool b16, [])) (some (.bool false, []))) := (LL_eq SS_ok (by decide) (by kernel_rfl) (by kernel_rfl)).trans (by kernel_rfl)
theorem g7_eq (a0 : ByteArray) (a1 : List PV) : SS.CC 7 [.str a0, .sl false 1 a1] [] =
    clX SS.CC 11 [] fun r2 => vB r2 fun b1 => bsel (!b1) (clX SS.CC 11 [] fun r4 => vB r4 fun b3 => some (.bool b3, [])) (bsel (decide (200 < (a0.size : Int))) (clX SS.CC 11 [] fun r6 => vB r6 fun b5 => some (.bool b5, [])) (bsel (decide (20 < (a1.length : Int))) (clX SS.CC 11 [] fun r8 => vB r8 fun b7 => some (.bool b7, [])) (clX SS.CC 12 [.str a0] fun r13 => w_24_3_3_3 r13 fun l9 n10 n11 n12 => bsel (n12 != 0) (some (.bool ((l9.length : Int) == 0), [])) (g7_L9 a1 l9 ⟨#[]⟩ 0)))) := (CC_run SS_ok rfl).trans (by kernel_rfl)
/-! overseer/overseerlaw16.alike -/
noncomputable def g19_c : Code := bodyOf Try.f19
noncomputable def g19_E : AE := SS.ae 19 54
noncomputable def g19_X : XE := SS.xe SS.CC SS.LL g19_E 0
noncomputable def g19_K0 : AX → ASt → R := retK SS.P Try.f19.results.toList (SS.prm 19).ro 0 []
noncomputable def g19_c1 : Code := Code.sub [true, true, true] g19_c
noncomputable def g19_K1 : AX → ASt → R := thenK (joinX g19_E 0 g19_c1 (exK g19_X g19_c1 g19_K0)) g19_K0
noncomputable def g19_K2 : AX → ASt → R := blkK 0 g19_K1
noncomputable def g19_c2 : Code := Code.sub [true, true, false, true, false, false] g19_c
noncomputable def g19_L5 (x0 : List PV) (x1 : List PV) (x5 : Int) : R := SS.LL g19_E 0 [0, 1, 5] 0 g19_c2 g19_K2 ⟨[(0, .sl false 5 x0), (1, .sl false 5 x1), (5, .int .i64 x5)], []⟩
theorem g19_L5_eq (x0 : List PV) (x1 : List PV) (x5 : Int) : g19_L5 x0 x1 x5 =
    bsel (decide (x5 < (x0.length : Int))) (lgetX x0 x5 fun e1 => v29 e1 fun n2 s3 n4 n5 n6 => lgetX x1 x5 fun e7 => v29 e7 fun n8 s9 n10 n11 n12 => bsel (n2 != n8) (some (.bool false, [])) (lgetX x0 x5 fun e13 => v29 e13 fun n14 s15 n16 n17 n18 => lgetX x1 x5 fun e19 => v29 e19 fun n20 s21 n22 n23 n24 => bsel (!(s15.toList == s21.toList)) (some (.bool false, [])) (lgetX x0 x5 fun e25 => v29 e25 fun n26 s27 n28 n29 n30 => lgetX x1 x5 fun e31 => v29 e31 fun n32 s33 n34 n35 n36 => bsel (n28 != n34) (some (.bool false, [])) (g19_L5 x0 x1 (IntKind.i64.wrap (x5 + 1)))))) (some (.bool true, [])) := (LL_eq SS_ok (by decide) (by kernel_rfl) (by kernel_rfl)).trans (by kernel_rfl)
theorem g19_eq (a0 : List PV) (a1 : List PV) : SS.CC 19 [.sl false 5 a0, .sl false 5 a1] [] =
    bsel ((a0.length : Int) != (a1.length : Int)) (some (.bool false, [])) (g19_L5 a0 a1 0) := (CC_run SS_ok rfl).trans (by kernel_rfl)
end Go.Proofs.Ytoajpgclgdhhlaa.W

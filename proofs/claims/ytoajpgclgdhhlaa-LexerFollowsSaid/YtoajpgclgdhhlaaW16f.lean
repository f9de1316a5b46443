/-
  Functions as equations. Printed by a program (wip/tool/dc.py).
-/
import Derived.Test.YtoajpgclgdhhlaaW16
namespace Go.Proofs.Ytoajpgclgdhhlaa.W
set_option linter.unusedVariables false
set_option linter.unusedSimpArgs false
set_option linter.unnecessarySimpa false
set_option linter.unusedSectionVars false
open Go.RowKit
set_option maxRecDepth 1000000
/-! overseer/overseerlaw16.LexerFollows -/
noncomputable def g6_c : Code := bodyOf Try.f6
noncomputable def g6_E : AE := SS.ae 6 121
noncomputable def g6_X : XE := SS.xe SS.CC SS.LL g6_E 0
noncomputable def g6_K0 : AX → ASt → R := retK SS.P Try.f6.results.toList (SS.prm 6).ro 0 []
noncomputable def g6_c1 : Code := Code.sub [true, true, true, true, true, true, true] g6_c
noncomputable def g6_K1 : AX → ASt → R := thenK (joinX g6_E 0 g6_c1 (exK g6_X g6_c1 g6_K0)) g6_K0
noncomputable def g6_K2 : AX → ASt → R := blkK 0 g6_K1
noncomputable def g6_c2 : Code := Code.sub [true, true, true, true, true, true, false, true, false, false] g6_c
noncomputable def g6_c3 : Code := Code.sub [true, true, true, true, true, true, true, true, true] g6_c
noncomputable def g6_K3 : AX → ASt → R := thenK (joinX g6_E 0 g6_c3 (exK g6_X g6_c3 g6_K0)) g6_K0
noncomputable def g6_K4 : AX → ASt → R := blkK 2 g6_K3
noncomputable def g6_c4 : Code := Code.sub [true, true, true, true, true, true, true, true, false, true, false, false] g6_c
noncomputable def g6_L10 (x0 : ByteArray) (x1 : ByteArray) (x5 : List PV) (x9 : List PV) (x13 : Int) (x14 : Int) : R := SS.LL g6_E 0 [0, 1, 5, 9, 13, 14] 0 g6_c2 g6_K2 ⟨[(0, .str x0), (1, .str x1), (5, .sl false 5 x5), (9, .sl false 5 x9), (13, .int .i64 x13), (14, .int .i64 x14)], []⟩
noncomputable def g6_L16 (x0 : ByteArray) (x1 : ByteArray) (x9 : List PV) (x15 : List PV) (x16 : Int) (x13 : Int) : R := SS.LL g6_E 0 [0, 1, 9, 13, 15, 16] 0 g6_c4 g6_K4 ⟨[(0, .str x0), (1, .str x1), (9, .sl false 5 x9), (13, .int .i64 x13), (15, .sl true 5 x15), (16, .int .i64 x16)], []⟩
theorem g6_L10_eq (x0 : ByteArray) (x1 : ByteArray) (x5 : List PV) (x9 : List PV) (x13 : Int) (x14 : Int) : g6_L10 x0 x1 x5 x9 x13 x14 =
    bsel (decide (x14 < (x0.size : Int))) (byteX x0 x14 fun c1 => bsel (c1 == 10) (g6_L10 x0 x1 x5 x9 (IntKind.i64.wrap (x13 + 1)) (IntKind.i64.wrap (x14 + 1))) (g6_L10 x0 x1 x5 x9 x13 (IntKind.i64.wrap (x14 + 1)))) (chk (decide (0 ≤ (IntKind.i64.wrap ((x5.length : Int) - 1))) && decide ((IntKind.i64.wrap ((x5.length : Int) - 1)) ≤ (x5.length : Int))) (chk (decide (0 + (x5.take (IntKind.i64.wrap ((x5.length : Int) - 1)).toNat).length ≤ LIM)) (g6_L16 x0 x1 x9 (x5.take (IntKind.i64.wrap ((x5.length : Int) - 1)).toNat) 0 x13))) := (LL_eq SS_ok (by decide) (by kernel_rfl) (by kernel_rfl)).trans (by kernel_rfl)
theorem g6_L16_eq (x0 : ByteArray) (x1 : ByteArray) (x9 : List PV) (x15 : List PV) (x16 : Int) (x13 : Int) : g6_L16 x0 x1 x9 x15 x16 x13 =
    bsel (decide (x16 < (x9.length : Int))) (lgetX x9 x16 fun e1 => v29 e1 fun n2 s3 n4 n5 n6 => chk (decide (x15.length + 1 ≤ LIM)) (g6_L16 x0 x1 x9 (x15 ++ [.agg [.int .i64 n2, .str s3, .int .i64 n4, .int .i64 (IntKind.i64.wrap (n5 + x13)), .int .i64 n6]]) (IntKind.i64.wrap (x16 + 1)) x13)) (chk (decide (x0.size + (⟨#[10]⟩ : ByteArray).size ≤ LIM)) (chk (decide ((x0 ++ (⟨#[10]⟩ : ByteArray)).size + x1.size ≤ LIM)) (clX SS.CC 12 [.str ((x0 ++ (⟨#[10]⟩ : ByteArray)) ++ x1)] fun r11 => w_24_3_3_3 r11 fun l7 n8 n9 n10 => bsel (n10 == 0) (clX SS.CC 18 [.sl false 5 l7, .sl false 5 x15] fun r13 => vB r13 fun b12 => some (.bool b12, [])) (some (.bool false, []))))) := (LL_eq SS_ok (by decide) (by kernel_rfl) (by kernel_rfl)).trans (by kernel_rfl)
theorem g6_eq (a0 : ByteArray) (a1 : ByteArray) : SS.CC 6 [.str a0, .str a1] [] =
    clX SS.CC 11 [] fun r2 => vB r2 fun b1 => bsel (!b1) (clX SS.CC 11 [] fun r4 => vB r4 fun b3 => some (.bool b3, [])) (bsel (decide (200 < (a0.size : Int))) (clX SS.CC 11 [] fun r6 => vB r6 fun b5 => some (.bool b5, [])) (bsel (decide (200 < (a1.size : Int))) (clX SS.CC 11 [] fun r8 => vB r8 fun b7 => some (.bool b7, [])) (clX SS.CC 12 [.str a0] fun r13 => w_24_3_3_3 r13 fun l9 n10 n11 n12 => clX SS.CC 12 [.str a1] fun r18 => w_24_3_3_3 r18 fun l14 n15 n16 n17 => bsel (n12 != 0) (bsel (n12 != 0) (some (.bool true, [])) (some (.bool (n17 != 0), []))) (bsel (n17 != 0) (bsel (n12 != 0) (some (.bool true, [])) (some (.bool (n17 != 0), []))) (bsel ((l9.length : Int) == 0) (bsel (n12 != 0) (some (.bool true, [])) (some (.bool (n17 != 0), []))) (g6_L10 a0 a1 l9 l14 1 0)))))) := (CC_run SS_ok rfl).trans (by kernel_rfl)
end Go.Proofs.Ytoajpgclgdhhlaa.W

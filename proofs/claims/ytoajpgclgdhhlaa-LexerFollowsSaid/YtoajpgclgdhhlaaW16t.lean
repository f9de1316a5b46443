/-
  Functions as equations. Printed by a program (wip/tool/dc.py).
-/
import Derived.Test.YtoajpgclgdhhlaaW16
namespace Go.Proofs.Ytoajpgclgdhhlaa.W
set_option linter.unusedVariables false
set_option linter.unusedSimpArgs false
set_option linter.unnecessarySimpa false
set_option linter.unusedSectionVars false
open Go.RowKit
set_option maxRecDepth 1000000
/-! overseer/overseerlaw16.LexerScans -/
noncomputable def g8_c : Code := bodyOf Try.f8
noncomputable def g8_E : AE := SS.ae 8 73
noncomputable def g8_X : XE := SS.xe SS.CC SS.LL g8_E 0
noncomputable def g8_K0 : AX → ASt → R := retK SS.P Try.f8.results.toList (SS.prm 8).ro 0 []
noncomputable def g8_c1 : Code := Code.sub [true, true, true, true, true] g8_c
noncomputable def g8_K1 : AX → ASt → R := thenK (joinX g8_E 0 g8_c1 (exK g8_X g8_c1 g8_K0)) g8_K0
noncomputable def g8_K2 : AX → ASt → R := blkK 0 g8_K1
noncomputable def g8_c2 : Code := Code.sub [true, true, true, true, false, true, false, false] g8_c
noncomputable def g8_L7 (x3 : List PV) (x4 : Int) (x5 : Int) (x6 : Int) (x7 : List PV) (x8 : Int) (x9 : Int) (x10 : Int) (x11 : Int) : R := SS.LL g8_E 0 [3, 4, 5, 6, 7, 8, 9, 10, 11] 0 g8_c2 g8_K2 ⟨[(3, .sl false 5 x3), (4, .int .i64 x4), (5, .int .i64 x5), (6, .int .i64 x6), (7, .sl false 5 x7), (8, .int .i64 x8), (9, .int .i64 x9), (10, .int .i64 x10), (11, .int .i64 x11)], []⟩
theorem g8_L7_eq (x3 : List PV) (x4 : Int) (x5 : Int) (x6 : Int) (x7 : List PV) (x8 : Int) (x9 : Int) (x10 : Int) (x11 : Int) : g8_L7 x3 x4 x5 x6 x7 x8 x9 x10 x11 =
    bsel (decide (x11 < (x3.length : Int))) (lgetX x3 x11 fun e1 => v29 e1 fun n2 s3 n4 n5 n6 => bsel (n2 == 1) (lgetX x3 x11 fun e7 => v29 e7 fun n8 s9 n10 n11 n12 => clX SS.CC 21 [.str s9] fun r14 => vB r14 fun b13 => bsel (!b13) (some (.bool false, [])) (g8_L7 x3 x4 x5 x6 x7 x8 x9 x10 (IntKind.i64.wrap (x11 + 1)))) (g8_L7 x3 x4 x5 x6 x7 x8 x9 x10 (IntKind.i64.wrap (x11 + 1)))) (clX SS.CC 18 [.sl false 5 x3, .sl false 5 x7] fun r16 => vB r16 fun b15 => bsel b15 (bsel (x4 == x8) (bsel (x5 == x9) (some (.bool (x6 == x10), [])) (some (.bool false, []))) (some (.bool false, []))) (some (.bool false, []))) := (LL_eq SS_ok (by decide) (by kernel_rfl) (by kernel_rfl)).trans (by kernel_rfl)
theorem g8_eq (a0 : ByteArray) : SS.CC 8 [.str a0] [] =
    clX SS.CC 11 [] fun r2 => vB r2 fun b1 => bsel (!b1) (clX SS.CC 11 [] fun r4 => vB r4 fun b3 => some (.bool b3, [])) (bsel (decide (400 < (a0.size : Int))) (clX SS.CC 11 [] fun r6 => vB r6 fun b5 => some (.bool b5, [])) (clX SS.CC 12 [.str a0] fun r11 => w_24_3_3_3 r11 fun l7 n8 n9 n10 => clX SS.CC 20 [.str a0] fun r16 => w_24_3_3_3 r16 fun l12 n13 n14 n15 => g8_L7 l7 n8 n9 n10 l12 n13 n14 n15 0)) := (CC_run SS_ok rfl).trans (by kernel_rfl)
/-! overseer/alphabet.IsName -/
noncomputable def g21_c : Code := bodyOf Try.f21
noncomputable def g21_E : AE := SS.ae 21 55
noncomputable def g21_X : XE := SS.xe SS.CC SS.LL g21_E 0
noncomputable def g21_K0 : AX → ASt → R := retK SS.P Try.f21.results.toList (SS.prm 21).ro 0 []
noncomputable def g21_c1 : Code := Code.sub [true, true] g21_c
noncomputable def g21_K1 : AX → ASt → R := thenK (joinX g21_E 0 g21_c1 (exK g21_X g21_c1 g21_K0)) g21_K0
noncomputable def g21_K2 : AX → ASt → R := blkK 0 g21_K1
noncomputable def g21_c2 : Code := Code.sub [true, false, true, false, false] g21_c
noncomputable def g21_L3 (x0 : ByteArray) (x8 : Int) : R := SS.LL g21_E 0 [0, 7, 8] 0 g21_c2 g21_K2 ⟨[(0, .str x0), (7, .int .i64 (x0.size : Int)), (8, .int .i64 x8)], []⟩
theorem g21_L3_eq (x0 : ByteArray) (x8 : Int) : g21_L3 x0 x8 =
    bsel (decide (x8 < (x0.size : Int))) (byteX x0 x8 fun c1 => bsel (decide (97 ≤ c1)) (bsel (decide (c1 ≤ 122)) (g21_L3 x0 (IntKind.i64.wrap (x8 + 1))) (bsel (decide (65 ≤ c1)) (bsel (decide (c1 ≤ 90)) (g21_L3 x0 (IntKind.i64.wrap (x8 + 1))) (bsel (!(c1 == 95)) (bsel (x8 == 0) (some (.bool false, [])) (bsel (decide (c1 < 48)) (some (.bool false, [])) (bsel (decide (57 < c1)) (some (.bool false, [])) (g21_L3 x0 (IntKind.i64.wrap (x8 + 1)))))) (g21_L3 x0 (IntKind.i64.wrap (x8 + 1))))) (bsel (!(c1 == 95)) (bsel (x8 == 0) (some (.bool false, [])) (bsel (decide (c1 < 48)) (some (.bool false, [])) (bsel (decide (57 < c1)) (some (.bool false, [])) (g21_L3 x0 (IntKind.i64.wrap (x8 + 1)))))) (g21_L3 x0 (IntKind.i64.wrap (x8 + 1)))))) (bsel (decide (65 ≤ c1)) (bsel (decide (c1 ≤ 90)) (g21_L3 x0 (IntKind.i64.wrap (x8 + 1))) (bsel (!(c1 == 95)) (bsel (x8 == 0) (some (.bool false, [])) (bsel (decide (c1 < 48)) (some (.bool false, [])) (bsel (decide (57 < c1)) (some (.bool false, [])) (g21_L3 x0 (IntKind.i64.wrap (x8 + 1)))))) (g21_L3 x0 (IntKind.i64.wrap (x8 + 1))))) (bsel (!(c1 == 95)) (bsel (x8 == 0) (some (.bool false, [])) (bsel (decide (c1 < 48)) (some (.bool false, [])) (bsel (decide (57 < c1)) (some (.bool false, [])) (g21_L3 x0 (IntKind.i64.wrap (x8 + 1)))))) (g21_L3 x0 (IntKind.i64.wrap (x8 + 1)))))) (bsel (decide (0 < (x0.size : Int))) (some (.bool (decide ((x0.size : Int) ≤ 32)), [])) (some (.bool false, []))) := (LL_eq SS_ok (by decide) (by kernel_rfl) (by kernel_rfl)).trans (by kernel_rfl)
theorem g21_eq (a0 : ByteArray) : SS.CC 21 [.str a0] [] =
    g21_L3 a0 0 := (CC_run SS_ok rfl).trans (by kernel_rfl)
end Go.Proofs.Ytoajpgclgdhhlaa.W

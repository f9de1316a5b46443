/-
  Functions as equations. Printed by a program (wip/tool/dc.py).
-/
import Derived.Test.YtmclnnpaephkpaaB14
namespace Go.Proofs.Ytmclnnpaephkpaa
set_option linter.unusedVariables false
set_option linter.unusedSimpArgs false
set_option linter.unnecessarySimpa false
set_option linter.unusedSectionVars false
open Go.RowKit
set_option maxRecDepth 1000000
/-! overseer/overseerlaw14.ExpressionValues -/
noncomputable def g4_c : Code := bodyOf Try.f4
noncomputable def g4_E : AE := SS.ae 4 118
noncomputable def g4_X : XE := SS.xe SS.CC SS.LL g4_E 0
noncomputable def g4_K0 : AX → ASt → R := retK SS.P Try.f4.results.toList (SS.prm 4).ro 0
noncomputable def g4_c1 : Code := Code.sub [true, true, true, true] g4_c
noncomputable def g4_K1 : AX → ASt → R := thenK (joinX g4_E 0 g4_c1 (exK g4_X g4_c1 g4_K0)) g4_K0
noncomputable def g4_K2 : AX → ASt → R := blkK 0 g4_K1
noncomputable def g4_c2 : Code := Code.sub [true, true, true, false, true, false, false] g4_c
noncomputable def g4_K3 : AX → ASt → R := thenK (fun σ => SS.LL g4_E 0 [2, 7, 8] 0 g4_c2 g4_K2 (σ.gc [2, 7, 8] 0)) g4_K2
noncomputable def g4_c3 : Code := Code.sub [true, true, true, false, true, false, false, true, true] g4_c
noncomputable def g4_K4 : AX → ASt → R := thenK (joinX g4_E 0 g4_c3 (exK g4_X g4_c3 g4_K3)) g4_K3
noncomputable def g4_K5 : AX → ASt → R := blkK 1 g4_K4
noncomputable def g4_c4 : Code := Code.sub [true, true, true, false, true, false, false, true, false, false, true, true] g4_c
noncomputable def g4_K6 : AX → ASt → R := thenK (joinX g4_E 0 g4_c4 (exK g4_X g4_c4 g4_K5)) g4_K5
noncomputable def g4_K7 : AX → ASt → R := blkK 2 g4_K6
noncomputable def g4_c5 : Code := Code.sub [true, true, true, false, true, false, false, true, false, false, true, false, true, false, false] g4_c
noncomputable def g4_L6 (x2 : List PV) (x7 : List PV) (x8 : Int) : R := SS.LL g4_E 0 [2, 7, 8] 0 g4_c2 g4_K2 ⟨[(2, .sl false 1 x2), (7, .sl true 4 x7), (8, .int .i64 x8)], []⟩
noncomputable def g4_L10 (x2 : List PV) (x7 : List PV) (x10 : Int) (x11 : Int) (x8 : Int) : R := SS.LL g4_E 0 [2, 7, 8, 10, 11] 0 g4_c5 g4_K7 ⟨[(2, .sl false 1 x2), (7, .sl true 4 x7), (8, .int .i64 x8), (10, .int .i64 x10), (11, .int .i64 x11)], []⟩
noncomputable def g4_J14 (x2 : List PV) (x7 : List PV) (x10 : Int) (x8 : Int) : R := exK g4_X g4_c4 g4_K5 ⟨[(2, .sl false 1 x2), (7, .sl true 4 x7), (8, .int .i64 x8), (10, .int .i64 x10)], []⟩
theorem g4_L6_eq (x2 : List PV) (x7 : List PV) (x8 : Int) : g4_L6 x2 x7 x8 =
    bsel (decide (x8 < 2)) (lgetX x7 x8 fun e1 => v23 e1 fun n2 n3 n4 l5 => clX SS.CC 15 [.agg [.int .i64 n2, .int .i64 n3, .int .i64 n4, .sl false 4 l5], .int .i64 (x2.length : Int)] fun r8 => w_3_3 r8 fun n6 n7 => g4_L10 x2 x7 n7 0 x8) (some (.bool true, [])) := (LL_eq SS_ok (by decide) (by kernel_rfl) (by kernel_rfl)).trans (by kernel_rfl)
theorem g4_L10_eq (x2 : List PV) (x7 : List PV) (x10 : Int) (x11 : Int) (x8 : Int) : g4_L10 x2 x7 x10 x11 x8 =
    bsel (decide (x11 < (x2.length : Int))) (bsel (x10 == 0) (lgetX x2 x11 fun e1 => vI .i64 e1 fun n2 => clX SS.CC 19 [.int .i64 n2, .int .i64 65536] fun r4 => vB r4 fun b3 => bsel b3 (g4_L10 x2 x7 2 (IntKind.i64.wrap (x11 + 1)) x8) (g4_L10 x2 x7 x10 (IntKind.i64.wrap (x11 + 1)) x8)) (g4_J14 x2 x7 x10 x8)) (g4_J14 x2 x7 x10 x8) := (LL_eq SS_ok (by decide) (by kernel_rfl) (by kernel_rfl)).trans (by kernel_rfl)
theorem g4_J14_eq (x2 : List PV) (x7 : List PV) (x10 : Int) (x8 : Int) : g4_J14 x2 x7 x10 x8 =
    lgetX x7 x8 fun e1 => v23 e1 fun n2 n3 n4 l5 => clX SS.CC 20 [.agg [.int .i64 n2, .int .i64 n3, .int .i64 n4, .sl false 4 l5], .sl false 1 x2] fun r8 => w_3_3 r8 fun n6 n7 => bsel (x10 != 0) (bsel (n6 != 0) (some (.bool false, [])) (bsel (n7 != x10) (some (.bool false, [])) (g4_L6 x2 x7 (IntKind.i64.wrap (x8 + 1))))) (lgetX x7 x8 fun e9 => v23 e9 fun n10 n11 n12 l13 => clX SS.CC 21 [.agg [.int .i64 n10, .int .i64 n11, .int .i64 n12, .sl false 4 l13], .sl false 1 x2] fun r16 => w_3_4 r16 fun n14 b15 => bsel b15 (bsel (n6 != n14) (some (.bool false, [])) (bsel (n7 != 0) (some (.bool false, [])) (bsel (!b15) (bsel (n6 != 0) (some (.bool false, [])) (bsel (n7 != 17) (some (.bool false, [])) (g4_L6 x2 x7 (IntKind.i64.wrap (x8 + 1))))) (g4_L6 x2 x7 (IntKind.i64.wrap (x8 + 1)))))) (bsel (!b15) (bsel (n6 != 0) (some (.bool false, [])) (bsel (n7 != 17) (some (.bool false, [])) (g4_L6 x2 x7 (IntKind.i64.wrap (x8 + 1))))) (g4_L6 x2 x7 (IntKind.i64.wrap (x8 + 1))))) := by kernel_rfl
theorem g4_eq (a0 : Int) (a0_1 : Int) (a0_2 : Int) (a0_3 : List PV) (a1 : List PV) (a2 : List PV) : SS.CC 4 [.agg [.int .i64 a0, .int .i64 a0_1, .int .i64 a0_2, .sl false 4 a0_3], .sl false 1 a1, .sl false 1 a2] [] =
    clX SS.CC 12 [] fun r2 => vB r2 fun b1 => bsel (!b1) (clX SS.CC 12 [] fun r4 => vB r4 fun b3 => some (.bool b3, [])) (clX SS.CC 13 [.agg [.int .i64 a0, .int .i64 a0_1, .int .i64 a0_2, .sl false 4 a0_3]] fun r6 => vB r6 fun b5 => bsel (!b5) (clX SS.CC 12 [] fun r8 => vB r8 fun b7 => some (.bool b7, [])) (bsel (decide (18 < (a2.length : Int))) (clX SS.CC 12 [] fun r10 => vB r10 fun b9 => some (.bool b9, [])) (clX SS.CC 18 [.sl false 1 a1, .int .i64 (if (16 : Int) < (a2.length : Int) then (16 : Int) else (a2.length : Int)), .int .i64 (IntKind.i64.wrap (1 + (Int.tmod (a1.length : Int) 2)))] fun r15 => v23 r15 fun n11 n12 n13 l14 => g4_L6 a2 [.agg [.int .i64 a0, .int .i64 a0_1, .int .i64 a0_2, .sl false 4 a0_3], .agg [.int .i64 n11, .int .i64 n12, .int .i64 n13, .sl false 4 l14]] 0))) := (CC_run SS_ok rfl).trans (by kernel_rfl)
end Go.Proofs.Ytmclnnpaephkpaa

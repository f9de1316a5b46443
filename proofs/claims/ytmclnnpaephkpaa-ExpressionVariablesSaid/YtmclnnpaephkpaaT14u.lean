/-
  Functions as equations. Printed by a program (wip/tool/dc.py).
-/
import Derived.Test.YtmclnnpaephkpaaB14
namespace Go.Proofs.Ytmclnnpaephkpaa
set_option linter.unusedVariables false
set_option linter.unusedSimpArgs false
set_option linter.unnecessarySimpa false
set_option linter.unusedSectionVars false
open Go.RowKit
set_option maxRecDepth 1000000
/-! overseer/overseerlaw14.variables -/
noncomputable def g32_c : Code := bodyOf Try.f32
noncomputable def g32_E : AE := SS.ae 32 61
noncomputable def g32_X : XE := SS.xe SS.CC SS.LL g32_E 0
noncomputable def g32_K0 : AX → ASt → R := retK SS.P Try.f32.results.toList (SS.prm 32).ro 0 []
noncomputable def g32_c1 : Code := Code.sub [true, true, true] g32_c
noncomputable def g32_K1 : AX → ASt → R := thenK (joinX g32_E 0 g32_c1 (exK g32_X g32_c1 g32_K0)) g32_K0
noncomputable def g32_K2 : AX → ASt → R := blkK 0 g32_K1
noncomputable def g32_c2 : Code := Code.sub [true, true, false, true, false, false] g32_c
noncomputable def g32_K3 : AX → ASt → R := thenK (fun σ => SS.LL g32_E 0 [0, 3] 0 g32_c2 g32_K2 (σ.gc [0, 3] 0)) g32_K2
noncomputable def g32_c3 : Code := Code.sub [true, true, false, true, false, false, true, true] g32_c
noncomputable def g32_K4 : AX → ASt → R := thenK (joinX g32_E 0 g32_c3 (exK g32_X g32_c3 g32_K3)) g32_K3
noncomputable def g32_K5 : AX → ASt → R := blkK 1 g32_K4
noncomputable def g32_c4 : Code := Code.sub [true, true, false, true, false, false, true, false, false, true, true, true] g32_c
noncomputable def g32_K6 : AX → ASt → R := thenK (joinX g32_E 0 g32_c4 (exK g32_X g32_c4 g32_K5)) g32_K5
noncomputable def g32_K7 : AX → ASt → R := blkK 2 g32_K6
noncomputable def g32_c5 : Code := Code.sub [true, true, false, true, false, false, true, false, false, true, true, false, true, false, false] g32_c
noncomputable def g32_L5 (x0 : List PV) (x3 : Int) : R := SS.LL g32_E 0 [0, 3] 0 g32_c2 g32_K2 ⟨[(0, .sl false 4 x0), (3, .int .i64 x3)], []⟩
noncomputable def g32_L11 (x0 : List PV) (o0_0 : ByteArray) (o0_1 : Int) (o0_2 : Int) (o0_3 : Int) (x3 : Int) (x5 : Int) : R := SS.LL g32_E 0 [0, 3, 4, 5] 1 g32_c5 g32_K7 ⟨[(0, .sl false 4 x0), (3, .int .i64 x3), (4, .ptr 0 0), (5, .int .i64 x5)], [some [.str o0_0, .int .i64 o0_1, .int .i64 o0_2, .int .i64 o0_3]]⟩
theorem g32_L5_eq (x0 : List PV) (x3 : Int) : g32_L5 x0 x3 =
    bsel (decide (x3 < (x0.length : Int))) (lgetX x0 x3 fun e1 => v47 e1 fun s2 n3 n4 n5 => clX SS.CC 58 [.str s2] fun r7 => vB r7 fun b6 => bsel (!b6) (some (.int .i64 7, [])) (g32_L11 x0 s2 n3 n4 n5 x3 0)) (some (.int .i64 0, [])) := (LL_eq SS_ok (by decide) (by kernel_rfl) (by kernel_rfl)).trans (by kernel_rfl)
theorem g32_L11_eq (x0 : List PV) (o0_0 : ByteArray) (o0_1 : Int) (o0_2 : Int) (o0_3 : Int) (x3 : Int) (x5 : Int) : g32_L11 x0 o0_0 o0_1 o0_2 o0_3 x3 x5 =
    bsel (decide (x5 < x3)) (lgetX x0 x5 fun e1 => v47 e1 fun s2 n3 n4 n5 => bsel (s2.toList == o0_0.toList) (some (.int .i64 8, [])) (g32_L11 x0 o0_0 o0_1 o0_2 o0_3 x3 (IntKind.i64.wrap (x5 + 1)))) (clX SS.CC 19 [.int .i64 o0_1, .int .i64 65536] fun r7 => vB r7 fun b6 => bsel b6 (some (.int .i64 2, [])) (clX SS.CC 19 [.int .i64 o0_2, .int .i64 65536] fun r9 => vB r9 fun b8 => bsel b8 (some (.int .i64 2, [])) (bsel (decide (o0_2 < o0_1)) (some (.int .i64 5, [])) (bsel (decide (o0_3 < o0_1)) (some (.int .i64 2, [])) (bsel (decide (o0_2 < o0_3)) (some (.int .i64 2, [])) (g32_L5 x0 (IntKind.i64.wrap (x3 + 1)))))))) := (LL_eq SS_ok (by decide) (by kernel_rfl) (by kernel_rfl)).trans (by kernel_rfl)
theorem g32_eq (a0 : List PV) : SS.CC 32 [.sl false 4 a0] [] =
    bsel (decide (16 < (a0.length : Int))) (some (.int .i64 3, [])) (g32_L5 a0 0) := (CC_run SS_ok rfl).trans (by kernel_rfl)
end Go.Proofs.Ytmclnnpaephkpaa

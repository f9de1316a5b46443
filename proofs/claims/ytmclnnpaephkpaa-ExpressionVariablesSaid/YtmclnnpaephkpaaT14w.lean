/-
  Functions as equations. Printed by a program (wip/tool/dc.py).
-/
import Derived.Test.YtmclnnpaephkpaaB14
namespace Go.Proofs.Ytmclnnpaephkpaa
set_option linter.unusedVariables false
set_option linter.unusedSimpArgs false
set_option linter.unnecessarySimpa false
set_option linter.unusedSectionVars false
open Go.RowKit
set_option maxRecDepth 1000000
/-! overseer/overseerlaw14.ExpressionVariables -/
noncomputable def g10_c : Code := bodyOf Try.f10
noncomputable def g10_E : AE := SS.ae 10 219
noncomputable def g10_X : XE := SS.xe SS.CC SS.LL g10_E 0
noncomputable def g10_K0 : AX → ASt → R := retK SS.P Try.f10.results.toList (SS.prm 10).ro 0 []
noncomputable def g10_c1 : Code := Code.sub [true, true, true] g10_c
noncomputable def g10_K1 : AX → ASt → R := thenK (joinX g10_E 0 g10_c1 (exK g10_X g10_c1 g10_K0)) g10_K0
noncomputable def g10_K2 : AX → ASt → R := blkK 0 g10_K1
noncomputable def g10_c2 : Code := Code.sub [true, true, false, true, false, false] g10_c
noncomputable def g10_c3 : Code := Code.sub [true, true, true, true, true, true] g10_c
noncomputable def g10_K3 : AX → ASt → R := thenK (joinX g10_E 0 g10_c3 (exK g10_X g10_c3 g10_K0)) g10_K0
noncomputable def g10_K4 : AX → ASt → R := blkK 2 g10_K3
noncomputable def g10_c4 : Code := Code.sub [true, true, true, true, true, false, true, false, false] g10_c
noncomputable def g10_c5 : Code := Code.sub [true, true, true, true, true, true, true, true] g10_c
noncomputable def g10_c6 : Code := Code.sub [true, true, true, true, true, true, true, true, true, true, true, true] g10_c
noncomputable def g10_K5 : AX → ASt → R := thenK (joinX g10_E 0 g10_c6 (exK g10_X g10_c6 g10_K0)) g10_K0
noncomputable def g10_K6 : AX → ASt → R := blkK 4 g10_K5
noncomputable def g10_c7 : Code := Code.sub [true, true, true, true, true, true, true, true, true, true, true, false, true, false, false] g10_c
noncomputable def g10_c8 : Code := Code.sub [true, true, true, true, true, true, true, true, true, true, true, true, true, true] g10_c
noncomputable def g10_K7 : AX → ASt → R := thenK (joinX g10_E 0 g10_c8 (exK g10_X g10_c8 g10_K0)) g10_K0
noncomputable def g10_K8 : AX → ASt → R := blkK 6 g10_K7
noncomputable def g10_c9 : Code := Code.sub [true, true, true, true, true, true, true, true, true, true, true, true, true, false, true, false, false] g10_c
noncomputable def g10_K9 : AX → ASt → R := thenK (fun σ => SS.LL g10_E 0 [13, 14, 18] 0 g10_c9 g10_K8 (σ.gc [13, 14, 18] 0)) g10_K8
noncomputable def g10_c10 : Code := Code.sub [true, true, true, true, true, true, true, true, true, true, true, true, true, false, true, false, false, true, true] g10_c
noncomputable def g10_K10 : AX → ASt → R := thenK (joinX g10_E 0 g10_c10 (exK g10_X g10_c10 g10_K9)) g10_K9
noncomputable def g10_K11 : AX → ASt → R := blkK 7 g10_K10
noncomputable def g10_K12 : AX → ASt → R := blkK 8 g10_K11
noncomputable def g10_c11 : Code := Code.sub [true, true, true, true, true, true, true, true, true, true, true, true, true, false, true, false, false, true, false, false, true, true, false, false] g10_c
noncomputable def g10_L5 (x0 : List PV) (x1 : List PV) (x2 : List PV) (x7 : Int) : R := SS.LL g10_E 0 [0, 1, 2, 7] 0 g10_c2 g10_K2 ⟨[(0, .sl false 4 x0), (1, .sl false 1 x1), (2, .sl false 2 x2), (7, .int .i64 x7)], []⟩
noncomputable def g10_L12 (x0 : List PV) (x1 : List PV) (x2 : List PV) (x8 : Int) (x9 : Bool) (x10 : Int) : R := SS.LL g10_E 0 [0, 1, 2, 8, 9, 10] 0 g10_c4 g10_K4 ⟨[(0, .sl false 4 x0), (1, .sl false 1 x1), (2, .sl false 2 x2), (8, .int .i64 x8), (9, .bool x9), (10, .int .i64 x10)], []⟩
noncomputable def g10_J15 (x0 : List PV) (x1 : List PV) (x2 : List PV) (x8 : Int) (x9 : Bool) : R := exK g10_X g10_c3 g10_K0 ⟨[(0, .sl false 4 x0), (1, .sl false 1 x1), (2, .sl false 2 x2), (8, .int .i64 x8), (9, .bool x9)], []⟩
noncomputable def g10_J21 (x2 : List PV) : R := exK g10_X g10_c5 g10_K0 ⟨[(2, .sl false 2 x2)], []⟩
noncomputable def g10_L25 (x13 : List PV) (x14 : List PV) (x15 : Int) (x16 : Int) (x17 : Int) : R := SS.LL g10_E 0 [13, 14, 15, 16, 17] 0 g10_c7 g10_K6 ⟨[(13, .sl false 4 x13), (14, .sl false 1 x14), (15, .int .i64 x15), (16, .int .i64 x16), (17, .int .i64 x17)], []⟩
noncomputable def g10_L31 (x13 : List PV) (x14 : List PV) (x18 : Int) : R := SS.LL g10_E 0 [13, 14, 18] 0 g10_c9 g10_K8 ⟨[(13, .sl false 4 x13), (14, .sl false 1 x14), (18, .int .i64 x18)], []⟩
noncomputable def g10_L35 (x13 : List PV) (x14 : List PV) (x19 : Int) (x20 : Int) (x18 : Int) : R := SS.LL g10_E 0 [13, 14, 18, 19, 20] 0 g10_c11 g10_K12 ⟨[(13, .sl false 4 x13), (14, .sl false 1 x14), (18, .int .i64 x18), (19, .int .i64 x19), (20, .int .i64 x20)], []⟩
theorem g10_L5_eq (x0 : List PV) (x1 : List PV) (x2 : List PV) (x7 : Int) : g10_L5 x0 x1 x2 x7 =
    bsel (decide (x7 < (x0.length : Int))) (lgetX x0 x7 fun e1 => v47 e1 fun s2 n3 n4 n5 => bsel (decide (40 < (s2.size : Int))) (some (.bool true, [])) (g10_L5 x0 x1 x2 (IntKind.i64.wrap (x7 + 1)))) (clX SS.CC 32 [.sl false 4 x0] fun r7 => vI .i64 r7 fun n6 => g10_L12 x0 x1 x2 n6 ((x1.length : Int) == (x0.length : Int)) 0) := (LL_eq SS_ok (by decide) (by kernel_rfl) (by kernel_rfl)).trans (by kernel_rfl)
theorem g10_L12_eq (x0 : List PV) (x1 : List PV) (x2 : List PV) (x8 : Int) (x9 : Bool) (x10 : Int) : g10_L12 x0 x1 x2 x8 x9 x10 =
    bsel (decide (x10 < (x0.length : Int))) (bsel x9 (lgetX x0 x10 fun e1 => v47 e1 fun s2 n3 n4 n5 => lgetX x1 x10 fun e6 => vI .i64 e6 fun n7 => bsel (decide (n3 ≤ n7)) (lgetX x1 x10 fun e8 => vI .i64 e8 fun n9 => lgetX x0 x10 fun e10 => v47 e10 fun s11 n12 n13 n14 => g10_L12 x0 x1 x2 x8 (decide (n9 ≤ n13)) (IntKind.i64.wrap (x10 + 1))) (g10_L12 x0 x1 x2 x8 false (IntKind.i64.wrap (x10 + 1)))) (g10_J15 x0 x1 x2 x8 x9)) (g10_J15 x0 x1 x2 x8 x9) := (LL_eq SS_ok (by decide) (by kernel_rfl) (by kernel_rfl)).trans (by kernel_rfl)
theorem g10_J15_eq (x0 : List PV) (x1 : List PV) (x2 : List PV) (x8 : Int) (x9 : Bool) : g10_J15 x0 x1 x2 x8 x9 =
    clX SS.CC 33 [.sl false 4 x0] fun r2 => vI .i64 r2 fun n1 => bsel (n1 != x8) (some (.bool false, [])) (clX SS.CC 28 [.sl false 4 x0, .sl false 1 x1] fun r4 => vB r4 fun b3 => bsel (!(b3 == x9)) (some (.bool false, [])) (bsel (x8 != 0) (clX SS.CC 34 [.sl false 4 x0] fun r7 => w_65_3 r7 fun l5 n6 => bsel ((l5.length : Int) != 0) (some (.bool false, [])) (bsel (n6 != x8) (some (.bool false, [])) (g10_J21 x2))) (g10_J21 x2))) := by kernel_rfl
theorem g10_J21_eq (x2 : List PV) : g10_J21 x2 =
    clX SS.CC 22 [.sl false 2 x2] fun r2 => vL false 4 r2 fun l1 => clX SS.CC 34 [.sl false 4 l1] fun r5 => w_65_3 r5 fun l3 n4 => g10_L25 l1 l3 n4 1 0 := by kernel_rfl
theorem g10_L25_eq (x13 : List PV) (x14 : List PV) (x15 : Int) (x16 : Int) (x17 : Int) : g10_L25 x13 x14 x15 x16 x17 =
    bsel (decide (x17 < (x13.length : Int))) (lgetX x13 x17 fun e1 => v47 e1 fun s2 n3 n4 n5 => lgetX x13 x17 fun e6 => v47 e6 fun s7 n8 n9 n10 => g10_L25 x13 x14 x15 (IntKind.i64.wrap (x16 * (IntKind.i64.wrap ((IntKind.i64.wrap (n4 - n8)) + 1)))) (IntKind.i64.wrap (x17 + 1))) (bsel (x15 != 0) (some (.bool false, [])) (bsel ((x14.length : Int) != x16) (some (.bool false, [])) (g10_L31 x13 x14 0))) := (LL_eq SS_ok (by decide) (by kernel_rfl) (by kernel_rfl)).trans (by kernel_rfl)
theorem g10_L31_eq (x13 : List PV) (x14 : List PV) (x18 : Int) : g10_L31 x13 x14 x18 =
    bsel (decide (x18 < (x14.length : Int))) (g10_L35 x13 x14 x18 (IntKind.i64.wrap ((x13.length : Int) - 1)) x18) (clX SS.CC 34 [.sl false 4 [.agg [.str ⟨#[97]⟩, .int .i64 0, .int .i64 64, .int .i64 0], .agg [.str ⟨#[98]⟩, .int .i64 0, .int .i64 63, .int .i64 0]]] fun r3 => w_65_3 r3 fun l1 n2 => bsel ((l1.length : Int) == 0) (some (.bool (n2 == 3), [])) (some (.bool false, []))) := (LL_eq SS_ok (by decide) (by kernel_rfl) (by kernel_rfl)).trans (by kernel_rfl)
theorem g10_L35_eq (x13 : List PV) (x14 : List PV) (x19 : Int) (x20 : Int) (x18 : Int) : g10_L35 x13 x14 x19 x20 x18 =
    bsel (decide (0 ≤ x20)) (lgetX x13 x20 fun e1 => v47 e1 fun s2 n3 n4 n5 => lgetX x13 x20 fun e6 => v47 e6 fun s7 n8 n9 n10 => lgetX x14 x18 fun e11 => vL false 1 e11 fun l12 => bsel ((l12.length : Int) != (x13.length : Int)) (some (.bool false, [])) (lgetX x14 x18 fun e13 => vL false 1 e13 fun l14 => lgetX l14 x20 fun e15 => vI .i64 e15 fun n16 => lgetX x13 x20 fun e17 => v47 e17 fun s18 n19 n20 n21 => chk (!((IntKind.i64.wrap ((IntKind.i64.wrap (n4 - n8)) + 1)) == 0)) (bsel (n16 != (IntKind.i64.wrap (n19 + (Int.tmod x19 (IntKind.i64.wrap ((IntKind.i64.wrap (n4 - n8)) + 1)))))) (some (.bool false, [])) (chk (!((IntKind.i64.wrap ((IntKind.i64.wrap (n4 - n8)) + 1)) == 0)) (g10_L35 x13 x14 (IntKind.i64.wrap (Int.tdiv x19 (IntKind.i64.wrap ((IntKind.i64.wrap (n4 - n8)) + 1)))) (IntKind.i64.wrap (x20 - 1)) x18))))) (g10_L31 x13 x14 (IntKind.i64.wrap (x18 + 1))) := (LL_eq SS_ok (by decide) (by kernel_rfl) (by kernel_rfl)).trans (by kernel_rfl)
theorem g10_eq (a0 : List PV) (a1 : List PV) (a2 : List PV) : SS.CC 10 [.sl false 4 a0, .sl false 1 a1, .sl false 2 a2] [] =
    clX SS.CC 12 [] fun r2 => vB r2 fun b1 => bsel (!b1) (clX SS.CC 12 [] fun r4 => vB r4 fun b3 => some (.bool b3, [])) (bsel (decide (18 < (a0.length : Int))) (clX SS.CC 12 [] fun r6 => vB r6 fun b5 => some (.bool b5, [])) (bsel (decide (18 < (a1.length : Int))) (clX SS.CC 12 [] fun r8 => vB r8 fun b7 => some (.bool b7, [])) (g10_L5 a0 a1 a2 0))) := (CC_run SS_ok rfl).trans (by kernel_rfl)
/-! overseer/expression.All -/
noncomputable def g34_c : Code := bodyOf Try.f34
noncomputable def g34_E : AE := SS.ae 34 70
noncomputable def g34_X : XE := SS.xe SS.CC SS.LL g34_E 0
noncomputable def g34_K0 : AX → ASt → R := retK SS.P Try.f34.results.toList (SS.prm 34).ro 0 []
noncomputable def g34_c1 : Code := Code.sub [true, true, true, true] g34_c
noncomputable def g34_K1 : AX → ASt → R := thenK (joinX g34_E 0 g34_c1 (exK g34_X g34_c1 g34_K0)) g34_K0
noncomputable def g34_K2 : AX → ASt → R := blkK 0 g34_K1
noncomputable def g34_c2 : Code := Code.sub [true, true, true, false, true, false, false] g34_c
noncomputable def g34_c3 : Code := Code.sub [true, true, true, true, true, true] g34_c
noncomputable def g34_K3 : AX → ASt → R := thenK (joinX g34_E 0 g34_c3 (exK g34_X g34_c3 g34_K0)) g34_K0
noncomputable def g34_K4 : AX → ASt → R := blkK 2 g34_K3
noncomputable def g34_c4 : Code := Code.sub [true, true, true, true, true, false, true, false, false] g34_c
noncomputable def g34_K5 : AX → ASt → R := thenK (fun σ => SS.LL g34_E 0 [8, 38, 39, 40] 0 g34_c4 g34_K4 (σ.gc [8, 38, 39, 40] 0)) g34_K4
noncomputable def g34_c5 : Code := Code.sub [true, true, true, true, true, false, true, false, false, true, true, true] g34_c
noncomputable def g34_K6 : AX → ASt → R := thenK (joinX g34_E 0 g34_c5 (exK g34_X g34_c5 g34_K5)) g34_K5
noncomputable def g34_K7 : AX → ASt → R := blkK 3 g34_K6
noncomputable def g34_c6 : Code := Code.sub [true, true, true, true, true, false, true, false, false, true, true, false, false, true, true, true] g34_c
noncomputable def g34_K8 : AX → ASt → R := thenK (joinX g34_E 0 g34_c6 (exK g34_X g34_c6 g34_K7)) g34_K7
noncomputable def g34_K9 : AX → ASt → R := blkK 4 g34_K8
noncomputable def g34_c7 : Code := Code.sub [true, true, true, true, true, false, true, false, false, true, true, false, false, true, true, false, true, false, false] g34_c
noncomputable def g34_K10 : AX → ASt → R := thenK (fun σ => SS.LL g34_E 0 [10, 11, 38, 39, 40, 44, 45, 46] 1 g34_c7 g34_K9 (σ.gc [10, 11, 38, 39, 40, 44, 45, 46] 1)) g34_K9
noncomputable def g34_c8 : Code := Code.sub [true, true, true, true, true, false, true, false, false, true, true, false, false, true, true, false, true, false, false, true, true, true] g34_c
noncomputable def g34_K11 : AX → ASt → R := thenK (joinX g34_E 0 g34_c8 (exK g34_X g34_c8 g34_K10)) g34_K10
noncomputable def g34_K12 : AX → ASt → R := blkK 5 g34_K11
noncomputable def g34_K13 : AX → ASt → R := blkK 6 g34_K12
noncomputable def g34_c9 : Code := Code.sub [true, true, true, true, true, false, true, false, false, true, true, false, false, true, true, false, true, false, false, true, true, false, false, true, true, false, false] g34_c
noncomputable def g34_L7 (x0 : List PV) (x5 : Int) (x22 : Int) : R := SS.LL g34_E 0 [0, 5, 20, 21, 22] 0 g34_c2 g34_K2 ⟨[(0, .sl false 4 x0), (5, .int .i64 x5), (20, .sl false 4 x0), (21, .int .i64 (x0.length : Int)), (22, .int .i64 x22)], []⟩
noncomputable def g34_L15 (x38 : List PV) (x8 : List PV) (x40 : Int) : R := SS.LL g34_E 0 [8, 38, 39, 40] 0 g34_c4 g34_K4 ⟨[(8, .sl true 1 x8), (38, .sl false 4 x38), (39, .int .i64 (x38.length : Int)), (40, .int .i64 x40)], []⟩
noncomputable def g34_L19 (x38 : List PV) (o0_0 : ByteArray) (o0_1 : Int) (o0_2 : Int) (o0_3 : Int) (x46 : Int) (x11 : List PV) (x40 : Int) (x44 : List PV) (x45 : Int) : R := SS.LL g34_E 0 [10, 11, 38, 39, 40, 44, 45, 46] 1 g34_c7 g34_K9 ⟨[(10, .ptr 0 0), (11, .sl true 1 x11), (38, .sl false 4 x38), (39, .int .i64 (x38.length : Int)), (40, .int .i64 x40), (44, .sl false 1 x44), (45, .int .i64 x45), (46, .int .i64 x46)], [some [.str o0_0, .int .i64 o0_1, .int .i64 o0_2, .int .i64 o0_3]]⟩
noncomputable def g34_L22 (x13 : List PV) (x14 : Int) (x38 : List PV) (o0_0 : ByteArray) (o0_2 : Int) (o0_3 : Int) (o0_1 : Int) (x11 : List PV) (x46 : Int) (x40 : Int) (x44 : List PV) (x45 : Int) : R := SS.LL g34_E 0 [10, 11, 13, 14, 38, 39, 40, 44, 45, 46] 1 g34_c9 g34_K13 ⟨[(10, .ptr 0 0), (11, .sl true 1 x11), (13, .sl false 1 x13), (14, .int .i64 x14), (38, .sl false 4 x38), (39, .int .i64 (x38.length : Int)), (40, .int .i64 x40), (44, .sl false 1 x44), (45, .int .i64 x45), (46, .int .i64 x46)], [some [.str o0_0, .int .i64 o0_1, .int .i64 o0_2, .int .i64 o0_3]]⟩
theorem g34_L7_eq (x0 : List PV) (x5 : Int) (x22 : Int) : g34_L7 x0 x5 x22 =
    bsel (decide (x22 < (x0.length : Int))) (lgetX x0 x22 fun e1 => v47 e1 fun s2 n3 n4 n5 => bsel (decide (4096 < (IntKind.i64.wrap (x5 * (IntKind.i64.wrap ((IntKind.i64.wrap (n4 - n3)) + 1)))))) (some (.tuple [.sl false 1 [], .int .i64 3], [])) (g34_L7 x0 (IntKind.i64.wrap (x5 * (IntKind.i64.wrap ((IntKind.i64.wrap (n4 - n3)) + 1)))) (IntKind.i64.wrap (x22 + 1)))) (g34_L15 x0 [.sl false 1 []] 0) := (LL_eq SS_ok (by decide) (by kernel_rfl) (by kernel_rfl)).trans (by kernel_rfl)
theorem g34_L15_eq (x38 : List PV) (x8 : List PV) (x40 : Int) : g34_L15 x38 x8 x40 =
    bsel (decide (x40 < (x38.length : Int))) (lgetX x38 x40 fun e1 => v47 e1 fun s2 n3 n4 n5 => g34_L19 x38 s2 n3 n4 n5 0 [] x40 x8 (x8.length : Int)) (some (.tuple [.sl false 1 x8, .int .i64 0], [])) := (LL_eq SS_ok (by decide) (by kernel_rfl) (by kernel_rfl)).trans (by kernel_rfl)
theorem g34_L19_eq (x38 : List PV) (o0_0 : ByteArray) (o0_1 : Int) (o0_2 : Int) (o0_3 : Int) (x46 : Int) (x11 : List PV) (x40 : Int) (x44 : List PV) (x45 : Int) : g34_L19 x38 o0_0 o0_1 o0_2 o0_3 x46 x11 x40 x44 x45 =
    bsel (decide (x46 < x45)) (lgetX x44 x46 fun e1 => vL false 1 e1 fun l2 => g34_L22 l2 o0_1 x38 o0_0 o0_2 o0_3 o0_1 x11 x46 x40 x44 x45) (g34_L15 x38 x11 (IntKind.i64.wrap (x40 + 1))) := (LL_eq SS_ok (by decide) (by kernel_rfl) (by kernel_rfl)).trans (by kernel_rfl)
theorem g34_L22_eq (x13 : List PV) (x14 : Int) (x38 : List PV) (o0_0 : ByteArray) (o0_2 : Int) (o0_3 : Int) (o0_1 : Int) (x11 : List PV) (x46 : Int) (x40 : Int) (x44 : List PV) (x45 : Int) : g34_L22 x13 x14 x38 o0_0 o0_2 o0_3 o0_1 x11 x46 x40 x44 x45 =
    bsel (decide (x14 ≤ o0_2)) (clX SS.CC 61 [.sl false 1 x13] fun r2 => vL true 1 r2 fun l1 => chk (decide (l1.length + 1 ≤ LIM)) (chk (decide (x11.length + 1 ≤ LIM)) (g34_L22 x13 (IntKind.i64.wrap (x14 + 1)) x38 o0_0 o0_2 o0_3 o0_1 (x11 ++ [.sl false 1 (l1 ++ [.int .i64 x14])]) x46 x40 x44 x45))) (g34_L19 x38 o0_0 o0_1 o0_2 o0_3 (IntKind.i64.wrap (x46 + 1)) x11 x40 x44 x45) := (LL_eq SS_ok (by decide) (by kernel_rfl) (by kernel_rfl)).trans (by kernel_rfl)
theorem g34_eq (a0 : List PV) : SS.CC 34 [.sl false 4 a0] [] =
    clX SS.CC 33 [.sl false 4 a0] fun r2 => vI .i64 r2 fun n1 => bsel (n1 != 0) (some (.tuple [.sl false 1 [], .int .i64 n1], [])) (g34_L7 a0 1 0) := (CC_run SS_ok rfl).trans (by kernel_rfl)
/-! slices.Clone[[]int,int] -/
noncomputable def g61_c : Code := bodyOf Try.f61
noncomputable def g61_E : AE := SS.ae 61 8
noncomputable def g61_X : XE := SS.xe SS.CC SS.LL g61_E 0
theorem g61_eq (a0 : List PV) : SS.CC 61 [.sl false 1 a0] [] =
    nilX a0 fun b1 => bsel (b1 == true) (some (.sl true 1 [], [])) (chk (decide (0 + a0.length ≤ LIM)) (some (.sl true 1 a0, []))) := (CC_run SS_ok rfl).trans (by kernel_rfl)
end Go.Proofs.Ytmclnnpaephkpaa

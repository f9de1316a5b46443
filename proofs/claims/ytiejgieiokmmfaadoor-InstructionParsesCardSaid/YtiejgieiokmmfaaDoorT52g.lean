/-
  Functions as equations. Printed by a program (wip/tool/dc.py).
-/
import Derived.Test.YtiejgieiokmmfaaDoorB52
namespace Go.Proofs.YtiejgieiokmmfaaDoor
set_option linter.unusedVariables false
set_option linter.unusedSimpArgs false
set_option linter.unnecessarySimpa false
set_option linter.unusedSectionVars false
open Go.RowKit
set_option maxRecDepth 1000000
/-! overseer/overseerlaw52.parse -/
noncomputable def g27_c : Code := bodyOf Tryd.f27
noncomputable def g27_E : AE := SS.ae 27 70
noncomputable def g27_X : XE := SS.xe SS.CC SS.LL g27_E 0
noncomputable def g27_K0 : AX → ASt → R := retK SS.P Tryd.f27.results.toList (SS.prm 27).ro 0 []
noncomputable def g27_c1 : Code := Code.sub [true, true, true, true, true] g27_c
noncomputable def g27_K1 : AX → ASt → R := thenK (joinX g27_E 0 g27_c1 (exK g27_X g27_c1 g27_K0)) g27_K0
noncomputable def g27_K2 : AX → ASt → R := blkK 0 g27_K1
noncomputable def g27_c2 : Code := Code.sub [true, true, true, true, false, true, false, false] g27_c
noncomputable def g27_K3 : AX → ASt → R := thenK (fun σ => SS.LL g27_E 0 [0, 2, 5, 6] 2 g27_c2 g27_K2 (σ.gc [0, 2, 5, 6] 2)) g27_K2
noncomputable def g27_c3 : Code := Code.sub [true, true, true, true, false, true, false, false, true, true] g27_c
noncomputable def g27_K4 : AX → ASt → R := thenK (joinX g27_E 0 g27_c3 (exK g27_X g27_c3 g27_K3)) g27_K3
noncomputable def g27_K5 : AX → ASt → R := blkK 1 g27_K4
noncomputable def g27_c4 : Code := Code.sub [true, true, true, true, false, true, false, false, true, false, false, true, true] g27_c
noncomputable def g27_K6 : AX → ASt → R := thenK (joinX g27_E 0 g27_c4 (exK g27_X g27_c4 g27_K5)) g27_K5
noncomputable def g27_K7 : AX → ASt → R := blkK 2 g27_K6
noncomputable def g27_c5 : Code := Code.sub [true, true, true, true, false, true, false, false, true, false, false, true, false, false, false] g27_c
noncomputable def g27_L8 (x0 : ByteArray) (x6 : Int) (o1_0 : Int) (o1_1 : Int) (o1_2 : Int) (o1_3 : List PV) (o1_4 : List PV) : R := SS.LL g27_E 0 [0, 2, 5, 6] 2 g27_c2 g27_K2 ⟨[(0, .str x0), (2, .ptr 0 0), (5, .ptr 1 0), (6, .int .i64 x6)], [some [.int .i64 0, .int .i64 0, .int .i64 0, .sl true 1 [], .sl true 2 []], some [.int .i64 o1_0, .int .i64 o1_1, .int .i64 o1_2, .sl true 1 o1_3, .sl true 2 o1_4]]⟩
noncomputable def g27_L11 (x0 : ByteArray) (x7 : Int) (x6 : Int) (o1_0 : Int) (o1_1 : Int) (o1_2 : Int) (o1_3 : List PV) (o1_4 : List PV) : R := SS.LL g27_E 0 [0, 2, 5, 6, 7] 2 g27_c5 g27_K7 ⟨[(0, .str x0), (2, .ptr 0 0), (5, .ptr 1 0), (6, .int .i64 x6), (7, .int .i64 x7)], [some [.int .i64 0, .int .i64 0, .int .i64 0, .sl true 1 [], .sl true 2 []], some [.int .i64 o1_0, .int .i64 o1_1, .int .i64 o1_2, .sl true 1 o1_3, .sl true 2 o1_4]]⟩
noncomputable def g27_J13 (x0 : ByteArray) (x6 : Int) (x7 : Int) (o1_0 : Int) (o1_1 : Int) (o1_2 : Int) (o1_3 : List PV) (o1_4 : List PV) : R := exK g27_X g27_c4 g27_K5 ⟨[(0, .str x0), (2, .ptr 0 0), (5, .ptr 1 0), (6, .int .i64 x6), (7, .int .i64 x7)], [some [.int .i64 0, .int .i64 0, .int .i64 0, .sl true 1 [], .sl true 2 []], some [.int .i64 o1_0, .int .i64 o1_1, .int .i64 o1_2, .sl true 1 o1_3, .sl true 2 o1_4]]⟩
theorem g27_L8_eq (x0 : ByteArray) (x6 : Int) (o1_0 : Int) (o1_1 : Int) (o1_2 : Int) (o1_3 : List PV) (o1_4 : List PV) : g27_L8 x0 x6 o1_0 o1_1 o1_2 o1_3 o1_4 =
    bsel (!(x0.toList == (⟨#[]⟩ : ByteArray).toList)) (g27_L11 x0 0 x6 o1_0 o1_1 o1_2 o1_3 o1_4) (clX SS.CC 34 [.agg [.int .i64 o1_0, .int .i64 o1_1, .int .i64 o1_2, .sl false 1 o1_3, .sl false 2 o1_4]] fun r2 => vI .i64 r2 fun n1 => bsel (n1 != 0) (some (.tuple [.agg [.int .i64 0, .int .i64 0, .int .i64 0, .sl false 1 [], .sl false 2 []], .int .i64 0, .int .i64 n1], [])) (some (.tuple [.agg [.int .i64 o1_0, .int .i64 o1_1, .int .i64 o1_2, .sl false 1 o1_3, .sl false 2 o1_4], .int .i64 0, .int .i64 0], []))) := (LL_eq SS_ok (by decide) (by kernel_rfl) (by kernel_rfl)).trans (by kernel_rfl)
theorem g27_L11_eq (x0 : ByteArray) (x7 : Int) (x6 : Int) (o1_0 : Int) (o1_1 : Int) (o1_2 : Int) (o1_3 : List PV) (o1_4 : List PV) : g27_L11 x0 x7 x6 o1_0 o1_1 o1_2 o1_3 o1_4 =
    bsel (decide (x7 < (x0.size : Int))) (byteX x0 x7 fun c1 => bsel (c1 != 10) (g27_L11 x0 (IntKind.i64.wrap (x7 + 1)) x6 o1_0 o1_1 o1_2 o1_3 o1_4) (g27_J13 x0 x6 x7 o1_0 o1_1 o1_2 o1_3 o1_4)) (g27_J13 x0 x6 x7 o1_0 o1_1 o1_2 o1_3 o1_4) := (LL_eq SS_ok (by decide) (by kernel_rfl) (by kernel_rfl)).trans (by kernel_rfl)
theorem g27_J13_eq (x0 : ByteArray) (x6 : Int) (x7 : Int) (o1_0 : Int) (o1_1 : Int) (o1_2 : Int) (o1_3 : List PV) (o1_4 : List PV) : g27_J13 x0 x6 x7 o1_0 o1_1 o1_2 o1_3 o1_4 =
    bsel (x7 == (x0.size : Int)) (some (.tuple [.agg [.int .i64 0, .int .i64 0, .int .i64 0, .sl false 1 [], .sl false 2 []], .int .i64 x6, .int .i64 14], [])) (chk (decide (0 ≤ x7) && decide (x7 ≤ (x0.size : Int))) (clX SS.CC 58 [.str (x0.extract 0 x7.toNat)] fun r2 => vL false 1 r2 fun l1 => clH SS.CC 57 [.ptr 0 0, .int .i64 x6, .sl false 1 l1] [some [.int .i64 o1_0, .int .i64 o1_1, .int .i64 o1_2, .sl true 1 o1_3, .sl true 2 o1_4]] fun r9 h10 => h57_0 r9 h10 fun b3 n4 n5 n6 l7 l8 => bsel (!b3) (some (.tuple [.agg [.int .i64 0, .int .i64 0, .int .i64 0, .sl false 1 [], .sl false 2 []], .int .i64 x6, .int .i64 14], [])) (chk (decide (0 ≤ (IntKind.i64.wrap (x7 + 1))) && decide ((IntKind.i64.wrap (x7 + 1)) ≤ (x0.size : Int))) (bsel ((x0.extract (IntKind.i64.wrap (x7 + 1)).toNat x0.size).toList == (⟨#[]⟩ : ByteArray).toList) (bsel (x6 == 1) (bsel (decide (0 < n6)) (some (.tuple [.agg [.int .i64 0, .int .i64 0, .int .i64 0, .sl false 1 [], .sl false 2 []], .int .i64 2, .int .i64 14], [])) (g27_L8 (x0.extract (IntKind.i64.wrap (x7 + 1)).toNat x0.size) (IntKind.i64.wrap (x6 + 1)) n4 n5 n6 l7 l8)) (g27_L8 (x0.extract (IntKind.i64.wrap (x7 + 1)).toNat x0.size) (IntKind.i64.wrap (x6 + 1)) n4 n5 n6 l7 l8)) (g27_L8 (x0.extract (IntKind.i64.wrap (x7 + 1)).toNat x0.size) (IntKind.i64.wrap (x6 + 1)) n4 n5 n6 l7 l8))))) := by kernel_rfl
theorem g27_eq (a0 : ByteArray) : SS.CC 27 [.str a0] [] =
    bsel (decide (65536 < (a0.size : Int))) (some (.tuple [.agg [.int .i64 0, .int .i64 0, .int .i64 0, .sl false 1 [], .sl false 2 []], .int .i64 0, .int .i64 15], [])) (bsel (a0.toList == (⟨#[]⟩ : ByteArray).toList) (some (.tuple [.agg [.int .i64 0, .int .i64 0, .int .i64 0, .sl false 1 [], .sl false 2 []], .int .i64 1, .int .i64 12], [])) (g27_L8 a0 1 0 0 0 [] [])) := (CC_run SS_ok rfl).trans (by kernel_rfl)
/-! overseer/overseerlaw52.read -/
noncomputable def g57_c : Code := bodyOf Tryd.f57
noncomputable def g57_E : AE := SS.ae 57 265
noncomputable def g57_X : XE := SS.xe SS.CC SS.LL g57_E 1
noncomputable def g57_K0 : AX → ASt → R := retK SS.P Tryd.f57.results.toList (SS.prm 57).ro 1 []
noncomputable def g57_c1 : Code := Code.sub [true, true] g57_c
noncomputable def g57_K1 : AX → ASt → R := thenK (joinX g57_E 1 g57_c1 (exK g57_X g57_c1 g57_K0)) g57_K0
noncomputable def g57_K2 : AX → ASt → R := blkK 0 g57_K1
noncomputable def g57_c2 : Code := Code.sub [true, false, false, true, true, true, false, true, true] g57_c
noncomputable def g57_K3 : AX → ASt → R := thenK (joinX g57_E 1 g57_c2 (exK g57_X g57_c2 g57_K2)) g57_K2
noncomputable def g57_K4 : AX → ASt → R := blkK 1 g57_K3
noncomputable def g57_c3 : Code := Code.sub [true, false, false, true, true, true, false, true, false, true, false, false] g57_c
noncomputable def g57_K5 : AX → ASt → R := thenK (fun σ => SS.LL g57_E 1 [0, 2, 13] 1 g57_c3 g57_K4 (σ.gc [0, 2, 13] 1)) g57_K4
noncomputable def g57_c4 : Code := Code.sub [true, false, false, true, true, true, false, true, false, true, false, false, true, true] g57_c
noncomputable def g57_K6 : AX → ASt → R := thenK (joinX g57_E 1 g57_c4 (exK g57_X g57_c4 g57_K5)) g57_K5
noncomputable def g57_K7 : AX → ASt → R := blkK 2 g57_K6
noncomputable def g57_c5 : Code := Code.sub [true, false, false, true, true, true, false, true, false, true, false, false, true, false, false, true] g57_c
noncomputable def g57_c6 : Code := Code.sub [true, true, true, true, true] g57_c
noncomputable def g57_K8 : AX → ASt → R := thenK (joinX g57_E 1 g57_c6 (exK g57_X g57_c6 g57_K0)) g57_K0
noncomputable def g57_K9 : AX → ASt → R := blkK 3 g57_K8
noncomputable def g57_c7 : Code := Code.sub [true, true, true, true, false, true, false, false] g57_c
noncomputable def g57_c8 : Code := Code.sub [true, true, true, true, true, true, true, true, true, true] g57_c
noncomputable def g57_c9 : Code := Code.sub [true, true, true, true, true, true, true, true, true, true, true, true] g57_c
noncomputable def g57_L14 (x2 : List PV) (o0_0 : Int) (o0_1 : Int) (o0_2 : Int) (o0_3 : List PV) (o0_4 : List PV) (x13 : Int) : R := SS.LL g57_E 1 [0, 2, 13] 1 g57_c3 g57_K4 ⟨[(0, .ptr 0 0), (2, .sl false 1 x2), (13, .int .i64 x13)], [some [.int .i64 o0_0, .int .i64 o0_1, .int .i64 o0_2, .sl true 1 o0_3, .sl true 2 o0_4]]⟩
noncomputable def g57_J20 (x2 : List PV) (o0_0 : Int) (o0_1 : Int) (o0_2 : Int) (o0_3 : List PV) (o0_4 : List PV) : R := exK g57_X g57_c1 g57_K0 ⟨[(0, .ptr 0 0), (2, .sl false 1 x2)], [some [.int .i64 o0_0, .int .i64 o0_1, .int .i64 o0_2, .sl true 1 o0_3, .sl true 2 o0_4]]⟩
noncomputable def g57_J18 (x2 : List PV) (o0_0 : Int) (o0_1 : Int) (o0_2 : Int) (o0_3 : List PV) (o0_4 : List PV) (x13 : Int) : R := exK g57_X g57_c5 g57_K7 ⟨[(0, .ptr 0 0), (2, .sl false 1 x2), (13, .int .i64 x13)], [some [.int .i64 o0_0, .int .i64 o0_1, .int .i64 o0_2, .sl true 1 o0_3, .sl true 2 o0_4]]⟩
noncomputable def g57_L24 (x2 : List PV) (o0_0 : Int) (o0_1 : Int) (o0_2 : Int) (o0_3 : List PV) (o0_4 : List PV) (x15 : Int) (o1_0 : Int) : R := SS.LL g57_E 1 [0, 2, 14, 15] 2 g57_c7 g57_K9 ⟨[(0, .ptr 0 0), (2, .sl false 1 x2), (14, .ptr 1 0), (15, .int .i64 x15)], [some [.int .i64 o0_0, .int .i64 o0_1, .int .i64 o0_2, .sl true 1 o0_3, .sl true 2 o0_4], some [.int .i64 o1_0, .int .i64 0]]⟩
noncomputable def g57_J44 (x18 : Int) (x19 : Bool) (x21 : Int) (o0_1 : Int) (o0_2 : Int) (o0_3 : List PV) (o0_4 : List PV) (o1_0 : Int) (o0_0 : Int) (x20 : Int) : R := exK g57_X g57_c8 g57_K0 ⟨[(0, .ptr 0 0), (14, .ptr 1 0), (18, .int .i64 x18), (19, .bool x19), (20, .int .i64 x20), (21, .int .i64 x21)], [some [.int .i64 o0_0, .int .i64 o0_1, .int .i64 o0_2, .sl true 1 o0_3, .sl true 2 o0_4], some [.int .i64 o1_0, .int .i64 0]]⟩
noncomputable def g57_J47 (x19 : Bool) (o0_0 : Int) (o0_1 : Int) (o0_2 : Int) (o0_3 : List PV) (o0_4 : List PV) (o1_0 : Int) (o1_1 : Int) : R := exK g57_X g57_c9 g57_K0 ⟨[(0, .ptr 0 0), (14, .ptr 1 0), (19, .bool x19)], [some [.int .i64 o0_0, .int .i64 o0_1, .int .i64 o0_2, .sl true 1 o0_3, .sl true 2 o0_4], some [.int .i64 o1_0, .int .i64 o1_1]]⟩
theorem g57_L14_eq (x2 : List PV) (o0_0 : Int) (o0_1 : Int) (o0_2 : Int) (o0_3 : List PV) (o0_4 : List PV) (x13 : Int) : g57_L14 x2 o0_0 o0_1 o0_2 o0_3 o0_4 x13 =
    lgetX x2 1 fun e1 => vS e1 fun s2 => bsel (decide (x13 < (s2.size : Int))) (lgetX x2 1 fun e3 => vS e3 fun s4 => byteX s4 x13 fun c5 => bsel (c5 != 48) (lgetX x2 1 fun e6 => vS e6 fun s7 => byteX s7 x13 fun c8 => bsel (c8 != 49) (some (.bool false, [some [.int .i64 o0_0, .int .i64 o0_1, .int .i64 o0_2, .sl true 1 o0_3, .sl true 2 o0_4]])) (g57_J18 x2 o0_0 o0_1 o0_2 o0_3 o0_4 x13)) (g57_J18 x2 o0_0 o0_1 o0_2 o0_3 o0_4 x13)) (some (.bool true, [some [.int .i64 o0_0, .int .i64 o0_1, .int .i64 o0_2, .sl true 1 o0_3, .sl true 2 o0_4]])) := (LL_eq SS_ok (by decide) (by kernel_rfl) (by kernel_rfl)).trans (by kernel_rfl)
theorem g57_J20_eq (x2 : List PV) (o0_0 : Int) (o0_1 : Int) (o0_2 : Int) (o0_3 : List PV) (o0_4 : List PV) : g57_J20 x2 o0_0 o0_1 o0_2 o0_3 o0_4 =
    bsel ((x2.length : Int) != 2) (some (.bool false, [some [.int .i64 o0_0, .int .i64 o0_1, .int .i64 o0_2, .sl true 1 o0_3, .sl true 2 o0_4]])) (lgetX x2 1 fun e1 => vS e1 fun s2 => bsel (s2.toList == (⟨#[]⟩ : ByteArray).toList) (some (.bool false, [some [.int .i64 o0_0, .int .i64 o0_1, .int .i64 o0_2, .sl true 1 o0_3, .sl true 2 o0_4]])) (g57_L24 x2 o0_0 o0_1 o0_2 o0_3 o0_4 1 0)) := by kernel_rfl
theorem g57_J18_eq (x2 : List PV) (o0_0 : Int) (o0_1 : Int) (o0_2 : Int) (o0_3 : List PV) (o0_4 : List PV) (x13 : Int) : g57_J18 x2 o0_0 o0_1 o0_2 o0_3 o0_4 x13 =
    lgetX x2 1 fun e1 => vS e1 fun s2 => byteX s2 x13 fun c3 => chk (decide (o0_3.length + 1 ≤ LIM)) (g57_L14 x2 o0_0 o0_1 o0_2 (o0_3 ++ [.bool (c3 == 49)]) o0_4 (IntKind.i64.wrap (x13 + 1))) := by kernel_rfl
theorem g57_L24_eq (x2 : List PV) (o0_0 : Int) (o0_1 : Int) (o0_2 : Int) (o0_3 : List PV) (o0_4 : List PV) (x15 : Int) (o1_0 : Int) : g57_L24 x2 o0_0 o0_1 o0_2 o0_3 o0_4 x15 o1_0 =
    clX SS.CC 74 [] fun r2 => vL false 1 r2 fun l1 => bsel (decide (x15 < (l1.length : Int))) (clX SS.CC 74 [] fun r4 => vL false 1 r4 fun l3 => lgetX l3 x15 fun e5 => vS e5 fun s6 => lgetX x2 0 fun e7 => vS e7 fun s8 => bsel (s6.toList == s8.toList) (g57_L24 x2 o0_0 o0_1 o0_2 o0_3 o0_4 (IntKind.i64.wrap (x15 + 1)) x15) (g57_L24 x2 o0_0 o0_1 o0_2 o0_3 o0_4 (IntKind.i64.wrap (x15 + 1)) o1_0)) (bsel (o1_0 == 0) (some (.bool false, [some [.int .i64 o0_0, .int .i64 o0_1, .int .i64 o0_2, .sl true 1 o0_3, .sl true 2 o0_4]])) (clX SS.CC 23 [.int .i64 o1_0] fun r10 => vB r10 fun b9 => bsel b9 (lgetX x2 1 fun e11 => vS e11 fun s12 => clX SS.CC 73 [.str s12] fun r15 => w_3_4 r15 fun n13 b14 => chk (decide (o0_4.length + 1 ≤ LIM)) (some (.bool b14, [some [.int .i64 o0_0, .int .i64 o0_1, .int .i64 o0_2, .sl true 1 o0_3, .sl true 2 (o0_4 ++ [.agg [.int .i64 o1_0, .int .i64 n13]])]]))) (lgetX x2 1 fun e16 => vS e16 fun s17 => chk (decide (0 ≤ 1) && decide (1 ≤ (s17.size : Int))) (clX SS.CC 73 [.str (s17.extract (1 : Int).toNat s17.size)] fun r20 => w_3_4 r20 fun n18 b19 => lgetX x2 1 fun e21 => vS e21 fun s22 => byteX s22 0 fun c23 => bsel (c23 == 73) (g57_J44 n18 b19 o0_0 o0_1 o0_2 o0_3 o0_4 o1_0 o0_0 0) (bsel (c23 == 81) (g57_J44 n18 b19 o0_1 o0_1 o0_2 o0_3 o0_4 o1_0 o0_0 o0_0) (bsel (c23 == 77) (g57_J44 n18 b19 o0_2 o0_1 o0_2 o0_3 o0_4 o1_0 o0_0 (IntKind.i64.wrap (o0_0 + o0_1))) (some (.bool false, [some [.int .i64 o0_0, .int .i64 o0_1, .int .i64 o0_2, .sl true 1 o0_3, .sl true 2 o0_4]])))))))) := (LL_eq SS_ok (by decide) (by kernel_rfl) (by kernel_rfl)).trans (by kernel_rfl)
theorem g57_J44_eq (x18 : Int) (x19 : Bool) (x21 : Int) (o0_1 : Int) (o0_2 : Int) (o0_3 : List PV) (o0_4 : List PV) (o1_0 : Int) (o0_0 : Int) (x20 : Int) : g57_J44 x18 x19 x21 o0_1 o0_2 o0_3 o0_4 o1_0 o0_0 x20 =
    bsel (decide (x21 ≤ x18)) (g57_J47 x19 o0_0 o0_1 o0_2 o0_3 o0_4 o1_0 (IntKind.i64.wrap ((IntKind.i64.wrap (o0_0 + o0_1)) + o0_2))) (g57_J47 x19 o0_0 o0_1 o0_2 o0_3 o0_4 o1_0 (IntKind.i64.wrap (x20 + x18))) := by kernel_rfl
theorem g57_J47_eq (x19 : Bool) (o0_0 : Int) (o0_1 : Int) (o0_2 : Int) (o0_3 : List PV) (o0_4 : List PV) (o1_0 : Int) (o1_1 : Int) : g57_J47 x19 o0_0 o0_1 o0_2 o0_3 o0_4 o1_0 o1_1 =
    chk (decide (o0_4.length + 1 ≤ LIM)) (some (.bool x19, [some [.int .i64 o0_0, .int .i64 o0_1, .int .i64 o0_2, .sl true 1 o0_3, .sl true 2 (o0_4 ++ [.agg [.int .i64 o1_0, .int .i64 o1_1]])]])) := by kernel_rfl
theorem g57_eq (a1 : Int) (a2 : List PV) (h0_0 : Int) (h0_1 : Int) (h0_2 : Int) (h0_3 : List PV) (h0_4 : List PV) : SS.CC 57 [.ptr 0 0, .int .i64 a1, .sl false 1 a2] [some [.int .i64 h0_0, .int .i64 h0_1, .int .i64 h0_2, .sl true 1 h0_3, .sl true 2 h0_4]] =
    bsel (a1 == 1) (bsel ((a2.length : Int) != 4) (some (.bool false, [some [.int .i64 h0_0, .int .i64 h0_1, .int .i64 h0_2, .sl true 1 h0_3, .sl true 2 h0_4]])) (lgetX a2 0 fun e1 => vS e1 fun s2 => bsel (!(s2.toList == (⟨#[112, 114, 111, 103, 114, 97, 109]⟩ : ByteArray).toList)) (some (.bool false, [some [.int .i64 h0_0, .int .i64 h0_1, .int .i64 h0_2, .sl true 1 h0_3, .sl true 2 h0_4]])) (lgetX a2 1 fun e3 => vS e3 fun s4 => clX SS.CC 73 [.str s4] fun r7 => w_3_4 r7 fun n5 b6 => lgetX a2 2 fun e8 => vS e8 fun s9 => clX SS.CC 73 [.str s9] fun r12 => w_3_4 r12 fun n10 b11 => lgetX a2 3 fun e13 => vS e13 fun s14 => clX SS.CC 73 [.str s14] fun r17 => w_3_4 r17 fun n15 b16 => bsel b6 (bsel b11 (some (.bool b16, [some [.int .i64 n5, .int .i64 n10, .int .i64 n15, .sl true 1 h0_3, .sl true 2 h0_4]])) (some (.bool false, [some [.int .i64 n5, .int .i64 n10, .int .i64 n15, .sl true 1 h0_3, .sl true 2 h0_4]]))) (some (.bool false, [some [.int .i64 n5, .int .i64 n10, .int .i64 n15, .sl true 1 h0_3, .sl true 2 h0_4]]))))) (bsel (a1 == 2) (bsel (decide (0 < h0_2)) (bsel ((a2.length : Int) != 2) (some (.bool false, [some [.int .i64 h0_0, .int .i64 h0_1, .int .i64 h0_2, .sl true 1 h0_3, .sl true 2 h0_4]])) (lgetX a2 0 fun e18 => vS e18 fun s19 => bsel (!(s19.toList == (⟨#[115, 116, 97, 114, 116]⟩ : ByteArray).toList)) (some (.bool false, [some [.int .i64 h0_0, .int .i64 h0_1, .int .i64 h0_2, .sl true 1 h0_3, .sl true 2 h0_4]])) (lgetX a2 1 fun e20 => vS e20 fun s21 => bsel ((s21.size : Int) == 0) (some (.bool false, [some [.int .i64 h0_0, .int .i64 h0_1, .int .i64 h0_2, .sl true 1 h0_3, .sl true 2 h0_4]])) (g57_L14 a2 h0_0 h0_1 h0_2 h0_3 h0_4 0)))) (g57_J20 a2 h0_0 h0_1 h0_2 h0_3 h0_4)) (g57_J20 a2 h0_0 h0_1 h0_2 h0_3 h0_4)) := (CC_run SS_ok rfl).trans (by kernel_rfl)
/-! overseer/overseerlaw52.cut -/
noncomputable def g58_c : Code := bodyOf Tryd.f58
noncomputable def g58_E : AE := SS.ae 58 31
noncomputable def g58_X : XE := SS.xe SS.CC SS.LL g58_E 0
noncomputable def g58_K0 : AX → ASt → R := retK SS.P Tryd.f58.results.toList (SS.prm 58).ro 0 []
noncomputable def g58_c1 : Code := Code.sub [true, true, true, true] g58_c
noncomputable def g58_K1 : AX → ASt → R := thenK (joinX g58_E 0 g58_c1 (exK g58_X g58_c1 g58_K0)) g58_K0
noncomputable def g58_K2 : AX → ASt → R := blkK 0 g58_K1
noncomputable def g58_c2 : Code := Code.sub [true, true, true, false, true, false, false] g58_c
noncomputable def g58_L5 (x0 : ByteArray) (x3 : List PV) (x5 : Int) (x4 : ByteArray) : R := SS.LL g58_E 0 [0, 3, 4, 5] 0 g58_c2 g58_K2 ⟨[(0, .str x0), (3, .sl true 1 x3), (4, .str x4), (5, .int .i64 x5)], []⟩
theorem g58_L5_eq (x0 : ByteArray) (x3 : List PV) (x5 : Int) (x4 : ByteArray) : g58_L5 x0 x3 x5 x4 =
    bsel (decide (x5 < (x0.size : Int))) (byteX x0 x5 fun c1 => bsel (c1 == 32) (chk (decide (x3.length + 1 ≤ LIM)) (g58_L5 x0 (x3 ++ [.str x4]) (IntKind.i64.wrap (x5 + 1)) ⟨#[]⟩)) (chk (decide (0 ≤ x5) && decide (x5 ≤ (IntKind.i64.wrap (x5 + 1))) && decide ((IntKind.i64.wrap (x5 + 1)) ≤ (x0.size : Int))) (chk (decide (x4.size + (x0.extract x5.toNat (IntKind.i64.wrap (x5 + 1)).toNat).size ≤ LIM)) (g58_L5 x0 x3 (IntKind.i64.wrap (x5 + 1)) (x4 ++ (x0.extract x5.toNat (IntKind.i64.wrap (x5 + 1)).toNat)))))) (chk (decide (x3.length + 1 ≤ LIM)) (some (.sl false 1 (x3 ++ [.str x4]), []))) := (LL_eq SS_ok (by decide) (by kernel_rfl) (by kernel_rfl)).trans (by kernel_rfl)
theorem g58_eq (a0 : ByteArray) : SS.CC 58 [.str a0] [] =
    g58_L5 a0 [] 0 ⟨#[]⟩ := (CC_run SS_ok rfl).trans (by kernel_rfl)
/-! overseer/overseerlaw52.digits -/
noncomputable def g73_c : Code := bodyOf Tryd.f73
noncomputable def g73_E : AE := SS.ae 73 49
noncomputable def g73_X : XE := SS.xe SS.CC SS.LL g73_E 0
noncomputable def g73_K0 : AX → ASt → R := retK SS.P Tryd.f73.results.toList (SS.prm 73).ro 0 []
noncomputable def g73_c1 : Code := Code.sub [true, true] g73_c
noncomputable def g73_c2 : Code := Code.sub [true, true, true, true] g73_c
noncomputable def g73_K1 : AX → ASt → R := thenK (joinX g73_E 0 g73_c2 (exK g73_X g73_c2 g73_K0)) g73_K0
noncomputable def g73_K2 : AX → ASt → R := blkK 0 g73_K1
noncomputable def g73_c3 : Code := Code.sub [true, true, true, false, true, false, false] g73_c
noncomputable def g73_J4 (x0 : ByteArray) : R := exK g73_X g73_c1 g73_K0 ⟨[(0, .str x0)], []⟩
noncomputable def g73_L6 (x0 : ByteArray) (x4 : Int) (x5 : Int) : R := SS.LL g73_E 0 [0, 4, 5] 0 g73_c3 g73_K2 ⟨[(0, .str x0), (4, .int .i64 x4), (5, .int .i64 x5)], []⟩
theorem g73_J4_eq (x0 : ByteArray) : g73_J4 x0 =
    g73_L6 x0 0 0 := by kernel_rfl
theorem g73_L6_eq (x0 : ByteArray) (x4 : Int) (x5 : Int) : g73_L6 x0 x4 x5 =
    bsel (decide (x5 < (x0.size : Int))) (byteX x0 x5 fun c1 => bsel (decide (c1 < 48)) (some (.tuple [.int .i64 0, .bool false], [])) (byteX x0 x5 fun c2 => bsel (decide (57 < c2)) (some (.tuple [.int .i64 0, .bool false], [])) (byteX x0 x5 fun c3 => g73_L6 x0 (IntKind.i64.wrap ((IntKind.i64.wrap (10 * x4)) + (IntKind.i64.wrap (IntKind.u8.wrap (c3 - 48))))) (IntKind.i64.wrap (x5 + 1))))) (some (.tuple [.int .i64 x4, .bool true], [])) := (LL_eq SS_ok (by decide) (by kernel_rfl) (by kernel_rfl)).trans (by kernel_rfl)
theorem g73_eq (a0 : ByteArray) : SS.CC 73 [.str a0] [] =
    bsel (decide ((a0.size : Int) < 1)) (some (.tuple [.int .i64 0, .bool false], [])) (bsel (decide (6 < (a0.size : Int))) (some (.tuple [.int .i64 0, .bool false], [])) (byteX a0 0 fun c1 => bsel (c1 == 48) (bsel (decide (1 < (a0.size : Int))) (some (.tuple [.int .i64 0, .bool false], [])) (g73_J4 a0)) (g73_J4 a0))) := (CC_run SS_ok rfl).trans (by kernel_rfl)
/-! overseer/overseerlaw52.names -/
noncomputable def g74_c : Code := bodyOf Tryd.f74
noncomputable def g74_E : AE := SS.ae 74 2
noncomputable def g74_X : XE := SS.xe SS.CC SS.LL g74_E 0
theorem g74_eq : SS.CC 74 [] [] =
    some (.sl false 1 [.str ⟨#[]⟩, .str ⟨#[76, 68]⟩, .str ⟨#[76, 68, 78]⟩, .str ⟨#[65, 78, 68]⟩, .str ⟨#[65, 78, 68, 78]⟩, .str ⟨#[79, 82]⟩, .str ⟨#[79, 82, 78]⟩, .str ⟨#[83, 84]⟩, .str ⟨#[83, 84, 78]⟩, .str ⟨#[83]⟩, .str ⟨#[82]⟩, .str ⟨#[74, 77, 80]⟩, .str ⟨#[74, 77, 80, 67]⟩, .str ⟨#[74, 77, 80, 67, 78]⟩], []) := (CC_run SS_ok rfl).trans (by kernel_rfl)
/-! overseer/overseerlaw52.InstructionParses -/
noncomputable def g6_c : Code := bodyOf Tryd.f6
noncomputable def g6_E : AE := SS.ae 6 42
noncomputable def g6_X : XE := SS.xe SS.CC SS.LL g6_E 0
theorem g6_eq (a0 : ByteArray) : SS.CC 6 [.str a0] [] =
    clX SS.CC 10 [] fun r2 => vB r2 fun b1 => bsel (!b1) (clX SS.CC 10 [] fun r4 => vB r4 fun b3 => some (.bool b3, [])) (bsel (decide (300 < (a0.size : Int))) (clX SS.CC 10 [] fun r6 => vB r6 fun b5 => some (.bool b5, [])) (clX SS.CC 26 [.str a0] fun r14 => w_29_3_3 r14 fun n7 n8 n9 l10 l11 n12 n13 => clX SS.CC 27 [.str a0] fun r22 => w_29_3_3 r22 fun n15 n16 n17 l18 l19 n20 n21 => clX SS.CC 24 [.agg [.int .i64 n7, .int .i64 n8, .int .i64 n9, .sl false 1 l10, .sl false 2 l11], .agg [.int .i64 n15, .int .i64 n16, .int .i64 n17, .sl false 1 l18, .sl false 2 l19]] fun r24 => vB r24 fun b23 => bsel b23 (bsel (n12 == n20) (some (.bool (n13 == n21), [])) (some (.bool false, []))) (some (.bool false, [])))) := (CC_run SS_ok rfl).trans (by kernel_rfl)
end Go.Proofs.YtiejgieiokmmfaaDoor

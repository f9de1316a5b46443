/-
  Functions as equations. Printed by a program (wip/tool/dc.py).
-/
import Derived.Test.YtiejgieiokmmfaaGreatDoorZB52
namespace Go.Proofs.YtiejgieiokmmfaaGreatDoor
set_option linter.unusedVariables false
set_option linter.unusedSimpArgs false
set_option linter.unnecessarySimpa false
set_option linter.unusedSectionVars false
open Go.RowKit
set_option maxRecDepth 1000000
/-! overseer/instruction.Parse -/
noncomputable def g10_c : Code := bodyOf Tryz.f10
noncomputable def g10_E : AE := SS.ae 10 100
noncomputable def g10_X : XE := SS.xe SS.CC SS.LL g10_E 0
noncomputable def g10_K0 : AX → ASt → R := retK SS.P Tryz.f10.results.toList (SS.prm 10).ro 0 []
noncomputable def g10_c1 : Code := Code.sub [true, true, true, true, true, true, true, true] g10_c
noncomputable def g10_K1 : AX → ASt → R := thenK (joinX g10_E 0 g10_c1 (exK g10_X g10_c1 g10_K0)) g10_K0
noncomputable def g10_K2 : AX → ASt → R := blkK 0 g10_K1
noncomputable def g10_c2 : Code := Code.sub [true, true, true, true, true, true, true, false, true, false, false] g10_c
noncomputable def g10_K3 : AX → ASt → R := thenK (fun σ => SS.LL g10_E 0 [2, 5, 6, 7, 35, 36, 37] 3 g10_c2 g10_K2 (σ.gc [2, 5, 6, 7, 35, 36, 37] 3)) g10_K2
noncomputable def g10_c3 : Code := Code.sub [true, true, true, true, true, true, true, false, true, false, false, true, true, true] g10_c
noncomputable def g10_K4 : AX → ASt → R := thenK (joinX g10_E 0 g10_c3 (exK g10_X g10_c3 g10_K3)) g10_K3
noncomputable def g10_K5 : AX → ASt → R := blkK 1 g10_K4
noncomputable def g10_c4 : Code := Code.sub [true, true, true, true, true, true, true, false, true, false, false, true, true, false, false, true, true, true] g10_c
noncomputable def g10_c5 : Code := Code.sub [true, true, true, true, true, true, true, true, true] g10_c
noncomputable def g10_L11 (x6 : ByteArray) (x5 : List PV) (x35 : List PV) (x36 : Int) (x37 : Int) (o1_0 : List PV) (o2_0 : Int) (o2_1 : Int) (o2_2 : Int) (o2_3 : List PV) (o2_4 : List PV) : R := SS.LL g10_E 0 [2, 5, 6, 7, 35, 36, 37] 3 g10_c2 g10_K2 ⟨[(2, .ptr 0 0), (5, .sl false 1 x5), (6, .str x6), (7, .ptr 2 0), (35, .sl false 1 x35), (36, .int .i64 x36), (37, .int .i64 x37)], [some [.int .i64 0, .int .i64 0, .int .i64 0, .sl true 1 [], .sl true 2 []], some [.mp o1_0], some [.int .i64 o2_0, .int .i64 o2_1, .int .i64 o2_2, .sl true 1 o2_3, .sl true 2 o2_4, .bld 0 1]]⟩
noncomputable def g10_J18 (x5 : List PV) (x6 : ByteArray) (x9 : ByteArray) (x35 : List PV) (x36 : Int) (x8 : Int) (x37 : Int) (o1_0 : List PV) (o2_0 : Int) (o2_1 : Int) (o2_2 : Int) (o2_3 : List PV) (o2_4 : List PV) : R := exK g10_X g10_c4 g10_K5 ⟨[(2, .ptr 0 0), (5, .sl false 1 x5), (6, .str x6), (7, .ptr 2 0), (8, .int .i64 x8), (9, .str x9), (10, .func (.func 31) [.ptr 2 0] []), (35, .sl false 1 x35), (36, .int .i64 x36), (37, .int .i64 x37)], [some [.int .i64 0, .int .i64 0, .int .i64 0, .sl true 1 [], .sl true 2 []], some [.mp o1_0], some [.int .i64 o2_0, .int .i64 o2_1, .int .i64 o2_2, .sl true 1 o2_3, .sl true 2 o2_4, .bld 0 1]]⟩
noncomputable def g10_J23 (o1_0 : List PV) (o2_0 : Int) (o2_1 : Int) (o2_2 : Int) (o2_3 : List PV) (o2_4 : List PV) : R := exK g10_X g10_c5 g10_K0 ⟨[(2, .ptr 0 0), (7, .ptr 2 0)], [some [.int .i64 0, .int .i64 0, .int .i64 0, .sl true 1 [], .sl true 2 []], some [.mp o1_0], some [.int .i64 o2_0, .int .i64 o2_1, .int .i64 o2_2, .sl true 1 o2_3, .sl true 2 o2_4, .bld 0 1]]⟩
noncomputable def g10_J18b (x5 : List PV) (x6 : ByteArray) (x8 : Int) (x9 : ByteArray) (x35 : List PV) (x36 : Int) (o1_0 : List PV) (o2_0 : Int) (o2_1 : Int) (o2_2 : Int) (o2_3 : List PV) (o2_4 : List PV) : R := exK g10_X g10_c4 g10_K5 ⟨[(2, .ptr 0 0), (5, .sl false 1 x5), (6, .str x6), (7, .ptr 2 0), (8, .int .i64 x8), (9, .str x9), (10, .func (.func 32) [.ptr 2 0] []), (35, .sl false 1 x35), (36, .int .i64 x36), (37, .int .i64 x8)], [some [.int .i64 0, .int .i64 0, .int .i64 0, .sl true 1 [], .sl true 2 []], some [.mp o1_0], some [.int .i64 o2_0, .int .i64 o2_1, .int .i64 o2_2, .sl true 1 o2_3, .sl true 2 o2_4, .bld 0 1]]⟩
noncomputable def g10_J18c (x5 : List PV) (x6 : ByteArray) (x8 : Int) (x9 : ByteArray) (x35 : List PV) (x36 : Int) (o1_0 : List PV) (o2_0 : Int) (o2_1 : Int) (o2_2 : Int) (o2_3 : List PV) (o2_4 : List PV) : R := exK g10_X g10_c4 g10_K5 ⟨[(2, .ptr 0 0), (5, .sl false 1 x5), (6, .str x6), (7, .ptr 2 0), (8, .int .i64 x8), (9, .str x9), (10, .func (.func 30) [.ptr 2 0] []), (35, .sl false 1 x35), (36, .int .i64 x36), (37, .int .i64 x8)], [some [.int .i64 0, .int .i64 0, .int .i64 0, .sl true 1 [], .sl true 2 []], some [.mp o1_0], some [.int .i64 o2_0, .int .i64 o2_1, .int .i64 o2_2, .sl true 1 o2_3, .sl true 2 o2_4, .bld 0 1]]⟩
theorem g10_L11_eq (x6 : ByteArray) (x5 : List PV) (x35 : List PV) (x36 : Int) (x37 : Int) (o1_0 : List PV) (o2_0 : Int) (o2_1 : Int) (o2_2 : Int) (o2_3 : List PV) (o2_4 : List PV) : g10_L11 x6 x5 x35 x36 x37 o1_0 o2_0 o2_1 o2_2 o2_3 o2_4 =
    bsel (decide (x37 < x36)) (lgetX x35 x37 fun e1 => vS e1 fun s2 => bsel (x37 == 0) (g10_J18 x5 x6 s2 x35 x36 x37 x37 o1_0 o2_0 o2_1 o2_2 o2_3 o2_4) (bsel (x37 == 1) (bsel (decide (0 < o2_2)) (g10_J18b x5 x6 x37 s2 x35 x36 o1_0 o2_0 o2_1 o2_2 o2_3 o2_4) (g10_J18c x5 x6 x37 s2 x35 x36 o1_0 o2_0 o2_1 o2_2 o2_3 o2_4)) (g10_J18c x5 x6 x37 s2 x35 x36 o1_0 o2_0 o2_1 o2_2 o2_3 o2_4))) (bsel (!(x6.toList == (⟨#[]⟩ : ByteArray).toList)) (some (.tuple [.agg [.int .i64 0, .int .i64 0, .int .i64 0, .sl false 1 [], .sl false 2 []], .int .i64 (IntKind.i64.wrap ((x5.length : Int) + 1)), .int .i64 14], [])) (bsel ((x5.length : Int) == 1) (bsel (decide (0 < o2_2)) (some (.tuple [.agg [.int .i64 0, .int .i64 0, .int .i64 0, .sl false 1 [], .sl false 2 []], .int .i64 (IntKind.i64.wrap ((x5.length : Int) + 1)), .int .i64 14], [])) (g10_J23 o1_0 o2_0 o2_1 o2_2 o2_3 o2_4)) (g10_J23 o1_0 o2_0 o2_1 o2_2 o2_3 o2_4))) := (LL_eq SS_ok (by decide) (by kernel_rfl) (by kernel_rfl)).trans (by kernel_rfl)
theorem g10_J18_eq (x5 : List PV) (x6 : ByteArray) (x9 : ByteArray) (x35 : List PV) (x36 : Int) (x8 : Int) (x37 : Int) (o1_0 : List PV) (o2_0 : Int) (o2_1 : Int) (o2_2 : Int) (o2_3 : List PV) (o2_4 : List PV) : g10_J18 x5 x6 x9 x35 x36 x8 x37 o1_0 o2_0 o2_1 o2_2 o2_3 o2_4 =
    clX SS.CC 29 [.str x9, .str ⟨#[32]⟩] fun r2 => vL false 1 r2 fun l1 => clH SS.CC 31 [.ptr 0 0, .sl false 1 l1] [some [.int .i64 o2_0, .int .i64 o2_1, .int .i64 o2_2, .sl true 1 o2_3, .sl true 2 o2_4, .bld 0 1], some [.mp o1_0]] fun r10 h11 => h31_0 r10 h11 fun b3 n4 n5 n6 l7 l8 l9 => bsel (!b3) (some (.tuple [.agg [.int .i64 0, .int .i64 0, .int .i64 0, .sl false 1 [], .sl false 2 []], .int .i64 (IntKind.i64.wrap (x8 + 1)), .int .i64 14], [])) (g10_L11 x6 x5 x35 x36 (IntKind.i64.wrap (x37 + 1)) l9 n4 n5 n6 l7 l8) := by kernel_rfl
theorem g10_J23_eq (o1_0 : List PV) (o2_0 : Int) (o2_1 : Int) (o2_2 : Int) (o2_3 : List PV) (o2_4 : List PV) : g10_J23 o1_0 o2_0 o2_1 o2_2 o2_3 o2_4 =
    clH SS.CC 33 [.ptr 0 0] [some [.int .i64 o2_0, .int .i64 o2_1, .int .i64 o2_2, .sl true 1 o2_3, .sl true 2 o2_4, .bld 0 1], some [.mp o1_0]] fun r8 h9 => h33_0 r8 h9 fun n1 n2 n3 n4 l5 l6 l7 => bsel (n1 != 0) (some (.tuple [.agg [.int .i64 0, .int .i64 0, .int .i64 0, .sl false 1 [], .sl false 2 []], .int .i64 0, .int .i64 n1], [])) (some (.tuple [.agg [.int .i64 n2, .int .i64 n3, .int .i64 n4, .sl false 1 l5, .sl false 2 l6], .int .i64 0, .int .i64 0], [])) := by kernel_rfl
theorem g10_J18b_eq (x5 : List PV) (x6 : ByteArray) (x8 : Int) (x9 : ByteArray) (x35 : List PV) (x36 : Int) (o1_0 : List PV) (o2_0 : Int) (o2_1 : Int) (o2_2 : Int) (o2_3 : List PV) (o2_4 : List PV) : g10_J18b x5 x6 x8 x9 x35 x36 o1_0 o2_0 o2_1 o2_2 o2_3 o2_4 =
    clX SS.CC 29 [.str x9, .str ⟨#[32]⟩] fun r2 => vL false 1 r2 fun l1 => clH SS.CC 32 [.ptr 0 0, .sl false 1 l1] [some [.int .i64 o2_0, .int .i64 o2_1, .int .i64 o2_2, .sl true 1 o2_3, .sl true 2 o2_4, .bld 0 1], some [.mp o1_0]] fun r10 h11 => h32_0 r10 h11 fun b3 n4 n5 n6 l7 l8 l9 => bsel (!b3) (some (.tuple [.agg [.int .i64 0, .int .i64 0, .int .i64 0, .sl false 1 [], .sl false 2 []], .int .i64 (IntKind.i64.wrap (x8 + 1)), .int .i64 14], [])) (g10_L11 x6 x5 x35 x36 (IntKind.i64.wrap (x8 + 1)) l9 n4 n5 n6 l7 l8) := by kernel_rfl
theorem g10_J18c_eq (x5 : List PV) (x6 : ByteArray) (x8 : Int) (x9 : ByteArray) (x35 : List PV) (x36 : Int) (o1_0 : List PV) (o2_0 : Int) (o2_1 : Int) (o2_2 : Int) (o2_3 : List PV) (o2_4 : List PV) : g10_J18c x5 x6 x8 x9 x35 x36 o1_0 o2_0 o2_1 o2_2 o2_3 o2_4 =
    clX SS.CC 29 [.str x9, .str ⟨#[32]⟩] fun r2 => vL false 1 r2 fun l1 => clH SS.CC 30 [.ptr 0 0, .sl false 1 l1] [some [.int .i64 o2_0, .int .i64 o2_1, .int .i64 o2_2, .sl true 1 o2_3, .sl true 2 o2_4, .bld 0 1], some [.mp o1_0]] fun r10 h11 => h30_0 r10 h11 fun b3 n4 n5 n6 l7 l8 l9 => bsel (!b3) (some (.tuple [.agg [.int .i64 0, .int .i64 0, .int .i64 0, .sl false 1 [], .sl false 2 []], .int .i64 (IntKind.i64.wrap (x8 + 1)), .int .i64 14], [])) (g10_L11 x6 x5 x35 x36 (IntKind.i64.wrap (x8 + 1)) l9 n4 n5 n6 l7 l8) := by kernel_rfl
theorem g10_eq (a0 : ByteArray) : SS.CC 10 [.str a0] [] =
    bsel (decide (65536 < (a0.size : Int))) (some (.tuple [.agg [.int .i64 0, .int .i64 0, .int .i64 0, .sl false 1 [], .sl false 2 []], .int .i64 0, .int .i64 15], [])) (bsel (a0.toList == (⟨#[]⟩ : ByteArray).toList) (some (.tuple [.agg [.int .i64 0, .int .i64 0, .int .i64 0, .sl false 1 [], .sl false 2 []], .int .i64 1, .int .i64 12], [])) (clX SS.CC 29 [.str a0, .str ⟨#[10]⟩] fun r2 => vL false 1 r2 fun l1 => lgetX l1 (IntKind.i64.wrap ((l1.length : Int) - 1)) fun e3 => vS e3 fun s4 => chk (decide (0 ≤ (IntKind.i64.wrap ((l1.length : Int) - 1))) && decide ((IntKind.i64.wrap ((l1.length : Int) - 1)) ≤ (l1.length : Int))) (g10_L11 s4 (l1.take (IntKind.i64.wrap ((l1.length : Int) - 1)).toNat) (l1.take (IntKind.i64.wrap ((l1.length : Int) - 1)).toNat) ((l1.take (IntKind.i64.wrap ((l1.length : Int) - 1)).toNat).length : Int) 0 [] 0 0 0 [] []))) := (CC_run SS_ok rfl).trans (by kernel_rfl)
/-! (*overseer/instruction.parser).instruction -/
noncomputable def g30_c : Code := bodyOf Tryz.f30
noncomputable def g30_E : AE := SS.ae 30 121
noncomputable def g30_X : XE := SS.xe SS.CC SS.LL g30_E 2
noncomputable def g30_K0 : AX → ASt → R := retK SS.P Tryz.f30.results.toList (SS.prm 30).ro 2 []
noncomputable def g30_c1 : Code := Code.sub [true, true, true, true, true, true, true, true] g30_c
noncomputable def g30_c2 : Code := Code.sub [true, true, true, true, true, true, true, true, true, true, true] g30_c
noncomputable def g30_J22 (x5 : List PV) (x6 : Int) (x9 : Int) (o0_1 : Int) (o0_2 : Int) (o0_3 : List PV) (o0_4 : List PV) (o1_0 : List PV) (x7 : ByteArray) (o0_0 : Int) (x8 : Int) : R := exK g30_X g30_c1 g30_K0 ⟨[(0, .ptr 0 0), (5, .sl false 5 x5), (6, .int .i64 x6), (7, .str x7), (8, .int .i64 x8), (9, .int .i64 x9)], [some [.int .i64 o0_0, .int .i64 o0_1, .int .i64 o0_2, .sl true 1 o0_3, .sl true 2 o0_4, .bld 0 1], some [.mp o1_0]]⟩
noncomputable def g30_J27 (x5 : List PV) (x6 : Int) (x8 : Int) (x10 : Int) (o0_0 : Int) (o0_1 : Int) (o0_2 : Int) (o0_3 : List PV) (o0_4 : List PV) (o1_0 : List PV) : R := exK g30_X g30_c2 g30_K0 ⟨[(0, .ptr 0 0), (5, .sl false 5 x5), (6, .int .i64 x6), (8, .int .i64 x8), (10, .int .i64 x10)], [some [.int .i64 o0_0, .int .i64 o0_1, .int .i64 o0_2, .sl true 1 o0_3, .sl true 2 o0_4, .bld 0 1], some [.mp o1_0]]⟩
theorem g30_J22_eq (x5 : List PV) (x6 : Int) (x9 : Int) (o0_1 : Int) (o0_2 : Int) (o0_3 : List PV) (o0_4 : List PV) (o1_0 : List PV) (x7 : ByteArray) (o0_0 : Int) (x8 : Int) : g30_J22 x5 x6 x9 o0_1 o0_2 o0_3 o0_4 o1_0 x7 o0_0 x8 =
    clX SS.CC 65 [.str x7] fun r3 => w_3_4 r3 fun n1 b2 => bsel (!b2) (some (.bool false, [some [.int .i64 o0_0, .int .i64 o0_1, .int .i64 o0_2, .sl true 1 o0_3, .sl true 2 o0_4, .bld 0 1], some [.mp o1_0]])) (lgetX x5 x6 fun e4 => v66 e4 fun n5 s6 p7 p8 p9 => chk p9.one (chk (decide ((PV.un p9).isAgg = false) && decide ((PV.un p9).size = 1)) (fnX (PV.un (PV.un (PV.un p9))) fun b10 => bsel (b10 == true) (bsel (decide (x9 ≤ n1)) (chk (mapOK (some .i64) o1_0 (.int .i64 (o0_4.length : Int)) && true) (g30_J27 x5 x6 x8 n1 o0_0 o0_1 o0_2 o0_3 o0_4 (mapPut (some .i64) o1_0 (.int .i64 (o0_4.length : Int)) (.bool true)))) (g30_J27 x5 x6 x8 n1 o0_0 o0_1 o0_2 o0_3 o0_4 o1_0)) (g30_J27 x5 x6 x8 n1 o0_0 o0_1 o0_2 o0_3 o0_4 o1_0)))) := by kernel_rfl
theorem g30_J27_eq (x5 : List PV) (x6 : Int) (x8 : Int) (x10 : Int) (o0_0 : Int) (o0_1 : Int) (o0_2 : Int) (o0_3 : List PV) (o0_4 : List PV) (o1_0 : List PV) : g30_J27 x5 x6 x8 x10 o0_0 o0_1 o0_2 o0_3 o0_4 o1_0 =
    lgetX x5 x6 fun e1 => v66 e1 fun n2 s3 p4 p5 p6 => chk (decide (o0_4.length + 1 ≤ LIM)) (some (.bool true, [some [.int .i64 o0_0, .int .i64 o0_1, .int .i64 o0_2, .sl true 1 o0_3, .sl true 2 (o0_4 ++ [.agg [.int .i64 n2, .int .i64 (IntKind.i64.wrap (x8 + x10))]]), .bld 0 1], some [.mp o1_0]])) := by kernel_rfl
theorem g30_eq (a1 : List PV) (h0_0 : Int) (h0_1 : Int) (h0_2 : Int) (h0_3 : List PV) (h0_4 : List PV) (h1_0 : List PV) : SS.CC 30 [.ptr 0 0, .sl false 1 a1] [some [.int .i64 h0_0, .int .i64 h0_1, .int .i64 h0_2, .sl true 1 h0_3, .sl true 2 h0_4, .bld 0 1], some [.mp h1_0]] =
    bsel ((a1.length : Int) != 2) (some (.bool false, [some [.int .i64 h0_0, .int .i64 h0_1, .int .i64 h0_2, .sl true 1 h0_3, .sl true 2 h0_4, .bld 0 1], some [.mp h1_0]])) (clX SS.CC 26 [] fun r2 => vL false 5 r2 fun l1 => clX SS.CC 63 [.sl false 5 l1, .func (.func 64) [] [.cst (.sl false 1 a1)]] fun r4 => vI .i64 r4 fun n3 => bsel (decide (n3 < 0)) (some (.bool false, [some [.int .i64 h0_0, .int .i64 h0_1, .int .i64 h0_2, .sl true 1 h0_3, .sl true 2 h0_4, .bld 0 1], some [.mp h1_0]])) (lgetX a1 1 fun e5 => vS e5 fun s6 => lgetX l1 n3 fun e7 => v66 e7 fun n8 s9 p10 p11 p12 => chk p12.one (chk (decide ((PV.un p12).isAgg = false) && decide ((PV.un p12).size = 1)) (fnX (PV.un (PV.un (PV.un p12))) fun b13 => bsel (b13 == true) (bsel (s6.toList == (⟨#[]⟩ : ByteArray).toList) (some (.bool false, [some [.int .i64 h0_0, .int .i64 h0_1, .int .i64 h0_2, .sl true 1 h0_3, .sl true 2 h0_4, .bld 0 1], some [.mp h1_0]])) (byteX s6 0 fun c14 => bsel (c14 == 73) (chk (decide (0 ≤ 1) && decide (1 ≤ (s6.size : Int))) (g30_J22 l1 n3 h0_0 h0_1 h0_2 h0_3 h0_4 h1_0 (s6.extract (1 : Int).toNat s6.size) h0_0 0)) (bsel (c14 == 81) (chk (decide (0 ≤ 1) && decide (1 ≤ (s6.size : Int))) (g30_J22 l1 n3 h0_1 h0_1 h0_2 h0_3 h0_4 h1_0 (s6.extract (1 : Int).toNat s6.size) h0_0 h0_0)) (bsel (c14 == 77) (chk (decide (0 ≤ 1) && decide (1 ≤ (s6.size : Int))) (g30_J22 l1 n3 h0_2 h0_1 h0_2 h0_3 h0_4 h1_0 (s6.extract (1 : Int).toNat s6.size) h0_0 (IntKind.i64.wrap (h0_0 + h0_1)))) (some (.bool false, [some [.int .i64 h0_0, .int .i64 h0_1, .int .i64 h0_2, .sl true 1 h0_3, .sl true 2 h0_4, .bld 0 1], some [.mp h1_0]])))))) (g30_J22 l1 n3 0 h0_1 h0_2 h0_3 h0_4 h1_0 s6 h0_0 0))))) := (CC_run SS_ok rfl).trans (by kernel_rfl)
/-! (*overseer/instruction.parser).head -/
noncomputable def g31_c : Code := bodyOf Tryz.f31
noncomputable def g31_E : AE := SS.ae 31 50
noncomputable def g31_X : XE := SS.xe SS.CC SS.LL g31_E 2
noncomputable def g31_K0 : AX → ASt → R := retK SS.P Tryz.f31.results.toList (SS.prm 31).ro 2 []
noncomputable def g31_c1 : Code := Code.sub [true, true, true] g31_c
noncomputable def g31_K1 : AX → ASt → R := thenK (joinX g31_E 2 g31_c1 (exK g31_X g31_c1 g31_K0)) g31_K0
noncomputable def g31_K2 : AX → ASt → R := blkK 0 g31_K1
noncomputable def g31_c2 : Code := Code.sub [true, true, false, true, false, false] g31_c
noncomputable def g31_L5 (x1 : List PV) (o0_0 : Int) (o0_1 : Int) (o0_2 : Int) (o0_3 : List PV) (o0_4 : List PV) (o1_0 : List PV) (x31 : Int) : R := SS.LL g31_E 2 [1, 30, 31] 2 g31_c2 g31_K2 ⟨[(1, .sl false 1 x1), (30, .agg [.ptr 0 0, .ptr 0 1, .ptr 0 2]), (31, .int .i64 x31)], [some [.int .i64 o0_0, .int .i64 o0_1, .int .i64 o0_2, .sl true 1 o0_3, .sl true 2 o0_4, .bld 0 1], some [.mp o1_0]]⟩
theorem g31_L5_eq (x1 : List PV) (o0_0 : Int) (o0_1 : Int) (o0_2 : Int) (o0_3 : List PV) (o0_4 : List PV) (o1_0 : List PV) (x31 : Int) : g31_L5 x1 o0_0 o0_1 o0_2 o0_3 o0_4 o1_0 x31 =
    bsel (decide (x31 < 3)) (chk (decide (0 ≤ x31) && decide (x31 < (3 : Int))) (bsel (x31 == 0) (lgetX x1 (IntKind.i64.wrap (x31 + 1)) fun e11 => vS e11 fun s12 => clX SS.CC 65 [.str s12] fun r15 => w_3_4 r15 fun n13 b14 => bsel (!b14) (some (.bool false, [some [.int .i64 o0_0, .int .i64 o0_1, .int .i64 o0_2, .sl true 1 o0_3, .sl true 2 o0_4, .bld 0 1], some [.mp o1_0]])) (g31_L5 x1 n13 o0_1 o0_2 o0_3 o0_4 o1_0 (IntKind.i64.wrap (x31 + 1)))) (bsel (x31 == 1) (lgetX x1 (IntKind.i64.wrap (x31 + 1)) fun e6 => vS e6 fun s7 => clX SS.CC 65 [.str s7] fun r10 => w_3_4 r10 fun n8 b9 => bsel (!b9) (some (.bool false, [some [.int .i64 o0_0, .int .i64 o0_1, .int .i64 o0_2, .sl true 1 o0_3, .sl true 2 o0_4, .bld 0 1], some [.mp o1_0]])) (g31_L5 x1 o0_0 n8 o0_2 o0_3 o0_4 o1_0 (IntKind.i64.wrap (x31 + 1)))) (bsel (x31 == 2) (lgetX x1 (IntKind.i64.wrap (x31 + 1)) fun e1 => vS e1 fun s2 => clX SS.CC 65 [.str s2] fun r5 => w_3_4 r5 fun n3 b4 => bsel (!b4) (some (.bool false, [some [.int .i64 o0_0, .int .i64 o0_1, .int .i64 o0_2, .sl true 1 o0_3, .sl true 2 o0_4, .bld 0 1], some [.mp o1_0]])) (g31_L5 x1 o0_0 o0_1 n3 o0_3 o0_4 o1_0 (IntKind.i64.wrap (x31 + 1)))) (none))))) (some (.bool true, [some [.int .i64 o0_0, .int .i64 o0_1, .int .i64 o0_2, .sl true 1 o0_3, .sl true 2 o0_4, .bld 0 1], some [.mp o1_0]])) := (LL_eq SS_ok (by decide) (by kernel_rfl) (by kernel_rfl)).trans (by kernel_rfl)
theorem g31_eq (a1 : List PV) (h0_0 : Int) (h0_1 : Int) (h0_2 : Int) (h0_3 : List PV) (h0_4 : List PV) (h1_0 : List PV) : SS.CC 31 [.ptr 0 0, .sl false 1 a1] [some [.int .i64 h0_0, .int .i64 h0_1, .int .i64 h0_2, .sl true 1 h0_3, .sl true 2 h0_4, .bld 0 1], some [.mp h1_0]] =
    bsel ((a1.length : Int) != 4) (some (.bool false, [some [.int .i64 h0_0, .int .i64 h0_1, .int .i64 h0_2, .sl true 1 h0_3, .sl true 2 h0_4, .bld 0 1], some [.mp h1_0]])) (lgetX a1 0 fun e1 => vS e1 fun s2 => bsel (!(s2.toList == (⟨#[112, 114, 111, 103, 114, 97, 109]⟩ : ByteArray).toList)) (some (.bool false, [some [.int .i64 h0_0, .int .i64 h0_1, .int .i64 h0_2, .sl true 1 h0_3, .sl true 2 h0_4, .bld 0 1], some [.mp h1_0]])) (g31_L5 a1 h0_0 h0_1 h0_2 h0_3 h0_4 h1_0 0)) := (CC_run SS_ok rfl).trans (by kernel_rfl)
/-! (*overseer/instruction.parser).start -/
noncomputable def g32_c : Code := bodyOf Tryz.f32
noncomputable def g32_E : AE := SS.ae 32 48
noncomputable def g32_X : XE := SS.xe SS.CC SS.LL g32_E 2
noncomputable def g32_K0 : AX → ASt → R := retK SS.P Tryz.f32.results.toList (SS.prm 32).ro 2 []
noncomputable def g32_c1 : Code := Code.sub [true, true, true] g32_c
noncomputable def g32_K1 : AX → ASt → R := thenK (joinX g32_E 2 g32_c1 (exK g32_X g32_c1 g32_K0)) g32_K0
noncomputable def g32_K2 : AX → ASt → R := blkK 0 g32_K1
noncomputable def g32_c2 : Code := Code.sub [true, true, false, true, false, false] g32_c
noncomputable def g32_K3 : AX → ASt → R := thenK (fun σ => SS.LL g32_E 2 [0, 25] 3 g32_c2 g32_K2 (σ.gc [0, 25] 3)) g32_K2
noncomputable def g32_K4 : AX → ASt → R := blkK 1 g32_K3
noncomputable def g32_c3 : Code := Code.sub [true, true, false, true, false, false, true, true, false, true, true] g32_c
noncomputable def g32_L5 (o0_0 : Int) (o0_1 : Int) (o0_2 : Int) (o0_3 : List PV) (o0_4 : List PV) (o1_0 : List PV) (o2_0 : ByteArray) (o2_0_a : Int) : R := SS.LL g32_E 2 [0, 25] 3 g32_c2 g32_K2 ⟨[(0, .ptr 0 0), (25, .bld 1000001 2)], [some [.int .i64 o0_0, .int .i64 o0_1, .int .i64 o0_2, .sl true 1 o0_3, .sl true 2 o0_4, .bld 0 1], some [.mp o1_0], some [.func (.yield 4243) [.str o2_0, .int .i64 o2_0_a] []]]⟩
noncomputable def g32_J9 (o0_0 : Int) (o0_1 : Int) (o0_2 : Int) (o0_3 : List PV) (o0_4 : List PV) (o1_0 : List PV) (o2_0 : ByteArray) (x6 : Int) (o2_0_a : Int) : R := exK g32_X g32_c3 g32_K4 ⟨[(0, .ptr 0 0), (6, .int .i32 x6), (25, .bld 1000001 2)], [some [.int .i64 o0_0, .int .i64 o0_1, .int .i64 o0_2, .sl true 1 o0_3, .sl true 2 o0_4, .bld 0 1], some [.mp o1_0], some [.func (.yield 4243) [.str o2_0, .int .i64 o2_0_a] []]]⟩
theorem g32_L5_eq (o0_0 : Int) (o0_1 : Int) (o0_2 : Int) (o0_3 : List PV) (o0_4 : List PV) (o1_0 : List PV) (o2_0 : ByteArray) (o2_0_a : Int) : g32_L5 o0_0 o0_1 o0_2 o0_3 o0_4 o1_0 o2_0 o2_0_a =
    chk (decide (0 ≤ o2_0_a)) (bsel (decide (o2_0_a < (o2_0.size : Int))) (bsel ((iterRn o2_0 o2_0_a) != 48) (bsel ((iterRn o2_0 o2_0_a) != 49) (some (.bool false, [some [.int .i64 o0_0, .int .i64 o0_1, .int .i64 o0_2, .sl true 1 o0_3, .sl true 2 o0_4, .bld 0 1], some [.mp o1_0]])) (g32_J9 o0_0 o0_1 o0_2 o0_3 o0_4 o1_0 o2_0 (iterRn o2_0 o2_0_a) (iterNx o2_0 o2_0_a))) (g32_J9 o0_0 o0_1 o0_2 o0_3 o0_4 o1_0 o2_0 (iterRn o2_0 o2_0_a) (iterNx o2_0 o2_0_a))) (some (.bool true, [some [.int .i64 o0_0, .int .i64 o0_1, .int .i64 o0_2, .sl true 1 o0_3, .sl true 2 o0_4, .bld 0 1], some [.mp o1_0]]))) := (LL_eq SS_ok (by decide) (by kernel_rfl) (by kernel_rfl)).trans (by kernel_rfl)
theorem g32_J9_eq (o0_0 : Int) (o0_1 : Int) (o0_2 : Int) (o0_3 : List PV) (o0_4 : List PV) (o1_0 : List PV) (o2_0 : ByteArray) (x6 : Int) (o2_0_a : Int) : g32_J9 o0_0 o0_1 o0_2 o0_3 o0_4 o1_0 o2_0 x6 o2_0_a =
    chk (decide (o0_3.length + 1 ≤ LIM)) (g32_L5 o0_0 o0_1 o0_2 (o0_3 ++ [.bool (x6 == 49)]) o0_4 o1_0 o2_0 o2_0_a) := by kernel_rfl
theorem g32_eq (a1 : List PV) (h0_0 : Int) (h0_1 : Int) (h0_2 : Int) (h0_3 : List PV) (h0_4 : List PV) (h1_0 : List PV) : SS.CC 32 [.ptr 0 0, .sl false 1 a1] [some [.int .i64 h0_0, .int .i64 h0_1, .int .i64 h0_2, .sl true 1 h0_3, .sl true 2 h0_4, .bld 0 1], some [.mp h1_0]] =
    bsel ((a1.length : Int) != 2) (some (.bool false, [some [.int .i64 h0_0, .int .i64 h0_1, .int .i64 h0_2, .sl true 1 h0_3, .sl true 2 h0_4, .bld 0 1], some [.mp h1_0]])) (lgetX a1 0 fun e1 => vS e1 fun s2 => bsel (!(s2.toList == (⟨#[115, 116, 97, 114, 116]⟩ : ByteArray).toList)) (some (.bool false, [some [.int .i64 h0_0, .int .i64 h0_1, .int .i64 h0_2, .sl true 1 h0_3, .sl true 2 h0_4, .bld 0 1], some [.mp h1_0]])) (lgetX a1 1 fun e3 => vS e3 fun s4 => bsel (s4.toList == (⟨#[]⟩ : ByteArray).toList) (some (.bool false, [some [.int .i64 h0_0, .int .i64 h0_1, .int .i64 h0_2, .sl true 1 h0_3, .sl true 2 h0_4, .bld 0 1], some [.mp h1_0]])) (lgetX a1 1 fun e5 => vS e5 fun s6 => g32_L5 h0_0 h0_1 h0_2 h0_3 h0_4 h1_0 s6 0))) := (CC_run SS_ok rfl).trans (by kernel_rfl)
/-! (*overseer/instruction.parser).check -/
noncomputable def g33_c : Code := bodyOf Tryz.f33
noncomputable def g33_E : AE := SS.ae 33 39
noncomputable def g33_X : XE := SS.xe SS.CC SS.LL g33_E 2
noncomputable def g33_K0 : AX → ASt → R := retK SS.P Tryz.f33.results.toList (SS.prm 33).ro 2 []
noncomputable def g33_c1 : Code := Code.sub [true, true, true] g33_c
noncomputable def g33_K1 : AX → ASt → R := thenK (joinX g33_E 2 g33_c1 (exK g33_X g33_c1 g33_K0)) g33_K0
noncomputable def g33_K2 : AX → ASt → R := blkK 0 g33_K1
noncomputable def g33_c2 : Code := Code.sub [true, true, false, true, false, false] g33_c
noncomputable def g33_K3 : AX → ASt → R := thenK (fun σ => SS.LL g33_E 2 [0, 19, 20] 2 g33_c2 g33_K2 (σ.gc [0, 19, 20] 2)) g33_K2
noncomputable def g33_c3 : Code := Code.sub [true, true, false, true, false, false, true, true, true] g33_c
noncomputable def g33_K4 : AX → ASt → R := thenK (joinX g33_E 2 g33_c3 (exK g33_X g33_c3 g33_K3)) g33_K3
noncomputable def g33_K5 : AX → ASt → R := blkK 1 g33_K4
noncomputable def g33_c4 : Code := Code.sub [true, true, false, true, false, false, true, true, false, false, true, true] g33_c
noncomputable def g33_L6 (o0_0 : Int) (o0_1 : Int) (o0_2 : Int) (o0_3 : List PV) (o0_4 : List PV) (o1_0 : List PV) (x20 : Int) : R := SS.LL g33_E 2 [0, 19, 20] 2 g33_c2 g33_K2 ⟨[(0, .ptr 0 0), (19, .int .i64 (o0_4.length : Int)), (20, .int .i64 x20)], [some [.int .i64 o0_0, .int .i64 o0_1, .int .i64 o0_2, .sl true 1 o0_3, .sl true 2 o0_4, .bld 0 1], some [.mp o1_0]]⟩
noncomputable def g33_J10 (o0_0 : Int) (o0_1 : Int) (o0_2 : Int) (o0_3 : List PV) (o0_4 : List PV) (o1_0 : List PV) (x4 : Int) (x20 : Int) : R := exK g33_X g33_c4 g33_K5 ⟨[(0, .ptr 0 0), (4, .int .i64 x4), (19, .int .i64 (o0_4.length : Int)), (20, .int .i64 x20)], [some [.int .i64 o0_0, .int .i64 o0_1, .int .i64 o0_2, .sl true 1 o0_3, .sl true 2 o0_4, .bld 0 1], some [.mp o1_0]]⟩
theorem g33_L6_eq (o0_0 : Int) (o0_1 : Int) (o0_2 : Int) (o0_3 : List PV) (o0_4 : List PV) (o1_0 : List PV) (x20 : Int) : g33_L6 o0_0 o0_1 o0_2 o0_3 o0_4 o1_0 x20 =
    bsel (decide (x20 < (o0_4.length : Int))) (mapX (some .i64) o1_0 (.int .i64 x20) (fun e1 => vB e1 fun b2 => bsel b2 (some (.int .i64 2, [some [.int .i64 o0_0, .int .i64 o0_1, .int .i64 o0_2, .sl true 1 o0_3, .sl true 2 o0_4, .bld 0 1], some [.mp o1_0]])) (g33_J10 o0_0 o0_1 o0_2 o0_3 o0_4 o1_0 x20 x20)) (g33_J10 o0_0 o0_1 o0_2 o0_3 o0_4 o1_0 x20 x20)) (some (.int .i64 0, [some [.int .i64 o0_0, .int .i64 o0_1, .int .i64 o0_2, .sl true 1 o0_3, .sl true 2 o0_4, .bld 0 1], some [.mp o1_0]])) := (LL_eq SS_ok (by decide) (by kernel_rfl) (by kernel_rfl)).trans (by kernel_rfl)
theorem g33_J10_eq (o0_0 : Int) (o0_1 : Int) (o0_2 : Int) (o0_3 : List PV) (o0_4 : List PV) (o1_0 : List PV) (x4 : Int) (x20 : Int) : g33_J10 o0_0 o0_1 o0_2 o0_3 o0_4 o1_0 x4 x20 =
    clX SS.CC 44 [.agg [.int .i64 o0_0, .int .i64 o0_1, .int .i64 o0_2, .sl false 1 o0_3, .sl false 2 o0_4], .int .i64 x4] fun r2 => vI .i64 r2 fun n1 => bsel (n1 != 0) (some (.int .i64 n1, [some [.int .i64 o0_0, .int .i64 o0_1, .int .i64 o0_2, .sl true 1 o0_3, .sl true 2 o0_4, .bld 0 1], some [.mp o1_0]])) (g33_L6 o0_0 o0_1 o0_2 o0_3 o0_4 o1_0 (IntKind.i64.wrap (x20 + 1))) := by kernel_rfl
theorem g33_eq (h0_0 : Int) (h0_1 : Int) (h0_2 : Int) (h0_3 : List PV) (h0_4 : List PV) (h1_0 : List PV) : SS.CC 33 [.ptr 0 0] [some [.int .i64 h0_0, .int .i64 h0_1, .int .i64 h0_2, .sl true 1 h0_3, .sl true 2 h0_4, .bld 0 1], some [.mp h1_0]] =
    clX SS.CC 43 [.agg [.int .i64 h0_0, .int .i64 h0_1, .int .i64 h0_2, .sl false 1 h0_3, .sl false 2 h0_4]] fun r2 => vI .i64 r2 fun n1 => bsel (n1 != 0) (some (.int .i64 n1, [some [.int .i64 h0_0, .int .i64 h0_1, .int .i64 h0_2, .sl true 1 h0_3, .sl true 2 h0_4, .bld 0 1], some [.mp h1_0]])) (g33_L6 h0_0 h0_1 h0_2 h0_3 h0_4 h1_0 0) := (CC_run SS_ok rfl).trans (by kernel_rfl)
/-! slices.IndexFunc[[]overseer/instruction.operation,overseer/instruction.operation] -/
noncomputable def g63_c : Code := bodyOf Tryz.f63
noncomputable def g63_E : AE := SS.ae 63 19
noncomputable def g63_X : XE := SS.xe SS.CC SS.LL g63_E 0
noncomputable def g63_K0 : AX → ASt → R := retK SS.P Tryz.f63.results.toList (SS.prm 63).ro 0 []
noncomputable def g63_c1 : Code := Code.sub [true, true] g63_c
noncomputable def g63_K1 : AX → ASt → R := thenK (joinX g63_E 0 g63_c1 (exK g63_X g63_c1 g63_K0)) g63_K0
noncomputable def g63_K2 : AX → ASt → R := blkK 0 g63_K1
noncomputable def g63_c2 : Code := Code.sub [true, false, true, false, false] g63_c
noncomputable def g63_L3 (x0 : List PV) (x1 : List PV) (x8 : Int) : R := SS.LL g63_E 0 [0, 1, 7, 8] 0 g63_c2 g63_K2 ⟨[(0, .sl false 5 x0), (1, .func (.func 64) [] [.cst (.sl false 1 x1)]), (7, .int .i64 (x0.length : Int)), (8, .int .i64 x8)], []⟩
theorem g63_L3_eq (x0 : List PV) (x1 : List PV) (x8 : Int) : g63_L3 x0 x1 x8 =
    bsel (decide (x8 < (x0.length : Int))) (lgetX x0 x8 fun e1 => v66 e1 fun n2 s3 p4 p5 p6 => chk (PV.flats [.agg [.int .i64 n2, .str s3, p4, p5, p6], .cst (.sl false 1 x1)]) (clX SS.CC 64 [.agg [.int .i64 n2, .str s3, p4, p5, p6], .cst (.sl false 1 x1)] fun r7 => vB r7 fun b8 => bsel b8 (some (.int .i64 x8, [])) (g63_L3 x0 x1 (IntKind.i64.wrap (x8 + 1))))) (some (.int .i64 (-1), [])) := (LL_eq SS_ok (by decide) (by kernel_rfl) (by kernel_rfl)).trans (by kernel_rfl)
theorem g63_eq (a0 : List PV) (a1 : List PV) : SS.CC 63 [.sl false 5 a0, .func (.func 64) [] [.cst (.sl false 1 a1)]] [] =
    g63_L3 a0 a1 0 := (CC_run SS_ok rfl).trans (by kernel_rfl)
/-! (*overseer/instruction.parser).instruction$1 -/
noncomputable def g64_c : Code := bodyOf Tryz.f64
noncomputable def g64_E : AE := SS.ae 64 10
noncomputable def g64_X : XE := SS.xe SS.CC SS.LL g64_E 0
theorem g64_eq (a0 : Int) (a0_1 : ByteArray) (a0_2 : PV) (a0_3 : PV) (a0_4 : PV) (a1 : List PV) : SS.CC 64 [.agg [.int .i64 a0, .str a0_1, a0_2, a0_3, a0_4], .cst (.sl false 1 a1)] [] =
    chk (([.int .i64 a0, .str a0_1, a0_2, a0_3, a0_4] : List PV).all PV.one && PV.flats [.int .i64 a0, .str a0_1, a0_2, a0_3, a0_4]) (lgetX a1 0 fun e1 => vS e1 fun s2 => some (.bool (a0_1.toList == s2.toList), [])) := (CC_run SS_ok rfl).trans (by kernel_rfl)
/-! overseer/instruction.number -/
noncomputable def g65_c : Code := bodyOf Tryz.f65
noncomputable def g65_E : AE := SS.ae 65 49
noncomputable def g65_X : XE := SS.xe SS.CC SS.LL g65_E 0
noncomputable def g65_K0 : AX → ASt → R := retK SS.P Tryz.f65.results.toList (SS.prm 65).ro 0 []
noncomputable def g65_c1 : Code := Code.sub [true, true] g65_c
noncomputable def g65_c2 : Code := Code.sub [true, true, true, true] g65_c
noncomputable def g65_K1 : AX → ASt → R := thenK (joinX g65_E 0 g65_c2 (exK g65_X g65_c2 g65_K0)) g65_K0
noncomputable def g65_K2 : AX → ASt → R := blkK 0 g65_K1
noncomputable def g65_c3 : Code := Code.sub [true, true, true, false, true, false, false] g65_c
noncomputable def g65_J4 (x0 : ByteArray) : R := exK g65_X g65_c1 g65_K0 ⟨[(0, .str x0)], []⟩
noncomputable def g65_L6 (x0 : ByteArray) (x4 : Int) (x26 : Int) : R := SS.LL g65_E 0 [0, 4, 25, 26] 0 g65_c3 g65_K2 ⟨[(0, .str x0), (4, .int .i64 x4), (25, .int .i64 (x0.size : Int)), (26, .int .i64 x26)], []⟩
theorem g65_J4_eq (x0 : ByteArray) : g65_J4 x0 =
    g65_L6 x0 0 0 := by kernel_rfl
theorem g65_L6_eq (x0 : ByteArray) (x4 : Int) (x26 : Int) : g65_L6 x0 x4 x26 =
    bsel (decide (x26 < (x0.size : Int))) (byteX x0 x26 fun c1 => bsel (decide (c1 < 48)) (some (.tuple [.int .i64 0, .bool false], [])) (byteX x0 x26 fun c2 => bsel (decide (57 < c2)) (some (.tuple [.int .i64 0, .bool false], [])) (byteX x0 x26 fun c3 => g65_L6 x0 (IntKind.i64.wrap ((IntKind.i64.wrap (10 * x4)) + (IntKind.i64.wrap (IntKind.u8.wrap (c3 - 48))))) (IntKind.i64.wrap (x26 + 1))))) (some (.tuple [.int .i64 x4, .bool true], [])) := (LL_eq SS_ok (by decide) (by kernel_rfl) (by kernel_rfl)).trans (by kernel_rfl)
theorem g65_eq (a0 : ByteArray) : SS.CC 65 [.str a0] [] =
    bsel ((a0.size : Int) == 0) (some (.tuple [.int .i64 0, .bool false], [])) (bsel (decide (6 < (a0.size : Int))) (some (.tuple [.int .i64 0, .bool false], [])) (bsel (decide (1 < (a0.size : Int))) (byteX a0 0 fun c1 => bsel (c1 == 48) (some (.tuple [.int .i64 0, .bool false], [])) (g65_J4 a0)) (g65_J4 a0))) := (CC_run SS_ok rfl).trans (by kernel_rfl)
end Go.Proofs.YtiejgieiokmmfaaGreatDoor

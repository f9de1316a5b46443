/-
  Functions as equations. Printed by a program (wip/tool/dc.py).
-/
import Derived.Test.YtiejgieiokmmfaaDoorB52
namespace Go.Proofs.YtiejgieiokmmfaaDoor
set_option linter.unusedVariables false
set_option linter.unusedSimpArgs false
set_option linter.unnecessarySimpa false
set_option linter.unusedSectionVars false
open Go.RowKit
set_option maxRecDepth 1000000
/-! overseer/instruction.Compact -/
noncomputable def g20_c : Code := bodyOf Tryd.f20
noncomputable def g20_E : AE := SS.ae 20 101
noncomputable def g20_X : XE := SS.xe SS.CC SS.LL g20_E 0
noncomputable def g20_K0 : AX → ASt → R := retK SS.P Tryd.f20.results.toList (SS.prm 20).ro 0 []
noncomputable def g20_c1 : Code := Code.sub [true, true, true, true, true, true] g20_c
noncomputable def g20_K1 : AX → ASt → R := thenK (joinX g20_E 0 g20_c1 (exK g20_X g20_c1 g20_K0)) g20_K0
noncomputable def g20_K2 : AX → ASt → R := blkK 0 g20_K1
noncomputable def g20_c2 : Code := Code.sub [true, true, true, true, true, false, true, false, false] g20_c
noncomputable def g20_c3 : Code := Code.sub [true, true, true, true, true, true, true, true] g20_c
noncomputable def g20_K3 : AX → ASt → R := thenK (joinX g20_E 0 g20_c3 (exK g20_X g20_c3 g20_K0)) g20_K0
noncomputable def g20_K4 : AX → ASt → R := blkK 2 g20_K3
noncomputable def g20_c4 : Code := Code.sub [true, true, true, true, true, true, true, false, true, false, false] g20_c
noncomputable def g20_L9 (x1 : Int) (x1_a : Int) (x1_b : Int) (x1_c : List PV) (x1_d : List PV) (x5 : List PV) (x6 : List PV) (o1_3 : List PV) (x41 : Int) (o1_4 : Nat) (o1_4_a : List PV) (o2 : List PV) : R := SS.LL g20_E 0 [1, 2, 5, 6, 7, 8, 39, 40, 41] 3 g20_c2 g20_K2 ⟨[(1, .cst (.agg [.int .i64 x1, .int .i64 x1_a, .int .i64 x1_b, .sl false 1 x1_c, .sl false 2 x1_d])), (2, .ptr 0 0), (5, .sl false 1 x5), (6, .sl false 1 x6), (7, .ptr 1 0), (8, .slh 2 0 ((IntKind.i64.wrap ((x1_d.length : Int) + 1)).toNat) 1), (39, .sl false 2 x1_d), (40, .int .i64 (x1_d.length : Int)), (41, .int .i64 x41)], [some [.int .i64 0, .int .i64 0, .int .i64 0, .sl true 1 [], .sl true 2 []], some [.int .i64 x1, .int .i64 x1_a, .int .i64 x1_b, .sl false 1 o1_3, .slp true o1_4 2 o1_4_a], some o2]⟩
noncomputable def g20_L17 (o1_0 : Int) (o1_1 : Int) (o1_2 : Int) (o1_3 : List PV) (x8 : Nat) (o2 : List PV) : R := SS.LL g20_E 0 [2, 7, 8, 79, 80, 81] 3 g20_c4 g20_K4 ⟨[(2, .ptr 0 0), (7, .ptr 1 0), (8, .slh 2 0 x8 1), (79, .sl false 2 []), (80, .int .i64 0), (81, .int .i64 0)], [some [.int .i64 0, .int .i64 0, .int .i64 0, .sl true 1 [], .sl true 2 []], some [.int .i64 o1_0, .int .i64 o1_1, .int .i64 o1_2, .sl false 1 o1_3, .sl false 2 []], some o2]⟩
noncomputable def g20_L17b (x79 : Nat) (o1_0 : Int) (o1_1 : Int) (o1_2 : Int) (o1_3 : List PV) (o3 : List PV) (x8 : Nat) (o2 : List PV) (x81 : Int) : R := SS.LL g20_E 0 [2, 7, 8, 79, 80, 81] 4 g20_c4 g20_K4 ⟨[(2, .ptr 0 0), (7, .ptr 1 0), (8, .slh 2 0 x8 1), (79, .slh 3 0 x79 2), (80, .int .i64 (x79 : Int)), (81, .int .i64 x81)], [some [.int .i64 0, .int .i64 0, .int .i64 0, .sl true 1 [], .sl true 2 []], some [.int .i64 o1_0, .int .i64 o1_1, .int .i64 o1_2, .sl false 1 o1_3, .slh 3 0 x79 2], some o2, some o3]⟩
theorem g20_L9_eq (x1 : Int) (x1_a : Int) (x1_b : Int) (x1_c : List PV) (x1_d : List PV) (x5 : List PV) (x6 : List PV) (o1_3 : List PV) (x41 : Int) (o1_4 : Nat) (o1_4_a : List PV) (o2 : List PV) : g20_L9 x1 x1_a x1_b x1_c x1_d x5 x6 o1_3 x41 o1_4 o1_4_a o2 =
    chk (o2.all flC && true) (bsel (decide (x41 < (x1_d.length : Int))) (chk (o2.all flC && true) (lgetX x1_d x41 fun e1 => v57 e1 fun n2 n3 => chk (decide (0 ≤ x41) && decide (x41 < ((IntKind.i64.wrap ((x1_d.length : Int) + 1)).toNat : Int))) (chk (decide (x41.toNat < o2.length)) (lgetX x5 x41 fun e4 => vB e4 fun b5 => bsel b5 (lgetX x6 x41 fun e6 => vB e6 fun b7 => bsel (!b7) (chk (decide ((o1_4 + 1) ≤ LIM) && true) (chk ((o2.set x41.toNat (.int .i64 (o1_4 : Int))).all flC && true) (g20_L9 x1 x1_a x1_b x1_c x1_d x5 x6 o1_3 (IntKind.i64.wrap (x41 + 1)) (o1_4 + 1) (o1_4_a ++ [.int .i64 n2, .int .i64 n3]) (o2.set x41.toNat (.int .i64 (o1_4 : Int)))))) (chk ((o2.set x41.toNat (.int .i64 (o1_4 : Int))).all flC && true) (g20_L9 x1 x1_a x1_b x1_c x1_d x5 x6 o1_3 (IntKind.i64.wrap (x41 + 1)) o1_4 o1_4_a (o2.set x41.toNat (.int .i64 (o1_4 : Int)))))) (chk ((o2.set x41.toNat (.int .i64 (o1_4 : Int))).all flC && true) (g20_L9 x1 x1_a x1_b x1_c x1_d x5 x6 o1_3 (IntKind.i64.wrap (x41 + 1)) o1_4 o1_4_a (o2.set x41.toNat (.int .i64 (o1_4 : Int))))))))) (chk (o2.all flC && true) (chk (decide (0 ≤ (x1_d.length : Int)) && decide ((x1_d.length : Int) < ((IntKind.i64.wrap ((x1_d.length : Int) + 1)).toNat : Int))) (chk (decide (((x1_d.length : Int).toNat) < o2.length)) (bsel (Nat.ble 1 o1_4) (g20_L17b o1_4 x1 x1_a x1_b o1_3 o1_4_a ((IntKind.i64.wrap ((x1_d.length : Int) + 1)).toNat) (o2.set ((x1_d.length : Int).toNat) (.int .i64 (o1_4 : Int))) 0) (g20_L17 x1 x1_a x1_b o1_3 ((IntKind.i64.wrap ((x1_d.length : Int) + 1)).toNat) (o2.set ((x1_d.length : Int).toNat) (.int .i64 (o1_4 : Int))))))))) := (LL_eq SS_ok (by decide) (by kernel_rfl) (by kernel_rfl)).trans (by kernel_rfl)
theorem g20_L17_eq (o1_0 : Int) (o1_1 : Int) (o1_2 : Int) (o1_3 : List PV) (x8 : Nat) (o2 : List PV) : g20_L17 o1_0 o1_1 o1_2 o1_3 x8 o2 =
    chk (o2.all flC && true) (some (.tuple [.agg [.int .i64 o1_0, .int .i64 o1_1, .int .i64 o1_2, .sl false 1 o1_3, .sl false 2 []], .int .i64 0], [])) := (LL_eq SS_ok (by decide) (by kernel_rfl) (by kernel_rfl)).trans (by kernel_rfl)
theorem g20_L17b_eq (x79 : Nat) (o1_0 : Int) (o1_1 : Int) (o1_2 : Int) (o1_3 : List PV) (o3 : List PV) (x8 : Nat) (o2 : List PV) (x81 : Int) : g20_L17b x79 o1_0 o1_1 o1_2 o1_3 o3 x8 o2 x81 =
    chk (o2.all flC && (o3.all flC && true)) (bsel (decide (x81 < (x79 : Int))) (chk (o2.all flC && (o3.all flC && true)) (chk (decide (0 ≤ x81) && decide (x81 < (x79 : Int))) (chk (decide ((0 + x81.toNat * 2) + 2 ≤ o3.length)) (v57 (.agg (((o3.drop (0 + x81.toNat * 2)).take 2).map PV.un)) fun n1 n2 => bsel (decide (11 ≤ n1)) (chk (decide (0 ≤ n2) && decide (n2 < (x8 : Int))) (ngetX o2 n2.toNat fun e3 => vI .i64 e3 fun n4 => chk (decide (0 ≤ x81) && decide (x81 < (x79 : Int))) (chk (decide (((0 + x81.toNat * 2) + 1) < o3.length)) (chk (o2.all flC && ((o3.set ((0 + x81.toNat * 2) + 1) (.int .i64 n4)).all flC && true)) (g20_L17b x79 o1_0 o1_1 o1_2 o1_3 (o3.set ((0 + x81.toNat * 2) + 1) (.int .i64 n4)) x8 o2 (IntKind.i64.wrap (x81 + 1))))))) (chk (o2.all flC && (o3.all flC && true)) (g20_L17b x79 o1_0 o1_1 o1_2 o1_3 o3 x8 o2 (IntKind.i64.wrap (x81 + 1)))))))) (chk (decide (x79 * 2 ≤ o3.length) && decide (0 < 2) && o3.all (fun p => p.one && p.flat) && true) (some (.tuple [.agg [.int .i64 o1_0, .int .i64 o1_1, .int .i64 o1_2, .sl false 1 o1_3, .sl false 2 (chunkP 2 o3 x79)], .int .i64 0], [])))) := (LL_eq SS_ok (by decide) (by kernel_rfl) (by kernel_rfl)).trans (by kernel_rfl)
theorem g20_eq (a0 : Int) (a0_1 : Int) (a0_2 : Int) (a0_3 : List PV) (a0_4 : List PV) : SS.CC 20 [.agg [.int .i64 a0, .int .i64 a0_1, .int .i64 a0_2, .sl false 1 a0_3, .sl false 2 a0_4]] [] =
    clX SS.CC 25 [.agg [.int .i64 a0, .int .i64 a0_1, .int .i64 a0_2, .sl false 1 a0_3, .sl false 2 a0_4]] fun r2 => vI .i64 r2 fun n1 => bsel (n1 != 0) (some (.tuple [.agg [.int .i64 0, .int .i64 0, .int .i64 0, .sl false 1 [], .sl false 2 []], .int .i64 n1], [])) (clX SS.CC 44 [.agg [.int .i64 a0, .int .i64 a0_1, .int .i64 a0_2, .sl false 1 a0_3, .sl false 2 a0_4]] fun r4 => vL false 1 r4 fun l3 => clX SS.CC 45 [.agg [.int .i64 a0, .int .i64 a0_1, .int .i64 a0_2, .sl false 1 a0_3, .sl false 2 a0_4]] fun r6 => vL false 1 r6 fun l5 => clX SS.CC 46 [.sl false 1 a0_3] fun r8 => vL true 1 r8 fun l7 => chk (decide ((IntKind.i64.wrap ((a0_4.length : Int) + 1)) = (IntKind.i64.wrap ((a0_4.length : Int) + 1))) && decide (0 ≤ (IntKind.i64.wrap ((a0_4.length : Int) + 1))) && decide ((IntKind.i64.wrap ((a0_4.length : Int) + 1)) ≤ 1073741824)) (g20_L9 a0 a0_1 a0_2 a0_3 a0_4 l3 l5 l7 0 0 [] (List.replicate ((IntKind.i64.wrap ((a0_4.length : Int) + 1)).toNat) (.int .i64 0 : PV)))) := (CC_run SS_ok rfl).trans (by kernel_rfl)
/-! overseer/overseerlaw52.reachable -/
noncomputable def g21_c : Code := bodyOf Tryd.f21
noncomputable def g21_E : AE := SS.ae 21 43
noncomputable def g21_X : XE := SS.xe SS.CC SS.LL g21_E 0
noncomputable def g21_K0 : AX → ASt → R := retK SS.P Tryd.f21.results.toList (SS.prm 21).ro 0 []
noncomputable def g21_c1 : Code := Code.sub [true, true, true, true] g21_c
noncomputable def g21_K1 : AX → ASt → R := thenK (joinX g21_E 0 g21_c1 (exK g21_X g21_c1 g21_K0)) g21_K0
noncomputable def g21_K2 : AX → ASt → R := blkK 0 g21_K1
noncomputable def g21_c2 : Code := Code.sub [true, true, true, false, true, false, false] g21_c
noncomputable def g21_K3 : AX → ASt → R := thenK (fun σ => SS.LL g21_E 0 [1, 3, 4] 1 g21_c2 g21_K2 (σ.gc [1, 3, 4] 1)) g21_K2
noncomputable def g21_c3 : Code := Code.sub [true, true, true, false, true, false, false, true, true] g21_c
noncomputable def g21_K4 : AX → ASt → R := thenK (joinX g21_E 0 g21_c3 (exK g21_X g21_c3 g21_K3)) g21_K3
noncomputable def g21_K5 : AX → ASt → R := blkK 1 g21_K4
noncomputable def g21_K6 : AX → ASt → R := blkK 2 g21_K5
noncomputable def g21_c4 : Code := Code.sub [true, true, true, false, true, false, false, true, false, false, true, true, false, false] g21_c
noncomputable def g21_L5 (x1 : Int) (x1_a : Int) (x1_b : Int) (x1_c : List PV) (x1_d : List PV) (x4 : Int) (o0 : List PV) : R := SS.LL g21_E 0 [1, 3, 4] 1 g21_c2 g21_K2 ⟨[(1, .cst (.agg [.int .i64 x1, .int .i64 x1_a, .int .i64 x1_b, .sl false 1 x1_c, .sl false 2 x1_d])), (3, .slh 0 0 ((IntKind.i64.wrap ((x1_d.length : Int) + 1)).toNat) 1), (4, .int .i64 x4)], [some o0]⟩
noncomputable def g21_L9 (x1 : Int) (x1_a : Int) (x1_b : Int) (x1_c : List PV) (x1_d : List PV) (x5 : List PV) (x6 : Int) (o0 : List PV) (x4 : Int) : R := SS.LL g21_E 0 [1, 3, 4, 5, 6] 1 g21_c4 g21_K6 ⟨[(1, .cst (.agg [.int .i64 x1, .int .i64 x1_a, .int .i64 x1_b, .sl false 1 x1_c, .sl false 2 x1_d])), (3, .slh 0 0 ((IntKind.i64.wrap ((x1_d.length : Int) + 1)).toNat) 1), (4, .int .i64 x4), (5, .sl false 1 x5), (6, .int .i64 x6)], [some o0]⟩
theorem g21_L5_eq (x1 : Int) (x1_a : Int) (x1_b : Int) (x1_c : List PV) (x1_d : List PV) (x4 : Int) (o0 : List PV) : g21_L5 x1 x1_a x1_b x1_c x1_d x4 o0 =
    chk (o0.all flC && true) (bsel (decide (x4 < (x1_d.length : Int))) (chk (o0.all flC && true) (clX SS.CC 47 [.agg [.int .i64 x1, .int .i64 x1_a, .int .i64 x1_b, .sl false 1 x1_c, .sl false 2 x1_d], .int .i64 x4] fun r2 => vL false 1 r2 fun l1 => g21_L9 x1 x1_a x1_b x1_c x1_d l1 0 o0 x4)) (chk (decide (((IntKind.i64.wrap ((x1_d.length : Int) + 1)).toNat) * 1 ≤ o0.length) && decide (0 < 1) && o0.all fun p => p.one && p.flat) (some (.sl false 1 (chunkP 1 o0 ((IntKind.i64.wrap ((x1_d.length : Int) + 1)).toNat)), [])))) := (LL_eq SS_ok (by decide) (by kernel_rfl) (by kernel_rfl)).trans (by kernel_rfl)
theorem g21_L9_eq (x1 : Int) (x1_a : Int) (x1_b : Int) (x1_c : List PV) (x1_d : List PV) (x5 : List PV) (x6 : Int) (o0 : List PV) (x4 : Int) : g21_L9 x1 x1_a x1_b x1_c x1_d x5 x6 o0 x4 =
    chk (o0.all flC && true) (bsel (decide (x6 < (x5.length : Int))) (chk (decide (0 ≤ x4) && decide (x4 < ((IntKind.i64.wrap ((x1_d.length : Int) + 1)).toNat : Int))) (ngetX o0 x4.toNat fun e1 => vB e1 fun b2 => bsel b2 (chk (o0.all flC && true) (lgetX x5 x6 fun e3 => vI .i64 e3 fun n4 => chk (decide (0 ≤ n4) && decide (n4 < ((IntKind.i64.wrap ((x1_d.length : Int) + 1)).toNat : Int))) (chk (decide (n4.toNat < o0.length)) (chk ((o0.set n4.toNat (.bool true)).all flC && true) (g21_L9 x1 x1_a x1_b x1_c x1_d x5 (IntKind.i64.wrap (x6 + 1)) (o0.set n4.toNat (.bool true)) x4))))) (chk (o0.all flC && true) (g21_L5 x1 x1_a x1_b x1_c x1_d (IntKind.i64.wrap (x4 + 1)) o0)))) (chk (o0.all flC && true) (g21_L5 x1 x1_a x1_b x1_c x1_d (IntKind.i64.wrap (x4 + 1)) o0))) := (LL_eq SS_ok (by decide) (by kernel_rfl) (by kernel_rfl)).trans (by kernel_rfl)
theorem g21_eq (a0 : Int) (a0_1 : Int) (a0_2 : Int) (a0_3 : List PV) (a0_4 : List PV) : SS.CC 21 [.agg [.int .i64 a0, .int .i64 a0_1, .int .i64 a0_2, .sl false 1 a0_3, .sl false 2 a0_4]] [] =
    chk (decide ((IntKind.i64.wrap ((a0_4.length : Int) + 1)) = (IntKind.i64.wrap ((a0_4.length : Int) + 1))) && decide (0 ≤ (IntKind.i64.wrap ((a0_4.length : Int) + 1))) && decide ((IntKind.i64.wrap ((a0_4.length : Int) + 1)) ≤ 1073741824)) (chk (decide (0 ≤ 0) && decide (0 < ((IntKind.i64.wrap ((a0_4.length : Int) + 1)).toNat : Int))) (chk (decide (((0 : Int).toNat) < (List.replicate ((IntKind.i64.wrap ((a0_4.length : Int) + 1)).toNat) (.bool false : PV)).length)) (g21_L5 a0 a0_1 a0_2 a0_3 a0_4 0 ((List.replicate ((IntKind.i64.wrap ((a0_4.length : Int) + 1)).toNat) (.bool false : PV)).set ((0 : Int).toNat) (.bool true))))) := (CC_run SS_ok rfl).trans (by kernel_rfl)
/-! overseer/overseerlaw52.dead -/
noncomputable def g22_c : Code := bodyOf Tryd.f22
noncomputable def g22_E : AE := SS.ae 22 32
noncomputable def g22_X : XE := SS.xe SS.CC SS.LL g22_E 0
theorem g22_eq (a0 : Int) (a0_1 : Int) (a0_2 : Int) (a0_3 : List PV) (a0_4 : List PV) (a1 : Int) : SS.CC 22 [.agg [.int .i64 a0, .int .i64 a0_1, .int .i64 a0_2, .sl false 1 a0_3, .sl false 2 a0_4], .int .i64 a1] [] =
    clX SS.CC 21 [.agg [.int .i64 a0, .int .i64 a0_1, .int .i64 a0_2, .sl false 1 a0_3, .sl false 2 a0_4]] fun r2 => vL false 1 r2 fun l1 => lgetX l1 a1 fun e3 => vB e3 fun b4 => bsel b4 (lgetX a0_4 a1 fun e5 => v57 e5 fun n6 n7 => clX SS.CC 48 [.int .i64 n6] fun r9 => vB r9 fun b8 => bsel b8 (lgetX a0_4 a1 fun e10 => v57 e10 fun n11 n12 => clX SS.CC 49 [.agg [.int .i64 a0, .int .i64 a0_1, .int .i64 a0_2, .sl false 1 a0_3, .sl false 2 a0_4], .int .i64 (IntKind.i64.wrap (a1 + 1)), .int .i64 n12] fun r14 => vB r14 fun b13 => some (.bool (!b13), [])) (some (.bool false, []))) (some (.bool false, [])) := (CC_run SS_ok rfl).trans (by kernel_rfl)
/-! overseer/overseerlaw52.equal -/
noncomputable def g24_c : Code := bodyOf Tryd.f24
noncomputable def g24_E : AE := SS.ae 24 60
noncomputable def g24_X : XE := SS.xe SS.CC SS.LL g24_E 0
noncomputable def g24_K0 : AX → ASt → R := retK SS.P Tryd.f24.results.toList (SS.prm 24).ro 0 []
noncomputable def g24_c1 : Code := Code.sub [true, true, true] g24_c
noncomputable def g24_K1 : AX → ASt → R := thenK (joinX g24_E 0 g24_c1 (exK g24_X g24_c1 g24_K0)) g24_K0
noncomputable def g24_K2 : AX → ASt → R := blkK 0 g24_K1
noncomputable def g24_c2 : Code := Code.sub [true, true, false, true, false, false] g24_c
noncomputable def g24_L5 (x2 : Int) (x2_a : Int) (x2_b : Int) (x2_c : List PV) (x2_d : List PV) (x3 : Int) (x3_a : Int) (x3_b : Int) (x3_c : List PV) (x3_d : List PV) (x5 : Int) : R := SS.LL g24_E 0 [2, 3, 5] 0 g24_c2 g24_K2 ⟨[(2, .cst (.agg [.int .i64 x2, .int .i64 x2_a, .int .i64 x2_b, .sl false 1 x2_c, .sl false 2 x2_d])), (3, .cst (.agg [.int .i64 x3, .int .i64 x3_a, .int .i64 x3_b, .sl false 1 x3_c, .sl false 2 x3_d])), (5, .int .i64 x5)], []⟩
theorem g24_L5_eq (x2 : Int) (x2_a : Int) (x2_b : Int) (x2_c : List PV) (x2_d : List PV) (x3 : Int) (x3_a : Int) (x3_b : Int) (x3_c : List PV) (x3_d : List PV) (x5 : Int) : g24_L5 x2 x2_a x2_b x2_c x2_d x3 x3_a x3_b x3_c x3_d x5 =
    bsel (decide (x5 < (x2_d.length : Int))) (lgetX x2_d x5 fun e1 => v57 e1 fun n2 n3 => lgetX x3_d x5 fun e4 => v57 e4 fun n5 n6 => bsel (!((n2 == n5) && ((n3 == n6) && true))) (some (.bool false, [])) (g24_L5 x2 x2_a x2_b x2_c x2_d x3 x3_a x3_b x3_c x3_d (IntKind.i64.wrap (x5 + 1)))) (some (.bool true, [])) := (LL_eq SS_ok (by decide) (by kernel_rfl) (by kernel_rfl)).trans (by kernel_rfl)
theorem g24_eq (a0 : Int) (a0_1 : Int) (a0_2 : Int) (a0_3 : List PV) (a0_4 : List PV) (a1 : Int) (a1_1 : Int) (a1_2 : Int) (a1_3 : List PV) (a1_4 : List PV) : SS.CC 24 [.agg [.int .i64 a0, .int .i64 a0_1, .int .i64 a0_2, .sl false 1 a0_3, .sl false 2 a0_4], .agg [.int .i64 a1, .int .i64 a1_1, .int .i64 a1_2, .sl false 1 a1_3, .sl false 2 a1_4]] [] =
    bsel (a0 != a1) (some (.bool false, [])) (bsel (a0_1 != a1_1) (some (.bool false, [])) (bsel (a0_2 != a1_2) (some (.bool false, [])) (clX SS.CC 38 [.sl false 1 a0_3, .sl false 1 a1_3] fun r2 => vB r2 fun b1 => bsel (!b1) (some (.bool false, [])) (bsel ((a0_4.length : Int) != (a1_4.length : Int)) (some (.bool false, [])) (g24_L5 a0 a0_1 a0_2 a0_3 a0_4 a1 a1_1 a1_2 a1_3 a1_4 0))))) := (CC_run SS_ok rfl).trans (by kernel_rfl)
/-! overseer/instruction.Unreachable -/
noncomputable def g28_c : Code := bodyOf Tryd.f28
noncomputable def g28_E : AE := SS.ae 28 33
noncomputable def g28_X : XE := SS.xe SS.CC SS.LL g28_E 0
noncomputable def g28_K0 : AX → ASt → R := retK SS.P Tryd.f28.results.toList (SS.prm 28).ro 0 []
noncomputable def g28_c1 : Code := Code.sub [true, true, true, true] g28_c
noncomputable def g28_K1 : AX → ASt → R := thenK (joinX g28_E 0 g28_c1 (exK g28_X g28_c1 g28_K0)) g28_K0
noncomputable def g28_K2 : AX → ASt → R := blkK 0 g28_K1
noncomputable def g28_c2 : Code := Code.sub [true, true, true, false, true, false, false] g28_c
noncomputable def g28_L7 (x18 : List PV) (x19 : Int) (x5 : List PV) (x20 : Int) : R := SS.LL g28_E 0 [5, 18, 19, 20] 0 g28_c2 g28_K2 ⟨[(5, .sl true 1 x5), (18, .sl false 1 x18), (19, .int .i64 x19), (20, .int .i64 x20)], []⟩
theorem g28_L7_eq (x18 : List PV) (x19 : Int) (x5 : List PV) (x20 : Int) : g28_L7 x18 x19 x5 x20 =
    bsel (decide (x20 < x19)) (lgetX x18 x20 fun e1 => vB e1 fun b2 => bsel (!b2) (chk (decide (x5.length + 1 ≤ LIM)) (g28_L7 x18 x19 (x5 ++ [.int .i64 x20]) (IntKind.i64.wrap (x20 + 1)))) (g28_L7 x18 x19 x5 (IntKind.i64.wrap (x20 + 1)))) (some (.tuple [.sl false 1 x5, .int .i64 0], [])) := (LL_eq SS_ok (by decide) (by kernel_rfl) (by kernel_rfl)).trans (by kernel_rfl)
theorem g28_eq (a0 : Int) (a0_1 : Int) (a0_2 : Int) (a0_3 : List PV) (a0_4 : List PV) : SS.CC 28 [.agg [.int .i64 a0, .int .i64 a0_1, .int .i64 a0_2, .sl false 1 a0_3, .sl false 2 a0_4]] [] =
    clX SS.CC 25 [.agg [.int .i64 a0, .int .i64 a0_1, .int .i64 a0_2, .sl false 1 a0_3, .sl false 2 a0_4]] fun r2 => vI .i64 r2 fun n1 => bsel (n1 != 0) (some (.tuple [.sl false 1 [], .int .i64 n1], [])) (clX SS.CC 44 [.agg [.int .i64 a0, .int .i64 a0_1, .int .i64 a0_2, .sl false 1 a0_3, .sl false 2 a0_4]] fun r4 => vL false 1 r4 fun l3 => chk (decide (0 ≤ (a0_4.length : Int)) && decide ((a0_4.length : Int) ≤ (l3.length : Int))) (g28_L7 (l3.take (a0_4.length : Int).toNat) ((l3.take (a0_4.length : Int).toNat).length : Int) [] 0)) := (CC_run SS_ok rfl).trans (by kernel_rfl)
/-! overseer/instruction.Uses -/
noncomputable def g30_c : Code := bodyOf Tryd.f30
noncomputable def g30_E : AE := SS.ae 30 58
noncomputable def g30_X : XE := SS.xe SS.CC SS.LL g30_E 0
noncomputable def g30_K0 : AX → ASt → R := retK SS.P Tryd.f30.results.toList (SS.prm 30).ro 0 []
noncomputable def g30_c1 : Code := Code.sub [true, true, true, true] g30_c
noncomputable def g30_K1 : AX → ASt → R := thenK (joinX g30_E 0 g30_c1 (exK g30_X g30_c1 g30_K0)) g30_K0
noncomputable def g30_K2 : AX → ASt → R := blkK 0 g30_K1
noncomputable def g30_c2 : Code := Code.sub [true, true, true, false, true, false, false] g30_c
noncomputable def g30_L7 (x6 : List PV) (x17 : List PV) (x19 : Int) (x2 : Nat) (x2_a : List PV) (x3 : Nat) (x3_a : List PV) : R := SS.LL g30_E 0 [2, 3, 6, 17, 18, 19] 0 g30_c2 g30_K2 ⟨[(2, .slp true x2 1 x2_a), (3, .slp true x3 1 x3_a), (6, .sl false 1 x6), (17, .sl false 2 x17), (18, .int .i64 (x17.length : Int)), (19, .int .i64 x19)], []⟩
theorem g30_L7_eq (x6 : List PV) (x17 : List PV) (x19 : Int) (x2 : Nat) (x2_a : List PV) (x3 : Nat) (x3_a : List PV) : g30_L7 x6 x17 x19 x2 x2_a x3 x3_a =
    bsel (decide (x19 < (x17.length : Int))) (lgetX x17 x19 fun e1 => v57 e1 fun n2 n3 => lgetX x6 x19 fun e4 => vB e4 fun b5 => bsel (!b5) (g30_L7 x6 x17 (IntKind.i64.wrap (x19 + 1)) x2 x2_a x3 x3_a) (bsel (decide (11 ≤ n2)) (g30_L7 x6 x17 (IntKind.i64.wrap (x19 + 1)) x2 x2_a x3 x3_a) (bsel (decide (n2 ≤ 6)) (chk (decide ((x2 + 1) ≤ LIM) && true) (g30_L7 x6 x17 (IntKind.i64.wrap (x19 + 1)) (x2 + 1) (x2_a ++ [.int .i64 n3]) x3 x3_a)) (chk (decide ((x3 + 1) ≤ LIM) && true) (g30_L7 x6 x17 (IntKind.i64.wrap (x19 + 1)) x2 x2_a (x3 + 1) (x3_a ++ [.int .i64 n3])))))) (bsel (Nat.ble 1 x2) (bsel (Nat.ble 1 x3) (chk (x2_a.all flC && (x3_a.all flC && true)) (chk (x2_a.all plainC && true) (clH SS.CC 59 [.slh 0 0 x2 1] [some x2_a] fun r7 h8 => h59_0 r7 h8 fun l6 => chk (l6.all plainC && true) (chk (x3_a.all plainC && true) (clH SS.CC 59 [.slh 0 0 x3 1] [some x3_a] fun r10 h11 => h59_0 r10 h11 fun l9 => chk (l9.all plainC && true) (chk (l6.all plainC && true) (clH SS.CC 60 [.slh 0 0 x2 1] [some l6] fun r14 h15 => h60_0 r14 h15 fun k12 l13 => chk (l13.all plainC && true) (chk (l9.all plainC && true) (clH SS.CC 60 [.slh 0 0 x3 1] [some l9] fun r18 h19 => h60_0 r18 h19 fun k16 l17 => chk (l17.all plainC && true) (chk (decide (k12 * 1 ≤ l13.length) && decide (0 < 1) && l13.all fun p => p.one && p.flat) (chk (decide (k16 * 1 ≤ l17.length) && decide (0 < 1) && l17.all fun p => p.one && p.flat) (some (.tuple [.sl false 1 (chunkP 1 l13 k12), .sl false 1 (chunkP 1 l17 k16), .int .i64 0], []))))))))))))) (chk (x2_a.all flC && true) (chk (x2_a.all plainC && true) (clH SS.CC 59 [.slh 0 0 x2 1] [some x2_a] fun r21 h22 => h59_0 r21 h22 fun l20 => chk (l20.all plainC && true) (clX SS.CC 59 [.sl false 1 []] fun r23 => w0 r23 (chk (l20.all plainC && true) (clH SS.CC 60 [.slh 0 0 x2 1] [some l20] fun r26 h27 => h60_0 r26 h27 fun k24 l25 => chk (l25.all plainC && true) (clX SS.CC 60 [.sl false 1 []] fun r29 => vL false 1 r29 fun l28 => chk (decide (k24 * 1 ≤ l25.length) && decide (0 < 1) && l25.all fun p => p.one && p.flat) (some (.tuple [.sl false 1 (chunkP 1 l25 k24), .sl false 1 l28, .int .i64 0], [])))))))))) (bsel (Nat.ble 1 x3) (chk (x3_a.all flC && true) (clX SS.CC 59 [.sl false 1 []] fun r30 => w0 r30 (chk (x3_a.all plainC && true) (clH SS.CC 59 [.slh 0 0 x3 1] [some x3_a] fun r32 h33 => h59_0 r32 h33 fun l31 => chk (l31.all plainC && true) (clX SS.CC 60 [.sl false 1 []] fun r35 => vL false 1 r35 fun l34 => chk (l31.all plainC && true) (clH SS.CC 60 [.slh 0 0 x3 1] [some l31] fun r38 h39 => h60_0 r38 h39 fun k36 l37 => chk (l37.all plainC && true) (chk (decide (k36 * 1 ≤ l37.length) && decide (0 < 1) && l37.all fun p => p.one && p.flat) (some (.tuple [.sl false 1 l34, .sl false 1 (chunkP 1 l37 k36), .int .i64 0], []))))))))) (clX SS.CC 59 [.sl false 1 []] fun r40 => w0 r40 (clX SS.CC 59 [.sl false 1 []] fun r41 => w0 r41 (clX SS.CC 60 [.sl false 1 []] fun r43 => vL false 1 r43 fun l42 => clX SS.CC 60 [.sl false 1 []] fun r45 => vL false 1 r45 fun l44 => some (.tuple [.sl false 1 l42, .sl false 1 l44, .int .i64 0], [])))))) := (LL_eq SS_ok (by decide) (by kernel_rfl) (by kernel_rfl)).trans (by kernel_rfl)
theorem g30_eq (a0 : Int) (a0_1 : Int) (a0_2 : Int) (a0_3 : List PV) (a0_4 : List PV) : SS.CC 30 [.agg [.int .i64 a0, .int .i64 a0_1, .int .i64 a0_2, .sl false 1 a0_3, .sl false 2 a0_4]] [] =
    clX SS.CC 25 [.agg [.int .i64 a0, .int .i64 a0_1, .int .i64 a0_2, .sl false 1 a0_3, .sl false 2 a0_4]] fun r2 => vI .i64 r2 fun n1 => bsel (n1 != 0) (some (.tuple [.sl false 1 [], .sl false 1 [], .int .i64 n1], [])) (clX SS.CC 44 [.agg [.int .i64 a0, .int .i64 a0_1, .int .i64 a0_2, .sl false 1 a0_3, .sl false 2 a0_4]] fun r4 => vL false 1 r4 fun l3 => g30_L7 l3 a0_4 0 0 [] 0 []) := (CC_run SS_ok rfl).trans (by kernel_rfl)
/-! overseer/overseerlaw52.reads -/
noncomputable def g31_c : Code := bodyOf Tryd.f31
noncomputable def g31_E : AE := SS.ae 31 9
noncomputable def g31_X : XE := SS.xe SS.CC SS.LL g31_E 0
theorem g31_eq (a0 : Int) : SS.CC 31 [.int .i64 a0] [] =
    bsel (decide (1 ≤ a0)) (some (.bool (decide (a0 ≤ 6)), [])) (some (.bool false, [])) := (CC_run SS_ok rfl).trans (by kernel_rfl)
/-! overseer/overseerlaw52.few -/
noncomputable def g33_c : Code := bodyOf Tryd.f33
noncomputable def g33_E : AE := SS.ae 33 13
noncomputable def g33_X : XE := SS.xe SS.CC SS.LL g33_E 0
theorem g33_eq (a0 : Int) (a0_1 : Int) (a0_2 : Int) (a0_3 : List PV) (a0_4 : List PV) : SS.CC 33 [.agg [.int .i64 a0, .int .i64 a0_1, .int .i64 a0_2, .sl false 1 a0_3, .sl false 2 a0_4]] [] =
    bsel (decide ((a0_4.length : Int) ≤ 14)) (some (.bool (decide ((a0_3.length : Int) ≤ 20)), [])) (some (.bool false, [])) := (CC_run SS_ok rfl).trans (by kernel_rfl)
/-! overseer/overseerlaw52.check -/
noncomputable def g34_c : Code := bodyOf Tryd.f34
noncomputable def g34_E : AE := SS.ae 34 113
noncomputable def g34_X : XE := SS.xe SS.CC SS.LL g34_E 0
noncomputable def g34_K0 : AX → ASt → R := retK SS.P Tryd.f34.results.toList (SS.prm 34).ro 0 []
noncomputable def g34_c1 : Code := Code.sub [true, true, true] g34_c
noncomputable def g34_K1 : AX → ASt → R := thenK (joinX g34_E 0 g34_c1 (exK g34_X g34_c1 g34_K0)) g34_K0
noncomputable def g34_K2 : AX → ASt → R := blkK 0 g34_K1
noncomputable def g34_c2 : Code := Code.sub [true, true, false, true, false, false] g34_c
noncomputable def g34_c3 : Code := Code.sub [true, true, true, true, true, true] g34_c
noncomputable def g34_K3 : AX → ASt → R := thenK (joinX g34_E 0 g34_c3 (exK g34_X g34_c3 g34_K0)) g34_K0
noncomputable def g34_K4 : AX → ASt → R := blkK 2 g34_K3
noncomputable def g34_c4 : Code := Code.sub [true, true, true, true, true, false, true, false, false] g34_c
noncomputable def g34_L4 (x1 : Int) (x1_a : Int) (x1_b : Int) (x1_c : List PV) (x1_d : List PV) (x4 : Int) : R := SS.LL g34_E 0 [1, 3, 4] 0 g34_c2 g34_K2 ⟨[(1, .cst (.agg [.int .i64 x1, .int .i64 x1_a, .int .i64 x1_b, .sl false 1 x1_c, .sl false 2 x1_d])), (3, .sl true 1 [.int .i64 x1, .int .i64 x1_a, .int .i64 x1_b]), (4, .int .i64 x4)], []⟩
noncomputable def g34_L13 (x1 : Int) (x1_a : Int) (x1_b : Int) (x1_c : List PV) (x1_d : List PV) (x5 : Int) : R := SS.LL g34_E 0 [1, 5] 0 g34_c4 g34_K4 ⟨[(1, .cst (.agg [.int .i64 x1, .int .i64 x1_a, .int .i64 x1_b, .sl false 1 x1_c, .sl false 2 x1_d])), (5, .int .i64 x5)], []⟩
theorem g34_L4_eq (x1 : Int) (x1_a : Int) (x1_b : Int) (x1_c : List PV) (x1_d : List PV) (x4 : Int) : g34_L4 x1 x1_a x1_b x1_c x1_d x4 =
    bsel (decide (x4 < 3)) (lgetX [.int .i64 x1, .int .i64 x1_a, .int .i64 x1_b] x4 fun e1 => vI .i64 e1 fun n2 => bsel (decide (n2 < 0)) (some (.int .i64 2, [])) (lgetX [.int .i64 x1, .int .i64 x1_a, .int .i64 x1_b] x4 fun e3 => vI .i64 e3 fun n4 => bsel (decide (256 < n4)) (some (.int .i64 2, [])) (g34_L4 x1 x1_a x1_b x1_c x1_d (IntKind.i64.wrap (x4 + 1))))) (bsel ((x1_c.length : Int) != x1_b) (some (.int .i64 4, [])) (bsel (decide (2048 < (x1_d.length : Int))) (some (.int .i64 3, [])) (g34_L13 x1 x1_a x1_b x1_c x1_d 0))) := (LL_eq SS_ok (by decide) (by kernel_rfl) (by kernel_rfl)).trans (by kernel_rfl)
theorem g34_L13_eq (x1 : Int) (x1_a : Int) (x1_b : Int) (x1_c : List PV) (x1_d : List PV) (x5 : Int) : g34_L13 x1 x1_a x1_b x1_c x1_d x5 =
    bsel (decide (x5 < (x1_d.length : Int))) (lgetX x1_d x5 fun e1 => v57 e1 fun n2 n3 => bsel (decide (n2 < 1)) (some (.int .i64 11, [])) (bsel (decide (13 < n2)) (some (.int .i64 11, [])) (clX SS.CC 23 [.int .i64 n2] fun r5 => vB r5 fun b4 => bsel b4 (bsel (decide (n3 ≤ x5)) (some (.int .i64 2, [])) (bsel (decide ((x1_d.length : Int) < n3)) (some (.int .i64 2, [])) (clX SS.CC 23 [.int .i64 n2] fun r7 => vB r7 fun b6 => bsel (!b6) (bsel (decide (n3 < 0)) (some (.int .i64 2, [])) (bsel (decide ((IntKind.i64.wrap ((IntKind.i64.wrap (x1 + x1_a)) + x1_b)) ≤ n3)) (some (.int .i64 2, [])) (clX SS.CC 32 [.int .i64 n2] fun r9 => vB r9 fun b8 => bsel b8 (bsel (decide (n3 < x1)) (some (.int .i64 19, [])) (g34_L13 x1 x1_a x1_b x1_c x1_d (IntKind.i64.wrap (x5 + 1)))) (g34_L13 x1 x1_a x1_b x1_c x1_d (IntKind.i64.wrap (x5 + 1)))))) (clX SS.CC 32 [.int .i64 n2] fun r11 => vB r11 fun b10 => bsel b10 (bsel (decide (n3 < x1)) (some (.int .i64 19, [])) (g34_L13 x1 x1_a x1_b x1_c x1_d (IntKind.i64.wrap (x5 + 1)))) (g34_L13 x1 x1_a x1_b x1_c x1_d (IntKind.i64.wrap (x5 + 1))))))) (clX SS.CC 23 [.int .i64 n2] fun r13 => vB r13 fun b12 => bsel (!b12) (bsel (decide (n3 < 0)) (some (.int .i64 2, [])) (bsel (decide ((IntKind.i64.wrap ((IntKind.i64.wrap (x1 + x1_a)) + x1_b)) ≤ n3)) (some (.int .i64 2, [])) (clX SS.CC 32 [.int .i64 n2] fun r15 => vB r15 fun b14 => bsel b14 (bsel (decide (n3 < x1)) (some (.int .i64 19, [])) (g34_L13 x1 x1_a x1_b x1_c x1_d (IntKind.i64.wrap (x5 + 1)))) (g34_L13 x1 x1_a x1_b x1_c x1_d (IntKind.i64.wrap (x5 + 1)))))) (clX SS.CC 32 [.int .i64 n2] fun r17 => vB r17 fun b16 => bsel b16 (bsel (decide (n3 < x1)) (some (.int .i64 19, [])) (g34_L13 x1 x1_a x1_b x1_c x1_d (IntKind.i64.wrap (x5 + 1)))) (g34_L13 x1 x1_a x1_b x1_c x1_d (IntKind.i64.wrap (x5 + 1)))))))) (some (.int .i64 0, [])) := (LL_eq SS_ok (by decide) (by kernel_rfl) (by kernel_rfl)).trans (by kernel_rfl)
theorem g34_eq (a0 : Int) (a0_1 : Int) (a0_2 : Int) (a0_3 : List PV) (a0_4 : List PV) : SS.CC 34 [.agg [.int .i64 a0, .int .i64 a0_1, .int .i64 a0_2, .sl false 1 a0_3, .sl false 2 a0_4]] [] =
    g34_L4 a0 a0_1 a0_2 a0_3 a0_4 0 := (CC_run SS_ok rfl).trans (by kernel_rfl)
/-! overseer/overseerlaw52.next -/
noncomputable def g47_c : Code := bodyOf Tryd.f47
noncomputable def g47_E : AE := SS.ae 47 37
noncomputable def g47_X : XE := SS.xe SS.CC SS.LL g47_E 0
theorem g47_eq (a0 : Int) (a0_1 : Int) (a0_2 : Int) (a0_3 : List PV) (a0_4 : List PV) (a1 : Int) : SS.CC 47 [.agg [.int .i64 a0, .int .i64 a0_1, .int .i64 a0_2, .sl false 1 a0_3, .sl false 2 a0_4], .int .i64 a1] [] =
    lgetX a0_4 a1 fun e1 => v57 e1 fun n2 n3 => bsel (n2 == 11) (some (.sl false 1 [.int .i64 n3], [])) (clX SS.CC 23 [.int .i64 n2] fun r5 => vB r5 fun b4 => bsel b4 (bsel (n3 != (IntKind.i64.wrap (a1 + 1))) (some (.sl false 1 [.int .i64 (IntKind.i64.wrap (a1 + 1)), .int .i64 n3], [])) (some (.sl false 1 [.int .i64 (IntKind.i64.wrap (a1 + 1))], []))) (some (.sl false 1 [.int .i64 (IntKind.i64.wrap (a1 + 1))], []))) := (CC_run SS_ok rfl).trans (by kernel_rfl)
/-! overseer/overseerlaw52.stores -/
noncomputable def g48_c : Code := bodyOf Tryd.f48
noncomputable def g48_E : AE := SS.ae 48 9
noncomputable def g48_X : XE := SS.xe SS.CC SS.LL g48_E 0
theorem g48_eq (a0 : Int) : SS.CC 48 [.int .i64 a0] [] =
    bsel (a0 == 7) (some (.bool true, [])) (some (.bool (a0 == 8), [])) := (CC_run SS_ok rfl).trans (by kernel_rfl)
/-! overseer/overseerlaw52.needed -/
noncomputable def g49_c : Code := bodyOf Tryd.f49
noncomputable def g49_E : AE := SS.ae 49 54
noncomputable def g49_X : XE := SS.xe SS.CC SS.LL g49_E 0
noncomputable def g49_K0 : AX → ASt → R := retK SS.P Tryd.f49.results.toList (SS.prm 49).ro 0 []
noncomputable def g49_c1 : Code := Code.sub [true, true, true, true] g49_c
noncomputable def g49_c2 : Code := Code.sub [true, true, true, true, true] g49_c
noncomputable def g49_c3 : Code := Code.sub [true, true, true, true, true, true, true] g49_c
noncomputable def g49_K1 : AX → ASt → R := thenK (joinX g49_E 0 g49_c3 (exK g49_X g49_c3 g49_K0)) g49_K0
noncomputable def g49_K2 : AX → ASt → R := blkK 0 g49_K1
noncomputable def g49_c4 : Code := Code.sub [true, true, true, true, true, true, false, true, false, false] g49_c
noncomputable def g49_J7 (x1 : Int) (x2 : Int) (x3 : Int) (x3_a : Int) (x3_b : Int) (x3_c : List PV) (x3_d : List PV) (o0_0 : Int) (o0_1 : Int) : R := exK g49_X g49_c1 g49_K0 ⟨[(1, .int .i64 x1), (2, .int .i64 x2), (3, .cst (.agg [.int .i64 x3, .int .i64 x3_a, .int .i64 x3_b, .sl false 1 x3_c, .sl false 2 x3_d])), (7, .ptr 0 0)], [some [.int .i64 o0_0, .int .i64 o0_1]]⟩
noncomputable def g49_J9 (x1 : Int) (x2 : Int) (x3 : Int) (x3_a : Int) (x3_b : Int) (x3_c : List PV) (x3_d : List PV) : R := exK g49_X g49_c2 g49_K0 ⟨[(1, .int .i64 x1), (2, .int .i64 x2), (3, .cst (.agg [.int .i64 x3, .int .i64 x3_a, .int .i64 x3_b, .sl false 1 x3_c, .sl false 2 x3_d]))], []⟩
noncomputable def g49_L11 (x2 : Int) (x3 : Int) (x3_a : Int) (x3_b : Int) (x3_c : List PV) (x3_d : List PV) (x8 : List PV) (x9 : Int) : R := SS.LL g49_E 0 [2, 3, 8, 9] 0 g49_c4 g49_K2 ⟨[(2, .int .i64 x2), (3, .cst (.agg [.int .i64 x3, .int .i64 x3_a, .int .i64 x3_b, .sl false 1 x3_c, .sl false 2 x3_d])), (8, .sl false 1 x8), (9, .int .i64 x9)], []⟩
theorem g49_J7_eq (x1 : Int) (x2 : Int) (x3 : Int) (x3_a : Int) (x3_b : Int) (x3_c : List PV) (x3_d : List PV) (o0_0 : Int) (o0_1 : Int) : g49_J7 x1 x2 x3 x3_a x3_b x3_c x3_d o0_0 o0_1 =
    clX SS.CC 48 [.int .i64 o0_0] fun r2 => vB r2 fun b1 => bsel b1 (bsel (o0_1 == x2) (some (.bool false, [])) (g49_J9 x1 x2 x3 x3_a x3_b x3_c x3_d)) (g49_J9 x1 x2 x3 x3_a x3_b x3_c x3_d) := by kernel_rfl
theorem g49_J9_eq (x1 : Int) (x2 : Int) (x3 : Int) (x3_a : Int) (x3_b : Int) (x3_c : List PV) (x3_d : List PV) : g49_J9 x1 x2 x3 x3_a x3_b x3_c x3_d =
    clX SS.CC 47 [.agg [.int .i64 x3, .int .i64 x3_a, .int .i64 x3_b, .sl false 1 x3_c, .sl false 2 x3_d], .int .i64 x1] fun r2 => vL false 1 r2 fun l1 => g49_L11 x2 x3 x3_a x3_b x3_c x3_d l1 0 := by kernel_rfl
theorem g49_L11_eq (x2 : Int) (x3 : Int) (x3_a : Int) (x3_b : Int) (x3_c : List PV) (x3_d : List PV) (x8 : List PV) (x9 : Int) : g49_L11 x2 x3 x3_a x3_b x3_c x3_d x8 x9 =
    bsel (decide (x9 < (x8.length : Int))) (lgetX x8 x9 fun e1 => vI .i64 e1 fun n2 => clX SS.CC 49 [.agg [.int .i64 x3, .int .i64 x3_a, .int .i64 x3_b, .sl false 1 x3_c, .sl false 2 x3_d], .int .i64 n2, .int .i64 x2] fun r4 => vB r4 fun b3 => bsel b3 (some (.bool true, [])) (g49_L11 x2 x3 x3_a x3_b x3_c x3_d x8 (IntKind.i64.wrap (x9 + 1)))) (some (.bool false, [])) := (LL_eq SS_ok (by decide) (by kernel_rfl) (by kernel_rfl)).trans (by kernel_rfl)
theorem g49_eq (a0 : Int) (a0_1 : Int) (a0_2 : Int) (a0_3 : List PV) (a0_4 : List PV) (a1 : Int) (a2 : Int) : SS.CC 49 [.agg [.int .i64 a0, .int .i64 a0_1, .int .i64 a0_2, .sl false 1 a0_3, .sl false 2 a0_4], .int .i64 a1, .int .i64 a2] [] =
    bsel (a1 == (a0_4.length : Int)) (some (.bool true, [])) (lgetX a0_4 a1 fun e1 => v57 e1 fun n2 n3 => clX SS.CC 31 [.int .i64 n2] fun r5 => vB r5 fun b4 => bsel b4 (bsel (n3 == a2) (some (.bool true, [])) (g49_J7 a1 a2 a0 a0_1 a0_2 a0_3 a0_4 n2 n3)) (g49_J7 a1 a2 a0 a0_1 a0_2 a0_3 a0_4 n2 n3)) := (CC_run SS_ok rfl).trans (by kernel_rfl)
/-! slices.Compact[[]int,int] -/
noncomputable def g60_1i_c : Code := bodyOf Tryd.f60
noncomputable def g60_1i_E : AE := SS.ae 60 61
noncomputable def g60_1i_X : XE := SS.xe SS.CC SS.LL g60_1i_E 1
noncomputable def g60_1i_K0 : AX → ASt → R := retK SS.P Tryd.f60.results.toList (SS.prm 60).ro 1 [0]
noncomputable def g60_1i_c1 : Code := Code.sub [true, true, true] g60_1i_c
noncomputable def g60_1i_K1 : AX → ASt → R := thenK (joinX g60_1i_E 1 g60_1i_c1 (exK g60_1i_X g60_1i_c1 g60_1i_K0)) g60_1i_K0
noncomputable def g60_1i_K2 : AX → ASt → R := blkK 0 g60_1i_K1
noncomputable def g60_1i_c2 : Code := Code.sub [true, true, false, true, false, false] g60_1i_c
noncomputable def g60_1i_K3 : AX → ASt → R := thenK (fun σ => SS.LL g60_1i_E 1 [0, 3] 1 g60_1i_c2 g60_1i_K2 (σ.gc [0, 3] 1)) g60_1i_K2
noncomputable def g60_1i_c3 : Code := Code.sub [true, true, false, true, false, false, true, true] g60_1i_c
noncomputable def g60_1i_K4 : AX → ASt → R := thenK (joinX g60_1i_E 1 g60_1i_c3 (exK g60_1i_X g60_1i_c3 g60_1i_K3)) g60_1i_K3
noncomputable def g60_1i_K5 : AX → ASt → R := blkK 1 g60_1i_K4
noncomputable def g60_1i_c4 : Code := Code.sub [true, true, false, true, false, false, true, false, false, true, false, true, true] g60_1i_c
noncomputable def g60_1i_K6 : AX → ASt → R := thenK (joinX g60_1i_E 1 g60_1i_c4 (exK g60_1i_X g60_1i_c4 g60_1i_K5)) g60_1i_K5
noncomputable def g60_1i_K7 : AX → ASt → R := blkK 2 g60_1i_K6
noncomputable def g60_1i_c5 : Code := Code.sub [true, true, false, true, false, false, true, false, false, true, false, true, false, true, false, false] g60_1i_c
noncomputable def g60_1i_L5 (x0 : Nat) (o0 : List PV) (x3 : Int) : R := SS.LL g60_1i_E 1 [0, 3] 1 g60_1i_c2 g60_1i_K2 ⟨[(0, .slh 0 0 x0 1), (3, .int .i64 x3)], [some o0]⟩
noncomputable def g60_1i_L10 (x0 : Nat) (o0 : List PV) (x3 : Int) (x5 : Int) (x4 : Nat) (x4_a : Nat) : R := SS.LL g60_1i_E 1 [0, 3, 4, 5] 1 g60_1i_c5 g60_1i_K7 ⟨[(0, .slh 0 0 x0 1), (3, .int .i64 x3), (4, .slh 0 x4 x4_a 1), (5, .int .i64 x5)], [some o0]⟩
noncomputable def g60_1i_L10b (x0 : Nat) (o0 : List PV) (x3 : Int) : R := SS.LL g60_1i_E 1 [0, 3, 4, 5] 1 g60_1i_c5 g60_1i_K7 ⟨[(0, .slh 0 0 x0 1), (3, .int .i64 x3), (4, .sl false 1 []), (5, .int .i64 1)], [some o0]⟩
noncomputable def g60_1i_J15 (x0 : Nat) (o0 : List PV) (x3 : Int) : R := exK g60_1i_X g60_1i_c4 g60_1i_K5 ⟨[(0, .slh 0 0 x0 1), (3, .int .i64 x3)], [some o0]⟩
theorem g60_1i_L5_eq (x0 : Nat) (o0 : List PV) (x3 : Int) : g60_1i_L5 x0 o0 x3 =
    chk (o0.all flC && true) (bsel (decide (x3 < (x0 : Int))) (chk (o0.all flC && true) (chk (decide (0 ≤ x3) && decide (x3 < (x0 : Int))) (ngetX o0 x3.toNat fun e1 => vI .i64 e1 fun n2 => chk (decide (0 ≤ (IntKind.i64.wrap (x3 - 1))) && decide ((IntKind.i64.wrap (x3 - 1)) < (x0 : Int))) (ngetX o0 ((IntKind.i64.wrap (x3 - 1)).toNat) fun e3 => vI .i64 e3 fun n4 => bsel (n2 == n4) (chk (decide (0 ≤ x3) && decide (x3 ≤ (x0 : Int))) (bsel (decide (x3 < (x0 : Int))) (g60_1i_L10 x0 o0 x3 1 (0 + x3.toNat * 1) (x0 - x3.toNat)) (g60_1i_L10b x0 o0 x3))) (chk (o0.all flC && true) (g60_1i_L5 x0 o0 (IntKind.i64.wrap (x3 + 1)))))))) (chk (o0.all flC && true) (chk (o0.all flC && true) (some (.slh 0 0 x0 1, [some o0]))))) := (LL_eq SS_ok (by decide) (by kernel_rfl) (by kernel_rfl)).trans (by kernel_rfl)
theorem g60_1i_L10_eq (x0 : Nat) (o0 : List PV) (x3 : Int) (x5 : Int) (x4 : Nat) (x4_a : Nat) : g60_1i_L10 x0 o0 x3 x5 x4 x4_a =
    chk (o0.all flC && true) (bsel (decide (x5 < (x4_a : Int))) (chk (o0.all flC && true) (chk (decide (0 ≤ x5) && decide (x5 < (x4_a : Int))) (ngetX o0 (x4 + x5.toNat * 1) fun e1 => vI .i64 e1 fun n2 => chk (decide (0 ≤ (IntKind.i64.wrap (x5 - 1))) && decide ((IntKind.i64.wrap (x5 - 1)) < (x4_a : Int))) (ngetX o0 (x4 + (IntKind.i64.wrap (x5 - 1)).toNat * 1) fun e3 => vI .i64 e3 fun n4 => bsel (n2 != n4) (chk (decide (0 ≤ x5) && decide (x5 < (x4_a : Int))) (ngetX o0 (x4 + x5.toNat * 1) fun e5 => vI .i64 e5 fun n6 => chk (decide (0 ≤ x3) && decide (x3 < (x0 : Int))) (chk (decide (x3.toNat < o0.length)) (chk ((o0.set x3.toNat (.int .i64 n6)).all flC && true) (g60_1i_L10 x0 (o0.set x3.toNat (.int .i64 n6)) (IntKind.i64.wrap (x3 + 1)) (IntKind.i64.wrap (x5 + 1)) x4 x4_a))))) (chk (o0.all flC && true) (g60_1i_L10 x0 o0 x3 (IntKind.i64.wrap (x5 + 1)) x4 x4_a)))))) (chk (o0.all flC && true) (g60_1i_J15 x0 o0 x3))) := (LL_eq SS_ok (by decide) (by kernel_rfl) (by kernel_rfl)).trans (by kernel_rfl)
theorem g60_1i_L10b_eq (x0 : Nat) (o0 : List PV) (x3 : Int) : g60_1i_L10b x0 o0 x3 =
    chk (o0.all flC && true) (chk (o0.all flC && true) (g60_1i_J15 x0 o0 x3)) := (LL_eq SS_ok (by decide) (by kernel_rfl) (by kernel_rfl)).trans (by kernel_rfl)
theorem g60_1i_J15_eq (x0 : Nat) (o0 : List PV) (x3 : Int) : g60_1i_J15 x0 o0 x3 =
    chk (decide (0 ≤ x3) && decide (x3 ≤ (x0 : Int))) (bsel (decide (x3 < (x0 : Int))) (chk (decide ((0 + x3.toNat * 1) + (x0 - x3.toNat) * 1 ≤ o0.length)) (chk (decide (0 ≤ x3) && decide (x3 ≤ (x0 : Int)) && decide (0 < x0)) (chk ((o0.take (0 + x3.toNat * 1) ++ ((List.replicate (x0 - x3.toNat) (.int .i64 0 : PV)).map PV.un) ++ o0.drop ((0 + x3.toNat * 1) + (x0 - x3.toNat) * 1)).all flC && true) (some (.slh 0 0 x3.toNat 1, [some (o0.take (0 + x3.toNat * 1) ++ ((List.replicate (x0 - x3.toNat) (.int .i64 0 : PV)).map PV.un) ++ o0.drop ((0 + x3.toNat * 1) + (x0 - x3.toNat) * 1))]))))) (chk (decide (0 ≤ x3) && decide (x3 ≤ (x0 : Int)) && decide (0 < x0)) (chk (o0.all flC && true) (some (.slh 0 0 x3.toNat 1, [some o0]))))) := by kernel_rfl
theorem g60_1i_eq (a0 : Nat) (h0 : List PV) : SS.CC 60 [.slh 0 0 a0 1] [some h0] =
    bsel (decide ((a0 : Int) < 2)) (chk (h0.all flC && true) (some (.slh 0 0 a0 1, [some h0]))) (chk (h0.all flC && true) (g60_1i_L5 a0 h0 1)) := (CC_run SS_ok rfl).trans (by kernel_rfl)
end Go.Proofs.YtiejgieiokmmfaaDoor

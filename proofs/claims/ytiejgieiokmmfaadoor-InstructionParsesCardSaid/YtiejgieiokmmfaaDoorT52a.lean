/-
  Functions as equations. Printed by a program (wip/tool/dc.py).
-/
import Derived.Test.YtiejgieiokmmfaaDoorB52
namespace Go.Proofs.YtiejgieiokmmfaaDoor
set_option linter.unusedVariables false
set_option linter.unusedSimpArgs false
set_option linter.unnecessarySimpa false
set_option linter.unusedSectionVars false
open Go.RowKit
set_option maxRecDepth 1000000
/-! overseer/overseerlaw52.Make -/
noncomputable def g11_c : Code := bodyOf Tryd.f11
noncomputable def g11_E : AE := SS.ae 11 88
noncomputable def g11_X : XE := SS.xe SS.CC SS.LL g11_E 0
noncomputable def g11_K0 : AX → ASt → R := retK SS.P Tryd.f11.results.toList (SS.prm 11).ro 0 []
noncomputable def g11_c1 : Code := Code.sub [true, true, true, true] g11_c
noncomputable def g11_K1 : AX → ASt → R := thenK (joinX g11_E 0 g11_c1 (exK g11_X g11_c1 g11_K0)) g11_K0
noncomputable def g11_K2 : AX → ASt → R := blkK 0 g11_K1
noncomputable def g11_c2 : Code := Code.sub [true, true, true, false, true, false, false] g11_c
noncomputable def g11_K3 : AX → ASt → R := thenK (fun σ => SS.LL g11_E 0 [1, 2, 3, 4, 5] 2 g11_c2 g11_K2 (σ.gc [1, 2, 3, 4, 5] 2)) g11_K2
noncomputable def g11_c3 : Code := Code.sub [true, true, true, false, true, false, false, true, true] g11_c
noncomputable def g11_K4 : AX → ASt → R := thenK (joinX g11_E 0 g11_c3 (exK g11_X g11_c3 g11_K3)) g11_K3
noncomputable def g11_K5 : AX → ASt → R := blkK 1 g11_K4
noncomputable def g11_c4 : Code := Code.sub [true, true, true, false, true, false, false, true, false, false, true, true] g11_c
noncomputable def g11_L5 (x1 : Int) (x1_a : List PV) (x5 : Int) (o1_4 : List PV) : R := SS.LL g11_E 0 [1, 2, 3, 4, 5] 2 g11_c2 g11_K2 ⟨[(1, .cst (.agg [.int .u8 x1, .sl false 2 x1_a])), (2, .ptr 0 0), (3, .ptr 1 0), (4, .int .i64 (if (12 : Int) < (x1_a.length : Int) then (12 : Int) else (x1_a.length : Int))), (5, .int .i64 x5)], [some [.int .i64 0, .int .i64 0, .int .i64 0, .sl true 1 [], .sl true 2 []], some [.int .i64 3, .int .i64 2, .int .i64 3, .sl false 1 [.bool ((IntKind.u8.wrap (BitVec.ofInt 8 x1 &&& BitVec.ofInt 8 1).toNat) == 1), .bool ((IntKind.u8.wrap (BitVec.ofInt 8 x1 &&& BitVec.ofInt 8 2).toNat) == 2), .bool ((IntKind.u8.wrap (BitVec.ofInt 8 x1 &&& BitVec.ofInt 8 4).toNat) == 4)], .sl true 2 o1_4]]⟩
noncomputable def g11_J12 (x1 : Int) (x1_a : List PV) (o2_0 : Int) (o2_1 : Int) (x5 : Int) (o1_4 : List PV) : R := exK g11_X g11_c4 g11_K5 ⟨[(1, .cst (.agg [.int .u8 x1, .sl false 2 x1_a])), (2, .ptr 0 0), (3, .ptr 1 0), (4, .int .i64 (if (12 : Int) < (x1_a.length : Int) then (12 : Int) else (x1_a.length : Int))), (5, .int .i64 x5), (6, .ptr 2 0)], [some [.int .i64 0, .int .i64 0, .int .i64 0, .sl true 1 [], .sl true 2 []], some [.int .i64 3, .int .i64 2, .int .i64 3, .sl false 1 [.bool ((IntKind.u8.wrap (BitVec.ofInt 8 x1 &&& BitVec.ofInt 8 1).toNat) == 1), .bool ((IntKind.u8.wrap (BitVec.ofInt 8 x1 &&& BitVec.ofInt 8 2).toNat) == 2), .bool ((IntKind.u8.wrap (BitVec.ofInt 8 x1 &&& BitVec.ofInt 8 4).toNat) == 4)], .sl true 2 o1_4], some [.int .i64 o2_0, .int .i64 o2_1]]⟩
theorem g11_L5_eq (x1 : Int) (x1_a : List PV) (x5 : Int) (o1_4 : List PV) : g11_L5 x1 x1_a x5 o1_4 =
    bsel (decide (x5 < (if (12 : Int) < (x1_a.length : Int) then (12 : Int) else (x1_a.length : Int)))) (lgetX x1_a x5 fun e1 => v75 e1 fun n2 n3 => lgetX x1_a x5 fun e4 => v75 e4 fun n5 n6 => clX SS.CC 23 [.int .i64 (IntKind.i64.wrap (1 + (IntKind.i64.wrap (Int.tmod n2 13))))] fun r8 => vB r8 fun b7 => bsel b7 (lgetX x1_a x5 fun e9 => v75 e9 fun n10 n11 => chk (!((IntKind.i64.wrap ((if (12 : Int) < (x1_a.length : Int) then (12 : Int) else (x1_a.length : Int)) - x5)) == 0)) (g11_J12 x1 x1_a (IntKind.i64.wrap (1 + (IntKind.i64.wrap (Int.tmod n2 13)))) (IntKind.i64.wrap ((IntKind.i64.wrap (x5 + 1)) + (Int.tmod (IntKind.i64.wrap n11) (IntKind.i64.wrap ((if (12 : Int) < (x1_a.length : Int) then (12 : Int) else (x1_a.length : Int)) - x5))))) x5 o1_4)) (clX SS.CC 32 [.int .i64 (IntKind.i64.wrap (1 + (IntKind.i64.wrap (Int.tmod n2 13))))] fun r13 => vB r13 fun b12 => bsel b12 (lgetX x1_a x5 fun e14 => v75 e14 fun n15 n16 => g11_J12 x1 x1_a (IntKind.i64.wrap (1 + (IntKind.i64.wrap (Int.tmod n2 13)))) (IntKind.i64.wrap (3 + (IntKind.i64.wrap (Int.tmod n16 5)))) x5 o1_4) (g11_J12 x1 x1_a (IntKind.i64.wrap (1 + (IntKind.i64.wrap (Int.tmod n2 13)))) (IntKind.i64.wrap (Int.tmod n6 8)) x5 o1_4))) (some (.agg [.int .i64 3, .int .i64 2, .int .i64 3, .sl false 1 [.bool ((IntKind.u8.wrap (BitVec.ofInt 8 x1 &&& BitVec.ofInt 8 1).toNat) == 1), .bool ((IntKind.u8.wrap (BitVec.ofInt 8 x1 &&& BitVec.ofInt 8 2).toNat) == 2), .bool ((IntKind.u8.wrap (BitVec.ofInt 8 x1 &&& BitVec.ofInt 8 4).toNat) == 4)], .sl false 2 o1_4], [])) := (LL_eq SS_ok (by decide) (by kernel_rfl) (by kernel_rfl)).trans (by kernel_rfl)
theorem g11_J12_eq (x1 : Int) (x1_a : List PV) (o2_0 : Int) (o2_1 : Int) (x5 : Int) (o1_4 : List PV) : g11_J12 x1 x1_a o2_0 o2_1 x5 o1_4 =
    chk (decide (o1_4.length + 1 ≤ LIM)) (g11_L5 x1 x1_a (IntKind.i64.wrap (x5 + 1)) (o1_4 ++ [.agg [.int .i64 o2_0, .int .i64 o2_1]])) := by kernel_rfl
theorem g11_eq (a0 : Int) (a0_1 : List PV) : SS.CC 11 [.agg [.int .u8 a0, .sl false 2 a0_1]] [] =
    g11_L5 a0 a0_1 0 [] := (CC_run SS_ok rfl).trans (by kernel_rfl)
/-! overseer/instruction.Start -/
noncomputable def g12_c : Code := bodyOf Tryd.f12
noncomputable def g12_E : AE := SS.ae 12 19
noncomputable def g12_X : XE := SS.xe SS.CC SS.LL g12_E 0
theorem g12_eq (a0 : Int) (a0_1 : Int) (a0_2 : Int) (a0_3 : List PV) (a0_4 : List PV) : SS.CC 12 [.agg [.int .i64 a0, .int .i64 a0_1, .int .i64 a0_2, .sl false 1 a0_3, .sl false 2 a0_4]] [] =
    clX SS.CC 25 [.agg [.int .i64 a0, .int .i64 a0_1, .int .i64 a0_2, .sl false 1 a0_3, .sl false 2 a0_4]] fun r2 => vI .i64 r2 fun n1 => bsel (n1 != 0) (some (.tuple [.agg [.sl false 1 [], .sl false 1 []], .int .i64 n1], [])) (chk (decide (a0_1 = a0_1) && decide (0 ≤ a0_1) && decide (a0_1 ≤ 1073741824)) (chk (decide (0 + a0_3.length ≤ LIM)) (some (.tuple [.agg [.sl false 1 (List.replicate a0_1.toNat (.bool false : PV)), .sl false 1 a0_3], .int .i64 0], [])))) := (CC_run SS_ok rfl).trans (by kernel_rfl)
/-! overseer/overseerlaw52.sameState -/
noncomputable def g13_c : Code := bodyOf Tryd.f13
noncomputable def g13_E : AE := SS.ae 13 17
noncomputable def g13_X : XE := SS.xe SS.CC SS.LL g13_E 0
theorem g13_eq (a0 : List PV) (a0_1 : List PV) (a1 : List PV) (a1_1 : List PV) : SS.CC 13 [.agg [.sl false 1 a0, .sl false 1 a0_1], .agg [.sl false 1 a1, .sl false 1 a1_1]] [] =
    clX SS.CC 38 [.sl false 1 a0, .sl false 1 a1] fun r2 => vB r2 fun b1 => bsel b1 (clX SS.CC 38 [.sl false 1 a0_1, .sl false 1 a1_1] fun r4 => vB r4 fun b3 => some (.bool b3, [])) (some (.bool false, [])) := (CC_run SS_ok rfl).trans (by kernel_rfl)
/-! overseer/overseerlaw52.bits -/
noncomputable def g14_c : Code := bodyOf Tryd.f14
noncomputable def g14_E : AE := SS.ae 14 21
noncomputable def g14_X : XE := SS.xe SS.CC SS.LL g14_E 0
noncomputable def g14_K0 : AX → ASt → R := retK SS.P Tryd.f14.results.toList (SS.prm 14).ro 0 []
noncomputable def g14_c1 : Code := Code.sub [true, true, true] g14_c
noncomputable def g14_K1 : AX → ASt → R := thenK (joinX g14_E 0 g14_c1 (exK g14_X g14_c1 g14_K0)) g14_K0
noncomputable def g14_K2 : AX → ASt → R := blkK 0 g14_K1
noncomputable def g14_c2 : Code := Code.sub [true, true, false, true, false, false] g14_c
noncomputable def g14_L4 (x0 : Int) (x1 : Int) (x5 : List PV) (x6 : Int) : R := SS.LL g14_E 0 [0, 1, 5, 6] 0 g14_c2 g14_K2 ⟨[(0, .int .i64 x0), (1, .int .i64 x1), (5, .sl true 1 x5), (6, .int .i64 x6)], []⟩
theorem g14_L4_eq (x0 : Int) (x1 : Int) (x5 : List PV) (x6 : Int) : g14_L4 x0 x1 x5 x6 =
    bsel (decide (x6 < x1)) (chk (decide (0 ≤ x6)) (chk (decide (x5.length + 1 ≤ LIM)) (g14_L4 x0 x1 (x5 ++ [.bool ((IntKind.i64.wrap (BitVec.ofInt 64 (Int.fdiv x0 (2 ^ min x6.toNat 64)) &&& BitVec.ofInt 64 1).toNat) == 1)]) (IntKind.i64.wrap (x6 + 1))))) (some (.sl false 1 x5, [])) := (LL_eq SS_ok (by decide) (by kernel_rfl) (by kernel_rfl)).trans (by kernel_rfl)
theorem g14_eq (a0 : Int) (a1 : Int) : SS.CC 14 [.int .i64 a0, .int .i64 a1] [] =
    g14_L4 a0 a1 [] 0 := (CC_run SS_ok rfl).trans (by kernel_rfl)
/-! overseer/instruction.Run -/
noncomputable def g15_c : Code := bodyOf Tryd.f15
noncomputable def g15_E : AE := SS.ae 15 50
noncomputable def g15_X : XE := SS.xe SS.CC SS.LL g15_E 0
noncomputable def g15_K0 : AX → ASt → R := retK SS.P Tryd.f15.results.toList (SS.prm 15).ro 0 []
noncomputable def g15_c1 : Code := Code.sub [true, true, true, true, true] g15_c
noncomputable def g15_K1 : AX → ASt → R := thenK (joinX g15_E 0 g15_c1 (exK g15_X g15_c1 g15_K0)) g15_K0
noncomputable def g15_K2 : AX → ASt → R := blkK 0 g15_K1
noncomputable def g15_c2 : Code := Code.sub [true, true, true, true, false, true, false, false] g15_c
noncomputable def g15_L7 (x2 : Int) (x2_a : Int) (x2_b : Int) (x2_c : List PV) (x2_d : List PV) (x20 : List PV) (o0_0 : List PV) (o0_1 : List PV) (x8 : List PV) (x22 : Int) : R := SS.LL g15_E 0 [2, 6, 8, 20, 21, 22] 1 g15_c2 g15_K2 ⟨[(2, .cst (.agg [.int .i64 x2, .int .i64 x2_a, .int .i64 x2_b, .sl false 1 x2_c, .sl false 2 x2_d])), (6, .ptr 0 0), (8, .sl true 2 x8), (20, .sl false 1 x20), (21, .int .i64 (x20.length : Int)), (22, .int .i64 x22)], [some [.sl false 1 o0_0, .sl false 1 o0_1]]⟩
theorem g15_L7_eq (x2 : Int) (x2_a : Int) (x2_b : Int) (x2_c : List PV) (x2_d : List PV) (x20 : List PV) (o0_0 : List PV) (o0_1 : List PV) (x8 : List PV) (x22 : Int) : g15_L7 x2 x2_a x2_b x2_c x2_d x20 o0_0 o0_1 x8 x22 =
    bsel (decide (x22 < (x20.length : Int))) (lgetX x20 x22 fun e1 => vL false 1 e1 fun l2 => bsel ((l2.length : Int) != x2) (some (.tuple [.sl false 2 [], .int .i64 4], [])) (clX SS.CC 39 [.sl false 1 [.sl false 1 l2, .sl false 1 o0_0, .sl false 1 o0_1]] fun r4 => vL true 1 r4 fun l3 => chk (decide (0 < l3.length) && l3.all plainC) (chk (l3.all plainC && true) (clH SS.CC 40 [.agg [.int .i64 x2, .int .i64 x2_a, .int .i64 x2_b, .sl false 1 x2_c, .sl false 2 x2_d], .slh 0 0 l3.length 1] [some l3] fun r7 h8 => h40_0 r7 h8 fun l5 l6 => chk (l6.all plainC && true) (chk (decide (l3.length * 1 ≤ l6.length) && decide (0 < 1) && l6.all fun p => p.one && p.flat) (clX SS.CC 41 [.agg [.int .i64 x2, .int .i64 x2_a, .int .i64 x2_b, .sl false 1 x2_c, .sl false 2 x2_d], .sl false 1 (chunkP 1 l6 l3.length)] fun r11 => v32 r11 fun l9 l10 => chk (decide (x8.length + 1 ≤ LIM)) (g15_L7 x2 x2_a x2_b x2_c x2_d x20 l9 l10 (x8 ++ [.agg [.sl false 1 l9, .sl false 1 l10]]) (IntKind.i64.wrap (x22 + 1))))))))) (some (.tuple [.sl false 2 x8, .int .i64 0], [])) := (LL_eq SS_ok (by decide) (by kernel_rfl) (by kernel_rfl)).trans (by kernel_rfl)
theorem g15_eq (a0 : Int) (a0_1 : Int) (a0_2 : Int) (a0_3 : List PV) (a0_4 : List PV) (a1 : List PV) : SS.CC 15 [.agg [.int .i64 a0, .int .i64 a0_1, .int .i64 a0_2, .sl false 1 a0_3, .sl false 2 a0_4], .sl false 1 a1] [] =
    clX SS.CC 12 [.agg [.int .i64 a0, .int .i64 a0_1, .int .i64 a0_2, .sl false 1 a0_3, .sl false 2 a0_4]] fun r4 => w_32_3 r4 fun l1 l2 n3 => bsel (n3 != 0) (some (.tuple [.sl false 2 [], .int .i64 n3], [])) (g15_L7 a0 a0_1 a0_2 a0_3 a0_4 a1 l1 l2 [] 0) := (CC_run SS_ok rfl).trans (by kernel_rfl)
/-! overseer/overseerlaw52.scan -/
noncomputable def g16_c : Code := bodyOf Tryd.f16
noncomputable def g16_E : AE := SS.ae 16 40
noncomputable def g16_X : XE := SS.xe SS.CC SS.LL g16_E 0
theorem g16_eq (a0 : Int) (a0_1 : Int) (a0_2 : Int) (a0_3 : List PV) (a0_4 : List PV) (a1 : List PV) (a1_1 : List PV) (a2 : List PV) : SS.CC 16 [.agg [.int .i64 a0, .int .i64 a0_1, .int .i64 a0_2, .sl false 1 a0_3, .sl false 2 a0_4], .agg [.sl false 1 a1, .sl false 1 a1_1], .sl false 1 a2] [] =
    chk (decide ((0 + a2.length) ≤ LIM) && (flatPV a2).all PV.lit) (chk (decide (((0 + a2.length) + a1.length) ≤ LIM) && (flatPV a1).all PV.lit) (chk (decide ((((0 + a2.length) + a1.length) + a1_1.length) ≤ LIM) && (flatPV a1_1).all PV.lit) (chk (Nat.ble 1 (((0 + a2.length) + a1.length) + a1_1.length)) (chk ((((flatPV a2) ++ (flatPV a1)) ++ (flatPV a1_1)).all plainC && true) (clH SS.CC 42 [.agg [.int .i64 a0, .int .i64 a0_1, .int .i64 a0_2, .sl false 1 a0_3, .sl false 2 a0_4], .slh 0 0 (((0 + a2.length) + a1.length) + a1_1.length) 1] [some (((flatPV a2) ++ (flatPV a1)) ++ (flatPV a1_1))] fun r3 h4 => h42_0 r3 h4 fun l1 l2 => chk (l2.all plainC && true) (chk (decide ((((0 + a2.length) + a1.length) + a1_1.length) * 1 ≤ l2.length) && decide (0 < 1) && l2.all fun p => p.one && p.flat) (chk (decide (0 ≤ a0) && decide (a0 ≤ (IntKind.i64.wrap (a0 + a0_1))) && decide ((IntKind.i64.wrap (a0 + a0_1)) ≤ ((chunkP 1 l2 (((0 + a2.length) + a1.length) + a1_1.length)).length : Int))) (chk (decide (0 ≤ (IntKind.i64.wrap (a0 + a0_1))) && decide ((IntKind.i64.wrap (a0 + a0_1)) ≤ ((chunkP 1 l2 (((0 + a2.length) + a1.length) + a1_1.length)).length : Int))) (some (.tuple [.agg [.sl false 1 (((chunkP 1 l2 (((0 + a2.length) + a1.length) + a1_1.length)).take (IntKind.i64.wrap (a0 + a0_1)).toNat).drop a0.toNat), .sl false 1 ((chunkP 1 l2 (((0 + a2.length) + a1.length) + a1_1.length)).drop (IntKind.i64.wrap (a0 + a0_1)).toNat)], .sl false 1 l1], [])))))))))) := (CC_run SS_ok rfl).trans (by kernel_rfl)
/-! overseer/instruction.Scan -/
noncomputable def g17_c : Code := bodyOf Tryd.f17
noncomputable def g17_E : AE := SS.ae 17 27
noncomputable def g17_X : XE := SS.xe SS.CC SS.LL g17_E 0
theorem g17_eq (a0 : Int) (a0_1 : Int) (a0_2 : Int) (a0_3 : List PV) (a0_4 : List PV) (a1 : List PV) (a1_1 : List PV) (a2 : List PV) : SS.CC 17 [.agg [.int .i64 a0, .int .i64 a0_1, .int .i64 a0_2, .sl false 1 a0_3, .sl false 2 a0_4], .agg [.sl false 1 a1, .sl false 1 a1_1], .sl false 1 a2] [] =
    clH SS.CC 43 [.agg [.int .i64 a0, .int .i64 a0_1, .int .i64 a0_2, .sl false 1 a0_3, .sl false 2 a0_4], .agg [.sl false 1 a1, .sl false 1 a1_1], .sl false 1 a2] [] fun r1 h2 => h43_0 r1 h2 (fun k3 n4 l5 => chk (l5.all plainC && true) (bsel (n4 != 0) (some (.tuple [.agg [.sl false 1 [], .sl false 1 []], .int .i64 n4], [])) (chk (l5.all flC && true) (chk (l5.all plainC && true) (clH SS.CC 40 [.agg [.int .i64 a0, .int .i64 a0_1, .int .i64 a0_2, .sl false 1 a0_3, .sl false 2 a0_4], .slh 0 0 k3 1] [some l5] fun r8 h9 => h40_0 r8 h9 fun l6 l7 => chk (l7.all plainC && true) (chk (decide (k3 * 1 ≤ l7.length) && decide (0 < 1) && l7.all fun p => p.one && p.flat) (clX SS.CC 41 [.agg [.int .i64 a0, .int .i64 a0_1, .int .i64 a0_2, .sl false 1 a0_3, .sl false 2 a0_4], .sl false 1 (chunkP 1 l7 k3)] fun r12 => v32 r12 fun l10 l11 => some (.tuple [.agg [.sl false 1 l10, .sl false 1 l11], .int .i64 0], [])))))))) (fun l13 n14 => bsel (n14 != 0) (some (.tuple [.agg [.sl false 1 [], .sl false 1 []], .int .i64 n14], [])) (clX SS.CC 40 [.agg [.int .i64 a0, .int .i64 a0_1, .int .i64 a0_2, .sl false 1 a0_3, .sl false 2 a0_4], .sl false 1 l13] fun r16 => vL false 1 r16 fun l15 => clX SS.CC 41 [.agg [.int .i64 a0, .int .i64 a0_1, .int .i64 a0_2, .sl false 1 a0_3, .sl false 2 a0_4], .sl false 1 l13] fun r19 => v32 r19 fun l17 l18 => some (.tuple [.agg [.sl false 1 l17, .sl false 1 l18], .int .i64 0], []))) := (CC_run SS_ok rfl).trans (by kernel_rfl)
/-! overseer/instruction.Steps -/
noncomputable def g18_c : Code := bodyOf Tryd.f18
noncomputable def g18_E : AE := SS.ae 18 23
noncomputable def g18_X : XE := SS.xe SS.CC SS.LL g18_E 0
theorem g18_eq (a0 : Int) (a0_1 : Int) (a0_2 : Int) (a0_3 : List PV) (a0_4 : List PV) (a1 : List PV) (a1_1 : List PV) (a2 : List PV) : SS.CC 18 [.agg [.int .i64 a0, .int .i64 a0_1, .int .i64 a0_2, .sl false 1 a0_3, .sl false 2 a0_4], .agg [.sl false 1 a1, .sl false 1 a1_1], .sl false 1 a2] [] =
    clH SS.CC 43 [.agg [.int .i64 a0, .int .i64 a0_1, .int .i64 a0_2, .sl false 1 a0_3, .sl false 2 a0_4], .agg [.sl false 1 a1, .sl false 1 a1_1], .sl false 1 a2] [] fun r1 h2 => h43_0 r1 h2 (fun k3 n4 l5 => chk (l5.all plainC && true) (bsel (n4 != 0) (some (.tuple [.sl false 1 [], .int .i64 n4], [])) (chk (l5.all flC && true) (chk (l5.all plainC && true) (clH SS.CC 40 [.agg [.int .i64 a0, .int .i64 a0_1, .int .i64 a0_2, .sl false 1 a0_3, .sl false 2 a0_4], .slh 0 0 k3 1] [some l5] fun r8 h9 => h40_0 r8 h9 fun l6 l7 => chk (l7.all plainC && true) (some (.tuple [.sl false 1 l6, .int .i64 0], []))))))) (fun l10 n11 => bsel (n11 != 0) (some (.tuple [.sl false 1 [], .int .i64 n11], [])) (clX SS.CC 40 [.agg [.int .i64 a0, .int .i64 a0_1, .int .i64 a0_2, .sl false 1 a0_3, .sl false 2 a0_4], .sl false 1 l10] fun r13 => vL false 1 r13 fun l12 => some (.tuple [.sl false 1 l12, .int .i64 0], []))) := (CC_run SS_ok rfl).trans (by kernel_rfl)
/-! overseer/overseerlaw52.same -/
noncomputable def g19_c : Code := bodyOf Tryd.f19
noncomputable def g19_E : AE := SS.ae 19 26
noncomputable def g19_X : XE := SS.xe SS.CC SS.LL g19_E 0
noncomputable def g19_K0 : AX → ASt → R := retK SS.P Tryd.f19.results.toList (SS.prm 19).ro 0 []
noncomputable def g19_c1 : Code := Code.sub [true, true, true] g19_c
noncomputable def g19_K1 : AX → ASt → R := thenK (joinX g19_E 0 g19_c1 (exK g19_X g19_c1 g19_K0)) g19_K0
noncomputable def g19_K2 : AX → ASt → R := blkK 0 g19_K1
noncomputable def g19_c2 : Code := Code.sub [true, true, false, true, false, false] g19_c
noncomputable def g19_L5 (x0 : List PV) (x1 : List PV) (x5 : Int) : R := SS.LL g19_E 0 [0, 1, 5] 0 g19_c2 g19_K2 ⟨[(0, .sl false 1 x0), (1, .sl false 1 x1), (5, .int .i64 x5)], []⟩
theorem g19_L5_eq (x0 : List PV) (x1 : List PV) (x5 : Int) : g19_L5 x0 x1 x5 =
    bsel (decide (x5 < (x0.length : Int))) (lgetX x0 x5 fun e1 => vI .i64 e1 fun n2 => lgetX x1 x5 fun e3 => vI .i64 e3 fun n4 => bsel (n2 != n4) (some (.bool false, [])) (g19_L5 x0 x1 (IntKind.i64.wrap (x5 + 1)))) (some (.bool true, [])) := (LL_eq SS_ok (by decide) (by kernel_rfl) (by kernel_rfl)).trans (by kernel_rfl)
theorem g19_eq (a0 : List PV) (a1 : List PV) : SS.CC 19 [.sl false 1 a0, .sl false 1 a1] [] =
    bsel ((a0.length : Int) != (a1.length : Int)) (some (.bool false, [])) (g19_L5 a0 a1 0) := (CC_run SS_ok rfl).trans (by kernel_rfl)
/-! overseer/overseerlaw52.isJump -/
noncomputable def g23_c : Code := bodyOf Tryd.f23
noncomputable def g23_E : AE := SS.ae 23 9
noncomputable def g23_X : XE := SS.xe SS.CC SS.LL g23_E 0
theorem g23_eq (a0 : Int) : SS.CC 23 [.int .i64 a0] [] =
    bsel (decide (11 ≤ a0)) (some (.bool (decide (a0 ≤ 13)), [])) (some (.bool false, [])) := (CC_run SS_ok rfl).trans (by kernel_rfl)
/-! overseer/overseerlaw52.writes -/
noncomputable def g32_c : Code := bodyOf Tryd.f32
noncomputable def g32_E : AE := SS.ae 32 9
noncomputable def g32_X : XE := SS.xe SS.CC SS.LL g32_E 0
theorem g32_eq (a0 : Int) : SS.CC 32 [.int .i64 a0] [] =
    bsel (decide (7 ≤ a0)) (some (.bool (decide (a0 ≤ 10)), [])) (some (.bool false, [])) := (CC_run SS_ok rfl).trans (by kernel_rfl)
/-! overseer/instruction.Check -/
noncomputable def g25_c : Code := bodyOf Tryd.f25
noncomputable def g25_E : AE := SS.ae 25 24
noncomputable def g25_X : XE := SS.xe SS.CC SS.LL g25_E 0
noncomputable def g25_K0 : AX → ASt → R := retK SS.P Tryd.f25.results.toList (SS.prm 25).ro 0 []
noncomputable def g25_c1 : Code := Code.sub [true, true, true] g25_c
noncomputable def g25_K1 : AX → ASt → R := thenK (joinX g25_E 0 g25_c1 (exK g25_X g25_c1 g25_K0)) g25_K0
noncomputable def g25_K2 : AX → ASt → R := blkK 0 g25_K1
noncomputable def g25_c2 : Code := Code.sub [true, true, false, true, false, false] g25_c
noncomputable def g25_L6 (x1 : Int) (x1_a : Int) (x1_b : Int) (x1_c : List PV) (x1_d : List PV) (x14 : Int) : R := SS.LL g25_E 0 [1, 13, 14] 0 g25_c2 g25_K2 ⟨[(1, .cst (.agg [.int .i64 x1, .int .i64 x1_a, .int .i64 x1_b, .sl false 1 x1_c, .sl false 2 x1_d])), (13, .int .i64 (x1_d.length : Int)), (14, .int .i64 x14)], []⟩
theorem g25_L6_eq (x1 : Int) (x1_a : Int) (x1_b : Int) (x1_c : List PV) (x1_d : List PV) (x14 : Int) : g25_L6 x1 x1_a x1_b x1_c x1_d x14 =
    bsel (decide (x14 < (x1_d.length : Int))) (clX SS.CC 51 [.agg [.int .i64 x1, .int .i64 x1_a, .int .i64 x1_b, .sl false 1 x1_c, .sl false 2 x1_d], .int .i64 x14] fun r2 => vI .i64 r2 fun n1 => bsel (n1 != 0) (some (.int .i64 n1, [])) (g25_L6 x1 x1_a x1_b x1_c x1_d (IntKind.i64.wrap (x14 + 1)))) (some (.int .i64 0, [])) := (LL_eq SS_ok (by decide) (by kernel_rfl) (by kernel_rfl)).trans (by kernel_rfl)
theorem g25_eq (a0 : Int) (a0_1 : Int) (a0_2 : Int) (a0_3 : List PV) (a0_4 : List PV) : SS.CC 25 [.agg [.int .i64 a0, .int .i64 a0_1, .int .i64 a0_2, .sl false 1 a0_3, .sl false 2 a0_4]] [] =
    clX SS.CC 50 [.agg [.int .i64 a0, .int .i64 a0_1, .int .i64 a0_2, .sl false 1 a0_3, .sl false 2 a0_4]] fun r2 => vI .i64 r2 fun n1 => bsel (n1 != 0) (some (.int .i64 n1, [])) (g25_L6 a0 a0_1 a0_2 a0_3 a0_4 0) := (CC_run SS_ok rfl).trans (by kernel_rfl)
/-! overseer/overseerlaw52.sameBits -/
noncomputable def g38_c : Code := bodyOf Tryd.f38
noncomputable def g38_E : AE := SS.ae 38 26
noncomputable def g38_X : XE := SS.xe SS.CC SS.LL g38_E 0
noncomputable def g38_K0 : AX → ASt → R := retK SS.P Tryd.f38.results.toList (SS.prm 38).ro 0 []
noncomputable def g38_c1 : Code := Code.sub [true, true, true] g38_c
noncomputable def g38_K1 : AX → ASt → R := thenK (joinX g38_E 0 g38_c1 (exK g38_X g38_c1 g38_K0)) g38_K0
noncomputable def g38_K2 : AX → ASt → R := blkK 0 g38_K1
noncomputable def g38_c2 : Code := Code.sub [true, true, false, true, false, false] g38_c
noncomputable def g38_L5 (x0 : List PV) (x1 : List PV) (x5 : Int) : R := SS.LL g38_E 0 [0, 1, 5] 0 g38_c2 g38_K2 ⟨[(0, .sl false 1 x0), (1, .sl false 1 x1), (5, .int .i64 x5)], []⟩
theorem g38_L5_eq (x0 : List PV) (x1 : List PV) (x5 : Int) : g38_L5 x0 x1 x5 =
    bsel (decide (x5 < (x0.length : Int))) (lgetX x0 x5 fun e1 => vB e1 fun b2 => lgetX x1 x5 fun e3 => vB e3 fun b4 => bsel (!(b2 == b4)) (some (.bool false, [])) (g38_L5 x0 x1 (IntKind.i64.wrap (x5 + 1)))) (some (.bool true, [])) := (LL_eq SS_ok (by decide) (by kernel_rfl) (by kernel_rfl)).trans (by kernel_rfl)
theorem g38_eq (a0 : List PV) (a1 : List PV) : SS.CC 38 [.sl false 1 a0, .sl false 1 a1] [] =
    bsel ((a0.length : Int) != (a1.length : Int)) (some (.bool false, [])) (g38_L5 a0 a1 0) := (CC_run SS_ok rfl).trans (by kernel_rfl)
/-! slices.Concat[[]bool,bool] -/
noncomputable def g39_c : Code := bodyOf Tryd.f39
noncomputable def g39_E : AE := SS.ae 39 36
noncomputable def g39_X : XE := SS.xe SS.CC SS.LL g39_E 0
noncomputable def g39_K0 : AX → ASt → R := retK SS.P Tryd.f39.results.toList (SS.prm 39).ro 0 []
noncomputable def g39_c1 : Code := Code.sub [true, true, true] g39_c
noncomputable def g39_K1 : AX → ASt → R := thenK (joinX g39_E 0 g39_c1 (exK g39_X g39_c1 g39_K0)) g39_K0
noncomputable def g39_K2 : AX → ASt → R := blkK 0 g39_K1
noncomputable def g39_c2 : Code := Code.sub [true, true, false, true, false, false] g39_c
noncomputable def g39_c3 : Code := Code.sub [true, true, true, true, true] g39_c
noncomputable def g39_K3 : AX → ASt → R := thenK (joinX g39_E 0 g39_c3 (exK g39_X g39_c3 g39_K0)) g39_K0
noncomputable def g39_K4 : AX → ASt → R := blkK 2 g39_K3
noncomputable def g39_c4 : Code := Code.sub [true, true, true, true, false, true, false, false] g39_c
noncomputable def g39_L4 (x0 : List PV) (x3 : Int) (x11 : Int) : R := SS.LL g39_E 0 [0, 3, 9, 10, 11] 0 g39_c2 g39_K2 ⟨[(0, .sl false 1 x0), (3, .int .i64 x3), (9, .sl false 1 x0), (10, .int .i64 (x0.length : Int)), (11, .int .i64 x11)], []⟩
noncomputable def g39_L12 (x6 : List PV) (x25 : List PV) (x27 : Int) : R := SS.LL g39_E 0 [6, 25, 26, 27] 0 g39_c4 g39_K4 ⟨[(6, .sl true 1 x6), (25, .sl false 1 x25), (26, .int .i64 (x25.length : Int)), (27, .int .i64 x27)], []⟩
theorem g39_L4_eq (x0 : List PV) (x3 : Int) (x11 : Int) : g39_L4 x0 x3 x11 =
    bsel (decide (x11 < (x0.length : Int))) (lgetX x0 x11 fun e1 => vL false 1 e1 fun l2 => bsel (decide ((IntKind.i64.wrap (x3 + (l2.length : Int))) < 0)) (none) (g39_L4 x0 (IntKind.i64.wrap (x3 + (l2.length : Int))) (IntKind.i64.wrap (x11 + 1)))) (clX SS.CC 66 [.sl false 0 [], .int .i64 x3] fun r4 => vL true 1 r4 fun l3 => g39_L12 l3 x0 0) := (LL_eq SS_ok (by decide) (by kernel_rfl) (by kernel_rfl)).trans (by kernel_rfl)
theorem g39_L12_eq (x6 : List PV) (x25 : List PV) (x27 : Int) : g39_L12 x6 x25 x27 =
    bsel (decide (x27 < (x25.length : Int))) (lgetX x25 x27 fun e1 => vL false 1 e1 fun l2 => chk (decide (x6.length + l2.length ≤ LIM)) (g39_L12 (x6 ++ l2) x25 (IntKind.i64.wrap (x27 + 1)))) (some (.sl true 1 x6, [])) := (LL_eq SS_ok (by decide) (by kernel_rfl) (by kernel_rfl)).trans (by kernel_rfl)
theorem g39_eq (a0 : List PV) : SS.CC 39 [.sl false 1 a0] [] =
    g39_L4 a0 0 0 := (CC_run SS_ok rfl).trans (by kernel_rfl)
/-! overseer/instruction.scan -/
noncomputable def g40_c : Code := bodyOf Tryd.f40
noncomputable def g40_E : AE := SS.ae 40 72
noncomputable def g40_X : XE := SS.xe SS.CC SS.LL g40_E 1
noncomputable def g40_K0 : AX → ASt → R := retK SS.P Tryd.f40.results.toList (SS.prm 40).ro 1 [0]
noncomputable def g40_c1 : Code := Code.sub [true, true, true, true, true] g40_c
noncomputable def g40_K1 : AX → ASt → R := thenK (joinX g40_E 1 g40_c1 (exK g40_X g40_c1 g40_K0)) g40_K0
noncomputable def g40_K2 : AX → ASt → R := blkK 0 g40_K1
noncomputable def g40_c2 : Code := Code.sub [true, true, true, true, false, true, false, false] g40_c
noncomputable def g40_L6 (x1 : Nat) (x2 : Int) (x2_a : Int) (x2_b : Int) (x2_c : List PV) (x2_d : List PV) (x5 : List PV) (o0 : List PV) (x6 : List PV) (x7 : Bool) (x8 : Int) : R := SS.LL g40_E 1 [1, 2, 5, 6, 7, 8] 1 g40_c2 g40_K2 ⟨[(1, .slh 0 0 x1 1), (2, .cst (.agg [.int .i64 x2, .int .i64 x2_a, .int .i64 x2_b, .sl false 1 x2_c, .sl false 2 x2_d])), (5, .sl false 5 x5), (6, .sl true 1 x6), (7, .bool x7), (8, .int .i64 x8)], [some o0]⟩
theorem g40_L6_eq (x1 : Nat) (x2 : Int) (x2_a : Int) (x2_b : Int) (x2_c : List PV) (x2_d : List PV) (x5 : List PV) (o0 : List PV) (x6 : List PV) (x7 : Bool) (x8 : Int) : g40_L6 x1 x2 x2_a x2_b x2_c x2_d x5 o0 x6 x7 x8 =
    chk (o0.all flC && true) (bsel (decide (x8 < (x2_d.length : Int))) (chk (o0.all flC && true) (chk (decide (x6.length + 1 ≤ LIM)) (lgetX x2_d x8 fun e1 => v57 e1 fun n2 n3 => lgetX x5 (IntKind.i64.wrap (n2 - 1)) fun e4 => v110 e4 fun n5 s6 p7 p8 p9 => chk ([.int .i64 n5, .str s6, p7, p8, p9].all PV.one) (fnX (PV.un (PV.un (PV.un p7))) fun b10 => bsel (b10 == false) (chk (decide (0 ≤ n3) && decide (n3 < (x1 : Int))) (ngetX o0 n3.toNat fun e11 => vB e11 fun b12 => fvX (PV.un (PV.un (PV.un p7))) fun g13 f14 c15 => chk (PV.flats (f14 ++ [.bool x7, .bool b12] ++ c15)) (clX SS.CC g13 (f14 ++ [.bool x7, .bool b12] ++ c15) fun r16 => vB r16 fun b17 => g40_L6 x1 x2 x2_a x2_b x2_c x2_d x5 o0 (x6 ++ [.int .i64 x8]) b17 (IntKind.i64.wrap (x8 + 1))))) (fnX (PV.un (PV.un (PV.un p8))) fun b18 => bsel (b18 == false) (chk (decide (0 ≤ n3) && decide (n3 < (x1 : Int))) (ngetX o0 n3.toNat fun e19 => vB e19 fun b20 => fvX (PV.un (PV.un (PV.un p8))) fun g21 f22 c23 => chk (PV.flats (f22 ++ [.bool x7, .bool b20] ++ c23)) (clX SS.CC g21 (f22 ++ [.bool x7, .bool b20] ++ c23) fun r24 => vB r24 fun b25 => chk (decide (0 ≤ n3) && decide (n3 < (x1 : Int))) (chk (decide (n3.toNat < o0.length)) (g40_L6 x1 x2 x2_a x2_b x2_c x2_d x5 (o0.set n3.toNat (.bool b25)) (x6 ++ [.int .i64 x8]) x7 (IntKind.i64.wrap (x8 + 1))))))) (fvX (PV.un (PV.un (PV.un p9))) fun g26 f27 c28 => chk (PV.flats (f27 ++ [.bool x7] ++ c28)) (clX SS.CC g26 (f27 ++ [.bool x7] ++ c28) fun r29 => vB r29 fun b30 => bsel b30 (g40_L6 x1 x2 x2_a x2_b x2_c x2_d x5 o0 (x6 ++ [.int .i64 x8]) x7 n3) (g40_L6 x1 x2 x2_a x2_b x2_c x2_d x5 o0 (x6 ++ [.int .i64 x8]) x7 (IntKind.i64.wrap (x8 + 1)))))))))) (chk (o0.all flC && true) (chk (o0.all flC && true) (some (.sl false 1 x6, [some o0]))))) := (LL_eq SS_ok (by decide) (by kernel_rfl) (by kernel_rfl)).trans (by kernel_rfl)
theorem g40_eq (a0 : Int) (a0_1 : Int) (a0_2 : Int) (a0_3 : List PV) (a0_4 : List PV) (a1 : Nat) (h0 : List PV) : SS.CC 40 [.agg [.int .i64 a0, .int .i64 a0_1, .int .i64 a0_2, .sl false 1 a0_3, .sl false 2 a0_4], .slh 0 0 a1 1] [some h0] =
    clX SS.CC 63 [] fun r2 => vL false 5 r2 fun l1 => g40_L6 a1 a0 a0_1 a0_2 a0_3 a0_4 l1 h0 [] false 0 := (CC_run SS_ok rfl).trans (by kernel_rfl)
/-! overseer/instruction.state -/
noncomputable def g41_c : Code := bodyOf Tryd.f41
noncomputable def g41_E : AE := SS.ae 41 25
noncomputable def g41_X : XE := SS.xe SS.CC SS.LL g41_E 0
theorem g41_eq (a0 : Int) (a0_1 : Int) (a0_2 : Int) (a0_3 : List PV) (a0_4 : List PV) (a1 : List PV) : SS.CC 41 [.agg [.int .i64 a0, .int .i64 a0_1, .int .i64 a0_2, .sl false 1 a0_3, .sl false 2 a0_4], .sl false 1 a1] [] =
    chk (decide (0 ≤ a0) && decide (a0 ≤ (IntKind.i64.wrap (a0 + a0_1))) && decide ((IntKind.i64.wrap (a0 + a0_1)) ≤ (IntKind.i64.wrap (a0 + a0_1))) && decide ((IntKind.i64.wrap (a0 + a0_1)) ≤ (a1.length : Int))) (chk (decide (0 ≤ (IntKind.i64.wrap (a0 + a0_1))) && decide ((IntKind.i64.wrap (a0 + a0_1)) ≤ (a1.length : Int)) && decide ((a1.length : Int) ≤ (a1.length : Int)) && decide ((a1.length : Int) ≤ (a1.length : Int))) (some (.agg [.sl false 1 ((a1.take (IntKind.i64.wrap (a0 + a0_1)).toNat).drop a0.toNat), .sl false 1 ((a1.take (a1.length : Int).toNat).drop (IntKind.i64.wrap (a0 + a0_1)).toNat)], []))) := (CC_run SS_ok rfl).trans (by kernel_rfl)
/-! overseer/overseerlaw52.run -/
noncomputable def g42_c : Code := bodyOf Tryd.f42
noncomputable def g42_E : AE := SS.ae 42 146
noncomputable def g42_X : XE := SS.xe SS.CC SS.LL g42_E 1
noncomputable def g42_K0 : AX → ASt → R := retK SS.P Tryd.f42.results.toList (SS.prm 42).ro 1 [0]
noncomputable def g42_c1 : Code := Code.sub [true, true, true, true] g42_c
noncomputable def g42_K1 : AX → ASt → R := thenK (joinX g42_E 1 g42_c1 (exK g42_X g42_c1 g42_K0)) g42_K0
noncomputable def g42_K2 : AX → ASt → R := blkK 0 g42_K1
noncomputable def g42_c2 : Code := Code.sub [true, true, true, false, true, false, false] g42_c
noncomputable def g42_L5 (x1 : Nat) (x2 : Int) (x2_a : Int) (x2_b : Int) (x2_c : List PV) (x2_d : List PV) (o0 : List PV) (x5 : List PV) (x6 : Bool) (x7 : Int) : R := SS.LL g42_E 1 [1, 2, 5, 6, 7] 1 g42_c2 g42_K2 ⟨[(1, .slh 0 0 x1 1), (2, .cst (.agg [.int .i64 x2, .int .i64 x2_a, .int .i64 x2_b, .sl false 1 x2_c, .sl false 2 x2_d])), (5, .sl true 1 x5), (6, .bool x6), (7, .int .i64 x7)], [some o0]⟩
theorem g42_L5_eq (x1 : Nat) (x2 : Int) (x2_a : Int) (x2_b : Int) (x2_c : List PV) (x2_d : List PV) (o0 : List PV) (x5 : List PV) (x6 : Bool) (x7 : Int) : g42_L5 x1 x2 x2_a x2_b x2_c x2_d o0 x5 x6 x7 =
    chk (o0.all flC && true) (bsel (decide (x7 < (x2_d.length : Int))) (chk (o0.all flC && true) (lgetX x2_d x7 fun e1 => v57 e1 fun n2 n3 => chk (decide (x5.length + 1 ≤ LIM)) (bsel (n2 == 1) (chk (decide (0 ≤ n3) && decide (n3 < (x1 : Int))) (ngetX o0 n3.toNat fun e4 => vB e4 fun b5 => chk (o0.all flC && true) (g42_L5 x1 x2 x2_a x2_b x2_c x2_d o0 (x5 ++ [.int .i64 x7]) b5 (IntKind.i64.wrap (x7 + 1))))) (bsel (n2 == 2) (chk (decide (0 ≤ n3) && decide (n3 < (x1 : Int))) (ngetX o0 n3.toNat fun e6 => vB e6 fun b7 => chk (o0.all flC && true) (g42_L5 x1 x2 x2_a x2_b x2_c x2_d o0 (x5 ++ [.int .i64 x7]) (!b7) (IntKind.i64.wrap (x7 + 1))))) (bsel (n2 == 3) (bsel x6 (chk (decide (0 ≤ n3) && decide (n3 < (x1 : Int))) (ngetX o0 n3.toNat fun e8 => vB e8 fun b9 => chk (o0.all flC && true) (g42_L5 x1 x2 x2_a x2_b x2_c x2_d o0 (x5 ++ [.int .i64 x7]) b9 (IntKind.i64.wrap (x7 + 1))))) (chk (o0.all flC && true) (g42_L5 x1 x2 x2_a x2_b x2_c x2_d o0 (x5 ++ [.int .i64 x7]) false (IntKind.i64.wrap (x7 + 1))))) (bsel (n2 == 4) (bsel x6 (chk (decide (0 ≤ n3) && decide (n3 < (x1 : Int))) (ngetX o0 n3.toNat fun e10 => vB e10 fun b11 => chk (o0.all flC && true) (g42_L5 x1 x2 x2_a x2_b x2_c x2_d o0 (x5 ++ [.int .i64 x7]) (!b11) (IntKind.i64.wrap (x7 + 1))))) (chk (o0.all flC && true) (g42_L5 x1 x2 x2_a x2_b x2_c x2_d o0 (x5 ++ [.int .i64 x7]) false (IntKind.i64.wrap (x7 + 1))))) (bsel (n2 == 5) (bsel x6 (chk (o0.all flC && true) (g42_L5 x1 x2 x2_a x2_b x2_c x2_d o0 (x5 ++ [.int .i64 x7]) true (IntKind.i64.wrap (x7 + 1)))) (chk (decide (0 ≤ n3) && decide (n3 < (x1 : Int))) (ngetX o0 n3.toNat fun e12 => vB e12 fun b13 => chk (o0.all flC && true) (g42_L5 x1 x2 x2_a x2_b x2_c x2_d o0 (x5 ++ [.int .i64 x7]) b13 (IntKind.i64.wrap (x7 + 1)))))) (bsel (n2 == 6) (bsel x6 (chk (o0.all flC && true) (g42_L5 x1 x2 x2_a x2_b x2_c x2_d o0 (x5 ++ [.int .i64 x7]) true (IntKind.i64.wrap (x7 + 1)))) (chk (decide (0 ≤ n3) && decide (n3 < (x1 : Int))) (ngetX o0 n3.toNat fun e14 => vB e14 fun b15 => chk (o0.all flC && true) (g42_L5 x1 x2 x2_a x2_b x2_c x2_d o0 (x5 ++ [.int .i64 x7]) (!b15) (IntKind.i64.wrap (x7 + 1)))))) (bsel (n2 == 7) (chk (decide (0 ≤ n3) && decide (n3 < (x1 : Int))) (chk (decide (n3.toNat < o0.length)) (chk ((o0.set n3.toNat (.bool x6)).all flC && true) (g42_L5 x1 x2 x2_a x2_b x2_c x2_d (o0.set n3.toNat (.bool x6)) (x5 ++ [.int .i64 x7]) x6 (IntKind.i64.wrap (x7 + 1)))))) (bsel (n2 == 8) (chk (decide (0 ≤ n3) && decide (n3 < (x1 : Int))) (chk (decide (n3.toNat < o0.length)) (chk ((o0.set n3.toNat (.bool (!x6))).all flC && true) (g42_L5 x1 x2 x2_a x2_b x2_c x2_d (o0.set n3.toNat (.bool (!x6))) (x5 ++ [.int .i64 x7]) x6 (IntKind.i64.wrap (x7 + 1)))))) (bsel (n2 == 9) (chk (decide (0 ≤ n3) && decide (n3 < (x1 : Int))) (ngetX o0 n3.toNat fun e16 => vB e16 fun b17 => bsel b17 (chk (decide (0 ≤ n3) && decide (n3 < (x1 : Int))) (chk (decide (n3.toNat < o0.length)) (chk ((o0.set n3.toNat (.bool true)).all flC && true) (g42_L5 x1 x2 x2_a x2_b x2_c x2_d (o0.set n3.toNat (.bool true)) (x5 ++ [.int .i64 x7]) x6 (IntKind.i64.wrap (x7 + 1)))))) (chk (decide (0 ≤ n3) && decide (n3 < (x1 : Int))) (chk (decide (n3.toNat < o0.length)) (chk ((o0.set n3.toNat (.bool x6)).all flC && true) (g42_L5 x1 x2 x2_a x2_b x2_c x2_d (o0.set n3.toNat (.bool x6)) (x5 ++ [.int .i64 x7]) x6 (IntKind.i64.wrap (x7 + 1)))))))) (bsel (n2 == 10) (chk (decide (0 ≤ n3) && decide (n3 < (x1 : Int))) (ngetX o0 n3.toNat fun e18 => vB e18 fun b19 => bsel b19 (chk (decide (0 ≤ n3) && decide (n3 < (x1 : Int))) (chk (decide (n3.toNat < o0.length)) (chk ((o0.set n3.toNat (.bool (!x6))).all flC && true) (g42_L5 x1 x2 x2_a x2_b x2_c x2_d (o0.set n3.toNat (.bool (!x6))) (x5 ++ [.int .i64 x7]) x6 (IntKind.i64.wrap (x7 + 1)))))) (chk (decide (0 ≤ n3) && decide (n3 < (x1 : Int))) (chk (decide (n3.toNat < o0.length)) (chk ((o0.set n3.toNat (.bool false)).all flC && true) (g42_L5 x1 x2 x2_a x2_b x2_c x2_d (o0.set n3.toNat (.bool false)) (x5 ++ [.int .i64 x7]) x6 (IntKind.i64.wrap (x7 + 1)))))))) (bsel (n2 == 11) (chk (o0.all flC && true) (g42_L5 x1 x2 x2_a x2_b x2_c x2_d o0 (x5 ++ [.int .i64 x7]) x6 n3)) (bsel (n2 == 12) (bsel x6 (chk (o0.all flC && true) (g42_L5 x1 x2 x2_a x2_b x2_c x2_d o0 (x5 ++ [.int .i64 x7]) x6 n3)) (chk (o0.all flC && true) (g42_L5 x1 x2 x2_a x2_b x2_c x2_d o0 (x5 ++ [.int .i64 x7]) x6 (IntKind.i64.wrap (x7 + 1))))) (bsel (n2 == 13) (bsel (!x6) (chk (o0.all flC && true) (g42_L5 x1 x2 x2_a x2_b x2_c x2_d o0 (x5 ++ [.int .i64 x7]) x6 n3)) (chk (o0.all flC && true) (g42_L5 x1 x2 x2_a x2_b x2_c x2_d o0 (x5 ++ [.int .i64 x7]) x6 (IntKind.i64.wrap (x7 + 1))))) (chk (o0.all flC && true) (g42_L5 x1 x2 x2_a x2_b x2_c x2_d o0 (x5 ++ [.int .i64 x7]) x6 (IntKind.i64.wrap (x7 + 1))))))))))))))))))) (chk (o0.all flC && true) (chk (o0.all flC && true) (some (.sl false 1 x5, [some o0]))))) := (LL_eq SS_ok (by decide) (by kernel_rfl) (by kernel_rfl)).trans (by kernel_rfl)
theorem g42_eq (a0 : Int) (a0_1 : Int) (a0_2 : Int) (a0_3 : List PV) (a0_4 : List PV) (a1 : Nat) (h0 : List PV) : SS.CC 42 [.agg [.int .i64 a0, .int .i64 a0_1, .int .i64 a0_2, .sl false 1 a0_3, .sl false 2 a0_4], .slh 0 0 a1 1] [some h0] =
    g42_L5 a1 a0 a0_1 a0_2 a0_3 a0_4 h0 [] false 0 := (CC_run SS_ok rfl).trans (by kernel_rfl)
/-! overseer/instruction.begin -/
noncomputable def g43_c : Code := bodyOf Tryd.f43
noncomputable def g43_E : AE := SS.ae 43 42
noncomputable def g43_X : XE := SS.xe SS.CC SS.LL g43_E 0
theorem g43_eq (a0 : Int) (a0_1 : Int) (a0_2 : Int) (a0_3 : List PV) (a0_4 : List PV) (a1 : List PV) (a1_1 : List PV) (a2 : List PV) : SS.CC 43 [.agg [.int .i64 a0, .int .i64 a0_1, .int .i64 a0_2, .sl false 1 a0_3, .sl false 2 a0_4], .agg [.sl false 1 a1, .sl false 1 a1_1], .sl false 1 a2] [] =
    clX SS.CC 25 [.agg [.int .i64 a0, .int .i64 a0_1, .int .i64 a0_2, .sl false 1 a0_3, .sl false 2 a0_4]] fun r2 => vI .i64 r2 fun n1 => bsel (n1 != 0) (some (.tuple [.sl false 1 [], .int .i64 n1], [])) (bsel ((a2.length : Int) != a0) (some (.tuple [.sl false 1 [], .int .i64 4], [])) (bsel ((a1.length : Int) != a0_1) (some (.tuple [.sl false 1 [], .int .i64 4], [])) (bsel ((a1_1.length : Int) != a0_2) (some (.tuple [.sl false 1 [], .int .i64 4], [])) (clX SS.CC 39 [.sl false 1 [.sl false 1 a2, .sl false 1 a1, .sl false 1 a1_1]] fun r4 => vL true 1 r4 fun l3 => chk (decide (0 < l3.length) && l3.all plainC) (chk (l3.all flC && true) (some (.tuple [.slh 0 0 l3.length 1, .int .i64 0], [some l3]))))))) := (CC_run SS_ok rfl).trans (by kernel_rfl)
/-! overseer/instruction.operations -/
noncomputable def g63_c : Code := bodyOf Tryd.f63
noncomputable def g63_E : AE := SS.ae 63 15
noncomputable def g63_X : XE := SS.xe SS.CC SS.LL g63_E 0
theorem g63_eq : SS.CC 63 [] [] =
    some (.sl false 5 [.agg [.int .i64 1, .str ⟨#[76, 68]⟩, .func (.func 81) [] [], .raw .nilFunc, .raw .nilFunc], .agg [.int .i64 2, .str ⟨#[76, 68, 78]⟩, .func (.func 82) [] [], .raw .nilFunc, .raw .nilFunc], .agg [.int .i64 3, .str ⟨#[65, 78, 68]⟩, .func (.func 83) [] [], .raw .nilFunc, .raw .nilFunc], .agg [.int .i64 4, .str ⟨#[65, 78, 68, 78]⟩, .func (.func 84) [] [], .raw .nilFunc, .raw .nilFunc], .agg [.int .i64 5, .str ⟨#[79, 82]⟩, .func (.func 85) [] [], .raw .nilFunc, .raw .nilFunc], .agg [.int .i64 6, .str ⟨#[79, 82, 78]⟩, .func (.func 86) [] [], .raw .nilFunc, .raw .nilFunc], .agg [.int .i64 7, .str ⟨#[83, 84]⟩, .raw .nilFunc, .func (.func 87) [] [], .raw .nilFunc], .agg [.int .i64 8, .str ⟨#[83, 84, 78]⟩, .raw .nilFunc, .func (.func 88) [] [], .raw .nilFunc], .agg [.int .i64 9, .str ⟨#[83]⟩, .raw .nilFunc, .func (.func 89) [] [], .raw .nilFunc], .agg [.int .i64 10, .str ⟨#[82]⟩, .raw .nilFunc, .func (.func 90) [] [], .raw .nilFunc], .agg [.int .i64 11, .str ⟨#[74, 77, 80]⟩, .raw .nilFunc, .raw .nilFunc, .func (.func 91) [] []], .agg [.int .i64 12, .str ⟨#[74, 77, 80, 67]⟩, .raw .nilFunc, .raw .nilFunc, .func (.func 92) [] []], .agg [.int .i64 13, .str ⟨#[74, 77, 80, 67, 78]⟩, .raw .nilFunc, .raw .nilFunc, .func (.func 93) [] []]], []) := (CC_run SS_ok rfl).trans (by kernel_rfl)
/-! overseer/instruction.checkHead -/
noncomputable def g50_c : Code := bodyOf Tryd.f50
noncomputable def g50_E : AE := SS.ae 50 34
noncomputable def g50_X : XE := SS.xe SS.CC SS.LL g50_E 0
noncomputable def g50_K0 : AX → ASt → R := retK SS.P Tryd.f50.results.toList (SS.prm 50).ro 0 []
noncomputable def g50_c1 : Code := Code.sub [true, true] g50_c
noncomputable def g50_K1 : AX → ASt → R := thenK (joinX g50_E 0 g50_c1 (exK g50_X g50_c1 g50_K0)) g50_K0
noncomputable def g50_K2 : AX → ASt → R := blkK 0 g50_K1
noncomputable def g50_c2 : Code := Code.sub [true, false, true, false, false] g50_c
noncomputable def g50_L3 (x1 : Int) (x1_a : Int) (x1_b : Int) (x1_c : List PV) (x1_d : List PV) (x12 : Int) : R := SS.LL g50_E 0 [1, 11, 12] 0 g50_c2 g50_K2 ⟨[(1, .cst (.agg [.int .i64 x1, .int .i64 x1_a, .int .i64 x1_b, .sl false 1 x1_c, .sl false 2 x1_d])), (11, .agg [.int .i64 x1, .int .i64 x1_a, .int .i64 x1_b]), (12, .int .i64 x12)], []⟩
theorem g50_L3_eq (x1 : Int) (x1_a : Int) (x1_b : Int) (x1_c : List PV) (x1_d : List PV) (x12 : Int) : g50_L3 x1 x1_a x1_b x1_c x1_d x12 =
    bsel (decide (x12 < 3)) (chk (decide (0 ≤ x12) && decide (x12 < (3 : Int))) (bsel (x12 == 0) (bsel (decide (x1 < 0)) (some (.int .i64 2, [])) (bsel (decide (256 < x1)) (some (.int .i64 2, [])) (g50_L3 x1 x1_a x1_b x1_c x1_d (IntKind.i64.wrap (x12 + 1))))) (bsel (x12 == 1) (bsel (decide (x1_a < 0)) (some (.int .i64 2, [])) (bsel (decide (256 < x1_a)) (some (.int .i64 2, [])) (g50_L3 x1 x1_a x1_b x1_c x1_d (IntKind.i64.wrap (x12 + 1))))) (bsel (x12 == 2) (bsel (decide (x1_b < 0)) (some (.int .i64 2, [])) (bsel (decide (256 < x1_b)) (some (.int .i64 2, [])) (g50_L3 x1 x1_a x1_b x1_c x1_d (IntKind.i64.wrap (x12 + 1))))) (none))))) (bsel ((x1_c.length : Int) != x1_b) (some (.int .i64 4, [])) (bsel (decide (2048 < (x1_d.length : Int))) (some (.int .i64 3, [])) (some (.int .i64 0, [])))) := (LL_eq SS_ok (by decide) (by kernel_rfl) (by kernel_rfl)).trans (by kernel_rfl)
theorem g50_eq (a0 : Int) (a0_1 : Int) (a0_2 : Int) (a0_3 : List PV) (a0_4 : List PV) : SS.CC 50 [.agg [.int .i64 a0, .int .i64 a0_1, .int .i64 a0_2, .sl false 1 a0_3, .sl false 2 a0_4]] [] =
    g50_L3 a0 a0_1 a0_2 a0_3 a0_4 0 := (CC_run SS_ok rfl).trans (by kernel_rfl)
/-! overseer/instruction.checkInstruction -/
noncomputable def g51_c : Code := bodyOf Tryd.f51
noncomputable def g51_E : AE := SS.ae 51 65
noncomputable def g51_X : XE := SS.xe SS.CC SS.LL g51_E 0
theorem g51_eq (a0 : Int) (a0_1 : Int) (a0_2 : Int) (a0_3 : List PV) (a0_4 : List PV) (a1 : Int) : SS.CC 51 [.agg [.int .i64 a0, .int .i64 a0_1, .int .i64 a0_2, .sl false 1 a0_3, .sl false 2 a0_4], .int .i64 a1] [] =
    lgetX a0_4 a1 fun e1 => v57 e1 fun n2 n3 => clX SS.CC 63 [] fun r5 => vL false 5 r5 fun l4 => bsel (decide (n2 < 1)) (some (.int .i64 11, [])) (bsel (decide ((l4.length : Int) < n2)) (some (.int .i64 11, [])) (lgetX l4 (IntKind.i64.wrap (n2 - 1)) fun e6 => v110 e6 fun n7 s8 p9 p10 p11 => chk ([.int .i64 n7, .str s8, p9, p10, p11].all PV.one) (fnX (PV.un (PV.un (PV.un p11))) fun b12 => bsel (b12 == false) (bsel (decide (n3 ≤ a1)) (some (.int .i64 2, [])) (bsel (decide ((a0_4.length : Int) < n3)) (some (.int .i64 2, [])) (some (.int .i64 0, [])))) (chk ([.int .i64 n7, .str s8, (PV.un p9), (PV.un p10), (PV.un p11)].all flC && true) (bsel (decide (n3 < 0)) (some (.int .i64 2, [])) (clX SS.CC 67 [.agg [.int .i64 a0, .int .i64 a0_1, .int .i64 a0_2, .sl false 1 a0_3, .sl false 2 a0_4]] fun r14 => vI .i64 r14 fun n13 => bsel (decide (n13 ≤ n3)) (some (.int .i64 2, [])) (chk ([.int .i64 n7, .str s8, (PV.un p9), (PV.un p10), (PV.un p11)].all flC && true) (fnX (PV.un (PV.un (PV.un p10))) fun b15 => bsel (b15 == false) (bsel (decide (n3 < a0)) (some (.int .i64 19, [])) (some (.int .i64 0, []))) (some (.int .i64 0, [])))))))))) := (CC_run SS_ok rfl).trans (by kernel_rfl)
/-! overseer/instruction.width -/
noncomputable def g67_c : Code := bodyOf Tryd.f67
noncomputable def g67_E : AE := SS.ae 67 11
noncomputable def g67_X : XE := SS.xe SS.CC SS.LL g67_E 0
theorem g67_eq (a0 : Int) (a0_1 : Int) (a0_2 : Int) (a0_3 : List PV) (a0_4 : List PV) : SS.CC 67 [.agg [.int .i64 a0, .int .i64 a0_1, .int .i64 a0_2, .sl false 1 a0_3, .sl false 2 a0_4]] [] =
    some (.int .i64 (IntKind.i64.wrap ((IntKind.i64.wrap (a0 + a0_1)) + a0_2)), []) := (CC_run SS_ok rfl).trans (by kernel_rfl)
end Go.Proofs.YtiejgieiokmmfaaDoor

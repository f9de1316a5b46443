/-
  Functions as equations. Printed by a program (wip/tool/dc.py).
-/
import Derived.Test.YtoajpgclgdhhlaaW16
namespace Go.Proofs.Ytoajpgclgdhhlaa.W
set_option linter.unusedVariables false
set_option linter.unusedSimpArgs false
set_option linter.unnecessarySimpa false
set_option linter.unusedSectionVars false
open Go.RowKit
set_option maxRecDepth 1000000
/-! overseer/overseerlaw16.same -/
noncomputable def g18_c : Code := bodyOf Try.f18
noncomputable def g18_E : AE := SS.ae 18 26
noncomputable def g18_X : XE := SS.xe SS.CC SS.LL g18_E 0
noncomputable def g18_K0 : AX → ASt → R := retK SS.P Try.f18.results.toList (SS.prm 18).ro 0 []
noncomputable def g18_c1 : Code := Code.sub [true, true, true] g18_c
noncomputable def g18_K1 : AX → ASt → R := thenK (joinX g18_E 0 g18_c1 (exK g18_X g18_c1 g18_K0)) g18_K0
noncomputable def g18_K2 : AX → ASt → R := blkK 0 g18_K1
noncomputable def g18_c2 : Code := Code.sub [true, true, false, true, false, false] g18_c
noncomputable def g18_L5 (x0 : List PV) (x1 : List PV) (x5 : Int) : R := SS.LL g18_E 0 [0, 1, 5] 0 g18_c2 g18_K2 ⟨[(0, .sl false 5 x0), (1, .sl false 5 x1), (5, .int .i64 x5)], []⟩
theorem g18_L5_eq (x0 : List PV) (x1 : List PV) (x5 : Int) : g18_L5 x0 x1 x5 =
    bsel (decide (x5 < (x0.length : Int))) (lgetX x0 x5 fun e1 => v29 e1 fun n2 s3 n4 n5 n6 => lgetX x1 x5 fun e7 => v29 e7 fun n8 s9 n10 n11 n12 => bsel (!((n2 == n8) && ((s3.toList == s9.toList) && ((n4 == n10) && ((n5 == n11) && ((n6 == n12) && true)))))) (some (.bool false, [])) (g18_L5 x0 x1 (IntKind.i64.wrap (x5 + 1)))) (some (.bool true, [])) := (LL_eq SS_ok (by decide) (by kernel_rfl) (by kernel_rfl)).trans (by kernel_rfl)
theorem g18_eq (a0 : List PV) (a1 : List PV) : SS.CC 18 [.sl false 5 a0, .sl false 5 a1] [] =
    bsel ((a0.length : Int) != (a1.length : Int)) (some (.bool false, [])) (g18_L5 a0 a1 0) := (CC_run SS_ok rfl).trans (by kernel_rfl)
/-! overseer/overseerlaw16.scan -/
noncomputable def g20_c : Code := bodyOf Try.f20
noncomputable def g20_E : AE := SS.ae 20 113
noncomputable def g20_X : XE := SS.xe SS.CC SS.LL g20_E 0
noncomputable def g20_K0 : AX → ASt → R := retK SS.P Try.f20.results.toList (SS.prm 20).ro 0 []
noncomputable def g20_c1 : Code := Code.sub [true, true, true, true, true] g20_c
noncomputable def g20_K1 : AX → ASt → R := thenK (joinX g20_E 0 g20_c1 (exK g20_X g20_c1 g20_K0)) g20_K0
noncomputable def g20_K2 : AX → ASt → R := blkK 0 g20_K1
noncomputable def g20_c2 : Code := Code.sub [true, true, true, true, false, true, false, false] g20_c
noncomputable def g20_K3 : AX → ASt → R := thenK (fun σ => SS.LL g20_E 0 [0, 6, 7, 8, 9] 0 g20_c2 g20_K2 (σ.gc [0, 6, 7, 8, 9] 0)) g20_K2
noncomputable def g20_K4 : AX → ASt → R := blkK 1 g20_K3
noncomputable def g20_c3 : Code := Code.sub [true, true, true, true, false, true, false, false, true, false, true] g20_c
noncomputable def g20_K5 : AX → ASt → R := thenK (joinX g20_E 0 g20_c3 (exK g20_X g20_c3 g20_K4)) g20_K4
noncomputable def g20_K6 : AX → ASt → R := blkK 2 g20_K5
noncomputable def g20_c4 : Code := Code.sub [true, true, true, true, false, true, false, false, true, false, false, false, true, true, true, true, true, false, true] g20_c
noncomputable def g20_K7 : AX → ASt → R := thenK (joinX g20_E 0 g20_c4 (exK g20_X g20_c4 g20_K6)) g20_K6
noncomputable def g20_K8 : AX → ASt → R := blkK 3 g20_K7
noncomputable def g20_c5 : Code := Code.sub [true, true, true, true, false, true, false, false, true, false, false, false, true, true, true, true, true, false, false, false, false] g20_c
noncomputable def g20_L7 (x0 : ByteArray) (x7 : Int) (x9 : Int) (x8 : Int) (x6 : List PV) : R := SS.LL g20_E 0 [0, 6, 7, 8, 9] 0 g20_c2 g20_K2 ⟨[(0, .str x0), (6, .sl true 5 x6), (7, .int .i64 x7), (8, .int .i64 x8), (9, .int .i64 x9)], []⟩
noncomputable def g20_L14 (x0 : ByteArray) (x8 : Int) (x9 : Int) (x6 : List PV) (x7 : Int) : R := SS.LL g20_E 0 [0, 6, 7, 8, 9] 0 g20_c5 g20_K8 ⟨[(0, .str x0), (6, .sl true 5 x6), (7, .int .i64 x7), (8, .int .i64 x8), (9, .int .i64 x9)], []⟩
noncomputable def g20_J16 (x0 : ByteArray) (x6 : List PV) (x7 : Int) (x8 : Int) (x9 : Int) : R := exK g20_X g20_c3 g20_K4 ⟨[(0, .str x0), (6, .sl true 5 x6), (7, .int .i64 x7), (8, .int .i64 x8), (9, .int .i64 x9)], []⟩
theorem g20_L7_eq (x0 : ByteArray) (x7 : Int) (x9 : Int) (x8 : Int) (x6 : List PV) : g20_L7 x0 x7 x9 x8 x6 =
    bsel (decide (x9 < (x0.size : Int))) (byteX x0 x9 fun c1 => bsel (c1 == 10) (g20_L7 x0 (IntKind.i64.wrap (x7 + 1)) (IntKind.i64.wrap (x9 + 1)) 1 x6) (byteX x0 x9 fun c2 => bsel (c2 == 32) (g20_L7 x0 x7 (IntKind.i64.wrap (x9 + 1)) (IntKind.i64.wrap (x8 + 1)) x6) (byteX x0 x9 fun c3 => bsel (c3 == 9) (g20_L7 x0 x7 (IntKind.i64.wrap (x9 + 1)) (IntKind.i64.wrap (x8 + 1)) x6) (byteX x0 x9 fun c4 => bsel (c4 == 13) (g20_L7 x0 x7 (IntKind.i64.wrap (x9 + 1)) (IntKind.i64.wrap (x8 + 1)) x6) (bsel (decide ((IntKind.i64.wrap (x9 + 1)) < (x0.size : Int))) (chk (decide (0 ≤ x9) && decide (x9 ≤ (IntKind.i64.wrap (x9 + 2))) && decide ((IntKind.i64.wrap (x9 + 2)) ≤ (x0.size : Int))) (bsel ((x0.extract x9.toNat (IntKind.i64.wrap (x9 + 2)).toNat).toList == (⟨#[47, 47]⟩ : ByteArray).toList) (g20_L14 x0 x8 x9 x6 x7) (g20_J16 x0 x6 x7 x8 x9))) (g20_J16 x0 x6 x7 x8 x9)))))) (chk (decide (x6.length + 1 ≤ LIM)) (some (.tuple [.sl false 5 (x6 ++ [.agg [.int .i64 4, .str ⟨#[]⟩, .int .i64 0, .int .i64 x7, .int .i64 x8]]), .int .i64 0, .int .i64 0, .int .i64 0], []))) := (LL_eq SS_ok (by decide) (by kernel_rfl) (by kernel_rfl)).trans (by kernel_rfl)
theorem g20_L14_eq (x0 : ByteArray) (x8 : Int) (x9 : Int) (x6 : List PV) (x7 : Int) : g20_L14 x0 x8 x9 x6 x7 =
    bsel (decide (x9 < (x0.size : Int))) (byteX x0 x9 fun c1 => bsel (c1 != 10) (g20_L14 x0 (IntKind.i64.wrap (x8 + 1)) (IntKind.i64.wrap (x9 + 1)) x6 x7) (g20_L7 x0 x7 x9 x8 x6)) (g20_L7 x0 x7 x9 x8 x6) := (LL_eq SS_ok (by decide) (by kernel_rfl) (by kernel_rfl)).trans (by kernel_rfl)
theorem g20_J16_eq (x0 : ByteArray) (x6 : List PV) (x7 : Int) (x8 : Int) (x9 : Int) : g20_J16 x0 x6 x7 x8 x9 =
    chk (decide (0 ≤ x9) && decide (x9 ≤ (x0.size : Int))) (clX SS.CC 42 [.str (x0.extract x9.toNat x0.size)] fun r7 => w_29_3 r7 fun n1 s2 n3 n4 n5 n6 => bsel (n6 != 0) (some (.tuple [.sl false 5 [], .int .i64 x7, .int .i64 x8, .int .i64 n6], [])) (chk (decide (x6.length + 1 ≤ LIM)) (g20_L7 x0 x7 (IntKind.i64.wrap (x9 + (s2.size : Int))) (IntKind.i64.wrap (x8 + (s2.size : Int))) (x6 ++ [.agg [.int .i64 n1, .str s2, .int .i64 n3, .int .i64 x7, .int .i64 x8]])))) := by kernel_rfl
theorem g20_eq (a0 : ByteArray) : SS.CC 20 [.str a0] [] =
    bsel (decide (65536 < (a0.size : Int))) (some (.tuple [.sl false 5 [], .int .i64 1, .int .i64 1, .int .i64 15], [])) (g20_L7 a0 1 0 1 []) := (CC_run SS_ok rfl).trans (by kernel_rfl)
/-! overseer/overseerlaw16.token -/
noncomputable def g42_c : Code := bodyOf Try.f42
noncomputable def g42_E : AE := SS.ae 42 81
noncomputable def g42_X : XE := SS.xe SS.CC SS.LL g42_E 0
noncomputable def g42_K0 : AX → ASt → R := retK SS.P Try.f42.results.toList (SS.prm 42).ro 0 []
noncomputable def g42_c1 : Code := Code.sub [true, true, true] g42_c
noncomputable def g42_K1 : AX → ASt → R := thenK (joinX g42_E 0 g42_c1 (exK g42_X g42_c1 g42_K0)) g42_K0
noncomputable def g42_K2 : AX → ASt → R := blkK 0 g42_K1
noncomputable def g42_c2 : Code := Code.sub [true, true, false, false, false] g42_c
noncomputable def g42_c3 : Code := Code.sub [true, true, true, true] g42_c
noncomputable def g42_c4 : Code := Code.sub [true, true, true, true, true] g42_c
noncomputable def g42_K3 : AX → ASt → R := thenK (joinX g42_E 0 g42_c4 (exK g42_X g42_c4 g42_K0)) g42_K0
noncomputable def g42_K4 : AX → ASt → R := blkK 3 g42_K3
noncomputable def g42_c5 : Code := Code.sub [true, true, true, true, false, true, false, false] g42_c
noncomputable def g42_c6 : Code := Code.sub [true, true, true, true, true, true] g42_c
noncomputable def g42_L3 (x0 : ByteArray) (x4 : Int) : R := SS.LL g42_E 0 [0, 2, 4] 1 g42_c2 g42_K2 ⟨[(0, .str x0), (2, .ptr 0 0), (4, .int .i64 x4)], [some [.int .i64 0, .str ⟨#[]⟩, .int .i64 0, .int .i64 0, .int .i64 0]]⟩
noncomputable def g42_J5 (x0 : ByteArray) (x4 : Int) : R := exK g42_X g42_c1 g42_K0 ⟨[(0, .str x0), (2, .ptr 0 0), (4, .int .i64 x4)], [some [.int .i64 0, .str ⟨#[]⟩, .int .i64 0, .int .i64 0, .int .i64 0]]⟩
noncomputable def g42_J14 (x0 : ByteArray) (x4 : Int) : R := exK g42_X g42_c3 g42_K0 ⟨[(0, .str x0), (2, .ptr 0 0), (4, .int .i64 x4)], [some [.int .i64 0, .str ⟨#[]⟩, .int .i64 0, .int .i64 0, .int .i64 0]]⟩
noncomputable def g42_L15 (x0 : ByteArray) (x4 : Int) (x6 : Int) : R := SS.LL g42_E 0 [0, 2, 4, 6] 1 g42_c5 g42_K4 ⟨[(0, .str x0), (2, .ptr 0 0), (4, .int .i64 x4), (6, .int .i64 x6)], [some [.int .i64 0, .str ⟨#[]⟩, .int .i64 0, .int .i64 0, .int .i64 0]]⟩
noncomputable def g42_J21 (x0 : ByteArray) (x4 : Int) : R := exK g42_X g42_c6 g42_K0 ⟨[(0, .str x0), (2, .ptr 0 0), (4, .int .i64 x4)], [some [.int .i64 0, .str ⟨#[]⟩, .int .i64 0, .int .i64 0, .int .i64 0]]⟩
theorem g42_L3_eq (x0 : ByteArray) (x4 : Int) : g42_L3 x0 x4 =
    bsel (decide (x4 < (x0.size : Int))) (byteX x0 x4 fun c1 => clX SS.CC 71 [.int .u8 c1] fun r3 => vB r3 fun b2 => bsel b2 (g42_L3 x0 (IntKind.i64.wrap (x4 + 1))) (g42_J5 x0 x4)) (g42_J5 x0 x4) := (LL_eq SS_ok (by decide) (by kernel_rfl) (by kernel_rfl)).trans (by kernel_rfl)
theorem g42_J5_eq (x0 : ByteArray) (x4 : Int) : g42_J5 x0 x4 =
    bsel (x4 == 0) (clX SS.CC 72 [.str x0] fun r2 => vS r2 fun s1 => bsel (!(s1.toList == (⟨#[]⟩ : ByteArray).toList)) (some (.tuple [.agg [.int .i64 3, .str s1, .int .i64 0, .int .i64 0, .int .i64 0], .int .i64 0], [])) (some (.tuple [.agg [.int .i64 0, .str ⟨#[]⟩, .int .i64 0, .int .i64 0, .int .i64 0], .int .i64 14], []))) (byteX x0 0 fun c3 => clX SS.CC 73 [.int .u8 c3] fun r5 => vB r5 fun b4 => bsel (!b4) (bsel (decide (32 < x4)) (some (.tuple [.agg [.int .i64 0, .str ⟨#[]⟩, .int .i64 0, .int .i64 0, .int .i64 0], .int .i64 15], [])) (byteX x0 0 fun c6 => clX SS.CC 73 [.int .u8 c6] fun r8 => vB r8 fun b7 => bsel (!b7) (chk (decide (0 ≤ x4) && decide (x4 ≤ (x0.size : Int))) (some (.tuple [.agg [.int .i64 1, .str (x0.extract 0 x4.toNat), .int .i64 0, .int .i64 0, .int .i64 0], .int .i64 0], []))) (g42_J14 x0 x4))) (byteX x0 0 fun c9 => clX SS.CC 73 [.int .u8 c9] fun r11 => vB r11 fun b10 => bsel (!b10) (chk (decide (0 ≤ x4) && decide (x4 ≤ (x0.size : Int))) (some (.tuple [.agg [.int .i64 1, .str (x0.extract 0 x4.toNat), .int .i64 0, .int .i64 0, .int .i64 0], .int .i64 0], []))) (g42_J14 x0 x4))) := by kernel_rfl
theorem g42_J14_eq (x0 : ByteArray) (x4 : Int) : g42_J14 x0 x4 =
    g42_L15 x0 x4 0 := by kernel_rfl
theorem g42_L15_eq (x0 : ByteArray) (x4 : Int) (x6 : Int) : g42_L15 x0 x4 x6 =
    bsel (decide (x6 < x4)) (byteX x0 x6 fun c1 => clX SS.CC 73 [.int .u8 c1] fun r3 => vB r3 fun b2 => bsel (!b2) (some (.tuple [.agg [.int .i64 0, .str ⟨#[]⟩, .int .i64 0, .int .i64 0, .int .i64 0], .int .i64 6], [])) (g42_L15 x0 x4 (IntKind.i64.wrap (x6 + 1)))) (byteX x0 0 fun c4 => bsel (c4 == 48) (bsel (decide (1 < x4)) (some (.tuple [.agg [.int .i64 0, .str ⟨#[]⟩, .int .i64 0, .int .i64 0, .int .i64 0], .int .i64 6], [])) (g42_J21 x0 x4)) (g42_J21 x0 x4)) := (LL_eq SS_ok (by decide) (by kernel_rfl) (by kernel_rfl)).trans (by kernel_rfl)
theorem g42_J21_eq (x0 : ByteArray) (x4 : Int) : g42_J21 x0 x4 =
    chk (decide (0 ≤ x4) && decide (x4 ≤ (x0.size : Int))) (clX SS.CC 74 [.str (x0.extract 0 x4.toNat)] fun r2 => vI .i64 r2 fun n1 => bsel (decide (65536 < n1)) (some (.tuple [.agg [.int .i64 0, .str ⟨#[]⟩, .int .i64 0, .int .i64 0, .int .i64 0], .int .i64 2], [])) (chk (decide (0 ≤ x4) && decide (x4 ≤ (x0.size : Int))) (chk (decide (0 ≤ x4) && decide (x4 ≤ (x0.size : Int))) (clX SS.CC 74 [.str (x0.extract 0 x4.toNat)] fun r4 => vI .i64 r4 fun n3 => some (.tuple [.agg [.int .i64 2, .str (x0.extract 0 x4.toNat), .int .i64 n3, .int .i64 0, .int .i64 0], .int .i64 0], []))))) := by kernel_rfl
theorem g42_eq (a0 : ByteArray) : SS.CC 42 [.str a0] [] =
    g42_L3 a0 0 := (CC_run SS_ok rfl).trans (by kernel_rfl)
/-! overseer/overseerlaw16.isWord -/
noncomputable def g71_c : Code := bodyOf Try.f71
noncomputable def g71_E : AE := SS.ae 71 25
noncomputable def g71_X : XE := SS.xe SS.CC SS.LL g71_E 0
theorem g71_eq (a0 : Int) : SS.CC 71 [.int .u8 a0] [] =
    bsel (decide (97 ≤ a0)) (bsel (decide (a0 ≤ 122)) (some (.bool true, [])) (bsel (decide (65 ≤ a0)) (bsel (decide (a0 ≤ 90)) (some (.bool true, [])) (bsel (a0 == 95) (some (.bool true, [])) (clX SS.CC 73 [.int .u8 a0] fun r2 => vB r2 fun b1 => some (.bool b1, [])))) (bsel (a0 == 95) (some (.bool true, [])) (clX SS.CC 73 [.int .u8 a0] fun r4 => vB r4 fun b3 => some (.bool b3, []))))) (bsel (decide (65 ≤ a0)) (bsel (decide (a0 ≤ 90)) (some (.bool true, [])) (bsel (a0 == 95) (some (.bool true, [])) (clX SS.CC 73 [.int .u8 a0] fun r6 => vB r6 fun b5 => some (.bool b5, [])))) (bsel (a0 == 95) (some (.bool true, [])) (clX SS.CC 73 [.int .u8 a0] fun r8 => vB r8 fun b7 => some (.bool b7, [])))) := (CC_run SS_ok rfl).trans (by kernel_rfl)
/-! overseer/overseerlaw16.symbol -/
noncomputable def g72_c : Code := bodyOf Try.f72
noncomputable def g72_E : AE := SS.ae 72 26
noncomputable def g72_X : XE := SS.xe SS.CC SS.LL g72_E 0
noncomputable def g72_K0 : AX → ASt → R := retK SS.P Try.f72.results.toList (SS.prm 72).ro 0 []
noncomputable def g72_c1 : Code := Code.sub [true, true] g72_c
noncomputable def g72_K1 : AX → ASt → R := thenK (joinX g72_E 0 g72_c1 (exK g72_X g72_c1 g72_K0)) g72_K0
noncomputable def g72_K2 : AX → ASt → R := blkK 0 g72_K1
noncomputable def g72_c2 : Code := Code.sub [true, false, true, false, false] g72_c
noncomputable def g72_L3 (x0 : ByteArray) (x5 : List PV) (x7 : Int) : R := SS.LL g72_E 0 [0, 5, 6, 7] 0 g72_c2 g72_K2 ⟨[(0, .str x0), (5, .sl false 1 x5), (6, .int .i64 (x5.length : Int)), (7, .int .i64 x7)], []⟩
theorem g72_L3_eq (x0 : ByteArray) (x5 : List PV) (x7 : Int) : g72_L3 x0 x5 x7 =
    bsel (decide (x7 < (x5.length : Int))) (lgetX x5 x7 fun e1 => vS e1 fun s2 => bsel (decide ((s2.size : Int) ≤ (x0.size : Int))) (chk (decide (0 ≤ (s2.size : Int)) && decide ((s2.size : Int) ≤ (x0.size : Int))) (bsel ((x0.extract 0 (s2.size : Int).toNat).toList == s2.toList) (some (.str s2, [])) (g72_L3 x0 x5 (IntKind.i64.wrap (x7 + 1))))) (g72_L3 x0 x5 (IntKind.i64.wrap (x7 + 1)))) (some (.str ⟨#[]⟩, [])) := (LL_eq SS_ok (by decide) (by kernel_rfl) (by kernel_rfl)).trans (by kernel_rfl)
theorem g72_eq (a0 : ByteArray) : SS.CC 72 [.str a0] [] =
    clX SS.CC 88 [] fun r2 => vL false 1 r2 fun l1 => g72_L3 a0 l1 0 := (CC_run SS_ok rfl).trans (by kernel_rfl)
/-! overseer/overseerlaw16.isDigit -/
noncomputable def g73_c : Code := bodyOf Try.f73
noncomputable def g73_E : AE := SS.ae 73 9
noncomputable def g73_X : XE := SS.xe SS.CC SS.LL g73_E 0
theorem g73_eq (a0 : Int) : SS.CC 73 [.int .u8 a0] [] =
    bsel (decide (48 ≤ a0)) (some (.bool (decide (a0 ≤ 57)), [])) (some (.bool false, [])) := (CC_run SS_ok rfl).trans (by kernel_rfl)
/-! overseer/overseerlaw16.value -/
noncomputable def g74_c : Code := bodyOf Try.f74
noncomputable def g74_E : AE := SS.ae 74 21
noncomputable def g74_X : XE := SS.xe SS.CC SS.LL g74_E 0
noncomputable def g74_K0 : AX → ASt → R := retK SS.P Try.f74.results.toList (SS.prm 74).ro 0 []
noncomputable def g74_c1 : Code := Code.sub [true, true, true] g74_c
noncomputable def g74_K1 : AX → ASt → R := thenK (joinX g74_E 0 g74_c1 (exK g74_X g74_c1 g74_K0)) g74_K0
noncomputable def g74_K2 : AX → ASt → R := blkK 0 g74_K1
noncomputable def g74_c2 : Code := Code.sub [true, true, false, true, false, false] g74_c
noncomputable def g74_L4 (x0 : ByteArray) (x3 : Int) (x4 : Int) : R := SS.LL g74_E 0 [0, 3, 4] 0 g74_c2 g74_K2 ⟨[(0, .str x0), (3, .int .i64 x3), (4, .int .i64 x4)], []⟩
theorem g74_L4_eq (x0 : ByteArray) (x3 : Int) (x4 : Int) : g74_L4 x0 x3 x4 =
    bsel (decide (x4 < (x0.size : Int))) (byteX x0 x4 fun c1 => g74_L4 x0 (if (65537 : Int) < (IntKind.i64.wrap ((IntKind.i64.wrap (10 * x3)) + (IntKind.i64.wrap (IntKind.u8.wrap (c1 - 48))))) then (65537 : Int) else (IntKind.i64.wrap ((IntKind.i64.wrap (10 * x3)) + (IntKind.i64.wrap (IntKind.u8.wrap (c1 - 48)))))) (IntKind.i64.wrap (x4 + 1))) (some (.int .i64 x3, [])) := (LL_eq SS_ok (by decide) (by kernel_rfl) (by kernel_rfl)).trans (by kernel_rfl)
theorem g74_eq (a0 : ByteArray) : SS.CC 74 [.str a0] [] =
    g74_L4 a0 0 0 := (CC_run SS_ok rfl).trans (by kernel_rfl)
/-! overseer/overseerlaw16.symbols -/
noncomputable def g88_c : Code := bodyOf Try.f88
noncomputable def g88_E : AE := SS.ae 88 2
noncomputable def g88_X : XE := SS.xe SS.CC SS.LL g88_E 0
theorem g88_eq : SS.CC 88 [] [] =
    some (.sl false 1 [.str ⟨#[45, 62]⟩, .str ⟨#[58, 61]⟩, .str ⟨#[61, 61]⟩, .str ⟨#[33, 61]⟩, .str ⟨#[60, 61]⟩, .str ⟨#[62, 61]⟩, .str ⟨#[46, 46]⟩, .str ⟨#[38, 38]⟩, .str ⟨#[124, 124]⟩, .str ⟨#[123]⟩, .str ⟨#[125]⟩, .str ⟨#[40]⟩, .str ⟨#[41]⟩, .str ⟨#[91]⟩, .str ⟨#[93]⟩, .str ⟨#[44]⟩, .str ⟨#[59]⟩, .str ⟨#[58]⟩, .str ⟨#[61]⟩, .str ⟨#[60]⟩, .str ⟨#[62]⟩, .str ⟨#[43]⟩, .str ⟨#[45]⟩, .str ⟨#[42]⟩, .str ⟨#[33]⟩, .str ⟨#[63]⟩], []) := (CC_run SS_ok rfl).trans (by kernel_rfl)
end Go.Proofs.Ytoajpgclgdhhlaa.W

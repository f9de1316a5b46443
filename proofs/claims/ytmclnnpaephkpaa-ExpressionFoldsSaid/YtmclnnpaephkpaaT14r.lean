/-
  Functions as equations. Printed by a program (wip/tool/dc.py).
-/
import Derived.Test.YtmclnnpaephkpaaB14
namespace Go.Proofs.Ytmclnnpaephkpaa
set_option linter.unusedVariables false
set_option linter.unusedSimpArgs false
set_option linter.unnecessarySimpa false
set_option linter.unusedSectionVars false
open Go.RowKit
set_option maxRecDepth 1000000
/-! overseer/overseerlaw14.Ranges -/
noncomputable def g22_c : Code := bodyOf Try.f22
noncomputable def g22_E : AE := SS.ae 22 60
noncomputable def g22_X : XE := SS.xe SS.CC SS.LL g22_E 0
noncomputable def g22_K0 : AX → ASt → R := retK SS.P Try.f22.results.toList (SS.prm 22).ro 0 []
noncomputable def g22_c1 : Code := Code.sub [true, true, true] g22_c
noncomputable def g22_K1 : AX → ASt → R := thenK (joinX g22_E 0 g22_c1 (exK g22_X g22_c1 g22_K0)) g22_K0
noncomputable def g22_K2 : AX → ASt → R := blkK 0 g22_K1
noncomputable def g22_c2 : Code := Code.sub [true, true, false, true, false, false] g22_c
noncomputable def g22_L4 (x0 : List PV) (x3 : List PV) (x4 : Int) : R := SS.LL g22_E 0 [0, 3, 4] 0 g22_c2 g22_K2 ⟨[(0, .sl false 2 x0), (3, .sl true 4 x3), (4, .int .i64 x4)], []⟩
theorem g22_L4_eq (x0 : List PV) (x3 : List PV) (x4 : Int) : g22_L4 x0 x3 x4 =
    bsel (decide (x4 < (x0.length : Int))) (bsel (decide (x4 < 3)) (lgetX x0 x4 fun e1 => v62 e1 fun n2 n3 => lgetX x0 x4 fun e4 => v62 e4 fun n5 n6 => chk (bytesP [.int .u8 (IntKind.u8.wrap (48 + (IntKind.u8.wrap x4)))]) (chk (decide ((⟨#[120]⟩ : ByteArray).size + (strOf [.int .u8 (IntKind.u8.wrap (48 + (IntKind.u8.wrap x4)))]).size ≤ LIM)) (lgetX x0 x4 fun e7 => v62 e7 fun n8 n9 => chk (!((IntKind.i64.wrap ((IntKind.i64.wrap (Int.tmod (IntKind.u8.wrap n6) 4)) + 1)) == 0)) (chk (decide (x3.length + 1 ≤ LIM)) (g22_L4 x0 (x3 ++ [.agg [.str ((⟨#[120]⟩ : ByteArray) ++ (strOf [.int .u8 (IntKind.u8.wrap (48 + (IntKind.u8.wrap x4)))])), .int .i64 (IntKind.i64.wrap (Int.tmod n2 5)), .int .i64 (IntKind.i64.wrap ((IntKind.i64.wrap (Int.tmod n2 5)) + (IntKind.i64.wrap (Int.tmod (IntKind.u8.wrap n6) 4)))), .int .i64 (IntKind.i64.wrap ((IntKind.i64.wrap (Int.tmod n2 5)) + (Int.tmod (IntKind.i64.wrap (IntKind.u8.wrap (Int.tdiv (IntKind.u8.wrap n9) 4))) (IntKind.i64.wrap ((IntKind.i64.wrap (Int.tmod (IntKind.u8.wrap n6) 4)) + 1)))))]]) (IntKind.i64.wrap (x4 + 1))))))) (some (.sl false 4 x3, []))) (some (.sl false 4 x3, [])) := (LL_eq SS_ok (by decide) (by kernel_rfl) (by kernel_rfl)).trans (by kernel_rfl)
theorem g22_eq (a0 : List PV) : SS.CC 22 [.sl false 2 a0] [] =
    g22_L4 a0 [] 0 := (CC_run SS_ok rfl).trans (by kernel_rfl)
/-! overseer/overseerlaw14.within -/
noncomputable def g27_c : Code := bodyOf Try.f27
noncomputable def g27_E : AE := SS.ae 27 40
noncomputable def g27_X : XE := SS.xe SS.CC SS.LL g27_E 0
noncomputable def g27_K0 : AX → ASt → R := retK SS.P Try.f27.results.toList (SS.prm 27).ro 0 []
noncomputable def g27_c1 : Code := Code.sub [true, true, true] g27_c
noncomputable def g27_K1 : AX → ASt → R := thenK (joinX g27_E 0 g27_c1 (exK g27_X g27_c1 g27_K0)) g27_K0
noncomputable def g27_K2 : AX → ASt → R := blkK 0 g27_K1
noncomputable def g27_c2 : Code := Code.sub [true, true, false, true, false, false] g27_c
noncomputable def g27_L4 (x0 : List PV) (x3 : Int) (x3_a : Int) (x3_b : Int) (x5 : List PV) (x6 : Int) : R := SS.LL g27_E 0 [0, 3, 5, 6] 0 g27_c2 g27_K2 ⟨[(0, .sl false 4 x0), (3, .cst (.agg [.int .u8 x3, .int .u8 x3_a, .int .u8 x3_b])), (5, .sl true 1 x5), (6, .int .i64 x6)], []⟩
theorem g27_L4_eq (x0 : List PV) (x3 : Int) (x3_a : Int) (x3_b : Int) (x5 : List PV) (x6 : Int) : g27_L4 x0 x3 x3_a x3_b x5 x6 =
    bsel (decide (x6 < (x0.length : Int))) (lgetX x0 x6 fun e1 => v47 e1 fun s2 n3 n4 n5 => chk (decide (x6 < (3 : Int))) (lgetX [.int .u8 x3, .int .u8 x3_a, .int .u8 x3_b] x6 fun e6 => vI .u8 e6 fun n7 => lgetX x0 x6 fun e8 => v47 e8 fun s9 n10 n11 n12 => lgetX x0 x6 fun e13 => v47 e13 fun s14 n15 n16 n17 => chk (!((IntKind.i64.wrap ((IntKind.i64.wrap (n11 - n15)) + 1)) == 0)) (chk (decide (x5.length + 1 ≤ LIM)) (g27_L4 x0 x3 x3_a x3_b (x5 ++ [.int .i64 (IntKind.i64.wrap (n3 + (Int.tmod (IntKind.i64.wrap n7) (IntKind.i64.wrap ((IntKind.i64.wrap (n11 - n15)) + 1)))))]) (IntKind.i64.wrap (x6 + 1)))))) (some (.sl true 1 x5, [])) := (LL_eq SS_ok (by decide) (by kernel_rfl) (by kernel_rfl)).trans (by kernel_rfl)
theorem g27_eq (a0 : List PV) (a1 : Int) (a1_1 : Int) (a1_2 : Int) : SS.CC 27 [.sl false 4 a0, .agg [.int .u8 a1, .int .u8 a1_1, .int .u8 a1_2]] [] =
    g27_L4 a0 a1 a1_1 a1_2 [] 0 := (CC_run SS_ok rfl).trans (by kernel_rfl)
/-! overseer/expression.Within -/
noncomputable def g28_c : Code := bodyOf Try.f28
noncomputable def g28_E : AE := SS.ae 28 36
noncomputable def g28_X : XE := SS.xe SS.CC SS.LL g28_E 0
noncomputable def g28_K0 : AX → ASt → R := retK SS.P Try.f28.results.toList (SS.prm 28).ro 0 []
noncomputable def g28_c1 : Code := Code.sub [true, true, true] g28_c
noncomputable def g28_K1 : AX → ASt → R := thenK (joinX g28_E 0 g28_c1 (exK g28_X g28_c1 g28_K0)) g28_K0
noncomputable def g28_K2 : AX → ASt → R := blkK 0 g28_K1
noncomputable def g28_c2 : Code := Code.sub [true, true, false, true, false, false] g28_c
noncomputable def g28_L5 (x1 : List PV) (x12 : List PV) (x14 : Int) : R := SS.LL g28_E 0 [1, 12, 13, 14] 0 g28_c2 g28_K2 ⟨[(1, .sl false 1 x1), (12, .sl false 4 x12), (13, .int .i64 (x12.length : Int)), (14, .int .i64 x14)], []⟩
theorem g28_L5_eq (x1 : List PV) (x12 : List PV) (x14 : Int) : g28_L5 x1 x12 x14 =
    bsel (decide (x14 < (x12.length : Int))) (lgetX x12 x14 fun e1 => v47 e1 fun s2 n3 n4 n5 => lgetX x1 x14 fun e6 => vI .i64 e6 fun n7 => bsel (decide (n7 < n3)) (some (.bool false, [])) (lgetX x1 x14 fun e8 => vI .i64 e8 fun n9 => bsel (decide (n4 < n9)) (some (.bool false, [])) (g28_L5 x1 x12 (IntKind.i64.wrap (x14 + 1))))) (some (.bool true, [])) := (LL_eq SS_ok (by decide) (by kernel_rfl) (by kernel_rfl)).trans (by kernel_rfl)
theorem g28_eq (a0 : List PV) (a1 : List PV) : SS.CC 28 [.sl false 4 a0, .sl false 1 a1] [] =
    bsel ((a0.length : Int) != (a1.length : Int)) (some (.bool false, [])) (g28_L5 a1 a0 0) := (CC_run SS_ok rfl).trans (by kernel_rfl)
end Go.Proofs.Ytmclnnpaephkpaa

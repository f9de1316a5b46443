/-
  Functions as equations. Printed by a program (wip/tool/dc.py).
-/
import Derived.Test.YtoajpgclgdhhlaaW16
namespace Go.Proofs.Ytoajpgclgdhhlaa.W
set_option linter.unusedVariables false
set_option linter.unusedSimpArgs false
set_option linter.unnecessarySimpa false
set_option linter.unusedSectionVars false
open Go.RowKit
set_option maxRecDepth 1000000
/-! overseer/overseerlaw16.LexerLengths -/
noncomputable def g3_c : Code := bodyOf Try.f3
noncomputable def g3_E : AE := SS.ae 3 155
noncomputable def g3_X : XE := SS.xe SS.CC SS.LL g3_E 0
noncomputable def g3_K0 : AX → ASt → R := retK SS.P Try.f3.results.toList (SS.prm 3).ro 0 []
noncomputable def g3_c1 : Code := Code.sub [true, true, true, true, true] g3_c
noncomputable def g3_K1 : AX → ASt → R := thenK (joinX g3_E 0 g3_c1 (exK g3_X g3_c1 g3_K0)) g3_K0
noncomputable def g3_K2 : AX → ASt → R := blkK 0 g3_K1
noncomputable def g3_c2 : Code := Code.sub [true, true, true, true, false, true, false, false] g3_c
noncomputable def g3_c3 : Code := Code.sub [true, true, true, true, true, true, true] g3_c
noncomputable def g3_K3 : AX → ASt → R := thenK (joinX g3_E 0 g3_c3 (exK g3_X g3_c3 g3_K0)) g3_K0
noncomputable def g3_K4 : AX → ASt → R := blkK 2 g3_K3
noncomputable def g3_c4 : Code := Code.sub [true, true, true, true, true, true, false, true, false, false] g3_c
noncomputable def g3_L7 (x3 : Int) (x4 : Nat) (o0 : List PV) (x5 : Int) : R := SS.LL g3_E 0 [3, 4, 5] 1 g3_c2 g3_K2 ⟨[(3, .int .i64 x3), (4, .slh 0 0 x4 1), (5, .int .i64 x5)], [some o0]⟩
noncomputable def g3_L12 (x3 : Int) (x4 : Nat) (o0 : List PV) (x7 : Int) (o1 : List PV) : R := SS.LL g3_E 0 [3, 4, 6, 7] 2 g3_c4 g3_K4 ⟨[(3, .int .i64 x3), (4, .slh 0 0 x4 1), (6, .slh 1 0 ((IntKind.i64.wrap (32 + x3)).toNat) 1), (7, .int .i64 x7)], [some o0, some o1]⟩
theorem g3_L7_eq (x3 : Int) (x4 : Nat) (o0 : List PV) (x5 : Int) : g3_L7 x3 x4 o0 x5 =
    chk (o0.all plainC && true) (bsel (decide (x5 < (x4 : Int))) (chk (o0.all plainC && true) (chk (decide (0 ≤ x5) && decide (x5 < (x4 : Int))) (chk (decide (x5.toNat < o0.length)) (chk ((o0.set x5.toNat (.int .u8 32)).all plainC && true) (g3_L7 x3 x4 (o0.set x5.toNat (.int .u8 32)) (IntKind.i64.wrap (x5 + 1))))))) (chk (o0.all plainC && true) (chk (decide ((IntKind.i64.wrap (32 + x3)) = (IntKind.i64.wrap (32 + x3))) && decide (0 ≤ (IntKind.i64.wrap (32 + x3))) && decide ((IntKind.i64.wrap (32 + x3)) ≤ 1073741824)) (g3_L12 x3 x4 o0 0 (List.replicate ((IntKind.i64.wrap (32 + x3)).toNat) (.int .u8 0)))))) := (LL_eq SS_ok (by decide) (by kernel_rfl) (by kernel_rfl)).trans (by kernel_rfl)
theorem g3_L12_eq (x3 : Int) (x4 : Nat) (o0 : List PV) (x7 : Int) (o1 : List PV) : g3_L12 x3 x4 o0 x7 o1 =
    chk (o0.all plainC && (o1.all plainC && true)) (bsel (decide (x7 < ((IntKind.i64.wrap (32 + x3)).toNat : Int))) (chk (o0.all plainC && (o1.all plainC && true)) (chk (decide (0 ≤ x7) && decide (x7 < ((IntKind.i64.wrap (32 + x3)).toNat : Int))) (chk (decide (x7.toNat < o1.length)) (chk (o0.all plainC && ((o1.set x7.toNat (.int .u8 120)).all plainC && true)) (g3_L12 x3 x4 o0 (IntKind.i64.wrap (x7 + 1)) (o1.set x7.toNat (.int .u8 120))))))) (chk (decide (x4 * 1 ≤ o0.length) && decide (0 < 1) && o0.all fun p => p.one && p.flat) (chk (decide (((IntKind.i64.wrap (32 + x3)).toNat) * 1 ≤ o1.length) && decide (0 < 1) && o1.all fun p => p.one && p.flat) (chk (bytesP (chunkP 1 o0 x4)) (clX SS.CC 12 [.str (strOf (chunkP 1 o0 x4))] fun r5 => w_24_3_3_3 r5 fun l1 n2 n3 n4 => chk (bytesP (chunkP 1 o1 ((IntKind.i64.wrap (32 + x3)).toNat))) (chk (decide ((⟨#[32]⟩ : ByteArray).size + (strOf (chunkP 1 o1 ((IntKind.i64.wrap (32 + x3)).toNat))).size ≤ LIM)) (clX SS.CC 12 [.str ((⟨#[32]⟩ : ByteArray) ++ (strOf (chunkP 1 o1 ((IntKind.i64.wrap (32 + x3)).toNat))))] fun r10 => w_24_3_3_3 r10 fun l6 n7 n8 n9 => lgetX [.str ⟨#[54, 53, 53, 51, 54]⟩, .str ⟨#[54, 53, 53, 51, 55]⟩] x3 fun e11 => vS e11 fun s12 => clX SS.CC 12 [.str s12] fun r17 => w_24_3_3_3 r17 fun l13 n14 n15 n16 => bsel (x3 == 0) (bsel (n4 == 0) (bsel ((l1.length : Int) == 1) (bsel (n9 == 0) (bsel ((l6.length : Int) == 2) (bsel (n16 == 0) (bsel ((l13.length : Int) == 2) (lgetX l13 0 fun e18 => v29 e18 fun n19 s20 n21 n22 n23 => some (.bool (n21 == 65536), [])) (some (.bool false, []))) (some (.bool false, []))) (some (.bool false, []))) (some (.bool false, []))) (some (.bool false, []))) (some (.bool false, []))) (bsel ((IntKind.i64.wrap ((IntKind.i64.wrap ((l1.length : Int) + (l6.length : Int))) + (l13.length : Int))) == 0) (bsel (n4 == 15) (bsel (n2 == 1) (bsel (n3 == 1) (bsel (n9 == 15) (bsel (n7 == 1) (bsel (n8 == 2) (bsel (n16 == 2) (bsel (n14 == 1) (some (.bool (n15 == 1), [])) (some (.bool false, []))) (some (.bool false, []))) (some (.bool false, []))) (some (.bool false, []))) (some (.bool false, []))) (some (.bool false, []))) (some (.bool false, []))) (some (.bool false, []))) (some (.bool false, [])))))))))) := (LL_eq SS_ok (by decide) (by kernel_rfl) (by kernel_rfl)).trans (by kernel_rfl)
theorem g3_eq (a0 : Int) : SS.CC 3 [.int .u8 a0] [] =
    clX SS.CC 11 [] fun r2 => vB r2 fun b1 => bsel (!b1) (some (.bool false, [])) (chk (decide ((IntKind.i64.wrap (65536 + (IntKind.i64.wrap (Int.tmod a0 2)))) = (IntKind.i64.wrap (65536 + (IntKind.i64.wrap (Int.tmod a0 2))))) && decide (0 ≤ (IntKind.i64.wrap (65536 + (IntKind.i64.wrap (Int.tmod a0 2))))) && decide ((IntKind.i64.wrap (65536 + (IntKind.i64.wrap (Int.tmod a0 2)))) ≤ 1073741824)) (g3_L7 (IntKind.i64.wrap (Int.tmod a0 2)) ((IntKind.i64.wrap (65536 + (IntKind.i64.wrap (Int.tmod a0 2)))).toNat) (List.replicate ((IntKind.i64.wrap (65536 + (IntKind.i64.wrap (Int.tmod a0 2)))).toNat) (.int .u8 0)) 0)) := (CC_run SS_ok rfl).trans (by kernel_rfl)
end Go.Proofs.Ytoajpgclgdhhlaa.W

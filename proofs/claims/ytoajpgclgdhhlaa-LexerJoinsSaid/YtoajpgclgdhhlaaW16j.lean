/-
  Functions as equations. Printed by a program (wip/tool/dc.py).
-/
import Derived.Test.YtoajpgclgdhhlaaW16
namespace Go.Proofs.Ytoajpgclgdhhlaa.W
set_option linter.unusedVariables false
set_option linter.unusedSimpArgs false
set_option linter.unnecessarySimpa false
set_option linter.unusedSectionVars false
open Go.RowKit
set_option maxRecDepth 1000000
/-! overseer/overseerlaw16.LexerJoins -/
noncomputable def g4_c : Code := bodyOf Try.f4
noncomputable def g4_E : AE := SS.ae 4 57
noncomputable def g4_X : XE := SS.xe SS.CC SS.LL g4_E 0
theorem g4_eq (a0 : List PV) : SS.CC 4 [.sl false 5 a0] [] =
    clX SS.CC 11 [] fun r2 => vB r2 fun b1 => bsel (!b1) (clX SS.CC 11 [] fun r4 => vB r4 fun b3 => some (.bool b3, [])) (clX SS.CC 13 [.sl false 5 a0] fun r6 => vB r6 fun b5 => bsel (!b5) (clX SS.CC 11 [] fun r8 => vB r8 fun b7 => some (.bool b7, [])) (clX SS.CC 14 [.sl false 5 a0] fun r11 => w_9_3 r11 fun s9 n10 => clX SS.CC 15 [.sl false 5 a0] fun r14 => w_9_3 r14 fun s12 n13 => clX SS.CC 16 [.sl false 5 a0] fun r17 => w_9_3 r17 fun s15 n16 => clX SS.CC 17 [.sl false 5 a0] fun r20 => w_9_3 r20 fun s18 n19 => bsel (s9.toList == s15.toList) (bsel (n10 == n16) (bsel (s12.toList == s18.toList) (some (.bool (n13 == n19), [])) (some (.bool false, []))) (some (.bool false, []))) (some (.bool false, [])))) := (CC_run SS_ok rfl).trans (by kernel_rfl)
/-! overseer/overseerlaw16.few -/
noncomputable def g13_c : Code := bodyOf Try.f13
noncomputable def g13_E : AE := SS.ae 13 20
noncomputable def g13_X : XE := SS.xe SS.CC SS.LL g13_E 0
noncomputable def g13_K0 : AX → ASt → R := retK SS.P Try.f13.results.toList (SS.prm 13).ro 0 []
noncomputable def g13_c1 : Code := Code.sub [true, true] g13_c
noncomputable def g13_K1 : AX → ASt → R := thenK (joinX g13_E 0 g13_c1 (exK g13_X g13_c1 g13_K0)) g13_K0
noncomputable def g13_K2 : AX → ASt → R := blkK 0 g13_K1
noncomputable def g13_c2 : Code := Code.sub [true, false, true, false, false] g13_c
noncomputable def g13_L3 (x0 : List PV) (x3 : Int) : R := SS.LL g13_E 0 [0, 3] 0 g13_c2 g13_K2 ⟨[(0, .sl false 5 x0), (3, .int .i64 x3)], []⟩
theorem g13_L3_eq (x0 : List PV) (x3 : Int) : g13_L3 x0 x3 =
    bsel (decide (x3 < (x0.length : Int))) (lgetX x0 x3 fun e1 => v29 e1 fun n2 s3 n4 n5 n6 => bsel (decide (40 < (s3.size : Int))) (some (.bool false, [])) (g13_L3 x0 (IntKind.i64.wrap (x3 + 1)))) (some (.bool (decide ((x0.length : Int) ≤ 12)), [])) := (LL_eq SS_ok (by decide) (by kernel_rfl) (by kernel_rfl)).trans (by kernel_rfl)
theorem g13_eq (a0 : List PV) : SS.CC 13 [.sl false 5 a0] [] =
    g13_L3 a0 0 := (CC_run SS_ok rfl).trans (by kernel_rfl)
/-! overseer/lexer.Join -/
noncomputable def g14_c : Code := bodyOf Try.f14
noncomputable def g14_E : AE := SS.ae 14 45
noncomputable def g14_X : XE := SS.xe SS.CC SS.LL g14_E 0
noncomputable def g14_K0 : AX → ASt → R := retK SS.P Try.f14.results.toList (SS.prm 14).ro 0 []
noncomputable def g14_c1 : Code := Code.sub [true, true, true, true] g14_c
noncomputable def g14_K1 : AX → ASt → R := thenK (joinX g14_E 0 g14_c1 (exK g14_X g14_c1 g14_K0)) g14_K0
noncomputable def g14_K2 : AX → ASt → R := blkK 0 g14_K1
noncomputable def g14_c2 : Code := Code.sub [true, true, true, false, true, false, false] g14_c
noncomputable def g14_L5 (x0 : List PV) (x4 : List PV) (x16 : Int) : R := SS.LL g14_E 0 [0, 4, 14, 15, 16] 0 g14_c2 g14_K2 ⟨[(0, .sl false 5 x0), (4, .sl true 1 x4), (14, .sl false 5 x0), (15, .int .i64 (x0.length : Int)), (16, .int .i64 x16)], []⟩
theorem g14_L5_eq (x0 : List PV) (x4 : List PV) (x16 : Int) : g14_L5 x0 x4 x16 =
    bsel (decide (x16 < (x0.length : Int))) (lgetX x0 x16 fun e1 => v29 e1 fun n2 s3 n4 n5 n6 => chk (decide (x4.length + 1 ≤ LIM)) (g14_L5 x0 (x4 ++ [.str s3]) (IntKind.i64.wrap (x16 + 1)))) (clX SS.CC 33 [.sl false 1 x4, .str ⟨#[32]⟩] fun r8 => vS r8 fun s7 => clX SS.CC 12 [.str s7] fun r13 => w_24_3_3_3 r13 fun l9 n10 n11 n12 => bsel (n12 != 0) (some (.tuple [.str ⟨#[]⟩, .int .i64 6], [])) (clX SS.CC 32 [.sl false 5 l9] fun r15 => vL false 5 r15 fun l14 => clX SS.CC 34 [.sl false 5 l14, .sl false 5 x0, .func (.func 35) [] []] fun r17 => vB r17 fun b16 => bsel (!b16) (some (.tuple [.str ⟨#[]⟩, .int .i64 6], [])) (some (.tuple [.str s7, .int .i64 0], [])))) := (LL_eq SS_ok (by decide) (by kernel_rfl) (by kernel_rfl)).trans (by kernel_rfl)
theorem g14_eq (a0 : List PV) : SS.CC 14 [.sl false 5 a0] [] =
    clX SS.CC 32 [.sl false 5 a0] fun r2 => vL false 5 r2 fun l1 => g14_L5 l1 [] 0 := (CC_run SS_ok rfl).trans (by kernel_rfl)
/-! overseer/overseerlaw16.join -/
noncomputable def g16_c : Code := bodyOf Try.f16
noncomputable def g16_E : AE := SS.ae 16 47
noncomputable def g16_X : XE := SS.xe SS.CC SS.LL g16_E 0
noncomputable def g16_K0 : AX → ASt → R := retK SS.P Try.f16.results.toList (SS.prm 16).ro 0 []
noncomputable def g16_c1 : Code := Code.sub [true, true, true, true] g16_c
noncomputable def g16_K1 : AX → ASt → R := thenK (joinX g16_E 0 g16_c1 (exK g16_X g16_c1 g16_K0)) g16_K0
noncomputable def g16_K2 : AX → ASt → R := blkK 0 g16_K1
noncomputable def g16_c2 : Code := Code.sub [true, true, true, false, true, false, false] g16_c
noncomputable def g16_K3 : AX → ASt → R := thenK (fun σ => SS.LL g16_E 0 [4, 5, 6] 0 g16_c2 g16_K2 (σ.gc [4, 5, 6] 0)) g16_K2
noncomputable def g16_c3 : Code := Code.sub [true, true, true, false, true, false, false, true, true] g16_c
noncomputable def g16_K4 : AX → ASt → R := thenK (joinX g16_E 0 g16_c3 (exK g16_X g16_c3 g16_K3)) g16_K3
noncomputable def g16_K5 : AX → ASt → R := blkK 1 g16_K4
noncomputable def g16_c4 : Code := Code.sub [true, true, true, false, true, false, false, true, false, false, true] g16_c
noncomputable def g16_L5 (x5 : List PV) (x4 : ByteArray) (x6 : Int) : R := SS.LL g16_E 0 [4, 5, 6] 0 g16_c2 g16_K2 ⟨[(4, .str x4), (5, .sl false 5 x5), (6, .int .i64 x6)], []⟩
noncomputable def g16_J9 (x5 : List PV) (x4 : ByteArray) (x6 : Int) : R := exK g16_X g16_c4 g16_K5 ⟨[(4, .str x4), (5, .sl false 5 x5), (6, .int .i64 x6)], []⟩
theorem g16_L5_eq (x5 : List PV) (x4 : ByteArray) (x6 : Int) : g16_L5 x5 x4 x6 =
    bsel (decide (x6 < (x5.length : Int))) (bsel (decide (0 < x6)) (chk (decide (x4.size + (⟨#[32]⟩ : ByteArray).size ≤ LIM)) (g16_J9 x5 (x4 ++ (⟨#[32]⟩ : ByteArray)) x6)) (g16_J9 x5 x4 x6)) (clX SS.CC 20 [.str x4] fun r5 => w_24_3_3_3 r5 fun l1 n2 n3 n4 => bsel (n4 != 0) (some (.tuple [.str ⟨#[]⟩, .int .i64 6], [])) (clX SS.CC 41 [.sl false 5 l1] fun r7 => vL false 5 r7 fun l6 => clX SS.CC 19 [.sl false 5 l6, .sl false 5 x5] fun r9 => vB r9 fun b8 => bsel (!b8) (some (.tuple [.str ⟨#[]⟩, .int .i64 6], [])) (some (.tuple [.str x4, .int .i64 0], [])))) := (LL_eq SS_ok (by decide) (by kernel_rfl) (by kernel_rfl)).trans (by kernel_rfl)
theorem g16_J9_eq (x5 : List PV) (x4 : ByteArray) (x6 : Int) : g16_J9 x5 x4 x6 =
    lgetX x5 x6 fun e1 => v29 e1 fun n2 s3 n4 n5 n6 => chk (decide (x4.size + s3.size ≤ LIM)) (g16_L5 x5 (x4 ++ s3) (IntKind.i64.wrap (x6 + 1))) := by kernel_rfl
theorem g16_eq (a0 : List PV) : SS.CC 16 [.sl false 5 a0] [] =
    clX SS.CC 41 [.sl false 5 a0] fun r2 => vL false 5 r2 fun l1 => g16_L5 l1 ⟨#[]⟩ 0 := (CC_run SS_ok rfl).trans (by kernel_rfl)
/-! overseer/lexer.without -/
noncomputable def g32_c : Code := bodyOf Try.f32
noncomputable def g32_E : AE := SS.ae 32 6
noncomputable def g32_X : XE := SS.xe SS.CC SS.LL g32_E 0
theorem g32_eq (a0 : List PV) : SS.CC 32 [.sl false 5 a0] [] =
    clX SS.CC 64 [.sl false 5 a0] fun r2 => vL true 5 r2 fun l1 => bsel (decide (0 < l1.length)) (chk (l1.all (plainE 5)) (chk ((flatPV l1).all plainC && true) (clH SS.CC 63 [.slh 0 0 l1.length 5, .func (.func 65) [] []] [some (flatPV l1)] fun r5 h6 => h63_0 r5 h6 fun k3 l4 => chk (l4.all plainC && true) (chk (decide (k3 * 5 ≤ l4.length) && decide (0 < 5) && l4.all fun p => p.one && p.flat) (some (.sl false 5 (chunkP 5 l4 k3), [])))))) (clX SS.CC 63 [.sl false 5 [], .func (.func 65) [] []] fun r8 => vL false 5 r8 fun l7 => some (.sl false 5 l7, [])) := (CC_run SS_ok rfl).trans (by kernel_rfl)
/-! slices.EqualFunc[[]overseer/lexer.Token,[]overseer/lexer.Token,overseer/lexer.Token,overseer/lexer.Token] -/
noncomputable def g34_c : Code := bodyOf Try.f34
noncomputable def g34_E : AE := SS.ae 34 32
noncomputable def g34_X : XE := SS.xe SS.CC SS.LL g34_E 0
noncomputable def g34_K0 : AX → ASt → R := retK SS.P Try.f34.results.toList (SS.prm 34).ro 0 []
noncomputable def g34_c1 : Code := Code.sub [true, true, true] g34_c
noncomputable def g34_K1 : AX → ASt → R := thenK (joinX g34_E 0 g34_c1 (exK g34_X g34_c1 g34_K0)) g34_K0
noncomputable def g34_K2 : AX → ASt → R := blkK 0 g34_K1
noncomputable def g34_c2 : Code := Code.sub [true, true, false, true, false, false] g34_c
noncomputable def g34_L5 (x1 : List PV) (x15 : List PV) (x17 : Int) : R := SS.LL g34_E 0 [1, 2, 15, 16, 17] 0 g34_c2 g34_K2 ⟨[(1, .sl false 5 x1), (2, .func (.func 35) [] []), (15, .sl false 5 x15), (16, .int .i64 (x15.length : Int)), (17, .int .i64 x17)], []⟩
theorem g34_L5_eq (x1 : List PV) (x15 : List PV) (x17 : Int) : g34_L5 x1 x15 x17 =
    bsel (decide (x17 < (x15.length : Int))) (lgetX x15 x17 fun e1 => v29 e1 fun n2 s3 n4 n5 n6 => lgetX x1 x17 fun e7 => v29 e7 fun n8 s9 n10 n11 n12 => clX SS.CC 35 [.agg [.int .i64 n2, .str s3, .int .i64 n4, .int .i64 n5, .int .i64 n6], .agg [.int .i64 n8, .str s9, .int .i64 n10, .int .i64 n11, .int .i64 n12]] fun r14 => vB r14 fun b13 => bsel (!b13) (some (.bool false, [])) (g34_L5 x1 x15 (IntKind.i64.wrap (x17 + 1)))) (some (.bool true, [])) := (LL_eq SS_ok (by decide) (by kernel_rfl) (by kernel_rfl)).trans (by kernel_rfl)
theorem g34_eq (a0 : List PV) (a1 : List PV) : SS.CC 34 [.sl false 5 a0, .sl false 5 a1, .func (.func 35) [] []] [] =
    bsel ((a0.length : Int) != (a1.length : Int)) (some (.bool false, [])) (g34_L5 a1 a0 0) := (CC_run SS_ok rfl).trans (by kernel_rfl)
/-! overseer/overseerlaw16.bare -/
noncomputable def g41_c : Code := bodyOf Try.f41
noncomputable def g41_E : AE := SS.ae 41 25
noncomputable def g41_X : XE := SS.xe SS.CC SS.LL g41_E 0
noncomputable def g41_K0 : AX → ASt → R := retK SS.P Try.f41.results.toList (SS.prm 41).ro 0 []
noncomputable def g41_c1 : Code := Code.sub [true, true, true] g41_c
noncomputable def g41_K1 : AX → ASt → R := thenK (joinX g41_E 0 g41_c1 (exK g41_X g41_c1 g41_K0)) g41_K0
noncomputable def g41_K2 : AX → ASt → R := blkK 0 g41_K1
noncomputable def g41_c2 : Code := Code.sub [true, true, false, true, false, false] g41_c
noncomputable def g41_L4 (x0 : List PV) (x3 : List PV) (x4 : Int) : R := SS.LL g41_E 0 [0, 3, 4] 0 g41_c2 g41_K2 ⟨[(0, .sl false 5 x0), (3, .sl true 5 x3), (4, .int .i64 x4)], []⟩
theorem g41_L4_eq (x0 : List PV) (x3 : List PV) (x4 : Int) : g41_L4 x0 x3 x4 =
    bsel (decide (x4 < (x0.length : Int))) (lgetX x0 x4 fun e1 => v29 e1 fun n2 s3 n4 n5 n6 => bsel (n2 != 4) (lgetX x0 x4 fun e7 => v29 e7 fun n8 s9 n10 n11 n12 => chk (decide (x3.length + 1 ≤ LIM)) (g41_L4 x0 (x3 ++ [.agg [.int .i64 n8, .str s9, .int .i64 n10, .int .i64 n11, .int .i64 n12]]) (IntKind.i64.wrap (x4 + 1)))) (g41_L4 x0 x3 (IntKind.i64.wrap (x4 + 1)))) (some (.sl false 5 x3, [])) := (LL_eq SS_ok (by decide) (by kernel_rfl) (by kernel_rfl)).trans (by kernel_rfl)
theorem g41_eq (a0 : List PV) : SS.CC 41 [.sl false 5 a0] [] =
    g41_L4 a0 [] 0 := (CC_run SS_ok rfl).trans (by kernel_rfl)
/-! slices.Clone[[]overseer/lexer.Token,overseer/lexer.Token] -/
noncomputable def g64_c : Code := bodyOf Try.f64
noncomputable def g64_E : AE := SS.ae 64 8
noncomputable def g64_X : XE := SS.xe SS.CC SS.LL g64_E 0
theorem g64_eq (a0 : List PV) : SS.CC 64 [.sl false 5 a0] [] =
    nilX a0 fun b1 => bsel (b1 == true) (some (.sl true 5 [], [])) (chk (decide (0 + a0.length ≤ LIM)) (some (.sl true 5 a0, []))) := (CC_run SS_ok rfl).trans (by kernel_rfl)
/-! slices.DeleteFunc[[]overseer/lexer.Token,overseer/lexer.Token] -/
noncomputable def g63_c : Code := bodyOf Try.f63
noncomputable def g63_E : AE := SS.ae 63 42
noncomputable def g63_X : XE := SS.xe SS.CC SS.LL g63_E 1
noncomputable def g63_K0 : AX → ASt → R := retK SS.P Try.f63.results.toList (SS.prm 63).ro 1 [0]
noncomputable def g63_c1 : Code := Code.sub [true, true, true, true] g63_c
noncomputable def g63_K1 : AX → ASt → R := thenK (joinX g63_E 1 g63_c1 (exK g63_X g63_c1 g63_K0)) g63_K0
noncomputable def g63_K2 : AX → ASt → R := blkK 0 g63_K1
noncomputable def g63_c2 : Code := Code.sub [true, true, true, false, true, false, false] g63_c
noncomputable def g63_L6 (x0 : Nat) (x5 : Int) (o0 : List PV) (x6 : Int) : R := SS.LL g63_E 1 [0, 1, 5, 6] 1 g63_c2 g63_K2 ⟨[(0, .slh 0 0 x0 5), (1, .func (.func 65) [] []), (5, .int .i64 x5), (6, .int .i64 x6)], [some o0]⟩
theorem g63_L6_eq (x0 : Nat) (x5 : Int) (o0 : List PV) (x6 : Int) : g63_L6 x0 x5 o0 x6 =
    chk (o0.all plainC && true) (bsel (decide (x6 < (x0 : Int))) (chk (o0.all plainC && true) (chk (decide (0 ≤ x6) && decide (x6 < (x0 : Int))) (chk (decide ((0 + x6.toNat * 5) + 5 ≤ o0.length)) (v29 (.agg (((o0.drop (0 + x6.toNat * 5)).take 5).map PV.un)) fun n1 s2 n3 n4 n5 => clX SS.CC 65 [.agg [.int .i64 n1, .str s2, .int .i64 n3, .int .i64 n4, .int .i64 n5]] fun r7 => vB r7 fun b6 => bsel (!b6) (chk (decide (0 ≤ x5) && decide (x5 < (x0 : Int))) (chk (decide ((0 + x5.toNat * 5) + 5 ≤ o0.length)) (chk ((o0.take (0 + x5.toNat * 5) ++ ([.int .i64 n1, .str s2, .int .i64 n3, .int .i64 n4, .int .i64 n5] : List PV) ++ o0.drop ((0 + x5.toNat * 5) + 5)).all plainC && true) (g63_L6 x0 (IntKind.i64.wrap (x5 + 1)) (o0.take (0 + x5.toNat * 5) ++ ([.int .i64 n1, .str s2, .int .i64 n3, .int .i64 n4, .int .i64 n5] : List PV) ++ o0.drop ((0 + x5.toNat * 5) + 5)) (IntKind.i64.wrap (x6 + 1)))))) (chk (o0.all plainC && true) (g63_L6 x0 x5 o0 (IntKind.i64.wrap (x6 + 1)))))))) (chk (o0.all plainC && true) (chk (decide (0 ≤ x5) && decide (x5 ≤ (x0 : Int))) (bsel (decide (x5 < (x0 : Int))) (chk (decide ((0 + x5.toNat * 5) + (x0 - x5.toNat) * 5 ≤ o0.length)) (chk (decide (0 ≤ x5) && decide (x5 ≤ (x0 : Int)) && decide (0 < x0)) (chk ((o0.take (0 + x5.toNat * 5) ++ ((List.replicate (x0 - x5.toNat) ([.int .i64 0, .str ⟨#[]⟩, .int .i64 0, .int .i64 0, .int .i64 0] : List PV)).flatten.map PV.un) ++ o0.drop ((0 + x5.toNat * 5) + (x0 - x5.toNat) * 5)).all plainC && true) (some (.slh 0 0 x5.toNat 5, [some (o0.take (0 + x5.toNat * 5) ++ ((List.replicate (x0 - x5.toNat) ([.int .i64 0, .str ⟨#[]⟩, .int .i64 0, .int .i64 0, .int .i64 0] : List PV)).flatten.map PV.un) ++ o0.drop ((0 + x5.toNat * 5) + (x0 - x5.toNat) * 5))]))))) (chk (decide (0 ≤ x5) && decide (x5 ≤ (x0 : Int)) && decide (0 < x0)) (chk (o0.all plainC && true) (some (.slh 0 0 x5.toNat 5, [some o0])))))))) := (LL_eq SS_ok (by decide) (by kernel_rfl) (by kernel_rfl)).trans (by kernel_rfl)
theorem g63_eq (a0 : Nat) (h0 : List PV) : SS.CC 63 [.slh 0 0 a0 5, .func (.func 65) [] []] [some h0] =
    chk ((decide (a0 * 5 ≤ h0.length) && decide (0 < 5) && h0.all plainC) && true) (clX SS.CC 82 [.sl false 5 (chunkP 5 h0 a0), .func (.func 65) [] []] fun r2 => vI .i64 r2 fun n1 => bsel (n1 == (-1)) (chk (h0.all plainC && true) (some (.slh 0 0 a0 5, [some h0]))) (chk (h0.all plainC && true) (g63_L6 a0 n1 h0 (IntKind.i64.wrap (n1 + 1))))) := (CC_run SS_ok rfl).trans (by kernel_rfl)
/-! overseer/lexer.Join$1 -/
noncomputable def g35_c : Code := bodyOf Try.f35
noncomputable def g35_E : AE := SS.ae 35 24
noncomputable def g35_X : XE := SS.xe SS.CC SS.LL g35_E 0
theorem g35_eq (a0 : Int) (a0_1 : ByteArray) (a0_2 : Int) (a0_3 : Int) (a0_4 : Int) (a1 : Int) (a1_1 : ByteArray) (a1_2 : Int) (a1_3 : Int) (a1_4 : Int) : SS.CC 35 [.agg [.int .i64 a0, .str a0_1, .int .i64 a0_2, .int .i64 a0_3, .int .i64 a0_4], .agg [.int .i64 a1, .str a1_1, .int .i64 a1_2, .int .i64 a1_3, .int .i64 a1_4]] [] =
    bsel (a0 == a1) (bsel (a0_1.toList == a1_1.toList) (some (.bool (a0_2 == a1_2), [])) (some (.bool false, []))) (some (.bool false, [])) := (CC_run SS_ok rfl).trans (by kernel_rfl)
/-! slices.IndexFunc[[]overseer/lexer.Token,overseer/lexer.Token] -/
noncomputable def g82_c : Code := bodyOf Try.f82
noncomputable def g82_E : AE := SS.ae 82 19
noncomputable def g82_X : XE := SS.xe SS.CC SS.LL g82_E 0
noncomputable def g82_K0 : AX → ASt → R := retK SS.P Try.f82.results.toList (SS.prm 82).ro 0 []
noncomputable def g82_c1 : Code := Code.sub [true, true] g82_c
noncomputable def g82_K1 : AX → ASt → R := thenK (joinX g82_E 0 g82_c1 (exK g82_X g82_c1 g82_K0)) g82_K0
noncomputable def g82_K2 : AX → ASt → R := blkK 0 g82_K1
noncomputable def g82_c2 : Code := Code.sub [true, false, true, false, false] g82_c
noncomputable def g82_L3 (x0 : List PV) (x8 : Int) : R := SS.LL g82_E 0 [0, 1, 7, 8] 0 g82_c2 g82_K2 ⟨[(0, .sl false 5 x0), (1, .func (.func 65) [] []), (7, .int .i64 (x0.length : Int)), (8, .int .i64 x8)], []⟩
theorem g82_L3_eq (x0 : List PV) (x8 : Int) : g82_L3 x0 x8 =
    bsel (decide (x8 < (x0.length : Int))) (lgetX x0 x8 fun e1 => v29 e1 fun n2 s3 n4 n5 n6 => clX SS.CC 65 [.agg [.int .i64 n2, .str s3, .int .i64 n4, .int .i64 n5, .int .i64 n6]] fun r8 => vB r8 fun b7 => bsel b7 (some (.int .i64 x8, [])) (g82_L3 x0 (IntKind.i64.wrap (x8 + 1)))) (some (.int .i64 (-1), [])) := (LL_eq SS_ok (by decide) (by kernel_rfl) (by kernel_rfl)).trans (by kernel_rfl)
theorem g82_eq (a0 : List PV) : SS.CC 82 [.sl false 5 a0, .func (.func 65) [] []] [] =
    g82_L3 a0 0 := (CC_run SS_ok rfl).trans (by kernel_rfl)
/-! overseer/lexer.without$1 -/
noncomputable def g65_c : Code := bodyOf Try.f65
noncomputable def g65_E : AE := SS.ae 65 6
noncomputable def g65_X : XE := SS.xe SS.CC SS.LL g65_E 0
theorem g65_eq (a0 : Int) (a0_1 : ByteArray) (a0_2 : Int) (a0_3 : Int) (a0_4 : Int) : SS.CC 65 [.agg [.int .i64 a0, .str a0_1, .int .i64 a0_2, .int .i64 a0_3, .int .i64 a0_4]] [] =
    some (.bool (a0 == 4), []) := (CC_run SS_ok rfl).trans (by kernel_rfl)
end Go.Proofs.Ytoajpgclgdhhlaa.W

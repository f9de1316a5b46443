/-
  Functions as equations. Printed by a program (wip/tool/dc.py).
-/
import Derived.Test.YtoajpgclgdhhlaaB16
namespace Go.Proofs.Ytoajpgclgdhhlaa
set_option linter.unusedVariables false
set_option linter.unusedSimpArgs false
set_option linter.unnecessarySimpa false
set_option linter.unusedSectionVars false
open Go.RowKit
set_option maxRecDepth 1000000
/-! overseer/lexer.skip -/
noncomputable def g59_c : Code := bodyOf Try.f59
noncomputable def g59_E : AE := SS.ae 59 34
noncomputable def g59_X : XE := SS.xe SS.CC SS.LL g59_E 0
noncomputable def g59_K0 : AX → ASt → R := retK SS.P Try.f59.results.toList (SS.prm 59).ro 0 []
noncomputable def g59_c1 : Code := Code.sub [true, true, true] g59_c
noncomputable def g59_K1 : AX → ASt → R := thenK (joinX g59_E 0 g59_c1 (exK g59_X g59_c1 g59_K0)) g59_K0
noncomputable def g59_K2 : AX → ASt → R := blkK 0 g59_K1
noncomputable def g59_c2 : Code := Code.sub [true, true, false, false, false] g59_c
noncomputable def g59_L3 (x0 : ByteArray) (x3 : Int) : R := SS.LL g59_E 0 [0, 3] 0 g59_c2 g59_K2 ⟨[(0, .str x0), (3, .int .i64 x3)], []⟩
theorem g59_L3_eq (x0 : ByteArray) (x3 : Int) : g59_L3 x0 x3 =
    bsel (decide (x3 < (x0.size : Int))) (byteX x0 x3 fun c1 => clX SS.CC 75 [.int .u8 c1] fun r3 => vB r3 fun b2 => bsel b2 (g59_L3 x0 (IntKind.i64.wrap (x3 + 1))) (chk (decide (0 ≤ x3) && decide (x3 ≤ (x0.size : Int))) (clX SS.CC 69 [.str (x0.extract x3.toNat x0.size), .str ⟨#[47, 47]⟩] fun r5 => vB r5 fun b4 => bsel b4 (chk (decide (0 ≤ x3) && decide (x3 ≤ (x0.size : Int))) (clX SS.CC 76 [.str (x0.extract x3.toNat x0.size), .int .u8 10] fun r7 => vI .i64 r7 fun n6 => bsel (decide (n6 < 0)) (some (.int .i64 (x0.size : Int), [])) (g59_L3 x0 (IntKind.i64.wrap (x3 + n6))))) (some (.int .i64 x3, []))))) (some (.int .i64 x3, [])) := (LL_eq SS_ok (by decide) (by kernel_rfl) (by kernel_rfl)).trans (by kernel_rfl)
theorem g59_eq (a0 : ByteArray) : SS.CC 59 [.str a0] [] =
    g59_L3 a0 0 := (CC_run SS_ok rfl).trans (by kernel_rfl)
/-! overseer/lexer.symbol -/
noncomputable def g61_c : Code := bodyOf Try.f61
noncomputable def g61_E : AE := SS.ae 61 19
noncomputable def g61_X : XE := SS.xe SS.CC SS.LL g61_E 0
noncomputable def g61_K0 : AX → ASt → R := retK SS.P Try.f61.results.toList (SS.prm 61).ro 0 []
noncomputable def g61_c1 : Code := Code.sub [true, true] g61_c
noncomputable def g61_K1 : AX → ASt → R := thenK (joinX g61_E 0 g61_c1 (exK g61_X g61_c1 g61_K0)) g61_K0
noncomputable def g61_K2 : AX → ASt → R := blkK 0 g61_K1
noncomputable def g61_c2 : Code := Code.sub [true, false, true, false, false] g61_c
noncomputable def g61_L3 (x0 : ByteArray) (x6 : List PV) (x8 : Int) : R := SS.LL g61_E 0 [0, 2, 6, 7, 8] 1 g61_c2 g61_K2 ⟨[(0, .str x0), (2, .ptr 0 0), (6, .sl false 1 x6), (7, .int .i64 (x6.length : Int)), (8, .int .i64 x8)], [some [.int .i64 0, .str ⟨#[]⟩, .int .i64 0, .int .i64 0, .int .i64 0]]⟩
theorem g61_L3_eq (x0 : ByteArray) (x6 : List PV) (x8 : Int) : g61_L3 x0 x6 x8 =
    bsel (decide (x8 < (x6.length : Int))) (lgetX x6 x8 fun e1 => vS e1 fun s2 => clX SS.CC 69 [.str x0, .str s2] fun r4 => vB r4 fun b3 => bsel b3 (some (.tuple [.agg [.int .i64 3, .str s2, .int .i64 0, .int .i64 0, .int .i64 0], .int .i64 0], [])) (g61_L3 x0 x6 (IntKind.i64.wrap (x8 + 1)))) (some (.tuple [.agg [.int .i64 0, .str ⟨#[]⟩, .int .i64 0, .int .i64 0, .int .i64 0], .int .i64 14], [])) := (LL_eq SS_ok (by decide) (by kernel_rfl) (by kernel_rfl)).trans (by kernel_rfl)
theorem g61_eq (a0 : ByteArray) : SS.CC 61 [.str a0] [] =
    clX SS.CC 77 [] fun r2 => vL false 1 r2 fun l1 => g61_L3 a0 l1 0 := (CC_run SS_ok rfl).trans (by kernel_rfl)
/-! overseer/lexer.word -/
noncomputable def g79_c : Code := bodyOf Try.f79
noncomputable def g79_E : AE := SS.ae 79 13
noncomputable def g79_X : XE := SS.xe SS.CC SS.LL g79_E 0
theorem g79_eq (a0 : ByteArray) : SS.CC 79 [.str a0] [] =
    clX SS.CC 90 [.str a0, .func (.func 91) [] []] fun r2 => vS r2 fun s1 => bsel (decide (32 < (s1.size : Int))) (some (.tuple [.agg [.int .i64 0, .str ⟨#[]⟩, .int .i64 0, .int .i64 0, .int .i64 0], .int .i64 15], [])) (some (.tuple [.agg [.int .i64 1, .str s1, .int .i64 0, .int .i64 0, .int .i64 0], .int .i64 0], [])) := (CC_run SS_ok rfl).trans (by kernel_rfl)
/-! overseer/lexer.number -/
noncomputable def g81_c : Code := bodyOf Try.f81
noncomputable def g81_E : AE := SS.ae 81 46
noncomputable def g81_X : XE := SS.xe SS.CC SS.LL g81_E 0
noncomputable def g81_K0 : AX → ASt → R := retK SS.P Try.f81.results.toList (SS.prm 81).ro 0 []
noncomputable def g81_c1 : Code := Code.sub [true, true, true] g81_c
noncomputable def g81_c2 : Code := Code.sub [true, true, true, true, true] g81_c
noncomputable def g81_K1 : AX → ASt → R := thenK (joinX g81_E 0 g81_c2 (exK g81_X g81_c2 g81_K0)) g81_K0
noncomputable def g81_K2 : AX → ASt → R := blkK 0 g81_K1
noncomputable def g81_c3 : Code := Code.sub [true, true, true, true, false, true, false, false] g81_c
noncomputable def g81_J5 (x4 : ByteArray) : R := exK g81_X g81_c1 g81_K0 ⟨[(2, .ptr 0 0), (4, .str x4)], [some [.int .i64 0, .str ⟨#[]⟩, .int .i64 0, .int .i64 0, .int .i64 0]]⟩
noncomputable def g81_L7 (x4 : ByteArray) (x5 : Int) (x28 : Int) : R := SS.LL g81_E 0 [2, 4, 5, 27, 28] 1 g81_c3 g81_K2 ⟨[(2, .ptr 0 0), (4, .str x4), (5, .int .i64 x5), (27, .int .i64 (x4.size : Int)), (28, .int .i64 x28)], [some [.int .i64 0, .str ⟨#[]⟩, .int .i64 0, .int .i64 0, .int .i64 0]]⟩
theorem g81_J5_eq (x4 : ByteArray) : g81_J5 x4 =
    g81_L7 x4 0 0 := by kernel_rfl
theorem g81_L7_eq (x4 : ByteArray) (x5 : Int) (x28 : Int) : g81_L7 x4 x5 x28 =
    bsel (decide (x28 < (x4.size : Int))) (byteX x4 x28 fun c1 => bsel (decide (65536 < (IntKind.i64.wrap ((IntKind.i64.wrap (10 * x5)) + (IntKind.i64.wrap (IntKind.u8.wrap (c1 - 48))))))) (some (.tuple [.agg [.int .i64 0, .str ⟨#[]⟩, .int .i64 0, .int .i64 0, .int .i64 0], .int .i64 2], [])) (g81_L7 x4 (IntKind.i64.wrap ((IntKind.i64.wrap (10 * x5)) + (IntKind.i64.wrap (IntKind.u8.wrap (c1 - 48))))) (IntKind.i64.wrap (x28 + 1)))) (some (.tuple [.agg [.int .i64 2, .str x4, .int .i64 x5, .int .i64 0, .int .i64 0], .int .i64 0], [])) := (LL_eq SS_ok (by decide) (by kernel_rfl) (by kernel_rfl)).trans (by kernel_rfl)
theorem g81_eq (a0 : ByteArray) : SS.CC 81 [.str a0] [] =
    clX SS.CC 90 [.str a0, .func (.func 80) [] []] fun r2 => vS r2 fun s1 => clX SS.CC 90 [.str a0, .func (.func 91) [] []] fun r4 => vS r4 fun s3 => bsel (decide ((s1.size : Int) < (s3.size : Int))) (some (.tuple [.agg [.int .i64 0, .str ⟨#[]⟩, .int .i64 0, .int .i64 0, .int .i64 0], .int .i64 6], [])) (bsel (decide (1 < (s1.size : Int))) (byteX s1 0 fun c5 => bsel (c5 == 48) (some (.tuple [.agg [.int .i64 0, .str ⟨#[]⟩, .int .i64 0, .int .i64 0, .int .i64 0], .int .i64 6], [])) (g81_J5 s1)) (g81_J5 s1)) := (CC_run SS_ok rfl).trans (by kernel_rfl)
/-! overseer/lexer.rules -/
noncomputable def g62_c : Code := bodyOf Try.f62
noncomputable def g62_E : AE := SS.ae 62 4
noncomputable def g62_X : XE := SS.xe SS.CC SS.LL g62_E 0
theorem g62_eq : SS.CC 62 [] [] =
    some (.sl false 2 [.agg [.func (.func 78) [] [], .func (.func 79) [] []], .agg [.func (.func 80) [] [], .func (.func 81) [] []]], []) := (CC_run SS_ok rfl).trans (by kernel_rfl)
/-! overseer/lexer.blank -/
noncomputable def g75_c : Code := bodyOf Try.f75
noncomputable def g75_E : AE := SS.ae 75 17
noncomputable def g75_X : XE := SS.xe SS.CC SS.LL g75_E 0
theorem g75_eq (a0 : Int) : SS.CC 75 [.int .u8 a0] [] =
    bsel (a0 == 32) (some (.bool true, [])) (bsel (a0 == 9) (some (.bool true, [])) (bsel (a0 == 13) (some (.bool true, [])) (some (.bool (a0 == 10), [])))) := (CC_run SS_ok rfl).trans (by kernel_rfl)
/-! strings.HasPrefix -/
noncomputable def g69_c : Code := bodyOf Try.f69
noncomputable def g69_E : AE := SS.ae 69 8
noncomputable def g69_X : XE := SS.xe SS.CC SS.LL g69_E 0
theorem g69_eq (a0 : ByteArray) (a1 : ByteArray) : SS.CC 69 [.str a0, .str a1] [] =
    clX SS.CC 87 [.str a0, .str a1] fun r2 => vB r2 fun b1 => some (.bool b1, []) := (CC_run SS_ok rfl).trans (by kernel_rfl)
/-! strings.IndexByte -/
noncomputable def g76_c : Code := bodyOf Try.f76
noncomputable def g76_E : AE := SS.ae 76 8
noncomputable def g76_X : XE := SS.xe SS.CC SS.LL g76_E 0
theorem g76_eq (a0 : ByteArray) (a1 : Int) : SS.CC 76 [.str a0, .int .u8 a1] [] =
    clX SS.CC 89 [.str a0, .int .u8 a1] fun r2 => vI .i64 r2 fun n1 => some (.int .i64 n1, []) := (CC_run SS_ok rfl).trans (by kernel_rfl)
/-! overseer/lexer.symbols -/
noncomputable def g77_c : Code := bodyOf Try.f77
noncomputable def g77_E : AE := SS.ae 77 2
noncomputable def g77_X : XE := SS.xe SS.CC SS.LL g77_E 0
theorem g77_eq : SS.CC 77 [] [] =
    some (.sl false 1 [.str ⟨#[45, 62]⟩, .str ⟨#[58, 61]⟩, .str ⟨#[61, 61]⟩, .str ⟨#[33, 61]⟩, .str ⟨#[60, 61]⟩, .str ⟨#[62, 61]⟩, .str ⟨#[46, 46]⟩, .str ⟨#[38, 38]⟩, .str ⟨#[124, 124]⟩, .str ⟨#[123]⟩, .str ⟨#[125]⟩, .str ⟨#[40]⟩, .str ⟨#[41]⟩, .str ⟨#[91]⟩, .str ⟨#[93]⟩, .str ⟨#[44]⟩, .str ⟨#[59]⟩, .str ⟨#[58]⟩, .str ⟨#[61]⟩, .str ⟨#[60]⟩, .str ⟨#[62]⟩, .str ⟨#[43]⟩, .str ⟨#[45]⟩, .str ⟨#[42]⟩, .str ⟨#[33]⟩, .str ⟨#[63]⟩], []) := (CC_run SS_ok rfl).trans (by kernel_rfl)
/-! overseer/lexer.run -/
noncomputable def g90_c : Code := bodyOf Try.f90
noncomputable def g90_E : AE := SS.ae 90 22
noncomputable def g90_X : XE := SS.xe SS.CC SS.LL g90_E 0
noncomputable def g90_K0 : AX → ASt → R := retK SS.P Try.f90.results.toList (SS.prm 90).ro 0 []
noncomputable def g90_c1 : Code := Code.sub [true, true] g90_c
noncomputable def g90_K1 : AX → ASt → R := thenK (joinX g90_E 0 g90_c1 (exK g90_X g90_c1 g90_K0)) g90_K0
noncomputable def g90_K2 : AX → ASt → R := blkK 0 g90_K1
noncomputable def g90_c2 : Code := Code.sub [true, false, true, false, false] g90_c
noncomputable def g90_L3 (x0 : ByteArray) (x8 : Int) : R := SS.LL g90_E 0 [0, 1, 7, 8] 0 g90_c2 g90_K2 ⟨[(0, .str x0), (1, .func (.func 91) [] []), (7, .int .i64 (x0.size : Int)), (8, .int .i64 x8)], []⟩
theorem g90_L3_eq (x0 : ByteArray) (x8 : Int) : g90_L3 x0 x8 =
    bsel (decide (x8 < (x0.size : Int))) (byteX x0 x8 fun c1 => clX SS.CC 91 [.int .u8 c1] fun r3 => vB r3 fun b2 => bsel (!b2) (chk (decide (0 ≤ x8) && decide (x8 ≤ (x0.size : Int))) (some (.str (x0.extract 0 x8.toNat), []))) (g90_L3 x0 (IntKind.i64.wrap (x8 + 1)))) (some (.str x0, [])) := (LL_eq SS_ok (by decide) (by kernel_rfl) (by kernel_rfl)).trans (by kernel_rfl)
theorem g90_eq (a0 : ByteArray) : SS.CC 90 [.str a0, .func (.func 91) [] []] [] =
    g90_L3 a0 0 := (CC_run SS_ok rfl).trans (by kernel_rfl)
/-! overseer/lexer.run -/
noncomputable def g90_1i_c : Code := bodyOf Try.f90
noncomputable def g90_1i_E : AE := SS.ae 90 22
noncomputable def g90_1i_X : XE := SS.xe SS.CC SS.LL g90_1i_E 0
noncomputable def g90_1i_K0 : AX → ASt → R := retK SS.P Try.f90.results.toList (SS.prm 90).ro 0 []
noncomputable def g90_1i_c1 : Code := Code.sub [true, true] g90_1i_c
noncomputable def g90_1i_K1 : AX → ASt → R := thenK (joinX g90_1i_E 0 g90_1i_c1 (exK g90_1i_X g90_1i_c1 g90_1i_K0)) g90_1i_K0
noncomputable def g90_1i_K2 : AX → ASt → R := blkK 0 g90_1i_K1
noncomputable def g90_1i_c2 : Code := Code.sub [true, false, true, false, false] g90_1i_c
noncomputable def g90_1i_L3 (x0 : ByteArray) (x8 : Int) : R := SS.LL g90_1i_E 0 [0, 1, 7, 8] 0 g90_1i_c2 g90_1i_K2 ⟨[(0, .str x0), (1, .func (.func 80) [] []), (7, .int .i64 (x0.size : Int)), (8, .int .i64 x8)], []⟩
theorem g90_1i_L3_eq (x0 : ByteArray) (x8 : Int) : g90_1i_L3 x0 x8 =
    bsel (decide (x8 < (x0.size : Int))) (byteX x0 x8 fun c1 => clX SS.CC 80 [.int .u8 c1] fun r3 => vB r3 fun b2 => bsel (!b2) (chk (decide (0 ≤ x8) && decide (x8 ≤ (x0.size : Int))) (some (.str (x0.extract 0 x8.toNat), []))) (g90_1i_L3 x0 (IntKind.i64.wrap (x8 + 1)))) (some (.str x0, [])) := (LL_eq SS_ok (by decide) (by kernel_rfl) (by kernel_rfl)).trans (by kernel_rfl)
theorem g90_1i_eq (a0 : ByteArray) : SS.CC 90 [.str a0, .func (.func 80) [] []] [] =
    g90_1i_L3 a0 0 := (CC_run SS_ok rfl).trans (by kernel_rfl)
/-! internal/stringslite.HasPrefix -/
noncomputable def g87_c : Code := bodyOf Try.f87
noncomputable def g87_E : AE := SS.ae 87 18
noncomputable def g87_X : XE := SS.xe SS.CC SS.LL g87_E 0
theorem g87_eq (a0 : ByteArray) (a1 : ByteArray) : SS.CC 87 [.str a0, .str a1] [] =
    bsel (decide ((a1.size : Int) ≤ (a0.size : Int))) (chk (decide (0 ≤ (a1.size : Int)) && decide ((a1.size : Int) ≤ (a0.size : Int))) (some (.bool ((a0.extract 0 (a1.size : Int).toNat).toList == a1.toList), []))) (some (.bool false, [])) := (CC_run SS_ok rfl).trans (by kernel_rfl)
/-! overseer/lexer.either -/
noncomputable def g91_c : Code := bodyOf Try.f91
noncomputable def g91_E : AE := SS.ae 91 9
noncomputable def g91_X : XE := SS.xe SS.CC SS.LL g91_E 0
theorem g91_eq (a0 : Int) : SS.CC 91 [.int .u8 a0] [] =
    clX SS.CC 78 [.int .u8 a0] fun r2 => vB r2 fun b1 => bsel b1 (some (.bool true, [])) (clX SS.CC 80 [.int .u8 a0] fun r4 => vB r4 fun b3 => some (.bool b3, [])) := (CC_run SS_ok rfl).trans (by kernel_rfl)
/-! overseer/lexer.digit -/
noncomputable def g80_c : Code := bodyOf Try.f80
noncomputable def g80_E : AE := SS.ae 80 9
noncomputable def g80_X : XE := SS.xe SS.CC SS.LL g80_E 0
theorem g80_eq (a0 : Int) : SS.CC 80 [.int .u8 a0] [] =
    bsel (decide (48 ≤ a0)) (some (.bool (decide (a0 ≤ 57)), [])) (some (.bool false, [])) := (CC_run SS_ok rfl).trans (by kernel_rfl)
/-! overseer/lexer.letter -/
noncomputable def g78_c : Code := bodyOf Try.f78
noncomputable def g78_E : AE := SS.ae 78 21
noncomputable def g78_X : XE := SS.xe SS.CC SS.LL g78_E 0
theorem g78_eq (a0 : Int) : SS.CC 78 [.int .u8 a0] [] =
    bsel (decide (97 ≤ a0)) (bsel (decide (a0 ≤ 122)) (some (.bool true, [])) (bsel (decide (65 ≤ a0)) (bsel (decide (a0 ≤ 90)) (some (.bool true, [])) (some (.bool (a0 == 95), []))) (some (.bool (a0 == 95), [])))) (bsel (decide (65 ≤ a0)) (bsel (decide (a0 ≤ 90)) (some (.bool true, [])) (some (.bool (a0 == 95), []))) (some (.bool (a0 == 95), []))) := (CC_run SS_ok rfl).trans (by kernel_rfl)
end Go.Proofs.Ytoajpgclgdhhlaa

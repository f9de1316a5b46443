/-
  Functions as equations. Printed by a program (wip/tool/dc.py).
-/
import Derived.Test.YtoajpgclgdhhlaaW16
namespace Go.Proofs.Ytoajpgclgdhhlaa.W
set_option linter.unusedVariables false
set_option linter.unusedSimpArgs false
set_option linter.unnecessarySimpa false
set_option linter.unusedSectionVars false
open Go.RowKit
set_option maxRecDepth 1000000
/-! overseer/overseerlaw16.LexerNil -/
noncomputable def g9_c : Code := bodyOf Try.f9
noncomputable def g9_E : AE := SS.ae 9 53
noncomputable def g9_X : XE := SS.xe SS.CC SS.LL g9_E 0
theorem g9_eq (a0 : Int) (a0_1 : ByteArray) (a0_2 : Int) (a0_3 : Int) : SS.CC 9 [.agg [.int .u8 a0, .str a0_1, .int .i8 a0_2, .int .i8 a0_3]] [] =
    clX SS.CC 11 [] fun r2 => vB r2 fun b1 => bsel (!b1) (clX SS.CC 11 [] fun r4 => vB r4 fun b3 => some (.bool b3, [])) (bsel (decide (20 < (a0_1.size : Int))) (clX SS.CC 11 [] fun r6 => vB r6 fun b5 => some (.bool b5, [])) (bsel ((Int.tmod a0 10) == 9) (clX SS.CC 11 [] fun r8 => vB r8 fun b7 => some (.bool b7, [])) (clH SS.CC 22 [.nilp, .func (.func 23) [] [.ptr 0 0]] [some [.int .i64 0]] fun r10 h11 => h22_0 r10 h11 fun n9 => clX SS.CC 24 [.nilp] fun r15 => w_3_3_3 r15 fun n12 n13 n14 => clX SS.CC 25 [.nilp, .agg [.int .u8 a0, .str a0_1, .int .i8 a0_2, .int .i8 a0_3]] fun r24 => v46 r24 fun n16 s17 n18 n19 n20 b21 s22 n23 => bsel (((n16 == 0) && ((s17.toList == (⟨#[]⟩ : ByteArray).toList) && ((n18 == 0) && ((n19 == 0) && ((n20 == 0) && true))))) && ((b21 == false) && ((s22.toList == (⟨#[]⟩ : ByteArray).toList) && ((n23 == 0) && true)))) (bsel (n12 == 0) (bsel (n13 == 0) (bsel (n14 == 1) (some (.bool (n9 == 0), [])) (some (.bool false, []))) (some (.bool false, []))) (some (.bool false, []))) (some (.bool false, []))))) := (CC_run SS_ok rfl).trans (by kernel_rfl)
/-! (*overseer/lexer.Reader).List -/
noncomputable def g22_c : Code := bodyOf Try.f22
noncomputable def g22_E : AE := SS.ae 22 19
noncomputable def g22_X : XE := SS.xe SS.CC SS.LL g22_E 1
theorem g22_eq (h0_0 : Int) : SS.CC 22 [.nilp, .func (.func 23) [] [.ptr 0 0]] [some [.int .i64 h0_0]] =
    some (.tuple [], [some [.int .i64 h0_0]]) := (CC_run SS_ok rfl).trans (by kernel_rfl)
/-! (*overseer/lexer.Reader).Error -/
noncomputable def g24_c : Code := bodyOf Try.f24
noncomputable def g24_E : AE := SS.ae 24 26
noncomputable def g24_X : XE := SS.xe SS.CC SS.LL g24_E 0
theorem g24_eq : SS.CC 24 [.nilp] [] =
    some (.tuple [.int .i64 0, .int .i64 0, .int .i64 1], []) := (CC_run SS_ok rfl).trans (by kernel_rfl)
/-! overseer/overseerlaw16.call -/
noncomputable def g25_c : Code := bodyOf Try.f25
noncomputable def g25_E : AE := SS.ae 25 75
noncomputable def g25_X : XE := SS.xe SS.CC SS.LL g25_E 0
theorem g25_eq (a1 : Int) (a1_1 : ByteArray) (a1_2 : Int) (a1_3 : Int) : SS.CC 25 [.nilp, .agg [.int .u8 a1, .str a1_1, .int .i8 a1_2, .int .i8 a1_3]] [] =
    bsel ((Int.tmod a1 10) == 0) (clX SS.CC 29 [.nilp] fun r6 => v29 r6 fun n1 s2 n3 n4 n5 => some (.agg [.int .i64 n1, .str s2, .int .i64 n3, .int .i64 n4, .int .i64 n5, .bool false, .str ⟨#[]⟩, .int .i64 0], [])) (bsel ((Int.tmod a1 10) == 1) (clX SS.CC 44 [.nilp] fun r12 => v29 r12 fun n7 s8 n9 n10 n11 => some (.agg [.int .i64 n7, .str s8, .int .i64 n9, .int .i64 n10, .int .i64 n11, .bool false, .str ⟨#[]⟩, .int .i64 0], [])) (bsel ((Int.tmod a1 10) == 2) (clX SS.CC 45 [.nilp, .str a1_1] fun r14 => vB r14 fun b13 => some (.agg [.int .i64 0, .str ⟨#[]⟩, .int .i64 0, .int .i64 0, .int .i64 0, .bool b13, .str ⟨#[]⟩, .int .i64 0], [])) (bsel ((Int.tmod a1 10) == 3) (clX SS.CC 43 [.nilp, .str a1_1] fun r16 => vB r16 fun b15 => some (.agg [.int .i64 0, .str ⟨#[]⟩, .int .i64 0, .int .i64 0, .int .i64 0, .bool b15, .str ⟨#[]⟩, .int .i64 0], [])) (bsel ((Int.tmod a1 10) == 4) (clX SS.CC 46 [.nilp, .str a1_1] fun r17 => w0 r17 (some (.agg [.int .i64 0, .str ⟨#[]⟩, .int .i64 0, .int .i64 0, .int .i64 0, .bool false, .str ⟨#[]⟩, .int .i64 0], []))) (bsel ((Int.tmod a1 10) == 5) (clX SS.CC 47 [.nilp] fun r19 => vS r19 fun s18 => some (.agg [.int .i64 0, .str ⟨#[]⟩, .int .i64 0, .int .i64 0, .int .i64 0, .bool false, .str s18, .int .i64 0], [])) (bsel ((Int.tmod a1 10) == 6) (clX SS.CC 48 [.nilp, .int .i64 (IntKind.i64.wrap a1_2), .int .i64 (IntKind.i64.wrap a1_3)] fun r21 => vI .i64 r21 fun n20 => some (.agg [.int .i64 0, .str ⟨#[]⟩, .int .i64 0, .int .i64 0, .int .i64 0, .bool false, .str ⟨#[]⟩, .int .i64 n20], [])) (bsel ((Int.tmod a1 10) == 7) (clX SS.CC 49 [.nilp] fun r22 => w0 r22 (some (.agg [.int .i64 0, .str ⟨#[]⟩, .int .i64 0, .int .i64 0, .int .i64 0, .bool false, .str ⟨#[]⟩, .int .i64 0], []))) (bsel ((Int.tmod a1 10) == 8) (clX SS.CC 50 [.nilp, .int .i64 (IntKind.i64.wrap (BitVec.ofInt 64 (IntKind.i64.wrap a1_2) &&& BitVec.ofInt 64 15).toNat)] fun r23 => w0 r23 (some (.agg [.int .i64 0, .str ⟨#[]⟩, .int .i64 0, .int .i64 0, .int .i64 0, .bool false, .str ⟨#[]⟩, .int .i64 0], []))) (clH SS.CC 22 [.nilp, .func (.func 51) [] [.ptr 0 0, .cst (.nilp), .ptr 1 0]] [some [.str ⟨#[]⟩], some [.int .i64 0]] fun r26 h27 => h22_1 r26 h27 fun s24 n25 => some (.agg [.int .i64 0, .str ⟨#[]⟩, .int .i64 0, .int .i64 0, .int .i64 0, .bool false, .str s24, .int .i64 n25], [])))))))))) := (CC_run SS_ok rfl).trans (by kernel_rfl)
/-! (*overseer/lexer.Reader).Peek -/
noncomputable def g29_c : Code := bodyOf Try.f29
noncomputable def g29_E : AE := SS.ae 29 28
noncomputable def g29_X : XE := SS.xe SS.CC SS.LL g29_E 0
theorem g29_eq : SS.CC 29 [.nilp] [] =
    some (.agg [.int .i64 0, .str ⟨#[]⟩, .int .i64 0, .int .i64 0, .int .i64 0], []) := (CC_run SS_ok rfl).trans (by kernel_rfl)
/-! (*overseer/lexer.Reader).Next -/
noncomputable def g44_c : Code := bodyOf Try.f44
noncomputable def g44_E : AE := SS.ae 44 29
noncomputable def g44_X : XE := SS.xe SS.CC SS.LL g44_E 0
theorem g44_eq : SS.CC 44 [.nilp] [] =
    clX SS.CC 29 [.nilp] fun r6 => v29 r6 fun n1 s2 n3 n4 n5 => some (.agg [.int .i64 n1, .str s2, .int .i64 n3, .int .i64 n4, .int .i64 n5], []) := (CC_run SS_ok rfl).trans (by kernel_rfl)
/-! (*overseer/lexer.Reader).Is -/
noncomputable def g45_c : Code := bodyOf Try.f45
noncomputable def g45_E : AE := SS.ae 45 22
noncomputable def g45_X : XE := SS.xe SS.CC SS.LL g45_E 0
theorem g45_eq (a1 : ByteArray) : SS.CC 45 [.nilp, .str a1] [] =
    clX SS.CC 29 [.nilp] fun r6 => v29 r6 fun n1 s2 n3 n4 n5 => bsel (n1 == 1) (some (.bool (s2.toList == a1.toList), [])) (bsel (n1 == 3) (some (.bool (s2.toList == a1.toList), [])) (some (.bool false, []))) := (CC_run SS_ok rfl).trans (by kernel_rfl)
/-! (*overseer/lexer.Reader).Take -/
noncomputable def g43_c : Code := bodyOf Try.f43
noncomputable def g43_E : AE := SS.ae 43 13
noncomputable def g43_X : XE := SS.xe SS.CC SS.LL g43_E 0
theorem g43_eq (a1 : ByteArray) : SS.CC 43 [.nilp, .str a1] [] =
    clX SS.CC 45 [.nilp, .str a1] fun r2 => vB r2 fun b1 => bsel b1 (clX SS.CC 44 [.nilp] fun r8 => v29 r8 fun n3 s4 n5 n6 n7 => some (.bool b1, [])) (some (.bool b1, [])) := (CC_run SS_ok rfl).trans (by kernel_rfl)
/-! (*overseer/lexer.Reader).Expect -/
noncomputable def g46_c : Code := bodyOf Try.f46
noncomputable def g46_E : AE := SS.ae 46 10
noncomputable def g46_X : XE := SS.xe SS.CC SS.LL g46_E 0
theorem g46_eq (a1 : ByteArray) : SS.CC 46 [.nilp, .str a1] [] =
    clX SS.CC 43 [.nilp, .str a1] fun r2 => vB r2 fun b1 => bsel (!b1) (clX SS.CC 50 [.nilp, .int .i64 14] fun r3 => w0 r3 (some (.tuple [], []))) (some (.tuple [], [])) := (CC_run SS_ok rfl).trans (by kernel_rfl)
/-! (*overseer/lexer.Reader).Name -/
noncomputable def g47_c : Code := bodyOf Try.f47
noncomputable def g47_E : AE := SS.ae 47 12
noncomputable def g47_X : XE := SS.xe SS.CC SS.LL g47_E 0
theorem g47_eq : SS.CC 47 [.nilp] [] =
    clX SS.CC 29 [.nilp] fun r6 => v29 r6 fun n1 s2 n3 n4 n5 => bsel (n1 != 1) (clX SS.CC 50 [.nilp, .int .i64 14] fun r7 => w0 r7 (some (.str ⟨#[]⟩, []))) (clX SS.CC 44 [.nilp] fun r13 => v29 r13 fun n8 s9 n10 n11 n12 => some (.str s9, [])) := (CC_run SS_ok rfl).trans (by kernel_rfl)
/-! (*overseer/lexer.Reader).Int -/
noncomputable def g48_c : Code := bodyOf Try.f48
noncomputable def g48_E : AE := SS.ae 48 47
noncomputable def g48_X : XE := SS.xe SS.CC SS.LL g48_E 0
noncomputable def g48_K0 : AX → ASt → R := retK SS.P Try.f48.results.toList (SS.prm 48).ro 0 []
noncomputable def g48_c1 : Code := Code.sub [true, true, true] g48_c
noncomputable def g48_J7 (x1 : Int) (x2 : Int) (x7 : Int) : R := exK g48_X g48_c1 g48_K0 ⟨[(0, .nilp), (1, .int .i64 x1), (2, .int .i64 x2), (7, .int .i64 x7)], []⟩
theorem g48_J7_eq (x1 : Int) (x2 : Int) (x7 : Int) : g48_J7 x1 x2 x7 =
    clX SS.CC 29 [.nilp] fun r6 => v29 r6 fun n1 s2 n3 n4 n5 => bsel (n1 != 2) (clX SS.CC 50 [.nilp, .int .i64 14] fun r7 => w0 r7 (some (.int .i64 0, []))) (bsel (decide ((IntKind.i64.wrap (x7 * n3)) < x1)) (clX SS.CC 50 [.nilp, .int .i64 2] fun r8 => w0 r8 (some (.int .i64 0, []))) (bsel (decide (x2 < (IntKind.i64.wrap (x7 * n3)))) (clX SS.CC 50 [.nilp, .int .i64 2] fun r9 => w0 r9 (some (.int .i64 0, []))) (clX SS.CC 44 [.nilp] fun r15 => v29 r15 fun n10 s11 n12 n13 n14 => some (.int .i64 (IntKind.i64.wrap (x7 * n3)), [])))) := by kernel_rfl
theorem g48_eq (a1 : Int) (a2 : Int) : SS.CC 48 [.nilp, .int .i64 a1, .int .i64 a2] [] =
    clX SS.CC 29 [.nilp] fun r6 => v29 r6 fun n1 s2 n3 n4 n5 => bsel (n1 == 3) (bsel (s2.toList == (⟨#[45]⟩ : ByteArray).toList) (clX SS.CC 44 [.nilp] fun r12 => v29 r12 fun n7 s8 n9 n10 n11 => g48_J7 a1 a2 (-1)) (g48_J7 a1 a2 1)) (g48_J7 a1 a2 1) := (CC_run SS_ok rfl).trans (by kernel_rfl)
/-! (*overseer/lexer.Reader).Finish -/
noncomputable def g49_c : Code := bodyOf Try.f49
noncomputable def g49_E : AE := SS.ae 49 8
noncomputable def g49_X : XE := SS.xe SS.CC SS.LL g49_E 0
theorem g49_eq : SS.CC 49 [.nilp] [] =
    clX SS.CC 29 [.nilp] fun r6 => v29 r6 fun n1 s2 n3 n4 n5 => bsel (n1 != 4) (clX SS.CC 50 [.nilp, .int .i64 14] fun r7 => w0 r7 (some (.tuple [], []))) (some (.tuple [], [])) := (CC_run SS_ok rfl).trans (by kernel_rfl)
/-! (*overseer/lexer.Reader).Fail -/
noncomputable def g50_c : Code := bodyOf Try.f50
noncomputable def g50_E : AE := SS.ae 50 34
noncomputable def g50_X : XE := SS.xe SS.CC SS.LL g50_E 0
theorem g50_eq (a1 : Int) : SS.CC 50 [.nilp, .int .i64 a1] [] =
    some (.tuple [], []) := (CC_run SS_ok rfl).trans (by kernel_rfl)
/-! (*overseer/lexer.Reader).List -/
noncomputable def g22_1i_c : Code := bodyOf Try.f22
noncomputable def g22_1i_E : AE := SS.ae 22 19
noncomputable def g22_1i_X : XE := SS.xe SS.CC SS.LL g22_1i_E 2
theorem g22_1i_eq (h0_0 : ByteArray) (h1_0 : Int) : SS.CC 22 [.nilp, .func (.func 51) [] [.ptr 0 0, .cst (.nilp), .ptr 1 0]] [some [.str h0_0], some [.int .i64 h1_0]] =
    some (.tuple [], [some [.str h0_0], some [.int .i64 h1_0]]) := (CC_run SS_ok rfl).trans (by kernel_rfl)
end Go.Proofs.Ytoajpgclgdhhlaa.W

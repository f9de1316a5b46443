/-
  Parts of functions as equations. Printed by a program (wip/tool/dc.py).
-/
import Derived.Test.YtoajpgclgdhhlaaC16a
namespace Go.Proofs.Ytoajpgclgdhhlaa
set_option linter.unusedVariables false
set_option linter.unusedSimpArgs false
set_option linter.unnecessarySimpa false
set_option linter.unusedSectionVars false
open Go.RowKit
set_option maxRecDepth 1000000
def opsOf : Code → Array Oper | .region _ ops _ => ops | _ => #[]
/-! overseer/lexer.tokens$1: p58a -/
noncomputable def p58a_c : Code := bodyOf Try.f58
noncomputable def p58a_E : AE := SS.ae 58 86
noncomputable def p58a_X : XE := SS.xe SS.CC SS.LL p58a_E 7
noncomputable def p58a_c1 : Code := Code.sub [false, true, true, false, false, false, false] p58a_c
theorem p58a_eq (l : Nat) (K : AX → ASt → R) (s : ByteArray) (L : List PV) (c1 : Int) (c2 : Int) (c3 : Int) (line : Int) (start : Int) (at_ : Int) : exK p58a_X p58a_c1 K ⟨[(0, .func (.yield l) [] []), (1, .cst (.str s)), (3, .ptr 4 0), (4, .ptr 5 0), (5, .ptr 6 0)], [some [.sl true 5 L], some [.int .i64 c1], some [.int .i64 c2], some [.int .i64 c3], some [.int .i64 line], some [.int .i64 start], some [.int .i64 at_]]⟩ =
    chk (decide (0 ≤ at_) && decide (at_ ≤ (s.size : Int))) (clX SS.CC 59 [.str (s.extract at_.toNat s.size)] fun r2 => vI .i64 r2 fun n1 => K .normal ⟨[(0, .func (.yield l) [] []), (1, .cst (.str s)), (3, .ptr 4 0), (4, .ptr 5 0), (5, .ptr 6 0), (6, .int .i64 n1), (14, .str s), (15, .int .i64 at_), (16, .str (s.extract at_.toNat s.size)), (17, .int .i64 n1)], [some [.sl true 5 L], some [.int .i64 c1], some [.int .i64 c2], some [.int .i64 c3], some [.int .i64 line], some [.int .i64 start], some [.int .i64 at_]]⟩) := by kernel_rfl
/-! overseer/lexer.tokens$1: p58b -/
noncomputable def p58b_c : Code := bodyOf Try.f58
noncomputable def p58b_E : AE := SS.ae 58 86
noncomputable def p58b_X : XE := SS.xe SS.CC SS.LL p58b_E 7
noncomputable def p58b_c1 : Code := Code.sub [false, true, true, false, false, false, true, false] p58b_c
noncomputable def p58b_K1 (K : AX → ASt → R) : AX → ASt → R := blkK 2 K
noncomputable def p58b_c2 : Code := Code.sub [false, true, true, false, false, false, true, false, true, false, false] p58b_c
noncomputable def p58b_L4 (l : Nat) (K : AX → ASt → R) (x1 : ByteArray) (x6 : Int) (x7 : Int) (o0_0 : List PV) (o1_0 : Int) (o2_0 : Int) (o3_0 : Int) (o4_0 : Int) (o5_0 : Int) (o6_0 : Int) : R := SS.LL p58b_E 7 [0, 1, 3, 4, 5, 6, 7] 7 p58b_c2 (p58b_K1 K) ⟨[(0, .func (.yield l) [] []), (1, .cst (.str x1)), (3, .ptr 4 0), (4, .ptr 5 0), (5, .ptr 6 0), (6, .int .i64 x6), (7, .int .i64 x7)], [some [.sl true 5 o0_0], some [.int .i64 o1_0], some [.int .i64 o2_0], some [.int .i64 o3_0], some [.int .i64 o4_0], some [.int .i64 o5_0], some [.int .i64 o6_0]]⟩
theorem p58b_L4_eq (l : Nat) (K : AX → ASt → R) (x1 : ByteArray) (x6 : Int) (x7 : Int) (o0_0 : List PV) (o1_0 : Int) (o2_0 : Int) (o3_0 : Int) (o4_0 : Int) (o5_0 : Int) (o6_0 : Int) : p58b_L4 l K x1 x6 x7 o0_0 o1_0 o2_0 o3_0 o4_0 o5_0 o6_0 =
    bsel (decide (x7 < (IntKind.i64.wrap (o6_0 + x6)))) (byteX x1 x7 fun c1 => bsel (c1 == 10) (p58b_L4 l K x1 x6 (IntKind.i64.wrap (x7 + 1)) o0_0 o1_0 o2_0 o3_0 (IntKind.i64.wrap (o4_0 + 1)) (IntKind.i64.wrap (x7 + 1)) o6_0) (p58b_L4 l K x1 x6 (IntKind.i64.wrap (x7 + 1)) o0_0 o1_0 o2_0 o3_0 o4_0 o5_0 o6_0)) (K .normal ⟨[(0, .func (.yield l) [] []), (1, .cst (.str x1)), (3, .ptr 4 0), (4, .ptr 5 0), (5, .ptr 6 0), (6, .int .i64 x6), (7, .int .i64 x7), (19, .int .i64 x7), (20, .int .i64 o6_0), (21, .int .i64 x6), (22, .int .i64 (IntKind.i64.wrap (o6_0 + x6))), (23, .bool false)], [some [.sl true 5 o0_0], some [.int .i64 o1_0], some [.int .i64 o2_0], some [.int .i64 o3_0], some [.int .i64 o4_0], some [.int .i64 o5_0], some [.int .i64 o6_0]]⟩) := (LL_eq SS_ok (by decide) (by kernel_rfl) (by kernel_rfl)).trans (by kernel_rfl)
theorem p58b_eq (l : Nat) (K : AX → ASt → R) (s : ByteArray) (g : Int) (L : List PV) (c1 : Int) (c2 : Int) (c3 : Int) (line : Int) (start : Int) (at_ : Int) : exK p58b_X p58b_c1 K ⟨[(0, .func (.yield l) [] []), (1, .cst (.str s)), (3, .ptr 4 0), (4, .ptr 5 0), (5, .ptr 6 0), (6, .int .i64 g)], [some [.sl true 5 L], some [.int .i64 c1], some [.int .i64 c2], some [.int .i64 c3], some [.int .i64 line], some [.int .i64 start], some [.int .i64 at_]]⟩ =
    p58b_L4 l K s g at_ L c1 c2 c3 line start at_ := by kernel_rfl
/-! overseer/lexer.tokens$1: p58c -/
noncomputable def p58c_c : Code := bodyOf Try.f58
noncomputable def p58c_E : AE := SS.ae 58 86
noncomputable def p58c_X : XE := SS.xe SS.CC SS.LL p58c_E 7
noncomputable def p58c_c1 : Code := Code.sub [false, true, true, false, false, false, true, true, false] p58c_c
theorem p58c_eq (l : Nat) (K : AX → ASt → R) (s : ByteArray) (g : Int) (L : List PV) (c1 : Int) (c2 : Int) (c3 : Int) (line : Int) (start : Int) (at_ : Int) : exK p58c_X p58c_c1 K ⟨[(0, .func (.yield l) [] []), (1, .cst (.str s)), (3, .ptr 4 0), (4, .ptr 5 0), (5, .ptr 6 0), (6, .int .i64 g)], [some [.sl true 5 L], some [.int .i64 c1], some [.int .i64 c2], some [.int .i64 c3], some [.int .i64 line], some [.int .i64 start], some [.int .i64 at_]]⟩ =
    K .normal ⟨[(0, .func (.yield l) [] []), (1, .cst (.str s)), (3, .ptr 4 0), (4, .ptr 5 0), (5, .ptr 6 0), (6, .int .i64 g), (34, .int .i64 at_), (35, .int .i64 g), (36, .int .i64 (IntKind.i64.wrap (at_ + g)))], [some [.sl true 5 L], some [.int .i64 c1], some [.int .i64 c2], some [.int .i64 c3], some [.int .i64 line], some [.int .i64 start], some [.int .i64 (IntKind.i64.wrap (at_ + g))]]⟩ := by kernel_rfl
/-! overseer/lexer.tokens$1: p58d -/
noncomputable def p58d_c : Code := bodyOf Try.f58
noncomputable def p58d_E : AE := SS.ae 58 86
noncomputable def p58d_X : XE := SS.xe SS.CC SS.LL p58d_E 7
noncomputable def p58d_c1 : Code := Code.sub [false, true, true, false, false, false, true, true, true, false] p58d_c
theorem p58d_eq (l : Nat) (K : AX → ASt → R) (s : ByteArray) (L : List PV) (c1 : Int) (c2 : Int) (c3 : Int) (line : Int) (start : Int) (at_ : Int) : exK p58d_X p58d_c1 K ⟨[(0, .func (.yield l) [] []), (1, .cst (.str s)), (3, .ptr 4 0), (4, .ptr 5 0), (5, .ptr 6 0)], [some [.sl true 5 L], some [.int .i64 c1], some [.int .i64 c2], some [.int .i64 c3], some [.int .i64 line], some [.int .i64 start], some [.int .i64 at_]]⟩ =
    K .normal ⟨[(0, .func (.yield l) [] []), (1, .cst (.str s)), (3, .ptr 4 0), (4, .ptr 5 0), (5, .ptr 6 0), (8, .func (.func 60) [] [.ptr 4 0, .ptr 6 0, .ptr 5 0]), (37, .func (.func 60) [] [.ptr 4 0, .ptr 6 0, .ptr 5 0])], [some [.sl true 5 L], some [.int .i64 c1], some [.int .i64 c2], some [.int .i64 c3], some [.int .i64 line], some [.int .i64 start], some [.int .i64 at_]]⟩ := by kernel_rfl
/-! overseer/lexer.tokens$1: p58e -/
noncomputable def p58e_c : Code := bodyOf Try.f58
noncomputable def p58e_E : AE := SS.ae 58 86
noncomputable def p58e_X : XE := SS.xe SS.CC SS.LL p58e_E 7
noncomputable def p58e_c1 : Code := Code.sub [false, true, true, false, false, false, true, true, true, true, false, false] p58e_c
theorem p58e_eq (l : Nat) (K : AX → ASt → R) (s : ByteArray) (L : List PV) (c1 : Int) (c2 : Int) (c3 : Int) (line : Int) (start : Int) (at_ : Int) : exK p58e_X p58e_c1 K ⟨[(0, .func (.yield l) [] []), (1, .cst (.str s)), (3, .ptr 4 0), (4, .ptr 5 0), (5, .ptr 6 0), (8, .func (.func 60) [] [.ptr 4 0, .ptr 6 0, .ptr 5 0])], [some [.sl true 5 L], some [.int .i64 c1], some [.int .i64 c2], some [.int .i64 c3], some [.int .i64 line], some [.int .i64 start], some [.int .i64 at_]]⟩ =
    K .normal ⟨[(0, .func (.yield l) [] []), (1, .cst (.str s)), (3, .ptr 4 0), (4, .ptr 5 0), (5, .ptr 6 0), (8, .func (.func 60) [] [.ptr 4 0, .ptr 6 0, .ptr 5 0]), (38, .int .i64 at_), (39, .str s), (40, .int .i64 (s.size : Int)), (41, .bool (at_ == (s.size : Int)))], [some [.sl true 5 L], some [.int .i64 c1], some [.int .i64 c2], some [.int .i64 c3], some [.int .i64 line], some [.int .i64 start], some [.int .i64 at_]]⟩ := by kernel_rfl
/-! overseer/lexer.tokens$1: p58f -/
noncomputable def p58f_c : Code := bodyOf Try.f58
noncomputable def p58f_E : AE := SS.ae 58 86
noncomputable def p58f_X : XE := SS.xe SS.CC SS.LL p58f_E 7
noncomputable def p58f_c1 : Code := Code.sub [false, true, true, false, false, false, true, true, true, true, false, true, false, false] p58f_c
theorem p58f_eq (l : Nat) (K : AX → ASt → R) (s : ByteArray) (L : List PV) (c1 : Int) (c2 : Int) (c3 : Int) (line : Int) (start : Int) (at_ : Int) : exOps p58f_X false (opsOf p58f_c1) (((opsOf p58f_c1).toList.drop 0).take 4) (K .normal) ⟨[(0, .func (.yield l) [] []), (1, .cst (.str s)), (3, .ptr 4 0), (4, .ptr 5 0), (5, .ptr 6 0), (8, .func (.func 60) [] [.ptr 4 0, .ptr 6 0, .ptr 5 0])], [some [.sl true 5 L], some [.int .i64 c1], some [.int .i64 c2], some [.int .i64 c3], some [.int .i64 line], some [.int .i64 start], some [.int .i64 at_]]⟩ =
    clH SS.CC 60 [.agg [.int .i64 4, .str ⟨#[]⟩, .int .i64 0, .int .i64 0, .int .i64 0], .ptr 0 0, .ptr 1 0, .ptr 2 0] [some [.int .i64 line], some [.int .i64 at_], some [.int .i64 start]] fun r9 h10 => h60_0 r9 h10 fun n1 s2 n3 n4 n5 n6 n7 n8 => K .normal ⟨[(0, .func (.yield l) [] []), (1, .cst (.str s)), (3, .ptr 4 0), (4, .ptr 5 0), (5, .ptr 6 0), (8, .func (.func 60) [] [.ptr 4 0, .ptr 6 0, .ptr 5 0]), (42, .func (.yield l) [] []), (43, .func (.func 60) [] [.ptr 4 0, .ptr 6 0, .ptr 5 0]), (44, .agg [.int .i64 4, .str ⟨#[]⟩, .int .i64 0, .int .i64 0, .int .i64 0]), (45, .agg [.int .i64 n1, .str s2, .int .i64 n3, .int .i64 n4, .int .i64 n5])], [some [.sl true 5 L], some [.int .i64 c1], some [.int .i64 c2], some [.int .i64 c3], some [.int .i64 n6], some [.int .i64 n8], some [.int .i64 n7]]⟩ := by kernel_rfl
/-! overseer/lexer.tokens$1: p58g -/
noncomputable def p58g_c : Code := bodyOf Try.f58
noncomputable def p58g_E : AE := SS.ae 58 86
noncomputable def p58g_X : XE := SS.xe SS.CC SS.LL p58g_E 7
noncomputable def p58g_c1 : Code := Code.sub [false, true, true, false, false, false, true, true, true, true, true, false] p58g_c
theorem p58g_eq (l : Nat) (K : AX → ASt → R) (s : ByteArray) (L : List PV) (c1 : Int) (c2 : Int) (c3 : Int) (line : Int) (start : Int) (at_ : Int) : exK p58g_X p58g_c1 K ⟨[(0, .func (.yield l) [] []), (1, .cst (.str s)), (3, .ptr 4 0), (4, .ptr 5 0), (5, .ptr 6 0), (8, .func (.func 60) [] [.ptr 4 0, .ptr 6 0, .ptr 5 0])], [some [.sl true 5 L], some [.int .i64 c1], some [.int .i64 c2], some [.int .i64 c3], some [.int .i64 line], some [.int .i64 start], some [.int .i64 at_]]⟩ =
    K .normal ⟨[(0, .func (.yield l) [] []), (1, .cst (.str s)), (3, .ptr 4 0), (4, .ptr 5 0), (5, .ptr 6 0), (8, .func (.func 60) [] [.ptr 4 0, .ptr 6 0, .ptr 5 0]), (9, .func (.func 61) [] [])], [some [.sl true 5 L], some [.int .i64 c1], some [.int .i64 c2], some [.int .i64 c3], some [.int .i64 line], some [.int .i64 start], some [.int .i64 at_]]⟩ := by kernel_rfl
/-! overseer/lexer.tokens$1: p58h -/
noncomputable def p58h_c : Code := bodyOf Try.f58
noncomputable def p58h_E : AE := SS.ae 58 86
noncomputable def p58h_X : XE := SS.xe SS.CC SS.LL p58h_E 7
noncomputable def p58h_c1 : Code := Code.sub [false, true, true, false, false, false, true, true, true, true, true, true, false, false] p58h_c
theorem p58h_eq (l : Nat) (K : AX → ASt → R) (s : ByteArray) (L : List PV) (c1 : Int) (c2 : Int) (c3 : Int) (line : Int) (start : Int) (at_ : Int) : exK p58h_X p58h_c1 K ⟨[(0, .func (.yield l) [] []), (1, .cst (.str s)), (3, .ptr 4 0), (4, .ptr 5 0), (5, .ptr 6 0), (8, .func (.func 60) [] [.ptr 4 0, .ptr 6 0, .ptr 5 0]), (9, .func (.func 61) [] [])], [some [.sl true 5 L], some [.int .i64 c1], some [.int .i64 c2], some [.int .i64 c3], some [.int .i64 line], some [.int .i64 start], some [.int .i64 at_]]⟩ =
    clX SS.CC 62 [] fun r2 => vL false 2 r2 fun l1 => K .normal ⟨[(0, .func (.yield l) [] []), (1, .cst (.str s)), (3, .ptr 4 0), (4, .ptr 5 0), (5, .ptr 6 0), (8, .func (.func 60) [] [.ptr 4 0, .ptr 6 0, .ptr 5 0]), (9, .func (.func 61) [] []), (47, .sl false 2 l1), (48, .int .i64 (l1.length : Int)), (49, .int .i64 0)], [some [.sl true 5 L], some [.int .i64 c1], some [.int .i64 c2], some [.int .i64 c3], some [.int .i64 line], some [.int .i64 start], some [.int .i64 at_]]⟩ := by kernel_rfl
/-! overseer/lexer.tokens$1: p58i1 -/
noncomputable def p58i1_c : Code := bodyOf Try.f58
noncomputable def p58i1_E : AE := SS.ae 58 86
noncomputable def p58i1_X : XE := SS.xe SS.CC SS.LL p58i1_E 7
noncomputable def p58i1_c1 : Code := Code.sub [false, true, true, false, false, false, true, true, true, true, true, true, true, false] p58i1_c
theorem p58i1_eq (l : Nat) (K : AX → ASt → R) (s : ByteArray) (L : List PV) (c1 : Int) (c2 : Int) (c3 : Int) (line : Int) (start : Int) (at_ : Int) : exK p58i1_X p58i1_c1 K ⟨[(0, .func (.yield l) [] []), (1, .cst (.str s)), (3, .ptr 4 0), (4, .ptr 5 0), (5, .ptr 6 0), (8, .func (.func 60) [] [.ptr 4 0, .ptr 6 0, .ptr 5 0]), (9, .func (.func 61) [] [])], [some [.sl true 5 L], some [.int .i64 c1], some [.int .i64 c2], some [.int .i64 c3], some [.int .i64 line], some [.int .i64 start], some [.int .i64 at_]]⟩ =
    chk (decide (0 ≤ at_) && decide (at_ ≤ (s.size : Int))) (clX SS.CC 61 [.str (s.extract at_.toNat s.size)] fun r7 => w_29_3 r7 fun n1 s2 n3 n4 n5 n6 => K .normal ⟨[(0, .func (.yield l) [] []), (1, .cst (.str s)), (3, .ptr 4 0), (4, .ptr 5 0), (5, .ptr 6 0), (8, .func (.func 60) [] [.ptr 4 0, .ptr 6 0, .ptr 5 0]), (9, .func (.func 61) [] []), (12, .ptr 7 0), (13, .int .i64 n6), (62, .tuple [.agg [.int .i64 n1, .str s2, .int .i64 n3, .int .i64 n4, .int .i64 n5], .int .i64 n6]), (63, .func (.func 61) [] []), (64, .str s), (65, .int .i64 at_), (66, .str (s.extract at_.toNat s.size)), (67, .tuple [.agg [.int .i64 n1, .str s2, .int .i64 n3, .int .i64 n4, .int .i64 n5], .int .i64 n6]), (68, .agg [.int .i64 n1, .str s2, .int .i64 n3, .int .i64 n4, .int .i64 n5]), (69, .int .i64 n6)], [some [.sl true 5 L], some [.int .i64 c1], some [.int .i64 c2], some [.int .i64 c3], some [.int .i64 line], some [.int .i64 start], some [.int .i64 at_], some [.int .i64 n1, .str s2, .int .i64 n3, .int .i64 n4, .int .i64 n5]]⟩) := by kernel_rfl
/-! overseer/lexer.tokens$1: p58i2 -/
noncomputable def p58i2_c : Code := bodyOf Try.f58
noncomputable def p58i2_E : AE := SS.ae 58 86
noncomputable def p58i2_X : XE := SS.xe SS.CC SS.LL p58i2_E 7
noncomputable def p58i2_c1 : Code := Code.sub [false, true, true, false, false, false, true, true, true, true, true, true, true, false] p58i2_c
theorem p58i2_eq (l : Nat) (K : AX → ASt → R) (s : ByteArray) (L : List PV) (c1 : Int) (c2 : Int) (c3 : Int) (line : Int) (start : Int) (at_ : Int) : exK p58i2_X p58i2_c1 K ⟨[(0, .func (.yield l) [] []), (1, .cst (.str s)), (3, .ptr 4 0), (4, .ptr 5 0), (5, .ptr 6 0), (8, .func (.func 60) [] [.ptr 4 0, .ptr 6 0, .ptr 5 0]), (9, .func (.func 79) [] [])], [some [.sl true 5 L], some [.int .i64 c1], some [.int .i64 c2], some [.int .i64 c3], some [.int .i64 line], some [.int .i64 start], some [.int .i64 at_]]⟩ =
    chk (decide (0 ≤ at_) && decide (at_ ≤ (s.size : Int))) (clX SS.CC 79 [.str (s.extract at_.toNat s.size)] fun r7 => w_29_3 r7 fun n1 s2 n3 n4 n5 n6 => K .normal ⟨[(0, .func (.yield l) [] []), (1, .cst (.str s)), (3, .ptr 4 0), (4, .ptr 5 0), (5, .ptr 6 0), (8, .func (.func 60) [] [.ptr 4 0, .ptr 6 0, .ptr 5 0]), (9, .func (.func 79) [] []), (12, .ptr 7 0), (13, .int .i64 n6), (62, .tuple [.agg [.int .i64 n1, .str s2, .int .i64 n3, .int .i64 n4, .int .i64 n5], .int .i64 n6]), (63, .func (.func 79) [] []), (64, .str s), (65, .int .i64 at_), (66, .str (s.extract at_.toNat s.size)), (67, .tuple [.agg [.int .i64 n1, .str s2, .int .i64 n3, .int .i64 n4, .int .i64 n5], .int .i64 n6]), (68, .agg [.int .i64 n1, .str s2, .int .i64 n3, .int .i64 n4, .int .i64 n5]), (69, .int .i64 n6)], [some [.sl true 5 L], some [.int .i64 c1], some [.int .i64 c2], some [.int .i64 c3], some [.int .i64 line], some [.int .i64 start], some [.int .i64 at_], some [.int .i64 n1, .str s2, .int .i64 n3, .int .i64 n4, .int .i64 n5]]⟩) := by kernel_rfl
/-! overseer/lexer.tokens$1: p58i3 -/
noncomputable def p58i3_c : Code := bodyOf Try.f58
noncomputable def p58i3_E : AE := SS.ae 58 86
noncomputable def p58i3_X : XE := SS.xe SS.CC SS.LL p58i3_E 7
noncomputable def p58i3_c1 : Code := Code.sub [false, true, true, false, false, false, true, true, true, true, true, true, true, false] p58i3_c
theorem p58i3_eq (l : Nat) (K : AX → ASt → R) (s : ByteArray) (L : List PV) (c1 : Int) (c2 : Int) (c3 : Int) (line : Int) (start : Int) (at_ : Int) : exK p58i3_X p58i3_c1 K ⟨[(0, .func (.yield l) [] []), (1, .cst (.str s)), (3, .ptr 4 0), (4, .ptr 5 0), (5, .ptr 6 0), (8, .func (.func 60) [] [.ptr 4 0, .ptr 6 0, .ptr 5 0]), (9, .func (.func 81) [] [])], [some [.sl true 5 L], some [.int .i64 c1], some [.int .i64 c2], some [.int .i64 c3], some [.int .i64 line], some [.int .i64 start], some [.int .i64 at_]]⟩ =
    chk (decide (0 ≤ at_) && decide (at_ ≤ (s.size : Int))) (clX SS.CC 81 [.str (s.extract at_.toNat s.size)] fun r7 => w_29_3 r7 fun n1 s2 n3 n4 n5 n6 => K .normal ⟨[(0, .func (.yield l) [] []), (1, .cst (.str s)), (3, .ptr 4 0), (4, .ptr 5 0), (5, .ptr 6 0), (8, .func (.func 60) [] [.ptr 4 0, .ptr 6 0, .ptr 5 0]), (9, .func (.func 81) [] []), (12, .ptr 7 0), (13, .int .i64 n6), (62, .tuple [.agg [.int .i64 n1, .str s2, .int .i64 n3, .int .i64 n4, .int .i64 n5], .int .i64 n6]), (63, .func (.func 81) [] []), (64, .str s), (65, .int .i64 at_), (66, .str (s.extract at_.toNat s.size)), (67, .tuple [.agg [.int .i64 n1, .str s2, .int .i64 n3, .int .i64 n4, .int .i64 n5], .int .i64 n6]), (68, .agg [.int .i64 n1, .str s2, .int .i64 n3, .int .i64 n4, .int .i64 n5]), (69, .int .i64 n6)], [some [.sl true 5 L], some [.int .i64 c1], some [.int .i64 c2], some [.int .i64 c3], some [.int .i64 line], some [.int .i64 start], some [.int .i64 at_], some [.int .i64 n1, .str s2, .int .i64 n3, .int .i64 n4, .int .i64 n5]]⟩) := by kernel_rfl
end Go.Proofs.Ytoajpgclgdhhlaa

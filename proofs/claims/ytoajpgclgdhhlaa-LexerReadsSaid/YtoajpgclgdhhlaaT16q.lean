/-
  Parts of functions as equations. Printed by a program (wip/tool/dc.py).
-/
import Derived.Test.YtoajpgclgdhhlaaC16c
namespace Go.Proofs.Ytoajpgclgdhhlaa
set_option linter.unusedVariables false
set_option linter.unusedSimpArgs false
set_option linter.unnecessarySimpa false
set_option linter.unusedSectionVars false
open Go.RowKit
set_option maxRecDepth 1000000
/-! overseer/lexer.Scan: p12a -/
noncomputable def p12a_c : Code := bodyOf Try.f12
noncomputable def p12a_E : AE := { SS.ae 12 27 with vars := [2, 3, 4, 5, 6, 7, 13, 14] }
noncomputable def p12a_X : XE := SS.xe SS.CC SS.LL p12a_E 7
noncomputable def p12a_c1 : Code := Code.sub [true, true, false, true, false, false, false] p12a_c
theorem p12a_eq (l : Nat) (K : AX → ASt → R) (k : Int) (t : ByteArray) (v : Int) (ln : Int) (cl : Int) (e : Int) (L : List PV) (c1 : Int) (c2 : Int) (c3 : Int) (line : Int) (start : Int) (at_ : Int) : exK p12a_X p12a_c1 K ⟨[(2, .ptr 0 0), (3, .ptr 1 0), (4, .ptr 2 0), (5, .ptr 3 0), (13, .agg [.int .i64 k, .str t, .int .i64 v, .int .i64 ln, .int .i64 cl]), (14, .int .i64 e)], [some [.sl true 5 L], some [.int .i64 c1], some [.int .i64 c2], some [.int .i64 c3], some [.int .i64 line], some [.int .i64 start], some [.int .i64 at_]]⟩ =
    K .normal ⟨[(2, .ptr 0 0), (3, .ptr 1 0), (4, .ptr 2 0), (5, .ptr 3 0), (6, .ptr 7 0), (13, .agg [.int .i64 k, .str t, .int .i64 v, .int .i64 ln, .int .i64 cl]), (14, .int .i64 e)], [some [.sl true 5 L], some [.int .i64 c1], some [.int .i64 c2], some [.int .i64 c3], some [.int .i64 line], some [.int .i64 start], some [.int .i64 at_], some [.int .i64 k, .str t, .int .i64 v, .int .i64 ln, .int .i64 cl]]⟩ := by kernel_rfl
/-! overseer/lexer.Scan: p12b -/
noncomputable def p12b_c : Code := bodyOf Try.f12
noncomputable def p12b_E : AE := { SS.ae 12 27 with vars := [2, 3, 4, 5, 6, 7, 13, 14] }
noncomputable def p12b_X : XE := SS.xe SS.CC SS.LL p12b_E 8
noncomputable def p12b_c1 : Code := Code.sub [true, true, false, true, false, false, true] p12b_c
theorem p12b_eq (l : Nat) (K : AX → ASt → R) (e : Int) (L : List PV) (c1 : Int) (c2 : Int) (c3 : Int) (line : Int) (start : Int) (at_ : Int) (k : Int) (t : ByteArray) (v : Int) (ln : Int) (cl : Int) : exK p12b_X p12b_c1 K ⟨[(2, .ptr 0 0), (3, .ptr 1 0), (4, .ptr 2 0), (5, .ptr 3 0), (6, .ptr 7 0), (14, .int .i64 e)], [some [.sl true 5 L], some [.int .i64 c1], some [.int .i64 c2], some [.int .i64 c3], some [.int .i64 line], some [.int .i64 start], some [.int .i64 at_], some [.int .i64 k, .str t, .int .i64 v, .int .i64 ln, .int .i64 cl]]⟩ =
    K .normal ⟨[(2, .ptr 0 0), (3, .ptr 1 0), (4, .ptr 2 0), (5, .ptr 3 0), (6, .ptr 7 0), (7, .int .i64 e), (14, .int .i64 e)], [some [.sl true 5 L], some [.int .i64 c1], some [.int .i64 c2], some [.int .i64 c3], some [.int .i64 line], some [.int .i64 start], some [.int .i64 at_], some [.int .i64 k, .str t, .int .i64 v, .int .i64 ln, .int .i64 cl]]⟩ := by kernel_rfl
/-! overseer/lexer.Scan: p12c -/
noncomputable def p12c_c : Code := bodyOf Try.f12
noncomputable def p12c_E : AE := { SS.ae 12 27 with vars := [2, 3, 4, 5, 6, 7, 13, 14] }
noncomputable def p12c_X : XE := SS.xe SS.CC SS.LL p12c_E 8
noncomputable def p12c_c1 : Code := Code.sub [true, true, false, true, false, true, false, false, false] p12c_c
theorem p12c_eq (l : Nat) (K : AX → ASt → R) (e : Int) (L : List PV) (c1 : Int) (c2 : Int) (c3 : Int) (line : Int) (start : Int) (at_ : Int) (k : Int) (t : ByteArray) (v : Int) (ln : Int) (cl : Int) : exK p12c_X p12c_c1 K ⟨[(2, .ptr 0 0), (3, .ptr 1 0), (4, .ptr 2 0), (5, .ptr 3 0), (6, .ptr 7 0), (7, .int .i64 e)], [some [.sl true 5 L], some [.int .i64 c1], some [.int .i64 c2], some [.int .i64 c3], some [.int .i64 line], some [.int .i64 start], some [.int .i64 at_], some [.int .i64 k, .str t, .int .i64 v, .int .i64 ln, .int .i64 cl]]⟩ =
    K .normal ⟨[(2, .ptr 0 0), (3, .ptr 1 0), (4, .ptr 2 0), (5, .ptr 3 0), (6, .ptr 7 0), (7, .int .i64 e), (15, .int .i64 e), (16, .bool (e != 0))], [some [.sl true 5 L], some [.int .i64 c1], some [.int .i64 c2], some [.int .i64 c3], some [.int .i64 line], some [.int .i64 start], some [.int .i64 at_], some [.int .i64 k, .str t, .int .i64 v, .int .i64 ln, .int .i64 cl]]⟩ := by kernel_rfl
/-! overseer/lexer.Scan: p12d -/
noncomputable def p12d_c : Code := bodyOf Try.f12
noncomputable def p12d_E : AE := { SS.ae 12 27 with vars := [2, 3, 4, 5, 6, 7, 13, 14] }
noncomputable def p12d_X : XE := SS.xe SS.CC SS.LL p12d_E 8
noncomputable def p12d_c1 : Code := Code.sub [true, true, false, true, false, true, false, true] p12d_c
theorem p12d_eq (l : Nat) (K : AX → ASt → R) (e : Int) (L : List PV) (c1 : Int) (c2 : Int) (c3 : Int) (line : Int) (start : Int) (at_ : Int) (k : Int) (t : ByteArray) (v : Int) (ln : Int) (cl : Int) : exK p12d_X p12d_c1 K ⟨[(2, .ptr 0 0), (3, .ptr 1 0), (4, .ptr 2 0), (5, .ptr 3 0), (6, .ptr 7 0), (7, .int .i64 e)], [some [.sl true 5 L], some [.int .i64 c1], some [.int .i64 c2], some [.int .i64 c3], some [.int .i64 line], some [.int .i64 start], some [.int .i64 at_], some [.int .i64 k, .str t, .int .i64 v, .int .i64 ln, .int .i64 cl]]⟩ =
    chk (decide (L.length + 1 ≤ LIM)) (K .normal ⟨[(2, .ptr 0 0), (3, .ptr 1 0), (4, .ptr 2 0), (5, .ptr 3 0), (6, .ptr 7 0), (7, .int .i64 e), (22, .sl false 5 L), (23, .agg [.int .i64 k, .str t, .int .i64 v, .int .i64 ln, .int .i64 cl]), (24, .sl true 5 [.agg [.int .i64 k, .str t, .int .i64 v, .int .i64 ln, .int .i64 cl]]), (25, .sl false 5 (L ++ [.agg [.int .i64 k, .str t, .int .i64 v, .int .i64 ln, .int .i64 cl]]))], [some [.sl true 5 (L ++ [.agg [.int .i64 k, .str t, .int .i64 v, .int .i64 ln, .int .i64 cl]])], some [.int .i64 c1], some [.int .i64 c2], some [.int .i64 c3], some [.int .i64 line], some [.int .i64 start], some [.int .i64 at_], some [.int .i64 k, .str t, .int .i64 v, .int .i64 ln, .int .i64 cl]]⟩) := by kernel_rfl
end Go.Proofs.Ytoajpgclgdhhlaa

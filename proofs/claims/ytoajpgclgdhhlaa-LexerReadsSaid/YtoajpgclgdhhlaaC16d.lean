/-
  Scan's round: the return of an error.
-/
import Derived.Test.YtoajpgclgdhhlaaT16q
namespace Go.Proofs.Ytoajpgclgdhhlaa
set_option linter.unusedVariables false
set_option linter.unusedSimpArgs false
set_option linter.unnecessarySimpa false
set_option linter.unusedSectionVars false
open Go.RowKit
set_option maxRecDepth 1000000
noncomputable def p12_7c : Code := Code.sub [true, true, false, true, false, true, false, false, true, false, false] p12a_c
noncomputable def p12_s1 (L : List PV) (c1 c2 c3 line start at_ k : Int) (t : ByteArray) (v ln cl e : Int) : ASt := ⟨[(2, .ptr 0 0), (3, .ptr 1 0), (4, .ptr 2 0), (5, .ptr 3 0), (6, .ptr 7 0), (7, .int .i64 e)], [some [.sl true 5 L], some [.int .i64 c1], some [.int .i64 c2], some [.int .i64 c3], some [.int .i64 line], some [.int .i64 start], some [.int .i64 at_], some [.int .i64 k, .str t, .int .i64 v, .int .i64 ln, .int .i64 cl]]⟩
noncomputable def p12_s2 (c1 c2 c3 line start at_ k : Int) (t : ByteArray) (v ln cl e : Int) : ASt := ⟨[(2, .ptr 0 0), (3, .ptr 1 0), (4, .ptr 2 0), (5, .ptr 3 0), (6, .ptr 7 0), (7, .int .i64 e), (17, .ptr 7 3), (18, .int .i64 ln), (19, .ptr 7 4), (20, .int .i64 cl), (21, .int .i64 e)], [some [.sl true 0 []], some [.int .i64 ln], some [.int .i64 cl], some [.int .i64 e], some [.int .i64 line], some [.int .i64 start], some [.int .i64 at_], some [.int .i64 k, .str t, .int .i64 v, .int .i64 ln, .int .i64 cl]]⟩
theorem p12_7 : ∃ n, ∀ (L : List PV) (c1 c2 c3 line start at_ k : Int) (t : ByteArray) (v ln cl e : Int), ordersV p12a_E (opsOf p12_7c) (opsOf p12_7c).size (Array.replicate (opsOf p12_7c).size false) (p12_s1 L c1 c2 c3 line start at_ k t v ln cl e) = List.replicate (n + 1) (some (p12_s2 c1 c2 c3 line start at_ k t v ln cl e)) :=
  ⟨(ordersV p12a_E (opsOf p12_7c) (opsOf p12_7c).size (Array.replicate (opsOf p12_7c).size false) (p12_s1 [] 0 0 0 0 0 0 0 ⟨#[]⟩ 0 0 0 0)).length - 1, fun L c1 c2 c3 line start at_ k t v ln cl e => by kernel_rfl⟩
end Go.Proofs.Ytoajpgclgdhhlaa

/-
  The place of a token (the closure of tokens).
-/
import Derived.Test.YtoajpgclgdhhlaaC16b
namespace Go.Proofs.Ytoajpgclgdhhlaa
set_option linter.unusedVariables false
set_option linter.unusedSimpArgs false
set_option linter.unnecessarySimpa false
set_option linter.unusedSectionVars false
open Go.RowKit
set_option maxRecDepth 1000000
noncomputable def g60_c : Code := bodyOf Try.f60
noncomputable def g60_E : AE := SS.ae 60 14
noncomputable def g60_X : XE := SS.xe SS.CC SS.LL g60_E 3
noncomputable def g60_K0 : AX → ASt → R := retK SS.P Try.f60.results.toList (SS.prm 60).ro 3 []
noncomputable def g60_c1 : Code := Code.sub [true, false] g60_c
noncomputable def g60_c2 : Code := Code.sub [true, true] g60_c
noncomputable def g60_s1 (k : Int) (t : ByteArray) (v a b line at_ start : Int) : ASt := ⟨[(0, .agg [.int .i64 k, .str t, .int .i64 v, .int .i64 a, .int .i64 b]), (1, .ptr 0 0), (2, .ptr 1 0), (3, .ptr 2 0), (4, .ptr 3 0), (5, .ptr 4 0)], [some [.int .i64 line], some [.int .i64 at_], some [.int .i64 start], some [.int .i64 k, .str t, .int .i64 v, .int .i64 a, .int .i64 b], some [.int .i64 0, .str ⟨#[]⟩, .int .i64 0, .int .i64 0, .int .i64 0]]⟩
theorem g60_1 (k : Int) (t : ByteArray) (v a b line at_ start : Int) : SS.CC 60 [.agg [.int .i64 k, .str t, .int .i64 v, .int .i64 a, .int .i64 b], .ptr 0 0, .ptr 1 0, .ptr 2 0] [some [.int .i64 line], some [.int .i64 at_], some [.int .i64 start]] =
    exAll g60_E (opsOf g60_c1) (fun σ => joinX g60_E 3 g60_c2 (exK g60_X g60_c2 g60_K0) σ) (g60_s1 k t v a b line at_ start) := (CC_run SS_ok rfl).trans (by kernel_rfl)
noncomputable def g60_s2 (k : Int) (t : ByteArray) (v a b line at_ start : Int) : ASt := ⟨[(0, .agg [.int .i64 k, .str t, .int .i64 v, .int .i64 a, .int .i64 b]), (1, .ptr 0 0), (2, .ptr 1 0), (3, .ptr 2 0), (4, .ptr 3 0), (5, .ptr 4 0), (6, .int .i64 line), (7, .int .i64 at_), (8, .int .i64 start), (9, .int .i64 (IntKind.i64.wrap (at_ - start))), (10, .int .i64 (IntKind.i64.wrap ((IntKind.i64.wrap (at_ - start)) + 1))), (11, .ptr 3 3), (12, .ptr 3 4)],
  [some [.int .i64 line], some [.int .i64 at_], some [.int .i64 start], some [.int .i64 k, .str t, .int .i64 v, .int .i64 line, .int .i64 (IntKind.i64.wrap ((IntKind.i64.wrap (at_ - start)) + 1))], some [.int .i64 0, .str ⟨#[]⟩, .int .i64 0, .int .i64 0, .int .i64 0]]⟩
theorem g60_n : ∃ n, ∀ (k : Int) (t : ByteArray) (v a b line at_ start : Int), ordersV g60_E (opsOf g60_c1) (opsOf g60_c1).size (Array.replicate (opsOf g60_c1).size false) (g60_s1 k t v a b line at_ start) = List.replicate (n + 1) (some (g60_s2 k t v a b line at_ start)) :=
  ⟨(ordersV g60_E (opsOf g60_c1) (opsOf g60_c1).size (Array.replicate (opsOf g60_c1).size false) (g60_s1 0 ⟨#[]⟩ 0 0 0 0 0 0)).length - 1, fun k t v a b line at_ start => by kernel_rfl⟩
theorem g60_eq (k : Int) (t : ByteArray) (v a b line at_ start : Int) : SS.CC 60 [.agg [.int .i64 k, .str t, .int .i64 v, .int .i64 a, .int .i64 b], .ptr 0 0, .ptr 1 0, .ptr 2 0] [some [.int .i64 line], some [.int .i64 at_], some [.int .i64 start]] =
    some (.agg [.int .i64 k, .str t, .int .i64 v, .int .i64 line, .int .i64 (IntKind.i64.wrap ((IntKind.i64.wrap (at_ - start)) + 1))], [some [.int .i64 line], some [.int .i64 at_], some [.int .i64 start]]) := by
  obtain ⟨n, h⟩ := g60_n
  rw [g60_1, exAll_of n (h k t v a b line at_ start)]
  kernel_rfl
end Go.Proofs.Ytoajpgclgdhhlaa

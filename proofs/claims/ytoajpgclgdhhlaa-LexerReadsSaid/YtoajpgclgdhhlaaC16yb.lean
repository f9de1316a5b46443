/-
  The reader and its model, side by side: Fail, Name, Int, Finish, Expect.
-/
import Derived.Test.YtoajpgclgdhhlaaC16ya
namespace Go.Proofs.Ytoajpgclgdhhlaa.V
set_option linter.unusedVariables false
set_option linter.unusedSimpArgs false
set_option linter.unnecessarySimpa false
set_option linter.unusedSectionVars false
open Go.RowKit
set_option maxRecDepth 1000000
def RA.fail (A : RA) (n : Int) : RA := if (A.e != 0) = true then A else if (n == 0) = true then A else { A with line := A.pk.line, col := A.pk.col, e := n }
theorem failR {src : List UInt8} {A : RA} {M : MA} (h : Sim src A M) (n : Int) : SS.CC 50 [.ptr 0 0, .int .i64 n] [some A.cells] = some (.tuple [], [some (A.fail n).cells]) := by
  have e0 : SS.CC 50 [.ptr 0 0, .int .i64 n] [some A.cells] = _ := g50_eq _ _ _ _ _
  rw [e0]
  unfold RA.fail
  cases hb : A.e != 0 with
  | true => rw [bsel_true, if_pos rfl]; rfl
  | false =>
    rw [bsel_false, if_neg (by decide)]
    cases hn : n == 0 with
    | true => rw [bsel_true, if_pos rfl]; rfl
    | false =>
      rw [bsel_false, if_neg (by decide), clH_1 (show SS.CC 29 [.ptr 0 0] [some [.sl false 5 (A.toks.map tokP), .int .i64 A.line, .int .i64 A.col, .int .i64 A.e]] = _ from peekR h), h29_t]; rfl
theorem failM {src : List UInt8} {A : RA} {M : MA} (h : Sim src A M) (n : Int) : ∃ M', SS.CC 55 [.ptr 0 0, .int .i64 n] [some M.cells] = some (.tuple [], [some M'.cells]) ∧ Sim src (A.fail n) M' := by
  have e0 : SS.CC 55 [.ptr 0 0, .int .i64 n] [some M.cells] = _ := g55_eq _ _ _ _ _ _
  rw [e0, ← h.e]
  unfold RA.fail
  by_cases he : A.e = 0
  · rw [show (A.e == 0) = true by simp [he], bsel_true, show (A.e != 0) = false by simp [he], if_neg (by decide)]
    cases hn : n == 0 with
    | true =>
      have hn0 : n = 0 := by simpa using hn
      rw [show (n != 0) = false by simp [hn0], bsel_false, if_pos rfl]
      exact ⟨M, by unfold MA.cells; rw [h.e], h⟩
    | false =>
      have hn0 : n ≠ 0 := by simpa using hn
      have hp := peekM h
      unfold MA.cells at hp
      rw [← h.e] at hp
      rw [show (n != 0) = true by simp [bne_iff_ne, hn0], bsel_true, if_neg (by decide), clH_1 hp]
      refine ⟨{ M with line := A.pk.line, col := A.pk.col, e := n }, rfl, ⟨rfl, fun e => absurd e hn0, fun _ => ⟨rfl, rfl⟩, h.sz, h.ps, h.tk⟩⟩
  · rw [show (A.e == 0) = false by simp [he], bsel_false, show (A.e != 0) = true by simp [bne_iff_ne, he], if_pos rfl]
    exact ⟨M, by unfold MA.cells; rw [h.e], h⟩
theorem h50_t (A : RA) (K : List PV → Int → Int → Int → R) : h50_0 (.tuple []) [some A.cells] K = K (A.toks.map tokP) A.line A.col A.e := rfl
theorem h55_t (M : MA) (K : List PV → Int → Int → Int → Int → R) : h55_0 (.tuple []) [some M.cells] K = K (M.full.map tokP) (M.pos : Int) M.line M.col M.e := rfl
theorem h43_t (b : Bool) (A : RA) (K : Bool → List PV → Int → Int → Int → R) : h43_0 (.bool b) [some A.cells] K = K b (A.toks.map tokP) A.line A.col A.e := rfl
theorem h54_t (b : Bool) (M : MA) (K : Bool → List PV → Int → Int → Int → Int → R) : h54_0 (.bool b) [some M.cells] K = K b (M.full.map tokP) (M.pos : Int) M.line M.col M.e := rfl
theorem h47_t (s : ByteArray) (A : RA) (K : ByteArray → List PV → Int → Int → Int → R) : h47_0 (.str s) [some A.cells] K = K s (A.toks.map tokP) A.line A.col A.e := rfl
theorem h56_t (s : ByteArray) (M : MA) (K : ByteArray → List PV → Int → Int → Int → Int → R) : h56_0 (.str s) [some M.cells] K = K s (M.full.map tokP) (M.pos : Int) M.line M.col M.e := rfl
/-! ### Name -/
def RA.nameA (A : RA) : RA := if (A.pk.kind != 1) = true then A.fail 14 else A.next
def RA.nameS (A : RA) : List UInt8 := if (A.pk.kind != 1) = true then [] else A.pk.text
theorem nameR {src : List UInt8} {A : RA} {M : MA} (h : Sim src A M) : SS.CC 47 [.ptr 0 0] [some A.cells] = some (.str (bs A.nameS), [some A.nameA.cells]) := by
  have e0 : SS.CC 47 [.ptr 0 0] [some A.cells] = _ := g47_eq _ _ _ _
  rw [e0, clH_1 (show SS.CC 29 [.ptr 0 0] [some [.sl false 5 (A.toks.map tokP), .int .i64 A.line, .int .i64 A.col, .int .i64 A.e]] = _ from peekR h), h29_t]
  unfold RA.nameA RA.nameS
  cases hk : A.pk.kind != 1 with
  | true => rw [bsel_true, clH_1 (show SS.CC 50 [.ptr 0 0, .int .i64 14] [some [.sl false 5 (A.toks.map tokP), .int .i64 A.line, .int .i64 A.col, .int .i64 A.e]] = _ from failR h 14), h50_t, if_pos rfl, if_pos rfl]; rfl
  | false => rw [bsel_false, clH_1 (show SS.CC 44 [.ptr 0 0] [some [.sl false 5 (A.toks.map tokP), .int .i64 A.line, .int .i64 A.col, .int .i64 A.e]] = _ from nextR h), h44_t, if_neg (by decide), if_neg (by decide)]; rfl
theorem nameM {src : List UInt8} {A : RA} {M : MA} (h : Sim src A M) : ∃ M', SS.CC 56 [.ptr 0 0] [some M.cells] = some (.str (bs A.nameS), [some M'.cells]) ∧ Sim src A.nameA M' := by
  have e0 : SS.CC 56 [.ptr 0 0] [some M.cells] = _ := g56_eq _ _ _ _ _
  rw [e0, clH_1 (show SS.CC 30 [.ptr 0 0] [some [.sl false 5 (M.full.map tokP), .int .i64 (M.pos : Int), .int .i64 M.line, .int .i64 M.col, .int .i64 M.e]] = _ from peekM h), h30_t]
  unfold RA.nameA RA.nameS
  cases hk : A.pk.kind != 1 with
  | true =>
    obtain ⟨M', k1, k2⟩ := failM h 14
    rw [bsel_true, clH_1 (show SS.CC 55 [.ptr 0 0, .int .i64 14] [some [.sl false 5 (M.full.map tokP), .int .i64 (M.pos : Int), .int .i64 M.line, .int .i64 M.col, .int .i64 M.e]] = _ from k1), h55_t, if_pos rfl, if_pos rfl]
    exact ⟨M', rfl, k2⟩
  | false =>
    obtain ⟨M', k1, k2⟩ := nextM h
    rw [bsel_false, clH_1 (show SS.CC 52 [.ptr 0 0] [some [.sl false 5 (M.full.map tokP), .int .i64 (M.pos : Int), .int .i64 M.line, .int .i64 M.col, .int .i64 M.e]] = _ from k1), h52_t, if_neg (by decide), if_neg (by decide)]
    exact ⟨M', rfl, k2⟩
/-! ### Int -/
theorem is_minus {src : List UInt8} {A : RA} {M : MA} (h : Sim src A M) : A.is [45] = (A.pk.kind == 3 && A.pk.text == [45]) := by
  unfold RA.is
  cases h1 : A.pk.kind == 1 with
  | false => rfl
  | true =>
    have hk : A.pk.kind = 1 := by simpa using h1
    have hne : A.pk.text ≠ [45] := by
      by_cases he : A.e = 0
      · obtain ⟨t, tl, ht⟩ := h.ne he
        have hpk : A.pk = t := by unfold RA.pk; rw [show (A.e != 0) = false by simp [he], if_neg (by decide), ht]; rfl
        exact (h.ok he).2.2 A.pk (by rw [hpk, ht]; simp) hk
      · have hpk : A.pk.kind = 4 := by unfold RA.pk; rw [show (A.e != 0) = true by simp [bne_iff_ne, he], if_pos rfl]; rfl
        rw [hpk] at hk; cases hk
    rw [show (A.pk.text == [45]) = false by simpa using hne, Bool.and_false, Bool.and_false]
/-- Behind the sign. -/
def RA.numA (A : RA) (sg lo hi : Int) : RA := if (A.pk.kind != 2) = true then A.fail 14 else if decide (IntKind.i64.wrap (sg * A.pk.value) < lo) = true then A.fail 2 else if decide (hi < IntKind.i64.wrap (sg * A.pk.value)) = true then A.fail 2 else A.next
def RA.numN (A : RA) (sg lo hi : Int) : Int := if (A.pk.kind != 2) = true then 0 else if decide (IntKind.i64.wrap (sg * A.pk.value) < lo) = true then 0 else if decide (hi < IntKind.i64.wrap (sg * A.pk.value)) = true then 0 else IntKind.i64.wrap (sg * A.pk.value)
theorem numR {src : List UInt8} {A : RA} {M : MA} (h : Sim src A M) (sg lo hi : Int) : g48_J7 lo hi (A.toks.map tokP) A.line A.col A.e sg = some (.int .i64 (A.numN sg lo hi), [some (A.numA sg lo hi).cells]) := by
  have hf := fun n => show SS.CC 50 [.ptr 0 0, .int .i64 n] [some [.sl false 5 (A.toks.map tokP), .int .i64 A.line, .int .i64 A.col, .int .i64 A.e]] = _ from failR h n
  rw [g48_J7_eq, clH_1 (show SS.CC 29 [.ptr 0 0] [some [.sl false 5 (A.toks.map tokP), .int .i64 A.line, .int .i64 A.col, .int .i64 A.e]] = _ from peekR h), h29_t]
  unfold RA.numA RA.numN
  cases hk : A.pk.kind != 2 with
  | true => simp only [bsel_true, bsel_false, Bool.false_eq_true, if_false, if_true]; rw [clH_1 (hf 14), h50_t]; rfl
  | false =>
    simp only [bsel_true, bsel_false, Bool.false_eq_true, if_false, if_true]
    cases h1 : decide (IntKind.i64.wrap (sg * A.pk.value) < lo) with
    | true => simp only [bsel_true, bsel_false, Bool.false_eq_true, if_false, if_true]; rw [clH_1 (hf 2), h50_t]; rfl
    | false =>
      simp only [bsel_true, bsel_false, Bool.false_eq_true, if_false, if_true]
      cases h2 : decide (hi < IntKind.i64.wrap (sg * A.pk.value)) with
      | true => simp only [bsel_true, bsel_false, Bool.false_eq_true, if_false, if_true]; rw [clH_1 (hf 2), h50_t]; rfl
      | false => simp only [bsel_true, bsel_false, Bool.false_eq_true, if_false, if_true]; rw [clH_1 (show SS.CC 44 [.ptr 0 0] [some [.sl false 5 (A.toks.map tokP), .int .i64 A.line, .int .i64 A.col, .int .i64 A.e]] = _ from nextR h), h44_t]; rfl
theorem numM {src : List UInt8} {A : RA} {M : MA} (h : Sim src A M) (sg lo hi : Int) : ∃ M', g57_J5 lo hi (M.full.map tokP) (M.pos : Int) M.line M.col M.e sg = some (.int .i64 (A.numN sg lo hi), [some M'.cells]) ∧ Sim src (A.numA sg lo hi) M' := by
  obtain ⟨F1, f1, f2⟩ := failM h 14
  obtain ⟨F2, f3, f4⟩ := failM h 2
  obtain ⟨N, n1, n2⟩ := nextM h
  rw [g57_J5_eq, clH_1 (show SS.CC 30 [.ptr 0 0] [some [.sl false 5 (M.full.map tokP), .int .i64 (M.pos : Int), .int .i64 M.line, .int .i64 M.col, .int .i64 M.e]] = _ from peekM h), h30_t]
  unfold RA.numA RA.numN
  cases hk : A.pk.kind != 2 with
  | true =>
    simp only [bsel_true, bsel_false, Bool.false_eq_true, if_false, if_true]; rw [clH_1 (show SS.CC 55 [.ptr 0 0, .int .i64 14] [some [.sl false 5 (M.full.map tokP), .int .i64 (M.pos : Int), .int .i64 M.line, .int .i64 M.col, .int .i64 M.e]] = _ from f1), h55_t]
    exact ⟨F1, rfl, f2⟩
  | false =>
    simp only [bsel_true, bsel_false, Bool.false_eq_true, if_false, if_true]
    cases h1 : decide (IntKind.i64.wrap (sg * A.pk.value) < lo) with
    | true =>
      simp only [bsel_true, bsel_false, Bool.false_eq_true, if_false, if_true]; rw [clH_1 (show SS.CC 55 [.ptr 0 0, .int .i64 2] [some [.sl false 5 (M.full.map tokP), .int .i64 (M.pos : Int), .int .i64 M.line, .int .i64 M.col, .int .i64 M.e]] = _ from f3), h55_t]
      exact ⟨F2, rfl, f4⟩
    | false =>
      simp only [bsel_true, bsel_false, Bool.false_eq_true, if_false, if_true]
      cases h2 : decide (hi < IntKind.i64.wrap (sg * A.pk.value)) with
      | true =>
        simp only [bsel_true, bsel_false, Bool.false_eq_true, if_false, if_true]; rw [clH_1 (show SS.CC 55 [.ptr 0 0, .int .i64 2] [some [.sl false 5 (M.full.map tokP), .int .i64 (M.pos : Int), .int .i64 M.line, .int .i64 M.col, .int .i64 M.e]] = _ from f3), h55_t]
        exact ⟨F2, rfl, f4⟩
      | false =>
        simp only [bsel_true, bsel_false, Bool.false_eq_true, if_false, if_true]; rw [clH_1 (show SS.CC 52 [.ptr 0 0] [some [.sl false 5 (M.full.map tokP), .int .i64 (M.pos : Int), .int .i64 M.line, .int .i64 M.col, .int .i64 M.e]] = _ from n1), h52_t]
        exact ⟨N, rfl, n2⟩
def RA.sg (A : RA) : Int := if A.is [45] = true then -1 else 1
theorem intR {src : List UInt8} {A : RA} {M : MA} (h : Sim src A M) (lo hi : Int) : SS.CC 48 [.ptr 0 0, .int .i64 lo, .int .i64 hi] [some A.cells] = some (.int .i64 ((A.take [45]).numN A.sg lo hi), [some ((A.take [45]).numA A.sg lo hi).cells]) := by
  obtain ⟨M', _, hs⟩ := takeM h [45]
  have hn := fun sg => numR hs sg lo hi
  have e0 : SS.CC 48 [.ptr 0 0, .int .i64 lo, .int .i64 hi] [some A.cells] = _ := g48_eq _ _ _ _ _ _
  rw [e0, clH_1 (show SS.CC 29 [.ptr 0 0] [some [.sl false 5 (A.toks.map tokP), .int .i64 A.line, .int .i64 A.col, .int .i64 A.e]] = _ from peekR h), h29_t, bs_toList, show (⟨#[45]⟩ : ByteArray).toList = [45] from bs_toList [45]]
  have hm := is_minus h
  unfold RA.sg
  unfold RA.take at hn ⊢
  cases h3 : A.pk.kind == 3 with
  | true =>
    cases ht : A.pk.text == [45] with
    | true =>
      rw [h3, ht] at hm
      rw [hm] at hn ⊢
      simp only [Bool.and_self, if_true] at hn ⊢
      rw [bsel_true, bsel_true, clH_1 (show SS.CC 44 [.ptr 0 0] [some [.sl false 5 (A.toks.map tokP), .int .i64 A.line, .int .i64 A.col, .int .i64 A.e]] = _ from nextR h), h44_t]
      exact hn (-1)
    | false =>
      rw [h3, ht] at hm
      rw [hm] at hn ⊢
      simp only [Bool.and_false, Bool.false_eq_true, if_false] at hn ⊢
      rw [bsel_true, bsel_false]
      exact hn 1
  | false =>
    rw [h3] at hm
    rw [hm] at hn ⊢
    simp only [Bool.false_and, Bool.false_eq_true, if_false] at hn ⊢
    rw [bsel_false]
    exact hn 1
theorem intM {src : List UInt8} {A : RA} {M : MA} (h : Sim src A M) (lo hi : Int) : ∃ M', SS.CC 57 [.ptr 0 0, .int .i64 lo, .int .i64 hi] [some M.cells] = some (.int .i64 ((A.take [45]).numN A.sg lo hi), [some M'.cells]) ∧ Sim src ((A.take [45]).numA A.sg lo hi) M' := by
  obtain ⟨M1, k1, hs⟩ := takeM h [45]
  obtain ⟨M', n1, n2⟩ := numM hs A.sg lo hi
  have e0 : SS.CC 57 [.ptr 0 0, .int .i64 lo, .int .i64 hi] [some M.cells] = _ := g57_eq _ _ _ _ _ _ _
  refine ⟨M', ?_, n2⟩
  rw [e0, clH_1 (show SS.CC 54 [.ptr 0 0, .str ⟨#[45]⟩] [some [.sl false 5 (M.full.map tokP), .int .i64 (M.pos : Int), .int .i64 M.line, .int .i64 M.col, .int .i64 M.e]] = _ from k1), h54_t]
  unfold RA.sg at n1 ⊢
  cases hm : A.is [45] with
  | true => rw [hm, if_pos rfl] at n1; rw [bsel_true, if_pos rfl]; exact n1
  | false => rw [hm, if_neg (by decide)] at n1; rw [bsel_false, if_neg (by decide)]; exact n1
end Go.Proofs.Ytoajpgclgdhhlaa.V

/-
  PLAIN LAWS of chapter 14: expressions that bytes describe: they are right, and within the limits.
-/
import Derived.Test.YtmclnnpaephkpaaPF14
namespace Go.Proofs.Ytmclnnpaephkpaa
set_option linter.unusedVariables false
set_option linter.unusedSimpArgs false
set_option linter.unnecessarySimpa false
set_option linter.unusedSectionVars false

/-- The next byte, 0 at the end. -/
def nextS : List UInt8 → Int × List UInt8
  | [] => (0, [])
  | c :: r => ((c.toNat : Int), r)
theorem nextS_bd (l : List UInt8) : 0 ≤ (nextS l).1 ∧ (nextS l).1 ≤ 255 := by
  cases l with
  | nil => simp [nextS]
  | cons c r => have := c.toNat_lt; simp only [nextS]; omega
structure GS where
  e : EX
  l : List UInt8
  n : Int
/-- The expression that bytes describe, the bytes that are left, and how many expressions were counted. The level is one more than 'lv'. -/
def growS (vars : Int) : Nat → Int → List UInt8 → Int → GS
  | 0, k, l, n =>
    if k = 1 then
      (if (nextS l).1 % 2 = 0 ∧ 0 < vars then ⟨.node 1 0 ((nextS l).1 / 8 % vars) [], (nextS l).2, n + 1⟩ else ⟨.node 0 ((nextS l).1 / 8 - 8) 0 [], (nextS l).2, n + 1⟩)
    else ⟨truthE ((nextS l).1 % 2 == 0), (nextS l).2, n + 1⟩
  | lv + 1, k, l, n =>
    if k = 1 then
      (if 12 < n + 1 ∨ (nextS l).1 % 8 < 4 then
        (if (nextS l).1 % 2 = 0 ∧ 0 < vars then ⟨.node 1 0 ((nextS l).1 / 8 % vars) [], (nextS l).2, n + 1⟩ else ⟨.node 0 ((nextS l).1 / 8 - 8) 0 [], (nextS l).2, n + 1⟩)
      else if (nextS l).1 % 8 = 4 then
        ⟨.node 5 0 0 [(growS vars lv 1 (nextS l).2 (n + 1)).e], (growS vars lv 1 (nextS l).2 (n + 1)).l, (growS vars lv 1 (nextS l).2 (n + 1)).n⟩
      else if (nextS l).1 % 8 = 5 then
        (let a := growS vars lv 2 (nextS l).2 (n + 1); let b := growS vars lv 1 a.l a.n; let c := growS vars lv 1 b.l b.n; ⟨.node 13 0 0 [a.e, b.e, c.e], c.l, c.n⟩)
      else (let a := growS vars lv 1 (nextS l).2 (n + 1); let b := growS vars lv 1 a.l a.n; ⟨.node (2 + (nextS l).1 / 8 % 3) 0 0 [a.e, b.e], b.l, b.n⟩))
    else
      (if lv = 0 ∨ 12 < n + 1 ∨ (nextS l).1 % 8 < 4 then
        (let a := growS vars lv 1 (nextS l).2 (n + 1); let b := growS vars lv 1 a.l a.n; ⟨.node (6 + (nextS l).1 / 8 % 4) 0 0 [a.e, b.e], b.l, b.n⟩)
      else if (nextS l).1 % 8 = 4 then
        ⟨.node 10 0 0 [(growS vars lv 2 (nextS l).2 (n + 1)).e], (growS vars lv 2 (nextS l).2 (n + 1)).l, (growS vars lv 2 (nextS l).2 (n + 1)).n⟩
      else if (nextS l).1 % 8 = 5 then
        (let a := growS vars lv 2 (nextS l).2 (n + 1); let b := growS vars lv 2 a.l a.n; let c := growS vars lv 2 b.l b.n; ⟨.node 13 0 0 [a.e, b.e, c.e], c.l, c.n⟩)
      else (let a := growS vars lv 2 (nextS l).2 (n + 1); let b := growS vars lv 2 a.l a.n; ⟨.node (11 + (nextS l).1 / 8 % 2) 0 0 [a.e, b.e], b.l, b.n⟩))
def GrowS (bytes : List UInt8) (vars kind : Int) : EX := (growS vars 4 kind (bytes.take 60) 0).e

/-! ### it is right -/
theorem right1 {n o : Int} {a : EX} (ha : RightE n a) (h : (o = 5 ∧ kindE a = 1) ∨ (o = 10 ∧ kindE a = 2)) : RightE n (.node o 0 0 [a]) ∧ kindE (.node o 0 0 [a]) = if o = 5 then 1 else 2 := by
  have hk : kindE (.node o 0 0 [a]) = if o = 5 then 1 else 2 := by
    rcases h with ⟨rfl, h⟩ | ⟨rfl, h⟩
    · rw [kindE, kindL, kindL, h]; decide
    · rw [kindE, kindL, kindL, h]; decide
  refine ⟨⟨?_, ?_, by rw [hk]; split <;> decide⟩, hk⟩
  · rw [wfE, wfL, wfL]
    rcases h with ⟨rfl, h⟩ | ⟨rfl, h⟩ <;> exact ⟨by simp [argsS], ha.1, trivial⟩
  · rw [rangeE, rangeL, rangeL]
    exact ⟨fun h0 => by omega, fun h0 => by omega, ha.2.1, trivial⟩
theorem right2 {n o : Int} {a b : EX} (ha : RightE n a) (hb : RightE n b) (h : (2 ≤ o ∧ o ≤ 9 ∧ o ≠ 5 ∧ kindE a = 1 ∧ kindE b = 1) ∨ (11 ≤ o ∧ o ≤ 12 ∧ kindE a = 2 ∧ kindE b = 2)) : RightE n (.node o 0 0 [a, b]) ∧ kindE (.node o 0 0 [a, b]) = if o ≤ 5 then 1 else 2 := by
  have hk : kindE (.node o 0 0 [a, b]) = if o ≤ 5 then 1 else 2 := by
    rcases h with ⟨h1, h2, h3, h4, h5⟩ | ⟨h1, h2, h4, h5⟩
    · have : o = 2 ∨ o = 3 ∨ o = 4 ∨ o = 6 ∨ o = 7 ∨ o = 8 ∨ o = 9 := by omega
      rw [kindE, kindL, kindL, kindL, h4, h5]
      rcases this with rfl | rfl | rfl | rfl | rfl | rfl | rfl <;> decide
    · have : o = 11 ∨ o = 12 := by omega
      rw [kindE, kindL, kindL, kindL, h4, h5]
      rcases this with rfl | rfl <;> decide
  refine ⟨⟨?_, ?_, by rw [hk]; split <;> decide⟩, hk⟩
  · rw [wfE, wfL, wfL, wfL]
    have : o = 2 ∨ o = 3 ∨ o = 4 ∨ o = 6 ∨ o = 7 ∨ o = 8 ∨ o = 9 ∨ o = 11 ∨ o = 12 := by omega
    rcases this with rfl | rfl | rfl | rfl | rfl | rfl | rfl | rfl | rfl <;> exact ⟨by simp [argsS], ha.1, hb.1, trivial⟩
  · rw [rangeE, rangeL, rangeL, rangeL]
    exact ⟨fun h0 => by omega, fun h0 => by omega, ha.2.1, hb.2.1, trivial⟩
theorem right3 {n k : Int} {c a b : EX} (hc : RightE n c) (ha : RightE n a) (hb : RightE n b) (kc : kindE c = 2) (ka : kindE a = k) (kb : kindE b = k) (hk : k = 1 ∨ k = 2) : RightE n (.node 13 0 0 [c, a, b]) ∧ kindE (.node 13 0 0 [c, a, b]) = k := by
  have h : kindE (.node 13 0 0 [c, a, b]) = k := by
    rw [kindE, kindL, kindL, kindL, kindL, kc, ka, kb]
    rcases hk with rfl | rfl <;> decide
  refine ⟨⟨?_, ?_, by rw [h]; omega⟩, h⟩
  · rw [wfE, wfL, wfL, wfL, wfL]
    exact ⟨by simp [argsS], hc.1, ha.1, hb.1, trivial⟩
  · rw [rangeE, rangeL, rangeL, rangeL, rangeL]
    exact ⟨fun h0 => by omega, fun h0 => by omega, hc.2.1, ha.2.1, hb.2.1, trivial⟩
theorem right_var {n i : Int} (h0 : 0 ≤ i) (h1 : i < n) : RightE n (.node 1 0 i []) ∧ kindE (.node 1 0 i []) = 1 := by
  refine ⟨⟨?_, ?_, ?_⟩, ?_⟩
  · simp [wfE, wfL, argsS]
  · rw [rangeE, rangeL]; exact ⟨fun h => by omega, fun _ => ⟨h0, h1⟩, trivial⟩
  · simp [kindE, kindL, kindOp]
  · simp [kindE, kindL, kindOp]
theorem leaf_right {n vars b : Int} (hv : vars ≤ n) (h0 : 0 ≤ b) (h1 : b ≤ 255) : ∀ l m, RightE n (if b % 2 = 0 ∧ 0 < vars then (⟨.node 1 0 (b / 8 % vars) [], l, m⟩ : GS) else ⟨.node 0 (b / 8 - 8) 0 [], l, m⟩).e ∧ kindE (if b % 2 = 0 ∧ 0 < vars then (⟨.node 1 0 (b / 8 % vars) [], l, m⟩ : GS) else ⟨.node 0 (b / 8 - 8) 0 [], l, m⟩).e = 1 := by
  intro l m
  split
  · rename_i h
    have a := Int.emod_nonneg (b / 8) (show vars ≠ 0 by omega)
    have c := Int.emod_lt_of_pos (b / 8) h.2
    exact right_var a (by omega)
  · exact right_const n _ ((largeS_false _ _).2 (by omega))
theorem growS_right {n vars : Int} (hv : vars ≤ n) : ∀ (lv : Nat) (k : Int) (l : List UInt8) (m : Int), (k = 1 ∨ k = 2) → RightE n (growS vars lv k l m).e ∧ kindE (growS vars lv k l m).e = k
  | 0, k, l, m, hk => by
    obtain ⟨h0, h1⟩ := nextS_bd l
    rw [growS]
    rcases hk with rfl | rfl
    · rw [if_pos rfl]; exact leaf_right hv h0 h1 _ _
    · rw [if_neg (by decide)]; exact right_truth n _
  | lv + 1, k, l, m, hk => by
    obtain ⟨h0, h1⟩ := nextS_bd l
    have i1 := fun l m => growS_right hv lv 1 l m (.inl rfl)
    have i2 := fun l m => growS_right hv lv 2 l m (.inr rfl)
    rw [growS]
    rcases hk with rfl | rfl
    · rw [if_pos rfl]
      split
      · exact leaf_right hv h0 h1 _ _
      split
      · have := right1 (o := 5) (i1 (nextS l).2 (m + 1)).1 (.inl ⟨rfl, (i1 _ _).2⟩)
        exact this
      split
      · exact right3 (i2 _ _).1 (i1 _ _).1 (i1 _ _).1 (i2 _ _).2 (i1 _ _).2 (i1 _ _).2 (.inl rfl)
      · have h := right2 (o := 2 + (nextS l).1 / 8 % 3) (i1 (nextS l).2 (m + 1)).1 (i1 (growS vars lv 1 (nextS l).2 (m + 1)).l (growS vars lv 1 (nextS l).2 (m + 1)).n).1 (.inl ⟨by omega, by omega, by omega, (i1 _ _).2, (i1 _ _).2⟩)
        exact ⟨h.1, by rw [h.2, if_pos (by omega)]⟩
    · rw [if_neg (by decide)]
      split
      · have h := right2 (o := 6 + (nextS l).1 / 8 % 4) (i1 (nextS l).2 (m + 1)).1 (i1 (growS vars lv 1 (nextS l).2 (m + 1)).l (growS vars lv 1 (nextS l).2 (m + 1)).n).1 (.inl ⟨by omega, by omega, by omega, (i1 _ _).2, (i1 _ _).2⟩)
        exact ⟨h.1, by rw [h.2, if_neg (by omega)]⟩
      split
      · have := right1 (o := 10) (i2 (nextS l).2 (m + 1)).1 (.inr ⟨rfl, (i2 _ _).2⟩)
        exact this
      split
      · exact right3 (i2 _ _).1 (i2 _ _).1 (i2 _ _).1 (i2 _ _).2 (i2 _ _).2 (i2 _ _).2 (.inr rfl)
      · have h := right2 (o := 11 + (nextS l).1 / 8 % 2) (i2 (nextS l).2 (m + 1)).1 (i2 (growS vars lv 2 (nextS l).2 (m + 1)).l (growS vars lv 2 (nextS l).2 (m + 1)).n).1 (.inr ⟨by omega, by omega, (i2 _ _).2, (i2 _ _).2⟩)
        exact ⟨h.1, by rw [h.2, if_neg (by omega)]⟩
end Go.Proofs.Ytmclnnpaephkpaa

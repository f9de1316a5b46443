/-
  PLAIN LAWS of chapter 14: an expression within the limits passes the check; those that bytes describe are within the limits.
-/
import Derived.Test.YtmclnnpaephkpaaPG14
namespace Go.Proofs.Ytmclnnpaephkpaa
set_option linter.unusedVariables false
set_option linter.unusedSimpArgs false
set_option linter.unnecessarySimpa false
set_option linter.unusedSectionVars false

mutual
/-- Only constants have a value, only variables an index. -/
def cleanE : EX → Prop
  | .node o v i l => (o ≠ 0 → v = 0) ∧ (o ≠ 1 → i = 0) ∧ cleanL l
def cleanL : List EX → Prop
  | [] => True
  | e :: l => cleanE e ∧ cleanL l
end
mutual
def depthE : EX → Int
  | .node _ _ _ l => 1 + depthL l
def depthL : List EX → Int
  | [] => 0
  | e :: l => max (depthE e) (depthL l)
end
mutual
theorem sizeE_pos : ∀ e, 1 ≤ sizeE e
  | .node _ _ _ l => by rw [sizeE]; have := sizeL_nn l; omega
theorem sizeL_nn : ∀ l, 0 ≤ sizeL l
  | [] => by rw [sizeL]; omega
  | e :: l => by rw [sizeL]; have := sizeE_pos e; have := sizeL_nn l; omega
end
mutual
theorem formed_good {n : Int} : ∀ (e : EX) (level c : Int), wfE e → rangeE n e → cleanE e → level + depthE e ≤ 9 → 0 ≤ c → c + sizeE e ≤ 64 → formedE e n level c = (0, c + sizeE e)
  | .node o v i l, level, c, hw, hr, hc, hd, h0, hs => by
    rw [wfE] at hw
    rw [rangeE] at hr
    rw [cleanE] at hc
    rw [depthE] at hd
    rw [sizeE] at hs ⊢
    have hp := sizeL_nn l
    have hdp := depthL_nn l
    rw [formedE, if_neg (by omega), hw.1]
    simp only
    rw [if_neg (by simp), if_neg (by intro h; rcases h with h | h; exact h.2 (hc.1 h.1); exact h.2 (hc.2.1 h.1)), if_neg (by
      intro h
      rcases h with h | h
      · rw [hr.1 h.1] at h; simp at h
      · have := hr.2.1 h.1; omega)]
    rw [formed_goodL l (level + 1) (c + 1) hw.2 hr.2.2 hc.2.2 (by omega) (by omega) (by omega)]
    rw [Int.add_assoc]
theorem formed_goodL {n : Int} : ∀ (l : List EX) (level c : Int), wfL l → rangeL n l → cleanL l → level + depthL l ≤ 9 → 0 ≤ c → c + sizeL l ≤ 64 → formedL l n level c = (0, c + sizeL l)
  | [], level, c, _, _, _, _, _, _ => by rw [formedL, sizeL, Int.add_zero]
  | e :: l, level, c, hw, hr, hc, hd, h0, hs => by
    rw [wfL] at hw
    rw [rangeL] at hr
    rw [cleanL] at hc
    rw [depthL] at hd
    rw [sizeL] at hs ⊢
    have hp := sizeL_nn l
    have hp1 := sizeE_pos e
    have h1 := formed_good e level c hw.1 hr.1 hc.1 (by omega) h0 (by omega)
    rw [formedL, h1, if_pos rfl, formed_goodL l level (c + sizeE e) hw.2 hr.2 hc.2 (by omega) (by omega) (by omega)]
    rw [Int.add_assoc]
theorem depthL_nn : ∀ l : List EX, 0 ≤ depthL l
  | [] => by rw [depthL]; omega
  | e :: l => by rw [depthL]; have := depthL_nn l; omega
end
theorem check_good {n : Int} {e : EX} (h0 : 0 ≤ n) (h1 : n ≤ 16) (hr : RightE n e) (hc : cleanE e) (hd : depthE e ≤ 8) (hs : sizeE e ≤ 64) : checkS e n = (kindE e, 0) := by
  rw [checkS, if_neg (by omega), formed_good e 1 0 hr.1 hr.2.1 hc (by omega) (by omega) (by omega), if_neg (by simp), if_neg hr.2.2]

/-! ### what bytes describe -/
theorem clean_truth (b : Bool) : cleanE (truthE b) := by cases b <;> simp [truthE, trueE, falseE, zeroE, cleanE, cleanL]
theorem size_truth (b : Bool) : sizeE (truthE b) = 3 := by cases b <;> simp [truthE, trueE, falseE, zeroE, sizeE, sizeL]
theorem depth_truth (b : Bool) : depthE (truthE b) = 2 := by cases b <;> (simp [truthE, trueE, falseE, zeroE, depthE, depthL]; omega)
theorem ite3 {P : Prop} [Decidable P] {Q : GS → Prop} {x y : GS} (hx : P → Q x) (hy : ¬ P → Q y) : Q (if P then x else y) := by
  by_cases h : P
  · rw [if_pos h]; exact hx h
  · rw [if_neg h]; exact hy h
/-- What is kept of a grown expression: clean, of few levels, not many expressions. -/
def GOK (lv : Nat) (n : Int) (r : GS) : Prop := cleanE r.e ∧ depthE r.e ≤ (lv : Int) + 2 ∧ n + 1 ≤ r.n ∧ (r.n ≤ 12 → sizeE r.e ≤ 3 * (r.n - n)) ∧ (12 < r.n → sizeE r.e ≤ 3 * (12 - min n 12) + 3 * (1 + 2 * (lv : Int))) ∧ (12 ≤ n → sizeE r.e ≤ 3)
theorem gok_leaf (lv : Nat) (n : Int) (o v i : Int) (l : List UInt8) (hc : (o ≠ 0 → v = 0) ∧ (o ≠ 1 → i = 0)) : GOK lv n ⟨.node o v i [], l, n + 1⟩ := by
  refine ⟨?_, ?_, ?_, ?_, ?_, ?_⟩
  · rw [cleanE, cleanL]; exact ⟨hc.1, hc.2, trivial⟩
  · simp only [depthE, depthL]; omega
  · show n + 1 ≤ n + 1; omega
  all_goals (simp only [sizeE, sizeL]; omega)
theorem gok_truth (lv : Nat) (n : Int) (b : Bool) (l : List UInt8) : GOK lv n ⟨truthE b, l, n + 1⟩ := by
  refine ⟨clean_truth b, ?_, ?_, ?_, ?_, ?_⟩
  · simp only [depth_truth]; omega
  · show n + 1 ≤ n + 1; omega
  all_goals (simp only [size_truth]; omega)
theorem gok_1 {lv : Nat} {n o : Int} {a : GS} (ho : o ≠ 0 ∧ o ≠ 1) (hn : n + 1 ≤ 12) (ha : GOK lv (n + 1) a) (l : List UInt8) : GOK (lv + 1) n ⟨.node o 0 0 [a.e], l, a.n⟩ := by
  obtain ⟨a1, a2, a3, a4, a5, a6⟩ := ha
  refine ⟨?_, ?_, ?_, ?_, ?_, ?_⟩
  · rw [cleanE, cleanL, cleanL]; exact ⟨fun _ => rfl, fun _ => rfl, a1, trivial⟩
  · simp only [depthE, depthL]; omega
  · show n + 1 ≤ a.n; omega
  · intro h
    simp only at h
    have := a4 h
    simp only [sizeE, sizeL]; omega
  · intro h
    simp only at h
    have := a5 h
    simp only [sizeE, sizeL]; omega
  · intro h; omega
theorem gok_2 {lv : Nat} {n o : Int} {a b : GS} (ho : o ≠ 0 ∧ o ≠ 1) (ha : GOK lv (n + 1) a) (hb : GOK lv a.n b) (l : List UInt8) (hs : 12 ≤ n → sizeE a.e = 1 ∧ sizeE b.e = 1) : GOK (lv + 1) n ⟨.node o 0 0 [a.e, b.e], l, b.n⟩ := by
  obtain ⟨a1, a2, a3, a4, a5, a6⟩ := ha
  obtain ⟨b1, b2, b3, b4, b5, b6⟩ := hb
  refine ⟨?_, ?_, ?_, ?_, ?_, ?_⟩
  · rw [cleanE, cleanL, cleanL, cleanL]; exact ⟨fun _ => rfl, fun _ => rfl, a1, b1, trivial⟩
  · simp only [depthE, depthL]; omega
  · show n + 1 ≤ b.n; omega
  · intro h
    simp only at h
    have := a4 (by omega)
    have := b4 h
    simp only [sizeE, sizeL]; omega
  · intro h
    simp only at h
    simp only [sizeE, sizeL]
    by_cases h12 : 12 ≤ n
    · have := hs h12; omega
    · by_cases ha12 : a.n ≤ 12
      · have := a4 ha12
        have := b5 h
        omega
      · have := a5 (by omega)
        have := b6 (by omega)
        omega
  · intro h
    have := hs h
    simp only [sizeE, sizeL]; omega
theorem gok_3 {lv : Nat} {n o : Int} {a b c : GS} (ho : o ≠ 0 ∧ o ≠ 1) (hn : n + 1 ≤ 12) (ha : GOK lv (n + 1) a) (hb : GOK lv a.n b) (hc : GOK lv b.n c) (l : List UInt8) : GOK (lv + 1) n ⟨.node o 0 0 [a.e, b.e, c.e], l, c.n⟩ := by
  obtain ⟨a1, a2, a3, a4, a5, a6⟩ := ha
  obtain ⟨b1, b2, b3, b4, b5, b6⟩ := hb
  obtain ⟨c1, c2, c3, c4, c5, c6⟩ := hc
  refine ⟨?_, ?_, ?_, ?_, ?_, ?_⟩
  · rw [cleanE, cleanL, cleanL, cleanL, cleanL]; exact ⟨fun _ => rfl, fun _ => rfl, a1, b1, c1, trivial⟩
  · simp only [depthE, depthL]; omega
  · show n + 1 ≤ c.n; omega
  · intro h
    simp only at h
    have := a4 (by omega)
    have := b4 (by omega)
    have := c4 h
    simp only [sizeE, sizeL]; omega
  · intro h
    simp only at h
    simp only [sizeE, sizeL]
    by_cases ha12 : a.n ≤ 12
    · have := a4 ha12
      by_cases hb12 : b.n ≤ 12
      · have := b4 hb12
        have := c5 h
        omega
      · have := b5 (by omega)
        have := c6 (by omega)
        omega
    · have := a5 (by omega)
      have := b6 (by omega)
      have := c6 (by omega)
      omega
  · intro h; omega
theorem grow_one (vars : Int) : ∀ (lv : Nat) (l : List UInt8) (n : Int), 12 ≤ n → sizeE (growS vars lv 1 l n).e = 1
  | 0, l, n, h => by
    rw [growS, if_pos rfl]
    exact ite3 (Q := fun r => sizeE r.e = 1) (fun _ => by simp [sizeE, sizeL]) (fun _ => by simp [sizeE, sizeL])
  | lv + 1, l, n, h => by
    rw [growS, if_pos rfl, if_pos (.inl (by omega))]
    exact ite3 (Q := fun r => sizeE r.e = 1) (fun _ => by simp [sizeE, sizeL]) (fun _ => by simp [sizeE, sizeL])
theorem growS_ok (vars : Int) : ∀ (lv : Nat) (k : Int) (l : List UInt8) (n : Int), GOK lv n (growS vars lv k l n)
  | 0, k, l, n => by
    rw [growS]
    refine ite3 (fun _ => ite3 (fun _ => gok_leaf _ _ _ _ _ _ (by omega)) (fun _ => gok_leaf _ _ _ _ _ _ (by omega))) (fun _ => gok_truth _ _ _ _)
  | lv + 1, k, l, n => by
    have ih := growS_ok vars lv
    rw [growS]
    refine ite3 (fun _ => ?_) (fun _ => ?_)
    · refine ite3 (fun _ => ite3 (fun _ => gok_leaf _ _ _ _ _ _ (by omega)) (fun _ => gok_leaf _ _ _ _ _ _ (by omega))) (fun h => ?_)
      refine ite3 (fun _ => gok_1 (by omega) (by omega) (ih _ _ _) _) (fun _ => ite3 (fun _ => gok_3 (by omega) (by omega) (ih _ _ _) (ih _ _ _) (ih _ _ _) _) (fun _ => gok_2 (by omega) (ih _ _ _) (ih _ _ _) _ (fun h' => absurd h' (by omega))))
    · refine ite3 (fun _ => gok_2 (by omega) (ih _ _ _) (ih _ _ _) _ (fun h' => ⟨grow_one _ _ _ _ (by omega), grow_one _ _ _ _ (by have := (ih 1 (nextS l).2 (n + 1)).2.2.1; omega)⟩)) (fun h => ?_)
      refine ite3 (fun _ => gok_1 (by omega) (by omega) (ih _ _ _) _) (fun _ => ite3 (fun _ => gok_3 (by omega) (by omega) (ih _ _ _) (ih _ _ _) (ih _ _ _) _) (fun _ => gok_2 (by omega) (ih _ _ _) (ih _ _ _) _ (fun h' => absurd h' (by omega))))
/-- What at most 60 bytes describe passes the check, over enough variables. -/
theorem GrowS_good {n vars k : Int} (bytes : List UInt8) (hv : vars ≤ n) (hk : k = 1 ∨ k = 2) : RightE n (GrowS bytes vars k) ∧ kindE (GrowS bytes vars k) = k ∧ cleanE (GrowS bytes vars k) ∧ depthE (GrowS bytes vars k) ≤ 6 ∧ sizeE (GrowS bytes vars k) ≤ 64 := by
  have h1 := growS_right hv 4 k (bytes.take 60) 0 hk
  obtain ⟨g1, g2, g3, g4, g5, _⟩ := growS_ok vars 4 k (bytes.take 60) 0
  refine ⟨h1.1, h1.2, g1, by unfold GrowS; omega, ?_⟩
  unfold GrowS
  by_cases h : (growS vars 4 k (bytes.take 60) 0).n ≤ 12
  · have := g4 h; omega
  · have := g5 (by omega); omega
theorem GrowS_check {n vars k : Int} (bytes : List UInt8) (hv : vars ≤ n) (h0 : 0 ≤ n) (h1 : n ≤ 16) (hk : k = 1 ∨ k = 2) : checkS (GrowS bytes vars k) n = (k, 0) := by
  obtain ⟨a, b, c, d, e⟩ := GrowS_good bytes hv hk
  rw [check_good h0 h1 a c (by omega) e, b]
end Go.Proofs.Ytmclnnpaephkpaa

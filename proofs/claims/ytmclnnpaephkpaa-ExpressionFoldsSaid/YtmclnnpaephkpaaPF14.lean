/-
  PLAIN LAWS of chapter 14: folding keeps right expressions right, and their type.
-/
import Derived.Test.YtmclnnpaephkpaaPE14
namespace Go.Proofs.Ytmclnnpaephkpaa
set_option linter.unusedVariables false
set_option linter.unusedSimpArgs false
set_option linter.unnecessarySimpa false
set_option linter.unusedSectionVars false

theorem right_zero (n : Int) : RightE n zeroE := by
  refine ⟨?_, ?_, ?_⟩
  · simp [zeroE, wfE, wfL, argsS]
  · simp [zeroE, rangeE, rangeL, largeS]
  · simp [zeroE, kindE, kindL, kindOp]
theorem kind_zeroE : kindE zeroE = 1 := by simp [zeroE, kindE, kindL, kindOp]
theorem kind_true : kindE trueE = 2 := by simp [trueE, kindE, kindL, kindOp, kind_zeroE]
theorem kind_false : kindE falseE = 2 := by simp [falseE, kindE, kindL, kindOp, kind_zeroE]
theorem right_true (n : Int) : RightE n trueE := by
  have h := right_zero n
  refine ⟨?_, ?_, by rw [kind_true]; decide⟩
  · simp [trueE, wfE, wfL, argsS, h.1]
  · simp [trueE, rangeE, rangeL, h.2.1]
theorem right_false (n : Int) : RightE n falseE := by
  have h := right_zero n
  refine ⟨?_, ?_, by rw [kind_false]; decide⟩
  · simp [falseE, wfE, wfL, argsS, h.1]
  · simp [falseE, rangeE, rangeL, h.2.1]
theorem right_truth (n : Int) (b : Bool) : RightE n (truthE b) ∧ kindE (truthE b) = 2 := by
  cases b
  · exact ⟨right_false n, kind_false⟩
  · exact ⟨right_true n, kind_true⟩
theorem right_const (n c : Int) (h : largeS c 65536 = false) : RightE n (.node 0 c 0 []) ∧ kindE (.node 0 c 0 []) = 1 := by
  refine ⟨⟨?_, ?_, ?_⟩, ?_⟩
  · simp [wfE, wfL, argsS]
  · simp [rangeE, rangeL, h]
  · simp [kindE, kindL, kindOp]
  · simp [kindE, kindL, kindOp]
theorem rightAB {P Q : Prop} [Decidable P] {n k : Int} {x y : EX} (hx : P → RightE n x ∧ kindE x = k) (hy : ¬ P → RightE n y ∧ kindE y = k) : RightE n (if P then x else y) ∧ kindE (if P then x else y) = k := by
  by_cases h : P
  · rw [if_pos h]; exact hx h
  · rw [if_neg h]; exact hy h
/-- One rule. -/
theorem foldOp_right {n : Int} {y : EX} (h : RightE n y) : RightE n (foldOp y) ∧ kindE (foldOp y) = kindE y := by
  obtain ⟨o, v, i, l⟩ := y
  have hargs := wf_args h
  have hself : RightE n (.node o v i l) ∧ kindE (.node o v i l) = kindE (.node o v i l) := ⟨h, rfl⟩
  rcases kind_args h.1 h.2.2 with ⟨h1, _⟩ | ⟨rfl, a, rfl, _, _, hk⟩ | ⟨rfl, a, rfl, hwa, ka, hk⟩ | ⟨h1, a, b, rfl, _, _, _, _, hk⟩ | ⟨h1, a, b, rfl, _, _, _, _, hk⟩ | ⟨h1, a, b, rfl, _, _, ka, kb, hk⟩ | ⟨rfl, c, a, b, rfl, _, _, _, kc, ka, kb⟩
  · rw [foldOp, if_pos h1]; exact hself
  · rw [foldOp, if_neg (by decide), if_neg (by decide), if_neg (by decide), if_neg (by decide), if_neg (by decide), hk]
    refine rightAB (Q := True) (fun _ => ?_) (fun _ => ⟨h, hk⟩)
    rw [if_pos (by decide)]
    refine rightAB (Q := True) (fun _ => ⟨h, hk⟩) (fun hl => right_const n _ (by simpa using hl))
  · rw [foldOp, if_neg (by decide), if_pos rfl, hk]
    simp only [List.getD_cons_zero]
    refine rightAB (Q := True) (fun _ => ⟨right_false n, kind_false⟩) (fun _ => rightAB (Q := True) (fun _ => ⟨right_true n, kind_true⟩) (fun _ => rightAB (Q := True) (fun h10 => ?_) (fun _ => ⟨h, hk⟩)))
    have ha := hargs a (by simp)
    obtain ⟨o', v', i', l'⟩ := a
    simp only [EX.op] at h10
    subst h10
    have := kind_args ha.1 ha.2.2
    rcases this with ⟨h1, _⟩ | ⟨h1, _⟩ | ⟨_, b, rfl, _, kb, _⟩ | ⟨h1, _⟩ | ⟨h1, _⟩ | ⟨h1, _⟩ | ⟨h1, _⟩
    any_goals omega
    exact ⟨wf_args ha b (by simp), kb⟩
  · rw [foldOp, if_neg (by omega), if_neg (by omega), if_neg (by omega), if_neg (by omega), if_neg (by omega), hk]
    refine rightAB (Q := True) (fun _ => ?_) (fun _ => ⟨h, hk⟩)
    rw [if_pos (by omega)]
    refine rightAB (Q := True) (fun _ => ⟨h, hk⟩) (fun hl => right_const n _ (by simpa using hl))
  · rw [foldOp, if_neg (by omega), if_neg (by omega), if_neg (by omega), if_neg (by omega), if_neg (by omega), hk]
    refine rightAB (Q := True) (fun _ => ?_) (fun _ => ⟨h, hk⟩)
    rw [if_neg (by omega)]
    exact right_truth n _
  · have ha := hargs a (by simp)
    have hb := hargs b (by simp)
    rcases h1 with rfl | rfl
    · rw [foldOp, if_neg (by decide), if_neg (by decide), if_pos rfl, hk]
      exact rightAB (Q := True) (fun _ => ⟨right_false n, kind_false⟩) (fun _ => rightAB (Q := True) (fun _ => ⟨hb, kb⟩) (fun _ => rightAB (Q := True) (fun _ => ⟨ha, ka⟩) (fun _ => ⟨h, hk⟩)))
    · rw [foldOp, if_neg (by decide), if_neg (by decide), if_neg (by decide), if_pos rfl, hk]
      exact rightAB (Q := True) (fun _ => ⟨right_true n, kind_true⟩) (fun _ => rightAB (Q := True) (fun _ => ⟨hb, kb⟩) (fun _ => rightAB (Q := True) (fun _ => ⟨ha, ka⟩) (fun _ => ⟨h, hk⟩)))
  · rw [foldOp, if_neg (by decide), if_neg (by decide), if_neg (by decide), if_neg (by decide), if_pos rfl]
    exact rightAB (Q := True) (fun _ => ⟨hargs a (by simp), ka⟩) (fun _ => rightAB (Q := True) (fun _ => ⟨hargs b (by simp), kb⟩) (fun _ => ⟨h, rfl⟩))
theorem foldL_len : ∀ l : List EX, (foldL l).length = l.length
  | [] => rfl
  | e :: l => by rw [foldL]; simp [foldL_len l]
theorem foldL_mem : ∀ {l : List EX} {e : EX}, e ∈ foldL l → ∃ e', e' ∈ l ∧ e = foldE e'
  | a :: l, e, h => by
    rw [foldL] at h
    rcases List.mem_cons.1 h with rfl | h
    · exact ⟨a, by simp, rfl⟩
    · obtain ⟨e', h1, h2⟩ := foldL_mem h
      exact ⟨e', by simp [h1], h2⟩
  | [], e, h => by rw [foldL] at h; cases h
theorem wfL_all {l : List EX} (h : ∀ e, e ∈ l → wfE e) : wfL l := by
  induction l with
  | nil => rw [wfL]; trivial
  | cons a l ih => rw [wfL]; exact ⟨h a (by simp), ih fun e he => h e (by simp [he])⟩
theorem rangeL_all {n : Int} {l : List EX} (h : ∀ e, e ∈ l → rangeE n e) : rangeL n l := by
  induction l with
  | nil => rw [rangeL]; trivial
  | cons a l ih => rw [rangeL]; exact ⟨h a (by simp), ih fun e he => h e (by simp [he])⟩
theorem kindL_fold : ∀ {l : List EX}, (∀ e, e ∈ l → kindE (foldE e) = kindE e) → kindL (foldL l) = kindL l
  | [], _ => by rw [foldL]
  | e :: l, h => by rw [foldL, kindL, kindL, h e (by simp), kindL_fold fun e' he => h e' (by simp [he])]
theorem fold_node {n : Int} {o v i : Int} {l : List EX} (h : RightE n (.node o v i l)) (ih : ∀ e, e ∈ l → RightE n (foldE e) ∧ kindE (foldE e) = kindE e) : RightE n (.node o v i (foldL l)) ∧ kindE (.node o v i (foldL l)) = kindE (.node o v i l) := by
  have hk : kindE (.node o v i (foldL l)) = kindE (.node o v i l) := by rw [kindE, kindE, kindL_fold fun e he => (ih e he).2]
  refine ⟨⟨?_, ?_, by rw [hk]; exact h.2.2⟩, hk⟩
  · have := h.1
    rw [wfE] at this ⊢
    refine ⟨by rw [foldL_len]; exact this.1, wfL_all fun e he => ?_⟩
    obtain ⟨e', h1, rfl⟩ := foldL_mem he
    exact (ih e' h1).1.1
  · have := h.2.1
    rw [rangeE] at this ⊢
    refine ⟨this.1, this.2.1, rangeL_all fun e he => ?_⟩
    obtain ⟨e', h1, rfl⟩ := foldL_mem he
    exact (ih e' h1).1.2.1
/-- The folded expression is right, and of the same type. -/
theorem foldE_right {n : Int} : ∀ e, RightE n e → RightE n (foldE e) ∧ kindE (foldE e) = kindE e := by
  refine EX.ind fun o v i l ih => ?_
  intro h
  have hn := fold_node h fun e he => ih e he (wf_args h e he)
  have := foldOp_right hn.1
  rw [foldE]
  exact ⟨this.1, this.2.trans hn.2⟩
end Go.Proofs.Ytmclnnpaephkpaa

/-
  PLAIN LAWS of chapter 14: the value of an expression with another one in place of a variable; a right expression meets no error but the limits.
-/
import Derived.Test.YtmclnnpaephkpaaPH14
namespace Go.Proofs.Ytmclnnpaephkpaa
set_option linter.unusedVariables false
set_option linter.unusedSimpArgs false
set_option linter.unnecessarySimpa false
set_option linter.unusedSectionVars false

theorem replL_map' (i : Int) (b : EX) : ∀ l, replL i b l = l.map (replE i b)
  | [] => by rw [replL]; rfl
  | e :: l => by rw [replL, replL_map' i b l]; rfl
mutual
theorem eval_repl {vs : List Int} {i v : Int} {b : EX} (hb : evalE vs b = some v) (h0 : 0 ≤ i) (h1 : i < vs.length) : ∀ e, rangeE vs.length e → evalE vs (replE i b e) = evalE (vs.set i.toNat v) e
  | .node o x j l, hr => by
    rw [rangeE] at hr
    rw [replE]
    by_cases hv : o = 1 ∧ j = i
    · rw [if_pos hv, hb]
      obtain ⟨rfl, rfl⟩ := hv
      unfold evalE
      rw [if_neg (by decide), if_pos rfl, List.getD_eq_getElem?_getD, List.getElem?_set_self (by omega)]; rfl
    · rw [if_neg hv]
      have hL := evalL_repl hb h0 h1 l hr.2.2
      unfold evalE
      by_cases ho0 : o = 0
      · rw [if_pos ho0, if_pos ho0]
      by_cases ho1 : o = 1
      · rw [if_neg ho0, if_pos ho1, if_neg ho0, if_pos ho1]
        have hj := hr.2.1 ho1
        have hne : j.toNat ≠ i.toNat := fun e => hv ⟨ho1, by omega⟩
        rw [List.getD_eq_getElem?_getD, List.getD_eq_getElem?_getD, List.getElem?_set_ne (Ne.symm hne)]
      by_cases ho13 : o = 13
      · rw [if_neg ho0, if_neg ho1, if_pos ho13, if_neg ho0, if_neg ho1, if_pos ho13]
        match l, hr with
        | [], _ => rfl
        | [_], _ => rfl
        | [_, _], _ => rfl
        | c :: a :: d :: r, hr =>
          have hr2 := hr.2.2
          rw [rangeL, rangeL, rangeL] at hr2
          rw [replL, replL, replL]
          simp only
          rw [eval_repl hb h0 h1 c hr2.1, eval_repl hb h0 h1 a hr2.2.1, eval_repl hb h0 h1 d hr2.2.2.1]
      · rw [if_neg ho0, if_neg ho1, if_neg ho13, if_neg ho0, if_neg ho1, if_neg ho13, hL]
theorem evalL_repl {vs : List Int} {i v : Int} {b : EX} (hb : evalE vs b = some v) (h0 : 0 ≤ i) (h1 : i < vs.length) : ∀ l, rangeL vs.length l → evalL vs (replL i b l) = evalL (vs.set i.toNat v) l
  | [], _ => by rw [replL, evalL, evalL]
  | e :: l, hr => by
    rw [rangeL] at hr
    rw [replL, evalL, evalL, eval_repl hb h0 h1 e hr.1, evalL_repl hb h0 h1 l hr.2]
end
mutual
/-- What is in its place keeps an expression right. -/
theorem repl_right {n i : Int} {b : EX} (hb : RightE n b) (hk : kindE b = 1) : ∀ e, RightE n e → RightE n (replE i b e) ∧ kindE (replE i b e) = kindE e
  | .node o x j l, hr => by
    rw [replE]
    by_cases hv : o = 1 ∧ j = i
    · rw [if_pos hv]
      obtain ⟨rfl, rfl⟩ := hv
      refine ⟨hb, ?_⟩
      rcases kind_args hr.1 hr.2.2 with ⟨_, _, h⟩ | ⟨h, _⟩ | ⟨h, _⟩ | ⟨h, _⟩ | ⟨h, _⟩ | ⟨h, _⟩ | ⟨h, _⟩
      · rw [hk, h]
      all_goals omega
    · rw [if_neg hv]
      have hL := repl_rightL (i := i) hb hk l (fun e he => wf_args hr e he)
      have hkk : kindE (.node o x j (replL i b l)) = kindE (.node o x j l) := by rw [kindE, kindE, hL.2.2.2]
      refine ⟨⟨?_, ?_, by rw [hkk]; exact hr.2.2⟩, hkk⟩
      · have := hr.1
        rw [wfE] at this ⊢
        exact ⟨by rw [hL.1]; exact this.1, hL.2.1⟩
      · have := hr.2.1
        rw [rangeE] at this ⊢
        exact ⟨this.1, this.2.1, hL.2.2.1⟩
theorem repl_rightL {n i : Int} {b : EX} (hb : RightE n b) (hk : kindE b = 1) : ∀ l : List EX, (∀ e, e ∈ l → RightE n e) → (replL i b l).length = l.length ∧ wfL (replL i b l) ∧ rangeL n (replL i b l) ∧ kindL (replL i b l) = kindL l
  | [], _ => by rw [replL, wfL, rangeL]; exact ⟨rfl, trivial, trivial, rfl⟩
  | e :: l, h => by
    obtain ⟨h1, h2⟩ := repl_right (i := i) hb hk e (h e (List.mem_cons_self ..))
    obtain ⟨k1, k2, k3, k4⟩ := repl_rightL (i := i) hb hk l (fun e' he => h e' (List.mem_cons_of_mem _ he))
    rw [replL, wfL, rangeL, kindL, kindL, h2, k4]
    exact ⟨by simp [k1], ⟨h1.1, k2⟩, ⟨h1.2.1, k3⟩, rfl⟩
end
mutual
theorem repl_clean {i : Int} {b : EX} (hb : cleanE b) : ∀ e, cleanE e → cleanE (replE i b e)
  | .node o x j l, h => by
    rw [replE]
    by_cases hv : o = 1 ∧ j = i
    · rw [if_pos hv]; exact hb
    · rw [if_neg hv]
      rw [cleanE] at h ⊢
      exact ⟨h.1, h.2.1, repl_cleanL hb l h.2.2⟩
theorem repl_cleanL {i : Int} {b : EX} (hb : cleanE b) : ∀ l, cleanL l → cleanL (replL i b l)
  | [], _ => by rw [replL, cleanL]; trivial
  | e :: l, h => by
    rw [cleanL] at h
    rw [replL, cleanL]
    exact ⟨repl_clean hb e h.1, repl_cleanL hb l h.2⟩
end
mutual
/-- Only the limits can be passed. -/
theorem formed_lim {n : Int} : ∀ (e : EX) (level c : Int), wfE e → rangeE n e → cleanE e → (formedE e n level c).1 = 0 ∨ (formedE e n level c).1 = 3
  | .node o v i l, level, c, hw, hr, hc => by
    rw [wfE] at hw
    rw [rangeE] at hr
    rw [cleanE] at hc
    rw [formedE]
    by_cases hl : c = 64 ∨ 8 < level
    · rw [if_pos hl]; exact .inr rfl
    · rw [if_neg hl, hw.1]
      simp only
      rw [if_neg (by simp), if_neg (by intro h; rcases h with h | h; exact h.2 (hc.1 h.1); exact h.2 (hc.2.1 h.1)), if_neg (by
        intro h
        rcases h with h | h
        · rw [hr.1 h.1] at h; simp at h
        · have := hr.2.1 h.1; omega)]
      exact formed_limL l (level + 1) (c + 1) hw.2 hr.2.2 hc.2.2
theorem formed_limL {n : Int} : ∀ (l : List EX) (level c : Int), wfL l → rangeL n l → cleanL l → (formedL l n level c).1 = 0 ∨ (formedL l n level c).1 = 3
  | [], level, c, _, _, _ => by rw [formedL]; exact .inl rfl
  | e :: l, level, c, hw, hr, hc => by
    rw [wfL] at hw
    rw [rangeL] at hr
    rw [cleanL] at hc
    rw [formedL]
    split
    · exact formed_limL l level _ hw.2 hr.2 hc.2
    · exact formed_lim e level c hw.1 hr.1 hc.1
end
theorem check_lim {n : Int} {e : EX} (h0 : 0 ≤ n) (h1 : n ≤ 16) (hr : RightE n e) (hc : cleanE e) : checkS e n = (kindE e, 0) ∨ checkS e n = (0, 3) := by
  unfold checkS
  rw [if_neg (by omega)]
  rcases formed_lim e 1 0 hr.1 hr.2.1 hc with h | h
  · rw [h, if_neg (by simp), if_neg hr.2.2]; exact .inl rfl
  · rw [h, if_pos (by decide)]; exact .inr rfl
mutual
/-- Over fewer variables, where the indices are in range. -/
theorem formed_less {n m : Int} : ∀ (e : EX) (level c : Int), rangeE m e → (formedE e n level c).1 = 0 → formedE e m level c = formedE e n level c
  | .node o v i l, level, c, hr, h => by
    rw [rangeE] at hr
    rw [formedE] at h ⊢
    rw [formedE]
    by_cases hl : c = 64 ∨ 8 < level
    · rw [if_pos hl, if_pos hl]
    · rw [if_neg hl] at h
      rw [if_neg hl, if_neg hl]
      cases ha : argsS o with
      | none => rfl
      | some want =>
        rw [ha] at h
        simp only at h ⊢
        split
        · rfl
        · rename_i h2
          rw [if_neg h2] at h
          split
          · rfl
          · rename_i h3
            rw [if_neg h3] at h
            have hm : ¬ ((o = 0 ∧ largeS v 65536 = true) ∨ (o = 1 ∧ (i < 0 ∨ m ≤ i))) := by
              intro hx
              rcases hx with hx | hx
              · rw [hr.1 hx.1] at hx; simp at hx
              · have := hr.2.1 hx.1; omega
            rw [if_neg hm]
            split
            · rename_i h4; rw [if_pos h4] at h; simp at h
            · rename_i h4
              rw [if_neg h4] at h
              exact formed_lessL l (level + 1) (c + 1) hr.2.2 h
theorem formed_lessL {n m : Int} : ∀ (l : List EX) (level c : Int), rangeL m l → (formedL l n level c).1 = 0 → formedL l m level c = formedL l n level c
  | [], level, c, _, _ => by rw [formedL, formedL]
  | e :: l, level, c, hr, h => by
    rw [rangeL] at hr
    rw [formedL] at h
    split at h
    · rename_i h0
      have h1 := formed_less (m := m) e level c hr.1 h0
      rw [formedL, formedL, h1, if_pos h0, if_pos h0, formed_lessL l level _ hr.2 h]
    · rename_i h0; exact absurd h h0
end
theorem check_less {n m : Int} {e : EX} (h0 : 0 ≤ m) (h1 : m ≤ 16) (hr : RightE m e) (h : (checkS e n).2 = 0) : checkS e m = (kindE e, 0) := by
  unfold checkS at h ⊢
  split at h
  · simp at h
  · split at h
    · rename_i hx; exact absurd h (by simpa using hx)
    · rename_i hx
      have hz : (formedE e n 1 0).1 = 0 := by simpa using hx
      have hl := formed_less (m := m) e 1 0 hr.2.1 hz
      rw [if_neg (by omega), hl, if_neg (by simpa using hz), if_neg hr.2.2]
end Go.Proofs.Ytmclnnpaephkpaa

/-
  PLAIN LAWS of chapter 14: what right expressions are like.
-/
import Derived.Test.YtmclnnpaephkpaaPure14
namespace Go.Proofs.Ytmclnnpaephkpaa
set_option linter.unusedVariables false
set_option linter.unusedSimpArgs false
set_option linter.unnecessarySimpa false
set_option linter.unusedSectionVars false

theorem largeS_iff (n m : Int) : largeS n m = true ↔ (m < n ∨ n < -m) := by simp [largeS]
theorem largeS_false (n m : Int) : largeS n m = false ↔ (n ≤ m ∧ -m ≤ n) := by simp [largeS]
mutual
/-- Constants are not large, variables there are. -/
def rangeE (n : Int) : EX → Prop
  | .node o v i l => (o = 0 → largeS v 65536 = false) ∧ (o = 1 → 0 ≤ i ∧ i < n) ∧ rangeL n l
def rangeL (n : Int) : List EX → Prop
  | [] => True
  | e :: l => rangeE n e ∧ rangeL n l
end
theorem rangeL_mem {n : Int} : ∀ {l : List EX} {e : EX}, rangeL n l → e ∈ l → rangeE n e
  | a :: l, e, h, he => by
    rcases List.mem_cons.1 he with rfl | he
    · exact h.1
    · exact rangeL_mem h.2 he
mutual
theorem formedE_range : ∀ (e : EX) (n level c : Int), (formedE e n level c).1 = 0 → rangeE n e
  | .node o v i l, n, level, c, h => by
    rw [formedE] at h
    split at h
    · simp at h
    · split at h
      · simp at h
      · split at h
        · simp at h
        · split at h
          · simp at h
          · split at h
            · simp at h
            · rename_i hr
              rw [rangeE]
              refine ⟨fun ho => ?_, fun ho => ?_, formedL_range l n (level + 1) (c + 1) h⟩
              · cases hv : largeS v 65536
                · rfl
                · exact absurd (.inl ⟨ho, hv⟩) hr
              · omega
theorem formedL_range : ∀ (l : List EX) (n level c : Int), (formedL l n level c).1 = 0 → rangeL n l
  | [], _, _, _, _ => by rw [rangeL]; trivial
  | e :: l, n, level, c, h => by
    rw [formedL] at h
    rw [rangeL]
    split at h
    · rename_i h0
      exact ⟨formedE_range e n level c h0, formedL_range l n level _ h⟩
    · rename_i h0
      exact absurd h h0
end
theorem check_ok {e : EX} {n : Int} (h : (checkS e n).2 = 0) : 0 ≤ n ∧ n ≤ 16 ∧ wfE e ∧ rangeE n e ∧ kindE e ≠ 0 ∧ (checkS e n).1 = kindE e ∧ (formedE e n 1 0).1 = 0 := by
  unfold checkS at h ⊢
  split at h
  · simp at h
  · split at h
    · rename_i h1 h2; exact absurd h h2
    · rename_i h1 h2
      simp only [ne_eq, Decidable.not_not] at h2
      rw [if_neg h1, if_neg (by simpa using h2)]
      split at h
      · simp at h
      · rename_i h3
        rw [if_neg h3]
        exact ⟨by omega, by omega, formedE_wf e n 1 0 h2, formedE_range e n 1 0 h2, h3, rfl, h2⟩
theorem argsS_at {o : Int} {l : List EX} (h : argsS o = some (l.length : Int)) : 0 ≤ o ∧ o ≤ 13 ∧ ((o = 0 ∨ o = 1) → l = []) ∧ ((o = 5 ∨ o = 10) → ∃ a, l = [a]) ∧ (o = 13 → ∃ a b c, l = [a, b, c]) ∧ (2 ≤ o → o ≤ 12 → o ≠ 5 → o ≠ 10 → ∃ a b, l = [a, b]) := by
  unfold argsS at h
  have h0 : l.length = 0 → l = [] := List.eq_nil_of_length_eq_zero
  have h1 : l.length = 1 → ∃ a, l = [a] := fun h => by
    match l, h with
    | [a], _ => exact ⟨a, rfl⟩
  have h2 : l.length = 2 → ∃ a b, l = [a, b] := fun h => by
    match l, h with
    | [a, b], _ => exact ⟨a, b, rfl⟩
  have h3 : l.length = 3 → ∃ a b c, l = [a, b, c] := fun h => by
    match l, h with
    | [a, b, c], _ => exact ⟨a, b, c, rfl⟩
  repeat' split at h
  all_goals first | (cases h; done) | skip
  all_goals (injection h with h)
  all_goals refine ⟨by omega, by omega, fun _ => ?_, fun _ => ?_, fun _ => ?_, fun _ _ _ _ => ?_⟩
  all_goals first | omega | exact h0 (by omega) | exact h1 (by omega) | exact h2 (by omega) | exact h3 (by omega) | (exfalso; omega)
/-- What the type of an expression says of its arguments. -/
theorem kind_args {o v i : Int} {l : List EX} (hw : wfE (.node o v i l)) (hk : kindE (.node o v i l) ≠ 0) :
    ((o = 0 ∨ o = 1) ∧ l = [] ∧ kindE (.node o v i l) = 1) ∨ (o = 5 ∧ ∃ a, l = [a] ∧ wfE a ∧ kindE a = 1 ∧ kindE (.node o v i l) = 1) ∨ (o = 10 ∧ ∃ a, l = [a] ∧ wfE a ∧ kindE a = 2 ∧ kindE (.node o v i l) = 2) ∨
    ((o = 2 ∨ o = 3 ∨ o = 4) ∧ ∃ a b, l = [a, b] ∧ wfE a ∧ wfE b ∧ kindE a = 1 ∧ kindE b = 1 ∧ kindE (.node o v i l) = 1) ∨
    ((o = 6 ∨ o = 7 ∨ o = 8 ∨ o = 9) ∧ ∃ a b, l = [a, b] ∧ wfE a ∧ wfE b ∧ kindE a = 1 ∧ kindE b = 1 ∧ kindE (.node o v i l) = 2) ∨
    ((o = 11 ∨ o = 12) ∧ ∃ a b, l = [a, b] ∧ wfE a ∧ wfE b ∧ kindE a = 2 ∧ kindE b = 2 ∧ kindE (.node o v i l) = 2) ∨
    (o = 13 ∧ ∃ c a b, l = [c, a, b] ∧ wfE c ∧ wfE a ∧ wfE b ∧ kindE c = 2 ∧ kindE a = kindE (.node o v i l) ∧ kindE b = kindE (.node o v i l)) := by
  rw [wfE] at hw
  obtain ⟨h0, h13, hA, hB, hC, hD⟩ := argsS_at hw.1
  have hwl := hw.2
  have hcls : (o = 0 ∨ o = 1) ∨ o = 5 ∨ o = 10 ∨ o = 13 ∨ ((o = 2 ∨ o = 3 ∨ o = 4) ∨ (o = 6 ∨ o = 7 ∨ o = 8 ∨ o = 9) ∨ (o = 11 ∨ o = 12)) := by omega
  rcases hcls with h | h | h | h | h
  · obtain rfl := hA h
    refine .inl ⟨h, rfl, ?_⟩
    rcases h with rfl | rfl <;> simp [kindE, kindL, kindOp]
  · obtain ⟨a, rfl⟩ := hB (.inl h)
    subst h
    refine .inr (.inl ⟨rfl, a, rfl, hwl.1, ?_⟩)
    rw [kindE, kindL, kindL] at hk ⊢
    by_cases ha : kindE a = 0
    · rw [if_pos ha] at hk; simp at hk
    · rw [if_neg ha] at hk ⊢
      simp [kindOp] at hk ⊢
      exact hk
  · obtain ⟨a, rfl⟩ := hB (.inr h)
    subst h
    refine .inr (.inr (.inl ⟨rfl, a, rfl, hwl.1, ?_⟩))
    rw [kindE, kindL, kindL] at hk ⊢
    by_cases ha : kindE a = 0
    · rw [if_pos ha] at hk; simp at hk
    · rw [if_neg ha] at hk ⊢
      simp [kindOp] at hk ⊢
      exact hk
  · obtain ⟨c, a, b, rfl⟩ := hC h
    subst h
    refine .inr (.inr (.inr (.inr (.inr (.inr ⟨rfl, c, a, b, rfl, hwl.1, hwl.2.1, hwl.2.2.1, ?_⟩)))))
    rw [kindE, kindL, kindL, kindL, kindL] at hk ⊢
    by_cases hc : kindE c = 0
    · rw [if_pos hc] at hk; simp at hk
    by_cases ha : kindE a = 0
    · rw [if_neg hc, if_pos ha] at hk; simp at hk
    by_cases hb : kindE b = 0
    · rw [if_neg hc, if_neg ha, if_pos hb] at hk; simp at hk
    rw [if_neg hc, if_neg ha, if_neg hb] at hk ⊢
    simp [kindOp] at hk ⊢
    simp [hk]
  · have hd := hD (by omega) (by omega) (by omega) (by omega)
    obtain ⟨a, b, rfl⟩ := hd
    have key : kindE a ≠ 0 ∧ kindE b ≠ 0 ∧ kindE (.node o v i [a, b]) = kindOp o [kindE a, kindE b] := by
      rw [kindE, kindL, kindL, kindL] at hk ⊢
      by_cases ha : kindE a = 0
      · rw [if_pos ha] at hk; simp at hk
      by_cases hb : kindE b = 0
      · rw [if_neg ha, if_pos hb] at hk; simp at hk
      rw [if_neg ha, if_neg hb]
      exact ⟨ha, hb, rfl⟩
    obtain ⟨ka, kb, ke⟩ := key
    rw [ke] at hk ⊢
    rcases h with h | h | h
    · refine .inr (.inr (.inr (.inl ⟨h, a, b, rfl, hwl.1, hwl.2.1, ?_⟩)))
      rcases h with rfl | rfl | rfl <;> (simp [kindOp] at hk ⊢; simp [hk])
    · refine .inr (.inr (.inr (.inr (.inl ⟨h, a, b, rfl, hwl.1, hwl.2.1, ?_⟩))))
      rcases h with rfl | rfl | rfl | rfl <;> (simp [kindOp] at hk ⊢; simp [hk])
    · refine .inr (.inr (.inr (.inr (.inr (.inl ⟨h, a, b, rfl, hwl.1, hwl.2.1, ?_⟩)))))
      rcases h with rfl | rfl <;> (simp [kindOp] at hk ⊢; simp [hk])
end Go.Proofs.Ytmclnnpaephkpaa

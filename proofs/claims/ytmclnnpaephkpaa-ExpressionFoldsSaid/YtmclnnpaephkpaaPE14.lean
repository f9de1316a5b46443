/-
  PLAIN LAWS of chapter 14: the value of a right expression is not large, and 0 or 1 where it is a truth.
-/
import Derived.Test.YtmclnnpaephkpaaPL14
namespace Go.Proofs.Ytmclnnpaephkpaa
set_option linter.unusedVariables false
set_option linter.unusedSimpArgs false
set_option linter.unnecessarySimpa false
set_option linter.unusedSectionVars false

/-- Numbers that an operation may be applied to. -/
def AppOK (o : Int) (ns : List Int) : Prop :=
  (∃ a, ns = [a] ∧ (o = 5 ∨ o = 10) ∧ -1073741824 ≤ a ∧ a ≤ 1073741824) ∨
  (∃ a b, ns = [a, b] ∧ (o = 2 ∨ o = 3 ∨ o = 4 ∨ o = 6 ∨ o = 7 ∨ o = 8 ∨ o = 9) ∧ -1073741824 ≤ a ∧ a ≤ 1073741824 ∧ -1073741824 ≤ b ∧ b ≤ 1073741824) ∨
  (∃ a b, ns = [a, b] ∧ (o = 11 ∨ o = 12) ∧ (a = 0 ∨ a = 1) ∧ (b = 0 ∨ b = 1))
theorem evalL_one {vs : List Int} {a : EX} {ns : List Int} (h : evalL vs [a] = some ns) : ∃ p, ns = [p] ∧ evalE vs a = some p := by
  rw [evalL, evalL] at h
  cases ha : evalE vs a with
  | none => rw [ha] at h; simp at h
  | some p => rw [ha] at h; simp at h; exact ⟨p, h.symm, rfl⟩
theorem evalL_two {vs : List Int} {a b : EX} {ns : List Int} (h : evalL vs [a, b] = some ns) : ∃ p q, ns = [p, q] ∧ evalE vs a = some p ∧ evalE vs b = some q := by
  rw [evalL, evalL, evalL] at h
  cases ha : evalE vs a with
  | none => rw [ha] at h; simp at h
  | some p =>
    rw [ha] at h
    cases hb : evalE vs b with
    | none => rw [hb] at h; simp at h
    | some q => rw [hb] at h; simp at h; exact ⟨p, q, h.symm, rfl, rfl⟩
theorem applyS_bool {o a b : Int} (ho : o = 11 ∨ o = 12) (ha : a = 0 ∨ a = 1) (hb : b = 0 ∨ b = 1) : applyS o [a, b] = 0 ∨ applyS o [a, b] = 1 := by
  rcases ho with rfl | rfl <;> rcases ha with rfl | rfl <;> rcases hb with rfl | rfl <;> (simp only [applyS]; decide)
theorem bitS_bd (b : Bool) : bitS b = 0 ∨ bitS b = 1 := by cases b <;> simp [bitS]
/-- What is said of the value of a right expression. -/
def ValOK (e : EX) (r : Int) : Prop := -1073741824 ≤ r ∧ r ≤ 1073741824 ∧ (kindE e = 2 → r = 0 ∨ r = 1)
def RightE (n : Int) (e : EX) : Prop := wfE e ∧ rangeE n e ∧ kindE e ≠ 0
/-- The numbers of right arguments may be applied to. -/
theorem app_ok {vs : List Int} {o v i : Int} {l : List EX} {ns : List Int} (hr : wfE (.node o v i l)) (hk : kindE (.node o v i l) ≠ 0) (ho : o ≠ 0 ∧ o ≠ 1 ∧ o ≠ 13) (h : evalL vs l = some ns) (hv : ∀ e, e ∈ l → ∀ r, evalE vs e = some r → ValOK e r) : AppOK o ns := by
  rcases kind_args hr hk with ⟨h1, _⟩ | ⟨rfl, a, rfl, _⟩ | ⟨rfl, a, rfl, _⟩ | ⟨h1, a, b, rfl, _⟩ | ⟨h1, a, b, rfl, _⟩ | ⟨h1, a, b, rfl, _, _, ka, kb, _⟩ | ⟨h1, _⟩
  · omega
  · obtain ⟨p, rfl, hp⟩ := evalL_one h
    have := hv a (by simp) p hp
    exact .inl ⟨p, rfl, by omega, this.1, this.2.1⟩
  · obtain ⟨p, rfl, hp⟩ := evalL_one h
    have := hv a (by simp) p hp
    exact .inl ⟨p, rfl, by omega, this.1, this.2.1⟩
  · obtain ⟨p, q, rfl, hp, hq⟩ := evalL_two h
    have h3 := hv a (by simp) p hp
    have h4 := hv b (by simp) q hq
    exact .inr (.inl ⟨p, q, rfl, by omega, h3.1, h3.2.1, h4.1, h4.2.1⟩)
  · obtain ⟨p, q, rfl, hp, hq⟩ := evalL_two h
    have h3 := hv a (by simp) p hp
    have h4 := hv b (by simp) q hq
    exact .inr (.inl ⟨p, q, rfl, by omega, h3.1, h3.2.1, h4.1, h4.2.1⟩)
  · obtain ⟨p, q, rfl, hp, hq⟩ := evalL_two h
    have h3 := hv a (by simp) p hp
    have h4 := hv b (by simp) q hq
    exact .inr (.inr ⟨p, q, rfl, h1, h3.2.2 ka, h4.2.2 kb⟩)
  · omega
theorem kindL_ne {l : List EX} {ks : List Int} (h : kindL l = some ks) : ∀ e, e ∈ l → kindE e ≠ 0 := by
  induction l generalizing ks with
  | nil => intro e he; simp at he
  | cons a l ih =>
    intro e he
    rw [kindL] at h
    split at h
    · cases h
    · rename_i h0
      rcases List.mem_cons.1 he with rfl | he
      · exact h0
      · cases hl : kindL l with
        | none => rw [hl] at h; simp at h
        | some k2 => exact ih hl e he
theorem kind_zero {o v i : Int} {l : List EX} (h : kindE (.node o v i l) ≠ 0) : ∀ e, e ∈ l → kindE e ≠ 0 := by
  rw [kindE] at h
  cases hl : kindL l with
  | none => rw [hl] at h; simp at h
  | some ks => exact kindL_ne hl
theorem wf_args {o v i : Int} {l : List EX} {n : Int} (hr : RightE n (.node o v i l)) : ∀ e, e ∈ l → RightE n e := by
  intro e he
  have hw := hr.1
  have hg := hr.2.1
  rw [wfE] at hw
  rw [rangeE] at hg
  refine ⟨wfL_mem hw.2 he, rangeL_mem hg.2.2 he, ?_⟩
  have hz := kind_zero hr.2.2
  exact hz e he
theorem evalE_ok {vs : List Int} (hvs : ∀ q, q ∈ vs → -65536 ≤ q ∧ q ≤ 65536) : ∀ e, RightE vs.length e → ∀ r, evalE vs e = some r → ValOK e r := by
  refine EX.ind fun o v i l ih => ?_
  intro hr r h
  have hall : ∀ e, e ∈ l → ∀ r, evalE vs e = some r → ValOK e r := fun e he => ih e he (wf_args hr e he)
  have hg := hr.2.1
  rw [rangeE] at hg
  unfold evalE at h
  by_cases h0 : o = 0
  · rw [if_pos h0] at h
    injection h with h
    subst h
    have := (largeS_false _ _).1 (hg.1 h0)
    refine ⟨by omega, by omega, fun hk => ?_⟩
    rcases kind_args hr.1 hr.2.2 with ⟨_, _, h1⟩ | h1 | h1 | h1 | h1 | h1 | h1
    all_goals first | omega | (obtain ⟨h1, _⟩ := h1; omega)
  by_cases h1 : o = 1
  · rw [if_neg h0, if_pos h1] at h
    injection h with h
    have hi := hg.2.1 h1
    have hlt : i.toNat < vs.length := by omega
    rw [List.getD_eq_getElem?_getD, List.getElem?_eq_getElem hlt] at h
    simp at h
    have := hvs _ (List.getElem_mem hlt)
    rw [h] at this
    refine ⟨by omega, by omega, fun hk => ?_⟩
    rcases kind_args hr.1 hr.2.2 with ⟨_, _, h1⟩ | h1 | h1 | h1 | h1 | h1 | h1
    all_goals first | omega | (obtain ⟨h1, _⟩ := h1; omega)
  by_cases h13 : o = 13
  · rw [if_neg h0, if_neg h1, if_pos h13] at h
    rcases kind_args hr.1 hr.2.2 with h2 | h2 | h2 | h2 | h2 | h2 | ⟨_, c, a, b, rfl, _, _, _, kc, ka, kb⟩
    case inr.inr.inr.inr.inr.inr =>
      simp only at h
      cases hc : evalE vs c with
      | none => rw [hc] at h; cases h
      | some n =>
        rw [hc] at h
        simp only at h
        split at h
        · have := hall a (by simp) r h
          exact ⟨this.1, this.2.1, fun hk => this.2.2 (ka.trans hk)⟩
        · have := hall b (by simp) r h
          exact ⟨this.1, this.2.1, fun hk => this.2.2 (kb.trans hk)⟩
    all_goals (obtain ⟨h2, _⟩ := h2; omega)
  · rw [if_neg h0, if_neg h1, if_neg h13] at h
    cases hl : evalL vs l with
    | none => rw [hl] at h; cases h
    | some ns =>
      rw [hl] at h
      simp only at h
      split at h
      · cases h
      · rename_i hlg
        injection h with h
        subst h
        have hb := (largeS_false _ _).1 (by simpa using hlg)
        refine ⟨hb.2, hb.1, fun hk => ?_⟩
        rcases kind_args hr.1 hr.2.2 with h2 | ⟨rfl, a, rfl, _, _, h2⟩ | ⟨rfl, a, rfl, _, ka, h2⟩ | ⟨_, a, b, rfl, _, _, _, _, h2⟩ | ⟨h1, a, b, rfl, _⟩ | ⟨h1, a, b, rfl, _, _, ka, kb, _⟩ | ⟨h1, _⟩
        · omega
        · omega
        · obtain ⟨p, rfl, hp⟩ := evalL_one hl
          rcases (hall a (by simp) p hp).2.2 ka with rfl | rfl <;> simp [applyS]
        · omega
        · obtain ⟨p, q, rfl, hp, hq⟩ := evalL_two hl
          rcases h1 with rfl | rfl | rfl | rfl <;> (simp only [applyS]; exact bitS_bd _)
        · obtain ⟨p, q, rfl, hp, hq⟩ := evalL_two hl
          exact applyS_bool h1 ((hall a (by simp) p hp).2.2 ka) ((hall b (by simp) q hq).2.2 kb)
        · omega
end Go.Proofs.Ytmclnnpaephkpaa

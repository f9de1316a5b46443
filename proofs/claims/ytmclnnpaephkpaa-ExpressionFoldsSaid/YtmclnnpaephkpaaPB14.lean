/-
  PLAIN LAWS of chapter 14: the bounds of a right expression are bounds, not large, and 0 or 1 where it is a truth.
-/
import Derived.Test.YtmclnnpaephkpaaPE14
namespace Go.Proofs.Ytmclnnpaephkpaa
set_option linter.unusedVariables false
set_option linter.unusedSimpArgs false
set_option linter.unnecessarySimpa false
set_option linter.unusedSectionVars false

def VarsOK (vs : List VT) : Prop := ∀ v, v ∈ vs → -65536 ≤ v.low ∧ v.low ≤ v.high ∧ v.high ≤ 65536
def Sp (p : Int × Int) : Prop := -1073741824 ≤ p.1 ∧ p.1 ≤ p.2 ∧ p.2 ≤ 1073741824
def Sb (p : Int × Int) : Prop := (p.1 = 0 ∨ p.1 = 1) ∧ (p.2 = 0 ∨ p.2 = 1)
def SpanOK (e : EX) (p : Int × Int) : Prop := Sp p ∧ (kindE e = 2 → Sb p)
/-- Bounds that an operation may be applied to. -/
def SpOK (o : Int) (os : List (Int × Int)) : Prop :=
  (∃ a, os = [a] ∧ ((o = 5 ∧ Sp a) ∨ (o = 10 ∧ Sp a ∧ Sb a))) ∨
  (∃ a b, os = [a, b] ∧ (o = 2 ∨ o = 3 ∨ o = 4 ∨ o = 6 ∨ o = 7 ∨ o = 8 ∨ o = 9) ∧ Sp a ∧ Sp b) ∨
  (∃ a b, os = [a, b] ∧ (o = 11 ∨ o = 12) ∧ Sp a ∧ Sp b ∧ Sb a ∧ Sb b) ∨
  (∃ a b c, os = [a, b, c] ∧ o = 13 ∧ Sp a ∧ Sb a ∧ Sp b ∧ Sp c)
theorem boundsL_one {vs : List VT} {a : EX} {ns : List (Int × Int)} (h : boundsL vs [a] = some ns) : ∃ p, ns = [p] ∧ boundsE vs a = some p := by
  rw [boundsL, boundsL] at h
  cases ha : boundsE vs a with
  | none => rw [ha] at h; simp at h
  | some p => rw [ha] at h; simp at h; exact ⟨p, h.symm, rfl⟩
theorem boundsL_two {vs : List VT} {a b : EX} {ns : List (Int × Int)} (h : boundsL vs [a, b] = some ns) : ∃ p q, ns = [p, q] ∧ boundsE vs a = some p ∧ boundsE vs b = some q := by
  rw [boundsL] at h
  cases ha : boundsE vs a with
  | none => rw [ha] at h; simp at h
  | some p =>
    rw [ha] at h
    cases hb : boundsL vs [b] with
    | none => rw [hb] at h; simp at h
    | some q =>
      rw [hb] at h
      obtain ⟨q, rfl, hq⟩ := boundsL_one hb
      simp at h
      exact ⟨p, q, h.symm, rfl, hq⟩
theorem boundsL_three {vs : List VT} {a b c : EX} {ns : List (Int × Int)} (h : boundsL vs [a, b, c] = some ns) : ∃ p q r, ns = [p, q, r] ∧ boundsE vs a = some p ∧ boundsE vs b = some q ∧ boundsE vs c = some r := by
  rw [boundsL] at h
  cases ha : boundsE vs a with
  | none => rw [ha] at h; simp at h
  | some p =>
    rw [ha] at h
    cases hb : boundsL vs [b, c] with
    | none => rw [hb] at h; simp at h
    | some q =>
      rw [hb] at h
      obtain ⟨q, r, rfl, hq, hr⟩ := boundsL_two hb
      simp at h
      exact ⟨p, q, r, h.symm, rfl, hq, hr⟩
theorem boundsE_0 {vs : List VT} {v i : Int} : boundsE vs (.node 0 v i []) = some (v, v) := by rw [boundsE, boundsL]; simp
theorem boundsE_1 {vs : List VT} {v i : Int} : boundsE vs (.node 1 v i []) = some ((vs.getD i.toNat default).low, (vs.getD i.toNat default).high) := by rw [boundsE, boundsL]; simp
theorem boundsE_op {vs : List VT} {o v i : Int} {l : List EX} (ho : o ≠ 0 ∧ o ≠ 1) : boundsE vs (.node o v i l) = (boundsL vs l).bind (boundsOp o) := by
  rw [boundsE]
  cases boundsL vs l
  · rfl
  · simp [ho.1, ho.2]
theorem span_ok {vs : List VT} {o v i : Int} {l : List EX} {os : List (Int × Int)} (hr : wfE (.node o v i l)) (hk : kindE (.node o v i l) ≠ 0) (ho : o ≠ 0 ∧ o ≠ 1) (h : boundsL vs l = some os) (hv : ∀ e, e ∈ l → ∀ r, boundsE vs e = some r → SpanOK e r) : SpOK o os := by
  rcases kind_args hr hk with ⟨h1, _⟩ | ⟨rfl, a, rfl, _⟩ | ⟨rfl, a, rfl, _, ka, _⟩ | ⟨h1, a, b, rfl, _⟩ | ⟨h1, a, b, rfl, _⟩ | ⟨h1, a, b, rfl, _, _, ka, kb, _⟩ | ⟨h1, c, a, b, rfl, _, _, _, kc, _⟩
  · omega
  · obtain ⟨p, rfl, hp⟩ := boundsL_one h
    exact .inl ⟨p, rfl, .inl ⟨rfl, (hv a (by simp) p hp).1⟩⟩
  · obtain ⟨p, rfl, hp⟩ := boundsL_one h
    have := hv a (by simp) p hp
    exact .inl ⟨p, rfl, .inr ⟨rfl, this.1, this.2 ka⟩⟩
  · obtain ⟨p, q, rfl, hp, hq⟩ := boundsL_two h
    exact .inr (.inl ⟨p, q, rfl, by omega, (hv a (by simp) p hp).1, (hv b (by simp) q hq).1⟩)
  · obtain ⟨p, q, rfl, hp, hq⟩ := boundsL_two h
    exact .inr (.inl ⟨p, q, rfl, by omega, (hv a (by simp) p hp).1, (hv b (by simp) q hq).1⟩)
  · obtain ⟨p, q, rfl, hp, hq⟩ := boundsL_two h
    exact .inr (.inr (.inl ⟨p, q, rfl, h1, (hv a (by simp) p hp).1, (hv b (by simp) q hq).1, (hv a (by simp) p hp).2 ka, (hv b (by simp) q hq).2 kb⟩))
  · obtain ⟨p, q, r, rfl, hp, hq, hr⟩ := boundsL_three h
    exact .inr (.inr (.inr ⟨p, q, r, rfl, h1, (hv c (by simp) p hp).1, (hv c (by simp) p hp).2 kc, (hv a (by simp) q hq).1, (hv b (by simp) r hr).1⟩))
theorem bitS_le (a b : Bool) (h : a = true → b = true) : bitS a ≤ bitS b := by
  cases a <;> cases b <;> simp_all [bitS]
theorem cmpS_ok (o : Int) (a b : Int × Int) (ha : Sp a) (hb : Sp b) : Sp (cmpS o a b) ∧ Sb (cmpS o a b) := by
  have key : ∀ p q : Bool, (p = true → q = true) → Sp (bitS p, bitS q) ∧ Sb (bitS p, bitS q) := fun p q h => by
    cases p <;> cases q <;> simp_all [bitS, Sp, Sb]
  obtain ⟨a1, a2⟩ := a
  obtain ⟨b1, b2⟩ := b
  simp only [Sp] at ha hb
  unfold cmpS
  repeat' split
  all_goals
    apply key
    simp
    try omega
theorem spanOut_ok {l h : Int} {p : Int × Int} (hlh : l ≤ h) (hp : spanOut l h = some p) : Sp p ∧ p = (l, h) := by
  unfold spanOut at hp
  split at hp
  · cases hp
  · rename_i hh
    injection hp with hp
    subst hp
    simp [largeS] at hh
    exact ⟨by simp only [Sp]; omega, rfl⟩
theorem boundsOp_ok {o : Int} {os : List (Int × Int)} {p : Int × Int} (h : SpOK o os) (hp : boundsOp o os = some p) : Sp p ∧ (6 ≤ o → o ≤ 12 → Sb p) ∧ (o = 13 → ∀ a b c, os = [a, b, c] → Sb b → Sb c → Sb p) := by
  rcases h with ⟨a, rfl, ⟨rfl, ha⟩ | ⟨rfl, ha, hb⟩⟩ | ⟨a, b, rfl, ho, ha, hb⟩ | ⟨a, b, rfl, ho, ha, hb, ka, kb⟩ | ⟨a, b, c, rfl, rfl, ha, ka, hb, hc⟩
  · simp [boundsOp] at hp
    refine ⟨(spanOut_ok (by simp only [Sp] at ha; omega) hp).1, fun h => by omega, fun h => by omega⟩
  · simp [boundsOp] at hp
    subst hp
    obtain ⟨a1, a2⟩ := a
    simp only [Sp, Sb] at ha hb ⊢
    refine ⟨by omega, fun _ _ => by omega, fun h => by omega⟩
  · rcases ho with rfl | rfl | rfl | ho
    · simp [boundsOp] at hp
      refine ⟨(spanOut_ok (by simp only [Sp] at ha hb; omega) hp).1, fun h => by omega, fun h => by omega⟩
    · simp [boundsOp] at hp
      refine ⟨(spanOut_ok (by simp only [Sp] at ha hb; omega) hp).1, fun h => by omega, fun h => by omega⟩
    · simp [boundsOp] at hp
      refine ⟨(spanOut_ok (by omega) hp).1, fun h => by omega, fun h => by omega⟩
    · unfold boundsOp at hp
      rw [if_pos (by omega)] at hp
      injection hp with hp
      subst hp
      have := cmpS_ok o _ _ ha hb
      exact ⟨this.1, fun _ _ => this.2, fun h => by omega⟩
  · obtain ⟨a1, a2⟩ := a
    obtain ⟨b1, b2⟩ := b
    simp only [Sp, Sb] at ha hb ka kb
    obtain ⟨k1, k2⟩ := ka
    obtain ⟨k3, k4⟩ := kb
    rcases ho with rfl | rfl
    all_goals
      simp [boundsOp] at hp
      subst hp
      refine ⟨?_, fun _ _ => ?_, fun h => by omega⟩
      all_goals
        simp only [Sp, Sb]
        rcases k1 with rfl | rfl <;> rcases k2 with rfl | rfl <;> rcases k3 with rfl | rfl <;> rcases k4 with rfl | rfl <;> (simp at ha hb ⊢; try decide)
  · refine ⟨?_, fun h1 h2 => by omega, fun _ => ?_⟩
    · simp [boundsOp] at hp
      repeat' split at hp
      · injection hp with hp; subst hp; exact hb
      · injection hp with hp; subst hp; exact hc
      · injection hp with hp; subst hp; simp only [Sp] at hb hc ⊢; omega
    · rintro a' b' c' h hb' hc'
      simp only [List.cons.injEq, and_true] at h
      obtain ⟨rfl, rfl, rfl⟩ := h
      simp [boundsOp] at hp
      repeat' split at hp
      · injection hp with hp; subst hp; exact hb'
      · injection hp with hp; subst hp; exact hc'
      · injection hp with hp; subst hp; simp only [Sb] at hb' hc' ⊢; omega
theorem boundsE_ok {vs : List VT} (hvs : VarsOK vs) : ∀ e, RightE vs.length e → ∀ r, boundsE vs e = some r → SpanOK e r := by
  refine EX.ind fun o v i l ih => ?_
  intro hr r h
  have hall : ∀ e, e ∈ l → ∀ r, boundsE vs e = some r → SpanOK e r := fun e he => ih e he (wf_args hr e he)
  have hg := hr.2.1
  rw [rangeE] at hg
  have hka := kind_args hr.1 hr.2.2
  by_cases ho : o = 0 ∨ o = 1
  · have hk1 : kindE (.node o v i l) = 1 := by
      rcases hka with ⟨_, _, h1⟩ | h1 | h1 | h1 | h1 | h1 | h1
      all_goals first | exact h1 | (obtain ⟨h1, _⟩ := h1; omega)
    have hl : l = [] := by
      rcases hka with ⟨_, h1, _⟩ | h1 | h1 | h1 | h1 | h1 | h1
      all_goals first | exact h1 | (obtain ⟨h1, _⟩ := h1; omega)
    subst hl
    refine ⟨?_, fun h2 => by omega⟩
    rcases ho with rfl | rfl
    · rw [boundsE_0] at h
      injection h with h
      subst h
      have := (largeS_false _ _).1 (hg.1 rfl)
      simp only [Sp]; omega
    · rw [boundsE_1] at h
      injection h with h
      have hi := hg.2.1 rfl
      have hlt : i.toNat < vs.length := by omega
      rw [List.getD_eq_getElem?_getD, List.getElem?_eq_getElem hlt] at h
      have := hvs _ (List.getElem_mem hlt)
      subst h
      simp only [Sp, Option.getD_some]; omega
  · have ho' : o ≠ 0 ∧ o ≠ 1 := by omega
    rw [boundsE_op ho'] at h
    cases hl : boundsL vs l with
    | none => rw [hl] at h; cases h
    | some os =>
      rw [hl] at h
      have hs := span_ok hr.1 hr.2.2 ho' hl hall
      have hb := boundsOp_ok hs h
      refine ⟨hb.1, fun hk => ?_⟩
      rcases hka with ⟨h1, _⟩ | ⟨rfl, a, rfl, _, _, h2⟩ | ⟨rfl, a, rfl, _, ka, h2⟩ | ⟨_, a, b, rfl, _, _, _, _, h2⟩ | ⟨h1, a, b, rfl, _⟩ | ⟨h1, a, b, rfl, _, _, ka, kb, _⟩ | ⟨h1, c, a, b, rfl, _, _, _, kc, ka, kb⟩
      · omega
      · omega
      · exact hb.2.1 (by omega) (by omega)
      · omega
      · exact hb.2.1 (by omega) (by omega)
      · exact hb.2.1 (by omega) (by omega)
      · obtain ⟨p, q, r', rfl, hp, hq, hr'⟩ := boundsL_three hl
        exact hb.2.2 h1 p q r' rfl ((hall a (by simp) q hq).2 (by omega)) ((hall b (by simp) r' hr').2 (by omega))
end Go.Proofs.Ytmclnnpaephkpaa

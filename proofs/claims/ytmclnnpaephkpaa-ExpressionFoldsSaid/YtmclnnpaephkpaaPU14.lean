/-
  PLAIN LAWS of chapter 14: which variables occur, and a sorted list without its copies.
-/
import Derived.Test.YtmclnnpaephkpaaD14s
import Derived.Test.YtmclnnpaephkpaaPM14
namespace Go.Proofs.Ytmclnnpaephkpaa
set_option linter.unusedVariables false
set_option linter.unusedSimpArgs false
set_option linter.unnecessarySimpa false
set_option linter.unusedSectionVars false
mutual
def uvE : EX → List Int
  | .node o _ i l => uvL l ++ (if o = 1 then [i] else [])
def uvL : List EX → List Int
  | [] => []
  | e :: l => uvE e ++ uvL l
end
mutual
def occE (x : Int) : EX → Bool
  | .node o _ i l => (o == 1 && i == x) || occL x l
def occL (x : Int) : List EX → Bool
  | [] => false
  | e :: l => occE x e || occL x l
end
theorem uvL_app : ∀ (a b : List EX), uvL (a ++ b) = uvL a ++ uvL b
  | [], b => by simp [uvL]
  | e :: a, b => by rw [List.cons_append, uvL, uvL, uvL_app a b, List.append_assoc]
theorem occL_mem {x : Int} : ∀ (l : List EX), (∀ e, e ∈ l → (occE x e = true ↔ x ∈ uvE e)) → (occL x l = true ↔ x ∈ uvL l)
  | [], _ => by simp [occL, uvL]
  | e :: l, h => by
    rw [occL, uvL, Bool.or_eq_true, List.mem_append, h e (by simp), occL_mem l fun a ha => h a (by simp [ha])]
theorem occ_mem (x : Int) : ∀ e, occE x e = true ↔ x ∈ uvE e := by
  refine EX.ind fun o v i l ih => ?_
  have e : (o == 1 && i == x) = true ↔ x ∈ (if o = 1 then [i] else []) := by
    by_cases h : o = 1
    · subst h; simp; exact eq_comm
    · simp [h]
  rw [occE, uvE, Bool.or_eq_true, List.mem_append, occL_mem l ih, e, or_comm]
theorem uvL_len : ∀ (l : List EX), (∀ e, e ∈ l → ((uvE e).length : Int) ≤ sizeE e) → ((uvL l).length : Int) ≤ sizeL l
  | [], _ => by rw [uvL, sizeL]; simp
  | e :: l, h => by
    have h1 := h e (by simp)
    have h2 := uvL_len l fun a ha => h a (by simp [ha])
    rw [uvL, sizeL, List.length_append]; omega
theorem vars_len : ∀ e, ((uvE e).length : Int) ≤ sizeE e := by
  refine EX.ind fun o v i l ih => ?_
  have h := uvL_len l ih
  rw [uvE, size_node, List.length_append]
  split <;> simp <;> omega
theorem uvL_range {n : Int} : ∀ (l : List EX), rangeL n l → (∀ e, e ∈ l → rangeE n e → ∀ x, x ∈ uvE e → 0 ≤ x ∧ x < n) → ∀ x, x ∈ uvL l → 0 ≤ x ∧ x < n
  | [], _, _, x, hx => by rw [uvL] at hx; cases hx
  | e :: l, hr, h, x, hx => by
    rw [rangeL] at hr
    rw [uvL, List.mem_append] at hx
    rcases hx with hx | hx
    · exact h e (by simp) hr.1 x hx
    · exact uvL_range l hr.2 (fun a ha => h a (by simp [ha])) x hx
theorem vars_range {n : Int} : ∀ e, rangeE n e → ∀ x, x ∈ uvE e → 0 ≤ x ∧ x < n := by
  refine EX.ind fun o v i l ih hr x hx => ?_
  rw [rangeE] at hr
  rw [uvE, List.mem_append] at hx
  rcases hx with hx | hx
  · exact uvL_range l hr.2.2 ih x hx
  · split at hx
    · rename_i h1; simp at hx; subst hx; exact hr.2.1 h1
    · cases hx
theorem formedL_size {n : Int} : ∀ (l : List EX), (∀ e, e ∈ l → ∀ level c, c ≤ 64 → (formedE e n level c).1 = 0 → (formedE e n level c).2 = c + sizeE e ∧ c + sizeE e ≤ 64) → ∀ level c, c ≤ 64 → (formedL l n level c).1 = 0 → (formedL l n level c).2 = c + sizeL l ∧ c + sizeL l ≤ 64
  | [], _, level, c, hc, h => by rw [formedL, sizeL]; simp; omega
  | e :: l, ih, level, c, hc, h => by
    rw [formedL] at h ⊢
    by_cases h1 : (formedE e n level c).1 = 0
    · rw [if_pos h1] at h ⊢
      obtain ⟨a1, a2⟩ := ih e (by simp) level c hc h1
      rw [a1] at h ⊢
      obtain ⟨b1, b2⟩ := formedL_size l (fun a ha => ih a (by simp [ha])) level (c + sizeE e) a2 h
      rw [b1, sizeL]; omega
    · rw [if_neg h1] at h; exact absurd h h1
theorem formedE_size {n : Int} : ∀ e, ∀ level c, c ≤ 64 → (formedE e n level c).1 = 0 → (formedE e n level c).2 = c + sizeE e ∧ c + sizeE e ≤ 64 := by
  refine EX.ind fun o v i l ih level c hc h => ?_
  rw [formedE] at h ⊢
  by_cases h1 : c = 64 ∨ 8 < level
  · rw [if_pos h1] at h; simp at h
  rw [if_neg h1] at h ⊢
  cases ha : argsS o with
  | none => rw [ha] at h; simp at h
  | some want =>
    rw [ha] at h
    simp only at h ⊢
    split at h
    · simp at h
    · rename_i h2
      rw [if_neg h2]
      split at h
      · simp at h
      · rename_i h3
        rw [if_neg h3]
        split at h
        · simp at h
        · rename_i h4
          rw [if_neg h4]
          obtain ⟨b1, b2⟩ := formedL_size l ih (level + 1) (c + 1) (by omega) h
          rw [b1, size_node]; omega
theorem check_size {e : EX} {n : Int} (h : (checkS e n).2 = 0) : sizeE e ≤ 64 := by
  obtain ⟨_, _, _, _, _, _, h7⟩ := check_ok h
  have := (formedE_size e 1 0 (by decide) h7).2
  omega
/-! ### sorted lists -/
def dedA (p : Int) : List Int → List Int
  | [] => []
  | y :: r => if y = p then dedA p r else y :: dedA y r
def dedS : List Int → List Int
  | [] => []
  | x :: r => x :: dedA x r
theorem dedA_spec : ∀ (r : List Int) (p : Int), r.Pairwise (· ≤ ·) → (∀ x, x ∈ r → p ≤ x) → (dedA p r).Pairwise (· < ·) ∧ (∀ x, x ∈ dedA p r → p < x) ∧ ∀ x, x ∈ dedA p r ↔ x ∈ r ∧ x ≠ p
  | [], p, _, _ => by simp [dedA]
  | y :: r, p, hp, hg => by
    obtain ⟨h1, h2⟩ := List.pairwise_cons.1 hp
    rw [dedA]
    by_cases hy : y = p
    · rw [if_pos hy]
      obtain ⟨a1, a2, a3⟩ := dedA_spec r p h2 fun x hx => hg x (by simp [hx])
      refine ⟨a1, a2, fun x => ?_⟩
      rw [a3]; subst hy; simp
      intro h; exact fun e => absurd e h
    · rw [if_neg hy]
      have hyp : p < y := by have := hg y (by simp); omega
      obtain ⟨a1, a2, a3⟩ := dedA_spec r y h2 h1
      refine ⟨List.pairwise_cons.2 ⟨a2, a1⟩, fun x hx => ?_, fun x => ?_⟩
      · rcases List.mem_cons.1 hx with rfl | hx
        · exact hyp
        · have := a2 x hx; omega
      · rw [List.mem_cons, List.mem_cons, a3]
        constructor
        · rintro (rfl | ⟨b1, b2⟩)
          · exact ⟨.inl rfl, hy⟩
          · exact ⟨.inr b1, by have := h1 x b1; omega⟩
        · rintro ⟨rfl | b1, b2⟩
          · exact .inl rfl
          · by_cases e : x = y
            · exact .inl e
            · exact .inr ⟨b1, e⟩
theorem dedS_spec {s : List Int} (h : s.Pairwise (· ≤ ·)) : (dedS s).Pairwise (· < ·) ∧ ∀ x, x ∈ dedS s ↔ x ∈ s := by
  cases s with
  | nil => simp [dedS]
  | cons y r =>
    obtain ⟨h1, h2⟩ := List.pairwise_cons.1 h
    obtain ⟨a1, a2, a3⟩ := dedA_spec r y h2 h1
    rw [dedS]
    refine ⟨List.pairwise_cons.2 ⟨a2, a1⟩, fun x => ?_⟩
    rw [List.mem_cons, List.mem_cons, a3]
    by_cases e : x = y <;> simp [e]
theorem ssort_ext : ∀ (a b : List Int), a.Pairwise (· < ·) → b.Pairwise (· < ·) → (∀ x, x ∈ a ↔ x ∈ b) → a = b
  | [], [], _, _, _ => rfl
  | [], y :: b, _, _, h => by have := (h y).2 (by simp); cases this
  | x :: a, [], _, _, h => by have := (h x).1 (by simp); cases this
  | x :: a, y :: b, ha, hb, h => by
    obtain ⟨a1, a2⟩ := List.pairwise_cons.1 ha
    obtain ⟨b1, b2⟩ := List.pairwise_cons.1 hb
    have e : x = y := by
      rcases List.mem_cons.1 ((h x).1 (by simp)) with e | hx
      · exact e
      · rcases List.mem_cons.1 ((h y).2 (by simp)) with e | hy
        · exact e.symm
        · have := a1 y hy; have := b1 x hx; omega
    subst e
    rw [ssort_ext a b a2 b2 fun z => ?_]
    have hz := h z
    rw [List.mem_cons, List.mem_cons] at hz
    constructor
    · intro q
      rcases hz.1 (.inr q) with e | q'
      · have := a1 z q; omega
      · exact q'
    · intro q
      rcases hz.2 (.inr q) with e | q'
      · have := b1 z q; omega
      · exact q'
def selU (p : Int → Bool) : Nat → Int → List Int
  | 0, _ => []
  | m + 1, v => if p v = true then v :: selU p m (v + 1) else selU p m (v + 1)
theorem selU_spec (p : Int → Bool) : ∀ (m : Nat) (v : Int), (selU p m v).Pairwise (· < ·) ∧ ∀ x, x ∈ selU p m v ↔ v ≤ x ∧ x < v + m ∧ p x = true
  | 0, v => by simp [selU]; omega
  | m + 1, v => by
    obtain ⟨a1, a2⟩ := selU_spec p m (v + 1)
    rw [selU]
    by_cases h : p v = true
    · rw [if_pos h]
      refine ⟨List.pairwise_cons.2 ⟨fun x hx => by have := ((a2 x).1 hx).1; omega, a1⟩, fun x => ?_⟩
      rw [List.mem_cons, a2]
      constructor
      · rintro (rfl | ⟨b1, b2, b3⟩)
        · exact ⟨by omega, by omega, h⟩
        · exact ⟨by omega, by omega, b3⟩
      · rintro ⟨b1, b2, b3⟩
        by_cases e : x = v
        · exact .inl e
        · exact .inr ⟨by omega, by omega, b3⟩
    · rw [if_neg h]
      refine ⟨a1, fun x => ?_⟩
      rw [a2]
      constructor
      · rintro ⟨b1, b2, b3⟩; exact ⟨by omega, by omega, b3⟩
      · rintro ⟨b1, b2, b3⟩
        have : x ≠ v := fun e => h (by rw [← e]; exact b3)
        exact ⟨by omega, by omega, b3⟩
def useS (zs : List Int) : List Int := dedS (sortI zs)
theorem sort_len (zs : List Int) : (sortI zs).length = zs.length := List.length_mergeSort zs
theorem sort_pw (zs : List Int) : (sortI zs).Pairwise (· ≤ ·) := by
  have := List.pairwise_mergeSort (le := fun x y : Int => decide (x ≤ y)) (fun a b c h1 h2 => by simp at *; omega) (fun a b => by simp; omega) zs
  exact this.imp fun h => by simpa using h
theorem use_sel {e : EX} (h : rangeE 16 e) : useS (uvE e) = selU (fun x => occE x e) 16 0 := by
  obtain ⟨a1, a2⟩ := dedS_spec (sort_pw (uvE e))
  obtain ⟨b1, b2⟩ := selU_spec (fun x => occE x e) 16 0
  refine ssort_ext _ _ a1 b1 fun x => ?_
  unfold useS
  rw [a2, b2, occ_mem]
  have hm : x ∈ sortI (uvE e) ↔ x ∈ uvE e := (List.mergeSort_perm (uvE e) _).mem_iff
  rw [hm]
  constructor
  · intro hx; have := vars_range e h x hx; exact ⟨by omega, by omega, hx⟩
  · rintro ⟨_, _, hx⟩; exact hx
end Go.Proofs.Ytmclnnpaephkpaa

/-
  PLAIN LAWS of chapter 14: a value lies within the bounds; where bounds are known nothing overflows.
-/
import Derived.Test.YtmclnnpaephkpaaPB14
namespace Go.Proofs.Ytmclnnpaephkpaa
set_option linter.unusedVariables false
set_option linter.unusedSimpArgs false
set_option linter.unnecessarySimpa false
set_option linter.unusedSectionVars false

def In (p : Int × Int) (x : Int) : Prop := p.1 ≤ x ∧ x ≤ p.2
theorem mul_lin {a1 a2 x c : Int} (h1 : a1 ≤ x) (h2 : x ≤ a2) : min (a1 * c) (a2 * c) ≤ x * c ∧ x * c ≤ max (a1 * c) (a2 * c) := by
  by_cases hc : 0 ≤ c
  · have q1 := Int.mul_le_mul_of_nonneg_right h1 hc
    have q2 := Int.mul_le_mul_of_nonneg_right h2 hc
    omega
  · have q1 := Int.mul_le_mul_of_nonpos_right h1 (show c ≤ 0 by omega)
    have q2 := Int.mul_le_mul_of_nonpos_right h2 (show c ≤ 0 by omega)
    omega
theorem mul_lies {a b : Int × Int} {x y : Int} (ha : In a x) (hb : In b y) : min (min (a.1 * b.1) (a.1 * b.2)) (min (a.2 * b.1) (a.2 * b.2)) ≤ x * y ∧ x * y ≤ max (max (a.1 * b.1) (a.1 * b.2)) (max (a.2 * b.1) (a.2 * b.2)) := by
  have e1 := mul_lin (c := x) hb.1 hb.2
  have e2 := mul_lin (c := b.1) ha.1 ha.2
  have e3 := mul_lin (c := b.2) ha.1 ha.2
  rw [Int.mul_comm b.1 x, Int.mul_comm b.2 x, Int.mul_comm y x] at e1
  generalize a.1 * b.1 = p1 at *
  generalize a.1 * b.2 = p2 at *
  generalize a.2 * b.1 = p3 at *
  generalize a.2 * b.2 = p4 at *
  generalize x * b.1 = p5 at *
  generalize x * b.2 = p6 at *
  generalize x * y = p7 at *
  omega
theorem not_large {n : Int} (h1 : -1073741824 ≤ n) (h2 : n ≤ 1073741824) : largeS n 1073741824 = false := by rw [largeS_false]; omega
theorem bit01 (b : Bool) : bitS b = 0 ∨ bitS b = 1 := by cases b <;> simp [bitS]
theorem span_in {l h x : Int} {p : Int × Int} (hp : spanOut l h = some p) (h1 : l ≤ x) (h2 : x ≤ h) : In p x ∧ largeS x 1073741824 = false := by
  unfold spanOut at hp
  split at hp
  · cases hp
  · rename_i hl
    cases hp
    simp only [Bool.or_eq_true, not_or, Bool.not_eq_true] at hl
    have a := (largeS_false _ _).1 hl.1
    have b := (largeS_false _ _).1 hl.2
    exact ⟨⟨h1, h2⟩, not_large (by omega) (by omega)⟩
theorem cmp_in {o : Int} {a b : Int × Int} {x y : Int} (ho : 6 ≤ o ∧ o ≤ 9) (ha : In a x) (hb : In b y) : In (cmpS o a b) (applyS o [x, y]) := by
  obtain ⟨a1, a2⟩ := a
  obtain ⟨b1, b2⟩ := b
  obtain ⟨h1, h2⟩ := ha
  obtain ⟨h3, h4⟩ := hb
  dsimp only at h1 h2 h3 h4
  have e : ((a1, a2) == (b1, b2)) = ((a1 == b1) && (a2 == b2)) := rfl
  have key : ∀ p q r : Bool, (p = true → q = true) → (q = true → r = true) → In (bitS p, bitS r) (bitS q) := fun p q r e1 e2 => ⟨bitS_le _ _ e1, bitS_le _ _ e2⟩
  have : o = 6 ∨ o = 7 ∨ o = 8 ∨ o = 9 := by omega
  rcases this with rfl | rfl | rfl | rfl
  · simp only [cmpS, applyS, e]
    refine key _ _ _ (fun h => ?_) (fun h => ?_)
    · simp at h ⊢; omega
    · simp at h ⊢; omega
  · simp only [cmpS, applyS, e]
    refine key _ _ _ (fun h => ?_) (fun h => ?_)
    · simp at h ⊢; omega
    · simp at h ⊢; omega
  · simp only [cmpS, applyS, e]
    refine key _ _ _ (fun h => ?_) (fun h => ?_)
    · simp at h ⊢; omega
    · simp at h ⊢; omega
  · simp only [cmpS, applyS, e]
    refine key _ _ _ (fun h => ?_) (fun h => ?_)
    · simp at h ⊢; omega
    · simp at h ⊢; omega
/-- The values of right arguments that lie within their bounds. -/
theorem op1_in {o : Int} {a p : Int × Int} {x : Int} (ho : o = 5 ∨ (o = 10 ∧ Sb a)) (ha : In a x) (hp : boundsOp o [a] = some p) : In p (applyS o [x]) ∧ largeS (applyS o [x]) 1073741824 = false := by
  obtain ⟨h1, h2⟩ := ha
  rcases ho with rfl | ⟨rfl, s1, s2⟩
  · have hp : spanOut (-a.2) (-a.1) = some p := by simpa [boundsOp] using hp
    exact span_in hp (by simp [applyS]; omega) (by simp [applyS]; omega)
  · have hp : (1 - a.2, 1 - a.1) = p := by simpa [boundsOp] using hp
    subst hp
    exact ⟨⟨by simp [applyS]; omega, by simp [applyS]; omega⟩, not_large (by simp [applyS]; omega) (by simp [applyS]; omega)⟩
theorem op2_in {o : Int} {a b p : Int × Int} {x y : Int} (ho : o = 2 ∨ o = 3 ∨ o = 4 ∨ o = 6 ∨ o = 7 ∨ o = 8 ∨ o = 9 ∨ ((o = 11 ∨ o = 12) ∧ Sb a ∧ Sb b)) (ha : In a x) (hb : In b y) (hp : boundsOp o [a, b] = some p) : In p (applyS o [x, y]) ∧ largeS (applyS o [x, y]) 1073741824 = false := by
  have hm := mul_lies ha hb
  have hc := fun h => @cmp_in o a b x y h ha hb
  obtain ⟨h1, h2⟩ := ha
  obtain ⟨h3, h4⟩ := hb
  have cmp : 6 ≤ o ∧ o ≤ 9 → In p (applyS o [x, y]) ∧ largeS (applyS o [x, y]) 1073741824 = false := fun h => by
    have hp : cmpS o a b = p := by
      unfold boundsOp at hp
      simp only [h, and_self, if_true] at hp
      simpa using hp
    subst hp
    refine ⟨hc h, ?_⟩
    have : ∃ b, applyS o [x, y] = bitS b := by
      have : o = 6 ∨ o = 7 ∨ o = 8 ∨ o = 9 := by omega
      rcases this with rfl | rfl | rfl | rfl <;> exact ⟨_, rfl⟩
    obtain ⟨b, hb⟩ := this
    rw [hb]
    rcases bit01 b with e | e <;> rw [e] <;> rfl
  rcases ho with rfl | rfl | rfl | rfl | rfl | rfl | rfl | ⟨rfl | rfl, sa, sb⟩
  · have hp : spanOut (a.1 + b.1) (a.2 + b.2) = some p := by simpa [boundsOp] using hp
    exact span_in hp (by simp [applyS]; omega) (by simp [applyS]; omega)
  · have hp : spanOut (a.1 - b.2) (a.2 - b.1) = some p := by simpa [boundsOp] using hp
    exact span_in hp (by simp [applyS]; omega) (by simp [applyS]; omega)
  · have hp : spanOut (min (min (a.1 * b.1) (a.1 * b.2)) (min (a.2 * b.1) (a.2 * b.2))) (max (max (a.1 * b.1) (a.1 * b.2)) (max (a.2 * b.1) (a.2 * b.2))) = some p := by simpa [boundsOp] using hp
    exact span_in hp (by simpa [applyS] using hm.1) (by simpa [applyS] using hm.2)
  · exact cmp (by omega)
  · exact cmp (by omega)
  · exact cmp (by omega)
  · exact cmp (by omega)
  · have hp : (a.1 * b.1, a.2 * b.2) = p := by simpa [boundsOp] using hp
    subst hp
    obtain ⟨a1, a2⟩ := a
    obtain ⟨b1, b2⟩ := b
    obtain ⟨s1, s2⟩ := sa
    obtain ⟨s3, s4⟩ := sb
    dsimp only at *
    have hx : x = 0 ∨ x = 1 := by omega
    have hy : y = 0 ∨ y = 1 := by omega
    rcases hx with rfl | rfl <;> rcases hy with rfl | rfl <;> rcases s1 with rfl | rfl <;> rcases s2 with rfl | rfl <;> rcases s3 with rfl | rfl <;> rcases s4 with rfl | rfl <;> first | (exfalso; omega) | exact ⟨⟨by decide, by decide⟩, by decide⟩
  · have hp : (max a.1 b.1, max a.2 b.2) = p := by simpa [boundsOp] using hp
    subst hp
    obtain ⟨s1, s2⟩ := sa
    obtain ⟨s3, s4⟩ := sb
    exact ⟨⟨by simp [applyS]; omega, by simp [applyS]; omega⟩, not_large (by simp [applyS]; omega) (by simp [applyS]; omega)⟩
/-- Values, one for each variable, within its range. -/
def Within (rs : List VT) (vs : List Int) : Prop := rs.length = vs.length ∧ ∀ (i : Nat), i < rs.length → (rs.getD i default).low ≤ vs.getD i 0 ∧ vs.getD i 0 ≤ (rs.getD i default).high
theorem evalL_1 {vs : List Int} {a : EX} {x : Int} (h : evalE vs a = some x) : evalL vs [a] = some [x] := by rw [evalL, h]; rfl
theorem evalL_2 {vs : List Int} {a b : EX} {x y : Int} (h : evalE vs a = some x) (h2 : evalE vs b = some y) : evalL vs [a, b] = some [x, y] := by rw [evalL, h, evalL_1 h2]; rfl
theorem eval_op {vs : List Int} {o v i : Int} {l : List EX} {ns : List Int} (ho : o ≠ 0 ∧ o ≠ 1 ∧ o ≠ 13) (h : evalL vs l = some ns) (hl : largeS (applyS o ns) 1073741824 = false) : evalE vs (.node o v i l) = some (applyS o ns) := by
  unfold evalE
  rw [if_neg ho.1, if_neg ho.2.1, if_neg ho.2.2, h]
  simp [hl]
theorem lies {rs : List VT} {vs : List Int} (hrs : VarsOK rs) (hw : Within rs vs) : ∀ e, RightE rs.length e → ∀ p, boundsE rs e = some p → ∃ x, evalE vs e = some x ∧ In p x := by
  refine EX.ind fun o v i l ih hr p h => ?_
  have hra := wf_args hr
  have hall : ∀ e, e ∈ l → ∀ p, boundsE rs e = some p → ∃ x, evalE vs e = some x ∧ In p x := fun e he => ih e he (hra e he)
  have hok : ∀ e, e ∈ l → ∀ r, boundsE rs e = some r → SpanOK e r := fun e he => boundsE_ok hrs e (hra e he)
  have hg := hr.2.1
  rw [rangeE] at hg
  rcases kind_args hr.1 hr.2.2 with ⟨h01, rfl, _⟩ | ⟨rfl, a, rfl, _⟩ | ⟨rfl, a, rfl, _, ka, _⟩ | ⟨h1, a, b, rfl, _⟩ | ⟨h1, a, b, rfl, _⟩ | ⟨h1, a, b, rfl, _, _, ka, kb, _⟩ | ⟨rfl, c, a, b, rfl, _, _, _, kc, _⟩
  · rcases h01 with rfl | rfl
    · rw [boundsE_0] at h
      cases h
      exact ⟨v, by unfold evalE; simp, Int.le_refl _, Int.le_refl _⟩
    · rw [boundsE_1] at h
      cases h
      have hi := hg.2.1 rfl
      have := hw.2 i.toNat (by omega)
      exact ⟨vs.getD i.toNat 0, by unfold evalE; simp, this⟩
  · rw [boundsE_op (by decide)] at h
    obtain ⟨os, ho, hp⟩ := Option.bind_eq_some_iff.1 h
    obtain ⟨q, rfl, hq⟩ := boundsL_one ho
    obtain ⟨x, hx, hin⟩ := hall a (by simp) q hq
    obtain ⟨r1, r2⟩ := op1_in (.inl rfl) hin hp
    exact ⟨_, eval_op (by decide) (evalL_1 hx) r2, r1⟩
  · rw [boundsE_op (by decide)] at h
    obtain ⟨os, ho, hp⟩ := Option.bind_eq_some_iff.1 h
    obtain ⟨q, rfl, hq⟩ := boundsL_one ho
    obtain ⟨x, hx, hin⟩ := hall a (by simp) q hq
    obtain ⟨r1, r2⟩ := op1_in (.inr ⟨rfl, (hok a (by simp) q hq).2 ka⟩) hin hp
    exact ⟨_, eval_op (by decide) (evalL_1 hx) r2, r1⟩
  · rw [boundsE_op (by omega)] at h
    obtain ⟨os, ho, hp⟩ := Option.bind_eq_some_iff.1 h
    obtain ⟨q, r, rfl, hq, hr'⟩ := boundsL_two ho
    obtain ⟨x, hx, hin⟩ := hall a (by simp) q hq
    obtain ⟨y, hy, hin2⟩ := hall b (by simp) r hr'
    obtain ⟨r1, r2⟩ := op2_in (by omega) hin hin2 hp
    exact ⟨_, eval_op (by omega) (evalL_2 hx hy) r2, r1⟩
  · rw [boundsE_op (by omega)] at h
    obtain ⟨os, ho, hp⟩ := Option.bind_eq_some_iff.1 h
    obtain ⟨q, r, rfl, hq, hr'⟩ := boundsL_two ho
    obtain ⟨x, hx, hin⟩ := hall a (by simp) q hq
    obtain ⟨y, hy, hin2⟩ := hall b (by simp) r hr'
    obtain ⟨r1, r2⟩ := op2_in (by omega) hin hin2 hp
    exact ⟨_, eval_op (by omega) (evalL_2 hx hy) r2, r1⟩
  · rw [boundsE_op (by omega)] at h
    obtain ⟨os, ho, hp⟩ := Option.bind_eq_some_iff.1 h
    obtain ⟨q, r, rfl, hq, hr'⟩ := boundsL_two ho
    obtain ⟨x, hx, hin⟩ := hall a (by simp) q hq
    obtain ⟨y, hy, hin2⟩ := hall b (by simp) r hr'
    obtain ⟨r1, r2⟩ := op2_in (.inr (.inr (.inr (.inr (.inr (.inr (.inr ⟨h1, (hok a (by simp) q hq).2 ka, (hok b (by simp) r hr').2 kb⟩))))))) hin hin2 hp
    exact ⟨_, eval_op (by omega) (evalL_2 hx hy) r2, r1⟩
  · rw [boundsE_op (by decide)] at h
    obtain ⟨os, ho, hp⟩ := Option.bind_eq_some_iff.1 h
    obtain ⟨u, q, r, rfl, hu, hq, hr'⟩ := boundsL_three ho
    obtain ⟨z, hz, hin0⟩ := hall c (by simp) u hu
    obtain ⟨x, hx, hin⟩ := hall a (by simp) q hq
    obtain ⟨y, hy, hin2⟩ := hall b (by simp) r hr'
    obtain ⟨s1, s2⟩ := (hok c (by simp) u hu).2 kc
    have hp : (if u = (1, 1) then some q else if u = (0, 0) then some r else some (min q.1 r.1, max q.2 r.2)) = some p := by simpa [boundsOp] using hp
    have he : evalE vs (.node 13 v i [c, a, b]) = if z = 1 then some x else some y := by
      rw [evalE, if_neg (by decide), if_neg (by decide), if_pos rfl]
      simp only [hz, hx, hy]
    obtain ⟨u1, u2⟩ := u
    obtain ⟨i1, i2⟩ := hin
    obtain ⟨i3, i4⟩ := hin2
    obtain ⟨i5, i6⟩ := hin0
    dsimp only at s1 s2 i5 i6
    rw [he]
    have hz01 : z = 0 ∨ z = 1 := by omega
    rcases hz01 with rfl | rfl
    · refine ⟨y, rfl, ?_⟩
      rw [if_neg (by intro e; cases e; omega)] at hp
      split at hp
      · cases hp; exact ⟨i3, i4⟩
      · cases hp; exact ⟨by dsimp only; omega, by dsimp only; omega⟩
    · refine ⟨x, rfl, ?_⟩
      split at hp
      · cases hp; exact ⟨i1, i2⟩
      · rw [if_neg (by intro e; cases e; omega)] at hp
        cases hp; exact ⟨by dsimp only; omega, by dsimp only; omega⟩
end Go.Proofs.Ytmclnnpaephkpaa

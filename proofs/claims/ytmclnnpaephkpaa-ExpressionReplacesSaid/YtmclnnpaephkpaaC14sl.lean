/-
  The statement ExpressionSubstitutes: what its law answers.
-/
import Derived.Test.YtmclnnpaephkpaaC14s
import Derived.Test.YtmclnnpaephkpaaK14
import Derived.Test.YtmclnnpaephkpaaPH14
namespace Go.Proofs.Ytmclnnpaephkpaa
set_option linter.unusedVariables false
set_option linter.unusedSimpArgs false
set_option linter.unnecessarySimpa false
set_option linter.unusedSectionVars false
open Go.RowKit

theorem bad_check {o : Int} (h : argsS o = none) : (checkS (.node o 0 0 []) 16).2 = 11 := by
  unfold checkS
  rw [formedE]
  simp [h]
theorem l8 (i : Int) (e b : EX) (he : triE e) (hb : triE b) (ce : (checkS e 16).2 = 0) (cb : (checkS b 16).2 = 0) :
    g8_J14 i (substS e i b).2 (substS e i b).2 e.op e.val e.idx (encL e.args) b.op b.val b.idx (encL b.args) (substS e i b).1.op (substS e i b).1.val (substS e i b).1.idx (encL (substS e i b).1.args) (replE i b e).op (replE i b e).val (replE i b e).idx (encL (replE i b e).args) = Ret (.bool true) := by
  have hz : PV.agg [.int .i64 0, .int .i64 0, .int .i64 0, .sl false 4 []] = encE zeroE := by rw [zeroE, encE_eq, encL]
  have hz1 : PV.agg [.int .i64 14, .int .i64 0, .int .i64 0, .sl false 4 []] = encE (.node 14 0 0 []) := by rw [encE_eq, encL]
  have hz2 : PV.agg [.int .i64 (-1), .int .i64 0, .int .i64 0, .sl false 4 []] = encE (.node (-1) 0 0 []) := by rw [encE_eq, encL]
  have tz : triE zeroE := ⟨by simp, trivial⟩
  have tr := tri_repl i b hb e he
  have hsub : substS e i b = (zeroE, (substS e i b).2) ∧ (substS e i b).2 ≠ 0 ∨ substS e i b = (replE i b e, 0) := by
    unfold substS
    repeat' split
    all_goals first | (left; exact ⟨rfl, by assumption⟩) | (left; exact ⟨rfl, by decide⟩) | (right; rfl)
  have s1 : (substS (.node 14 0 0 []) i b).2 = 11 := by
    have := bad_check (o := 14) (by decide)
    unfold substS; simp [this]
  have s2 : (substS e i (.node (-1) 0 0 [])).2 = 11 := by
    have := bad_check (o := -1) (by decide)
    unfold substS; simp [this, ce]
  rw [g8_J14_eq, mkE, mkE, mkE, mkE, hz, hz1, hz2]
  rcases hsub with ⟨h1, h2⟩ | h1
  · have h1' : (substS e i b).1 = zeroE := by rw [h1]
    rw [show ((substS e i b).2 != 0) = true by simpa using h2, bsel_true, h1', clX_of (c17 zeroE tz zeroE tz), vB_mk, sameE_refl, bsel_true]
    simp
  · have h1' : (substS e i b).1 = replE i b e := by rw [h1]
    have h1'' : (substS e i b).2 = 0 := by rw [h1]
    rw [h1', h1'', show ((0 : Int) != 0) = false from rfl, bsel_false, clX_of (c29 _ i b)]
    generalize (substS (.node 14 0 0 []) i b).1 = r1 at *
    have w23 : ∀ (e : EX) (n : Int) K, w_23_3 (.tuple [encE e, .int .i64 n]) K = K e.op e.val e.idx (encL e.args) n := fun e n K => by cases e; rw [encE_eq, w_23_3_mk]; rfl
    rw [w23, clX_of (c29 e i _), w23, clX_of (c17 _ tr _ tr), vB_mk, sameE_refl, bsel_true, s1, s2]
    rfl
theorem c8 (a0 a1 : List UInt8) (i : Int) (h0 : a0.length ≤ lenMax) (h1 : a1.length ≤ lenMax) : SS.CC 8 [.sl false 1 (encB a0), .sl false 1 (encB a1), .int .i64 i] [] = Ret (.bool true) := by
  have w23 : ∀ (e : EX) (n : Int) K, w_23_3 (.tuple [encE e, .int .i64 n]) K = K e.op e.val e.idx (encL e.args) n := fun e n K => by cases e; rw [encE_eq, w_23_3_mk]; rfl
  have k0 : (a0.length : Int).tmod 2 = (a0.length : Int) % 2 := Int.tmod_eq_emod_of_nonneg (by omega)
  have k1 : (a1.length : Int).tmod 2 = (a1.length : Int) % 2 := Int.tmod_eq_emod_of_nonneg (by omega)
  have g0 := GrowS_check (n := 16) (vars := 3) a0 (by decide) (by decide) (by decide) (k := 1 + (a0.length : Int) % 2) (by omega)
  have g1 := GrowS_check (n := 16) (vars := 3) a1 (by decide) (by decide) (by decide) (k := 1 + (a1.length : Int) % 2) (by omega)
  have r0 := GrowS_good (n := 16) (vars := 3) a0 (by decide) (k := 1 + (a0.length : Int) % 2) (by omega)
  have r1 := GrowS_good (n := 16) (vars := 3) a1 (by decide) (k := 1 + (a1.length : Int) % 2) (by omega)
  rw [g8_eq, clX_of c12, vB_mk, Bool.not_true, bsel_false, encB_length, encB_length, k0, k1, wr (by omega) (by omega), wr (by omega) (by omega), clX_of (c18 a0 3 _ h0 (by decide) (by omega)), v23_e, clX_of (c18 a1 3 _ h1 (by decide) (by omega)), v23_e, mkE, mkE]
  generalize GrowS a0 3 (1 + (a0.length : Int) % 2) = e at *
  generalize GrowS a1 3 (1 + (a1.length : Int) % 2) = b at *
  have te := tri_wf e r0.1.1
  have tb := tri_wf b r1.1.1
  have ce : (checkS e 16).2 = 0 := by rw [g0]
  have cb : (checkS b 16).2 = 0 := by rw [g1]
  have cb1 : (checkS b 16).1 = kindE b := by rw [g1, r1.2.1]
  have hl := l8 i e b te tb ce cb
  have hs : (substS e i b).2 = if kindE b ≠ 1 then 16 else if i < 0 ∨ 16 ≤ i then 2 else (checkS (replE i b e) 16).2 := by
    unfold substS
    rw [if_neg (by simpa using ce), if_neg (by simpa using cb), cb1]
    repeat' split
    all_goals first | rfl | (rename_i h; simpa using h) | (simp_all; done)
  have hJ : ∀ x : Int, x = (if kindE b ≠ 1 then 16 else if i < 0 ∨ 16 ≤ i then 2 else 0) → g8_J11 i (substS e i b).2 e.op e.val e.idx (encL e.args) b.op b.val b.idx (encL b.args) (substS e i b).1.op (substS e i b).1.val (substS e i b).1.idx (encL (substS e i b).1.args) x = Ret (.bool true) := by
    intro x hx
    rw [g8_J11_eq, mkE, mkE, clX_of (c31 i b e te), v23_e, mkE]
    by_cases hx0 : x = 0
    · have : (substS e i b).2 = (checkS (replE i b e) 16).2 := by
        rw [hs]
        rw [hx0] at hx
        split at hx
        · cases hx
        · rename_i q1
          split at hx
          · cases hx
          · rename_i q2
            rw [if_neg q1, if_neg q2]
      rw [show (x == 0) = true by simpa using hx0, bsel_true, clX_of (c15 _ _), w_3_3_mk, ← this]
      exact hl
    · have : (substS e i b).2 = x := by
        rw [hs, hx]
        repeat' split
        all_goals first | rfl | (rename_i q1 q2; exfalso; apply hx0; rw [hx, if_neg q1, if_neg q2])
      rw [show (x == 0) = false by simpa using hx0, bsel_false, ← this]
      exact hl
  rw [clX_of (c29 e i b), w23, clX_of (c30 b r1.1.1), vI_mk, bsel_ite, bsel_ite, bsel_ite]
  split
  · rename_i h; exact hJ 16 (by rw [if_pos (by simpa using h)])
  · rename_i h
    split
    · rename_i h2; exact hJ 2 (by rw [if_neg (by simpa using h), if_pos (by simp at h2; omega)])
    · rename_i h2
      split
      · rename_i h3; exact hJ 2 (by rw [if_neg (by simpa using h), if_pos (by simp at h3; omega)])
      · rename_i h3; exact hJ 0 (by rw [if_neg (by simpa using h), if_neg (by simp at h2 h3; omega)])
end Go.Proofs.Ytmclnnpaephkpaa

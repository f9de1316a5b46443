/-
  What the functions of chapter 14 answer: Equal, folding, sizes.
-/
import Derived.Test.YtmclnnpaephkpaaC14s
import Derived.Test.YtmclnnpaephkpaaK14
import Derived.Test.YtmclnnpaephkpaaPM14
import Derived.Test.YtmclnnpaephkpaaT14x
namespace Go.Proofs.Ytmclnnpaephkpaa
set_option linter.unusedVariables false
set_option linter.unusedSimpArgs false
set_option linter.unnecessarySimpa false
set_option linter.unusedSectionVars false
open Go.RowKit

theorem l45 (l l' : List EX) (he : l'.length = l.length) (hl : l.length ≤ 3) (ih : ∀ e, e ∈ l → ∀ f, SS.CC 16 [encE e, encE f] [] = Ret (.bool (sameE e f))) :
    ∀ (m k : Nat), k + m = l.length → g45_L5 (encL l') (encL l) k = Ret (.bool (sameL (l.drop k) (l'.drop k)))
  | 0, k, h => by
    rw [g45_L5_eq, decF (by simp; omega), bsel_false, List.drop_of_length_le (by omega), List.drop_of_length_le (by omega), sameL]
  | m + 1, k, h => by
    obtain ⟨y, hy⟩ := get_lt (show k < l.length by omega)
    obtain ⟨z, hz⟩ := get_lt (show k < l'.length by omega)
    rw [g45_L5_eq, decT (by simp; omega), bsel_true, lget_encL hy, v23_e, lget_encL hz, v23_e, mkE, mkE, clX_of (ih y (get_mem hy) z), vB_mk, wrs (by omega), l45 l l' he hl ih m (k + 1) (by omega), drop_cons hy, drop_cons hz, sameL, bsel_ite]
    cases sameE y z <;> simp
theorem c16 : ∀ e, triE e → ∀ f, SS.CC 16 [encE e, encE f] [] = Ret (.bool (sameE e f)) := by
  refine EX.ind fun o v i l ih ht f => ?_
  obtain ⟨o', v', i', l'⟩ := f
  rw [triE] at ht
  rw [encE_eq, encE_eq, g16_eq, sameE]
  by_cases a1 : o = o'
  · by_cases a2 : v = v'
    · by_cases a3 : i = i'
      · have h45 : SS.CC 45 [.sl false 4 (encL l), .sl false 4 (encL l'), .func (.func 16) [] []] [] = Ret (.bool (sameL l l')) := by
          rw [g45_eq, encL_length, encL_length]
          by_cases a4 : l.length = l'.length
          · have h := l45 l l' a4.symm ht.1 (fun e he f => ih e he (triL_mem ht.2 he) f) l.length 0 (by omega)
            rw [show ((l.length : Int) != (l'.length : Int)) = false by simpa using by omega, bsel_false]
            exact h
          · rw [show ((l.length : Int) != (l'.length : Int)) = true by simpa using by omega, bsel_true, sameL_len l l' a4]
        subst a1; subst a2; subst a3
        rw [clX_of h45]
        simp
      · simp [a1, a2, a3, bsel_ite]
    · simp [a1, a2, bsel_ite]
  · simp [a1, bsel_ite]
theorem c38 : SS.CC 38 [] [] = Ret (encE trueE) := by rw [g38_eq]; rfl
theorem c40 : SS.CC 40 [] [] = Ret (encE falseE) := by rw [g40_eq]; rfl
theorem q0E (a : EX) (l : List EX) (K : PV → R) : lgetX (encL (a :: l)) 0 K = K (encE a) := by rw [encL]; exact lgetX_of (by decide) rfl
theorem q1E (a b : EX) (l : List EX) (K : PV → R) : lgetX (encL (a :: b :: l)) 1 K = K (encE b) := by rw [encL, encL]; exact lgetX_of (by decide) rfl
theorem q2E (a b c : EX) (l : List EX) (K : PV → R) : lgetX (encL (a :: b :: c :: l)) 2 K = K (encE c) := by rw [encL, encL, encL]; exact lgetX_of (by decide) rfl
theorem j75 (x a b w s : EX) (ta : triE a) (tb : triE b) : g75_J18 x.op x.val x.idx (encL x.args) a.op a.val a.idx (encL a.args) b.op b.val b.idx (encL b.args) w.op w.val w.idx (encL w.args) s.op s.val s.idx (encL s.args) =
    Ret (encE (if sameE a s || sameE b s then s else if sameE a w then b else if sameE b w then a else x)) := by
  rw [g75_J18_eq]
  simp only [mkE]
  rw [clX_of (c16 a ta s), vB_mk, clX_of (c16 b tb s), vB_mk, clX_of (c16 a ta w), vB_mk, clX_of (c16 b tb w), vB_mk]
  cases sameE a s <;> cases sameE b s <;> cases sameE a w <;> cases sameE b w <;> rfl
theorem foldOp_10 (v i : Int) (a : EX) : foldOp (.node 10 v i [a]) = if sameE a trueE then falseE else if sameE a falseE then trueE else if a.op = 10 then a.args.getD 0 zeroE else .node 10 v i [a] := by kernel_rfl
theorem foldOp_11 (v i : Int) (a b : EX) : foldOp (.node 11 v i [a, b]) = if sameE a falseE || sameE b falseE then falseE else if sameE a trueE then b else if sameE b trueE then a else .node 11 v i [a, b] := by kernel_rfl
theorem foldOp_12 (v i : Int) (a b : EX) : foldOp (.node 12 v i [a, b]) = if sameE a trueE || sameE b trueE then trueE else if sameE a falseE then b else if sameE b falseE then a else .node 12 v i [a, b] := by kernel_rfl
theorem foldOp_13 (v i : Int) (a b c : EX) : foldOp (.node 13 v i [c, a, b]) = if sameE c trueE then a else if sameE c falseE then b else .node 13 v i [c, a, b] := by kernel_rfl
theorem c75 {n : Int} (y : EX) (hr : RightE n y) (ho : 10 ≤ y.op) : SS.CC 75 [encE y] [] = Ret (encE (foldOp y)) := by
  have tt : triE trueE := tri_wf _ (right_true 0).1
  have tf : triE falseE := tri_wf _ (right_false 0).1
  obtain ⟨o, v, i, l⟩ := y
  simp only [EX.op] at ho
  have hta : ∀ e, e ∈ l → triE e := fun e he => tri_wf e (wf_args hr e he).1
  rcases kind_args hr.1 hr.2.2 with ⟨h01, _⟩ | ⟨rfl, _⟩ | ⟨rfl, a, rfl, _, ka, hk⟩ | ⟨h1, _⟩ | ⟨h1, _⟩ | ⟨h1, a, b, rfl, _, _, ka, kb, hk⟩ | ⟨rfl, c, a, b, rfl, _, _, _, kc, _⟩
  · omega
  · omega
  · have ta := hta a (by simp)
    rw [encE_eq, g75_eq, q0E, v23_e, clX_of c38, v23_e, mkE, mkE, clX_of (c16 a ta trueE), vB_mk, clX_of c40, v23_e, mkE, clX_of (c16 a ta falseE), vB_mk]
    simp only [Int.reduceBEq, bsel_true, mkE]
    rw [foldOp_10]
    cases h1 : sameE a trueE
    · cases h2 : sameE a falseE
      · simp only [bsel_false, Bool.false_eq_true, if_false]
        by_cases h3 : a.op = 10
        · obtain ⟨o', v', i', l'⟩ := a
          simp only [EX.op] at h3
          subst h3
          have hra := wf_args hr (.node 10 v' i' l') (by simp)
          rcases kind_args hra.1 hra.2.2 with ⟨h1, _⟩ | ⟨h1, _⟩ | ⟨_, b, rfl, _⟩ | ⟨h1, _⟩ | ⟨h1, _⟩ | ⟨h1, _⟩ | ⟨h1, _⟩
          any_goals omega
          rw [show (EX.node 10 v' i' [b]).op = 10 from rfl, show (EX.node 10 v' i' [b]).args = [b] from rfl]
          simp only [Int.reduceBEq, bsel_true, q0E, v23_e, mkE, beq_self_eq_true, if_true]
          rfl
        · rw [show (a.op == 10) = false by simpa using h3, bsel_false, if_neg h3, encE_eq]
      · simp only [bsel_false, bsel_true, Bool.false_eq_true, if_false, if_true]
        try rw [clX_of c38, v23_e, mkE]
    · simp only [bsel_true, if_true]
      try rw [clX_of c40, v23_e, mkE]
  · omega
  · omega
  · have ta := hta a (by simp)
    have tb := hta b (by simp)
    rcases h1 with rfl | rfl
    · have j := j75 (.node 11 v i [a, b]) a b trueE falseE ta tb
      rw [encE_eq, g75_eq, q0E, v23_e, clX_of c38, v23_e, mkE, mkE, clX_of (c16 a ta trueE), vB_mk, clX_of c40, v23_e, mkE, clX_of (c16 a ta falseE), vB_mk]
      simp only [Int.reduceBEq, bsel_true, bsel_false, q1E, v23_e, clX_of c38, clX_of c40]
      refine j.trans ?_
      rw [foldOp_11]
    · have j := j75 (.node 12 v i [a, b]) a b falseE trueE ta tb
      rw [encE_eq, g75_eq, q0E, v23_e, clX_of c38, v23_e, mkE, mkE, clX_of (c16 a ta trueE), vB_mk, clX_of c40, v23_e, mkE, clX_of (c16 a ta falseE), vB_mk]
      simp only [Int.reduceBEq, bsel_true, bsel_false, q1E, v23_e, clX_of c38, clX_of c40]
      refine j.trans ?_
      rw [foldOp_12]
  · have ta := hta c (by simp)
    rw [encE_eq, g75_eq, q0E, v23_e, clX_of c38, v23_e, mkE, mkE, clX_of (c16 c ta trueE), vB_mk, clX_of c40, v23_e, mkE, clX_of (c16 c ta falseE), vB_mk]
    simp only [Int.reduceBEq, bsel_true, bsel_false, q1E, q2E, v23_e, mkE]
    rw [foldOp_13]
    cases h1 : sameE c trueE
    · cases h2 : sameE c falseE
      · simp only [bsel_false, Bool.false_eq_true, if_false]
        rw [encE_eq]
      · simp only [bsel_false, bsel_true, Bool.false_eq_true, if_false, if_true]
    · simp only [bsel_true, if_true]
end Go.Proofs.Ytmclnnpaephkpaa

/-
  Contracts of chapter 14, second table: the model's fold.
-/
import Derived.Test.YtmclnnpaephkpaaCU14
namespace Go.Proofs.Ytmclnnpaephkpaa.W
set_option linter.unusedVariables false
set_option linter.unusedSimpArgs false
set_option linter.unnecessarySimpa false
set_option linter.unusedSectionVars false
open Go.RowKit
set_option maxRecDepth 100000
theorem k39 (b : Bool) : SS.CC 39 [.bool b] [] = Ret (encE (truthE b)) := up rfl (c39 b)
theorem k17 (a b : EX) (ha : triE a) (hb : triE b) : SS.CC 17 [encE a, encE b] [] = Ret (.bool (sameE a b)) := up rfl (c17 a ha b hb)
theorem tt1 : triE trueE := tri_wf _ (right_true 0).1
theorem tf1 : triE falseE := tri_wf _ (right_false 0).1
theorem q0 (a : EX) (l : List EX) (K : PV → R) : lgetX (encL (a :: l)) 0 K = K (encE a) := q0E a l K
/-- What stands behind the loop. -/
theorem end36 {n : Int} (o v i : Int) (L : List EX) (hr : RightE n (.node o v i L)) (hl3 : L.length ≤ 3) (A : List PV) (k : Int) (hk : ¬ k < (A.length : Int)) :
    g36_L6 o v i A (L.all fun e => e.op == 0) (encI (L.map EX.val)) k (encL L) = Ret (encE (foldOp (.node o v i L))) := by
  have hn : PV.agg [.int .i64 o, .int .i64 v, .int .i64 i, .sl false 4 (encL L)] = encE (.node o v i L) := (encE_eq o v i L).symm
  have hta : ∀ e, e ∈ L → triE e := fun e he => tri_wf e (wf_args hr e he).1
  rw [g36_L6_eq, decF hk, bsel_false, clX_of (k39 true), w23, clX_of (k39 false), w23]
  simp only [mkE, hn, truth_true, truth_false]
  have num : 2 ≤ o ∧ o ≤ 9 → ∀ X : R, bsel (o == 0) (some (encE (.node o v i L), [])) (bsel (o == 1) (some (encE (.node o v i L), [])) (bsel (decide (o ≤ 5)) (bsel (L.all fun e => e.op == 0) (clX SS.CC 51 [.int .i64 o, .sl false 1 (encI (L.map EX.val))] fun r22 => vI .i64 r22 fun n21 => clX SS.CC 19 [.int .i64 n21, .int .i64 65536] fun r24 => vB r24 fun b23 => bsel (!b23) (some (.agg [.int .i64 0, .int .i64 n21, .int .i64 0, .sl false 4 []], [])) (some (encE (.node o v i L), []))) (some (encE (.node o v i L), [])))
      (bsel (decide (o ≤ 9)) (bsel (L.all fun e => e.op == 0) (clX SS.CC 51 [.int .i64 o, .sl false 1 (encI (L.map EX.val))] fun r26 => vI .i64 r26 fun n25 => clX SS.CC 39 [.bool (n25 == 1)] fun r31 => v23 r31 fun n27 n28 n29 l30 => some (.agg [.int .i64 n27, .int .i64 n28, .int .i64 n29, .sl false 4 l30], [])) (some (encE (.node o v i L), []))) X))) = Ret (encE (foldOp (.node o v i L))) := by
    intro ho X
    rw [eqF (show o ≠ 0 by omega), eqF (show o ≠ 1 by omega), bsel_false, bsel_false, foldOp_num ho]
    cases hc : (L.all fun e => e.op == 0) with
    | true =>
      have hap := up (g := 51) rfl (c51 o (L.map EX.val) (app_const hr ho hc))
      have h19 := up (g := 19) rfl (c19 (applyS o (L.map EX.val)) 65536 (by decide) (by decide))
      rw [bsel_true, bsel_true, if_pos rfl, clX_of hap, vI_mk, clX_of h19, vB_mk, clX_of hap, vI_mk, clX_of (k39 _), w23, mkE, constE]
      by_cases h5 : o ≤ 5
      · rw [decT h5, bsel_true, if_pos h5]
        cases largeS (applyS o (L.map EX.val)) 65536 <;> rfl
      · rw [decF h5, bsel_false, if_neg h5, decT ho.2, bsel_true]
    | false =>
      rw [bsel_false, bsel_false, if_neg (by simp)]
      by_cases h5 : o ≤ 5
      · rw [decT h5, bsel_true]
      · rw [decF h5, bsel_false, decT ho.2, bsel_true]
  rcases kind_args hr.1 hr.2.2 with ⟨h01, rfl, _⟩ | ⟨rfl, _⟩ | ⟨rfl, a, rfl, _, ka, hk⟩ | ⟨h1, _⟩ | ⟨h1, _⟩ | ⟨h1, a, b, rfl, _, _, ka, kb, hk⟩ | ⟨rfl, c, a, b, rfl, _, _, _, kc, _⟩
  · rw [foldOp, if_pos h01]
    rcases h01 with rfl | rfl <;> rfl
  · exact num ⟨by decide, by decide⟩ _
  · have ta := hta a (by simp)
    have e0 : ∀ (P : Prop) [Decidable P], P → decide P = true := fun _ _ h => by simp [h]
    simp only [Int.reduceBEq, Int.reduceLE, decide_false, decide_true, bsel_true, bsel_false, q0, w23, mkE]
    rw [clX_of (k17 a trueE ta tt1), vB_mk, clX_of (k17 a falseE ta tf1), vB_mk, foldOp_10]
    cases h1 : sameE a trueE
    · cases h2 : sameE a falseE
      · simp only [bsel_false, Bool.false_eq_true, if_false]
        by_cases h3 : a.op = 10
        · obtain ⟨o', v', i', l'⟩ := a
          simp only [EX.op] at h3
          subst h3
          have hra := wf_args hr (.node 10 v' i' l') (by simp)
          rcases kind_args hra.1 hra.2.2 with ⟨h1, _⟩ | ⟨h1, _⟩ | ⟨_, b, rfl, _⟩ | ⟨h1, _⟩ | ⟨h1, _⟩ | ⟨h1, _⟩ | ⟨h1, _⟩
          any_goals omega
          rw [show (EX.node 10 v' i' [b]).op = 10 from rfl, show (EX.node 10 v' i' [b]).args = [b] from rfl]
          simp only [Int.reduceBEq, bsel_true, q0, w23, mkE, beq_self_eq_true, if_true]
          rfl
        · rw [show (a.op == 10) = false by simpa using h3, bsel_false, if_neg h3]
      · simp only [bsel_false, bsel_true, Bool.false_eq_true, if_false, if_true]
    · simp only [bsel_true, if_true]
  · exact num ⟨by omega, by omega⟩ _
  · exact num ⟨by omega, by omega⟩ _
  · have ta := hta a (by simp)
    have tb := hta b (by simp)
    rcases h1 with rfl | rfl
    · simp only [Int.reduceBEq, Int.reduceLE, decide_false, decide_true, bsel_true, bsel_false, q0, q1E, w23, mkE]
      rw [clX_of (k17 a falseE ta tf1), vB_mk, clX_of (k17 b falseE tb tf1), vB_mk, clX_of (k17 a trueE ta tt1), vB_mk, clX_of (k17 b trueE tb tt1), vB_mk, foldOp_11]
      cases sameE a falseE <;> cases sameE b falseE <;> cases sameE a trueE <;> cases sameE b trueE <;> rfl
    · simp only [Int.reduceBEq, Int.reduceLE, decide_false, decide_true, bsel_true, bsel_false, q0, q1E, w23, mkE]
      rw [clX_of (k17 a trueE ta tt1), vB_mk, clX_of (k17 b trueE tb tt1), vB_mk, clX_of (k17 a falseE ta tf1), vB_mk, clX_of (k17 b falseE tb tf1), vB_mk, foldOp_12]
      cases sameE a trueE <;> cases sameE b trueE <;> cases sameE a falseE <;> cases sameE b falseE <;> rfl
  · have ta := hta c (by simp)
    simp only [Int.reduceBEq, Int.reduceLE, decide_false, decide_true, bsel_true, bsel_false, q0, q1E, q2E, w23, mkE]
    rw [clX_of (k17 c trueE ta tt1), vB_mk, clX_of (k17 c falseE ta tf1), vB_mk, foldOp_13]
    cases sameE c trueE <;> cases sameE c falseE <;> rfl
def allC (L : List EX) : Bool := L.all fun e => e.op == 0
theorem l36 {n : Int} (o v i : Int) (l : List EX) (hr : RightE n (.node o v i l)) (hl : l.length ≤ 3) (ih : ∀ e, e ∈ l → SS.CC 36 [encE e] [] = Ret (encE (foldE e))) :
    ∀ (m k : Nat), k + m = l.length → g36_L6 o v i (encL l) ((foldL (l.take k)).all fun e => e.op == 0) (encI ((foldL (l.take k)).map EX.val)) k (encL (foldL (l.take k))) = Ret (encE (foldE (.node o v i l)))
  | 0, k, h => by
    have hr2 := (fold_node hr fun e he => foldE_right e (wf_args hr e he)).1
    rw [List.take_of_length_le (by omega), end36 o v i (foldL l) hr2 (by rw [foldL_len]; omega) _ _ (by simp; omega), foldE]
  | m + 1, k, h => by
    obtain ⟨y, hy⟩ := get_lt (show k < l.length by omega)
    have hlen := foldL_len (l.take k)
    have h1 : (encL (foldL (l.take k))).length + 1 ≤ LIM := by simp at hlen; simp [LIM, hlen]; omega
    have h2 : (encI ((foldL (l.take k)).map EX.val)).length + 1 ≤ LIM := by simp at hlen; simp [LIM, hlen]; omega
    have hrec := l36 o v i l hr hl ih m (k + 1) (by omega)
    rw [take_snoc hy, foldL_map, List.map_append, ← foldL_map, List.all_append, List.map_append, encI_app, encL_app] at hrec
    rw [g36_L6_eq, decT (by simp; omega), bsel_true, lget_encL hy, w23, mkE, clX_of (ih y (get_mem hy)), w23, mkE, decT h1, chk_tt, decT h2, chk_tt, chk_tt, wrs (by omega)]
    cases hb : (foldL (l.take k)).all fun e => e.op == 0 with
    | true =>
      rw [hb, Bool.true_and] at hrec
      rw [bsel_true]
      simp only [List.map_cons, List.map_nil, List.all_cons, List.all_nil, Bool.and_true] at hrec
      exact hrec
    | false =>
      rw [hb, Bool.false_and] at hrec
      rw [bsel_false]
      exact hrec
theorem c36 {n : Int} : ∀ e, RightE n e → SS.CC 36 [encE e] [] = Ret (encE (foldE e)) := by
  refine EX.ind fun o v i l ih hr => ?_
  have hw := hr.1
  rw [wfE] at hw
  have hl3 := (argsS_le hw.1).2.2
  have h := l36 o v i l hr (by omega) (fun e he => ih e he (wf_args hr e he)) l.length 0 (by omega)
  rw [encE_eq, g36_eq]
  rw [List.take_zero, foldL, encL] at h
  exact h
end Go.Proofs.Ytmclnnpaephkpaa.W

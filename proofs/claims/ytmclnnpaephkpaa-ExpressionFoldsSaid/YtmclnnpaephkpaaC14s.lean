/-
  What the functions of chapter 14 answer: copies, one tree in place of a variable, the same tree.
-/
import Derived.Test.YtmclnnpaephkpaaC14g
import Derived.Test.YtmclnnpaephkpaaPF14
import Derived.Test.YtmclnnpaephkpaaT14s
namespace Go.Proofs.Ytmclnnpaephkpaa
set_option linter.unusedVariables false
set_option linter.unusedSimpArgs false
set_option linter.unnecessarySimpa false
set_option linter.unusedSectionVars false
open Go.RowKit

mutual
/-- At most three arguments everywhere. -/
def triE : EX → Prop
  | .node _ _ _ l => l.length ≤ 3 ∧ triL l
def triL : List EX → Prop
  | [] => True
  | e :: l => triE e ∧ triL l
end
theorem triL_mem : ∀ {l : List EX} {e : EX}, triL l → e ∈ l → triE e
  | a :: l, e, h, he => by
    rcases List.mem_cons.1 he with rfl | he
    · exact h.1
    · exact triL_mem h.2 he
theorem triL_all : ∀ {l : List EX}, (∀ e, e ∈ l → triE e) → triL l
  | [], _ => trivial
  | e :: l, h => ⟨h e (by simp), triL_all fun x hx => h x (by simp [hx])⟩
theorem tri_wf : ∀ e, wfE e → triE e := by
  refine EX.ind fun o v i l ih hw => ?_
  rw [wfE] at hw
  have := (argsS_le hw.1).2.2
  exact ⟨by omega, triL_all fun e he => ih e he (wfL_mem hw.2 he)⟩
theorem c76 (e : EX) : SS.CC 76 [encE e] [] = Ret (encE e) := by
  obtain ⟨o, v, i, l⟩ := e
  rw [encE_eq, g76_eq]
theorem l54c (o v x : Int) (l : List EX) (hl : l.length ≤ 3) (ih : ∀ e, e ∈ l → SS.CC 54 [encE e, .func (.func 76) [] []] [] = Ret (encE e)) :
    ∀ (m k : Nat), k + m = l.length → g54_3i_L4 (encL l) o v x k (encL (l.take k)) = Ret (encE (.node o v x l))
  | 0, k, h => by
    have h76 := c76 (.node o v x l)
    rw [encE_eq] at h76
    rw [g54_3i_L4_eq, decF (by simp; omega), bsel_false, List.take_of_length_le (by omega), clX_of h76, encE_eq, v23_mk]
  | m + 1, k, h => by
    obtain ⟨y, hy⟩ := get_lt (show k < l.length by omega)
    rw [g54_3i_L4_eq, decT (by simp; omega), bsel_true, lget_encL hy, v23_e, mkE, clX_of (ih y (get_mem hy)), v23_e, mkE, chk_of (decT (by simp [LIM]; omega)), wrs (by omega), encL1 y, ← encL_app, ← take_snoc hy]
    exact l54c o v x l hl ih m (k + 1) (by omega)
theorem c54c : ∀ e, triE e → SS.CC 54 [encE e, .func (.func 76) [] []] [] = Ret (encE e) := by
  refine EX.ind fun o v i l ih ht => ?_
  rw [triE] at ht
  have h := l54c o v i l ht.1 (fun e he => ih e he (triL_mem ht.2 he)) l.length 0 (by omega)
  rw [encE_eq, g54_3i_eq, ← encE_eq]
  exact h
theorem c57 (e : EX) (h : triE e) : SS.CC 57 [encE e] [] = Ret (encE e) := by
  have h1 := c54c e h
  obtain ⟨o, v, i, l⟩ := e
  rw [encE_eq] at h1
  rw [encE_eq, g57_eq, clX_of h1, v23_mk]
theorem replL_map (i : Int) (b : EX) : ∀ l, replL i b l = l.map (replE i b)
  | [] => by rw [replL]; rfl
  | e :: l => by rw [replL, replL_map i b l]; rfl
theorem tri_repl (i : Int) (b : EX) (hb : triE b) : ∀ e, triE e → triE (replE i b e) := by
  refine EX.ind fun o v j l ih ht => ?_
  rw [replE]
  rw [triE] at ht
  split
  · exact hb
  · rw [replL_map, triE]
    refine ⟨by simpa using ht.1, triL_all fun e he => ?_⟩
    obtain ⟨y, hy, rfl⟩ := List.mem_map.1 he
    exact ih y hy (triL_mem ht.2 hy)
theorem c56 (i : Int) (b : EX) (hb : triE b) (e : EX) : SS.CC 56 [encE e, .cst (.int .i64 i), .cst (encE b)] [] = Ret (encE (if e.op = 1 ∧ e.idx = i then b else e)) := by
  have h57 := c57 b hb
  obtain ⟨o, v, j, l⟩ := e
  obtain ⟨ob, vb, ib, lb⟩ := b
  rw [encE_eq] at h57
  rw [encE_eq, encE_eq, g56_eq, clX_of h57, v23_mk, bsel_ite, bsel_ite]
  by_cases h1 : o = 1 <;> by_cases h2 : j = i <;> simp [h1, h2, EX.op, EX.idx, encE_eq]
theorem l54r (i ob vb ib : Int) (lb : List EX) (hb : triE (.node ob vb ib lb)) (o v x : Int) (l : List EX) (hl : l.length ≤ 3) (ih : ∀ e, e ∈ l → SS.CC 54 [encE e, .func (.func 56) [] [.cst (.int .i64 i), .cst (.agg [.int .i64 ob, .int .i64 vb, .int .i64 ib, .sl false 4 (encL lb)])]] [] = Ret (encE (replE i (.node ob vb ib lb) e))) :
    ∀ (m k : Nat), k + m = l.length → g54_1i_L4 i ob vb ib (encL lb) (encL l) o v x k (encL ((l.take k).map (replE i (.node ob vb ib lb)))) = Ret (encE (replE i (.node ob vb ib lb) (.node o v x l)))
  | 0, k, h => by
    have h56 := c56 i (.node ob vb ib lb) hb (.node o v x (l.map (replE i (.node ob vb ib lb))))
    rw [encE_eq, encE_eq] at h56
    rw [g54_1i_L4_eq, decF (by simp; omega), bsel_false, List.take_of_length_le (by omega), clX_of h56, v23_e, mkE, replE, replL_map]
    rfl
  | m + 1, k, h => by
    obtain ⟨y, hy⟩ := get_lt (show k < l.length by omega)
    rw [g54_1i_L4_eq, decT (by simp; omega), bsel_true, lget_encL hy, v23_e, mkE, clX_of (ih y (get_mem hy)), v23_e, mkE, chk_of (decT (by simp [LIM]; omega)), wrs (by omega), encL1, ← encL_app,
      show (l.take k).map (replE i (.node ob vb ib lb)) ++ [replE i (.node ob vb ib lb) y] = (l.take (k + 1)).map (replE i (.node ob vb ib lb)) by rw [take_snoc hy, List.map_append]; rfl]
    exact l54r i ob vb ib lb hb o v x l hl ih m (k + 1) (by omega)
theorem c54r (i : Int) (b : EX) (hb : triE b) : ∀ e, triE e → SS.CC 54 [encE e, .func (.func 56) [] [.cst (.int .i64 i), .cst (encE b)]] [] = Ret (encE (replE i b e)) := by
  obtain ⟨ob, vb, ib, lb⟩ := b
  rw [encE_eq]
  refine EX.ind fun o v x l ih ht => ?_
  rw [triE] at ht
  have h := l54r i ob vb ib lb hb o v x l ht.1 (fun e he => ih e he (triL_mem ht.2 he)) l.length 0 (by omega)
  rw [encE_eq, g54_1i_eq]
  exact h
theorem l31 (i ob vb ib : Int) (lb : List EX) (o v x : Int) (l : List EX) (hl : l.length ≤ 3) (ih : ∀ e, e ∈ l → SS.CC 31 [encE e, .int .i64 i, .agg [.int .i64 ob, .int .i64 vb, .int .i64 ib, .sl false 4 (encL lb)]] [] = Ret (encE (replE i (.node ob vb ib lb) e))) :
    ∀ (m k : Nat), k + m = l.length → g31_L6 i o v x (encL l) ob vb ib (encL lb) k (encL ((l.take k).map (replE i (.node ob vb ib lb)))) = Ret (encE (.node o v x (l.map (replE i (.node ob vb ib lb)))))
  | 0, k, h => by
    rw [g31_L6_eq, decF (by simp; omega), bsel_false, List.take_of_length_le (by omega), encE_eq]
  | m + 1, k, h => by
    obtain ⟨y, hy⟩ := get_lt (show k < l.length by omega)
    rw [g31_L6_eq, decT (by simp; omega), bsel_true, lget_encL hy, v23_e, mkE, clX_of (ih y (get_mem hy)), v23_e, mkE, chk_of (decT (by simp [LIM]; omega)), wrs (by omega), encL1, ← encL_app,
      show (l.take k).map (replE i (.node ob vb ib lb)) ++ [replE i (.node ob vb ib lb) y] = (l.take (k + 1)).map (replE i (.node ob vb ib lb)) by rw [take_snoc hy, List.map_append]; rfl]
    exact l31 i ob vb ib lb o v x l hl ih m (k + 1) (by omega)
theorem c31 (i : Int) (b : EX) : ∀ e, triE e → SS.CC 31 [encE e, .int .i64 i, encE b] [] = Ret (encE (replE i b e)) := by
  obtain ⟨ob, vb, ib, lb⟩ := b
  rw [encE_eq]
  refine EX.ind fun o v x l ih ht => ?_
  rw [triE] at ht
  have h : g31_J4 i o v x (encL l) ob vb ib (encL lb) = Ret (encE (.node o v x (l.map (replE i (.node ob vb ib lb))))) := by
    rw [g31_J4_eq]
    exact l31 i ob vb ib lb o v x l ht.1 (fun e he => ih e he (triL_mem ht.2 he)) l.length 0 (by omega)
  rw [encE_eq, g31_eq, h, replE, replL_map, bsel_ite, bsel_ite]
  by_cases h1 : o = 1 <;> by_cases h2 : x = i <;> simp [h1, h2, encE_eq]
theorem c29 (e : EX) (i : Int) (b : EX) : SS.CC 29 [encE e, .int .i64 i, encE b] [] = Ret (.tuple [encE (substS e i b).1, .int .i64 (substS e i b).2]) := by
  have h1 := c14 e 16
  have h2 := c14 b 16
  have h3 : (checkS e 16).2 = 0 → (checkS b 16).2 = 0 → SS.CC 54 [encE e, .func (.func 56) [] [.cst (.int .i64 i), .cst (encE b)]] [] = Ret (encE (replE i b e)) := fun p q =>
    c54r i b (tri_wf b (check_right q).1.1) e (tri_wf e (check_right p).1.1)
  have h4 := c14 (replE i b e) 16
  have hs : substS e i b = substS e i b := rfl
  conv at hs => rhs; unfold substS
  generalize hr : replE i b e = r at *
  obtain ⟨oe, ve, ie, le⟩ := e
  obtain ⟨ob, vb, ib, lb⟩ := b
  rw [encE_eq] at h1 h2
  rw [encE_eq, encE_eq] at h3
  rw [encE_eq, encE_eq, g29_eq, clX_of h1, w_3_3_mk, hs]
  have hz : PV.agg [.int .i64 0, .int .i64 0, .int .i64 0, .sl false 4 []] = encE zeroE := by rw [zeroE, encE_eq, encL]
  rw [hz]
  by_cases p : (checkS (.node oe ve ie le) 16).2 = 0
  · rw [show ((checkS (.node oe ve ie le) 16).2 != 0) = false by simpa using p, bsel_false, if_neg (by simpa using p), clX_of h2, w_3_3_mk]
    by_cases q : (checkS (.node ob vb ib lb) 16).2 = 0
    · rw [show ((checkS (.node ob vb ib lb) 16).2 != 0) = false by simpa using q, bsel_false, if_neg (by simpa using q), clX_of (h3 p q), v23_e, mkE, clX_of h4, w_3_3_mk]
      by_cases a1 : (checkS (.node ob vb ib lb) 16).1 = 1
      · rw [show ((checkS (.node ob vb ib lb) 16).1 != 1) = false by simpa using a1, bsel_false, if_neg (by simpa using a1)]
        by_cases a2 : i < 0
        · rw [decT a2, bsel_true, if_pos (.inl a2)]
        by_cases a3 : 16 ≤ i
        · rw [decF a2, bsel_false, decT a3, bsel_true, if_pos (.inr a3)]
        rw [decF a2, bsel_false, decF a3, bsel_false, if_neg (by omega)]
        by_cases a4 : (checkS r 16).2 = 0
        · rw [show ((checkS r 16).2 != 0) = false by simpa using a4, bsel_false, if_neg (by simpa using a4)]
        · rw [show ((checkS r 16).2 != 0) = true by simpa using a4, bsel_true, if_pos a4]
      · rw [show ((checkS (.node ob vb ib lb) 16).1 != 1) = true by simpa using a1, bsel_true, if_pos a1]
    · rw [show ((checkS (.node ob vb ib lb) 16).2 != 0) = true by simpa using q, bsel_true, if_pos q]
  · rw [show ((checkS (.node oe ve ie le) 16).2 != 0) = true by simpa using p, bsel_true, if_pos p]
theorem l17 (o v i : Int) (l : List EX) (o' v' i' : Int) (l' : List EX) (he : l'.length = l.length) (hl : l.length ≤ 3) (ih : ∀ e, e ∈ l → ∀ f, f ∈ l' → SS.CC 17 [encE e, encE f] [] = Ret (.bool (sameE e f))) :
    ∀ (m k : Nat), k + m = l.length → g17_L5 o v i (encL l) o' v' i' (encL l') k = Ret (.bool (sameL (l.drop k) (l'.drop k)))
  | 0, k, h => by
    rw [g17_L5_eq, decF (by simp; omega), bsel_false, List.drop_of_length_le (by omega), List.drop_of_length_le (by omega), sameL]
  | m + 1, k, h => by
    obtain ⟨y, hy⟩ := get_lt (show k < l.length by omega)
    obtain ⟨z, hz⟩ := get_lt (show k < l'.length by omega)
    rw [g17_L5_eq, decT (by simp; omega), bsel_true, lget_encL hy, v23_e, lget_encL hz, v23_e, mkE, mkE, clX_of (ih y (get_mem hy) z (get_mem hz)), vB_mk, wrs (by omega), l17 o v i l o' v' i' l' he hl ih m (k + 1) (by omega), drop_cons hy, drop_cons hz, sameL, bsel_ite]
    cases sameE y z <;> simp
theorem sameL_len : ∀ l l', l.length ≠ l'.length → sameL l l' = false
  | [], [], h => absurd rfl h
  | [], _ :: _, _ => by rw [sameL] <;> simp
  | _ :: _, [], _ => by rw [sameL] <;> simp
  | a :: l, b :: l', h => by rw [sameL, sameL_len l l' (by simpa using h), Bool.and_false]
theorem c17 : ∀ e, triE e → ∀ f, triE f → SS.CC 17 [encE e, encE f] [] = Ret (.bool (sameE e f)) := by
  refine EX.ind fun o v i l ih ht f hf => ?_
  obtain ⟨o', v', i', l'⟩ := f
  rw [triE] at ht hf
  rw [encE_eq, encE_eq, g17_eq, sameE, encL_length, encL_length]
  by_cases a1 : o = o'
  · by_cases a2 : v = v'
    · by_cases a3 : i = i'
      · by_cases a4 : l.length = l'.length
        · have h := l17 o v i l o' v' i' l' a4.symm ht.1 (fun e he f hf' => ih e he (triL_mem ht.2 he) f (triL_mem hf.2 hf')) l.length 0 (by omega)
          subst a1; subst a2; subst a3
          simp only [bne_self_eq_false, bsel_false, beq_self_eq_true, Bool.true_and]
          rw [show ((l.length : Int) != (l'.length : Int)) = false by simpa using by omega, bsel_false]
          exact h
        · simp [a1, a2, a3, show ¬ ((l.length : Int) = l'.length) by omega, sameL_len l l' a4, bsel_ite]
      · simp [a1, a2, a3, bsel_ite]
    · simp [a1, a2, bsel_ite]
  · simp [a1, bsel_ite]
mutual
theorem sameE_refl : ∀ e, sameE e e = true
  | .node o x i l => by rw [sameE]; simp [sameL_refl l]
theorem sameL_refl : ∀ l, sameL l l = true
  | [] => by rw [sameL]
  | e :: l => by rw [sameL, sameE_refl e, sameL_refl l]; rfl
end
end Go.Proofs.Ytmclnnpaephkpaa

/-
  PLAIN LAWS of chapter 14: a folded expression has the same value, is not greater, and is folded already.
-/
import Derived.Test.YtmclnnpaephkpaaPH14
import Derived.Test.YtmclnnpaephkpaaPI14
namespace Go.Proofs.Ytmclnnpaephkpaa
set_option linter.unusedVariables false
set_option linter.unusedSimpArgs false
set_option linter.unnecessarySimpa false
set_option linter.unusedSectionVars false

mutual
theorem sameE_eq : ∀ e f, sameE e f = true → e = f
  | .node o x i l, .node o' x' i' l', h => by
    rw [sameE] at h
    simp only [Bool.and_eq_true, beq_iff_eq] at h
    rw [h.1.1.1, h.1.1.2, h.1.2, sameL_eq l l' h.2]
theorem sameL_eq : ∀ l l', sameL l l' = true → l = l'
  | [], [], _ => rfl
  | [], _ :: _, h => by simp [sameL] at h
  | _ :: _, [], h => by simp [sameL] at h
  | a :: l, b :: l', h => by
    rw [sameL] at h
    simp only [Bool.and_eq_true] at h
    rw [sameE_eq a b h.1, sameL_eq l l' h.2]
end
/-- What folding one operation may answer. -/
inductive FO (y : EX) : EX → Prop
  | same : FO y y
  | truth (b : Bool) : kindE y = 2 → 3 ≤ sizeE y → 2 ≤ depthE y → (∀ vs : List Int, (∀ q, q ∈ vs → -65536 ≤ q ∧ q ≤ 65536) → RightE vs.length y → ∀ x, evalE vs y = some x → x = bitS b) → FO y (truthE b)
  | arg (a : EX) : a ∈ y.args → (∀ vs : List Int, (∀ q, q ∈ vs → -65536 ≤ q ∧ q ≤ 65536) → RightE vs.length y → ∀ x, evalE vs y = some x → evalE vs a = some x) → FO y a
  | deep (b : EX) (v i : Int) : y.args = [.node 10 v i [b]] → (∀ (vs : List Int) x, evalE vs y = some x → evalE vs b = some x) → FO y b
  | const (c : Int) : 1 ≤ sizeE y → (∀ (vs : List Int) x, evalE vs y = some x → x = c) → FO y (.node 0 c 0 [])
theorem eval_truth (vs : List Int) (b : Bool) : evalE vs (truthE b) = some (bitS b) := by
  have hz : evalE vs zeroE = some 0 := by unfold zeroE evalE; simp
  cases b
  · exact (eval_op (by decide) (evalL_2 hz hz) (by decide)).trans (by decide)
  · exact (eval_op (by decide) (evalL_2 hz hz) (by decide)).trans (by decide)
theorem eval_op' {vs : List Int} {o v i x : Int} {l : List EX} (ho : o ≠ 0 ∧ o ≠ 1 ∧ o ≠ 13) (h : evalE vs (.node o v i l) = some x) : ∃ ns, evalL vs l = some ns ∧ x = applyS o ns := by
  unfold evalE at h
  rw [if_neg ho.1, if_neg ho.2.1, if_neg ho.2.2] at h
  cases hl : evalL vs l with
  | none => simp [hl] at h
  | some ns =>
    simp only [hl] at h
    split at h
    · cases h
    · cases h; exact ⟨ns, rfl, rfl⟩
theorem evalL_1' {vs : List Int} {a : EX} {ns : List Int} (h : evalL vs [a] = some ns) : ∃ x, evalE vs a = some x ∧ ns = [x] := by
  rw [evalL] at h
  cases ha : evalE vs a with
  | none => simp [ha] at h
  | some x => simp [ha, evalL] at h; exact ⟨x, rfl, h.symm⟩
theorem evalL_2' {vs : List Int} {a b : EX} {ns : List Int} (h : evalL vs [a, b] = some ns) : ∃ x y, evalE vs a = some x ∧ evalE vs b = some y ∧ ns = [x, y] := by
  rw [evalL] at h
  cases ha : evalE vs a with
  | none => simp [ha] at h
  | some x =>
    simp only [ha] at h
    cases hb : evalL vs [b] with
    | none => simp [hb] at h
    | some ms =>
      obtain ⟨y, hy, rfl⟩ := evalL_1' hb
      simp [hb] at h
      exact ⟨x, y, rfl, hy, h.symm⟩
theorem truth_true : truthE true = trueE := rfl
theorem truth_false : truthE false = falseE := rfl
theorem size_node (o v i : Int) (l : List EX) : sizeE (.node o v i l) = 1 + sizeL l := by rw [sizeE]
theorem depth_node (o v i : Int) (l : List EX) : depthE (.node o v i l) = 1 + depthL l := by rw [depthE]
theorem getD0 (a : EX) (l : List EX) (d : EX) : (a :: l).getD 0 d = a := rfl
theorem getD1 (a b : EX) (l : List EX) (d : EX) : (a :: b :: l).getD 1 d = b := rfl
theorem getD2 (a b c : EX) (l : List EX) (d : EX) : (a :: b :: c :: l).getD 2 d = c := rfl
theorem size_true : sizeE trueE = 3 := size_truth true
theorem size_false : sizeE falseE = 3 := size_truth false
theorem depth_true : depthE trueE = 2 := depth_truth true
theorem depth_false : depthE falseE = 2 := depth_truth false
theorem ev_true (vs : List Int) : evalE vs trueE = some 1 := eval_truth vs true
theorem ev_false (vs : List Int) : evalE vs falseE = some 0 := eval_truth vs false
theorem args_right {n o v i : Int} {l : List EX} {vs : List Int} (h : RightE vs.length (.node o v i l)) (hvs : ∀ q, q ∈ vs → -65536 ≤ q ∧ q ≤ 65536) {a : EX} (ha : a ∈ l) {x : Int} (hx : evalE vs a = some x) : ValOK a x := evalE_ok hvs a (wf_args h a ha) x hx
theorem fo_not {n v i : Int} {a : EX} (hk : kindE (.node 10 v i [a]) = 2) (hr : RightE n (.node 10 v i [a])) : FO (.node 10 v i [a]) (foldOp (.node 10 v i [a])) := by
  have hval : ∀ (vs : List Int) x, evalE vs (.node 10 v i [a]) = some x → ∃ z, evalE vs a = some z ∧ x = 1 - z := fun vs x h => by
    obtain ⟨ns, h1, h2⟩ := eval_op' (by decide) h
    obtain ⟨z, h3, rfl⟩ := evalL_1' h1
    exact ⟨z, h3, h2⟩
  have hsz : ∀ b, a = truthE b → 3 ≤ sizeE (.node 10 v i [a]) ∧ 2 ≤ depthE (.node 10 v i [a]) := fun b e => by
    rw [e, size_node, depth_node, sizeL, sizeL, depthL, depthL, size_truth, depth_truth]; omega
  rw [foldOp]
  rw [if_neg (by decide), if_pos rfl, getD0]
  split
  · rename_i h
    obtain rfl := sameE_eq _ _ h
    exact .truth false hk (hsz true rfl).1 (hsz true rfl).2 fun vs _ _ x hx => by
      obtain ⟨z, hz, rfl⟩ := hval vs x hx
      rw [ev_true] at hz; cases hz; rfl
  · split
    · rename_i h
      obtain rfl := sameE_eq _ _ h
      exact .truth true hk (hsz false rfl).1 (hsz false rfl).2 fun vs _ _ x hx => by
        obtain ⟨z, hz, rfl⟩ := hval vs x hx
        rw [ev_false] at hz; cases hz; rfl
    · split
      · rename_i h
        obtain ⟨o', v', i', l'⟩ := a
        have ho : o' = 10 := h
        subst ho
        have hra := wf_args hr (.node 10 v' i' l') (by simp)
        rcases kind_args hra.1 hra.2.2 with ⟨h1, _⟩ | ⟨h1, _⟩ | ⟨_, b, rfl, _⟩ | ⟨h1, _⟩ | ⟨h1, _⟩ | ⟨h1, _⟩ | ⟨h1, _⟩
        · omega
        · omega
        · exact .deep b v' i' rfl fun vs x hx => by
            obtain ⟨z, hz, rfl⟩ := hval vs x hx
            obtain ⟨ns, h1, rfl⟩ := eval_op' (by decide) hz
            obtain ⟨u, h3, rfl⟩ := evalL_1' h1
            rw [h3]; simp [applyS]; omega
        · omega
        · omega
        · omega
        · omega
      · exact .same
theorem fo_two {o v i : Int} {a b : EX} (ho : o = 11 ∨ o = 12) (hk : kindE (.node o v i [a, b]) = 2) (ka : kindE a = 2) (kb : kindE b = 2) : FO (.node o v i [a, b]) (foldOp (.node o v i [a, b])) := by
  have hval : ∀ (vs : List Int) x, evalE vs (.node o v i [a, b]) = some x → ∃ y z, evalE vs a = some y ∧ evalE vs b = some z ∧ x = applyS o [y, z] := fun vs x h => by
    obtain ⟨ns, h1, h2⟩ := eval_op' (by omega) h
    obtain ⟨y, z, h3, h4, rfl⟩ := evalL_2' h1
    exact ⟨y, z, h3, h4, h2⟩
  have hsa : ∀ t, a = truthE t → 3 ≤ sizeE (.node o v i [a, b]) ∧ 2 ≤ depthE (.node o v i [a, b]) := fun t e => by
    have := sizeE_pos b
    rw [e, size_node, depth_node, sizeL, sizeL, sizeL, depthL, depthL, depthL, size_truth, depth_truth]; omega
  have hsb : ∀ t, b = truthE t → 3 ≤ sizeE (.node o v i [a, b]) ∧ 2 ≤ depthE (.node o v i [a, b]) := fun t e => by
    have := sizeE_pos a
    rw [e, size_node, depth_node, sizeL, sizeL, sizeL, depthL, depthL, depthL, size_truth, depth_truth]; omega
  have h01 : ∀ vs : List Int, (∀ q, q ∈ vs → -65536 ≤ q ∧ q ≤ 65536) → RightE vs.length (.node o v i [a, b]) → ∀ y z, evalE vs a = some y → evalE vs b = some z → (y = 0 ∨ y = 1) ∧ (z = 0 ∨ z = 1) := fun vs hvs hr y z hy hz =>
    ⟨(args_right (n := 0) hr hvs (by simp) hy).2.2 ka, (args_right (n := 0) hr hvs (by simp) hz).2.2 kb⟩
  rw [foldOp]
  rcases ho with rfl | rfl
  · rw [if_neg (by decide), if_neg (by decide), if_pos rfl, getD0, getD1]
    split
    · rename_i h
      rw [Bool.or_eq_true] at h
      rcases h with h | h
      · obtain rfl := sameE_eq _ _ h
        exact .truth false hk (hsa false rfl).1 (hsa false rfl).2 fun vs _ _ x hx => by
          obtain ⟨y, z, hy, hz, rfl⟩ := hval vs x hx
          rw [ev_false] at hy; cases hy; simp [applyS, bitS]
      · obtain rfl := sameE_eq _ _ h
        exact .truth false hk (hsb false rfl).1 (hsb false rfl).2 fun vs _ _ x hx => by
          obtain ⟨y, z, hy, hz, rfl⟩ := hval vs x hx
          rw [ev_false] at hz; cases hz; simp [applyS, bitS]
    · split
      · rename_i h
        obtain rfl := sameE_eq _ _ h
        exact .arg b (by simp [EX.args]) fun vs _ _ x hx => by
          obtain ⟨y, z, hy, hz, rfl⟩ := hval vs x hx
          rw [ev_true] at hy; cases hy; rw [hz]; simp [applyS]
      · split
        · rename_i h
          obtain rfl := sameE_eq _ _ h
          exact .arg a (by simp [EX.args]) fun vs _ _ x hx => by
            obtain ⟨y, z, hy, hz, rfl⟩ := hval vs x hx
            rw [ev_true] at hz; cases hz; rw [hy]; simp [applyS]
        · exact .same
  · rw [if_neg (by decide), if_neg (by decide), if_neg (by decide), if_pos rfl, getD0, getD1]
    split
    · rename_i h
      rw [Bool.or_eq_true] at h
      rcases h with h | h
      · obtain rfl := sameE_eq _ _ h
        exact .truth true hk (hsa true rfl).1 (hsa true rfl).2 fun vs hvs hr x hx => by
          obtain ⟨y, z, hy, hz, rfl⟩ := hval vs x hx
          obtain ⟨_, q⟩ := h01 vs hvs hr y z hy hz
          rw [ev_true] at hy; cases hy; simp [applyS, bitS]; omega
      · obtain rfl := sameE_eq _ _ h
        exact .truth true hk (hsb true rfl).1 (hsb true rfl).2 fun vs hvs hr x hx => by
          obtain ⟨y, z, hy, hz, rfl⟩ := hval vs x hx
          obtain ⟨q, _⟩ := h01 vs hvs hr y z hy hz
          rw [ev_true] at hz; cases hz; simp [applyS, bitS]; omega
    · split
      · rename_i h
        obtain rfl := sameE_eq _ _ h
        exact .arg b (by simp [EX.args]) fun vs hvs hr x hx => by
          obtain ⟨y, z, hy, hz, rfl⟩ := hval vs x hx
          obtain ⟨_, q⟩ := h01 vs hvs hr y z hy hz
          rw [ev_false] at hy; cases hy; rw [hz]; simp [applyS]; omega
      · split
        · rename_i h
          obtain rfl := sameE_eq _ _ h
          exact .arg a (by simp [EX.args]) fun vs hvs hr x hx => by
            obtain ⟨y, z, hy, hz, rfl⟩ := hval vs x hx
            obtain ⟨q, _⟩ := h01 vs hvs hr y z hy hz
            rw [ev_false] at hz; cases hz; rw [hy]; simp [applyS]; omega
        · exact .same
theorem fo_if {v i : Int} {c a b : EX} : FO (.node 13 v i [c, a, b]) (foldOp (.node 13 v i [c, a, b])) := by
  have hval : ∀ (vs : List Int) x, evalE vs (.node 13 v i [c, a, b]) = some x → ∃ z, evalE vs c = some z ∧ (if z = 1 then evalE vs a else evalE vs b) = some x := fun vs x h => by
    rw [evalE, if_neg (by decide), if_neg (by decide), if_pos rfl] at h
    cases hc : evalE vs c with
    | none => simp [hc] at h
    | some z => simp only [hc] at h; exact ⟨z, rfl, h⟩
  rw [foldOp, if_neg (by decide), if_neg (by decide), if_neg (by decide), if_neg (by decide), if_pos rfl, getD0, getD1, getD2]
  split
  · rename_i h
    obtain rfl := sameE_eq _ _ h
    exact .arg a (by simp [EX.args]) fun vs _ _ x hx => by
      obtain ⟨z, hz, h2⟩ := hval vs x hx
      rw [ev_true] at hz; cases hz; simpa using h2
  · split
    · rename_i h
      obtain rfl := sameE_eq _ _ h
      exact .arg b (by simp [EX.args]) fun vs _ _ x hx => by
        obtain ⟨z, hz, h2⟩ := hval vs x hx
        rw [ev_false] at hz; cases hz; simpa using h2
    · exact .same
theorem evalL_consts (vs : List Int) : ∀ (l : List EX), (l.all fun e => e.op == 0) = true → evalL vs l = some (l.map EX.val)
  | [], _ => rfl
  | .node o v i as :: l, h => by
    simp only [List.all_cons, Bool.and_eq_true] at h
    have h0 : o = 0 := by simpa [EX.op] using h.1
    subst h0
    rw [evalL, evalL_consts vs l h.2]
    unfold evalE
    simp [EX.val]
theorem fo_num {n o v i : Int} {l : List EX} (hr : RightE n (.node o v i l)) (ho : 2 ≤ o ∧ o ≤ 9) (hk : 6 ≤ o → kindE (.node o v i l) = 2 ∧ 3 ≤ sizeE (.node o v i l) ∧ 2 ≤ depthE (.node o v i l)) : FO (.node o v i l) (foldOp (.node o v i l)) := by
  have hval : (l.all fun e => e.op == 0) = true → ∀ (vs : List Int) x, evalE vs (.node o v i l) = some x → x = applyS o (l.map EX.val) := fun ha vs x h => by
    obtain ⟨ns, h1, h2⟩ := eval_op' (by omega) h
    rw [evalL_consts vs l ha] at h1
    cases h1; exact h2
  rw [foldOp, if_neg (by omega), if_neg (by omega), if_neg (by omega), if_neg (by omega), if_neg (by omega)]
  split
  · rename_i ha
    split
    · split
      · exact .same
      · exact .const _ (sizeE_pos _) (hval ha)
    · rename_i h5
      obtain ⟨k1, k2, k3⟩ := hk (by omega)
      refine .truth _ k1 k2 k3 fun vs _ _ x hx => ?_
      rw [hval ha vs x hx]
      have hb : ∃ b, applyS o (l.map EX.val) = bitS b := by
        have : o = 6 ∨ o = 7 ∨ o = 8 ∨ o = 9 := by omega
        rcases this with rfl | rfl | rfl | rfl <;> exact ⟨_, rfl⟩
      obtain ⟨b, hb⟩ := hb
      rw [hb]; cases b <;> rfl
  · exact .same
theorem foldOp_fo {n : Int} (y : EX) (hr : RightE n y) : FO y (foldOp y) := by
  obtain ⟨o, v, i, l⟩ := y
  rcases kind_args hr.1 hr.2.2 with ⟨h01, rfl, _⟩ | ⟨rfl, a, rfl, _⟩ | ⟨rfl, a, rfl, _, ka, hk⟩ | ⟨h1, a, b, rfl, _⟩ | ⟨h1, a, b, rfl, _, _, _, _, hk⟩ | ⟨h1, a, b, rfl, _, _, ka, kb, hk⟩ | ⟨rfl, c, a, b, rfl, _, _, _, kc, _⟩
  · rw [foldOp, if_pos h01]; exact .same
  · exact fo_num hr (by omega) (fun h => by omega)
  · exact fo_not hk hr
  · exact fo_num hr (by omega) (fun h => by omega)
  · refine fo_num hr (by omega) (fun h => ⟨hk, ?_, ?_⟩)
    · have := sizeE_pos a
      have := sizeE_pos b
      rw [size_node, sizeL, sizeL, sizeL]; omega
    · have := depthL_nn a.args
      have := depthL_nn b.args
      obtain ⟨o1, v1, i1, l1⟩ := a
      obtain ⟨o2, v2, i2, l2⟩ := b
      rw [depth_node, depthL, depthL, depthL, depth_node, depth_node]
      simp only [EX.args] at *
      omega
  · exact fo_two h1 hk ka kb
  · exact fo_if
end Go.Proofs.Ytmclnnpaephkpaa

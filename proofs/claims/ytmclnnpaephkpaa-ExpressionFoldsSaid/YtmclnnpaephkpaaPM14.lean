/-
  PLAIN LAWS of chapter 14: a folded expression has the same value, is not greater, and folding it again changes nothing.
-/
import Derived.Test.YtmclnnpaephkpaaPJ14
namespace Go.Proofs.Ytmclnnpaephkpaa
set_option linter.unusedVariables false
set_option linter.unusedSimpArgs false
set_option linter.unnecessarySimpa false
set_option linter.unusedSectionVars false

mutual
/-- No rule applies, here and below. -/
def NfE : EX → Prop
  | .node o v i l => foldOp (.node o v i l) = .node o v i l ∧ NfL l
def NfL : List EX → Prop
  | [] => True
  | e :: l => NfE e ∧ NfL l
end
theorem nfL_mem : ∀ {l : List EX} {e : EX}, NfL l → e ∈ l → NfE e
  | a :: l, e, h, he => by
    rw [NfL] at h
    rcases List.mem_cons.1 he with rfl | he
    · exact h.1
    · exact nfL_mem h.2 he
theorem nfL_all : ∀ {l : List EX}, (∀ e, e ∈ l → NfE e) → NfL l
  | [], _ => by rw [NfL]; trivial
  | e :: l, h => by rw [NfL]; exact ⟨h e (by simp), nfL_all fun x hx => h x (by simp [hx])⟩
theorem foldL_map : ∀ l, foldL l = l.map foldE
  | [] => by rw [foldL]; rfl
  | e :: l => by rw [foldL, foldL_map l]; rfl
theorem nf_fix : ∀ e, NfE e → foldE e = e := by
  refine EX.ind fun o v i l ih h => ?_
  rw [NfE] at h
  have : foldL l = l := by
    rw [foldL_map]
    calc l.map foldE = l.map id := List.map_congr_left fun e he => ih e he (nfL_mem h.2 he)
      _ = l := by simp
  rw [foldE, this, h.1]
theorem nf_zero : NfE zeroE := by rw [zeroE, NfE, NfL]; exact ⟨by rw [foldOp, if_pos (by decide)], trivial⟩
theorem foldOp_truth (b : Bool) : foldOp (truthE b) = truthE b := by
  cases b
  · rw [truth_false]; unfold falseE; rw [foldOp]; simp [EX.op, zeroE, EX.val, applyS, bitS, truthE, falseE]
  · rw [truth_true]; unfold trueE; rw [foldOp]; simp [EX.op, zeroE, EX.val, applyS, bitS, truthE, trueE]
theorem nf_truth (b : Bool) : NfE (truthE b) := by
  have h := foldOp_truth b
  have hz : NfL [zeroE, zeroE] := nfL_all fun e he => by simp at he; subst he; exact nf_zero
  cases b
  · rw [truth_false] at h ⊢; unfold falseE at h ⊢; rw [NfE]; exact ⟨h, hz⟩
  · rw [truth_true] at h ⊢; unfold trueE at h ⊢; rw [NfE]; exact ⟨h, hz⟩
theorem nf_const (c : Int) : NfE (.node 0 c 0 []) := by rw [NfE, NfL]; exact ⟨by rw [foldOp, if_pos (by decide)], trivial⟩
theorem fo_nf {y r : EX} (h : FO y r) (e : foldOp y = r) (ha : NfL y.args) : NfE r := by
  cases h with
  | same => obtain ⟨o, v, i, l⟩ := y; rw [NfE]; exact ⟨e, ha⟩
  | truth b _ _ _ _ => exact nf_truth b
  | arg a h _ => exact nfL_mem ha h
  | deep b v i h _ =>
    rw [h] at ha
    have := nfL_mem ha (e := .node 10 v i [r]) (by simp)
    rw [NfE] at this
    exact nfL_mem this.2 (by simp)
  | const c _ _ => exact nf_const c
theorem size_mem : ∀ {l : List EX} {e : EX}, e ∈ l → sizeE e ≤ sizeL l
  | a :: l, e, h => by
    have h1 := sizeE_pos a
    have h2 := sizeL_nn l
    rw [sizeL]
    rcases List.mem_cons.1 h with rfl | h
    · omega
    · have := size_mem h; omega
theorem depth_mem : ∀ {l : List EX} {e : EX}, e ∈ l → depthE e ≤ depthL l
  | a :: l, e, h => by
    rw [depthL]
    rcases List.mem_cons.1 h with rfl | h
    · omega
    · have := depth_mem h; omega
theorem clean_mem : ∀ {l : List EX} {e : EX}, cleanL l → e ∈ l → cleanE e
  | a :: l, e, h, he => by
    rw [cleanL] at h
    rcases List.mem_cons.1 he with rfl | he
    · exact h.1
    · exact clean_mem h.2 he
theorem cleanL_all : ∀ {l : List EX}, (∀ e, e ∈ l → cleanE e) → cleanL l
  | [], _ => by rw [cleanL]; trivial
  | e :: l, h => by rw [cleanL]; exact ⟨h e (by simp), cleanL_all fun x hx => h x (by simp [hx])⟩
theorem fo_size {y r : EX} (h : FO y r) : sizeE r ≤ sizeE y ∧ depthE r ≤ depthE y := by
  cases h with
  | same => omega
  | truth b _ h1 h2 _ => rw [size_truth, depth_truth]; omega
  | arg a h _ =>
    obtain ⟨o, v, i, l⟩ := y
    have h1 := size_mem h
    have h2 := depth_mem h
    simp only [EX.args] at h1 h2
    rw [size_node, depth_node]; omega
  | deep b v i h _ =>
    obtain ⟨o, v', i', l⟩ := y
    simp only [EX.args] at h
    subst h
    have := depthL_nn []
    have := sizeL_nn []
    rw [size_node, depth_node, sizeL, sizeL, depthL, depthL, size_node, depth_node, sizeL, sizeL, depthL, depthL]
    omega
  | const c h _ =>
    obtain ⟨o, v', i', l⟩ := y
    have := depthL_nn l
    rw [size_node 0, depth_node, depth_node, sizeL, depthL]
    omega
theorem fo_clean {y r : EX} (h : FO y r) (hc : cleanE y) : cleanE r := by
  cases h with
  | same => exact hc
  | truth b _ _ _ _ => exact clean_truth b
  | arg a h _ =>
    obtain ⟨o, v, i, l⟩ := y
    rw [cleanE] at hc
    exact clean_mem hc.2.2 h
  | deep b v i h _ =>
    obtain ⟨o, v', i', l⟩ := y
    simp only [EX.args] at h
    subst h
    rw [cleanE] at hc
    have := clean_mem hc.2.2 (e := .node 10 v i [r]) (by simp)
    rw [cleanE] at this
    exact clean_mem this.2.2 (by simp)
  | const c _ _ => rw [cleanE, cleanL]; exact ⟨fun h => absurd rfl h, fun _ => rfl, trivial⟩
theorem fo_val {y r : EX} (h : FO y r) {vs : List Int} (hvs : ∀ q, q ∈ vs → -65536 ≤ q ∧ q ≤ 65536) (hr : RightE vs.length y) {x : Int} (hx : evalE vs y = some x) : evalE vs r = some x := by
  cases h with
  | same => exact hx
  | truth b _ _ _ h => rw [eval_truth, h vs hvs hr x hx]
  | arg a _ h => exact h vs hvs hr x hx
  | deep b v i _ h => exact h vs x hx
  | const c _ h => rw [h vs x hx]; unfold evalE; simp
theorem evalL_fold {vs : List Int} : ∀ {l : List EX} {ns : List Int}, (∀ e, e ∈ l → ∀ x, evalE vs e = some x → evalE vs (foldE e) = some x) → evalL vs l = some ns → evalL vs (foldL l) = some ns
  | [], ns, _, h => by rw [foldL]; exact h
  | a :: l, ns, ih, h => by
    rw [evalL] at h
    cases ha : evalE vs a with
    | none => simp [ha] at h
    | some x =>
      simp only [ha] at h
      cases hl : evalL vs l with
      | none => simp [hl] at h
      | some ms =>
        simp [hl] at h
        subst h
        rw [foldL, evalL, ih a (by simp) x ha, evalL_fold (fun e he => ih e (by simp [he])) hl]; rfl
theorem eval_foldArgs {vs : List Int} {o v i x : Int} {l : List EX} (ih : ∀ e, e ∈ l → ∀ x, evalE vs e = some x → evalE vs (foldE e) = some x) (h : evalE vs (.node o v i l) = some x) : evalE vs (.node o v i (foldL l)) = some x := by
  unfold evalE at h ⊢
  by_cases h0 : o = 0
  · rw [if_pos h0] at h ⊢; exact h
  by_cases h1 : o = 1
  · rw [if_neg h0, if_pos h1] at h ⊢; exact h
  by_cases h13 : o = 13
  · rw [if_neg h0, if_neg h1, if_pos h13] at h ⊢
    match l, h, ih with
    | c :: a :: b :: l, h, ih =>
      simp only at h
      rw [foldL, foldL, foldL]
      simp only
      cases hc : evalE vs c with
      | none => simp [hc] at h
      | some n =>
        rw [hc] at h
        rw [ih c (by simp) n hc]
        simp only at h ⊢
        by_cases hn : n = 1
        · rw [if_pos hn] at h ⊢; exact ih a (by simp) x h
        · rw [if_neg hn] at h ⊢; exact ih b (by simp) x h
    | [], h, _ => simp at h
    | [_], h, _ => simp at h
    | [_, _], h, _ => simp at h
  · rw [if_neg h0, if_neg h1, if_neg h13] at h ⊢
    cases hl : evalL vs l with
    | none => simp [hl] at h
    | some ns =>
      rw [hl] at h
      rw [evalL_fold ih hl]; exact h
structure FoldOK (n : Int) (e : EX) : Prop where
  nf : NfE (foldE e)
  size : sizeE (foldE e) ≤ sizeE e
  depth : depthE (foldE e) ≤ depthE e
  clean : cleanE e → cleanE (foldE e)
  val : ∀ vs : List Int, n = vs.length → (∀ q, q ∈ vs → -65536 ≤ q ∧ q ≤ 65536) → ∀ x, evalE vs e = some x → evalE vs (foldE e) = some x
theorem sizeL_fold : ∀ {l : List EX}, (∀ e, e ∈ l → sizeE (foldE e) ≤ sizeE e ∧ depthE (foldE e) ≤ depthE e) → sizeL (foldL l) ≤ sizeL l ∧ depthL (foldL l) ≤ depthL l
  | [], _ => by rw [foldL]; omega
  | a :: l, h => by
    have h1 := h a (by simp)
    have h2 := sizeL_fold (l := l) fun e he => h e (List.mem_cons_of_mem _ he)
    rw [foldL, sizeL, sizeL, depthL, depthL]; omega
/-- What folding a right expression makes. -/
theorem fold_ok {n : Int} : ∀ e, RightE n e → FoldOK n e := by
  refine EX.ind fun o v i l ih hr => ?_
  have hra := wf_args hr
  have hall := fun e he => ih e he (hra e he)
  have hr2 := (fold_node hr fun e he => foldE_right e (hra e he)).1
  have hfo := foldOp_fo _ hr2
  have hs := sizeL_fold fun e he => ⟨(hall e he).size, (hall e he).depth⟩
  have hsz := fo_size hfo
  rw [size_node, depth_node] at hsz
  constructor
  · rw [foldE]
    exact fo_nf hfo rfl (nfL_all fun e he => by
      simp only [EX.args] at he
      obtain ⟨e', h1, rfl⟩ := foldL_mem he
      exact (hall e' h1).nf)
  · rw [foldE, size_node o]; omega
  · rw [foldE, depth_node o]; omega
  · intro hc
    rw [foldE]
    rw [cleanE] at hc
    refine fo_clean hfo ?_
    rw [cleanE]
    exact ⟨hc.1, hc.2.1, cleanL_all fun e he => by
      obtain ⟨e', h1, rfl⟩ := foldL_mem he
      exact (hall e' h1).clean (clean_mem hc.2.2 h1)⟩
  · intro vs hn hvs x hx
    subst hn
    rw [foldE]
    exact fo_val hfo hvs hr2 (eval_foldArgs (fun e he x hx => (hall e he).val vs rfl hvs x hx) hx)
end Go.Proofs.Ytmclnnpaephkpaa

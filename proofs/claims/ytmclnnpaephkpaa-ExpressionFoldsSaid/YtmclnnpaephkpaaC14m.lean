/-
  What the functions of chapter 14 answer: Fold, size.
-/
import Derived.Test.YtmclnnpaephkpaaC14k
namespace Go.Proofs.Ytmclnnpaephkpaa
set_option linter.unusedVariables false
set_option linter.unusedSimpArgs false
set_option linter.unnecessarySimpa false
set_option linter.unusedSectionVars false
open Go.RowKit

theorem const_val {n : Int} {a : EX} (hr : RightE n a) (h : a.op = 0) : -65536 ≤ a.val ∧ a.val ≤ 65536 := by
  obtain ⟨o, v, i, l⟩ := a
  have := hr.2.1
  rw [rangeE] at this
  have := (largeS_false _ _).1 (this.1 h)
  simp only [EX.val]; omega
theorem app_const {n o v i : Int} {l : List EX} (hr : RightE n (.node o v i l)) (ho : 2 ≤ o ∧ o ≤ 9) (hc : (l.all fun e => e.op == 0) = true) : AppOK o (l.map EX.val) := by
  have hall : ∀ e, e ∈ l → -65536 ≤ e.val ∧ e.val ≤ 65536 := fun e he => const_val (wf_args hr e he) (by simpa using List.all_eq_true.1 hc e he)
  rcases kind_args hr.1 hr.2.2 with ⟨h01, _⟩ | ⟨rfl, a, rfl, _⟩ | ⟨rfl, _⟩ | ⟨h1, a, b, rfl, _⟩ | ⟨h1, a, b, rfl, _⟩ | ⟨h1, a, b, rfl, _⟩ | ⟨rfl, _⟩
  · omega
  · have := hall a (by simp)
    exact .inl ⟨a.val, rfl, .inl rfl, by omega, by omega⟩
  · omega
  · have ha := hall a (by simp)
    have hb := hall b (by simp)
    exact .inr (.inl ⟨a.val, b.val, rfl, by omega, by omega, by omega, by omega, by omega⟩)
  · have ha := hall a (by simp)
    have hb := hall b (by simp)
    exact .inr (.inl ⟨a.val, b.val, rfl, by omega, by omega, by omega, by omega, by omega⟩)
  · omega
  · omega
theorem constE (n : Int) : PV.agg [.int .i64 0, .int .i64 n, .int .i64 0, .sl false 4 []] = encE (.node 0 n 0 []) := by rw [encE_eq, encL]
theorem foldOp_num {o v i : Int} {l : List EX} (ho : 2 ≤ o ∧ o ≤ 9) : foldOp (.node o v i l) = if (l.all fun e => e.op == 0) = true then (if o ≤ 5 then (if largeS (applyS o (l.map EX.val)) 65536 then .node o v i l else .node 0 (applyS o (l.map EX.val)) 0 []) else truthE (applyS o (l.map EX.val) == 1)) else .node o v i l := by
  rw [foldOp, if_neg (by omega), if_neg (by omega), if_neg (by omega), if_neg (by omega), if_neg (by omega)]
theorem l55 {n : Int} (o v i : Int) (l : List EX) (hr : RightE n (.node o v i l)) (ho : 2 ≤ o ∧ o ≤ 9) (hl3 : l.length ≤ 3) :
    ∀ (m k : Nat), k + m = l.length → ((l.take k).all fun e => e.op == 0) = true → g55_L13 o v i (encL l) (encI ((l.take k).map EX.val)) k = Ret (encE (foldOp (.node o v i l)))
  | 0, k, h, hc => by
    rw [List.take_of_length_le (by omega)] at hc ⊢
    have hap := c71 o (l.map EX.val) (app_const hr ho hc)
    have h49 := c49 (applyS o (l.map EX.val)) 65536 (by decide) (by decide)
    have hn : PV.agg [.int .i64 o, .int .i64 v, .int .i64 i, .sl false 4 (encL l)] = encE (.node o v i l) := (encE_eq o v i l).symm
    rw [foldOp_num ho, if_pos hc, g55_L13_eq, decF (by simp; omega), bsel_false, clX_of hap, vI_mk, clX_of h49, vB_mk, hn, constE, clX_of c38, v23_e, mkE, clX_of c40, v23_e, mkE]
    by_cases h5 : o ≤ 5
    · rw [if_pos h5]
      have : o = 2 ∨ o = 3 ∨ o = 4 ∨ o = 5 := by omega
      rcases this with rfl | rfl | rfl | rfl <;> cases largeS (applyS _ (l.map EX.val)) 65536 <;> rfl
    · rw [if_neg h5, show (o == 2) = false by simp; omega, show (o == 3) = false by simp; omega, show (o == 4) = false by simp; omega, show (o == 5) = false by simp; omega]
      simp only [bsel_false]
      cases (applyS o (l.map EX.val) == 1) <;> rfl
  | m + 1, k, h, hc => by
    obtain ⟨y, hy⟩ := get_lt (show k < l.length by omega)
    rw [g55_L13_eq, decT (by simp; omega), bsel_true, lget_encL hy, v23_e]
    by_cases h0 : y.op = 0
    · rw [show (y.op != 0) = false by simpa using h0, bsel_false, chk_of (decT (by simp [LIM]; omega)), wrs (by omega)]
      have := l55 o v i l hr ho hl3 m (k + 1) (by omega) (by rw [take_snoc hy, List.all_append, hc]; simp [h0])
      rw [take_snoc hy, List.map_append, encI_app] at this
      exact this
    · rw [show (y.op != 0) = true by simpa using h0, bsel_true, foldOp_num ho, if_neg, encE_eq]
      intro hall
      exact h0 (by simpa using List.all_eq_true.1 hall y (get_mem hy))
theorem c55 {n : Int} (y : EX) (hr : RightE n y) : SS.CC 55 [encE y] [] = Ret (encE (foldOp y)) := by
  have h75 := c75 y hr
  obtain ⟨o, v, i, l⟩ := y
  have hw := hr.1
  rw [wfE] at hw
  have hl3 := (argsS_le hw.1).2.2
  have hrange : 0 ≤ o ∧ o ≤ 13 := by
    have := hw.1
    unfold argsS at this
    repeat' split at this
    all_goals first | omega | (cases this; done)
  simp only [EX.op] at h75
  by_cases h10 : 10 ≤ o
  · have h75 := h75 h10
    rw [encE_eq] at h75
    rw [encE_eq, g55_eq, show (o == 0) = false by simp; omega, show (o == 1) = false by simp; omega, clX_of h75, v23_e, mkE, bsel_false, bsel_false, bsel_ite, bsel_ite, bsel_ite, bsel_ite]
    by_cases a : o = 10
    · simp [a]
    by_cases b : o = 11
    · simp [b]
    by_cases c : o = 12
    · simp [c]
    · simp [show o = 13 by omega]
  · by_cases h2 : 2 ≤ o
    · have h := l55 o v i l hr ⟨h2, by omega⟩ (by omega) l.length 0 (by omega) (by simp)
      rw [encE_eq, g55_eq, show (o == 0) = false by simp; omega, show (o == 1) = false by simp; omega, show (o == 10) = false by simp; omega, show (o == 11) = false by simp; omega, show (o == 12) = false by simp; omega, show (o == 13) = false by simp; omega]
      simp only [bsel_false]
      exact h
    · have : o = 0 ∨ o = 1 := by omega
      rcases this with rfl | rfl
      · rw [foldOp, if_pos (.inl rfl), encE_eq, g55_eq]; rfl
      · rw [foldOp, if_pos (.inr rfl), encE_eq, g55_eq]; rfl
theorem l54f {n : Int} (o v x : Int) (l : List EX) (hr : RightE n (.node o v x l)) (hl : l.length ≤ 3) (ih : ∀ e, e ∈ l → SS.CC 54 [encE e, .func (.func 55) [] []] [] = Ret (encE (foldE e))) :
    ∀ (m k : Nat), k + m = l.length → g54_L4 (encL l) o v x k (encL (foldL (l.take k))) = Ret (encE (foldE (.node o v x l)))
  | 0, k, h => by
    have hr2 := (fold_node hr fun e he => foldE_right e (wf_args hr e he)).1
    have h55 := c55 _ hr2
    rw [encE_eq] at h55
    rw [g54_L4_eq, decF (by simp; omega), bsel_false, List.take_of_length_le (by omega), clX_of h55, v23_e, mkE, foldE]
  | m + 1, k, h => by
    obtain ⟨y, hy⟩ := get_lt (show k < l.length by omega)
    have hlen := foldL_len (l.take k)
    rw [g54_L4_eq, decT (by simp; omega), bsel_true, lget_encL hy, v23_e, mkE, clX_of (ih y (get_mem hy)), v23_e, mkE, chk_of (decT (by simp at hlen; simp [LIM, hlen]; omega)), wrs (by omega), encL1 (foldE y), ← encL_app]
    have := l54f o v x l hr hl ih m (k + 1) (by omega)
    rw [take_snoc hy, foldL_map, List.map_append, ← foldL_map] at this
    exact this
theorem c54f {n : Int} : ∀ e, RightE n e → SS.CC 54 [encE e, .func (.func 55) [] []] [] = Ret (encE (foldE e)) := by
  refine EX.ind fun o v i l ih hr => ?_
  have hw := hr.1
  rw [wfE] at hw
  have hl3 := (argsS_le hw.1).2.2
  have h := l54f o v i l hr (by omega) (fun e he => ih e he (wf_args hr e he)) l.length 0 (by omega)
  rw [encE_eq, g54_eq]
  rw [List.take_zero, foldL, encL] at h
  exact h
theorem c25 (e : EX) : SS.CC 25 [encE e] [] = Ret (.tuple [encE (foldS e).1, .int .i64 (foldS e).2]) := by
  have h14 := c14 e 16
  have h54 := fun h => c54f (n := 16) e (check_right h).1
  have hz : PV.agg [.int .i64 0, .int .i64 0, .int .i64 0, .sl false 4 []] = encE zeroE := by rw [zeroE, encE_eq, encL]
  unfold foldS
  obtain ⟨o, v, i, l⟩ := e
  rw [encE_eq] at h14 h54
  rw [encE_eq, g25_eq, clX_of h14, w_3_3_mk, hz]
  by_cases h : (checkS (.node o v i l) 16).2 = 0
  · rw [show ((checkS (.node o v i l) 16).2 != 0) = false by simpa using h, bsel_false, if_neg (by simpa using h), clX_of (h54 h), v23_e, mkE]
  · rw [show ((checkS (.node o v i l) 16).2 != 0) = true by simpa using h, bsel_true, if_pos h]
theorem l26 (o v x : Int) (l : List EX) (hl : l.length ≤ 3) (ih : ∀ e, e ∈ l → SS.CC 26 [encE e] [] = Ret (.int .i64 (sizeE e))) :
    ∀ (m k : Nat) (c : Int), k + m = l.length → 0 ≤ c → c + sizeL (l.drop k) ≤ 1000000 → g26_L4 o v x (encL l) c k = Ret (.int .i64 (c + sizeL (l.drop k)))
  | 0, k, c, h, h0, h1 => by
    rw [g26_L4_eq, decF (by simp; omega), bsel_false, List.drop_of_length_le (by omega), sizeL]; simp
  | m + 1, k, c, h, h0, h1 => by
    obtain ⟨y, hy⟩ := get_lt (show k < l.length by omega)
    have hy1 := sizeE_pos y
    have hd := sizeL_nn (l.drop (k + 1))
    rw [drop_cons hy, sizeL] at h1 ⊢
    rw [g26_L4_eq, decT (by simp; omega), bsel_true, lget_encL hy, v23_e, mkE, clX_of (ih y (get_mem hy)), vI_mk, wrs (by omega), wr (by omega) (by omega)]
    have := l26 o v x l hl ih m (k + 1) (c + sizeE y) (by omega) (by omega) (by omega)
    rw [Int.add_assoc] at this
    exact this
theorem c26 : ∀ e, triE e → sizeE e ≤ 1000000 → SS.CC 26 [encE e] [] = Ret (.int .i64 (sizeE e)) := by
  refine EX.ind fun o v i l ih ht hs => ?_
  rw [triE] at ht
  rw [size_node] at hs ⊢
  have := l26 o v i l ht.1 (fun e he => ih e he (triL_mem ht.2 he) (by have := size_mem he; omega)) l.length 0 1 (by omega) (by omega) (by simpa using hs)
  rw [encE_eq, g26_eq]
  simpa using this
end Go.Proofs.Ytmclnnpaephkpaa

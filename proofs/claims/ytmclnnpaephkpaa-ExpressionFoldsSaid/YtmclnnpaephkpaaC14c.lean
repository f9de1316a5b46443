/-
  What the functions of chapter 14 answer: types, and the checks.
-/
import Derived.Test.YtmclnnpaephkpaaC14b
namespace Go.Proofs.Ytmclnnpaephkpaa
set_option linter.unusedVariables false
set_option linter.unusedSimpArgs false
set_option linter.unnecessarySimpa false
set_option linter.unusedSectionVars false
open Go.RowKit

theorem kindL_len : ∀ {l : List EX} {ks : List Int}, kindL l = some ks → ks.length = l.length
  | [], ks, h => by simp [kindL] at h; subst h; rfl
  | e :: l, ks, h => by
    rw [kindL] at h
    split at h
    · cases h
    · cases hk : kindL l with
      | none => rw [hk] at h; cases h
      | some k2 => rw [hk] at h; simp at h; subst h; simp [kindL_len hk]
theorem kindL_snoc : ∀ {l : List EX} {k : Nat} {y : EX} {ks : List Int}, l[k]? = some y → kindL (l.take k) = some ks → kindE y ≠ 0 → kindL (l.take (k + 1)) = some (ks ++ [kindE y])
  | [], k, y, ks, h, _, _ => by simp at h
  | e :: l, 0, y, ks, h, h2, h3 => by
    simp at h; subst h
    simp [kindL] at h2; subst h2
    simp [kindL, h3]
  | e :: l, k + 1, y, ks, h, h2, h3 => by
    rw [List.take_succ_cons, kindL] at h2 ⊢
    split at h2
    · cases h2
    · rename_i he
      rw [if_neg he]
      cases hk : kindL (l.take k) with
      | none => rw [hk] at h2; cases h2
      | some k2 =>
        rw [hk] at h2; simp at h2; subst h2
        rw [kindL_snoc (by simpa using h) hk h3]; rfl
theorem kindL_fail : ∀ {l : List EX} {y : EX}, y ∈ l → kindE y = 0 → kindL l = none
  | e :: l, y, h, h2 => by
    rw [kindL]
    rcases List.mem_cons.1 h with rfl | h
    · rw [if_pos h2]
    · split
      · rfl
      · rw [kindL_fail h h2]; rfl
theorem c67 (a k : Int) : SS.CC 67 [.int .i64 a, .cst (.int .i64 k)] [] = Ret (.bool (a != k)) := g67_eq a k
theorem l70k (q : Int) (vs : List Int) (hv : vs.length ≤ lenMax) : ∀ (m k : Nat), k + m = vs.length → g70_1i_L3 (encI vs) q k = Ret (.int .i64 (match (vs.drop k).findIdx? (fun n => n != q) with | some j => ((k + j : Nat) : Int) | none => -1))
  | 0, k, h => by
    rw [g70_1i_L3_eq, decF (by simp; omega), bsel_false, List.drop_of_length_le (by omega)]; rfl
  | m + 1, k, h => by
    obtain ⟨y, hy⟩ := get_lt (show k < vs.length by omega)
    unfold lenMax at hv
    rw [g70_1i_L3_eq, decT (by simp; omega), bsel_true, lget_encI hy, vI_mk, clX_of (c67 y q), vB_mk, drop_cons hy, List.findIdx?_cons, wrs (by omega), l70k q vs hv m (k + 1) (by omega)]
    cases hl : y != q
    · simp only [bsel_false, Bool.false_eq_true, if_false]
      cases (vs.drop (k + 1)).findIdx? (fun n => n != q) with
      | none => rfl
      | some j => simp; omega
    · rfl
theorem c47k (vs : List Int) (q : Int) (hv : vs.length ≤ lenMax) : SS.CC 47 [.sl false 1 (encI vs), .func (.func 67) [] [.cst (.int .i64 q)]] [] = Ret (.bool (vs.any fun n => n != q)) := by
  rw [g47_1i_eq, clX_of (r := .int .i64 _) (by rw [g70_1i_eq]; exact l70k q vs hv vs.length 0 (by omega))]
  simp only [vI_mk, List.drop_zero]
  cases h : vs.findIdx? (fun n => n != q) with
  | none =>
    have : vs.any (fun n => n != q) = false := by
      rw [List.findIdx?_eq_none_iff] at h
      simpa using h
    rw [this]; rfl
  | some j =>
    have : vs.any (fun n => n != q) = true := by
      have := List.findIdx?_isSome (xs := vs) (p := fun n => n != q)
      rw [h] at this; simpa using this.symm
    rw [this]; simp
theorem any_all (vs : List Int) (q : Int) : (!(vs.any fun n => n != q)) = vs.all (· == q) := by
  induction vs with
  | nil => rfl
  | cons a l ih => rw [List.any_cons, List.all_cons, Bool.not_or, ih]; simp [bne]
theorem c66 (vs : List Int) (q : Int) (hv : vs.length ≤ lenMax) : SS.CC 66 [.int .i64 q, .ptr 0 0] [some [.sl true 1 (encI vs)]] = some (.bool (vs.all (· == q)), [some [.sl true 1 (encI vs)]]) := by
  rw [g66_eq, clX_of (c47k vs q hv), vB_mk, any_all]
theorem kindOp_at {o : Int} {l : List EX} {ks : List Int} (hw : argsS o = some (l.length : Int)) (hl : ks.length = l.length) : (o = 13 → ∃ a b c, ks = [a, b, c]) ∧ 0 ≤ o ∧ o ≤ 13 ∧ (o = 0 ∨ o = 1 → ks = []) := by
  have h := argsS_at hw
  refine ⟨fun e => ?_, h.1, h.2.1, fun e => ?_⟩
  · obtain ⟨a, b, c, rfl⟩ := h.2.2.2.2.1 e
    match ks, hl with
    | [x, y, z], _ => exact ⟨x, y, z, rfl⟩
  · have := h.2.2.1 e
    subst this
    exact List.eq_nil_of_length_eq_zero (by simpa using hl)
theorem l43 (o v i : Int) (l : List EX) (hw : wfE (.node o v i l)) (ih : ∀ e, e ∈ l → SS.CC 43 [encE e] [] = Ret (.int .i64 (kindE e))) :
    ∀ (m k : Nat) (ks : List Int), k + m = l.length → kindL (l.take k) = some ks → g43_L4 o v i (encL l) k (encI ks) = Ret (.int .i64 (kindE (.node o v i l)))
  | 0, k, ks, h, hk => by
    rw [List.take_of_length_le (by omega)] at hk
    rw [wfE] at hw
    have hkl := kindL_len hk
    obtain ⟨p1, p2, p3, p4⟩ := kindOp_at hw.1 hkl
    have hl3 := (argsS_le hw.1).2.2
    have hv : ks.length ≤ lenMax := by unfold lenMax; omega
    rw [g43_L4_eq, decF (by simp; omega), bsel_false, kindE, hk]
    simp only [clH_of (c66 ks _ hv), h66_0_mk]
    have hb : ∀ (b : Bool) (x : Int), bsel b (Ret (.int .i64 x)) (Ret (.int .i64 0)) = Ret (.int .i64 (if b = true then x else 0)) := fun b x => by cases b <;> rfl
    simp only [hb]
    have h : o = 0 ∨ o = 1 ∨ o = 2 ∨ o = 3 ∨ o = 4 ∨ o = 5 ∨ o = 6 ∨ o = 7 ∨ o = 8 ∨ o = 9 ∨ o = 10 ∨ o = 11 ∨ o = 12 ∨ o = 13 := by omega
    rcases h with rfl | rfl | rfl | rfl | rfl | rfl | rfl | rfl | rfl | rfl | rfl | rfl | rfl | rfl
    case inr.inr.inr.inr.inr.inr.inr.inr.inr.inr.inr.inr.inr =>
      obtain ⟨a, b, c, rfl⟩ := p1 rfl
      have e0 : ∀ K, lgetX (encI [a, b, c]) 0 K = K (.int .i64 a) := fun K => lgetX_of (by decide) rfl
      have e1 : ∀ K, lgetX (encI [a, b, c]) 1 K = K (.int .i64 b) := fun K => lgetX_of (by decide) rfl
      have e2 : ∀ K, lgetX (encI [a, b, c]) 2 K = K (.int .i64 c) := fun K => lgetX_of (by decide) rfl
      simp only [e0, e1, e2, vI_mk, kindOp]
      by_cases h1 : a = 2 <;> by_cases h2 : b = c <;> simp [h1, h2, bsel_ite]
    case inl => rw [p4 (.inl rfl)]; simp [kindOp]
    case inr.inl => rw [p4 (.inr rfl)]; simp [kindOp]
    all_goals simp [kindOp]
  | m + 1, k, ks, h, hk => by
    obtain ⟨y, hy⟩ := get_lt (show k < l.length by omega)
    have hl3 := (argsS_le (by rw [wfE] at hw; exact hw.1)).2.2
    have hks := kindL_len hk
    have hi := ih y (get_mem hy)
    rw [g43_L4_eq, decT (by simp; omega), bsel_true, lget_encL hy]
    by_cases hz : kindE y = 0
    · rw [show kindE (.node o v i l) = 0 by rw [kindE, kindL_fail (get_mem hy) hz]]
      obtain ⟨o', v', i', l'⟩ := y
      rw [encE_eq] at hi
      rw [v23_enc, clX_of hi, vI_mk, hz]; rfl
    · have hsn := kindL_snoc hy hk hz
      obtain ⟨o', v', i', l'⟩ := y
      rw [encE_eq] at hi
      rw [v23_enc, clX_of hi, vI_mk, show (kindE (.node o' v' i' l') == 0) = false by simpa using hz, bsel_false, chk_of (decT (by simp at hks; simp [LIM]; omega)), wrs (by omega)]
      have := l43 o v i l hw ih m (k + 1) _ (by omega) hsn
      rw [encI_app] at this
      exact this
theorem c43 : ∀ e, wfE e → SS.CC 43 [encE e] [] = Ret (.int .i64 (kindE e)) := by
  refine EX.ind fun o v i l ih hw => ?_
  rw [encE_eq, g43_eq]
  exact l43 o v i l hw (fun e he => ih e he (wfL_mem (by rw [wfE] at hw; exact hw.2) he)) l.length 0 [] (by omega) (by simp [kindL])
theorem c14 (e : EX) (n : Int) : SS.CC 14 [encE e, .int .i64 n] [] = Ret (T2 (checkS e n).1 (checkS e n).2) := by
  have h42 := c42 e n 1 0 (by omega) (by omega) (by omega) (by omega)
  have h43 := c43 e
  have hwf := formedE_wf e n 1 0
  obtain ⟨o, v, i, l⟩ := e
  rw [encE_eq] at *
  rw [g14_eq, checkS]
  by_cases h1 : n < 0
  · simp [h1]
  by_cases h2 : 16 < n
  · simp [h1, h2, bsel_ite]
  rw [decF h1, bsel_false, decF h2, bsel_false, clH_of h42, h42_0_mk, if_neg (by omega)]
  by_cases h3 : (formedE (.node o v i l) n 1 0).1 = 0
  · rw [if_neg (by simpa using h3), clX_of (h43 (hwf h3)), vI_mk, h3]
    by_cases h4 : kindE (.node o v i l) = 0
    · simp [h4]
    · simp [h4, bsel_ite]
  · rw [if_pos (by simpa using h3), show ((formedE (.node o v i l) n 1 0).1 != 0) = true by simpa using h3, bsel_true]
end Go.Proofs.Ytmclnnpaephkpaa

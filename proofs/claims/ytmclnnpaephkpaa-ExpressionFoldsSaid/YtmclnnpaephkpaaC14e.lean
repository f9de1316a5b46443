/-
  What the functions of chapter 14 answer: the statements' own checks; Evaluate.
-/
import Derived.Test.YtmclnnpaephkpaaC14d
namespace Go.Proofs.Ytmclnnpaephkpaa
set_option linter.unusedVariables false
set_option linter.unusedSimpArgs false
set_option linter.unnecessarySimpa false
set_option linter.unusedSectionVars false
open Go.RowKit

/-- The reference counts down. -/
def Form (e : EX) (n lev c : Int) : Prop := ∃ q, SS.CC 44 [encE e, .int .i64 n, .int .i64 lev, .ptr 0 0] [some [.int .i64 (64 - c)]] = OK1 (formedE e n lev c).1 q ∧ ((formedE e n lev c).1 = 0 → q = 64 - (formedE e n lev c).2)
theorem l44 (n lev o v i : Int) (hlev : 0 ≤ lev ∧ lev ≤ 8) (l : List EX) (hl : l.length ≤ 3) (ih : ∀ e, e ∈ l → ∀ c, 0 ≤ c → c ≤ 64 → Form e n (lev + 1) c) :
    ∀ (m k : Nat) (c : Int), k + m = l.length → 0 ≤ c → c ≤ 64 → ∃ q, g44_L14 n lev o v i (encL l) (64 - c) k = OK1 (formedL (l.drop k) n (lev + 1) c).1 q ∧ ((formedL (l.drop k) n (lev + 1) c).1 = 0 → q = 64 - (formedL (l.drop k) n (lev + 1) c).2)
  | 0, k, c, h, h0, h1 => by
    refine ⟨64 - c, ?_, fun _ => by rw [List.drop_of_length_le (by omega), formedL]⟩
    rw [g44_L14_eq, decF (by simp; omega), bsel_false, List.drop_of_length_le (by omega)]; rfl
  | m + 1, k, c, h, h0, h1 => by
    obtain ⟨y, hy⟩ := get_lt (show k < l.length by omega)
    rw [g44_L14_eq, decT (by simp; omega), bsel_true, lget_encL hy]
    obtain ⟨q, hi, hq⟩ := ih y (get_mem hy) c h0 h1
    have hc := formedE_cnt y n (lev + 1) c h0 h1
    rw [drop_cons hy, formedL]
    obtain ⟨o', v', i', l'⟩ := y
    rw [encE_eq] at hi
    rw [v23_enc, wr (by omega) (by omega), clH_of hi, h44_0_mk, wrs (by omega), bsel_ite]
    by_cases hz : (formedE (.node o' v' i' l') n (lev + 1) c).1 = 0
    · rw [if_pos hz, if_neg (by simpa using hz), hq hz]
      exact l44 n lev o v i hlev l hl ih m (k + 1) _ (by omega) hc.1 hc.2
    · rw [if_neg hz, if_pos (by simpa using hz)]
      exact ⟨q, rfl, hq⟩
theorem c44 : ∀ (e : EX) (n lev c : Int), 0 ≤ lev → lev ≤ 9 → 0 ≤ c → c ≤ 64 → Form e n lev c := by
  refine EX.ind fun o v i l ih n lev c h0 h1 h2 h3 => ?_
  unfold Form
  rw [encE_eq, g44_eq, formedE_eq]
  by_cases hc : c = 64
  · exact ⟨0, by simp [hc], fun h => by simp [hc] at h⟩
  by_cases hl : 8 < lev
  · exact ⟨64 - c, by simp [show ¬ (64 - c = 0) by omega, hl, bsel_ite], fun h => by simp [hl] at h⟩
  rw [show (64 - c == 0) = false by simp; omega, bsel_false, decF hl, bsel_false, if_neg (by omega)]
  by_cases hr : 0 ≤ o ∧ o ≤ 13
  · rw [decF (by omega), bsel_false, decF (by omega), bsel_false, clX_of (c68 o hr), vI_mk]
    obtain ⟨w, ha⟩ : ∃ w, argsS o = some w := by
      unfold argsS
      split
      · exact ⟨_, rfl⟩
      · split
        · exact ⟨_, rfl⟩
        · split
          · exact ⟨_, rfl⟩
          · rw [if_pos (by omega)]; exact ⟨_, rfl⟩
    have hw := argsS_le ha
    simp only [ha, Option.getD_some, encL_length]
    by_cases hlen : (l.length : Int) = w
    · obtain ⟨q, hJ, hq⟩ : ∃ q, g44_J12 n lev o v i (encL l) (64 - c) = OK1 (formedL l n (lev + 1) (c + 1)).1 q ∧ ((formedL l n (lev + 1) (c + 1)).1 = 0 → q = 64 - (formedL l n (lev + 1) (c + 1)).2) := by
        have := l44 n lev o v i ⟨h0, by omega⟩ l (by omega) (fun e he c' a b => ih e he n (lev + 1) c' (by omega) (by omega) a b) l.length 0 (c + 1) (by omega) (by omega) (by omega)
        rw [g44_J12_eq, wr (by omega) (by omega), show 64 - c - 1 = 64 - (c + 1) by omega]; simpa using this
      rw [show ((l.length : Int) != w) = false by simpa using hlen, bsel_false, if_neg (by omega)]
      simp only [hJ, clX_of (c19 v 65536 (by omega) (by omega)), vB_mk]
      refine ⟨if restS o v i n ≠ 0 then 64 - c else q, ?_, fun h => ?_⟩
      · unfold restS
        have hlv : o ≠ 0 → v = 0 → largeS v 65536 = false := fun _ e => by subst e; decide
        by_cases a1 : o = 0 <;> by_cases a2 : v = 0 <;> by_cases a3 : o = 1 <;> by_cases a4 : i = 0 <;> by_cases a5 : i < 0 <;> by_cases a6 : n ≤ i <;> cases a7 : largeS v 65536 <;>
          (first | (exfalso; omega) | (exfalso; have hx := hlv a1 a2; rw [a7] at hx; cases hx; done) | (simp [bsel_ite, a1, a2, a3, a4, a5, a6, a7]; done) | (subst a1; simp [bsel_ite, a2, a3, a4, a5, a6, a7]; done) | (subst a3; simp [bsel_ite, a1, a2, a4, a5, a6, a7]; done) | (subst a3; subst a4; simp [bsel_ite, a2, a6, a7]; done))
      · by_cases hz : restS o v i n = 0
        · simp only [hz, ne_eq, not_true, if_false] at h ⊢; exact hq h
        · simp only [if_pos hz] at h; exact absurd h hz
    · rw [show ((l.length : Int) != w) = true by simpa using hlen, bsel_true, if_pos hlen]
      exact ⟨_, rfl, fun h => by simp at h⟩
  · have ha : argsS o = none := by unfold argsS; rw [if_neg (by omega), if_neg (by omega), if_neg (by omega), if_neg (by omega)]
    rw [ha]
    refine ⟨64 - c, ?_, fun h => by simp at h⟩
    by_cases h : o < 0
    · rw [decT h]; rfl
    · rw [decF h, bsel_false, decT (by omega)]; rfl
theorem l30b (q r : Int) (ks : List Int) (hk : ks.length ≤ 3) : ∀ (m k : Nat), k + m = ks.length → g30_L20 q r (encI ks) k = Ret (.int .i64 (if (ks.drop k).all (· == q) then r else 0))
  | 0, k, h => by
    rw [g30_L20_eq, decF (by simp; omega), bsel_false, List.drop_of_length_le (by omega)]; rfl
  | m + 1, k, h => by
    obtain ⟨y, hy⟩ := get_lt (show k < ks.length by omega)
    rw [g30_L20_eq, decT (by simp; omega), bsel_true, lget_encI hy, vI_mk, drop_cons hy, wrs (by omega), l30b q r ks hk m (k + 1) (by omega), List.all_cons]
    by_cases e : y = q <;> simp [e, bsel_ite]
theorem l30 (o v i : Int) (l : List EX) (hw : wfE (.node o v i l)) (ih : ∀ e, e ∈ l → SS.CC 30 [encE e] [] = Ret (.int .i64 (kindE e))) :
    ∀ (m k : Nat) (ks : List Int), k + m = l.length → kindL (l.take k) = some ks → g30_L4 o v i (encL l) (encI ks) k = Ret (.int .i64 (kindE (.node o v i l)))
  | 0, k, ks, h, hk => by
    rw [List.take_of_length_le (by omega)] at hk
    rw [wfE] at hw
    have hkl := kindL_len hk
    obtain ⟨p1, p2, p3, p4⟩ := kindOp_at hw.1 hkl
    have hl3 := (argsS_le hw.1).2.2
    have hb := fun q r => l30b q r ks (by omega) ks.length 0 (by omega)
    simp only [List.drop_zero] at hb
    have hb : ∀ q r : Int, g30_J19 q r (encI ks) = Ret (.int .i64 (if ks.all (· == q) then r else 0)) := fun q r => by rw [g30_J19_eq]; exact hb q r
    rw [g30_L4_eq, decF (by simp; omega), bsel_false, kindE, hk]
    simp only [hb]
    have h : o = 0 ∨ o = 1 ∨ o = 2 ∨ o = 3 ∨ o = 4 ∨ o = 5 ∨ o = 6 ∨ o = 7 ∨ o = 8 ∨ o = 9 ∨ o = 10 ∨ o = 11 ∨ o = 12 ∨ o = 13 := by omega
    rcases h with rfl | rfl | rfl | rfl | rfl | rfl | rfl | rfl | rfl | rfl | rfl | rfl | rfl | rfl
    case inr.inr.inr.inr.inr.inr.inr.inr.inr.inr.inr.inr.inr =>
      obtain ⟨a, b, c, rfl⟩ := p1 rfl
      have e0 : ∀ K, lgetX (encI [a, b, c]) 0 K = K (.int .i64 a) := fun K => lgetX_of (by decide) rfl
      have e1 : ∀ K, lgetX (encI [a, b, c]) 1 K = K (.int .i64 b) := fun K => lgetX_of (by decide) rfl
      have e2 : ∀ K, lgetX (encI [a, b, c]) 2 K = K (.int .i64 c) := fun K => lgetX_of (by decide) rfl
      simp only [e0, e1, e2, vI_mk, kindOp]
      by_cases h1 : a = 2 <;> by_cases h2 : b = c <;> simp [h1, h2, bsel_ite]
    all_goals simp [kindOp]
  | m + 1, k, ks, h, hk => by
    obtain ⟨y, hy⟩ := get_lt (show k < l.length by omega)
    have hl3 := (argsS_le (by rw [wfE] at hw; exact hw.1)).2.2
    have hks := kindL_len hk
    have hi := ih y (get_mem hy)
    rw [g30_L4_eq, decT (by simp; omega), bsel_true, lget_encL hy]
    by_cases hz : kindE y = 0
    · rw [show kindE (.node o v i l) = 0 by rw [kindE, kindL_fail (get_mem hy) hz]]
      obtain ⟨o', v', i', l'⟩ := y
      rw [encE_eq] at hi
      rw [v23_enc, clX_of hi, vI_mk, hz]; rfl
    · have hsn := kindL_snoc hy hk hz
      obtain ⟨o', v', i', l'⟩ := y
      rw [encE_eq] at hi
      rw [v23_enc, clX_of hi, vI_mk, show (kindE (.node o' v' i' l') == 0) = false by simpa using hz, bsel_false, chk_of (decT (by simp at hks; simp [LIM]; omega)), wrs (by omega)]
      have := l30 o v i l hw ih m (k + 1) _ (by omega) hsn
      rw [encI_app] at this
      exact this
theorem c30 : ∀ e, wfE e → SS.CC 30 [encE e] [] = Ret (.int .i64 (kindE e)) := by
  refine EX.ind fun o v i l ih hw => ?_
  rw [encE_eq, g30_eq]
  exact l30 o v i l hw (fun e he => ih e he (wfL_mem (by rw [wfE] at hw; exact hw.2) he)) l.length 0 [] (by omega) (by simp [kindL])
theorem c15 (e : EX) (n : Int) : SS.CC 15 [encE e, .int .i64 n] [] = Ret (T2 (checkS e n).1 (checkS e n).2) := by
  obtain ⟨q, h44, _⟩ := c44 e n 1 0 (by omega) (by omega) (by omega) (by omega)
  rw [show (64 - 0 : Int) = 64 from rfl] at h44
  have h30 := c30 e
  have hwf := formedE_wf e n 1 0
  obtain ⟨o, v, i, l⟩ := e
  rw [encE_eq] at *
  rw [g15_eq, checkS]
  by_cases h1 : n < 0
  · simp [h1]
  by_cases h2 : 16 < n
  · simp [h1, h2, bsel_ite]
  rw [decF h1, bsel_false, decF h2, bsel_false, clH_of h44, h44_0_mk, if_neg (by omega)]
  by_cases h3 : (formedE (.node o v i l) n 1 0).1 = 0
  · rw [if_neg (by simpa using h3), clX_of (h30 (hwf h3)), vI_mk, h3]
    by_cases h4 : kindE (.node o v i l) = 0
    · simp [h4]
    · simp [h4, bsel_ite]
  · rw [if_pos (by simpa using h3), show ((formedE (.node o v i l) n 1 0).1 != 0) = true by simpa using h3, bsel_true]
theorem check_right {e : EX} {n : Int} (h : (checkS e n).2 = 0) : RightE n e ∧ 0 ≤ n ∧ n ≤ 16 := by
  obtain ⟨a, b, c, d, f, _⟩ := check_ok h
  exact ⟨⟨c, d, f⟩, a, b⟩
theorem any_ok {vs : List Int} (h : (vs.any fun n => largeS n 65536) = false) : VsOK vs := fun q hq => by
  have := List.any_eq_false.1 h q hq
  rw [Bool.not_eq_true, largeS_false] at this; omega
theorem c20 (e : EX) (vs : List Int) (hv : vs.length ≤ lenMax) : SS.CC 20 [encE e, .sl false 1 (encI vs)] [] = Ret (T2 (evaluateS e vs).1 (evaluateS e vs).2) := by
  have h14 := c14 e vs.length
  have h50 := fun h => c50 vs h e
  unfold evaluateS
  have hr := fun h => (check_right (e := e) (n := vs.length) h).1
  generalize hco : (checkS e vs.length) = co at *
  have hE : EvV vs e = EvV vs e := rfl
  generalize hq : evQ vs e = Q at *
  generalize hs : evalE vs e = V at *
  obtain ⟨o, v, i, l⟩ := e
  rw [encE_eq] at *
  rw [g20_eq, encI_length, clX_of h14, w_3_3_mk]
  by_cases h1 : co.2 = 0
  · rw [if_neg (by simpa using h1), h1, show ((0 : Int) != 0) = false by decide, bsel_false, clX_of (c47 vs hv), vB_mk]
    cases h2 : vs.any fun n => largeS n 65536
    · have h5 := h50 (any_ok h2) (hr h1)
      simp only [EvV, hq, hs] at h5
      rw [bsel_false, clX_of h5, w_3_4_mk]
      cases V with
      | none => rfl
      | some x => have := evQ_some vs _ x hs; rw [hq] at this; subst this; rfl
    · simp
  · rw [if_pos (by simpa using h1), show (co.2 != 0) = true by simpa using h1, bsel_true]
end Go.Proofs.Ytmclnnpaephkpaa

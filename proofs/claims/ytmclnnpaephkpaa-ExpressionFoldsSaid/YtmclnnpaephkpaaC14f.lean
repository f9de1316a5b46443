/-
  What the functions of chapter 14 answer: few, small.
-/
import Derived.Test.YtmclnnpaephkpaaC14e
namespace Go.Proofs.Ytmclnnpaephkpaa
set_option linter.unusedVariables false
set_option linter.unusedSimpArgs false
set_option linter.unnecessarySimpa false
set_option linter.unusedSectionVars false
open Go.RowKit

theorem fewE_bd : ∀ (e : EX) (level c : Int), 0 ≤ c → c ≤ 80 → 0 ≤ (fewE e level c).2 ∧ (fewE e level c).2 ≤ 80 := by
  refine EX.ind fun o v i l ih level c h0 h1 => ?_
  rw [fewE]
  split
  · exact ⟨h0, h1⟩
  · have key : ∀ (l : List EX), (∀ e, e ∈ l → ∀ level c, 0 ≤ c → c ≤ 80 → 0 ≤ (fewE e level c).2 ∧ (fewE e level c).2 ≤ 80) → ∀ level c, 0 ≤ c → c ≤ 80 → 0 ≤ (fewL l level c).2 ∧ (fewL l level c).2 ≤ 80 := by
      intro l
      induction l with
      | nil => intro _ _ c h0 h1; rw [fewL]; exact ⟨h0, h1⟩
      | cons e l hl =>
        intro ih level c h0 h1
        have h := ih e (by simp) level c h0 h1
        rw [fewL]
        split
        · exact hl (fun e he => ih e (by simp [he])) level _ h.1 h.2
        · exact h
    exact key l ih (level + 1) (c - 1) (by omega) (by omega)
abbrev Few (e : EX) (lev c : Int) : Prop := SS.CC 41 [encE e, .int .i64 lev, .ptr 0 0] [some [.int .i64 c]] = some (.bool (fewE e lev c).1, [some [.int .i64 (fewE e lev c).2]])
theorem l41 (lev o v i : Int) (hlev : 0 ≤ lev ∧ lev ≤ 10) (l : List EX) (hl : l.length ≤ 4) (ih : ∀ e, e ∈ l → ∀ c, 0 ≤ c → c ≤ 80 → Few e (lev + 1) c) :
    ∀ (m k : Nat) (c : Int), k + m = l.length → 0 ≤ c → c ≤ 80 → g41_L6 lev o v i (encL l) c k = some (.bool (fewL (l.drop k) (lev + 1) c).1, [some [.int .i64 (fewL (l.drop k) (lev + 1) c).2]])
  | 0, k, c, h, h0, h1 => by
    rw [g41_L6_eq, decF (by simp; omega), bsel_false, List.drop_of_length_le (by omega), fewL]
  | m + 1, k, c, h, h0, h1 => by
    obtain ⟨y, hy⟩ := get_lt (show k < l.length by omega)
    rw [g41_L6_eq, decT (by simp; omega), bsel_true, lget_encL hy]
    have hi : Few y (lev + 1) c := ih y (get_mem hy) c h0 h1
    have hc := fewE_bd y (lev + 1) c h0 h1
    rw [drop_cons hy, fewL]
    obtain ⟨o', v', i', l'⟩ := y
    unfold Few at hi
    rw [encE_eq] at hi
    rw [v23_enc, wr (by omega) (by omega), clH_of hi, h41_0_mk, wrs (by omega), bsel_ite]
    cases hz : (fewE (.node o' v' i' l') (lev + 1) c).1 with
    | true =>
      simp only [Bool.not_true, if_true, Bool.false_eq_true, if_false]
      exact l41 lev o v i hlev l hl ih m (k + 1) _ (by omega) hc.1 hc.2
    | false =>
      simp [hz]
theorem c41 : ∀ (e : EX) (lev c : Int), 0 ≤ lev → lev ≤ 11 → 0 ≤ c → c ≤ 80 → Few e lev c := by
  refine EX.ind fun o v i l ih lev c h0 h1 h2 h3 => ?_
  unfold Few
  rw [encE_eq, g41_eq, fewE]
  by_cases hc : c = 0
  · simp [hc]
  by_cases hl : 10 < lev
  · simp [hc, hl, bsel_ite]
  by_cases h4 : 4 < l.length
  · rw [if_pos (by omega)]; simp [h4, bsel_ite]; intros; omega
  rw [show (c == 0) = false by simp; omega, bsel_false, decF hl, bsel_false, decF (by simp; omega), bsel_false, if_neg (by omega), wr (by omega) (by omega)]
  have := l41 lev o v i ⟨h0, by omega⟩ l (by omega) (fun e he c' a b => ih e he (lev + 1) c' (by omega) (by omega) a b) l.length 0 (c - 1) (by omega) (by omega) (by omega)
  simpa using this
theorem c13 (e : EX) : SS.CC 13 [encE e] [] = Ret (.bool (smallE e)) := by
  have h : Few e 1 80 := c41 e 1 80 (by decide) (by decide) (by decide) (by decide)
  unfold Few at h
  obtain ⟨o, v, i, l⟩ := e
  rw [encE_eq] at h
  rw [encE_eq, g13_eq, clH_of h, h41_0_mk]
  rfl
end Go.Proofs.Ytmclnnpaephkpaa

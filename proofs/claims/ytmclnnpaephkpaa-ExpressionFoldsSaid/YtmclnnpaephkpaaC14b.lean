/-
  What the functions of chapter 14 answer: form and types.
-/
import Derived.Test.YtmclnnpaephkpaaC14a
import Derived.Test.YtmclnnpaephkpaaPL14
namespace Go.Proofs.Ytmclnnpaephkpaa
set_option linter.unusedVariables false
set_option linter.unusedSimpArgs false
set_option linter.unnecessarySimpa false
set_option linter.unusedSectionVars false
open Go.RowKit

theorem c65 (o : Int) : SS.CC 65 [.int .i64 o] [] = Ret (.tuple [.int .i64 ((argsS o).getD 0), .bool (argsS o).isSome]) := by
  rw [g65_eq]
  by_cases h : o = 0 ∨ o = 1 ∨ o = 2 ∨ o = 3 ∨ o = 4 ∨ o = 5 ∨ o = 6 ∨ o = 7 ∨ o = 8 ∨ o = 9 ∨ o = 10 ∨ o = 11 ∨ o = 12 ∨ o = 13
  · rcases h with rfl | rfl | rfl | rfl | rfl | rfl | rfl | rfl | rfl | rfl | rfl | rfl | rfl | rfl <;> simp [argsS]
  · simp only [not_or] at h
    obtain ⟨h0, h1, h2, h3, h4, h5, h6, h7, h8, h9, h10, h11, h12, h13⟩ := h
    have : argsS o = none := by
      unfold argsS
      rw [if_neg (by omega), if_neg (by omega), if_neg (by omega), if_neg (by omega)]
    simp [this, h0, h1, h2, h3, h4, h5, h6, h7, h8, h9, h10, h11, h12, h13, bsel_ite]
theorem c68 (o : Int) (h : 0 ≤ o ∧ o ≤ 13) : SS.CC 68 [.int .i64 o] [] = Ret (.int .i64 ((argsS o).getD 0)) := by
  rw [g68_eq]
  have h : o = 0 ∨ o = 1 ∨ o = 2 ∨ o = 3 ∨ o = 4 ∨ o = 5 ∨ o = 6 ∨ o = 7 ∨ o = 8 ∨ o = 9 ∨ o = 10 ∨ o = 11 ∨ o = 12 ∨ o = 13 := by omega
  rcases h with rfl | rfl | rfl | rfl | rfl | rfl | rfl | rfl | rfl | rfl | rfl | rfl | rfl | rfl <;> simp [argsS]
theorem argsS_le {o w : Int} (h : argsS o = some w) : 0 ≤ o ∧ o ≤ 13 ∧ w ≤ 3 := by
  unfold argsS at h
  split at h
  · simp at h; omega
  · split at h
    · simp at h; omega
    · split at h
      · simp at h; omega
      · split at h
        · simp at h; omega
        · simp at h
mutual
theorem formedE_cnt : ∀ (e : EX) (n level c : Int), 0 ≤ c → c ≤ 64 → 0 ≤ (formedE e n level c).2 ∧ (formedE e n level c).2 ≤ 64
  | .node o v i l, n, level, c, h0, h1 => by
    rw [formedE]
    split
    · exact ⟨h0, h1⟩
    · split
      · simp; omega
      · split
        · simp; omega
        · split
          · simp; omega
          · split
            · simp; omega
            · exact formedL_cnt l n (level + 1) (c + 1) (by omega) (by omega)
theorem formedL_cnt : ∀ (l : List EX) (n level c : Int), 0 ≤ c → c ≤ 64 → 0 ≤ (formedL l n level c).2 ∧ (formedL l n level c).2 ≤ 64
  | [], _, _, c, h0, h1 => by rw [formedL]; exact ⟨h0, h1⟩
  | e :: l, n, level, c, h0, h1 => by
    rw [formedL]
    have := formedE_cnt e n level c h0 h1
    split
    · exact formedL_cnt l n level _ this.1 this.2
    · exact this
end
/-- What is left of a node's checks behind the number of its arguments. -/
def restS (o v i n : Int) : Int := if (o ≠ 0 ∧ v ≠ 0) ∨ (o ≠ 1 ∧ i ≠ 0) then 6 else if (o = 0 ∧ largeS v 65536 = true) ∨ (o = 1 ∧ (i < 0 ∨ n ≤ i)) then 2 else 0
theorem formedE_eq (o v i : Int) (l : List EX) (n level c : Int) : formedE (.node o v i l) n level c =
    if c = 64 ∨ 8 < level then (3, c) else match argsS o with
    | none => (11, c + 1)
    | some want => if (l.length : Int) ≠ want then (4, c + 1) else if restS o v i n ≠ 0 then (restS o v i n, c + 1) else formedL l n (level + 1) (c + 1) := by
  rw [formedE]
  by_cases hc : c = 64 ∨ 8 < level
  · rw [if_pos hc, if_pos hc]
  · rw [if_neg hc, if_neg hc]
    cases argsS o with
    | none => rfl
    | some w =>
      unfold restS
      simp only
      by_cases h1 : (l.length : Int) ≠ w
      · rw [if_pos h1, if_pos h1]
      · rw [if_neg h1, if_neg h1]
        by_cases h2 : (o ≠ 0 ∧ v ≠ 0) ∨ (o ≠ 1 ∧ i ≠ 0)
        · simp only [if_pos h2]; simp
        · simp only [if_neg h2]
          by_cases h3 : (o = 0 ∧ largeS v 65536 = true) ∨ (o = 1 ∧ (i < 0 ∨ n ≤ i))
          · simp only [if_pos h3]; simp
          · simp only [if_neg h3]; simp
abbrev OK1 (e c : Int) : R := some (.int .i64 e, [some [.int .i64 c]])
theorem l42 (n lev : Int) (hlev : 0 ≤ lev ∧ lev ≤ 8) (l : List EX) (hl : l.length ≤ 3) (ih : ∀ e, e ∈ l → ∀ c, 0 ≤ c → c ≤ 64 → SS.CC 42 [encE e, .int .i64 n, .int .i64 (lev + 1), .ptr 0 0] [some [.int .i64 c]] = OK1 (formedE e n (lev + 1) c).1 (formedE e n (lev + 1) c).2) :
    ∀ (m k : Nat) (c : Int), k + m = l.length → 0 ≤ c → c ≤ 64 → g42_L15 n lev (encL l) c k = OK1 (formedL (l.drop k) n (lev + 1) c).1 (formedL (l.drop k) n (lev + 1) c).2
  | 0, k, c, h, h0, h1 => by
    rw [g42_L15_eq, decF (by simp; omega), bsel_false, List.drop_of_length_le (by omega)]; rfl
  | m + 1, k, c, h, h0, h1 => by
    obtain ⟨y, hy⟩ := get_lt (show k < l.length by omega)
    rw [g42_L15_eq, decT (by simp; omega), bsel_true, lget_encL hy]
    have hi := ih y (get_mem hy) c h0 h1
    have hc := formedE_cnt y n (lev + 1) c h0 h1
    rw [drop_cons hy, formedL]
    obtain ⟨o', v', i', l'⟩ := y
    rw [encE_eq] at hi
    rw [v23_enc, wr (by omega) (by omega), clH_of hi, h42_0_mk, wrs (by omega), bsel_ite]
    by_cases hz : (formedE (.node o' v' i' l') n (lev + 1) c).1 = 0
    · rw [if_pos hz, if_neg (by simpa using hz), l42 n lev hlev l hl ih m (k + 1) _ (by omega) hc.1 hc.2]
    · rw [if_neg hz, if_pos (by simpa using hz)]
theorem c42 : ∀ (e : EX) (n lev c : Int), 0 ≤ lev → lev ≤ 9 → 0 ≤ c → c ≤ 64 → SS.CC 42 [encE e, .int .i64 n, .int .i64 lev, .ptr 0 0] [some [.int .i64 c]] = OK1 (formedE e n lev c).1 (formedE e n lev c).2 := by
  refine EX.ind fun o v i l ih n lev c h0 h1 h2 h3 => ?_
  rw [encE_eq, g42_eq, formedE_eq]
  by_cases hc : c = 64
  · simp [hc]
  by_cases hl : 8 < lev
  · simp [hc, hl, bsel_ite]
  rw [wr (by omega) (by omega), show (c == 64) = false by simpa using hc, bsel_false, decF hl, bsel_false, clX_of (c65 o), w_3_4_mk, if_neg (by omega)]
  cases ha : argsS o with
  | none => simp
  | some w =>
    have hw := argsS_le ha
    simp only [Option.isSome_some, Bool.not_true, bsel_false, Option.getD_some, encL_length]
    by_cases hlen : (l.length : Int) = w
    · have hJ : g42_J14 n lev o v i (encL l) (c + 1) = OK1 (formedL l n (lev + 1) (c + 1)).1 (formedL l n (lev + 1) (c + 1)).2 := by
        have := l42 n lev ⟨h0, by omega⟩ l (by omega) (fun e he c' a b => ih e he n (lev + 1) c' (by omega) (by omega) a b) l.length 0 (c + 1) (by omega) (by omega) (by omega)
        rw [g42_J14_eq]; simpa using this
      rw [show ((l.length : Int) != w) = false by simpa using hlen, bsel_false, if_neg (by omega)]
      simp only [hJ, clX_of (c49 v 65536 (by omega) (by omega)), vB_mk]
      unfold restS
      by_cases a1 : o = 0 <;> by_cases a2 : v = 0 <;> by_cases a3 : o = 1 <;> by_cases a4 : i = 0 <;> by_cases a5 : i < 0 <;> by_cases a6 : n ≤ i <;> cases a7 : largeS v 65536 <;>
        (first | (exfalso; omega) | (simp [bsel_ite, a1, a2, a3, a4, a5, a6, a7]; done) | (subst a1; simp [bsel_ite, a2, a3, a4, a5, a6, a7]; done) | (subst a3; simp [bsel_ite, a1, a2, a4, a5, a6, a7]; done) | (subst a3; subst a4; simp [bsel_ite, a2, a6, a7]; done))
    · rw [show ((l.length : Int) != w) = true by simpa using hlen, bsel_true, if_pos hlen]
end Go.Proofs.Ytmclnnpaephkpaa

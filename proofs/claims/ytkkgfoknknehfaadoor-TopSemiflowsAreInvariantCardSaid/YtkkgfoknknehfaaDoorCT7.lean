/-
  The kernel's elimination: one row, all rows, one pivot.
-/
import Derived.Test.YtkkgfoknknehfaaDoorCT6
namespace Go.Proofs.YtkkgfoknknehfaaDoor.W
set_option linter.unusedVariables false
set_option linter.unusedSimpArgs false
set_option linter.unnecessarySimpa false
set_option linter.unusedSectionVars false
open Go.RowKit
set_option maxRecDepth 100000
set_option maxHeartbeats 1000000
/-- Numbers that cross takes. -/
abbrev Sm (a : Int) : Prop := -3840 ≤ a ∧ a ≤ 3840
section
variable {K m p k : Nat} {st : Nat → Int} {last fr : Int} {A1 : Nat → Nat → Int} {at' : Nat → Int}
/-- A cell after a step. -/
def stp (A1 : Nat → Nat → Int) (p k : Nat) (last : Int) (i d : Nat) : Int := (A1 p k * A1 i d - A1 i k * A1 p d).tdiv last
theorem elimC (hK : K ≤ 5) (hk : k < K) (hm : m ≤ 1000) {j : Nat} (hj : j < m) (hjp : j ≠ p) {B : Nat → Nat → Int} (hB : B j = A1 j) (hA : ∀ d, d < K → Sm (A1 j d)) (hq : ∀ d, d < K → Sm (A1 p d)) (hl : Sm last) (hl0 : last ≠ 0) :
    g54_L35 K m (p : Int) last fr (j : Int) (A1 j k) (k : Int) (mv K st) (rws m B) (mv 10 at') (k : Int) (vR (A1 p)) 0 =
      g54_L30 K m (mv K st) (k : Int) (vR (A1 p)) (rws m fun i d => if i = j ∧ d < K then stp A1 p k last i d else B i d) ((j + 1 : Nat) : Int) (p : Int) last fr (k : Int) (mv 10 at') := by
  have key : ∀ c, c ≤ K → g54_L35 K m (p : Int) last fr (j : Int) (A1 j k) (k : Int) (mv K st) (rws m fun i d => if i = j ∧ d < c then stp A1 p k last i d else B i d) (mv 10 at') (k : Int) (vR (A1 p)) (c : Int) =
      g54_L30 K m (mv K st) (k : Int) (vR (A1 p)) (rws m fun i d => if i = j ∧ d < K then stp A1 p k last i d else B i d) ((j + 1 : Nat) : Int) (p : Int) last fr (k : Int) (mv 10 at') := by
    refine up_to ?_ fun c hc ih => ?_
    · rw [g54_L35_eq, mv_fl, rws_fl, mv_fl, decF (by omega), bsel_false, wrs (by omega)]; rfl
    · rw [g54_L35_eq, mv_fl, rws_fl, mv_fl, decT (by omega), bsel_true]
      simp only [Bool.and_self, chk_true]
      rw [g54_J36_eq, cells10, in10 (by omega), chk_true, Int.toNat_natCast, show 0 + k * 1 = k by omega, nget_mv (by omega), vI_mk, inB hj, chk_true, in10 (by omega), chk_true, Int.toNat_natCast, Int.toNat_natCast, rws_nget hj (by omega), vI_mk, show 0 + c * 1 = c by omega, nget_mv (by omega), vI_mk]
      rw [if_neg (by omega), hB, G6_of (c68 (hq k hk) (hA c hc) (hA k hk) (hq c hc) hl hl0), chk_true, chk_true, rws_length, decT (by omega), chk_true, rws_set _ _ (by omega), mv_fl, rws_fl, mv_fl, wrs (by omega)]
      simp only [Bool.and_self, chk_true]
      rw [← ih]
      congr 1
      apply rws_congr; intro i hi d hd
      by_cases e : i = j ∧ d = c
      · obtain ⟨rfl, rfl⟩ := e
        rw [if_pos ⟨rfl, rfl⟩, if_pos ⟨rfl, by omega⟩]; rfl
      · rw [if_neg e]
        by_cases e2 : i = j ∧ d < c
        · rw [if_pos e2, if_pos ⟨e2.1, by omega⟩]
        · rw [if_neg e2, if_neg (by omega)]
  have := key 0 (by omega)
  rw [show (fun (i d : Nat) => if i = j ∧ d < 0 then stp A1 p k last i d else B i d) = B from funext fun i => funext fun d => if_neg (by omega)] at this
  exact this
theorem elimR (hK : K ≤ 5) (hk : k < K) (hm : m ≤ 1000) (hp : p < m) (hA : ∀ i, i < m → ∀ d, d < K → Sm (A1 i d)) (hl : Sm last) (hl0 : last ≠ 0) :
    g54_L30 K m (mv K st) (k : Int) (vR (A1 p)) (rws m A1) 0 (p : Int) last fr (k : Int) (mv 10 at') =
      g54_L20b K m (mv K st) (rws m fun i d => if i < m ∧ i ≠ p ∧ d < K then stp A1 p k last i d else A1 i d) fr ((k + 1 : Nat) : Int) ((p + 1 : Nat) : Int) (A1 p k) (mv 10 fun d => if d = k then (p : Int) else at' d) := by
  have key : ∀ j, j ≤ m → g54_L30 K m (mv K st) (k : Int) (vR (A1 p)) (rws m fun i d => if i < j ∧ i ≠ p ∧ d < K then stp A1 p k last i d else A1 i d) (j : Int) (p : Int) last fr (k : Int) (mv 10 at') =
      g54_L20b K m (mv K st) (rws m fun i d => if i < m ∧ i ≠ p ∧ d < K then stp A1 p k last i d else A1 i d) fr ((k + 1 : Nat) : Int) ((p + 1 : Nat) : Int) (A1 p k) (mv 10 fun d => if d = k then (p : Int) else at' d) := by
    refine up_to ?_ fun j hj ih => ?_
    · rw [g54_L30_eq, mv_fl, rws_fl, mv_fl, decF (by omega), bsel_false]
      simp only [Bool.and_self, chk_true]
      rw [g54_J40_eq, cells10, in10 (by omega), chk_true, Int.toNat_natCast, show 0 + k * 1 = k by omega, nget_mv (by omega), vI_mk, chk_true, mv_length, decT (by omega), chk_true, mv_set, mv_fl, rws_fl, mv_fl, wrs (by omega), wrs (by omega)]; rfl
    · rw [g54_L30_eq, mv_fl, rws_fl, mv_fl, decT (by omega), bsel_true]
      simp only [Bool.and_self, chk_true]
      rw [g54_J31_eq]
      by_cases e : j = p
      · rw [show ((j : Int) == (p : Int)) = true from beq_iff_eq.2 (by omega), bsel_true, mv_fl, rws_fl, mv_fl, wrs (by omega), ← ih]
        simp only [Bool.and_self, chk_true]
        congr 1
        apply rws_congr; intro i hi d hd
        by_cases e2 : i < j ∧ i ≠ p ∧ d < K
        · rw [if_pos e2, if_pos (by omega)]
        · rw [if_neg e2, if_neg (by omega)]
      · rw [show ((j : Int) == (p : Int)) = false from beq_eq_false_iff_ne.2 (by omega), bsel_false, mv_fl, rws_fl, mv_fl]
        simp only [Bool.and_self, chk_true]
        rw [g54_J33_eq, inB hj, chk_true, in10 (by omega), chk_true, Int.toNat_natCast, Int.toNat_natCast, rws_nget hj (by omega), vI_mk, if_neg (by omega)]
        refine (elimC hK hk hm hj e (B := fun i d => if i < j ∧ i ≠ p ∧ d < K then stp A1 p k last i d else A1 i d) (funext fun d => if_neg (by omega)) (hA j hj) (hA p hp) hl hl0).trans ?_
        rw [← ih]
        congr 1
        apply rws_congr; intro i hi d hd
        by_cases e2 : i = j ∧ d < K
        · rw [if_pos e2, if_pos (by omega)]
        · rw [if_neg e2]
          by_cases e3 : i < j ∧ i ≠ p ∧ d < K
          · rw [if_pos e3, if_pos (by omega)]
          · rw [if_neg e3, if_neg (by omega)]
  have := key 0 (by omega)
  rw [show (fun (i d : Nat) => if i < 0 ∧ i ≠ p ∧ d < K then stp A1 p k last i d else A1 i d) = A1 from funext fun i => funext fun d => if_neg (by omega)] at this
  exact this
/-- Two rows change places. -/
def swp (A : Nat → Nat → Int) (p i : Nat) : Nat → Nat → Int := fun j => A (if j = p then p + i else if j = p + i then p else j)
theorem pivJ (hK : K ≤ 5) (hk : k < K) (hm : m ≤ 1000) {i : Nat} (hi : p + i < m) {A : Nat → Nat → Int} (hA : ∀ i, i < m → ∀ d, d < K → Sm (A i d)) (hl : Sm last) (hl0 : last ≠ 0) :
    g54_J27b K m (i : Int) (mv K st) (rws m A) (k : Int) (p : Int) last fr (k : Int) (mv 10 at') =
      g54_L20b K m (mv K st) (rws m fun i' d => if i' < m ∧ i' ≠ p ∧ d < K then stp (swp A p i) p k last i' d else swp A p i i' d) fr ((k + 1 : Nat) : Int) ((p + 1 : Nat) : Int) (swp A p i p k) (mv 10 fun d => if d = k then (p : Int) else at' d) := by
  have e2 : (fun i' => if i' = p + i then A p else if i' = p then A (p + i) else A i') = swp A p i := funext fun j => by
    unfold swp
    by_cases h1 : j = p + i
    · rw [if_pos h1]
      by_cases h2 : j = p
      · rw [if_pos h2, ← h1, h2]
      · rw [if_neg h2, if_pos h1]
    · rw [if_neg h1]
      by_cases h2 : j = p
      · rw [if_pos h2, if_pos h2]
      · rw [if_neg h2, if_neg h2, if_neg h1]
  rw [g54_J27b_eq, show IntKind.i64.wrap ((p : Int) + (i : Int)) = ((p + i : Nat) : Int) by rw [wrap64 (by omega) (by omega)]; omega]
  rw [inB hi, chk_true, Int.toNat_natCast, Int.toNat_natCast, rws_length, decT (show (0 + (p + i) * 10) + 10 ≤ m * 10 by omega), chk_true, gv_row A hi, inB (show p < m by omega), chk_true, decT (show (0 + p * 10) + 10 ≤ m * 10 by omega), chk_true, gv_row A (show p < m by omega), cells10, cells10, chk_true, chk_true, rws_setrow A _ (show p < m by omega), chk_true, rws_length, decT (show (0 + (p + i) * 10) + 10 ≤ m * 10 by omega), chk_true, chk_true, rws_setrow _ _ hi]
  rw [show (fun i' => if i' = p + i then A p else (fun i' => if i' = p then A (p + i) else A i') i') = swp A p i from e2]
  rw [rws_length, decT (show (0 + p * 10) + 10 ≤ m * 10 by omega), chk_true, gv_row _ (show p < m by omega)]
  refine elimR hK hk hm (by omega) (fun j hj d hd => ?_) hl hl0
  unfold swp
  exact hA _ (by split; exact hi; split; omega; exact hj) d hd
end
end Go.Proofs.YtkkgfoknknehfaaDoor.W

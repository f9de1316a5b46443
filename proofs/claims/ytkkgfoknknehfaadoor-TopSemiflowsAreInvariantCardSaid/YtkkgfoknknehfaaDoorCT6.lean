/-
  Rows of ten cells side by side; gcd, magnitudes, the product's contract; the first row with a pivot.
-/
import Derived.Test.YtkkgfoknknehfaaDoorCT5
import Derived.Test.YtkkgfoknknehfaaDoorTTe
import Derived.Test.YtkkgfoknknehfaaDoorPT1
namespace Go.Proofs.YtkkgfoknknehfaaDoor.W
set_option linter.unusedVariables false
set_option linter.unusedSimpArgs false
set_option linter.unnecessarySimpa false
set_option linter.unusedSectionVars false
open Go.RowKit
set_option maxRecDepth 100000
set_option maxHeartbeats 1000000
theorem mv_un (P : Nat) (f : Nat → Int) : (mv P f).map PV.un = mv P f := iv_un _
theorem mv_app (a b : Nat) (f g : Nat → Int) : mv a f ++ mv b g = mv (a + b) fun k => if k < a then f k else g (k - a) := by
  apply List.ext_getElem?; intro j
  by_cases h : j < a
  · rw [List.getElem?_append_left (by simpa using h), mv_get h, mv_get (by omega), if_pos h]
  · rw [List.getElem?_append_right (by simp; omega), mv_length]
    by_cases h2 : j < a + b
    · rw [mv_get (by omega), mv_get h2, if_neg h]
    · rw [List.getElem?_eq_none (by simp; omega), List.getElem?_eq_none (by simp; omega)]
theorem mv_take {a b : Nat} (f : Nat → Int) (h : a ≤ b) : (mv b f).take a = mv a f := by
  apply List.ext_getElem?; intro j
  by_cases hj : j < a
  · rw [List.getElem?_take, if_pos hj, mv_get hj, mv_get (by omega)]
  · rw [List.getElem?_eq_none (by simp; omega), List.getElem?_eq_none (by simp; omega)]
theorem mv_drop (a b : Nat) (f : Nat → Int) : (mv b f).drop a = mv (b - a) fun k => f (a + k) := by
  apply List.ext_getElem?; intro j
  by_cases hj : j < b - a
  · rw [List.getElem?_drop, mv_get hj, mv_get (by omega)]
  · rw [List.getElem?_eq_none (by simp; omega), List.getElem?_eq_none (by simp; omega)]
def rws (m : Nat) (R : Nat → Nat → Int) : List PV := mv (m * 10) fun k => R (k / 10) (k % 10)
@[simp] theorem rws_length (m : Nat) (R : Nat → Nat → Int) : (rws m R).length = m * 10 := mv_length _ _
@[simp] theorem rws_fl (m : Nat) (R : Nat → Nat → Int) : (rws m R).all flC = true := mv_fl _ _
theorem rws_congr {m : Nat} {R R' : Nat → Nat → Int} (h : ∀ i, i < m → ∀ d, d < 10 → R i d = R' i d) : rws m R = rws m R' :=
  mv_congr fun k hk => h _ (by omega) _ (by omega)
theorem rws_nget {m : Nat} {R : Nat → Nat → Int} {j c : Nat} {K : PV → Go.Proofs.YtkkgfoknknehfaaDoor.R} (hj : j < m) (hc : c < 10) : ngetX (rws m R) ((0 + j * 10) + c * 1) K = K (iP (R j c)) := by
  unfold rws
  rw [nget_mv (by omega), show ((0 + j * 10) + c * 1) / 10 = j by omega, show ((0 + j * 10) + c * 1) % 10 = c by omega]
theorem rws_row {m : Nat} (R : Nat → Nat → Int) {j : Nat} (hj : j < m) : ((rws m R).drop (0 + j * 10)).take 10 = mv 10 (R j) := by
  unfold rws
  rw [mv_drop, mv_take _ (by omega)]
  apply mv_congr; intro k hk
  rw [show (0 + j * 10 + k) / 10 = j by omega, show (0 + j * 10 + k) % 10 = k by omega]
theorem gv_mv {T : Type} (f : Nat → Int) (K : Sh.V S41 → Option T) : gvV S41 (.agg (mv 10 f)) K = K (vR f) := rfl
theorem gv_row {T : Type} {m : Nat} (R : Nat → Nat → Int) {j : Nat} (hj : j < m) (K : Sh.V S41 → Option T) : gvV S41 (.agg (((rws m R).drop (0 + j * 10)).take 10 |>.map PV.un)) K = K (vR (R j)) := by
  rw [rws_row R hj, mv_un, gv_mv]
theorem gv_rowE {T : Type} {m : Nat} (R : Nat → Nat → Int) {j o : Nat} (hj : j < m) (ho : o = 0 + j * 10) (K : Sh.V S41 → Option T) : gvV S41 (.agg (((rws m R).drop o).take 10 |>.map PV.un)) K = K (vR (R j)) := by
  subst ho; exact gv_row R hj K
theorem rws_setrow {m : Nat} (R : Nat → Nat → Int) (u : Nat → Int) {j : Nat} (hj : j < m) : (rws m R).take (0 + j * 10) ++ mv 10 u ++ (rws m R).drop ((0 + j * 10) + 10) = rws m fun i => if i = j then u else R i := by
  unfold rws
  rw [mv_take _ (by omega), mv_drop, mv_app, mv_app, show 0 + j * 10 + 10 + (m * 10 - (0 + j * 10 + 10)) = m * 10 by omega]
  apply mv_congr; intro k hk; dsimp only
  by_cases h1 : k < 0 + j * 10
  · rw [if_pos (by omega), if_pos h1, if_neg (by omega)]
  · by_cases h2 : k < 0 + j * 10 + 10
    · rw [if_pos h2, if_neg h1, if_pos (by omega), show k - (0 + j * 10) = k % 10 by omega]
    · rw [if_neg h2, if_neg (by omega), show 0 + j * 10 + 10 + (k - (0 + j * 10 + 10)) = k by omega]
theorem rws_set {m : Nat} (R : Nat → Nat → Int) (x : Int) {j c : Nat} (hc : c < 10) : (rws m R).set ((0 + j * 10) + c * 1) (.int .i64 x) = rws m fun i d => if i = j ∧ d = c then x else R i d := by
  unfold rws
  rw [mv_set]
  apply mv_congr; intro k hk; dsimp only
  by_cases h : k = 0 + j * 10 + c * 1
  · rw [if_pos h, if_pos (by omega)]
  · rw [if_neg h, if_neg (by omega)]
theorem rws_app (m : Nat) (R : Nat → Nat → Int) (u : Nat → Int) : rws m R ++ mv 10 u = rws (m + 1) fun i => if i < m then R i else u := by
  unfold rws
  rw [mv_app, show m * 10 + 10 = (m + 1) * 10 by omega]
  apply mv_congr; intro k hk; dsimp only
  by_cases h : k < m * 10
  · rw [if_pos h, if_pos (by omega)]
  · rw [if_neg h, if_neg (by omega), show k - m * 10 = k % 10 by omega]
/-! ### numbers without signs -/
theorem wrapU {n : Int} (h1 : 0 ≤ n) (h2 : n ≤ 9223372036854775807) : IntKind.u64.wrap n = n := by
  exact IntWalk.u64_in n ⟨h1, by omega⟩
section
variable {g : FuncId} {a : List PV} {h0 : Objs}
theorem G33_of {K} {n : Int} (h : SS.CC g a [] = some (.int .u64 n, [])) : G33 g a K = K n := (clX_of h).trans rfl
theorem H31_of {K} {n k : Int} (h : SS.CC g a h0 = some (.int .i64 n, [O44 (k, ())])) : H31 g a h0 K = K n (k, ()) := clH_to h rfl
theorem H32_of {K} {n k : Int} {l : List PV} (h : SS.CC g a h0 = some (.int .i64 n, [some l, O44 (k, ())])) : H32 g a h0 K = K n l (k, ()) := clH_to h rfl
theorem H34_of {K} {b : Bool} {k : Int} (h : SS.CC g a h0 = some (.bool b, [O44 (k, ())])) : H34 g a h0 K = K b (k, ()) := clH_to h rfl
end
theorem c69 (a b : Nat) : SS.CC 69 [.int .u64 (a : Int), .int .u64 (b : Int)] [] = some (.int .u64 (Nat.gcd a b : Int), []) := by
  have key : ∀ b a : Nat, g69_L2 (a : Int) (b : Int) = some (.int .u64 (Nat.gcd a b : Int), []) := by
    intro b
    induction b using Nat.strongRecOn with
    | ind b ih =>
      intro a
      rw [g69_L2_eq]
      by_cases h : b = 0
      · subst h; rw [Nat.gcd_zero_right]; rfl
      · have hb : ((b : Int) == 0) = false := by simpa using h
        rw [show ((b : Int) != 0) = true by simpa using h, bsel_true, hb, Bool.not_false, chk_true, show Int.tmod (a : Int) (b : Int) = ((a % b : Nat) : Int) from rfl, ih (a % b) (Nat.mod_lt _ (by omega)), Nat.gcd_comm a b, Nat.gcd_rec b a, Nat.gcd_comm]
  rw [g69_eq]; exact key b a
theorem c70 {a : Int} (h1 : -4611686018427387904 ≤ a) (h2 : a ≤ 4611686018427387904) : SS.CC 70 [.int .i64 a] [] = some (.int .u64 (a.natAbs : Int), []) := by
  rw [g70_eq]
  by_cases h : a < 0
  · rw [decT h, bsel_true, wrap64 (by omega) (by omega), wrapU (by omega) (by omega), show 0 - a = (a.natAbs : Int) by omega]
  · rw [decF h, bsel_false, wrapU (by omega) (by omega), show a = (a.natAbs : Int) by omega]; rfl
theorem c68 {a b c d e : Int} (ha : -3840 ≤ a ∧ a ≤ 3840) (hb : -3840 ≤ b ∧ b ≤ 3840) (hc : -3840 ≤ c ∧ c ≤ 3840) (hd : -3840 ≤ d ∧ d ≤ 3840) (he : -3840 ≤ e ∧ e ≤ 3840) (h0 : e ≠ 0) :
    SS.CC 68 [.int .i64 a, .int .i64 b, .int .i64 c, .int .i64 d, .int .i64 e] [] = some (.int .i64 ((a * b - c * d).tdiv e), []) := by
  refine CC_c0 ?_
  unfold CS
  simp only []
  have hs : ∀ {x : Int}, -3840 ≤ x ∧ x ≤ 3840 → smallB x = true := fun {x} h => by
    unfold smallB; rw [decT (by omega), decT (by omega)]; rfl
  rw [hs ha, hs hb, hs hc, hs hd, hs he, show (e == 0) = false by simpa using h0]
  rfl
theorem c67 (f : Nat → Int) {k : Nat} (hk : k < 10) : SS.CC 67 [pR f, .ptr 0 0] [O44 ((k : Int), ())] = some (.bool (f k != 0), [O44 ((k : Int), ())]) := by
  rw [g67_eq, decT (by omega), chk_true, cells10, lget_mv hk, vI_mk]
theorem c66_1i {m p : Nat} (A : Nat → Nat → Int) {k : Nat} (hk : k < 10) (hp : p < m) (hm : m ≤ 1000) :
    ∃ n : Int, SS.CC 66 [.slh 0 (0 + p * 10) (m - p) 10, .func (.func 67) [] [.ptr 1 0]] [some (rws m A), O44 ((k : Int), ())] = some (.int .i64 n, [some (rws m A), O44 ((k : Int), ())]) ∧
      ((n = -1 ∧ ∀ j, p ≤ j → j < m → A j k = 0) ∨ ∃ i : Nat, n = (i : Int) ∧ p + i < m ∧ A (p + i) k ≠ 0) := by
  have key : ∀ i, i ≤ m - p → (∀ j, p ≤ j → j < p + i → A j k = 0) → ∃ n : Int, g66_1i_L3 (0 + p * 10) (m - p) (rws m A) (k : Int) (i : Int) = some (.int .i64 n, [some (rws m A), O44 ((k : Int), ())]) ∧
      ((n = -1 ∧ ∀ j, p ≤ j → j < m → A j k = 0) ∨ ∃ i : Nat, n = (i : Int) ∧ p + i < m ∧ A (p + i) k ≠ 0) := by
    refine up_to (fun hz => ⟨-1, ?_, .inl ⟨rfl, fun j h1 h2 => hz j h1 (by omega)⟩⟩) fun i hi ih hz => ?_
    · rw [g66_1i_L3_eq, rws_fl, decF (by omega), bsel_false]; rfl
    · rw [g66_1i_L3_eq, rws_fl, decT (show (i : Int) < ((m - p : Nat) : Int) by omega), bsel_true, decT (show (0 : Int) ≤ (i : Int) by omega)]
      simp only [Bool.and_self, chk_true, Int.toNat_natCast]
      rw [gv_rowE A (j := p + i) (by omega) (show 0 + p * 10 + i * 10 = 0 + (p + i) * 10 by omega), rws_length, decT (by omega), chk_true, H34_of (c67 _ hk), wrs (by omega)]
      by_cases h : A (p + i) k = 0
      · obtain ⟨n, h1, h2⟩ := ih fun j h3 h4 => by
          by_cases e2 : j = p + i
          · rw [e2]; exact h
          · exact hz j h3 (by omega)
        exact ⟨n, by rw [h]; exact h1, h2⟩
      · exact ⟨i, by rw [show (A (p + i) k != 0) = true by simpa using h]; rfl, .inr ⟨i, rfl, by omega, h⟩⟩
  obtain ⟨n, h1, h2⟩ := key 0 (by omega) fun j h1 h2 => by omega
  exact ⟨n, by rw [g66_1i_eq]; exact h1, h2⟩
theorem c66 (k : Int) : SS.CC 66 [.sl false 10 [], .func (.func 67) [] [.ptr 0 0]] [O44 (k, ())] = some (.int .i64 (-1), [O44 (k, ())]) := by
  rw [g66_eq, g66_L3_eq]; rfl
end Go.Proofs.YtkkgfoknknehfaaDoor.W

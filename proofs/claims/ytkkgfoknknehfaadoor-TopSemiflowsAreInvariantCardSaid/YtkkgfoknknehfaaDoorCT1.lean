/-
  Tests of lists of numbers; copies; values.
-/
import Derived.Test.YtkkgfoknknehfaaDoorPT2
import Derived.Test.YtkkgfoknknehfaaDoorTTb
import Derived.Test.YtkkgfoknknehfaaDoorTTc
namespace Go.Proofs.YtkkgfoknknehfaaDoor.W
set_option linter.unusedVariables false
set_option linter.unusedSimpArgs false
set_option linter.unnecessarySimpa false
set_option linter.unusedSectionVars false
open Go.RowKit
set_option maxRecDepth 100000
theorem H14_of {g : FuncId} {a : List PV} {h0 : Objs} {K} {n : Int} {l : List PV} (h : SS.CC g a h0 = some (.int .i64 n, [some l])) : H14 g a h0 K = K n l := clH_to h rfl
theorem H15_of {g : FuncId} {a : List PV} {h0 : Objs} {K} {b : Bool} {l : List PV} (h : SS.CC g a h0 = some (.bool b, [some l])) : H15 g a h0 K = K b l := clH_to h rfl
theorem c61 (n : Int) : SS.CC 61 [.int .i64 n] [] = some (.bool (!decide (0 ≤ n ∧ n ≤ 65536)), []) := by
  rw [g61_eq]
  by_cases h : n < 0
  · rw [decT h, bsel_true, decF (by omega)]; rfl
  · rw [decF h, bsel_false]
    by_cases h2 : 65536 < n
    · rw [decT h2, decF (by omega)]; rfl
    · rw [decF h2, decT (by omega)]; rfl
theorem c43 (n : Int) : SS.CC 43 [.int .i64 n] [] = some (.bool (!decide (0 ≤ n ∧ n ≤ 65536)), []) := by
  rw [g43_eq]
  by_cases h : n < 0
  · rw [decT h, bsel_true, decF (by omega)]; rfl
  · rw [decF h, bsel_false]
    by_cases h2 : 65536 < n
    · rw [decT h2, decF (by omega)]; rfl
    · rw [decF h2, decT (by omega)]; rfl
theorem find_loop {P : Nat} {f : Nat → Int} {L : Int → R} {E : Objs}
    (hs : ∀ i : Nat, i < P → L (i : Int) = bsel (!decide (0 ≤ f i ∧ f i ≤ 65536)) (some (.int .i64 (i : Int), E)) (L ((i + 1 : Nat) : Int)))
    (he : L (P : Int) = some (.int .i64 (-1), E)) : ∃ n, L 0 = some (.int .i64 n, E) ∧ decide (0 ≤ n) = !tokB P f := by
  have key : ∀ i, i ≤ P → ∃ n, L (i : Int) = some (.int .i64 n, E) ∧ (0 ≤ n ↔ ¬ ∀ p, i ≤ p → p < P → 0 ≤ f p ∧ f p ≤ 65536) := by
    refine up_to ⟨-1, he, ?_⟩ fun i hi ih => ?_
    · simp; intro p h1 h2; omega
    · by_cases h : 0 ≤ f i ∧ f i ≤ 65536
      · obtain ⟨n, h1, h2⟩ := ih
        refine ⟨n, by rw [hs i hi, decT h]; exact h1, h2.trans (not_congr ⟨fun h3 p hp hpP => ?_, fun h3 p hp hpP => h3 p (by omega) hpP⟩)⟩
        by_cases e : p = i
        · subst e; exact h
        · exact h3 p (by omega) hpP
      · refine ⟨i, by rw [hs i hi, decF h]; rfl, ⟨fun _ h3 => h (h3 i (Nat.le_refl _) hi), fun _ => by omega⟩⟩
  obtain ⟨n, h1, h2⟩ := key 0 (by omega)
  refine ⟨n, h1, ?_⟩
  unfold tokB
  by_cases h : ∀ p, p < P → 0 ≤ f p ∧ f p ≤ 65536
  · rw [decT h, decF fun c => h2.1 c fun p _ hp => h p hp]; rfl
  · rw [decF h, decT (h2.2 fun c => h fun p hp => c p (by omega) hp)]; rfl
theorem c58 {P : Nat} (f : Nat → Int) (hP : P ≤ 1000) : ∃ n, SS.CC 58 [.sl false 1 (mv P f), .func (.func 43) [] []] [] = some (.int .i64 n, []) ∧ decide (0 ≤ n) = !tokB P f := by
  rw [g58_eq]
  refine find_loop (L := fun i => g58_L3 (mv P f) i) (fun i hi => ?_) ?_
  · show g58_L3 _ _ = _
    rw [g58_L3_eq, mv_length, decT (by omega), bsel_true, lget_mv hi, vI_mk, G1_of (c43 _), wrs (by omega)]
  · show g58_L3 _ _ = _
    rw [g58_L3_eq, mv_length, decF (by omega), bsel_false]
theorem c58_1i {P : Nat} (f : Nat → Int) (hP : P ≤ 1000) : ∃ n, SS.CC 58 [.sl false 1 (mv P f), .func (.func 61) [] []] [] = some (.int .i64 n, []) ∧ decide (0 ≤ n) = !tokB P f := by
  rw [g58_1i_eq]
  refine find_loop (L := fun i => g58_1i_L3 (mv P f) i) (fun i hi => ?_) ?_
  · show g58_1i_L3 _ _ = _
    rw [g58_1i_L3_eq, mv_length, decT (by omega), bsel_true, lget_mv hi, vI_mk, G1_of (c61 _), wrs (by omega)]
  · show g58_1i_L3 _ _ = _
    rw [g58_1i_L3_eq, mv_length, decF (by omega), bsel_false]
theorem c58_2i {P : Nat} (f : Nat → Int) (hP : P ≤ 1000) : ∃ n, SS.CC 58 [.slh 0 0 P 1, .func (.func 43) [] []] [some (mv P f)] = some (.int .i64 n, [some (mv P f)]) ∧ decide (0 ≤ n) = !tokB P f := by
  rw [g58_2i_eq]
  refine find_loop (L := fun i => g58_2i_L3 P (mv P f) i) (fun i hi => ?_) ?_
  · show g58_2i_L3 _ _ _ = _
    rw [g58_2i_L3_eq, mv_fl, decT (show (i : Int) < (P : Int) by omega), decT (show (0 : Int) ≤ (i : Int) by omega), bsel_true]
    simp only [Bool.and_self, chk_true, Int.toNat_natCast]
    rw [nget_mv hi, vI_mk, G1_of (c43 _), wrs (by omega)]
  · show g58_2i_L3 _ _ _ = _
    rw [g58_2i_L3_eq, mv_fl, decF (show ¬ (P : Int) < (P : Int) by omega), bsel_false]; rfl
theorem c58_3i {P : Nat} (f : Nat → Int) (hP : P ≤ 1000) : ∃ n, SS.CC 58 [.slh 0 0 P 1, .func (.func 61) [] []] [some (mv P f)] = some (.int .i64 n, [some (mv P f)]) ∧ decide (0 ≤ n) = !tokB P f := by
  rw [g58_3i_eq]
  refine find_loop (L := fun i => g58_3i_L3 P (mv P f) i) (fun i hi => ?_) ?_
  · show g58_3i_L3 _ _ _ = _
    rw [g58_3i_L3_eq, mv_fl, decT (show (i : Int) < (P : Int) by omega), decT (show (0 : Int) ≤ (i : Int) by omega), bsel_true]
    simp only [Bool.and_self, chk_true, Int.toNat_natCast]
    rw [nget_mv hi, vI_mk, G1_of (c61 _), wrs (by omega)]
  · show g58_3i_L3 _ _ _ = _
    rw [g58_3i_L3_eq, mv_fl, decF (show ¬ (P : Int) < (P : Int) by omega), bsel_false]; rfl
theorem c42 {P : Nat} (f : Nat → Int) (hP : P ≤ 1000) : SS.CC 42 [.sl false 1 (mv P f), .func (.func 43) [] []] [] = some (.bool (!tokB P f), []) := by
  obtain ⟨n, h1, h2⟩ := c58 f hP
  rw [g42_eq, G6_of h1, h2]
theorem c42_1i {P : Nat} (f : Nat → Int) (hP : P ≤ 1000) : SS.CC 42 [.sl false 1 (mv P f), .func (.func 61) [] []] [] = some (.bool (!tokB P f), []) := by
  obtain ⟨n, h1, h2⟩ := c58_1i f hP
  rw [g42_1i_eq, G6_of h1, h2]
theorem c42_2i {P : Nat} (f : Nat → Int) (hP : P ≤ 1000) : SS.CC 42 [.slh 0 0 P 1, .func (.func 43) [] []] [some (mv P f)] = some (.bool (!tokB P f), [some (mv P f)]) := by
  obtain ⟨n, h1, h2⟩ := c58_2i f hP
  rw [g42_2i_eq, mv_fl, H14_of h1, h2, mv_fl]; rfl
theorem c42_3i {P : Nat} (f : Nat → Int) (hP : P ≤ 1000) : SS.CC 42 [.slh 0 0 P 1, .func (.func 61) [] []] [some (mv P f)] = some (.bool (!tokB P f), [some (mv P f)]) := by
  obtain ⟨n, h1, h2⟩ := c58_3i f hP
  rw [g42_3i_eq, mv_fl, H14_of h1, h2, mv_fl]; rfl
theorem c46 {P : Nat} (f : Nat → Int) (hP : P ≤ 1000) : SS.CC 46 [.sl false 1 (mv P f)] [] = some (.bool (tokB P f), []) := by
  rw [g46_eq, G1_of (c42_1i f hP), Bool.not_not]
theorem c46_1i {P : Nat} (f : Nat → Int) (hP : P ≤ 1000) : SS.CC 46 [.slh 0 0 P 1] [some (mv P f)] = some (.bool (tokB P f), [some (mv P f)]) := by
  rw [g46_1i_eq, mv_fl, H15_of (c42_3i f hP), Bool.not_not, mv_fl]; rfl
theorem c27 {P : Nat} (f : Nat → Int) (hP : P ≤ 1000) : SS.CC 27 [.sl false 1 (mv P f)] [] = some (.int .i64 (if tokB P f then 0 else 2), []) := by
  rw [g27_eq, G1_of (c42 f hP)]
  cases tokB P f <;> rfl
theorem c27_1i {P : Nat} (f : Nat → Int) (hP : P ≤ 1000) : SS.CC 27 [.slh 0 0 P 1] [some (mv P f)] = some (.int .i64 (if tokB P f then 0 else 2), [some (mv P f)]) := by
  rw [g27_1i_eq, mv_fl, H15_of (c42_2i f hP), mv_fl]
  cases tokB P f <;> rfl
theorem c23 {P : Nat} (f : Nat → Int) (hP : P ≤ 1000) (ht : tokB P f = true) : SS.CC 23 [.sl false 1 (mv P f), .int .i64 (P : Int)] [] = some (.int .i64 0, []) := by
  rw [g23_eq, mv_length, bne_self_eq_false, bsel_false, G6_of (c27 f hP), ht]; rfl
theorem c23_1i {P : Nat} (f : Nat → Int) (hP : P ≤ 1000) (ht : tokB P f = true) : SS.CC 23 [.slh 0 0 P 1, .int .i64 (P : Int)] [some (mv P f)] = some (.int .i64 0, [some (mv P f)]) := by
  rw [g23_1i_eq, mv_fl, bne_self_eq_false, bsel_false, H14_of (c27_1i f hP), mv_fl, ht]; rfl
theorem c22 {P : Nat} (f : Nat → Int) (hP : P ≤ 1000) : SS.CC 22 [.sl false 1 (mv P f)] [] = some (.sl true 1 (mv P f), []) := by
  rw [g22_eq]
  have e : decide (0 + (mv P f).length ≤ LIM) = true := decT (by rw [mv_length]; unfold LIM; omega)
  refine nilX_of ?_ ?_
  · rw [e]; rfl
  · intro h; rw [h]; rfl
/-! ### values -/
theorem c21 {P : Nat} (w m : Nat → Int) (hP : P ≤ 10) (hw : ∀ p, p < P → 0 ≤ w p ∧ w p ≤ 65536) (hm : ∀ p, p < P → 0 ≤ m p ∧ m p ≤ 65536) :
    SS.CC 21 [.sl false 1 (mv P w), .sl false 1 (mv P m)] [] = some (.int .i64 (sm P fun p => w p * m p), []) := by
  have hb : ∀ i, i < P → 0 ≤ w i * m i ∧ w i * m i ≤ 65536 * 65536 := fun i hi => prod_bd (hw i hi).1 (hw i hi).2 (hm i hi).1 (hm i hi).2
  have key : ∀ i, i ≤ P → g21_L4 (mv P m) (mv P w) (sm i fun p => w p * m p) (i : Int) = some (.int .i64 (sm P fun p => w p * m p), []) := by
    refine up_to ?_ fun i hi ih => ?_
    · rw [g21_L4_eq, mv_length, decF (by omega), bsel_false]
    · have b1 := sm_bd (n := i) (f := fun p => w p * m p) (B := 65536 * 65536) fun j hj => by have := hb j (by omega); omega
      have b2 := hb i hi
      rw [g21_L4_eq, mv_length, decT (by omega), bsel_true, lget_mv hi, vI_mk, lget_mv hi, vI_mk, wrs (by omega), wrap64 (n := w i * m i) (by omega) (by omega), wrap64 (by omega) (by omega), ← ih]
      rfl
  rw [g21_eq]
  exact key 0 (by omega)
end Go.Proofs.YtkkgfoknknehfaaDoor.W

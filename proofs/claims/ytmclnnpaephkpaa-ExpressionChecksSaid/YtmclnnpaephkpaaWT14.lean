/-
  WALKS of chapter 14: True, False of the program, truth of the statements.
-/
import Derived.Test.YtmclnnpaephkpaaBB14
namespace Go.Proofs.Ytmclnnpaephkpaa
set_option linter.unusedVariables false
set_option linter.unusedSimpArgs false
set_option linter.unnecessarySimpa false
set_option linter.unusedSectionVars false
open Go.RowKit

theorem ER.zero (w : World) : ER w zeroE (.agg #[.int .i64 0, .int .i64 0, .int .i64 0, .slice none 0 0]) := by
  unfold zeroE ER
  exact ⟨none, 0, rfl, by decide, by decide, fun h => absurd rfl h⟩
theorem ER.two_zero {w : World} (o : Int) (g : Nat) (h0 : w.cell? ⟨g, 0, none⟩ = some (.int .i64 0)) (h1 : w.cell? ⟨g, 1, none⟩ = some (.int .i64 0)) (h2 : w.cell? ⟨g, 2, none⟩ = some (.int .i64 0)) (h3 : w.cell? ⟨g, 3, none⟩ = some (.slice none 0 0))
    (h4 : w.cell? ⟨g, 4, none⟩ = some (.int .i64 0)) (h5 : w.cell? ⟨g, 5, none⟩ = some (.int .i64 0)) (h6 : w.cell? ⟨g, 6, none⟩ = some (.int .i64 0)) (h7 : w.cell? ⟨g, 7, none⟩ = some (.slice none 0 0)) :
    ER w (.node o 0 0 [zeroE, zeroE]) (.agg #[.int .i64 o, .int .i64 0, .int .i64 0, .slice (some ⟨g, 0, none⟩) 2 2]) := by
  rw [ER]
  exact ⟨some ⟨g, 0, none⟩, 2, rfl, by decide, by decide, fun _ => ⟨g, 0, rfl, ⟨⟨_, _, _, _, h0, h1, h2, h3, ER.zero w⟩, ⟨_, _, _, _, h4, h5, h6, h7, ER.zero w⟩, trivial⟩⟩⟩
theorem true_any (w : World) :
    Calls Try.prog 38 #[] w fun e w' => ∃ v, e = .returned v ∧ ER w' trueE v ∧ Below w.heap.size w w' := by
  go_enter Try.func38, Try.ntmps38
  go_wp2
  refine bodyPost_ret (v := .agg #[.int .i64 6, .int .i64 0, .int .i64 0, .slice (some ⟨w.heap.size + 1, 0, none⟩) 2 2]) (by simp [results, Try.results38, go_sem]) rfl ⟨_, rfl, ER.two_zero 6 (w.heap.size + 1) ?_ ?_ ?_ ?_ ?_ ?_ ?_ ?_, (by repeat (first | exact Below.refl _ _ | assumption | refine Below.drew ?_ | refine below_drewN ?_ _ | refine Below.setCell ?_ (by simp; try omega) _ | refine Below.alloc ?_ (by simp; try omega) _))⟩
  all_goals simp [go_sem]
theorem false_any (w : World) :
    Calls Try.prog 40 #[] w fun e w' => ∃ v, e = .returned v ∧ ER w' falseE v ∧ Below w.heap.size w w' := by
  go_enter Try.func40, Try.ntmps40
  go_wp2
  refine bodyPost_ret (v := .agg #[.int .i64 7, .int .i64 0, .int .i64 0, .slice (some ⟨w.heap.size + 1, 0, none⟩) 2 2]) (by simp [results, Try.results40, go_sem]) rfl ⟨_, rfl, ER.two_zero 7 (w.heap.size + 1) ?_ ?_ ?_ ?_ ?_ ?_ ?_ ?_, (by repeat (first | exact Below.refl _ _ | assumption | refine Below.drew ?_ | refine below_drewN ?_ _ | refine Below.setCell ?_ (by simp; try omega) _ | refine Below.alloc ?_ (by simp; try omega) _))⟩
  all_goals simp [go_sem]
theorem truth14_any (b : Bool) (w : World) :
    Calls Try.prog 39 #[.bool b] w fun e w' => ∃ v, e = .returned v ∧ ER w' (truthE b) v ∧ Below w.heap.size w w' := by
  cases b
  · go_enter Try.func39, Try.ntmps39
    go_wp2
    refine bodyPost_ret (v := .agg #[.int .i64 7, .int .i64 0, .int .i64 0, .slice (some ⟨w.heap.size + 1, 0, none⟩) 2 2]) (by simp [results, Try.results39, go_sem]) rfl ⟨_, rfl, ER.two_zero 7 (w.heap.size + 1) ?_ ?_ ?_ ?_ ?_ ?_ ?_ ?_, (by repeat (first | exact Below.refl _ _ | assumption | refine Below.drew ?_ | refine below_drewN ?_ _ | refine Below.setCell ?_ (by simp; try omega) _ | refine Below.alloc ?_ (by simp; try omega) _))⟩
    all_goals simp [go_sem]
  · go_enter Try.func39, Try.ntmps39
    go_wp2
    refine bodyPost_ret (v := .agg #[.int .i64 6, .int .i64 0, .int .i64 0, .slice (some ⟨w.heap.size + 1, 0, none⟩) 2 2]) (by simp [results, Try.results39, go_sem]) rfl ⟨_, rfl, ER.two_zero 6 (w.heap.size + 1) ?_ ?_ ?_ ?_ ?_ ?_ ?_ ?_, (by repeat (first | exact Below.refl _ _ | assumption | refine Below.drew ?_ | refine below_drewN ?_ _ | refine Below.setCell ?_ (by simp; try omega) _ | refine Below.alloc ?_ (by simp; try omega) _))⟩
    all_goals simp [go_sem]
end Go.Proofs.Ytmclnnpaephkpaa

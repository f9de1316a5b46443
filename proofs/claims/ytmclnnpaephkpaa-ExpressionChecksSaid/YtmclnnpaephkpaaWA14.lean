/-
  WALKS of chapter 14: functions that only compute with numbers and texts.
-/
import Derived.Test.YtmclnnpaephkpaaBase14
namespace Go.Proofs.Ytmclnnpaephkpaa
set_option linter.unusedVariables false
set_option linter.unusedSimpArgs false
set_option linter.unnecessarySimpa false
set_option linter.unusedSectionVars false
open Go.RowKit

theorem large_any (n m : Int) (w : World) (h2 : 0 ≤ m) (h3 : m ≤ 9223372036854775807) :
    Calls Try.prog 49 #[.int .i64 n, .int .i64 m] w fun e w' => e = .returned (.bool (largeS n m)) ∧ w' = w := by
  unfold largeS
  go_enter Try.func49, Try.ntmps49
  go_wp2
  all_goals go_ret
  all_goals exact ⟨ret_bool (by first | rfl | (rw [Bool.eq_iff_iff]; done) | (rw [Bool.eq_iff_iff]; simp; done) | (rw [Bool.eq_iff_iff]; simp; omega)), rfl⟩
theorem beyond_any (n m : Int) (w : World) (h2 : 0 ≤ m) (h3 : m ≤ 9223372036854775807) :
    Calls Try.prog 19 #[.int .i64 n, .int .i64 m] w fun e w' => e = .returned (.bool (largeS n m)) ∧ w' = w := by
  unfold largeS
  go_enter Try.func19, Try.ntmps19
  go_wp2
  all_goals go_ret
  all_goals exact ⟨ret_bool (by first | rfl | (rw [Bool.eq_iff_iff]; done) | (rw [Bool.eq_iff_iff]; simp; done) | (rw [Bool.eq_iff_iff]; simp; omega)), rfl⟩
theorem truth_any (b : Bool) (w : World) :
    Calls Try.prog 80 #[.bool b] w fun e w' => e = .returned (.int .i64 (bitS b)) ∧ w' = w := by
  cases b
  all_goals
    go_enter Try.func80, Try.ntmps80
    go_wp2
    go_ret
    exact ⟨rfl, rfl⟩
theorem bit_any (b : Bool) (w : World) :
    Calls Try.prog 53 #[.bool b] w fun e w' => e = .returned (.int .i64 (bitS b)) ∧ w' = w := by
  cases b
  all_goals
    go_enter Try.func53, Try.ntmps53
    go_wp2
    go_ret
    exact ⟨rfl, rfl⟩
theorem arguments_any (n : Int) (w : World) :
    Calls Try.prog 65 #[.int .i64 n] w fun e w' => e = .returned (.tuple #[.int .i64 ((argsS n).getD 0), .bool (argsS n).isSome]) ∧ w' = w := by
  by_cases h : 0 ≤ n ∧ n ≤ 13
  · have : n = 0 ∨ n = 1 ∨ n = 2 ∨ n = 3 ∨ n = 4 ∨ n = 5 ∨ n = 6 ∨ n = 7 ∨ n = 8 ∨ n = 9 ∨ n = 10 ∨ n = 11 ∨ n = 12 ∨ n = 13 := by omega
    clear h
    rcases this with rfl | rfl | rfl | rfl | rfl | rfl | rfl | rfl | rfl | rfl | rfl | rfl | rfl | rfl
    all_goals
      go_enter Try.func65, Try.ntmps65
      go_wp2
      go_ret2
      exact ⟨rfl, rfl⟩
  · have e : argsS n = none := by
      unfold argsS
      rw [if_neg (by omega), if_neg (by omega), if_neg (by omega), if_neg (by omega)]
    have hh : n < 0 ∨ 13 < n := by omega
    rw [e]
    clear e h
    rcases hh with hh | hh
    all_goals
      go_enter Try.func65, Try.ntmps65
      go_wp2
      go_ret2
      exact ⟨rfl, rfl⟩
theorem arity_any (n : Int) (w : World) (h : 0 ≤ n) (h' : n ≤ 13) :
    Calls Try.prog 68 #[.int .i64 n] w fun e w' => e = .returned (.int .i64 ((argsS n).getD 0)) ∧ w' = w := by
  have : n = 0 ∨ n = 1 ∨ n = 2 ∨ n = 3 ∨ n = 4 ∨ n = 5 ∨ n = 6 ∨ n = 7 ∨ n = 8 ∨ n = 9 ∨ n = 10 ∨ n = 11 ∨ n = 12 ∨ n = 13 := by omega
  clear h h'
  rcases this with rfl | rfl | rfl | rfl | rfl | rfl | rfl | rfl | rfl | rfl | rfl | rfl | rfl | rfl
  all_goals
    go_enter Try.func68, Try.ntmps68
    go_wp2
    go_ret
    exact ⟨rfl, rfl⟩
end Go.Proofs.Ytmclnnpaephkpaa

/-
  What the functions of chapter 14 answer: numbers, types, values.
-/
import Derived.Test.YtmclnnpaephkpaaE14
import Derived.Test.YtmclnnpaephkpaaT14a
namespace Go.Proofs.Ytmclnnpaephkpaa
set_option linter.unusedVariables false
set_option linter.unusedSimpArgs false
set_option linter.unnecessarySimpa false
set_option linter.unusedSectionVars false
open Go.RowKit

theorem c49 (n m : Int) (h0 : 0 ≤ m) (h1 : m ≤ 1073741824) : SS.CC 49 [.int .i64 n, .int .i64 m] [] = Ret (.bool (largeS n m)) := by
  rw [g49_eq, wr (by omega) (by omega), bsel_ite]
  by_cases h : m < n <;> simp [largeS, h]
theorem c19 (n m : Int) (h0 : 0 ≤ m) (h1 : m ≤ 1073741824) : SS.CC 19 [.int .i64 n, .int .i64 m] [] = Ret (.bool (largeS n m)) := by
  rw [g19_eq, wr (by omega) (by omega), bsel_ite]
  by_cases h : n < -m <;> simp [largeS, h]
theorem c48 (n : Int) : SS.CC 48 [.int .i64 n] [] = Ret (.bool (largeS n 65536)) := by
  rw [g48_eq, clX_of (c49 n _ (by omega) (by omega))]; simp
theorem c80 (b : Bool) : SS.CC 80 [.bool b] [] = Ret (.int .i64 (bitS b)) := by rw [g80_eq]; cases b <;> rfl
theorem c53 (b : Bool) : SS.CC 53 [.bool b] [] = Ret (.int .i64 (bitS b)) := by rw [g53_eq]; cases b <;> rfl
theorem l70 (vs : List Int) (hv : vs.length ≤ lenMax) : ∀ (m k : Nat), k + m = vs.length → g70_L3 (encI vs) k = Ret (.int .i64 (match (vs.drop k).findIdx? (fun n => largeS n 65536) with | some j => ((k + j : Nat) : Int) | none => -1))
  | 0, k, h => by
    rw [g70_L3_eq, decF (by simp; omega), bsel_false, List.drop_of_length_le (by omega)]; rfl
  | m + 1, k, h => by
    obtain ⟨y, hy⟩ := get_lt (show k < vs.length by omega)
    unfold lenMax at hv
    rw [g70_L3_eq, decT (by simp; omega), bsel_true, lget_encI hy, vI_mk, clX_of (c48 y), vB_mk, drop_cons hy, List.findIdx?_cons, wrs (by omega), l70 vs hv m (k + 1) (by omega)]
    cases hl : largeS y 65536
    · simp only [bsel_false, Bool.false_eq_true, if_false]
      cases (vs.drop (k + 1)).findIdx? (fun n => largeS n 65536) with
      | none => rfl
      | some j => simp; omega
    · rfl
theorem c47 (vs : List Int) (hv : vs.length ≤ lenMax) : SS.CC 47 [.sl false 1 (encI vs), .func (.func 48) [] []] [] = Ret (.bool (vs.any fun n => largeS n 65536)) := by
  rw [g47_eq, clX_of (r := .int .i64 _) (by rw [g70_eq]; exact l70 vs hv vs.length 0 (by omega))]
  simp only [vI_mk, List.drop_zero]
  cases h : vs.findIdx? (fun n => largeS n 65536) with
  | none =>
    have : vs.any (fun n => largeS n 65536) = false := by
      rw [List.findIdx?_eq_none_iff] at h
      simpa using h
    rw [this]; rfl
  | some j =>
    have : vs.any (fun n => largeS n 65536) = true := by
      have := List.findIdx?_isSome (xs := vs) (p := fun n => largeS n 65536)
      rw [h] at this; simpa using this.symm
    rw [this]; simp
end Go.Proofs.Ytmclnnpaephkpaa

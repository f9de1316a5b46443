/-
  (a b - c d) / by: the contract.
-/
import Derived.Test.YtkkgfoknknehfaaDoorTD3
namespace Go.Proofs.YtkkgfoknknehfaaDoor
set_option linter.unusedVariables false
set_option linter.unusedSimpArgs false
set_option linter.unnecessarySimpa false
set_option linter.unusedSectionVars false
open Go.RowKit Go.Shelf
set_option maxRecDepth 100000
theorem mul_sg (a b : Int) : a * b = if sg a b = true then -((pm a b : Nat) : Int) else ((pm a b : Nat) : Int) := by
 unfold sg pm
 rw [Int.natCast_mul]
 by_cases h1 : a < 0 <;> by_cases h2 : b < 0
 ·rw [show (a.natAbs : Int) = -a by omega, show (b.natAbs : Int) = -b by omega, Int.neg_mul_neg]; simp [h1, h2]
 ·rw [show (a.natAbs : Int) = -a by omega, show (b.natAbs : Int) = b by omega, Int.neg_mul]; simp [h1, h2]
 ·rw [show (a.natAbs : Int) = a by omega, show (b.natAbs : Int) = -b by omega, Int.mul_neg]; simp [h1, h2]
 ·rw [show (a.natAbs : Int) = a by omega, show (b.natAbs : Int) = b by omega]; simp [h1, h2]
theorem tdiv_pos (S : Nat) (e : Int) : Int.tdiv (S : Int) e = if e < 0 then -((S / e.natAbs : Nat) : Int) else ((S / e.natAbs : Nat) : Int) := by
 split
 ·rename_i h
  have : e = -((e.natAbs : Nat) : Int) := by omega
  conv => lhs; rw [this, Int.tdiv_neg]
  rfl
 ·rename_i h
  have : e = ((e.natAbs : Nat) : Int) := by omega
  conv => lhs; rw [this]
  rfl
theorem pm_le {a b : Int} (ha : a.natAbs ≤ 1073741824) (hb : b.natAbs ≤ 1073741824) : pm a b ≤ 1152921504606846976 := Nat.mul_le_mul ha hb
theorem cross_calls (a b c d e : Int) (ha : a.natAbs ≤ 1073741824) (hb : b.natAbs ≤ 1073741824) (hc : c.natAbs ≤ 1073741824) (hd : d.natAbs ≤ 1073741824) (he : e.natAbs ≤ 1073741824) (h0 : e ≠ 0) {M : Mem} {w : World} (hm : memOK M w) :
 Calls Tryd.prog 68 #[.int .i64 a, .int .i64 b, .int .i64 c, .int .i64 d, .int .i64 e] w fun r w' => r = .returned (.int .i64 (Int.tdiv (a * b - c * d) e)) ∧ Below w.heap.size w w' := by
 have pa := pm_le ha hb
 have pc := pm_le hc hd
 have hab := mul_sg a b
 have hcd := mul_sg c d
 have fin : ∀ (n : Bool) (S : Nat), (a * b - c * d = if n = true then -(S : Int) else (S : Int)) → ∀ {r : Ending} {w' : World}, (r = .returned (.int .i64 (if (n != decide (e < 0)) = true then -((S / e.natAbs : Nat) : Int) else ((S / e.natAbs : Nat) : Int))) ∧ Below w.heap.size w w') → r = .returned (.int .i64 (Int.tdiv (a * b - c * d) e)) ∧ Below w.heap.size w w' := by
  intro n S hS r w' h
  refine ⟨h.1.trans ?_, h.2⟩
  rw [hS]
  cases n with
  | false => simp only [Bool.false_eq_true, if_false, tdiv_pos]; by_cases h : e < 0 <;> simp [h]
  | true => simp only [if_true, Int.neg_tdiv, tdiv_pos]; by_cases h : e < 0 <;> simp [h]
 have lt : ∀ S : Nat, S ≤ 9223372036854775807 → S / e.natAbs < 9223372036854775808 := fun S hS => by have := Nat.div_le_self S e.natAbs; omega
 have hpos : 0 < e.natAbs := by omega
 cases h1 : sg a b <;> cases h2 : sg c d
 ·rw [h1] at hab; rw [h2] at hcd
  simp only [Bool.false_eq_true, if_false] at hab hcd
  by_cases hl : ((pm a b : Nat) : Int) < ((pm c d : Nat) : Int)
  ·exact (cross_lt_false (M := M) a b c d e (by omega) (by omega) (by omega) (by omega) (by omega) h1 h2 (pm c d - pm a b) _ (lt _ (by omega)) hl (fun w => sub_run _ _ (by omega) (by omega) w) (div_calls hm _ _ (by omega) hpos)).mono fun r w' h => fin true _ (by simp only [if_true]; omega) h
  ·exact (cross_ge_false (M := M) a b c d e (by omega) (by omega) (by omega) (by omega) (by omega) h1 h2 (pm a b - pm c d) _ (lt _ (by omega)) hl (fun w => sub_run _ _ (by omega) (by omega) w) (div_calls hm _ _ (by omega) hpos)).mono fun r w' h => fin false _ (by simp only [Bool.false_eq_true, if_false]; omega) h
 ·rw [h1] at hab; rw [h2] at hcd
  simp only [Bool.false_eq_true, if_false, if_true] at hab hcd
  exact (cross_add_false (M := M) a b c d e (by omega) (by omega) (by omega) (by omega) (by omega) h1 h2 (pm a b + pm c d) _ (lt _ (by omega)) (fun w => add_run _ _ (by omega) (by omega) w) (div_calls hm _ _ (by omega) hpos)).mono fun r w' h => fin false _ (by simp only [Bool.false_eq_true, if_false]; omega) h
 ·rw [h1] at hab; rw [h2] at hcd
  simp only [Bool.false_eq_true, if_false, if_true] at hab hcd
  exact (cross_add_true (M := M) a b c d e (by omega) (by omega) (by omega) (by omega) (by omega) h1 h2 (pm a b + pm c d) _ (lt _ (by omega)) (fun w => add_run _ _ (by omega) (by omega) w) (div_calls hm _ _ (by omega) hpos)).mono fun r w' h => fin true _ (by simp only [if_true]; omega) h
 ·rw [h1] at hab; rw [h2] at hcd
  simp only [if_true] at hab hcd
  by_cases hl : ((pm a b : Nat) : Int) < ((pm c d : Nat) : Int)
  ·exact (cross_lt_true (M := M) a b c d e (by omega) (by omega) (by omega) (by omega) (by omega) h1 h2 (pm c d - pm a b) _ (lt _ (by omega)) hl (fun w => sub_run _ _ (by omega) (by omega) w) (div_calls hm _ _ (by omega) hpos)).mono fun r w' h => fin false _ (by simp only [Bool.false_eq_true, if_false]; omega) h
  ·exact (cross_ge_true (M := M) a b c d e (by omega) (by omega) (by omega) (by omega) (by omega) h1 h2 (pm a b - pm c d) _ (lt _ (by omega)) hl (fun w => sub_run _ _ (by omega) (by omega) w) (div_calls hm _ _ (by omega) hpos)).mono fun r w' h => fin true _ (by simp only [if_true]; omega) h
def smallB (a : Int) : Bool := decide (-1073741824 ≤ a) && decide (a ≤ 1073741824)
theorem smallB_spec {a : Int} (h : smallB a = true) : a.natAbs ≤ 1073741824 := by
 simp only [smallB, Bool.and_eq_true, decide_eq_true_eq] at h; omega
theorem ev_cross (a b c d e : Int) (ha : smallB a = true) (hb : smallB b = true) (hc : smallB c = true) (hd : smallB d = true) (he : smallB e = true) (h0 : e ≠ 0) : Ev Tryd.prog 68 [.int .i64 a, .int .i64 b, .int .i64 c, .int .i64 d, .int .i64 e] [] (.int .i64 (Int.tdiv (a * b - c * d) e)) [] := by
 refine ev_below (v := .int .i64 (Int.tdiv (a * b - c * d) e)) (by kernel_rfl) (fun _ _ => rep_int.2 rfl) rfl fun M w vals hm hv => ?_
 obtain ⟨u1, us, e1, r1, hv⟩ := reps_cons.1 hv
 obtain ⟨u2, us, rfl, r2, hv⟩ := reps_cons.1 hv
 obtain ⟨u3, us, rfl, r3, hv⟩ := reps_cons.1 hv
 obtain ⟨u4, us, rfl, r4, hv⟩ := reps_cons.1 hv
 obtain ⟨u5, us, rfl, r5, hv⟩ := reps_cons.1 hv
 rw [reps_nil] at hv; subst hv
 rw [rep_int.1 r1, rep_int.1 r2, rep_int.1 r3, rep_int.1 r4, rep_int.1 r5] at e1
 have : vals = #[.int .i64 a, .int .i64 b, .int .i64 c, .int .i64 d, .int .i64 e] := by rw [← Array.toList_inj]; exact e1
 rw [this]
 exact cross_calls a b c d e (smallB_spec ha) (smallB_spec hb) (smallB_spec hc) (smallB_spec hd) (smallB_spec he) h0 hm
end Go.Proofs.YtkkgfoknknehfaaDoor

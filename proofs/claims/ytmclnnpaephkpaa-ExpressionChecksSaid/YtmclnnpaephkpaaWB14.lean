/-
  WALKS of chapter 14: apply, of the program and of the statements.
-/
import Derived.Test.YtmclnnpaephkpaaWA14
import Derived.Laws.BitsAllLaws
import Derived.Laws.BitsLemmas
namespace Go.Proofs.Ytmclnnpaephkpaa
set_option linter.unusedVariables false
set_option linter.unusedSimpArgs false
set_option linter.unnecessarySimpa false
set_option linter.unusedSectionVars false
open Go.RowKit

theorem and01 (a b : Int) (ha : a = 0 ∨ a = 1) (hb : b = 0 ∨ b = 1) : bits .and .i64 a b = a * b := by
  rcases ha with rfl | rfl <;> rcases hb with rfl | rfl <;> decide
theorem or01 (a b : Int) (ha : a = 0 ∨ a = 1) (hb : b = 0 ∨ b = 1) : bits .or .i64 a b = max a b := by
  rcases ha with rfl | rfl <;> rcases hb with rfl | rfl <;> decide
theorem mul_bd (a b : Int) (h1 : -1073741824 ≤ a) (h2 : a ≤ 1073741824) (h3 : -1073741824 ≤ b) (h4 : b ≤ 1073741824) : -1152921504606846976 ≤ a * b ∧ a * b ≤ 1152921504606846976 := by
  have h : a.natAbs * b.natAbs ≤ 1073741824 * 1073741824 := Nat.mul_le_mul (by omega) (by omega)
  have e : (a * b).natAbs = a.natAbs * b.natAbs := Int.natAbs_mul a b
  omega
set_option maxHeartbeats 1000000 in
theorem apply2_any (o a b : Int) (l : List Int) (A : Option Addr) (n c : Nat) (w : World) (hn : n = l.length + 2) (h : IRo w A 0 (a :: b :: l)) (ho : o = 2 ∨ o = 3 ∨ o = 4 ∨ o = 6 ∨ o = 7 ∨ o = 8 ∨ o = 9)
   (h1 : -1073741824 ≤ a) (h2 : a ≤ 1073741824) (h3 : -1073741824 ≤ b) (h4 : b ≤ 1073741824) :
    Calls Try.prog 71 #[.int .i64 o, .slice A n c] w fun e w' => e = .returned (.int .i64 (applyS o (a :: b :: l))) ∧ ∃ k, w' = w.drewN k := by
  obtain ⟨bl, off, rfl, c0, hb, hb1, hb2, h'⟩ := h.cons
  obtain ⟨bl', off', e, c1, _, _, _, _⟩ := h'.cons
  injection e with e
  injection e with e1 e2
  subst e1 e2
  simp only [Nat.add_zero, Nat.zero_add] at c0 c1
  have hn0 : (0 : Int) < (n : Int) := by omega
  have hn1 : (1 : Int) < (n : Int) := by omega
  have hm := mul_bd a b h1 h2 h3 h4
  obtain ⟨hm1, hm2⟩ := hm
  clear hn h h' hb1 hb2 hb
  rcases ho with rfl | rfl | rfl | rfl | rfl | rfl | rfl
  all_goals
    go_enter Try.func71, Try.ntmps71
    go_wp2
    go_quiet ((go_at_call 80; exact Calls.quiet_of_same (truth_any _ _)))
    go_wp2
    go_ret
    refine ⟨ret_int ?_, _, rfl⟩
    simp [applyS]

theorem apply1_any (o a : Int) (l : List Int) (A : Option Addr) (n c : Nat) (w : World) (hn : n = l.length + 1) (h : IRo w A 0 (a :: l)) (ho : o = 5 ∨ o = 10)
   (h1 : -1073741824 ≤ a) (h2 : a ≤ 1073741824) :
    Calls Try.prog 71 #[.int .i64 o, .slice A n c] w fun e w' => e = .returned (.int .i64 (applyS o (a :: l))) ∧ ∃ k, w' = w.drewN k := by
  obtain ⟨bl, off, rfl, c0, hb, hb1, hb2, h'⟩ := h.cons
  simp only [Nat.add_zero] at c0
  have hn0 : (0 : Int) < (n : Int) := by omega
  clear hn h h' hb1 hb2 hb
  rcases ho with rfl | rfl
  all_goals
    go_enter Try.func71, Try.ntmps71
    go_wp2
    go_ret
    refine ⟨ret_int ?_, 0, rfl⟩
    simp [applyS]
theorem applyB_any (o a b : Int) (l : List Int) (A : Option Addr) (n c : Nat) (w : World) (hn : n = l.length + 2) (h : IRo w A 0 (a :: b :: l)) (ho : o = 11 ∨ o = 12)
   (h1 : a = 0 ∨ a = 1) (h2 : b = 0 ∨ b = 1) :
    Calls Try.prog 71 #[.int .i64 o, .slice A n c] w fun e w' => e = .returned (.int .i64 (applyS o (a :: b :: l))) ∧ ∃ k, w' = w.drewN k := by
  obtain ⟨bl, off, rfl, c0, hb, hb1, hb2, h'⟩ := h.cons
  obtain ⟨bl', off', e, c1, _, _, _, _⟩ := h'.cons
  injection e with e
  injection e with e1 e2
  subst e1 e2
  simp only [Nat.add_zero, Nat.zero_add] at c0 c1
  have hn0 : (0 : Int) < (n : Int) := by omega
  have hn1 : (1 : Int) < (n : Int) := by omega
  have ha := Lib.hid (and01 a b h1 h2)
  have hor := Lib.hid (or01 a b h1 h2)
  clear hn h h' hb1 hb2 hb h1 h2
  rcases ho with rfl | rfl
  all_goals
    go_enter Try.func71, Try.ntmps71
    go_wp2
    go_quiet (fail)
    go_wp2
    go_ret
    refine ⟨ret_int ?_, _, rfl⟩
    first | (simp [applyS]; exact ha.out) | (simp [applyS]; exact hor.out)
set_option maxHeartbeats 1000000 in
theorem apply14b_any (o a b : Int) (l : List Int) (A : Option Addr) (n c : Nat) (w : World) (hn : n = l.length + 2) (h : IRo w A 0 (a :: b :: l)) (ho : o = 2 ∨ o = 3 ∨ o = 4 ∨ o = 6 ∨ o = 7 ∨ o = 8 ∨ o = 9)
   (h1 : -1073741824 ≤ a) (h2 : a ≤ 1073741824) (h3 : -1073741824 ≤ b) (h4 : b ≤ 1073741824) :
    Calls Try.prog 51 #[.int .i64 o, .slice A n c] w fun e w' => e = .returned (.int .i64 (applyS o (a :: b :: l))) ∧ ∃ k, w' = w.drewN k := by
  obtain ⟨bl, off, rfl, c0, hb, hb1, hb2, h'⟩ := h.cons
  obtain ⟨bl', off', e, c1, _, _, _, _⟩ := h'.cons
  injection e with e
  injection e with e1 e2
  subst e1 e2
  simp only [Nat.add_zero, Nat.zero_add] at c0 c1
  have hn0 : (0 : Int) < (n : Int) := by omega
  have hn1 : (1 : Int) < (n : Int) := by omega
  have hm := mul_bd a b h1 h2 h3 h4
  obtain ⟨hm1, hm2⟩ := hm
  clear hn h h' hb1 hb2 hb
  rcases ho with rfl | rfl | rfl | rfl | rfl | rfl | rfl
  all_goals
    go_enter Try.func51, Try.ntmps51
    go_wp2
    go_quiet ((go_at_call 53; exact Calls.quiet_of_same (bit_any _ _)))
    go_wp2
    go_ret
    refine ⟨ret_int ?_, _, rfl⟩
    simp [applyS]

theorem apply14a_any (o a : Int) (l : List Int) (A : Option Addr) (n c : Nat) (w : World) (hn : n = l.length + 1) (h : IRo w A 0 (a :: l)) (ho : o = 5 ∨ o = 10)
   (h1 : -1073741824 ≤ a) (h2 : a ≤ 1073741824) :
    Calls Try.prog 51 #[.int .i64 o, .slice A n c] w fun e w' => e = .returned (.int .i64 (applyS o (a :: l))) ∧ ∃ k, w' = w.drewN k := by
  obtain ⟨bl, off, rfl, c0, hb, hb1, hb2, h'⟩ := h.cons
  simp only [Nat.add_zero] at c0
  have hn0 : (0 : Int) < (n : Int) := by omega
  clear hn h h' hb1 hb2 hb
  rcases ho with rfl | rfl
  all_goals
    go_enter Try.func51, Try.ntmps51
    go_wp2
    go_ret
    refine ⟨ret_int ?_, 0, rfl⟩
    simp [applyS]

theorem apply14c_any (o a b : Int) (l : List Int) (A : Option Addr) (n c : Nat) (w : World) (hn : n = l.length + 2) (h : IRo w A 0 (a :: b :: l)) (ho : o = 11 ∨ o = 12)
   (h1 : a = 0 ∨ a = 1) (h2 : b = 0 ∨ b = 1) :
    Calls Try.prog 51 #[.int .i64 o, .slice A n c] w fun e w' => e = .returned (.int .i64 (applyS o (a :: b :: l))) ∧ ∃ k, w' = w.drewN k := by
  obtain ⟨bl, off, rfl, c0, hb, hb1, hb2, h'⟩ := h.cons
  obtain ⟨bl', off', e, c1, _, _, _, _⟩ := h'.cons
  injection e with e
  injection e with e1 e2
  subst e1 e2
  simp only [Nat.add_zero, Nat.zero_add] at c0 c1
  have hn0 : (0 : Int) < (n : Int) := by omega
  have hn1 : (1 : Int) < (n : Int) := by omega
  clear hn h h' hb1 hb2 hb
  rcases ho with rfl | rfl
  all_goals
    rcases h1 with rfl | rfl <;> rcases h2 with rfl | rfl
    all_goals
      go_enter Try.func51, Try.ntmps51
      go_wp2
      go_quiet (fail)
      go_wp2
      go_ret
      refine ⟨ret_int ?_, _, rfl⟩
      first | (simp [applyS]; done) | (simp [applyS]; decide)
end Go.Proofs.Ytmclnnpaephkpaa

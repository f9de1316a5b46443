/-
  WALKS of chapter 14: the least and the greatest of numbers; the bounds of a comparison.
-/
import Derived.Test.YtmclnnpaephkpaaWA14
namespace Go.Proofs.Ytmclnnpaephkpaa
set_option linter.unusedVariables false
set_option linter.unusedSimpArgs false
set_option linter.unnecessarySimpa false
set_option linter.unusedSectionVars false
open Go.RowKit

theorem min_any (x : Int) (xs : List Int) (A : Option Addr) (n c : Nat) (w : World) (hn : xs.length + 1 = n) (hn2 : n ≤ 1000000) (h : IRo w A 0 (x :: xs)) :
    Calls Try.prog 73 #[.slice A n c] w fun e w' => e = .returned (.int .i64 (xs.foldl min x)) ∧ w' = w := by
  obtain ⟨b, off, rfl, c0, hb, hb1, hb2, h'⟩ := h.cons
  simp only [Nat.add_zero] at c0
  have H := Lib.hid h'
  have HN := Lib.hid hn
  have hn0 : (0 : Int) < (n : Int) := by omega
  have hn1 : ¬ (n : Int) < 1 := by omega
  clear h h' hn hb hb1 hb2
  go_enter Try.func73, Try.ntmps73
  go_wp2
  go_loop [3, 4] (fun m i => ∃ k : Nat, ∃ v : Int, 1 ≤ k ∧ k ≤ n ∧ i = .int .i64 k ∧ m = .int .i64 v ∧ Hid (∃ r, k + r.length = n ∧ IRo w (some ⟨b, off, none⟩) k r ∧ xs.foldl min x = r.foldl min v)) (fun _ i => n - (intOf i).toNat)
  case atStart => exact ⟨1, x, by omega, by omega, rfl, rfl, xs, by have := HN.out; omega, H.out, rfl⟩
  case round =>
    obtain ⟨k, v, hk1, hk, rfl, rfl, HR⟩ := hrel
    obtain ⟨r, hr, hi, hf⟩ := HR.out
    have HF := Lib.hid hf
    have HL := Lib.hid hr
    clear hf hr HR
    match r with
    | [] =>
      have hlt : ¬ k < n := by have := HL.out; simp at this; omega
      go_wp2
      go_ret
      exact ⟨ret_int (by rw [HF.out]; rfl), rfl⟩
    | y :: r =>
      have hlt : k < n := by have := HL.out; simp at this; omega
      obtain ⟨b', off', e, c1, _, _, _, hi'⟩ := hi.cons
      injection e with e
      injection e with e1 e2
      subst e1 e2
      go_wp2
      go_round
      case rel => exact ⟨k + 1, min v y, by omega, by omega, by go_num, by simp [Int.min_def]; split <;> split <;> omega, r, by have := HL.out; simp at this; omega, hi', by rw [HF.out]; rfl⟩
      case measure => simp [intOf]; omega
theorem max_any (x : Int) (xs : List Int) (A : Option Addr) (n c : Nat) (w : World) (hn : xs.length + 1 = n) (hn2 : n ≤ 1000000) (h : IRo w A 0 (x :: xs)) :
    Calls Try.prog 74 #[.slice A n c] w fun e w' => e = .returned (.int .i64 (xs.foldl max x)) ∧ w' = w := by
  obtain ⟨b, off, rfl, c0, hb, hb1, hb2, h'⟩ := h.cons
  simp only [Nat.add_zero] at c0
  have H := Lib.hid h'
  have HN := Lib.hid hn
  have hn0 : (0 : Int) < (n : Int) := by omega
  have hn1 : ¬ (n : Int) < 1 := by omega
  clear h h' hn hb hb1 hb2
  go_enter Try.func74, Try.ntmps74
  go_wp2
  go_loop [3, 4] (fun m i => ∃ k : Nat, ∃ v : Int, 1 ≤ k ∧ k ≤ n ∧ i = .int .i64 k ∧ m = .int .i64 v ∧ Hid (∃ r, k + r.length = n ∧ IRo w (some ⟨b, off, none⟩) k r ∧ xs.foldl max x = r.foldl max v)) (fun _ i => n - (intOf i).toNat)
  case atStart => exact ⟨1, x, by omega, by omega, rfl, rfl, xs, by have := HN.out; omega, H.out, rfl⟩
  case round =>
    obtain ⟨k, v, hk1, hk, rfl, rfl, HR⟩ := hrel
    obtain ⟨r, hr, hi, hf⟩ := HR.out
    have HF := Lib.hid hf
    have HL := Lib.hid hr
    clear hf hr HR
    match r with
    | [] =>
      have hlt : ¬ k < n := by have := HL.out; simp at this; omega
      go_wp2
      go_ret
      exact ⟨ret_int (by rw [HF.out]; rfl), rfl⟩
    | y :: r =>
      have hlt : k < n := by have := HL.out; simp at this; omega
      obtain ⟨b', off', e, c1, _, _, _, hi'⟩ := hi.cons
      injection e with e
      injection e with e1 e2
      subst e1 e2
      go_wp2
      go_round
      case rel => exact ⟨k + 1, max v y, by omega, by omega, by go_num, by simp [Int.max_def]; split <;> split <;> omega, r, by have := HL.out; simp at this; omega, hi', by rw [HF.out]; rfl⟩
      case measure => simp [intOf]; omega

theorem agg2 {a b c d : Int} (h : a = c) (h' : b = d) : Ending.returned (.agg #[.int .i64 a, .int .i64 b]) = .returned (.agg #[.int .i64 c, .int .i64 d]) := by rw [h, h']
set_option maxRecDepth 100000 in
set_option maxHeartbeats 1000000 in
theorem compared_any (o al ah bl bh : Int) (w : World) (ho : o = 6 ∨ o = 7 ∨ o = 8 ∨ o = 9) :
    Calls Try.prog 72 #[.int .i64 o, .agg #[.int .i64 al, .int .i64 ah], .agg #[.int .i64 bl, .int .i64 bh]] w fun e w' => e = .returned (.agg #[.int .i64 (cmpS o (al, ah) (bl, bh)).1, .int .i64 (cmpS o (al, ah) (bl, bh)).2]) ∧ Below w.heap.size w w' := by
  rcases ho with rfl | rfl | rfl | rfl
  all_goals
    go_enter Try.func72, Try.ntmps72
    go_wp2_with (go_at_call 80; refine (truth_any _ _).mono ?_; rintro e w' ⟨rfl, rfl⟩)
  all_goals (try (go_quiet (fail); go_wp2_with (go_at_call 80; refine (truth_any _ _).mono ?_; rintro e w' ⟨rfl, rfl⟩)))
  all_goals (refine bodyPost_ret (v := .agg #[.int .i64 (bitS _), .int .i64 (bitS _)]) (by simp [results, Try.results72, go_sem]; exact ⟨rfl, rfl⟩) rfl ⟨agg2 ?_ ?_, (by repeat (first | exact Below.refl _ _ | assumption | refine Below.drew ?_ | refine below_drewN ?_ _ | refine Below.setCell ?_ (by simp; try omega) _ | refine Below.alloc ?_ (by simp; try omega) _))⟩)
  all_goals first | (simp only [cmpS, ↓reduceIte, Int.reduceEq]; done) | (simp only [cmpS, ↓reduceIte, Int.reduceEq]; refine congrArg bitS ?_; (first | rfl | (rw [Bool.eq_iff_iff]; done) | (rw [Bool.eq_iff_iff]; simp; done) | (rw [Bool.eq_iff_iff]; simp; omega)))
end Go.Proofs.Ytmclnnpaephkpaa

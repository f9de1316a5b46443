/-
  WALKS of chapter 14: Check of the program and of the statements; small.
-/
import Derived.Test.YtmclnnpaephkpaaWE14
import Derived.Test.YtmclnnpaephkpaaWG14
namespace Go.Proofs.Ytmclnnpaephkpaa
set_option linter.unusedVariables false
set_option linter.unusedSimpArgs false
set_option linter.unnecessarySimpa false
set_option linter.unusedSectionVars false
open Go.RowKit

theorem ret2_int {a b c d : Int} (h : a = c) (h' : b = d) : Ending.returned (.tuple #[.int .i64 a, .int .i64 b]) = .returned (.tuple #[.int .i64 c, .int .i64 d]) := by rw [h, h']
theorem ER.form {w : World} {e : EX} {v : Value} (h : ER w e v) : ∃ A c, v = .agg #[.int .i64 e.op, .int .i64 e.val, .int .i64 e.idx, .slice A e.args.length c] ∧ e.args.length ≤ c ∧ e.args.length ≤ 35184372088831 := by
  match e, h with
  | .node o x i l, h =>
    obtain ⟨A, c, hv, h1, h2, _⟩ := h
    exact ⟨A, c, hv, h1, h2⟩
set_option maxRecDepth 100000 in
set_option maxHeartbeats 1000000 in
theorem check_any (e : EX) (n : Int) (v : Value) (w : World) (hv : ER w e v) :
    Calls Try.prog 14 #[v, .int .i64 n] w fun en w' => en = .returned (.tuple #[.int .i64 (checkS e n).1, .int .i64 (checkS e n).2]) ∧ Below w.heap.size w w' := by
  obtain ⟨A, c, rfl, hc1, hc2⟩ := hv.form
  by_cases h1 : n < 0 ∨ 16 < n
  · have HS : Hid (checkS e n = (0, 2)) := by show _ = _; rw [checkS, if_pos h1]
    rcases h1 with h1 | h1
    all_goals
      go_enter Try.func14, Try.ntmps14
      go_wp2
      go_ret2
      exact ⟨ret2_int (by rw [HS.out]) (by rw [HS.out]), (by repeat (first | exact Below.refl _ _ | assumption | refine Below.drew ?_ | refine below_drewN ?_ _ | refine Below.setCell ?_ (by simp; try omega) _ | refine Below.alloc ?_ (by simp; try omega) _))⟩
  have hn0 : ¬ n < 0 := by omega
  have hn1 : ¬ 16 < n := by omega
  have H1 := Lib.hid h1
  have HV := Lib.hid hv
  clear h1 hv
  obtain ⟨q, hq⟩ : ∃ q, formedE e n 1 0 = q := ⟨_, rfl⟩
  have HQ := Lib.hid hq
  clear hq
  have HF := Lib.hid (formed_any e n 1 0)
  go_enter Try.func14, Try.ntmps14
  go_wp2_with fail
  refine (HF.out _ w _ _ HV.out (((Below.refl _ w).alloc (Nat.le_refl _) _).alloc (by simp) _) (by omega) (heap_alloc2_new _ _ _) (by decide) (by decide) (by omega) (by omega) (by decide) (by decide)).mono ?_
  rw [HQ.out]
  rintro en w2 ⟨rfl, _, hg⟩
  have hb2 := (((Below.refl w.heap.size w).alloc (Nat.le_refl _) _).alloc (by simp) _).trans (gBelow hg (by omega) (by simp; omega))
  have HB2 := Lib.hid hb2
  have hx0 := hg.cell_far ⟨w.heap.size, 0, none⟩ (by simp; omega) (by simp)
  have hx1 := hg.cell_far ⟨w.heap.size, 1, none⟩ (by simp; omega) (by simp)
  have hx2 := hg.cell_far ⟨w.heap.size, 2, none⟩ (by simp; omega) (by simp)
  have hx3 := hg.cell_far ⟨w.heap.size, 3, none⟩ (by simp; omega) (by simp)
  simp [go_sem] at hx0 hx1 hx2 hx3
  clear hg hb2
  by_cases hz : q.1 = 0
  case neg =>
    have hz2 : (q.1 != 0) = true := by simpa using hz
    have HZ := Lib.hid hz
    clear hz
    go_wp2
    go_ret2
    exact ⟨ret2_int (by rw [checkS, if_neg H1.out, HQ.out, if_pos HZ.out]) (by rw [checkS, if_neg H1.out, HQ.out, if_pos HZ.out]), HB2.out⟩
  have hz2 : (q.1 != 0) = false := by simpa using hz
  have HZ := Lib.hid hz
  clear hz
  have HW : Hid (wfE e) := Lib.hid (formedE_wf e n 1 0 (by rw [HQ.out]; exact HZ.out))
  have HC := Lib.hid (kind_any e HW.out _ w2 (ER.below HB2.out _ _ HV.out))
  obtain ⟨k, hk⟩ : ∃ k, kindE e = k := ⟨_, rfl⟩
  have HKK := Lib.hid hk
  clear hk
  go_wp2_with fail
  refine HC.out.mono ?_
  rw [HKK.out]
  rintro en w3 ⟨rfl, hb3⟩
  have HB3 := Lib.hid (HB2.out.trans (hb3.mono HB2.out.size))
  clear hb3
  by_cases hk0 : k = 0
  · have hk1 : (k == 0) = true := by simpa using hk0
    have HK0 := Lib.hid hk0
    clear hk0
    go_wp2
    go_ret2
    exact ⟨ret2_int (by rw [checkS, if_neg H1.out, HQ.out, if_neg (by simpa using HZ.out), if_pos (HKK.out.trans HK0.out)]) (by rw [checkS, if_neg H1.out, HQ.out, if_neg (by simpa using HZ.out), if_pos (HKK.out.trans HK0.out)]), HB3.out⟩
  · have hk1 : (k == 0) = false := by simpa using hk0
    have HK0 := Lib.hid hk0
    clear hk0
    go_wp2
    go_ret2
    exact ⟨ret2_int (by rw [checkS, if_neg H1.out, HQ.out, if_neg (by simpa using HZ.out), if_neg (by rw [HKK.out]; exact HK0.out), HKK.out]) (by rw [checkS, if_neg H1.out, HQ.out, if_neg (by simpa using HZ.out), if_neg (by rw [HKK.out]; exact HK0.out)]), HB3.out⟩
set_option maxRecDepth 100000 in
set_option maxHeartbeats 1000000 in
theorem check14_any (e : EX) (n : Int) (v : Value) (w : World) (hv : ER w e v) :
    Calls Try.prog 15 #[v, .int .i64 n] w fun en w' => en = .returned (.tuple #[.int .i64 (checkS e n).1, .int .i64 (checkS e n).2]) ∧ Below w.heap.size w w' := by
  obtain ⟨A, c, rfl, hc1, hc2⟩ := hv.form
  by_cases h1 : n < 0 ∨ 16 < n
  · have HS : Hid (checkS e n = (0, 2)) := by show _ = _; rw [checkS, if_pos h1]
    rcases h1 with h1 | h1
    all_goals
      go_enter Try.func15, Try.ntmps15
      go_wp2
      go_ret2
      exact ⟨ret2_int (by rw [HS.out]) (by rw [HS.out]), (by repeat (first | exact Below.refl _ _ | assumption | refine Below.drew ?_ | refine below_drewN ?_ _ | refine Below.setCell ?_ (by simp; try omega) _ | refine Below.alloc ?_ (by simp; try omega) _))⟩
  have hn0 : ¬ n < 0 := by omega
  have hn1 : ¬ 16 < n := by omega
  have H1 := Lib.hid h1
  have HV := Lib.hid hv
  clear h1 hv
  obtain ⟨q, hq⟩ : ∃ q, formedE e n 1 0 = q := ⟨_, rfl⟩
  have HQ := Lib.hid hq
  clear hq
  have HF := Lib.hid (form14_any e n 1 64)
  go_enter Try.func15, Try.ntmps15
  go_wp2_with fail
  refine (HF.out _ w _ _ HV.out (((Below.refl _ w).alloc (Nat.le_refl _) _).alloc (by simp) _) (by omega) (heap_alloc2_new _ _ _) (by decide) (by decide) (by omega) (by omega) (by decide) (by decide)).mono ?_
  rw [show (64 : Int) - 64 = 0 from rfl, HQ.out]
  rintro en w2 ⟨rfl, _, hg⟩
  have hb2 := (((Below.refl w.heap.size w).alloc (Nat.le_refl _) _).alloc (by simp) _).trans (gBelow hg (by omega) (by simp; omega))
  have HB2 := Lib.hid hb2
  have hx0 := hg.cell_far ⟨w.heap.size, 0, none⟩ (by simp; omega) (by simp)
  have hx1 := hg.cell_far ⟨w.heap.size, 1, none⟩ (by simp; omega) (by simp)
  have hx2 := hg.cell_far ⟨w.heap.size, 2, none⟩ (by simp; omega) (by simp)
  have hx3 := hg.cell_far ⟨w.heap.size, 3, none⟩ (by simp; omega) (by simp)
  simp [go_sem] at hx0 hx1 hx2 hx3
  clear hg hb2
  by_cases hz : q.1 = 0
  case neg =>
    have hz2 : (q.1 != 0) = true := by simpa using hz
    have HZ := Lib.hid hz
    clear hz
    go_wp2
    go_ret2
    exact ⟨ret2_int (by rw [checkS, if_neg H1.out, HQ.out, if_pos HZ.out]) (by rw [checkS, if_neg H1.out, HQ.out, if_pos HZ.out]), HB2.out⟩
  have hz2 : (q.1 != 0) = false := by simpa using hz
  have HZ := Lib.hid hz
  clear hz
  have HW : Hid (wfE e) := Lib.hid (formedE_wf e n 1 0 (by rw [HQ.out]; exact HZ.out))
  have HC := Lib.hid (kind14_any e HW.out _ w2 (ER.below HB2.out _ _ HV.out))
  obtain ⟨k, hk⟩ : ∃ k, kindE e = k := ⟨_, rfl⟩
  have HKK := Lib.hid hk
  clear hk
  go_wp2_with fail
  refine HC.out.mono ?_
  rw [HKK.out]
  rintro en w3 ⟨rfl, hb3⟩
  have HB3 := Lib.hid (HB2.out.trans (hb3.mono HB2.out.size))
  clear hb3
  by_cases hk0 : k = 0
  · have hk1 : (k == 0) = true := by simpa using hk0
    have HK0 := Lib.hid hk0
    clear hk0
    go_wp2
    go_ret2
    exact ⟨ret2_int (by rw [checkS, if_neg H1.out, HQ.out, if_neg (by simpa using HZ.out), if_pos (HKK.out.trans HK0.out)]) (by rw [checkS, if_neg H1.out, HQ.out, if_neg (by simpa using HZ.out), if_pos (HKK.out.trans HK0.out)]), HB3.out⟩
  · have hk1 : (k == 0) = false := by simpa using hk0
    have HK0 := Lib.hid hk0
    clear hk0
    go_wp2
    go_ret2
    exact ⟨ret2_int (by rw [checkS, if_neg H1.out, HQ.out, if_neg (by simpa using HZ.out), if_neg (by rw [HKK.out]; exact HK0.out), HKK.out]) (by rw [checkS, if_neg H1.out, HQ.out, if_neg (by simpa using HZ.out), if_neg (by rw [HKK.out]; exact HK0.out)]), HB3.out⟩
set_option maxRecDepth 100000 in
theorem small_any (e : EX) (v : Value) (w : World) (hv : ER w e v) :
    Calls Try.prog 13 #[v] w fun en w' => en = .returned (.bool (smallE e)) ∧ Below w.heap.size w w' := by
  obtain ⟨A, c, rfl, hc1, hc2⟩ := hv.form
  have HV := Lib.hid hv
  clear hv
  have HF := Lib.hid (few_any e 1 80)
  go_enter Try.func13, Try.ntmps13
  go_wp2_with fail
  refine (HF.out _ w _ _ HV.out (((Below.refl _ w).alloc (Nat.le_refl _) _).alloc (by simp) _) (by omega) (heap_alloc2_new _ _ _) (by decide) (by decide) (by decide) (by decide)).mono ?_
  rintro en w2 ⟨rfl, _, hg⟩
  have HB2 : Hid (Below w.heap.size w w2) := (((Below.refl w.heap.size w).alloc (Nat.le_refl _) _).alloc (by simp) _).trans (gBelow hg (by omega) (by simp; omega))
  clear hg
  go_wp2
  go_ret
  exact ⟨rfl, HB2.out⟩
end Go.Proofs.Ytmclnnpaephkpaa

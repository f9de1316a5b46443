/-
  WALKS of chapter 14: Evaluate.
-/
import Derived.Test.YtmclnnpaephkpaaWN14
import Derived.Test.YtmclnnpaephkpaaWI14
namespace Go.Proofs.Ytmclnnpaephkpaa
set_option linter.unusedVariables false
set_option linter.unusedSimpArgs false
set_option linter.unnecessarySimpa false
set_option linter.unusedSectionVars false
open Go.RowKit

theorem evaluate1_any (x : Int) (w : World) :
    Calls Try.prog 48 #[.int .i64 x] w fun e w' => e = .returned (.bool (largeS x 65536)) ∧ w' = w := by
  go_enter Try.func48, Try.ntmps48
  go_wp2_with (go_at_call 49; refine (large_any _ _ _ (by decide) (by decide)).mono ?_; rintro e w' ⟨rfl, rfl⟩)
  go_ret
  exact ⟨rfl, rfl⟩
theorem indexFuncE (l : List Int) (A : Option Addr) (n c : Nat) (hn : l.length = n) (hn2 : n ≤ 1000000) (w : World) (hl : IRo w A 0 l) :
    Calls Try.prog 70 #[.slice A n c, .func (.func 48) #[] #[]] w fun e w' => ∃ q : Int, e = .returned (.int .i64 q) ∧ decide (0 ≤ q) = l.any (fun x => largeS x 65536) ∧ w' = w := by
  have HL := Lib.hid hl
  have HN := Lib.hid hn
  clear hl hn
  go_enter Try.func70, Try.ntmps70
  go_wp2
  go_loop [8] (fun j => ∃ m : Nat, m ≤ n ∧ j = .int .i64 m ∧ Hid (∃ r, m + r.length = n ∧ IRo w A m r ∧ l.any (fun x => largeS x 65536) = r.any (fun x => largeS x 65536))) (fun j => n - (intOf j).toNat)
  case atStart => exact ⟨0, by omega, rfl, l, by have := HN.out; omega, HL.out, rfl⟩
  case round =>
    obtain ⟨m, hm, rfl, HR⟩ := hrel
    obtain ⟨r, hr, hi, ha⟩ := HR.out
    have HA := Lib.hid ha
    have HLn := Lib.hid hr
    clear HR ha hr
    match r with
    | [] =>
      have hlt : ¬ m < n := by have := HLn.out; simp at this; omega
      go_wp2
      go_ret
      exact ⟨-1, rfl, by rw [HA.out]; rfl, rfl⟩
    | q :: r =>
      have hlt : m < n := by have := HLn.out; simp at this; omega
      obtain ⟨g, off, rfl, e0, _, _, _, hi3⟩ := hi.cons
      cases hq : largeS q 65536
      · have HQ := Lib.hid hq
        go_wp2_with (go_at_call 48; refine (evaluate1_any _ _).mono ?_; rw [hq]; rintro e w' ⟨rfl, rfl⟩)
        go_round
        case rel => exact ⟨m + 1, by omega, by go_num, r, by have := HLn.out; simp at this; omega, hi3, by rw [HA.out]; simp [HQ.out]⟩
        case measure => simp [intOf]; omega
      · have HQ := Lib.hid hq
        go_wp2_with (go_at_call 48; refine (evaluate1_any _ _).mono ?_; rw [hq]; rintro e w' ⟨rfl, rfl⟩)
        go_ret
        exact ⟨m, rfl, by rw [HA.out]; simp [HQ.out], rfl⟩
theorem containsE (l : List Int) (A : Option Addr) (n c : Nat) (hn : l.length = n) (hn2 : n ≤ 1000000) (w : World) (hl : IRo w A 0 l) :
    Calls Try.prog 47 #[.slice A n c, .func (.func 48) #[] #[]] w fun e w' => e = .returned (.bool (l.any (fun x => largeS x 65536))) ∧ w' = w := by
  have HI := Lib.hid (indexFuncE l A n c hn hn2 w hl)
  clear hl hn
  go_enter Try.func47, Try.ntmps47
  go_wp2_with fail
  refine HI.out.mono ?_
  rintro e w' ⟨q, rfl, hq, rfl⟩
  have HQ := Lib.hid hq
  clear hq
  go_wp2
  go_ret
  exact ⟨ret_bool HQ.out, rfl⟩
set_option maxRecDepth 100000 in
set_option maxHeartbeats 1000000 in
theorem evaluateP_any (e : EX) (vs : List Int) (A : Option Addr) (n c : Nat) (v : Value) (w : World) (hn : n = vs.length) (hnc : n ≤ c) (hc : c ≤ 1000000) (hv : ER w e v) (hvs : IRo w A 0 vs) :
    Calls Try.prog 20 #[v, .slice A n c] w fun en w' => en = .returned (.tuple #[.int .i64 (evaluateS e vs).1, .int .i64 (evaluateS e vs).2]) ∧ Below w.heap.size w w' := by
  obtain ⟨A0, c0, rfl, hc1, hc2⟩ := hv.form
  have HV := Lib.hid hv
  have HN := Lib.hid hn
  have HI := Lib.hid hvs
  have hb1 : Below w.heap.size w (w.alloc (.cells #[.int .i64 e.op, .int .i64 e.val, .int .i64 e.idx, .slice A0 e.args.length c0] 24)) := (Below.refl _ w).alloc (Nat.le_refl _) _
  have HC := Lib.hid (check_any e n _ _ (ER.below hb1 _ _ hv))
  have HB1 := Lib.hid hb1
  obtain ⟨q, hq⟩ : ∃ q, checkS e n = q := ⟨_, rfl⟩
  have HQ := Lib.hid hq
  clear hq hb1 hv hvs hn
  go_enter Try.func20, Try.ntmps20
  go_wp2_with fail
  refine HC.out.mono ?_
  rw [HQ.out]
  rintro en w2 ⟨rfl, hb2⟩
  have hc2 := bcell1 hb2
  have HB2 := Lib.hid (HB1.out.trans (hb2.mono (by simp)))
  have hs2 := hb2.size
  simp at hc2 hs2
  clear hb2
  by_cases hz : q.2 = 0
  case neg =>
    have hz2 : (q.2 != 0) = true := by simpa using hz
    have HZ := Lib.hid hz
    clear hz
    go_wp2
    go_ret2
    exact ⟨ret2_int (by rw [evaluateS, ← HN.out, HQ.out, if_pos HZ.out]) (by rw [evaluateS, ← HN.out, HQ.out, if_pos HZ.out]), HB2.out⟩
  have hz2 : (q.2 != 0) = false := by simpa using hz
  have HZ := Lib.hid hz
  clear hz
  cases hany : vs.any (fun x => largeS x 65536)
  case true =>
    have HA := Lib.hid hany
    have HCC := Lib.hid (containsE vs A n c HN.out.symm (by omega) w2 (HI.out.kept HB2.out (Nat.le_refl _)))
    go_wp2_with fail
    refine HCC.out.mono ?_
    rw [hany]
    rintro en w3 ⟨rfl, rfl⟩
    go_wp2
    go_ret2
    exact ⟨ret2_int (by rw [evaluateS, ← HN.out, HQ.out, if_neg (by rw [HZ.out]; simp), if_pos HA.out]) (by rw [evaluateS, ← HN.out, HQ.out, if_neg (by rw [HZ.out]; simp), if_pos HA.out]), HB2.out⟩
  have HA := Lib.hid hany
  have HCC := Lib.hid (containsE vs A n c HN.out.symm (by omega) w2 (HI.out.kept HB2.out (Nat.le_refl _)))
  have HOK := Lib.hid (check_ok (e := e) (n := n) (by rw [HQ.out]; exact HZ.out))
  have HR : Hid (RightE vs.length e) := Lib.hid ⟨HOK.out.2.2.1, by rw [← HN.out]; exact HOK.out.2.2.2.1, HOK.out.2.2.2.2.1⟩
  have HVB : Hid (∀ q, q ∈ vs → -65536 ≤ q ∧ q ≤ 65536) := Lib.hid fun q hq => by
    have h := HA.out
    rw [List.any_eq_false] at h
    have := (largeS_false q 65536).1 (by simpa using h q hq)
    omega
  have HEV := Lib.hid (evaluate_any vs HVB.out e HR.out _ A n c w2 HN.out hnc hc (HV.out.kept HB2.out (Nat.le_refl _)) (HI.out.kept HB2.out (Nat.le_refl _)))
  obtain ⟨ov, hov⟩ : ∃ ov, evalE vs e = ov := ⟨_, rfl⟩
  have HO := Lib.hid hov
  clear hov
  go_wp2_with fail
  refine HCC.out.mono ?_
  rw [hany]
  rintro en w3 ⟨rfl, rfl⟩
  go_wp2_with fail
  refine HEV.out.mono ?_
  rw [HO.out]
  rintro en w3 ⟨p, rfl, hp, hb3⟩
  have HP := Lib.hid hp
  have HB3 := Lib.hid (HB2.out.trans (hb3.mono HB2.out.size))
  clear hp hb3
  have HS : Hid (evaluateS e vs = match evalE vs e with | none => (0, 17) | some n => (n, 0)) := Lib.hid (by rw [evaluateS, ← HN.out, HQ.out, if_neg (by rw [HZ.out]; simp), if_neg (by rw [HA.out]; simp)]; cases evalE vs e <;> rfl)
  match ov with
  | none =>
    go_wp2
    go_ret2
    exact ⟨ret2_int (by rw [HS.out, HO.out]) (by rw [HS.out, HO.out]), HB3.out⟩
  | some r =>
    obtain rfl := HP.out r rfl
    go_wp2
    go_ret2
    exact ⟨ret2_int (by rw [HS.out, HO.out]) (by rw [HS.out, HO.out]), HB3.out⟩
end Go.Proofs.Ytmclnnpaephkpaa

/-
  WALKS of chapter 14: Bounds.
-/
import Derived.Test.YtmclnnpaephkpaaWQi14
import Derived.Test.YtmclnnpaephkpaaWI14
import Derived.Test.YtmclnnpaephkpaaWL14
namespace Go.Proofs.Ytmclnnpaephkpaa
set_option linter.unusedVariables false
set_option linter.unusedSimpArgs false
set_option linter.unnecessarySimpa false
set_option linter.unusedSectionVars false
open Go.RowKit

theorem ret3_int {a b c d e f : Int} (h : a = b) (h' : c = d) (h'' : e = f) : Ending.returned (.tuple #[.int .i64 a, .int .i64 c, .int .i64 e]) = .returned (.tuple #[.int .i64 b, .int .i64 d, .int .i64 f]) := by rw [h, h', h'']
theorem varsL_ok : ∀ (l pre : List VT), varsL pre l = 0 → VarsOK l
  | [], _, _ => by intro v hv; cases hv
  | v :: l, pre, h => by
    rw [varsL] at h
    split at h
    · cases h
    split at h
    · cases h
    split at h
    · cases h
    split at h
    · cases h
    split at h
    · cases h
    rename_i h1 h2 h3 h4 h5
    intro u hu
    rcases List.mem_cons.1 hu with rfl | hu
    · simp only [Bool.or_eq_true, not_or, Bool.not_eq_true] at h3
      have a := (largeS_false _ _).1 h3.1
      have b := (largeS_false _ _).1 h3.2
      omega
    · exact varsL_ok l _ h u hu
theorem varsS_ok {l : List VT} (h : varsS l = 0) : VarsOK l := by
  rw [varsS] at h
  split at h
  · cases h
  · exact varsL_ok l [] h
set_option maxRecDepth 100000 in
set_option maxHeartbeats 1000000 in
theorem boundsP_any (e : EX) (vs : List VT) (A : Option Addr) (n c : Nat) (v : Value) (w : World) (hn : n = vs.length) (hnc : n ≤ c) (hc : c ≤ 1000000) (hv : ER w e v) (hvs : VRo w A 0 vs) :
    Calls Try.prog 23 #[v, .slice A n c] w fun en w' => en = .returned (.tuple #[.int .i64 (boundsS e vs).1, .int .i64 (boundsS e vs).2.1, .int .i64 (boundsS e vs).2.2]) ∧ Below w.heap.size w w' := by
  obtain ⟨A0, c0, rfl, hc1, hc2⟩ := hv.form
  have HV := Lib.hid hv
  have HN := Lib.hid hn
  have HI := Lib.hid hvs
  have hb1 : Below w.heap.size w (w.alloc (.cells #[.int .i64 e.op, .int .i64 e.val, .int .i64 e.idx, .slice A0 e.args.length c0] 24)) := (Below.refl _ w).alloc (Nat.le_refl _) _
  have HC0 := Lib.hid (checkVariables_any vs A n c hn.symm hnc (by omega) _ (hvs.kept hb1 (Nat.le_refl _)))
  have HB1 := Lib.hid hb1
  obtain ⟨q0, hq0⟩ : ∃ q, varsS vs = q := ⟨_, rfl⟩
  have HQ0 := Lib.hid hq0
  obtain ⟨q, hq⟩ : ∃ q, checkS e n = q := ⟨_, rfl⟩
  have HQ := Lib.hid hq
  clear hq hq0 hb1 hv hvs hn
  go_enter Try.func23, Try.ntmps23
  go_wp2_with fail
  refine HC0.out.mono ?_
  rw [HQ0.out]
  rintro en w1 ⟨rfl, hb0⟩
  have HB0 := Lib.hid (HB1.out.trans (hb0.mono (by simp)))
  have hx := bcell1 hb0
  have hs0 := hb0.size
  simp at hx hs0
  clear hb0
  by_cases hz0 : q0 = 0
  case neg =>
    have hz2 : (q0 != 0) = true := by simpa using hz0
    have HZ := Lib.hid hz0
    clear hz0
    go_wp2
    go_ret3
    exact ⟨ret3_int (by rw [boundsS, HQ0.out, if_pos HZ.out]) (by rw [boundsS, HQ0.out, if_pos HZ.out]) (by rw [boundsS, HQ0.out, if_pos HZ.out]), HB0.out⟩
  have hz2 : (q0 != 0) = false := by simpa using hz0
  have HZ0 := Lib.hid hz0
  clear hz0
  have HC := Lib.hid (check_any e n _ _ (ER.below HB0.out _ _ HV.out))
  go_wp2_with fail
  refine HC.out.mono ?_
  rw [HQ.out]
  rintro en w2 ⟨rfl, hb2⟩
  have hc2 := bcell1 hb2
  have HB2 := Lib.hid (HB0.out.trans (hb2.mono HB0.out.size))
  have hs2 := hb2.size
  have hlt1 : w.heap.size < w1.heap.size := by omega
  clear hb2
  by_cases hz : q.2 = 0
  case neg =>
    have hz3 : (q.2 != 0) = true := by simpa using hz
    have HZ := Lib.hid hz
    clear hz
    have HS : Hid (boundsS e vs = (0, 0, q.2)) := Lib.hid (by rw [boundsS, HQ0.out, if_neg (by rw [HZ0.out]; simp), ← HN.out, HQ.out, if_pos HZ.out])
    go_wp2
    go_ret3
    exact ⟨ret3_int (by rw [HS.out]) (by rw [HS.out]) (by rw [HS.out]), HB2.out⟩
  have hz3 : (q.2 != 0) = false := by simpa using hz
  have HZ := Lib.hid hz
  clear hz
  have HOK := Lib.hid (check_ok (e := e) (n := n) (by rw [HQ.out]; exact HZ.out))
  have HR : Hid (RightE vs.length e) := Lib.hid ⟨HOK.out.2.2.1, by rw [← HN.out]; exact HOK.out.2.2.2.1, HOK.out.2.2.2.2.1⟩
  have HVB : Hid (VarsOK vs) := Lib.hid (varsS_ok (by rw [HQ0.out]; exact HZ0.out))
  have HEV := Lib.hid (bounds_any vs HVB.out e HR.out _ A n c w2 HN.out hnc hc (HV.out.kept HB2.out (Nat.le_refl _)) (HI.out.kept HB2.out (Nat.le_refl _)))
  obtain ⟨ov, hov⟩ : ∃ ov, boundsE vs e = ov := ⟨_, rfl⟩
  have HO := Lib.hid hov
  clear hov
  go_wp2_with fail
  refine HEV.out.mono ?_
  rintro en w3 hbp
  unfold BPost at hbp
  rw [HO.out] at hbp
  obtain ⟨p, rfl, hp, hb3⟩ := hbp
  have HP := Lib.hid hp
  have HB3 := Lib.hid (HB2.out.trans (hb3.mono HB2.out.size))
  clear hp hb3
  have HS : Hid (boundsS e vs = match boundsE vs e with | none => (0, 0, 17) | some (a, b) => (a, b, 0)) := Lib.hid (by rw [boundsS, HQ0.out, if_neg (by rw [HZ0.out]; simp), ← HN.out, HQ.out, if_neg (by rw [HZ.out]; simp)]; cases boundsE vs e <;> rfl)
  match ov with
  | none =>
    go_wp2
    go_ret3
    exact ⟨ret3_int (by rw [HS.out, HO.out]) (by rw [HS.out, HO.out]) (by rw [HS.out, HO.out]), HB3.out.alloc HB3.out.size _⟩
  | some r =>
    obtain rfl := HP.out r rfl
    go_wp2
    go_quiet (fail)
    go_wp2
    go_ret3
    exact ⟨ret3_int (by rw [HS.out, HO.out]) (by rw [HS.out, HO.out]) (by rw [HS.out, HO.out]), below_drewN (HB3.out.alloc HB3.out.size _) _⟩
end Go.Proofs.Ytmclnnpaephkpaa

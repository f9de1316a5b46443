/-
  WALKS of chapter 14: CheckVariables.
-/
import Derived.Test.YtmclnnpaephkpaaWJ14
import Derived.Test.YtmclnnpaephkpaaWK14
namespace Go.Proofs.Ytmclnnpaephkpaa
set_option linter.unusedVariables false
set_option linter.unusedSimpArgs false
set_option linter.unnecessarySimpa false
set_option linter.unusedSectionVars false
open Go.RowKit

set_option maxRecDepth 100000 in
set_option maxHeartbeats 2000000 in
theorem checkVariables_any (l : List VT) (A : Option Addr) (n c : Nat) (hn : l.length = n) (hnc : n ≤ c) (hcm : c ≤ 35184372088831) (w : World) (hl : VRo w A 0 l) :
    Calls Try.prog 33 #[.slice A n c] w fun e w' => e = .returned (.int .i64 (varsS l)) ∧ Below w.heap.size w w' := by
  have HL := Lib.hid hl
  have HN := Lib.hid hn
  by_cases h16 : 16 < n
  · have HS : Hid (varsS l = 3) := by show _ = _; rw [varsS, if_pos (by omega)]
    have h16' : (16 : Int) < (n : Int) := by omega
    clear hl hn
    go_enter Try.func33, Try.ntmps33
    go_wp2
    go_ret
    exact ⟨ret_int HS.out.symm, Below.refl _ _⟩
  have HS : Hid (varsS l = varsL [] l) := by show _ = _; rw [varsS, if_neg (by omega)]
  have h16' : ¬ (16 : Int) < (n : Int) := by omega
  have hmf : ∀ (fn : Fn) (first cap : Array Value) (w : World), (Instr.makeFunc fn first cap).run Try.prog w = .ok (.func fn first cap) w := fun _ _ _ _ => rfl
  clear hl hn
  go_enter Try.func33, Try.ntmps33
  go_wp2
  go_loopw [10] (fun j wr => ∃ k : Nat, k ≤ n ∧ j = .int .i64 k ∧ Hid (∃ pre r, pre.length = k ∧ l = pre ++ r ∧ VRo w A k r ∧ varsL [] l = varsL pre r ∧ Below w.heap.size w wr)) (fun j _ => n - (intOf j).toNat)
  case atStart => exact ⟨0, by omega, rfl, [], l, rfl, rfl, HL.out, rfl, Below.refl _ _⟩
  case round =>
    obtain ⟨k, hk, rfl, HR⟩ := hrel
    obtain ⟨pre, r, hp, hlp, hv, hvs, hb⟩ := HR.out
    have HP := Lib.hid hp
    have HLP := Lib.hid hlp
    have HVS := Lib.hid hvs
    have HB := Lib.hid hb
    have hsz := hb.size
    clear HR hp hlp hvs
    match r with
    | [] =>
      have hlt : ¬ k < n := by have h1 := HN.out; have h2 := HP.out; have h3 := HLP.out; simp at h3; subst h3; omega
      clear hb
      go_wp2
      go_ret
      exact ⟨ret_int (by rw [HS.out, HVS.out]; rfl), HB.out⟩
    | v :: r =>
      have hlt : k < n := by have h1 := HN.out; have h2 := HP.out; have h3 := HLP.out; subst h3; simp at h1; omega
      have hkc : k ≤ c := by omega
      obtain ⟨b, off, rfl, a0, a1, a2, a3, hsize, _, _, hv'⟩ := hv.cons
      have a0' := keepc hb a0
      have a1' := keepc hb a1
      have a2' := keepc hb a2
      have a3' := keepc hb a3
      have HPRE : Hid (VRo w (some ⟨b, off, none⟩) 0 pre) := by
        have h := VRo.take HL.out k
        have e : l.take k = pre := by rw [HLP.out, ← HP.out]; simp
        rw [e] at h
        exact h
      have HSZ := Lib.hid hsize
      clear hb a0 a1 a2 a3 hsize
      have HC := Lib.hid (fun w' hv hc => containsFuncV_any v.name wr.heap.size pre (some ⟨b, off, none⟩) k c HP.out (by omega) w' hv hc)
      have HNM := Lib.hid (fun w' => isName_any v.name w' HSZ.out)
      cases h1 : nameS v.name.data.toList with
      | false =>
        have H1 := Lib.hid h1
        go_wp2_with (first | (go_at_call 58; refine (HNM.out _).mono ?_; rintro e w' ⟨rfl, rfl⟩))
        go_ret
        exact ⟨ret_int (by rw [HS.out, HVS.out, varsL, if_pos H1.out]), HB.out.alloc HB.out.size _⟩
      | true =>
        have H1 : Hid (¬ nameS v.name.data.toList = false) := by show ¬ _; rw [h1]; simp
        go_wp2_with (first | (go_at_call 58; refine (HNM.out _).mono ?_; rintro e w' ⟨rfl, rfl⟩))
        refine (HC.out _ (HPRE.out.kept (HB.out.alloc HB.out.size _) (Nat.le_refl _)) (by simp [go_sem])).mono ?_
        rintro e w2 ⟨rfl, hb2⟩
        have hcw := bcell1 hb2
        have hsz2 := hb2.size
        have HB2 : Hid (Below w.heap.size w w2) := (HB.out.alloc HB.out.size _).trans (hb2.mono (by simp; omega))
        clear hb2 h1
        cases h2 : pre.any (fun u => u.name.toList == v.name.toList) with
        | true =>
          have H2 := Lib.hid h2
          clear h2
          go_wp2
          go_ret
          exact ⟨ret_int (by rw [HS.out, HVS.out, varsL, if_neg H1.out, if_pos H2.out]), HB2.out⟩
        | false =>
          have H2 : Hid (¬ pre.any (fun u => u.name.toList == v.name.toList) = true) := by show ¬ _; rw [h2]; simp
          clear h2
          cases h3 : largeS v.low 65536 with
          | true =>
            have H3 : Hid ((largeS v.low 65536 || largeS v.high 65536) = true) := by show _ = _; rw [h3]; rfl
            go_wp2_with (go_at_call 49; refine (large_any _ _ _ (by decide) (by decide)).mono ?_; rintro e w' ⟨rfl, rfl⟩)
            go_ret
            exact ⟨ret_int (by rw [HS.out, HVS.out, varsL, if_neg H1.out, if_neg H2.out, if_pos H3.out]), HB2.out⟩
          | false =>
            cases h4 : largeS v.high 65536 with
            | true =>
              have H3 : Hid ((largeS v.low 65536 || largeS v.high 65536) = true) := by show _ = _; rw [h3, h4]; rfl
              go_wp2_with (go_at_call 49; refine (large_any _ _ _ (by decide) (by decide)).mono ?_; rintro e w' ⟨rfl, rfl⟩)
              go_ret
              exact ⟨ret_int (by rw [HS.out, HVS.out, varsL, if_neg H1.out, if_neg H2.out, if_pos H3.out]), HB2.out⟩
            | false =>
              have H3 : Hid (¬ (largeS v.low 65536 || largeS v.high 65536) = true) := by show ¬ _; rw [h3, h4]; simp
              by_cases h5 : v.high < v.low
              · have H5 := Lib.hid h5
                go_wp2_with (go_at_call 49; refine (large_any _ _ _ (by decide) (by decide)).mono ?_; rintro e w' ⟨rfl, rfl⟩)
                go_ret
                exact ⟨ret_int (by rw [HS.out, HVS.out, varsL, if_neg H1.out, if_neg H2.out, if_neg H3.out, if_pos H5.out]), HB2.out⟩
              have H5 := Lib.hid h5
              by_cases h6 : v.init < v.low
              · have H6 : Hid (v.init < v.low ∨ v.high < v.init) := .inl h6
                go_wp2_with (go_at_call 49; refine (large_any _ _ _ (by decide) (by decide)).mono ?_; rintro e w' ⟨rfl, rfl⟩)
                go_ret
                exact ⟨ret_int (by rw [HS.out, HVS.out, varsL, if_neg H1.out, if_neg H2.out, if_neg H3.out, if_neg (show ¬ v.high < v.low by have := H5.out; omega), if_pos H6.out]), HB2.out⟩
              by_cases h7 : v.high < v.init
              · have H6 : Hid (v.init < v.low ∨ v.high < v.init) := .inr h7
                go_wp2_with (go_at_call 49; refine (large_any _ _ _ (by decide) (by decide)).mono ?_; rintro e w' ⟨rfl, rfl⟩)
                go_ret
                exact ⟨ret_int (by rw [HS.out, HVS.out, varsL, if_neg H1.out, if_neg H2.out, if_neg H3.out, if_neg (show ¬ v.high < v.low by have := H5.out; omega), if_pos H6.out]), HB2.out⟩
              have H6 : Hid (¬ (v.init < v.low ∨ v.high < v.init)) := by show ¬ _; omega
              go_wp2_with (go_at_call 49; refine (large_any _ _ _ (by decide) (by decide)).mono ?_; rintro e w' ⟨rfl, rfl⟩)
              go_roundw
              case rel => exact ⟨k + 1, by omega, by go_num, pre ++ [v], r, by have := HP.out; simp; omega, by rw [HLP.out]; simp, hv', by rw [HVS.out, varsL, if_neg H1.out, if_neg H2.out, if_neg H3.out, if_neg (show ¬ v.high < v.low by have := H5.out; omega), if_neg (show ¬ (v.init < v.low ∨ v.high < v.init) by have := H6.out; omega)], HB2.out⟩
              case measure => simp [intOf]; omega
end Go.Proofs.Ytmclnnpaephkpaa

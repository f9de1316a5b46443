/-
  WALKS of chapter 14: kind of the statements.
-/
import Derived.Test.YtmclnnpaephkpaaBase14
namespace Go.Proofs.Ytmclnnpaephkpaa
set_option linter.unusedVariables false
set_option linter.unusedSimpArgs false
set_option linter.unnecessarySimpa false
set_option linter.unusedSectionVars false
open Go.RowKit

theorem kindL_len : ∀ {l : List EX} {ks : List Int}, kindL l = some ks → ks.length = l.length
  | [], ks, h => by simp [kindL] at h; subst h; rfl
  | e :: l, ks, h => by
    rw [kindL] at h
    split at h
    · cases h
    · cases hk : kindL l with
      | none => rw [hk] at h; simp at h
      | some k2 =>
        rw [hk] at h
        simp at h
        subst h
        simp [kindL_len hk]
mutual
theorem kindE_bd : ∀ e, 0 ≤ kindE e ∧ kindE e ≤ 2
  | .node o v i l => by
    rw [kindE]
    split
    · exact ⟨by decide, by decide⟩
    · rename_i ks hks
      unfold kindOp
      have h := kindL_bd l ks hks
      have hg : ∀ j, 0 ≤ ks.getD j 0 ∧ ks.getD j 0 ≤ 2 := fun j => by
        rw [List.getD_eq_getElem?_getD]
        cases hj : ks[j]? with
        | none => simp
        | some q => exact h q (List.mem_of_getElem? hj)
      repeat' split
      all_goals first | exact hg _ | exact ⟨by decide, by decide⟩
theorem kindL_bd : ∀ l ks, kindL l = some ks → ∀ q, q ∈ ks → 0 ≤ q ∧ q ≤ 2
  | [], ks, h, q, hq => by simp [kindL] at h; subst h; simp at hq
  | e :: l, ks, h, q, hq => by
    rw [kindL] at h
    split at h
    · cases h
    · cases hk : kindL l with
      | none => rw [hk] at h; simp at h
      | some k2 =>
        rw [hk] at h
        simp at h
        subst h
        rcases List.mem_cons.1 hq with rfl | hq
        · exact kindE_bd e
        · exact kindL_bd l k2 hk q hq
end
theorem own_ge {w : World} {base : Nat} {e : TypeId} {size : Nat} {v : Value} {n : Nat} {xs : List Value} (h : w.ownsRow base e size v n xs) : ∀ k, v.ownBlock = some k → base ≤ k := fun k hk => (World.ownsRow.lt h k hk).1
theorem IRo.of_own' {w : World} {base c n : Nat} {e : TypeId} {A : Option Addr} {xs : List Int} (h : w.ownsRow base e 1 (.slice A n c) n (xs.map (Value.int .i64))) : IRo w A 0 xs := IRo.of_own h

theorem keepG {N : Nat} {w0 w1 w2 : World} {row : Option Nat} (h : Keeps N w0 w1) (hg : w1.grownBy w2 row) (hr : ∀ k, row = some k → N ≤ k) : Keeps N w0 w2 :=
  have h' := h.1.grown hg h.2.1 hr
  ⟨h', Nat.le_trans h.2.1 hg.size, bcell1 h'⟩
theorem IRo.three {w : World} {A : Option Addr} {a b c : Int} {l : List Int} (h : IRo w A 0 (a :: b :: c :: l)) : ∃ g off, A = some ⟨g, off, none⟩ ∧ w.cell? ⟨g, off, none⟩ = some (.int .i64 a) ∧ w.cell? ⟨g, off + 1, none⟩ = some (.int .i64 b) ∧ w.cell? ⟨g, off + 2, none⟩ = some (.int .i64 c) := by
  obtain ⟨g, off, rfl, c0, _, _, _, h1⟩ := h.cons
  obtain ⟨g', off', e, c1, _, _, _, h2⟩ := h1.cons
  injection e with e
  injection e with e1 e2
  subst e1 e2
  obtain ⟨g', off', e, c2, _, _, _, h2⟩ := h2.cons
  injection e with e
  injection e with e1 e2
  subst e1 e2
  exact ⟨g, off, rfl, by simpa using c0, by simpa using c1, by simpa using c2⟩
theorem argsS_rng (o want : Int) (h : argsS o = some want) : 0 ≤ o ∧ o ≤ 13 := by
  unfold argsS at h
  repeat' split at h
  all_goals first | omega | cases h
def Kind14Said (e : EX) : Prop := ∀ (v : Value) (w : World), ER w e v → Calls Try.prog 30 #[v] w fun en w' => en = .returned (.int .i64 (kindE e)) ∧ Below w.heap.size w w'
set_option maxRecDepth 100000 in
set_option maxHeartbeats 2000000 in
theorem kind14_any : ∀ e, wfE e → Kind14Said e := by
  refine EX.ind fun o x i l ih => ?_
  intro hwf v w hv
  obtain ⟨A, cc, rfl, hlc, hcm, hA⟩ := hv
  obtain ⟨N, hN⟩ : ∃ N, l.length = N := ⟨_, rfl⟩
  rw [wfE, hN] at hwf
  rw [hN] at hlc ⊢
  have HA := Lib.hid (ER.ero hA)
  have HN := Lib.hid hN
  have HO := Lib.hid hwf.1
  have IH : Hid (∀ e, e ∈ l → Kind14Said e) := Lib.hid fun e he => ih e he (wfL_mem hwf.2 he)
  have hN3 : N ≤ 3 := by
    have h := hwf.1
    unfold argsS at h
    repeat' split at h
    all_goals first | (injection h with h; omega) | cases h
  clear hA hN hwf ih
  go_enter Try.func30, Try.ntmps30
  go_wp2
  go_loopw [3, 4] (fun s j wr => ∃ k : Nat, ∃ A' : Option Addr, ∃ c' : Nat, k ≤ N ∧ j = .int .i64 k ∧ s = .slice A' k c' ∧ Hid (∃ r ks, k + r.length = N ∧ ks.length = k ∧ ERo w A k r ∧ (∀ e, e ∈ r → e ∈ l) ∧ kindL l = (kindL r).map (ks ++ ·) ∧ wr.ownsRow (w.heap.size + 1) 3 1 (.slice A' k c') k (ks.map (Value.int .i64)) ∧ Keeps (w.heap.size + 1) (w.alloc (.cells #[.int .i64 o, .int .i64 x, .int .i64 i, .slice A N cc] 24)) wr)) (fun _ j _ => N - (intOf j).toNat)
  case atStart => exact ⟨0, none, 0, Nat.zero_le _, rfl, rfl, l, [], by have := HN.out; omega, rfl, HA.out, fun _ h => h, by simp, World.ownsRow_nil _ _ _ _, keepSelf (by simp)⟩
  case round =>
    obtain ⟨k, A', c', hk, rfl, rfl, HR⟩ := hrel
    obtain ⟨r, ks, hr, hks, her, hsub, hf, hown, hkeep⟩ := HR.out
    have hcell := hkeep.2.2
    have hsz := hkeep.2.1
    have HF := Lib.hid hf
    have HLN := Lib.hid hr
    have HKS := Lib.hid hks
    have HOW := Lib.hid hown
    have HK := Lib.hid hkeep
    have HB := Lib.hid (((Below.refl _ w).alloc (Nat.le_refl _) _).trans (hkeep.1.mono (Nat.le_succ _)))
    clear hf hr HR hks hown hkeep
    match r with
    | [] =>
      obtain rfl : k = N := by have := HLN.out; simp at this; omega
      have HE : Hid (kindE (.node o x i l) = kindOp o ks) := by
        have : kindL l = some ks := by rw [HF.out]; simp [kindL]
        show _ = _
        rw [kindE, this]
      have HI := Lib.hid (IRo.of_own' HOW.out)
      have hops : 0 ≤ o ∧ o ≤ 13 := by have := argsS_rng o _ HO.out; omega
      by_cases ho : o = 13
      · subst ho
        have HK3 : Hid (k = 3) := by have := HO.out; simp [argsS] at this; show _ = _; omega
        match ks, HKS, HI, HE with
        | [q0, q1, q2], _, HI, HE =>
          obtain ⟨g, off, rfl, e0, e1, e2⟩ := HI.out.three
          have hk0 : (0 : Int) < (k : Int) := by have := HK3.out; omega
          have hk1 : (1 : Int) < (k : Int) := by have := HK3.out; omega
          have hk2 : (2 : Int) < (k : Int) := by have := HK3.out; omega
          by_cases h0 : q0 = 2
          · have h0' : (q0 != 2) = false := by simpa using h0
            have H0 := Lib.hid h0
            clear h0
            by_cases h1 : q1 = q2
            · have h1' : (q1 != q2) = false := by simpa using h1
              have H1 := Lib.hid h1
              clear h1
              go_wp2
              go_quiet (fail)
              go_wp2
              go_ret
              exact ⟨ret_int (by rw [HE.out]; simp [kindOp, H0.out, H1.out]), below_drewN HB.out _⟩
            · have h1' : (q1 != q2) = true := by simpa using h1
              have H1 := Lib.hid h1
              clear h1
              go_wp2
              go_quiet (fail)
              go_wp2
              go_ret
              exact ⟨ret_int (by rw [HE.out]; simp [kindOp, H0.out, H1.out]), below_drewN HB.out _⟩
          · have h0' : (q0 != 2) = true := by simpa using h0
            have H0 := Lib.hid h0
            clear h0
            go_wp2
            go_quiet (fail)
            go_wp2
            go_ret
            exact ⟨ret_int (by rw [HE.out]; simp [kindOp, H0.out]), below_drewN HB.out _⟩
        | [], HKS, _, _ => exact absurd (HKS.out.trans HK3.out) (by simp)
        | [_], HKS, _, _ => exact absurd (HKS.out.trans HK3.out) (by simp)
        | [_, _], HKS, _, _ => exact absurd (HKS.out.trans HK3.out) (by simp)
        | _ :: _ :: _ :: _ :: _, HKS, _, _ => exact absurd (HKS.out.trans HK3.out) (by simp)
      · have hcls : (10 ≤ o ∧ o ≤ 12) ∨ (6 ≤ o ∧ o < 10) ∨ (o < 6) := by omega
        clear ho
        rcases hcls with hcls | hcls | hcls
        all_goals
          obtain ⟨want, hw⟩ : ∃ want : Int, want = (if 10 ≤ o then 2 else 1) := ⟨_, rfl⟩
          first | rw [if_pos (by omega)] at hw | rw [if_neg (by omega)] at hw
          have HW := Lib.hid hw
          clear hw
          go_wp2
          go_loop [8] (fun j => ∃ m : Nat, m ≤ k ∧ j = .int .i64 m ∧ Hid (∃ r2, m + r2.length = k ∧ IRo wr A' m r2 ∧ ks.all (· == want) = r2.all (· == want))) (fun j => k - (intOf j).toNat)
          case atStart => exact ⟨0, Nat.zero_le _, rfl, ks, by have := HKS.out; omega, HI.out, rfl⟩
          case round =>
            obtain ⟨m, hm, rfl, HR2⟩ := hrel
            obtain ⟨r2, hr2, hi2, ha2⟩ := HR2.out
            have HA2 := Lib.hid ha2
            have HL2 := Lib.hid hr2
            clear HR2 ha2 hr2
            match r2 with
            | [] =>
              have hlt : ¬ m < k := by have := HL2.out; simp at this; omega
              go_wp2
              go_ret
              refine ⟨ret_int ?_, HB.out⟩
              have e := HA2.out
              rw [HW.out] at e
              rw [HE.out, kindOp, if_neg (by omega)]
              first
                | rw [if_pos (by omega), e]; rfl
                | rw [if_neg (by omega), if_pos (by omega), e]; rfl
                | rw [if_neg (by omega), if_neg (by omega), e]; rfl
            | q :: r2 =>
              have hlt : m < k := by have := HL2.out; simp at this; omega
              obtain ⟨g, off, rfl, e0, _, _, _, hi3⟩ := hi2.cons
              by_cases hq : q = want
              · have hq2 : (q != want) = false := by simpa using hq
                rw [HW.out] at hq2
                have HQ := Lib.hid hq
                clear hq
                go_wp2
                go_round
                case rel => exact ⟨m + 1, by omega, by go_num, r2, by have := HL2.out; simp at this; omega, hi3, by rw [HA2.out]; simp [HQ.out]⟩
                case measure => simp [intOf]; omega
              · have hq2 : (q != want) = true := by simpa using hq
                rw [HW.out] at hq2
                have HQ := Lib.hid hq
                clear hq
                go_wp2
                go_ret
                refine ⟨ret_int ?_, HB.out⟩
                have e : ks.all (· == want) = false := by rw [HA2.out]; simp [HQ.out]
                rw [HW.out] at e
                rw [HE.out, kindOp, if_neg (by omega)]
                first
                  | rw [if_pos (by omega), e]; rfl
                  | rw [if_neg (by omega), if_pos (by omega), e]; rfl
                  | rw [if_neg (by omega), if_neg (by omega), e]; rfl
    | y :: r =>
      have hlt : k < N := by have := HLN.out; simp at this; omega
      obtain ⟨b1, f1, rfl, A1, c1, a0, a1, a2, a3, hb1, hb1', hb1'', hy, hry⟩ := her.cons'
      have HC' := Lib.hid (IH.out y (hsub y (by simp)) _ wr (ER.below HB.out _ _ hy))
      obtain ⟨q, hq⟩ : ∃ q, kindE y = q := ⟨_, rfl⟩
      have HQ := Lib.hid hq
      clear hq
      go_wp2_with fail
      refine (HC'.out).mono ?_
      rw [HQ.out]
      rintro en w2 ⟨rfl, hb2⟩
      have HK2 := Lib.hid (keep2 HK.out hb2)
      have HOW2 := Lib.hid (World.ownsRow.kept HOW.out (w' := w2) (row := none) ⟨hb2.os, hb2.tape, hb2.output, hb2.size, fun i hi _ => hb2.block i hi⟩ (by cases h : Value.ownBlock _ <;> simp))
      clear hb2
      by_cases hz : q = 0
      · subst hz
        go_wp2
        go_ret
        exact ⟨ret_int (by rw [kindE, HF.out, kindL, if_pos HQ.out]; rfl), (((Below.refl _ w).alloc (Nat.le_refl _) _).trans (HK2.out.1.mono (Nat.le_succ _)))⟩
      · have hz2 : (q == 0) = false := by simpa using hz
        have HZ := Lib.hid hz
        clear hz
        go_wp2_with (at_builtin; refine app_int rfl _ _ rfl (w.heap.size + 1) _ k ks rfl (HOW2.out.alloc _) _ q rfl (by simp [go_sem]) (by omega) (by have := HK2.out.2.1; simp; omega) ?_; intro v' w1 hown1 hg1; obtain ⟨A2, c2, rfl⟩ := own_form hown1)
        go_roundw
        case rel => exact ⟨k + 1, A2, c2, by omega, by go_num, rfl, r, ks ++ [q], by have := HLN.out; simp at this; omega, by have := HKS.out; simp; omega, hry, fun e he => hsub e (by simp [he]), by rw [HF.out, kindL, if_neg (by rw [HQ.out]; exact HZ.out), HQ.out]; simp [Function.comp_def], hown1, keepG (keepA HK2.out _) hg1 (own_ge HOW2.out)⟩
        case measure => simp [intOf]; omega
end Go.Proofs.Ytmclnnpaephkpaa

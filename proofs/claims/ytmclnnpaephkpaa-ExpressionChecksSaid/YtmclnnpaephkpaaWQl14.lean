/-
  WALKS of chapter 14: bounds of the program at a negation, a conjunction, a disjunction.
-/
import Derived.Test.YtmclnnpaephkpaaWQ14
import Derived.Test.YtmclnnpaephkpaaWB14
namespace Go.Proofs.Ytmclnnpaephkpaa
set_option linter.unusedVariables false
set_option linter.unusedSimpArgs false
set_option linter.unnecessarySimpa false
set_option linter.unusedSectionVars false
open Go.RowKit
set_option maxRecDepth 100000 in
set_option maxHeartbeats 2000000 in
theorem bounds_not (vs : List VT) (hvs : VarsOK vs) (o x i : Int) (l : List EX) (ih : ∀ e, e ∈ l → RightE vs.length e → BoundsSaid vs e) (hcls : Hid (o = 10)) : RightE vs.length (.node o x i l) → BoundsSaid vs (.node o x i l) := by
  intro hwf v Av nv cv w hnv hncv hcv hv hvals
  have HALL : Hid (∀ e, e ∈ l → ∀ r, boundsE vs e = some r → SpanOK e r) := Lib.hid fun e he => boundsE_ok hvs e (wf_args hwf e he)
  obtain ⟨A, cc, rfl, hlc, hcm, hA⟩ := hv
  have HW := Lib.hid hwf
  have HA := Lib.hid (ER.ero hA)
  have IH : Hid (∀ e, e ∈ l → BoundsSaid vs e) := Lib.hid fun e he => ih e he (wf_args hwf e he)
  have HI := Lib.hid hvals
  have HNV := Lib.hid hnv
  have hops : 0 ≤ o ∧ o ≤ 13 := by have h := hwf.1; rw [wfE] at h; exact argsS_rng o _ h.1
  have hN3 : l.length ≤ 3 := by have h := hwf.1; rw [wfE] at h; have := argsS_le3 o _ h.1; omega
  obtain ⟨N, hN⟩ : ∃ N, l.length = N := ⟨_, rfl⟩
  rw [hN] at hlc hN3 ⊢
  have HN := Lib.hid hN
  clear hA hwf ih hvs hvals hnv hN
  go_enter Try.func52, Try.ntmps52
  go_wp2
  go_loopw [6, 16] (fun s j wr => ∃ k : Nat, ∃ A' : Option Addr, ∃ c' : Nat, k ≤ N ∧ j = .int .i64 k ∧ s = .slice A' k c' ∧ Hid (∃ r os, k + r.length = N ∧ os.length = k ∧ ERo w A k r ∧ (∀ e, e ∈ r → e ∈ l) ∧ boundsL vs l = (boundsL vs r).map (os ++ ·) ∧ wr.ownsRow (w.heap.size + 2) 88 2 (.slice A' k c') k (flatS os) ∧ Keeps (w.heap.size + 2) ((w.alloc (.cells #[.int .i64 o, .int .i64 x, .int .i64 i, .slice A N cc] 24)).alloc (.cells #[.int .i64 0, .int .i64 0] 88)) wr)) (fun _ j _ => N - (intOf j).toNat)
  case atStart => exact ⟨0, none, 0, Nat.zero_le _, rfl, rfl, l, [], by have := HN.out; omega, rfl, HA.out, fun _ h => h, by simp, World.ownsRow_nil _ _ _ _, keepSelf (by simp)⟩
  case round =>
    obtain ⟨k, A', c', hk, rfl, rfl, HR⟩ := hrel
    obtain ⟨r, os, hr, hos, her, hsub, hf, hown, hkeep⟩ := HR.out
    have hcell := hkeep.2.2
    have hfro := bfro1 hkeep.1
    have hsz := hkeep.2.1
    have z0 : wr.cell? ⟨w.heap.size + 1, 0, none⟩ = some (.int .i64 0) := by rw [hcell _ _ (by omega)]; simp [go_sem]
    have z1 : wr.cell? ⟨w.heap.size + 1, 1, none⟩ = some (.int .i64 0) := by rw [hcell _ _ (by omega)]; simp [go_sem]
    have hzl : w.heap.size + 1 < wr.heap.size := by omega
    have hne1 : ¬ wr.heap.size = w.heap.size := by omega
    have hne2 : ¬ w.heap.size = wr.heap.size := by omega
    have HF := Lib.hid hf
    have HLN := Lib.hid hr
    have HOS := Lib.hid hos
    have HOW := Lib.hid hown
    have HK := Lib.hid hkeep
    have HB := Lib.hid ((((Below.refl _ w).alloc (Nat.le_refl _) _).alloc (by simp) _).trans (hkeep.1.mono (Nat.le_add_right _ _)))
    clear hf hr HR hos hown hkeep
    match r with
    | [] =>
      obtain rfl : k = N := by have := HLN.out; simp at this; omega
      have HL : Hid (boundsL vs l = some os) := Lib.hid (by rw [HF.out]; simp [boundsL])
      have hcl := hcls.out
      have ho0 : ¬ o = 0 := by omega
      have ho1 : ¬ o = 1 := by omega
      clear hcl
      have HO : Hid (o ≠ 0 ∧ o ≠ 1) := Lib.hid ⟨ho0, ho1⟩
      have HS : Hid (SpOK o os) := Lib.hid (span_ok HW.out.1 HW.out.2.2 HO.out HL.out HALL.out)
      have HE : Hid (boundsE vs (.node o x i l) = boundsOp o os) := Lib.hid (by rw [boundsE_op HO.out, HL.out]; rfl)
      have HSR := Lib.hid (SRo.of_own HOS.out.symm HOW.out)
      have t0 : (o == 0) = false := by simpa using ho0
      have t1 : (o == 1) = false := by simpa using ho1
      clear ho0 ho1
      have HZ : Hid (∀ o, o < 2 → wr.cell? ⟨w.heap.size + 1, o, none⟩ = some (.int .i64 0)) := Lib.hid fun o ho => by
        match o with
        | 0 => exact z0
        | 1 => exact z1
      have HW1 : Hid (Below w.heap.size w wr ∧ w.heap.size + 2 ≤ wr.heap.size ∧ Keeps (w.heap.size + 2) ((w.alloc (.cells #[.int .i64 o, .int .i64 x, .int .i64 i, .slice A k cc] 24)).alloc (.cells #[.int .i64 0, .int .i64 0] 88)) wr) := Lib.hid ⟨HB.out, hsz, HK.out⟩
      have HEO : Hid (∀ r, boundsOp o os = some r → boundsE vs (.node o x i l) = some r) := Lib.hid fun r h => by rw [HE.out, h]
      have hcl := hcls.out
      clear her hsub HALL IH HI HA t0 t1
      have HAR : Hid (∃ p, os = [p] ∧ Sp p ∧ Sb p) := Lib.hid (by
        rcases HS.out with ⟨p, rfl, hp⟩ | ⟨p, q, rfl, ho, hp⟩ | ⟨p, q, rfl, ho, hp⟩ | ⟨p, q, u, rfl, rfl, hp⟩
        · rcases hp with hp | hp
          · omega
          · exact ⟨p, rfl, hp.2⟩
        · omega
        · omega
        · omega)
      clear hcls
      subst hcl
      obtain ⟨⟨p1, p2⟩, rfl, hp, hpb⟩ := HAR.out
      obtain ⟨g, off, rfl, hg, s0, s1, _⟩ := HSR.out (by simp)
      simp only [Sp] at hp
      simp only at s0 s1 hp
      have hgb : w.heap.size + 2 ≤ g := own_ge HOW.out g rfl
      have hk1 : Hid (k = 1) := HOS.out.symm
      have hk0 : (0 : Int) < (k : Int) := by have := hk1.out; omega
      have x4 : wr.frozen? ⟨w.heap.size + 1, 0, none⟩ = false := by rw [hfro _ _ (by omega)]; simp [go_sem]
      have x5 : wr.frozen? ⟨w.heap.size + 1, 1, none⟩ = false := by rw [hfro _ _ (by omega)]; simp [go_sem]
      have hk0' : 0 < k := by omega
      have HEQ : Hid (boundsE vs (.node 10 x i l) = some (1 - p2, 1 - p1)) := Lib.hid (HEO.out _ rfl)
      have e1 : IntKind.i64.wrap (1 - p1) = 1 - p1 := IntWalk.i64_in _ (by omega)
      have e2 : IntKind.i64.wrap (1 - p2) = 1 - p2 := IntWalk.i64_in _ (by omega)
      clear HS HE hp hpb HAR HW hops
      go_wp2_with fail
      refine wp_region_noPanic ?_
      refine wp_region_held_drew (S := fun w' => ∀ b o, b = w.heap.size ∨ b = g → w'.cell? ⟨b, o, none⟩ = wr.cell? ⟨b, o, none⟩) (by kernel_rfl) (fun _ _ _ => rfl) (fun hS0 => ?_)
      refine takeW (v := ?_) 0 rfl (by kernel_rfl) (by kernel_rfl) (by kernel_rfl) (fun _ _ _ h => h) (by rfl) ?_ (by assumption) ?_
      rotate_left 1
      · (intro w hSw; (try dsimp only at hSw); go_simp; try (with_reducible rfl))
      try simp only [Act.put, List.setIfInBounds_toArray, List.set_cons_zero, List.set_cons_succ]
      refine takeW (v := ?_) 1 rfl (by kernel_rfl) (by kernel_rfl) (by kernel_rfl) (fun _ _ _ h => h) (by rfl) ?_ (by assumption) ?_
      rotate_left 1
      · (intro w hSw; (try dsimp only at hSw); go_simp; try (with_reducible rfl))
      try simp only [Act.put, List.setIfInBounds_toArray, List.set_cons_zero, List.set_cons_succ]
      refine takeW (v := ?_) 2 rfl (by kernel_rfl) (by kernel_rfl) (by kernel_rfl) (fun _ _ _ h => h) (by rfl) ?_ (by assumption) ?_
      rotate_left 1
      · (intro w hSw; (try dsimp only at hSw); go_simp; try (with_reducible rfl))
      try simp only [Act.put, List.setIfInBounds_toArray, List.set_cons_zero, List.set_cons_succ]
      refine takeW (v := ?_) 3 rfl (by kernel_rfl) (by kernel_rfl) (by kernel_rfl) (fun _ _ _ h => h) (by rfl) ?_ (by assumption) ?_
      rotate_left 1
      · (intro w hSw; (try dsimp only at hSw); go_simp; try (with_reducible rfl))
      try simp only [Act.put, List.setIfInBounds_toArray, List.set_cons_zero, List.set_cons_succ]
      refine takeW (v := ?_) 4 rfl (by kernel_rfl) (by kernel_rfl) (by kernel_rfl) (fun _ _ _ h => h) (by rfl) ?_ (by assumption) ?_
      rotate_left 1
      · (intro w hSw; (try dsimp only at hSw); go_simp; try (with_reducible rfl))
      try simp only [Act.put, List.setIfInBounds_toArray, List.set_cons_zero, List.set_cons_succ]
      refine takeW (v := ?_) 5 rfl (by kernel_rfl) (by kernel_rfl) (by kernel_rfl) (fun _ _ _ h => h) (by rfl) ?_ (by assumption) ?_
      rotate_left 1
      · (intro w hSw; (try dsimp only at hSw); go_simp; try (with_reducible rfl))
      try simp only [Act.put, List.setIfInBounds_toArray, List.set_cons_zero, List.set_cons_succ]
      refine takeW (v := ?_) 6 rfl (by kernel_rfl) (by kernel_rfl) (by kernel_rfl) (fun _ _ _ h => h) (by rfl) ?_ (by assumption) ?_
      rotate_left 1
      · (intro w hSw; (try dsimp only at hSw); go_simp; try (with_reducible rfl))
      try simp only [Act.put, List.setIfInBounds_toArray, List.set_cons_zero, List.set_cons_succ]
      refine takeW (v := ?_) 7 rfl (by kernel_rfl) (by kernel_rfl) (by kernel_rfl) (fun _ _ _ h => h) (by rfl) ?_ (by assumption) ?_
      rotate_left 1
      · (intro w hSw; (try dsimp only at hSw); go_simp; try (with_reducible rfl))
      try simp only [Act.put, List.setIfInBounds_toArray, List.set_cons_zero, List.set_cons_succ]
      refine takeW (v := ?_) 8 rfl (by kernel_rfl) (by kernel_rfl) (by kernel_rfl) (fun _ _ _ h => h) (by rfl) ?_ (by assumption) ?_
      rotate_left 1
      · (intro w hSw; (try dsimp only at hSw); go_simp; try (with_reducible rfl))
      try simp only [Act.put, List.setIfInBounds_toArray, List.set_cons_zero, List.set_cons_succ]
      refine takeW (v := ?_) 9 rfl (by kernel_rfl) (by kernel_rfl) (by kernel_rfl) (fun _ _ _ h => h) (by rfl) ?_ (by assumption) ?_
      rotate_left 1
      · (intro w hSw; (try dsimp only at hSw); go_simp; try (with_reducible rfl))
      try simp only [Act.put, List.setIfInBounds_toArray, List.set_cons_zero, List.set_cons_succ]
      refine takeW (v := ?_) 10 rfl (by kernel_rfl) (by kernel_rfl) (by kernel_rfl) (fun _ _ _ h => h) (by rfl) ?_ (by assumption) ?_
      rotate_left 1
      · (intro w hSw; (try dsimp only at hSw); go_simp; try (with_reducible rfl))
      try simp only [Act.put, List.setIfInBounds_toArray, List.set_cons_zero, List.set_cons_succ]
      refine comeC 11 rfl (by kernel_rfl) (by rfl) (fun K hK => ?_)
      go_simp
      skip
      try (go_wp2_with fail)
      refine hK.out _ _ ?_ (fun hS11 => ?_)
      · exact fun b o h => (World.cell?_setCell_far _ _ _ _ (by simp; omega)).trans ((World.cell?_setCell_far _ _ _ _ (by simp; omega)).trans (hS0 b o h))
      clear hK K
      try simp only [Act.put, List.setIfInBounds_toArray, List.set_cons_zero, List.set_cons_succ]
      refine takeW (v := ?_) 12 rfl (by kernel_rfl) (by kernel_rfl) (by kernel_rfl) (fun _ _ _ h => h) (by rfl) ?_ (by assumption) ?_
      rotate_left 1
      · (intro w hSw; (try dsimp only at hSw); go_simp; try (with_reducible rfl))
      try simp only [Act.put, List.setIfInBounds_toArray, List.set_cons_zero, List.set_cons_succ]
      refine wpAnyH_done (by kernel_rfl) ?_ _
      refine NoPanic.normal ?_
      clear hS0 hS11 e1 e2
      go_wp2
      refine bodyPost_ret (v := .tuple #[.agg #[.int .i64 (1 - p2), .int .i64 (1 - p1)], .bool true]) (by simp [results, Try.results52, go_sem, z0, z1, hzl]) rfl (bpost (1 - p2, 1 - p1) (by rw [HEQ.out]; rfl) (fun r h => Option.some.inj (HEQ.out.symm.trans h)) ?_)
      exact ((HB.out.setCell (by simp) _).setCell (by simp) _).drew
    | y :: r =>
      have hlt : k < N := by have := HLN.out; simp at this; omega
      obtain ⟨b1, f1, rfl, A1, c1, a0, a1, a2, a3, hb1, hb1', hb1'', hy, hry⟩ := her.cons'
      have hbal := HB.out.alloc HB.out.size (.cells #[.int .i64 y.op, .int .i64 y.val, .int .i64 y.idx, .slice A1 y.args.length c1] 24)
      have HC' := Lib.hid (IH.out y (hsub y (by simp)) _ _ nv cv (wr.alloc (.cells #[.int .i64 y.op, .int .i64 y.val, .int .i64 y.idx, .slice A1 y.args.length c1] 24)) HNV.out hncv hcv (ER.below hbal _ _ hy) (HI.out.kept hbal (Nat.le_refl _)))
      obtain ⟨ov, hov⟩ : ∃ ov, boundsE vs y = ov := ⟨_, rfl⟩
      have HV := Lib.hid hov
      have hb1h : b1 < w.heap.size + 2 := by omega
      clear hov hbal
      go_wp2_with fail
      refine (HC'.out).mono ?_
      rintro en w2 hbp
      unfold BPost at hbp
      rw [HV.out] at hbp
      obtain ⟨q, rfl, hq, hb2⟩ := hbp
      have HQ := Lib.hid hq
      have HK2 := Lib.hid (keep2 (keepA HK.out _) hb2)
      have HOW2 := Lib.hid (ownBelowN (HOW.out.alloc _) hb2)
      have hc2 := HK2.out.2.2
      have hf2 := bfro1 HK2.out.1
      have hs2 := HK2.out.2.1
      have y0 : w2.cell? ⟨w.heap.size + 1, 0, none⟩ = some (.int .i64 0) := by rw [hc2 _ _ (by omega)]; simp [go_sem]
      have y1 : w2.cell? ⟨w.heap.size + 1, 1, none⟩ = some (.int .i64 0) := by rw [hc2 _ _ (by omega)]; simp [go_sem]
      have hyl : w.heap.size + 1 < w2.heap.size := by omega
      have HB2 := Lib.hid ((((Below.refl _ w).alloc (Nat.le_refl _) _).alloc (by simp) _).trans (HK2.out.1.mono (Nat.le_add_right w.heap.size 2)))
      clear hq hb2
      match ov with
      | none =>
        go_wp2
        refine bodyPost_ret (v := .tuple #[.agg #[.int .i64 0, .int .i64 0], .bool false]) (by simp [results, Try.results52, go_sem, y0, y1, hyl]) rfl (bpost (0, 0) (ret2_sb rfl rfl ?_) (fun r h => ?_) ?_)
        · rw [boundsE, HF.out, boundsL, HV.out]; rfl
        · rw [boundsE, HF.out, boundsL, HV.out] at h; cases h
        · exact (by repeat (first | exact Below.refl _ _ | assumption | refine Below.drew ?_ | refine below_drewN ?_ _ | refine Below.setCell ?_ (by simp; try omega) _ | refine Below.alloc ?_ (by simp; try omega) _))
      | some p =>
        obtain rfl := HQ.out p rfl
        go_wp2_with (at_builtin; refine app_span rfl _ _ rfl (w.heap.size + 2) _ k os rfl ((HOW2.out.alloc _).alloc _) _ q rfl (by simp [go_sem]) (by simp [go_sem]) (by omega) (by have := HK2.out.2.1; simp; omega) ?_; intro v' w1 hown1 hg1; obtain ⟨A2, c2, rfl⟩ := own_form hown1)
        go_roundw
        case rel => exact ⟨k + 1, A2, c2, by omega, by go_num, rfl, r, os ++ [q], by have := HLN.out; simp at this; omega, by have := HOS.out; simp; omega, hry, fun e he => hsub e (by simp [he]), by rw [HF.out, boundsL, HV.out]; simp [Function.comp_def], hown1, keepG (keepA (keepA HK2.out _) _) hg1 (fun k hk => by have := own_ge HOW2.out k hk; omega)⟩
        case measure => simp [intOf]; omega
set_option maxRecDepth 100000 in
set_option maxHeartbeats 2000000 in
theorem bounds_and (vs : List VT) (hvs : VarsOK vs) (o x i : Int) (l : List EX) (ih : ∀ e, e ∈ l → RightE vs.length e → BoundsSaid vs e) (hcls : Hid (o = 11)) : RightE vs.length (.node o x i l) → BoundsSaid vs (.node o x i l) := by
  intro hwf v Av nv cv w hnv hncv hcv hv hvals
  have HALL : Hid (∀ e, e ∈ l → ∀ r, boundsE vs e = some r → SpanOK e r) := Lib.hid fun e he => boundsE_ok hvs e (wf_args hwf e he)
  obtain ⟨A, cc, rfl, hlc, hcm, hA⟩ := hv
  have HW := Lib.hid hwf
  have HA := Lib.hid (ER.ero hA)
  have IH : Hid (∀ e, e ∈ l → BoundsSaid vs e) := Lib.hid fun e he => ih e he (wf_args hwf e he)
  have HI := Lib.hid hvals
  have HNV := Lib.hid hnv
  have hops : 0 ≤ o ∧ o ≤ 13 := by have h := hwf.1; rw [wfE] at h; exact argsS_rng o _ h.1
  have hN3 : l.length ≤ 3 := by have h := hwf.1; rw [wfE] at h; have := argsS_le3 o _ h.1; omega
  obtain ⟨N, hN⟩ : ∃ N, l.length = N := ⟨_, rfl⟩
  rw [hN] at hlc hN3 ⊢
  have HN := Lib.hid hN
  clear hA hwf ih hvs hvals hnv hN
  go_enter Try.func52, Try.ntmps52
  go_wp2
  go_loopw [6, 16] (fun s j wr => ∃ k : Nat, ∃ A' : Option Addr, ∃ c' : Nat, k ≤ N ∧ j = .int .i64 k ∧ s = .slice A' k c' ∧ Hid (∃ r os, k + r.length = N ∧ os.length = k ∧ ERo w A k r ∧ (∀ e, e ∈ r → e ∈ l) ∧ boundsL vs l = (boundsL vs r).map (os ++ ·) ∧ wr.ownsRow (w.heap.size + 2) 88 2 (.slice A' k c') k (flatS os) ∧ Keeps (w.heap.size + 2) ((w.alloc (.cells #[.int .i64 o, .int .i64 x, .int .i64 i, .slice A N cc] 24)).alloc (.cells #[.int .i64 0, .int .i64 0] 88)) wr)) (fun _ j _ => N - (intOf j).toNat)
  case atStart => exact ⟨0, none, 0, Nat.zero_le _, rfl, rfl, l, [], by have := HN.out; omega, rfl, HA.out, fun _ h => h, by simp, World.ownsRow_nil _ _ _ _, keepSelf (by simp)⟩
  case round =>
    obtain ⟨k, A', c', hk, rfl, rfl, HR⟩ := hrel
    obtain ⟨r, os, hr, hos, her, hsub, hf, hown, hkeep⟩ := HR.out
    have hcell := hkeep.2.2
    have hfro := bfro1 hkeep.1
    have hsz := hkeep.2.1
    have z0 : wr.cell? ⟨w.heap.size + 1, 0, none⟩ = some (.int .i64 0) := by rw [hcell _ _ (by omega)]; simp [go_sem]
    have z1 : wr.cell? ⟨w.heap.size + 1, 1, none⟩ = some (.int .i64 0) := by rw [hcell _ _ (by omega)]; simp [go_sem]
    have hzl : w.heap.size + 1 < wr.heap.size := by omega
    have hne1 : ¬ wr.heap.size = w.heap.size := by omega
    have hne2 : ¬ w.heap.size = wr.heap.size := by omega
    have HF := Lib.hid hf
    have HLN := Lib.hid hr
    have HOS := Lib.hid hos
    have HOW := Lib.hid hown
    have HK := Lib.hid hkeep
    have HB := Lib.hid ((((Below.refl _ w).alloc (Nat.le_refl _) _).alloc (by simp) _).trans (hkeep.1.mono (Nat.le_add_right _ _)))
    clear hf hr HR hos hown hkeep
    match r with
    | [] =>
      obtain rfl : k = N := by have := HLN.out; simp at this; omega
      have HL : Hid (boundsL vs l = some os) := Lib.hid (by rw [HF.out]; simp [boundsL])
      have hcl := hcls.out
      have ho0 : ¬ o = 0 := by omega
      have ho1 : ¬ o = 1 := by omega
      clear hcl
      have HO : Hid (o ≠ 0 ∧ o ≠ 1) := Lib.hid ⟨ho0, ho1⟩
      have HS : Hid (SpOK o os) := Lib.hid (span_ok HW.out.1 HW.out.2.2 HO.out HL.out HALL.out)
      have HE : Hid (boundsE vs (.node o x i l) = boundsOp o os) := Lib.hid (by rw [boundsE_op HO.out, HL.out]; rfl)
      have HSR := Lib.hid (SRo.of_own HOS.out.symm HOW.out)
      have t0 : (o == 0) = false := by simpa using ho0
      have t1 : (o == 1) = false := by simpa using ho1
      clear ho0 ho1
      have HZ : Hid (∀ o, o < 2 → wr.cell? ⟨w.heap.size + 1, o, none⟩ = some (.int .i64 0)) := Lib.hid fun o ho => by
        match o with
        | 0 => exact z0
        | 1 => exact z1
      have HW1 : Hid (Below w.heap.size w wr ∧ w.heap.size + 2 ≤ wr.heap.size ∧ Keeps (w.heap.size + 2) ((w.alloc (.cells #[.int .i64 o, .int .i64 x, .int .i64 i, .slice A k cc] 24)).alloc (.cells #[.int .i64 0, .int .i64 0] 88)) wr) := Lib.hid ⟨HB.out, hsz, HK.out⟩
      have HEO : Hid (∀ r, boundsOp o os = some r → boundsE vs (.node o x i l) = some r) := Lib.hid fun r h => by rw [HE.out, h]
      have hcl := hcls.out
      clear her hsub HALL IH HI HA t0 t1
      have HAR : Hid (∃ p q, os = [p, q] ∧ Sb p ∧ Sb q) := Lib.hid (by
        rcases HS.out with ⟨p, rfl, hp⟩ | ⟨p, q, rfl, ho, hp⟩ | ⟨p, q, rfl, ho, hp⟩ | ⟨p, q, u, rfl, rfl, hp⟩
        · omega
        · omega
        · exact ⟨p, q, rfl, hp.2.2⟩
        · omega)
      clear hcls
      subst hcl
      obtain ⟨⟨p1, p2⟩, ⟨q1, q2⟩, rfl, hp, hq⟩ := HAR.out
      obtain ⟨g, off, rfl, hg, s0, s1, s2, s3, _⟩ := HSR.out (by simp)
      simp only [Sb] at hp hq
      simp only at s0 s1 s2 s3
      have hgb : w.heap.size + 2 ≤ g := own_ge HOW.out g rfl
      have hk1 : Hid (k = 2) := HOS.out.symm
      have hk0 : (0 : Int) < (k : Int) := by have := hk1.out; omega
      have hk2 : (1 : Int) < (k : Int) := by have := hk1.out; omega
      have hk2' : 1 < k := by omega
      have x4 : wr.frozen? ⟨w.heap.size + 1, 0, none⟩ = false := by rw [hfro _ _ (by omega)]; simp [go_sem]
      have x5 : wr.frozen? ⟨w.heap.size + 1, 1, none⟩ = false := by rw [hfro _ _ (by omega)]; simp [go_sem]
      have hk0' : 0 < k := by omega
      have e1 := and01 p1 q1 hp.1 hq.1
      have e2 := and01 p2 q2 hp.2 hq.2
      have HEQ : Hid (boundsE vs (.node 11 x i l) = some (p1 * q1, p2 * q2)) := Lib.hid (HEO.out _ rfl)
      clear HS HE hp hq HAR HW hops
      go_wp2_with fail
      refine wp_region_noPanic ?_
      refine wp_region_held_drew (S := fun w' => ∀ b o, b = w.heap.size ∨ b = g → w'.cell? ⟨b, o, none⟩ = wr.cell? ⟨b, o, none⟩) (by kernel_rfl) (fun _ _ _ => rfl) (fun hS0 => ?_)
      refine takeW (v := ?_) 0 rfl (by kernel_rfl) (by kernel_rfl) (by kernel_rfl) (fun _ _ _ h => h) (by rfl) ?_ (by assumption) ?_
      rotate_left 1
      · (intro w hSw; (try dsimp only at hSw); go_simp; try (with_reducible rfl))
      try simp only [Act.put, List.setIfInBounds_toArray, List.set_cons_zero, List.set_cons_succ]
      refine takeW (v := ?_) 1 rfl (by kernel_rfl) (by kernel_rfl) (by kernel_rfl) (fun _ _ _ h => h) (by rfl) ?_ (by assumption) ?_
      rotate_left 1
      · (intro w hSw; (try dsimp only at hSw); go_simp; try (with_reducible rfl))
      try simp only [Act.put, List.setIfInBounds_toArray, List.set_cons_zero, List.set_cons_succ]
      refine takeW (v := ?_) 2 rfl (by kernel_rfl) (by kernel_rfl) (by kernel_rfl) (fun _ _ _ h => h) (by rfl) ?_ (by assumption) ?_
      rotate_left 1
      · (intro w hSw; (try dsimp only at hSw); go_simp; try (with_reducible rfl))
      try simp only [Act.put, List.setIfInBounds_toArray, List.set_cons_zero, List.set_cons_succ]
      refine takeW (v := ?_) 3 rfl (by kernel_rfl) (by kernel_rfl) (by kernel_rfl) (fun _ _ _ h => h) (by rfl) ?_ (by assumption) ?_
      rotate_left 1
      · (intro w hSw; (try dsimp only at hSw); go_simp; try (with_reducible rfl))
      try simp only [Act.put, List.setIfInBounds_toArray, List.set_cons_zero, List.set_cons_succ]
      refine takeW (v := ?_) 4 rfl (by kernel_rfl) (by kernel_rfl) (by kernel_rfl) (fun _ _ _ h => h) (by rfl) ?_ (by assumption) ?_
      rotate_left 1
      · (intro w hSw; (try dsimp only at hSw); go_simp; try (with_reducible rfl))
      try simp only [Act.put, List.setIfInBounds_toArray, List.set_cons_zero, List.set_cons_succ]
      refine takeW (v := ?_) 5 rfl (by kernel_rfl) (by kernel_rfl) (by kernel_rfl) (fun _ _ _ h => h) (by rfl) ?_ (by assumption) ?_
      rotate_left 1
      · (intro w hSw; (try dsimp only at hSw); go_simp; try (with_reducible rfl))
      try simp only [Act.put, List.setIfInBounds_toArray, List.set_cons_zero, List.set_cons_succ]
      refine takeW (v := ?_) 6 rfl (by kernel_rfl) (by kernel_rfl) (by kernel_rfl) (fun _ _ _ h => h) (by rfl) ?_ (by assumption) ?_
      rotate_left 1
      · (intro w hSw; (try dsimp only at hSw); go_simp; try (with_reducible rfl))
      try simp only [Act.put, List.setIfInBounds_toArray, List.set_cons_zero, List.set_cons_succ]
      refine takeW (v := ?_) 7 rfl (by kernel_rfl) (by kernel_rfl) (by kernel_rfl) (fun _ _ _ h => h) (by rfl) ?_ (by assumption) ?_
      rotate_left 1
      · (intro w hSw; (try dsimp only at hSw); go_simp; try (with_reducible rfl))
      try simp only [Act.put, List.setIfInBounds_toArray, List.set_cons_zero, List.set_cons_succ]
      refine takeW (v := ?_) 8 rfl (by kernel_rfl) (by kernel_rfl) (by kernel_rfl) (fun _ _ _ h => h) (by rfl) ?_ (by assumption) ?_
      rotate_left 1
      · (intro w hSw; (try dsimp only at hSw); go_simp; try (with_reducible rfl))
      try simp only [Act.put, List.setIfInBounds_toArray, List.set_cons_zero, List.set_cons_succ]
      refine takeW (v := ?_) 9 rfl (by kernel_rfl) (by kernel_rfl) (by kernel_rfl) (fun _ _ _ h => h) (by rfl) ?_ (by assumption) ?_
      rotate_left 1
      · (intro w hSw; (try dsimp only at hSw); go_simp; try (with_reducible rfl))
      try simp only [Act.put, List.setIfInBounds_toArray, List.set_cons_zero, List.set_cons_succ]
      refine takeW (v := ?_) 10 rfl (by kernel_rfl) (by kernel_rfl) (by kernel_rfl) (fun _ _ _ h => h) (by rfl) ?_ (by assumption) ?_
      rotate_left 1
      · (intro w hSw; (try dsimp only at hSw); go_simp; try (with_reducible rfl))
      try simp only [Act.put, List.setIfInBounds_toArray, List.set_cons_zero, List.set_cons_succ]
      refine takeW (v := ?_) 11 rfl (by kernel_rfl) (by kernel_rfl) (by kernel_rfl) (fun _ _ _ h => h) (by rfl) ?_ (by assumption) ?_
      rotate_left 1
      · (intro w hSw; (try dsimp only at hSw); go_simp; try (with_reducible rfl))
      try simp only [Act.put, List.setIfInBounds_toArray, List.set_cons_zero, List.set_cons_succ]
      refine takeW (v := ?_) 12 rfl (by kernel_rfl) (by kernel_rfl) (by kernel_rfl) (fun _ _ _ h => h) (by rfl) ?_ (by assumption) ?_
      rotate_left 1
      · (intro w hSw; (try dsimp only at hSw); go_simp; try (with_reducible rfl))
      try simp only [Act.put, List.setIfInBounds_toArray, List.set_cons_zero, List.set_cons_succ]
      refine takeW (v := ?_) 13 rfl (by kernel_rfl) (by kernel_rfl) (by kernel_rfl) (fun _ _ _ h => h) (by rfl) ?_ (by assumption) ?_
      rotate_left 1
      · (intro w hSw; (try dsimp only at hSw); go_simp; try (with_reducible rfl))
      try simp only [Act.put, List.setIfInBounds_toArray, List.set_cons_zero, List.set_cons_succ]
      refine takeW (v := ?_) 14 rfl (by kernel_rfl) (by kernel_rfl) (by kernel_rfl) (fun _ _ _ h => h) (by rfl) ?_ (by assumption) ?_
      rotate_left 1
      · (intro w hSw; (try dsimp only at hSw); go_simp; try (with_reducible rfl))
      try simp only [Act.put, List.setIfInBounds_toArray, List.set_cons_zero, List.set_cons_succ]
      refine takeW (v := ?_) 15 rfl (by kernel_rfl) (by kernel_rfl) (by kernel_rfl) (fun _ _ _ h => h) (by rfl) ?_ (by assumption) ?_
      rotate_left 1
      · (intro w hSw; (try dsimp only at hSw); go_simp; try (with_reducible rfl))
      try simp only [Act.put, List.setIfInBounds_toArray, List.set_cons_zero, List.set_cons_succ]
      refine takeW (v := ?_) 16 rfl (by kernel_rfl) (by kernel_rfl) (by kernel_rfl) (fun _ _ _ h => h) (by rfl) ?_ (by assumption) ?_
      rotate_left 1
      · (intro w hSw; (try dsimp only at hSw); go_simp; try (with_reducible rfl))
      try simp only [Act.put, List.setIfInBounds_toArray, List.set_cons_zero, List.set_cons_succ]
      refine takeW (v := ?_) 17 rfl (by kernel_rfl) (by kernel_rfl) (by kernel_rfl) (fun _ _ _ h => h) (by rfl) ?_ (by assumption) ?_
      rotate_left 1
      · (intro w hSw; (try dsimp only at hSw); go_simp; try (with_reducible rfl))
      try simp only [Act.put, List.setIfInBounds_toArray, List.set_cons_zero, List.set_cons_succ]
      refine takeW (v := ?_) 18 rfl (by kernel_rfl) (by kernel_rfl) (by kernel_rfl) (fun _ _ _ h => h) (by rfl) ?_ (by assumption) ?_
      rotate_left 1
      · (intro w hSw; (try dsimp only at hSw); go_simp; try (with_reducible rfl))
      try simp only [Act.put, List.setIfInBounds_toArray, List.set_cons_zero, List.set_cons_succ]
      refine comeC 19 rfl (by kernel_rfl) (by rfl) (fun K hK => ?_)
      go_simp
      skip
      try (go_wp2_with fail)
      refine hK.out _ _ ?_ (fun hS19 => ?_)
      · exact fun b o h => (World.cell?_setCell_far _ _ _ _ (by simp; omega)).trans ((World.cell?_setCell_far _ _ _ _ (by simp; omega)).trans (hS0 b o h))
      clear hK K
      try simp only [Act.put, List.setIfInBounds_toArray, List.set_cons_zero, List.set_cons_succ]
      refine takeW (v := ?_) 20 rfl (by kernel_rfl) (by kernel_rfl) (by kernel_rfl) (fun _ _ _ h => h) (by rfl) ?_ (by assumption) ?_
      rotate_left 1
      · (intro w hSw; (try dsimp only at hSw); go_simp; try (with_reducible rfl))
      try simp only [Act.put, List.setIfInBounds_toArray, List.set_cons_zero, List.set_cons_succ]
      refine wpAnyH_done (by kernel_rfl) ?_ _
      refine NoPanic.normal ?_
      clear hS0 hS19
      go_wp2
      refine bodyPost_ret (v := .tuple #[.agg #[.int .i64 (p1 * q1), .int .i64 (p2 * q2)], .bool true]) (by simp [results, Try.results52, go_sem, z0, z1, hzl, e1, e2]) rfl (bpost (p1 * q1, p2 * q2) (by rw [HEQ.out]; rfl) (fun r h => Option.some.inj (HEQ.out.symm.trans h)) ?_)
      exact ((HB.out.setCell (by simp) _).setCell (by simp) _).drew
    | y :: r =>
      have hlt : k < N := by have := HLN.out; simp at this; omega
      obtain ⟨b1, f1, rfl, A1, c1, a0, a1, a2, a3, hb1, hb1', hb1'', hy, hry⟩ := her.cons'
      have hbal := HB.out.alloc HB.out.size (.cells #[.int .i64 y.op, .int .i64 y.val, .int .i64 y.idx, .slice A1 y.args.length c1] 24)
      have HC' := Lib.hid (IH.out y (hsub y (by simp)) _ _ nv cv (wr.alloc (.cells #[.int .i64 y.op, .int .i64 y.val, .int .i64 y.idx, .slice A1 y.args.length c1] 24)) HNV.out hncv hcv (ER.below hbal _ _ hy) (HI.out.kept hbal (Nat.le_refl _)))
      obtain ⟨ov, hov⟩ : ∃ ov, boundsE vs y = ov := ⟨_, rfl⟩
      have HV := Lib.hid hov
      have hb1h : b1 < w.heap.size + 2 := by omega
      clear hov hbal
      go_wp2_with fail
      refine (HC'.out).mono ?_
      rintro en w2 hbp
      unfold BPost at hbp
      rw [HV.out] at hbp
      obtain ⟨q, rfl, hq, hb2⟩ := hbp
      have HQ := Lib.hid hq
      have HK2 := Lib.hid (keep2 (keepA HK.out _) hb2)
      have HOW2 := Lib.hid (ownBelowN (HOW.out.alloc _) hb2)
      have hc2 := HK2.out.2.2
      have hf2 := bfro1 HK2.out.1
      have hs2 := HK2.out.2.1
      have y0 : w2.cell? ⟨w.heap.size + 1, 0, none⟩ = some (.int .i64 0) := by rw [hc2 _ _ (by omega)]; simp [go_sem]
      have y1 : w2.cell? ⟨w.heap.size + 1, 1, none⟩ = some (.int .i64 0) := by rw [hc2 _ _ (by omega)]; simp [go_sem]
      have hyl : w.heap.size + 1 < w2.heap.size := by omega
      have HB2 := Lib.hid ((((Below.refl _ w).alloc (Nat.le_refl _) _).alloc (by simp) _).trans (HK2.out.1.mono (Nat.le_add_right w.heap.size 2)))
      clear hq hb2
      match ov with
      | none =>
        go_wp2
        refine bodyPost_ret (v := .tuple #[.agg #[.int .i64 0, .int .i64 0], .bool false]) (by simp [results, Try.results52, go_sem, y0, y1, hyl]) rfl (bpost (0, 0) (ret2_sb rfl rfl ?_) (fun r h => ?_) ?_)
        · rw [boundsE, HF.out, boundsL, HV.out]; rfl
        · rw [boundsE, HF.out, boundsL, HV.out] at h; cases h
        · exact (by repeat (first | exact Below.refl _ _ | assumption | refine Below.drew ?_ | refine below_drewN ?_ _ | refine Below.setCell ?_ (by simp; try omega) _ | refine Below.alloc ?_ (by simp; try omega) _))
      | some p =>
        obtain rfl := HQ.out p rfl
        go_wp2_with (at_builtin; refine app_span rfl _ _ rfl (w.heap.size + 2) _ k os rfl ((HOW2.out.alloc _).alloc _) _ q rfl (by simp [go_sem]) (by simp [go_sem]) (by omega) (by have := HK2.out.2.1; simp; omega) ?_; intro v' w1 hown1 hg1; obtain ⟨A2, c2, rfl⟩ := own_form hown1)
        go_roundw
        case rel => exact ⟨k + 1, A2, c2, by omega, by go_num, rfl, r, os ++ [q], by have := HLN.out; simp at this; omega, by have := HOS.out; simp; omega, hry, fun e he => hsub e (by simp [he]), by rw [HF.out, boundsL, HV.out]; simp [Function.comp_def], hown1, keepG (keepA (keepA HK2.out _) _) hg1 (fun k hk => by have := own_ge HOW2.out k hk; omega)⟩
        case measure => simp [intOf]; omega
set_option maxRecDepth 100000 in
set_option maxHeartbeats 2000000 in
theorem bounds_or (vs : List VT) (hvs : VarsOK vs) (o x i : Int) (l : List EX) (ih : ∀ e, e ∈ l → RightE vs.length e → BoundsSaid vs e) (hcls : Hid (o = 12)) : RightE vs.length (.node o x i l) → BoundsSaid vs (.node o x i l) := by
  intro hwf v Av nv cv w hnv hncv hcv hv hvals
  have HALL : Hid (∀ e, e ∈ l → ∀ r, boundsE vs e = some r → SpanOK e r) := Lib.hid fun e he => boundsE_ok hvs e (wf_args hwf e he)
  obtain ⟨A, cc, rfl, hlc, hcm, hA⟩ := hv
  have HW := Lib.hid hwf
  have HA := Lib.hid (ER.ero hA)
  have IH : Hid (∀ e, e ∈ l → BoundsSaid vs e) := Lib.hid fun e he => ih e he (wf_args hwf e he)
  have HI := Lib.hid hvals
  have HNV := Lib.hid hnv
  have hops : 0 ≤ o ∧ o ≤ 13 := by have h := hwf.1; rw [wfE] at h; exact argsS_rng o _ h.1
  have hN3 : l.length ≤ 3 := by have h := hwf.1; rw [wfE] at h; have := argsS_le3 o _ h.1; omega
  obtain ⟨N, hN⟩ : ∃ N, l.length = N := ⟨_, rfl⟩
  rw [hN] at hlc hN3 ⊢
  have HN := Lib.hid hN
  clear hA hwf ih hvs hvals hnv hN
  go_enter Try.func52, Try.ntmps52
  go_wp2
  go_loopw [6, 16] (fun s j wr => ∃ k : Nat, ∃ A' : Option Addr, ∃ c' : Nat, k ≤ N ∧ j = .int .i64 k ∧ s = .slice A' k c' ∧ Hid (∃ r os, k + r.length = N ∧ os.length = k ∧ ERo w A k r ∧ (∀ e, e ∈ r → e ∈ l) ∧ boundsL vs l = (boundsL vs r).map (os ++ ·) ∧ wr.ownsRow (w.heap.size + 2) 88 2 (.slice A' k c') k (flatS os) ∧ Keeps (w.heap.size + 2) ((w.alloc (.cells #[.int .i64 o, .int .i64 x, .int .i64 i, .slice A N cc] 24)).alloc (.cells #[.int .i64 0, .int .i64 0] 88)) wr)) (fun _ j _ => N - (intOf j).toNat)
  case atStart => exact ⟨0, none, 0, Nat.zero_le _, rfl, rfl, l, [], by have := HN.out; omega, rfl, HA.out, fun _ h => h, by simp, World.ownsRow_nil _ _ _ _, keepSelf (by simp)⟩
  case round =>
    obtain ⟨k, A', c', hk, rfl, rfl, HR⟩ := hrel
    obtain ⟨r, os, hr, hos, her, hsub, hf, hown, hkeep⟩ := HR.out
    have hcell := hkeep.2.2
    have hfro := bfro1 hkeep.1
    have hsz := hkeep.2.1
    have z0 : wr.cell? ⟨w.heap.size + 1, 0, none⟩ = some (.int .i64 0) := by rw [hcell _ _ (by omega)]; simp [go_sem]
    have z1 : wr.cell? ⟨w.heap.size + 1, 1, none⟩ = some (.int .i64 0) := by rw [hcell _ _ (by omega)]; simp [go_sem]
    have hzl : w.heap.size + 1 < wr.heap.size := by omega
    have hne1 : ¬ wr.heap.size = w.heap.size := by omega
    have hne2 : ¬ w.heap.size = wr.heap.size := by omega
    have HF := Lib.hid hf
    have HLN := Lib.hid hr
    have HOS := Lib.hid hos
    have HOW := Lib.hid hown
    have HK := Lib.hid hkeep
    have HB := Lib.hid ((((Below.refl _ w).alloc (Nat.le_refl _) _).alloc (by simp) _).trans (hkeep.1.mono (Nat.le_add_right _ _)))
    clear hf hr HR hos hown hkeep
    match r with
    | [] =>
      obtain rfl : k = N := by have := HLN.out; simp at this; omega
      have HL : Hid (boundsL vs l = some os) := Lib.hid (by rw [HF.out]; simp [boundsL])
      have hcl := hcls.out
      have ho0 : ¬ o = 0 := by omega
      have ho1 : ¬ o = 1 := by omega
      clear hcl
      have HO : Hid (o ≠ 0 ∧ o ≠ 1) := Lib.hid ⟨ho0, ho1⟩
      have HS : Hid (SpOK o os) := Lib.hid (span_ok HW.out.1 HW.out.2.2 HO.out HL.out HALL.out)
      have HE : Hid (boundsE vs (.node o x i l) = boundsOp o os) := Lib.hid (by rw [boundsE_op HO.out, HL.out]; rfl)
      have HSR := Lib.hid (SRo.of_own HOS.out.symm HOW.out)
      have t0 : (o == 0) = false := by simpa using ho0
      have t1 : (o == 1) = false := by simpa using ho1
      clear ho0 ho1
      have HZ : Hid (∀ o, o < 2 → wr.cell? ⟨w.heap.size + 1, o, none⟩ = some (.int .i64 0)) := Lib.hid fun o ho => by
        match o with
        | 0 => exact z0
        | 1 => exact z1
      have HW1 : Hid (Below w.heap.size w wr ∧ w.heap.size + 2 ≤ wr.heap.size ∧ Keeps (w.heap.size + 2) ((w.alloc (.cells #[.int .i64 o, .int .i64 x, .int .i64 i, .slice A k cc] 24)).alloc (.cells #[.int .i64 0, .int .i64 0] 88)) wr) := Lib.hid ⟨HB.out, hsz, HK.out⟩
      have HEO : Hid (∀ r, boundsOp o os = some r → boundsE vs (.node o x i l) = some r) := Lib.hid fun r h => by rw [HE.out, h]
      have hcl := hcls.out
      clear her hsub HALL IH HI HA t0 t1
      have HAR : Hid (∃ p q, os = [p, q] ∧ Sb p ∧ Sb q) := Lib.hid (by
        rcases HS.out with ⟨p, rfl, hp⟩ | ⟨p, q, rfl, ho, hp⟩ | ⟨p, q, rfl, ho, hp⟩ | ⟨p, q, u, rfl, rfl, hp⟩
        · omega
        · omega
        · exact ⟨p, q, rfl, hp.2.2⟩
        · omega)
      clear hcls
      subst hcl
      obtain ⟨⟨p1, p2⟩, ⟨q1, q2⟩, rfl, hp, hq⟩ := HAR.out
      obtain ⟨g, off, rfl, hg, s0, s1, s2, s3, _⟩ := HSR.out (by simp)
      simp only [Sb] at hp hq
      simp only at s0 s1 s2 s3
      have hgb : w.heap.size + 2 ≤ g := own_ge HOW.out g rfl
      have hk1 : Hid (k = 2) := HOS.out.symm
      have hk0 : (0 : Int) < (k : Int) := by have := hk1.out; omega
      have hk2 : (1 : Int) < (k : Int) := by have := hk1.out; omega
      have hk2' : 1 < k := by omega
      have x4 : wr.frozen? ⟨w.heap.size + 1, 0, none⟩ = false := by rw [hfro _ _ (by omega)]; simp [go_sem]
      have x5 : wr.frozen? ⟨w.heap.size + 1, 1, none⟩ = false := by rw [hfro _ _ (by omega)]; simp [go_sem]
      have hk0' : 0 < k := by omega
      have e1 := or01 p1 q1 hp.1 hq.1
      have e2 := or01 p2 q2 hp.2 hq.2
      have HEQ : Hid (boundsE vs (.node 12 x i l) = some (max p1 q1, max p2 q2)) := Lib.hid (HEO.out _ rfl)
      clear HS HE hp hq HAR HW hops
      go_wp2_with fail
      refine wp_region_noPanic ?_
      refine wp_region_held_drew (S := fun w' => ∀ b o, b = w.heap.size ∨ b = g → w'.cell? ⟨b, o, none⟩ = wr.cell? ⟨b, o, none⟩) (by kernel_rfl) (fun _ _ _ => rfl) (fun hS0 => ?_)
      refine takeW (v := ?_) 0 rfl (by kernel_rfl) (by kernel_rfl) (by kernel_rfl) (fun _ _ _ h => h) (by rfl) ?_ (by assumption) ?_
      rotate_left 1
      · (intro w hSw; (try dsimp only at hSw); go_simp; try (with_reducible rfl))
      try simp only [Act.put, List.setIfInBounds_toArray, List.set_cons_zero, List.set_cons_succ]
      refine takeW (v := ?_) 1 rfl (by kernel_rfl) (by kernel_rfl) (by kernel_rfl) (fun _ _ _ h => h) (by rfl) ?_ (by assumption) ?_
      rotate_left 1
      · (intro w hSw; (try dsimp only at hSw); go_simp; try (with_reducible rfl))
      try simp only [Act.put, List.setIfInBounds_toArray, List.set_cons_zero, List.set_cons_succ]
      refine takeW (v := ?_) 2 rfl (by kernel_rfl) (by kernel_rfl) (by kernel_rfl) (fun _ _ _ h => h) (by rfl) ?_ (by assumption) ?_
      rotate_left 1
      · (intro w hSw; (try dsimp only at hSw); go_simp; try (with_reducible rfl))
      try simp only [Act.put, List.setIfInBounds_toArray, List.set_cons_zero, List.set_cons_succ]
      refine takeW (v := ?_) 3 rfl (by kernel_rfl) (by kernel_rfl) (by kernel_rfl) (fun _ _ _ h => h) (by rfl) ?_ (by assumption) ?_
      rotate_left 1
      · (intro w hSw; (try dsimp only at hSw); go_simp; try (with_reducible rfl))
      try simp only [Act.put, List.setIfInBounds_toArray, List.set_cons_zero, List.set_cons_succ]
      refine takeW (v := ?_) 4 rfl (by kernel_rfl) (by kernel_rfl) (by kernel_rfl) (fun _ _ _ h => h) (by rfl) ?_ (by assumption) ?_
      rotate_left 1
      · (intro w hSw; (try dsimp only at hSw); go_simp; try (with_reducible rfl))
      try simp only [Act.put, List.setIfInBounds_toArray, List.set_cons_zero, List.set_cons_succ]
      refine takeW (v := ?_) 5 rfl (by kernel_rfl) (by kernel_rfl) (by kernel_rfl) (fun _ _ _ h => h) (by rfl) ?_ (by assumption) ?_
      rotate_left 1
      · (intro w hSw; (try dsimp only at hSw); go_simp; try (with_reducible rfl))
      try simp only [Act.put, List.setIfInBounds_toArray, List.set_cons_zero, List.set_cons_succ]
      refine takeW (v := ?_) 6 rfl (by kernel_rfl) (by kernel_rfl) (by kernel_rfl) (fun _ _ _ h => h) (by rfl) ?_ (by assumption) ?_
      rotate_left 1
      · (intro w hSw; (try dsimp only at hSw); go_simp; try (with_reducible rfl))
      try simp only [Act.put, List.setIfInBounds_toArray, List.set_cons_zero, List.set_cons_succ]
      refine takeW (v := ?_) 7 rfl (by kernel_rfl) (by kernel_rfl) (by kernel_rfl) (fun _ _ _ h => h) (by rfl) ?_ (by assumption) ?_
      rotate_left 1
      · (intro w hSw; (try dsimp only at hSw); go_simp; try (with_reducible rfl))
      try simp only [Act.put, List.setIfInBounds_toArray, List.set_cons_zero, List.set_cons_succ]
      refine takeW (v := ?_) 8 rfl (by kernel_rfl) (by kernel_rfl) (by kernel_rfl) (fun _ _ _ h => h) (by rfl) ?_ (by assumption) ?_
      rotate_left 1
      · (intro w hSw; (try dsimp only at hSw); go_simp; try (with_reducible rfl))
      try simp only [Act.put, List.setIfInBounds_toArray, List.set_cons_zero, List.set_cons_succ]
      refine takeW (v := ?_) 9 rfl (by kernel_rfl) (by kernel_rfl) (by kernel_rfl) (fun _ _ _ h => h) (by rfl) ?_ (by assumption) ?_
      rotate_left 1
      · (intro w hSw; (try dsimp only at hSw); go_simp; try (with_reducible rfl))
      try simp only [Act.put, List.setIfInBounds_toArray, List.set_cons_zero, List.set_cons_succ]
      refine takeW (v := ?_) 10 rfl (by kernel_rfl) (by kernel_rfl) (by kernel_rfl) (fun _ _ _ h => h) (by rfl) ?_ (by assumption) ?_
      rotate_left 1
      · (intro w hSw; (try dsimp only at hSw); go_simp; try (with_reducible rfl))
      try simp only [Act.put, List.setIfInBounds_toArray, List.set_cons_zero, List.set_cons_succ]
      refine takeW (v := ?_) 11 rfl (by kernel_rfl) (by kernel_rfl) (by kernel_rfl) (fun _ _ _ h => h) (by rfl) ?_ (by assumption) ?_
      rotate_left 1
      · (intro w hSw; (try dsimp only at hSw); go_simp; try (with_reducible rfl))
      try simp only [Act.put, List.setIfInBounds_toArray, List.set_cons_zero, List.set_cons_succ]
      refine takeW (v := ?_) 12 rfl (by kernel_rfl) (by kernel_rfl) (by kernel_rfl) (fun _ _ _ h => h) (by rfl) ?_ (by assumption) ?_
      rotate_left 1
      · (intro w hSw; (try dsimp only at hSw); go_simp; try (with_reducible rfl))
      try simp only [Act.put, List.setIfInBounds_toArray, List.set_cons_zero, List.set_cons_succ]
      refine takeW (v := ?_) 13 rfl (by kernel_rfl) (by kernel_rfl) (by kernel_rfl) (fun _ _ _ h => h) (by rfl) ?_ (by assumption) ?_
      rotate_left 1
      · (intro w hSw; (try dsimp only at hSw); go_simp; try (with_reducible rfl))
      try simp only [Act.put, List.setIfInBounds_toArray, List.set_cons_zero, List.set_cons_succ]
      refine takeW (v := ?_) 14 rfl (by kernel_rfl) (by kernel_rfl) (by kernel_rfl) (fun _ _ _ h => h) (by rfl) ?_ (by assumption) ?_
      rotate_left 1
      · (intro w hSw; (try dsimp only at hSw); go_simp; try (with_reducible rfl))
      try simp only [Act.put, List.setIfInBounds_toArray, List.set_cons_zero, List.set_cons_succ]
      refine takeW (v := ?_) 15 rfl (by kernel_rfl) (by kernel_rfl) (by kernel_rfl) (fun _ _ _ h => h) (by rfl) ?_ (by assumption) ?_
      rotate_left 1
      · (intro w hSw; (try dsimp only at hSw); go_simp; try (with_reducible rfl))
      try simp only [Act.put, List.setIfInBounds_toArray, List.set_cons_zero, List.set_cons_succ]
      refine takeW (v := ?_) 16 rfl (by kernel_rfl) (by kernel_rfl) (by kernel_rfl) (fun _ _ _ h => h) (by rfl) ?_ (by assumption) ?_
      rotate_left 1
      · (intro w hSw; (try dsimp only at hSw); go_simp; try (with_reducible rfl))
      try simp only [Act.put, List.setIfInBounds_toArray, List.set_cons_zero, List.set_cons_succ]
      refine takeW (v := ?_) 17 rfl (by kernel_rfl) (by kernel_rfl) (by kernel_rfl) (fun _ _ _ h => h) (by rfl) ?_ (by assumption) ?_
      rotate_left 1
      · (intro w hSw; (try dsimp only at hSw); go_simp; try (with_reducible rfl))
      try simp only [Act.put, List.setIfInBounds_toArray, List.set_cons_zero, List.set_cons_succ]
      refine takeW (v := ?_) 18 rfl (by kernel_rfl) (by kernel_rfl) (by kernel_rfl) (fun _ _ _ h => h) (by rfl) ?_ (by assumption) ?_
      rotate_left 1
      · (intro w hSw; (try dsimp only at hSw); go_simp; try (with_reducible rfl))
      try simp only [Act.put, List.setIfInBounds_toArray, List.set_cons_zero, List.set_cons_succ]
      refine comeC 19 rfl (by kernel_rfl) (by rfl) (fun K hK => ?_)
      go_simp
      skip
      try (go_wp2_with fail)
      refine hK.out _ _ ?_ (fun hS19 => ?_)
      · exact fun b o h => (World.cell?_setCell_far _ _ _ _ (by simp; omega)).trans ((World.cell?_setCell_far _ _ _ _ (by simp; omega)).trans (hS0 b o h))
      clear hK K
      try simp only [Act.put, List.setIfInBounds_toArray, List.set_cons_zero, List.set_cons_succ]
      refine takeW (v := ?_) 20 rfl (by kernel_rfl) (by kernel_rfl) (by kernel_rfl) (fun _ _ _ h => h) (by rfl) ?_ (by assumption) ?_
      rotate_left 1
      · (intro w hSw; (try dsimp only at hSw); go_simp; try (with_reducible rfl))
      try simp only [Act.put, List.setIfInBounds_toArray, List.set_cons_zero, List.set_cons_succ]
      refine wpAnyH_done (by kernel_rfl) ?_ _
      refine NoPanic.normal ?_
      clear hS0 hS19
      go_wp2
      refine bodyPost_ret (v := .tuple #[.agg #[.int .i64 (max p1 q1), .int .i64 (max p2 q2)], .bool true]) (by simp [results, Try.results52, go_sem, z0, z1, hzl, e1, e2]) rfl (bpost (max p1 q1, max p2 q2) (by rw [HEQ.out]; rfl) (fun r h => Option.some.inj (HEQ.out.symm.trans h)) ?_)
      exact ((HB.out.setCell (by simp) _).setCell (by simp) _).drew
    | y :: r =>
      have hlt : k < N := by have := HLN.out; simp at this; omega
      obtain ⟨b1, f1, rfl, A1, c1, a0, a1, a2, a3, hb1, hb1', hb1'', hy, hry⟩ := her.cons'
      have hbal := HB.out.alloc HB.out.size (.cells #[.int .i64 y.op, .int .i64 y.val, .int .i64 y.idx, .slice A1 y.args.length c1] 24)
      have HC' := Lib.hid (IH.out y (hsub y (by simp)) _ _ nv cv (wr.alloc (.cells #[.int .i64 y.op, .int .i64 y.val, .int .i64 y.idx, .slice A1 y.args.length c1] 24)) HNV.out hncv hcv (ER.below hbal _ _ hy) (HI.out.kept hbal (Nat.le_refl _)))
      obtain ⟨ov, hov⟩ : ∃ ov, boundsE vs y = ov := ⟨_, rfl⟩
      have HV := Lib.hid hov
      have hb1h : b1 < w.heap.size + 2 := by omega
      clear hov hbal
      go_wp2_with fail
      refine (HC'.out).mono ?_
      rintro en w2 hbp
      unfold BPost at hbp
      rw [HV.out] at hbp
      obtain ⟨q, rfl, hq, hb2⟩ := hbp
      have HQ := Lib.hid hq
      have HK2 := Lib.hid (keep2 (keepA HK.out _) hb2)
      have HOW2 := Lib.hid (ownBelowN (HOW.out.alloc _) hb2)
      have hc2 := HK2.out.2.2
      have hf2 := bfro1 HK2.out.1
      have hs2 := HK2.out.2.1
      have y0 : w2.cell? ⟨w.heap.size + 1, 0, none⟩ = some (.int .i64 0) := by rw [hc2 _ _ (by omega)]; simp [go_sem]
      have y1 : w2.cell? ⟨w.heap.size + 1, 1, none⟩ = some (.int .i64 0) := by rw [hc2 _ _ (by omega)]; simp [go_sem]
      have hyl : w.heap.size + 1 < w2.heap.size := by omega
      have HB2 := Lib.hid ((((Below.refl _ w).alloc (Nat.le_refl _) _).alloc (by simp) _).trans (HK2.out.1.mono (Nat.le_add_right w.heap.size 2)))
      clear hq hb2
      match ov with
      | none =>
        go_wp2
        refine bodyPost_ret (v := .tuple #[.agg #[.int .i64 0, .int .i64 0], .bool false]) (by simp [results, Try.results52, go_sem, y0, y1, hyl]) rfl (bpost (0, 0) (ret2_sb rfl rfl ?_) (fun r h => ?_) ?_)
        · rw [boundsE, HF.out, boundsL, HV.out]; rfl
        · rw [boundsE, HF.out, boundsL, HV.out] at h; cases h
        · exact (by repeat (first | exact Below.refl _ _ | assumption | refine Below.drew ?_ | refine below_drewN ?_ _ | refine Below.setCell ?_ (by simp; try omega) _ | refine Below.alloc ?_ (by simp; try omega) _))
      | some p =>
        obtain rfl := HQ.out p rfl
        go_wp2_with (at_builtin; refine app_span rfl _ _ rfl (w.heap.size + 2) _ k os rfl ((HOW2.out.alloc _).alloc _) _ q rfl (by simp [go_sem]) (by simp [go_sem]) (by omega) (by have := HK2.out.2.1; simp; omega) ?_; intro v' w1 hown1 hg1; obtain ⟨A2, c2, rfl⟩ := own_form hown1)
        go_roundw
        case rel => exact ⟨k + 1, A2, c2, by omega, by go_num, rfl, r, os ++ [q], by have := HLN.out; simp at this; omega, by have := HOS.out; simp; omega, hry, fun e he => hsub e (by simp [he]), by rw [HF.out, boundsL, HV.out]; simp [Function.comp_def], hown1, keepG (keepA (keepA HK2.out _) _) hg1 (fun k hk => by have := own_ge HOW2.out k hk; omega)⟩
        case measure => simp [intOf]; omega
end Go.Proofs.Ytmclnnpaephkpaa

/-
  WALKS of chapter 14: bounds of the program at a sum, a difference, a product, a negative.
-/
import Derived.Test.YtmclnnpaephkpaaWQ14
namespace Go.Proofs.Ytmclnnpaephkpaa
set_option linter.unusedVariables false
set_option linter.unusedSimpArgs false
set_option linter.unnecessarySimpa false
set_option linter.unusedSectionVars false
open Go.RowKit
set_option maxRecDepth 100000 in
set_option maxHeartbeats 2000000 in
theorem bounds_arith (vs : List VT) (hvs : VarsOK vs) (o x i : Int) (l : List EX) (ih : ∀ e, e ∈ l → RightE vs.length e → BoundsSaid vs e) (hcls : 2 ≤ o ∧ o ≤ 5) : RightE vs.length (.node o x i l) → BoundsSaid vs (.node o x i l) := by
  intro hwf v Av nv cv w hnv hncv hcv hv hvals
  have HALL : Hid (∀ e, e ∈ l → ∀ r, boundsE vs e = some r → SpanOK e r) := Lib.hid fun e he => boundsE_ok hvs e (wf_args hwf e he)
  obtain ⟨A, cc, rfl, hlc, hcm, hA⟩ := hv
  have HW := Lib.hid hwf
  have HA := Lib.hid (ER.ero hA)
  have IH : Hid (∀ e, e ∈ l → BoundsSaid vs e) := Lib.hid fun e he => ih e he (wf_args hwf e he)
  have HI := Lib.hid hvals
  have HNV := Lib.hid hnv
  have hops : 0 ≤ o ∧ o ≤ 13 := by have h := hwf.1; rw [wfE] at h; exact argsS_rng o _ h.1
  have hN3 : l.length ≤ 3 := by have h := hwf.1; rw [wfE] at h; have := argsS_le3 o _ h.1; omega
  obtain ⟨N, hN⟩ : ∃ N, l.length = N := ⟨_, rfl⟩
  rw [hN] at hlc hN3 ⊢
  have HN := Lib.hid hN
  clear hA hwf ih hvs hvals hnv hN
  go_enter Try.func52, Try.ntmps52
  go_wp2
  go_loopw [6, 16] (fun s j wr => ∃ k : Nat, ∃ A' : Option Addr, ∃ c' : Nat, k ≤ N ∧ j = .int .i64 k ∧ s = .slice A' k c' ∧ Hid (∃ r os, k + r.length = N ∧ os.length = k ∧ ERo w A k r ∧ (∀ e, e ∈ r → e ∈ l) ∧ boundsL vs l = (boundsL vs r).map (os ++ ·) ∧ wr.ownsRow (w.heap.size + 2) 88 2 (.slice A' k c') k (flatS os) ∧ Keeps (w.heap.size + 2) ((w.alloc (.cells #[.int .i64 o, .int .i64 x, .int .i64 i, .slice A N cc] 24)).alloc (.cells #[.int .i64 0, .int .i64 0] 88)) wr)) (fun _ j _ => N - (intOf j).toNat)
  case atStart => exact ⟨0, none, 0, Nat.zero_le _, rfl, rfl, l, [], by have := HN.out; omega, rfl, HA.out, fun _ h => h, by simp, World.ownsRow_nil _ _ _ _, keepSelf (by simp)⟩
  case round =>
    obtain ⟨k, A', c', hk, rfl, rfl, HR⟩ := hrel
    obtain ⟨r, os, hr, hos, her, hsub, hf, hown, hkeep⟩ := HR.out
    have hcell := hkeep.2.2
    have hfro := bfro1 hkeep.1
    have hsz := hkeep.2.1
    have z0 : wr.cell? ⟨w.heap.size + 1, 0, none⟩ = some (.int .i64 0) := by rw [hcell _ _ (by omega)]; simp [go_sem]
    have z1 : wr.cell? ⟨w.heap.size + 1, 1, none⟩ = some (.int .i64 0) := by rw [hcell _ _ (by omega)]; simp [go_sem]
    have hzl : w.heap.size + 1 < wr.heap.size := by omega
    have hne1 : ¬ wr.heap.size = w.heap.size := by omega
    have hne2 : ¬ w.heap.size = wr.heap.size := by omega
    have HF := Lib.hid hf
    have HLN := Lib.hid hr
    have HOS := Lib.hid hos
    have HOW := Lib.hid hown
    have HK := Lib.hid hkeep
    have HB := Lib.hid ((((Below.refl _ w).alloc (Nat.le_refl _) _).alloc (by simp) _).trans (hkeep.1.mono (Nat.le_add_right _ _)))
    clear hf hr HR hos hown hkeep
    match r with
    | [] =>
      obtain rfl : k = N := by have := HLN.out; simp at this; omega
      have HL : Hid (boundsL vs l = some os) := Lib.hid (by rw [HF.out]; simp [boundsL])
      have ho0 : ¬ o = 0 := by omega
      have ho1 : ¬ o = 1 := by omega
      have HO : Hid (o ≠ 0 ∧ o ≠ 1) := Lib.hid ⟨ho0, ho1⟩
      have HS : Hid (SpOK o os) := Lib.hid (span_ok HW.out.1 HW.out.2.2 HO.out HL.out HALL.out)
      have HE : Hid (boundsE vs (.node o x i l) = boundsOp o os) := Lib.hid (by rw [boundsE_op HO.out, HL.out]; rfl)
      have HSR := Lib.hid (SRo.of_own HOS.out.symm HOW.out)
      have t0 : (o == 0) = false := by simpa using ho0
      have t1 : (o == 1) = false := by simpa using ho1
      clear ho0 ho1
      have HZ : Hid (∀ o, o < 2 → wr.cell? ⟨w.heap.size + 1, o, none⟩ = some (.int .i64 0)) := Lib.hid fun o ho => by
        match o with
        | 0 => exact z0
        | 1 => exact z1
      have HW1 : Hid (Below w.heap.size w wr ∧ w.heap.size + 2 ≤ wr.heap.size ∧ Keeps (w.heap.size + 2) ((w.alloc (.cells #[.int .i64 o, .int .i64 x, .int .i64 i, .slice A k cc] 24)).alloc (.cells #[.int .i64 0, .int .i64 0] 88)) wr) := Lib.hid ⟨HB.out, hsz, HK.out⟩
      have HEO : Hid (∀ r, boundsOp o os = some r → boundsE vs (.node o x i l) = some r) := Lib.hid fun r h => by rw [HE.out, h]
      have t2 : (o == 6) = false := by simp; omega
      have t3 : (o == 7) = false := by simp; omega
      have t4 : (o == 8) = false := by simp; omega
      have t5 : (o == 9) = false := by simp; omega
      have t6 : (o == 10) = false := by simp; omega
      have t7 : (o == 11) = false := by simp; omega
      have t8 : (o == 12) = false := by simp; omega
      have t9 : (o == 13) = false := by simp; omega
      have HAR : Hid ((o = 5 ∧ ∃ p, os = [p] ∧ Sp p) ∨ ((o = 2 ∨ o = 3 ∨ o = 4) ∧ ∃ p q, os = [p, q] ∧ Sp p ∧ Sp q)) := Lib.hid (by
        rcases HS.out with ⟨p, rfl, hp⟩ | ⟨p, q, rfl, ho, hp⟩ | ⟨p, q, rfl, ho, hp⟩ | ⟨p, q, u, rfl, rfl, hp⟩
        · exact .inl ⟨by omega, p, rfl, by rcases hp with hp | hp; exact hp.2; exact hp.2.1⟩
        · exact .inr ⟨by omega, p, q, rfl, hp⟩
        · omega
        · omega)
      clear her hsub
      go_upto_block 4 with fail
      go_cut [11] (fun s wx => ∃ A11 n11 c11, s = .slice A11 n11 c11 ∧ Hid (∃ e0 es, IRo wx A11 0 (e0 :: es) ∧ es.length + 1 = n11 ∧ n11 ≤ 100 ∧ boundsOp o os = spanOut (es.foldl min e0) (es.foldl max e0) ∧ Keeps (w.heap.size + 2) wr wx))
      case first =>
        clear t0 t1 t2 t3 t4 t5 t6 t7 t8 t9 HEO HALL HW HS IH HI HA
        rcases HAR.out with ⟨rfl, p, rfl, hp⟩ | ⟨ho, p, q, rfl, hp, hq⟩
        · obtain ⟨g, off, rfl, hg, s0, s1, _⟩ := HSR.out (by simp)
          have hk1 : Hid (k = 1) := HOS.out.symm
          have hk0 : (0 : Int) < (k : Int) := by have := hk1.out; omega
          simp only [Sp] at hp
          obtain ⟨p1, p2⟩ := p
          simp only at hp s0 s1
          go_wp2
          go_big_region
          all_goals (try go_wp2)
          go_meet
          case rel => exact ⟨some ⟨wr.heap.size, 0, none⟩, 2, 2, rfl, -p2, [-p1], (fun _ => ⟨_, _, rfl, by simp [go_sem], by simp [go_sem], trivial⟩), rfl, by decide, (by simp only [boundsOp, List.getD_cons_zero, List.foldl]; rw [show min (-p2) (-p1) = -p2 by omega, show max (-p2) (-p1) = -p1 by omega]; rfl), keepD (keepA (keepSelf hsz) _)⟩
        · obtain ⟨g, off, rfl, hg, s0, s1, s2, s3, _⟩ := HSR.out (by simp)
          have hk1 : Hid (k = 2) := HOS.out.symm
          have hk0 : (0 : Int) < (k : Int) := by have := hk1.out; omega
          have hk2 : (1 : Int) < (k : Int) := by have := hk1.out; omega
          simp only [Sp] at hp hq
          obtain ⟨p1, p2⟩ := p
          obtain ⟨q1, q2⟩ := q
          simp only at hp hq s0 s1 s2 s3
          have m1 := mul_bd p1 q1 (by omega) (by omega) (by omega) (by omega)
          have m2 := mul_bd p1 q2 (by omega) (by omega) (by omega) (by omega)
          have m3 := mul_bd p2 q1 (by omega) (by omega) (by omega) (by omega)
          have m4 := mul_bd p2 q2 (by omega) (by omega) (by omega) (by omega)
          rcases ho with rfl | rfl | rfl
          · clear m1 m2 m3 m4
            go_wp2
            go_big_region
            all_goals (try go_wp2)
            go_meet
            case rel => exact ⟨some ⟨wr.heap.size, 0, none⟩, 2, 2, rfl, p1 + q1, [p2 + q2], (fun _ => ⟨_, _, rfl, by simp [go_sem], by simp [go_sem], trivial⟩), rfl, by decide, (by simp only [boundsOp, List.getD_cons_zero, List.getD_cons_succ, List.foldl]; rw [show min (p1 + q1) (p2 + q2) = p1 + q1 by omega, show max (p1 + q1) (p2 + q2) = p2 + q2 by omega]; rfl), keepD (keepA (keepSelf hsz) _)⟩
          · clear m1 m2 m3 m4
            go_wp2
            go_big_region
            all_goals (try go_wp2)
            go_meet
            case rel => exact ⟨some ⟨wr.heap.size, 0, none⟩, 2, 2, rfl, p1 - q2, [p2 - q1], (fun _ => ⟨_, _, rfl, by simp [go_sem], by simp [go_sem], trivial⟩), rfl, by decide, (by simp only [boundsOp, List.getD_cons_zero, List.getD_cons_succ, List.foldl]; rw [show min (p1 - q2) (p2 - q1) = p1 - q2 by omega, show max (p1 - q2) (p2 - q1) = p2 - q1 by omega]; rfl), keepD (keepA (keepSelf hsz) _)⟩
          · have hk0' : 0 < k := by omega
            have hk2' : 1 < k := by omega
            have e1 : IntKind.i64.wrap (p1 * q1) = p1 * q1 := IntWalk.i64_in _ (by omega)
            have e2 : IntKind.i64.wrap (p1 * q2) = p1 * q2 := IntWalk.i64_in _ (by omega)
            have e3 : IntKind.i64.wrap (p2 * q1) = p2 * q1 := IntWalk.i64_in _ (by omega)
            have e4 : IntKind.i64.wrap (p2 * q2) = p2 * q2 := IntWalk.i64_in _ (by omega)
            go_wp2
            go_region_held3 (fun w' => w'.cell? ⟨g, off, none⟩ = some (.int .i64 p1) ∧ w'.cell? ⟨g, off + 1, none⟩ = some (.int .i64 p2) ∧ w'.cell? ⟨g, off + 2, none⟩ = some (.int .i64 q1) ∧ w'.cell? ⟨g, off + 2 + 1, none⟩ = some (.int .i64 q2)) (first | exact ⟨s0, s1, s2, s3⟩ | exact ⟨(cellA (by simpa using hg)).trans s0, (cellA (by simpa using hg)).trans s1, (cellA (by simpa using hg)).trans s2, (cellA (by simpa using hg)).trans s3⟩) (fail)
            clear e1 e2 e3 e4
            all_goals (try go_wp2)
            go_meet
            case rel => exact ⟨some ⟨wr.heap.size, 0, none⟩, 4, 4, rfl, p1 * q1, [p1 * q2, p2 * q1, p2 * q2], (fun _ => ⟨_, _, rfl, by simp [go_sem], by simp [go_sem], by simp [go_sem], by simp [go_sem], trivial⟩), rfl, by decide, ((show boundsOp 4 [(p1, p2), (q1, q2)] = spanOut (min (min (p1 * q1) (p1 * q2)) (min (p2 * q1) (p2 * q2))) (max (max (p1 * q1) (p1 * q2)) (max (p2 * q1) (p2 * q2))) from rfl).trans (by rw [← Int.min_assoc, ← Int.max_assoc]; rfl)), keepD (keepA (keepSelf hsz) _)⟩
      case rest =>
        obtain ⟨A11, n11, c11, rfl, HC⟩ := hcut
        obtain ⟨e0, es, hir, hn11, hn12, hbo, hkx⟩ := HC.out
        have hcx := hkx.2.2
        have hfx := bfro1 hkx.1
        have hsx := hkx.2.1
        have HBX : Hid (Below w.heap.size w wc) := Lib.hid (HB.out.trans (hkx.1.mono (Nat.le_add_right _ _)))
        obtain ⟨lo, hlo⟩ : ∃ lo, es.foldl min e0 = lo := ⟨_, rfl⟩
        obtain ⟨hi, hhi⟩ : ∃ hi, es.foldl max e0 = hi := ⟨_, rfl⟩
        have HMIN : Hid (∀ w, IRo w A11 0 (e0 :: es) → Calls Try.prog 73 #[.slice A11 n11 c11] w fun e w' => e = .returned (.int .i64 lo) ∧ w = w') := Lib.hid (fun w h => by have := min_any e0 es A11 n11 c11 w hn11 (by omega) h; rw [hlo] at this; exact this.mono fun _ _ h => ⟨h.1, h.2.symm⟩)
        have HMAX : Hid (∀ w, IRo w A11 0 (e0 :: es) → Calls Try.prog 74 #[.slice A11 n11 c11] w fun e w' => e = .returned (.int .i64 hi) ∧ w = w') := Lib.hid (fun w h => by have := max_any e0 es A11 n11 c11 w hn11 (by omega) h; rw [hhi] at this; exact this.mono fun _ _ h => ⟨h.1, h.2.symm⟩)
        have HSP : Hid (boundsE vs (.node o x i l) = spanOut lo hi) := Lib.hid (by rw [HE.out, hbo, hlo, hhi])
        have HIR := Lib.hid hir
        clear hir hn11 hn12 hbo hkx hlo hhi HC
        go_wp2_with (first
            | (go_at_call 73; refine (HMIN.out _ HIR.out).mono ?_; rintro e w' ⟨rfl, rfl⟩)
            | (go_at_call 74; refine (HMAX.out _ HIR.out).mono ?_; rintro e w' ⟨rfl, rfl⟩))
        have x0 : (wc.alloc (.cells #[.int .i64 lo, .int .i64 hi] 88)).cell? ⟨wc.heap.size, 0, none⟩ = some (.int .i64 lo) := by simp [go_sem]
        have x1 : (wc.alloc (.cells #[.int .i64 lo, .int .i64 hi] 88)).cell? ⟨wc.heap.size, 1, none⟩ = some (.int .i64 hi) := by simp [go_sem]
        have x2 : (wc.alloc (.cells #[.int .i64 lo, .int .i64 hi] 88)).cell? ⟨w.heap.size + 1, 0, none⟩ = some (.int .i64 0) := by rw [cellA (by omega), hcx _ _ (by omega)]; exact z0
        have x3 : (wc.alloc (.cells #[.int .i64 lo, .int .i64 hi] 88)).cell? ⟨w.heap.size + 1, 1, none⟩ = some (.int .i64 0) := by rw [cellA (by omega), hcx _ _ (by omega)]; exact z1
        have x4 : (wc.alloc (.cells #[.int .i64 lo, .int .i64 hi] 88)).frozen? ⟨w.heap.size + 1, 0, none⟩ = false := by rw [frozA (by omega), hfx _ _ (by omega), hfro _ _ (by omega)]; simp [go_sem]
        have x5 : (wc.alloc (.cells #[.int .i64 lo, .int .i64 hi] 88)).frozen? ⟨w.heap.size + 1, 1, none⟩ = false := by rw [frozA (by omega), hfx _ _ (by omega), hfro _ _ (by omega)]; simp [go_sem]
        have x6 : Hid (Below w.heap.size w (wc.alloc (.cells #[.int .i64 lo, .int .i64 hi] 88))) := Lib.hid (HBX.out.alloc HBX.out.size _)
        have x7 : w.heap.size + 1 < (wc.alloc (.cells #[.int .i64 lo, .int .i64 hi] 88)).heap.size := by simp; omega
        have x8 : ¬ wc.heap.size = w.heap.size + 1 := by omega
        have x9 : ¬ w.heap.size + 1 = wc.heap.size := by omega
        revert x0 x1 x2 x3 x4 x5 x6 x7
        generalize (wc.alloc (.cells #[.int .i64 lo, .int .i64 hi] 88)) = wx
        intro x0 x1 x2 x3 x4 x5 X6 x7
        have HHI : Hid (∀ b, largeS hi 1073741824 = b → ∀ w, Calls Try.prog 49 #[.int .i64 hi, .int .i64 1073741824] w fun e w' => e = .returned (.bool b) ∧ w = w') := Lib.hid (fun b hb w => by have := large_any hi 1073741824 w (by decide) (by decide); rw [hb] at this; exact this.mono fun _ _ h => ⟨h.1, h.2.symm⟩)
        have HLO : Hid (∀ b, largeS lo 1073741824 = b → ∀ w, Calls Try.prog 49 #[.int .i64 lo, .int .i64 1073741824] w fun e w' => e = .returned (.bool b) ∧ w = w') := Lib.hid (fun b hb w => by have := large_any lo 1073741824 w (by decide) (by decide); rw [hb] at this; exact this.mono fun _ _ h => ⟨h.1, h.2.symm⟩)
        clear hcell hfro z0 z1 hzl t0 t1 t2 t3 t4 t5 t6 t7 t8 t9 hcx hfx hsx HBX hcv hncv hcm hN3 hlc hsz hne1 hne2
        cases b1 : largeS lo 1073741824
        · cases b2 : largeS hi 1073741824
          · have HB1 := Lib.hid b1
            have HB2 := Lib.hid b2
            clear b1 b2
            go_region_held3 (fun w' => w'.cell? ⟨wc.heap.size, 0, none⟩ = some (.int .i64 lo) ∧ w'.cell? ⟨wc.heap.size, 1, none⟩ = some (.int .i64 hi)) (first | exact ⟨x0, x1⟩ | exact ⟨by simp [go_sem, x8, x9, x0, x7], by simp [go_sem, x8, x9, x1, x7]⟩) (first | ((go_at_call_of 49 (lo)); refine (HLO.out _ HB1.out _).mono ?_; rintro e w' ⟨rfl, rfl⟩) | ((go_at_call_of 49 (hi)); refine (HHI.out _ HB2.out _).mono ?_; rintro e w' ⟨rfl, rfl⟩))
            go_wp2
            refine bodyPost_ret (v := .tuple #[.agg #[.int .i64 lo, .int .i64 hi], .bool true]) (by simp [results, Try.results52, go_sem, x2, x3, x7]) rfl ?_
            exact bpost (lo, hi) (by rw [HSP.out]; simp [spanOut, HB1.out, HB2.out]) (fun r h => by rw [HSP.out] at h; simpa [spanOut, HB1.out, HB2.out] using h) (((X6.out.setCell (by simp) _).setCell (by simp) _).drew)
          · have HB1 := Lib.hid b1
            have HB2 := Lib.hid b2
            clear b1 b2
            go_region_held3 (fun w' => w'.cell? ⟨wc.heap.size, 0, none⟩ = some (.int .i64 lo) ∧ w'.cell? ⟨wc.heap.size, 1, none⟩ = some (.int .i64 hi)) (first | exact ⟨x0, x1⟩ | exact ⟨by simp [go_sem, x8, x9, x0, x7], by simp [go_sem, x8, x9, x1, x7]⟩) (first | ((go_at_call_of 49 (lo)); refine (HLO.out _ HB1.out _).mono ?_; rintro e w' ⟨rfl, rfl⟩) | ((go_at_call_of 49 (hi)); refine (HHI.out _ HB2.out _).mono ?_; rintro e w' ⟨rfl, rfl⟩))
            go_wp2
            refine bodyPost_ret (v := .tuple #[.agg #[.int .i64 lo, .int .i64 hi], .bool false]) (by simp [results, Try.results52, go_sem, x2, x3, x7]) rfl ?_
            exact bpost (lo, hi) (by rw [HSP.out]; simp [spanOut, HB1.out, HB2.out]) (fun r h => by rw [HSP.out] at h; simp [spanOut, HB1.out, HB2.out] at h) (((X6.out.setCell (by simp) _).setCell (by simp) _).drew)
        · have HB1 := Lib.hid b1
          clear b1
          refine wp_region_noPanic ?_
          refine wp_region_held_drew (S := fun w' => w'.cell? ⟨wc.heap.size, 0, none⟩ = some (.int .i64 lo) ∧ w'.cell? ⟨wc.heap.size, 1, none⟩ = some (.int .i64 hi)) (by kernel_rfl) ⟨x0, x1⟩ (fun hS0 => ?_)
          refine takeW (v := ?_) 0 rfl (by kernel_rfl) (by kernel_rfl) (by kernel_rfl) (fun _ _ _ h => h) (by rfl) ?_ (by assumption) ?_
          rotate_left 1
          · (intro w hSw; (try dsimp only at hSw); go_simp; try (with_reducible rfl))
          try simp only [Act.put, List.setIfInBounds_toArray, List.set_cons_zero, List.set_cons_succ]
          refine takeW (v := ?_) 1 rfl (by kernel_rfl) (by kernel_rfl) (by kernel_rfl) (fun _ _ _ h => h) (by rfl) ?_ (by assumption) ?_
          rotate_left 1
          · (intro w hSw; (try dsimp only at hSw); go_simp; try (with_reducible rfl))
          try simp only [Act.put, List.setIfInBounds_toArray, List.set_cons_zero, List.set_cons_succ]
          refine takeW (v := ?_) 2 rfl (by kernel_rfl) (by kernel_rfl) (by kernel_rfl) (fun _ _ _ h => h) (by rfl) ?_ (by assumption) ?_
          rotate_left 1
          · (intro w hSw; (try dsimp only at hSw); go_simp; try (with_reducible rfl))
          try simp only [Act.put, List.setIfInBounds_toArray, List.set_cons_zero, List.set_cons_succ]
          refine comeC 3 rfl (by kernel_rfl) (by rfl) (fun K hK => ?_)
          go_simp
          (refine (HLO.out _ HB1.out _).mono ?_; rintro e w' ⟨rfl, rfl⟩)
          try (go_wp2_with fail)
          refine hK.out _ _ ?_ (fun hS3 => ?_)
          · exact ⟨x0, x1⟩
          clear hK K
          try simp only [Act.put, List.setIfInBounds_toArray, List.set_cons_zero, List.set_cons_succ]
          refine takeW (v := ?_) 4 rfl (by kernel_rfl) (by kernel_rfl) (by kernel_rfl) (fun _ _ _ h => h) (by rfl) ?_ (by assumption) ?_
          rotate_left 1
          · (intro w hSw; (try dsimp only at hSw); go_simp; try (with_reducible rfl))
          try simp only [Act.put, List.setIfInBounds_toArray, List.set_cons_zero, List.set_cons_succ]
          refine takeW (v := ?_) 5 rfl (by kernel_rfl) (by kernel_rfl) (by kernel_rfl) (fun _ _ _ h => h) (by rfl) ?_ (by assumption) ?_
          rotate_left 1
          · (intro w hSw; (try dsimp only at hSw); go_simp; try (with_reducible rfl))
          try simp only [Act.put, List.setIfInBounds_toArray, List.set_cons_zero, List.set_cons_succ]
          refine takeN 6 rfl (by kernel_rfl) (by kernel_rfl) (by kernel_rfl) (fun _ _ _ h => h) (by rfl) (by assumption) ?_
          try simp only [Act.put, List.setIfInBounds_toArray, List.set_cons_zero, List.set_cons_succ]
          refine takeN 7 rfl (by kernel_rfl) (by kernel_rfl) (by kernel_rfl) (fun _ _ _ h => h) (by rfl) (by assumption) ?_
          try simp only [Act.put, List.setIfInBounds_toArray, List.set_cons_zero, List.set_cons_succ]
          refine takeN 8 rfl (by kernel_rfl) (by kernel_rfl) (by kernel_rfl) (fun _ _ _ h => h) (by rfl) (by assumption) ?_
          try simp only [Act.put, List.setIfInBounds_toArray, List.set_cons_zero, List.set_cons_succ]
          refine takeN 9 rfl (by kernel_rfl) (by kernel_rfl) (by kernel_rfl) (fun _ _ _ h => h) (by rfl) (by assumption) ?_
          try simp only [Act.put, List.setIfInBounds_toArray, List.set_cons_zero, List.set_cons_succ]
          refine takeW (v := ?_) 10 rfl (by kernel_rfl) (by kernel_rfl) (by kernel_rfl) (fun _ _ _ h => h) (by rfl) ?_ (by assumption) ?_
          rotate_left 1
          · (intro w hSw; (try dsimp only at hSw); go_simp; try (with_reducible rfl))
          try simp only [Act.put, List.setIfInBounds_toArray, List.set_cons_zero, List.set_cons_succ]
          refine comeC 11 rfl (by kernel_rfl) (by rfl) (fun K hK => ?_)
          go_simp
          skip
          try (go_wp2_with fail)
          refine hK.out _ _ ?_ (fun hS11 => ?_)
          · exact ⟨by simp [go_sem, x8, x9, x0, x7], by simp [go_sem, x8, x9, x1, x7]⟩
          clear hK K
          try simp only [Act.put, List.setIfInBounds_toArray, List.set_cons_zero, List.set_cons_succ]
          refine takeW (v := ?_) 12 rfl (by kernel_rfl) (by kernel_rfl) (by kernel_rfl) (fun _ _ _ h => h) (by rfl) ?_ (by assumption) ?_
          rotate_left 1
          · (intro w hSw; (try dsimp only at hSw); go_simp; try (with_reducible rfl))
          try simp only [Act.put, List.setIfInBounds_toArray, List.set_cons_zero, List.set_cons_succ]
          refine wpAnyH_done (by kernel_rfl) ?_ _
          refine NoPanic.normal ?_
          go_wp2
          refine bodyPost_ret (v := .tuple #[.agg #[.int .i64 lo, .int .i64 hi], .bool false]) (by simp [results, Try.results52, go_sem, x2, x3, x7]) rfl ?_
          exact bpost (lo, hi) (by rw [HSP.out]; simp [spanOut, HB1.out]) (fun r h => by rw [HSP.out] at h; simp [spanOut, HB1.out] at h) (((X6.out.setCell (by simp) _).setCell (by simp) _).drew)
    | y :: r =>
      have hlt : k < N := by have := HLN.out; simp at this; omega
      obtain ⟨b1, f1, rfl, A1, c1, a0, a1, a2, a3, hb1, hb1', hb1'', hy, hry⟩ := her.cons'
      have hbal := HB.out.alloc HB.out.size (.cells #[.int .i64 y.op, .int .i64 y.val, .int .i64 y.idx, .slice A1 y.args.length c1] 24)
      have HC' := Lib.hid (IH.out y (hsub y (by simp)) _ _ nv cv (wr.alloc (.cells #[.int .i64 y.op, .int .i64 y.val, .int .i64 y.idx, .slice A1 y.args.length c1] 24)) HNV.out hncv hcv (ER.below hbal _ _ hy) (HI.out.kept hbal (Nat.le_refl _)))
      obtain ⟨ov, hov⟩ : ∃ ov, boundsE vs y = ov := ⟨_, rfl⟩
      have HV := Lib.hid hov
      have hb1h : b1 < w.heap.size + 2 := by omega
      clear hov hbal
      go_wp2_with fail
      refine (HC'.out).mono ?_
      rintro en w2 hbp
      unfold BPost at hbp
      rw [HV.out] at hbp
      obtain ⟨q, rfl, hq, hb2⟩ := hbp
      have HQ := Lib.hid hq
      have HK2 := Lib.hid (keep2 (keepA HK.out _) hb2)
      have HOW2 := Lib.hid (ownBelowN (HOW.out.alloc _) hb2)
      have hc2 := HK2.out.2.2
      have hf2 := bfro1 HK2.out.1
      have hs2 := HK2.out.2.1
      have y0 : w2.cell? ⟨w.heap.size + 1, 0, none⟩ = some (.int .i64 0) := by rw [hc2 _ _ (by omega)]; simp [go_sem]
      have y1 : w2.cell? ⟨w.heap.size + 1, 1, none⟩ = some (.int .i64 0) := by rw [hc2 _ _ (by omega)]; simp [go_sem]
      have hyl : w.heap.size + 1 < w2.heap.size := by omega
      have HB2 := Lib.hid ((((Below.refl _ w).alloc (Nat.le_refl _) _).alloc (by simp) _).trans (HK2.out.1.mono (Nat.le_add_right w.heap.size 2)))
      clear hq hb2
      match ov with
      | none =>
        go_wp2
        refine bodyPost_ret (v := .tuple #[.agg #[.int .i64 0, .int .i64 0], .bool false]) (by simp [results, Try.results52, go_sem, y0, y1, hyl]) rfl (bpost (0, 0) (ret2_sb rfl rfl ?_) (fun r h => ?_) ?_)
        · rw [boundsE, HF.out, boundsL, HV.out]; rfl
        · rw [boundsE, HF.out, boundsL, HV.out] at h; cases h
        · exact (by repeat (first | exact Below.refl _ _ | assumption | refine Below.drew ?_ | refine below_drewN ?_ _ | refine Below.setCell ?_ (by simp; try omega) _ | refine Below.alloc ?_ (by simp; try omega) _))
      | some p =>
        obtain rfl := HQ.out p rfl
        go_wp2_with (at_builtin; refine app_span rfl _ _ rfl (w.heap.size + 2) _ k os rfl ((HOW2.out.alloc _).alloc _) _ q rfl (by simp [go_sem]) (by simp [go_sem]) (by omega) (by have := HK2.out.2.1; simp; omega) ?_; intro v' w1 hown1 hg1; obtain ⟨A2, c2, rfl⟩ := own_form hown1)
        go_roundw
        case rel => exact ⟨k + 1, A2, c2, by omega, by go_num, rfl, r, os ++ [q], by have := HLN.out; simp at this; omega, by have := HOS.out; simp; omega, hry, fun e he => hsub e (by simp [he]), by rw [HF.out, boundsL, HV.out]; simp [Function.comp_def], hown1, keepG (keepA (keepA HK2.out _) _) hg1 (fun k hk => by have := own_ge HOW2.out k hk; omega)⟩
        case measure => simp [intOf]; omega
end Go.Proofs.Ytmclnnpaephkpaa

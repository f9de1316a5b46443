/-
  WALKS of chapter 14: few and form of the statements, which count behind a pointer.
-/
import Derived.Test.YtmclnnpaephkpaaWD14
namespace Go.Proofs.Ytmclnnpaephkpaa
set_option linter.unusedVariables false
set_option linter.unusedSimpArgs false
set_option linter.unnecessarySimpa false
set_option linter.unusedSectionVars false
open Go.RowKit

def FewSaid (e : EX) : Prop := ∀ (level c : Int) (v : Value) (w0 w : World) (bc : Nat), ER w0 e v → Below w0.heap.size w0 w → w0.heap.size ≤ bc →
  w.heap[bc]? = some (.cells #[.int .i64 c] 3 (0, 0)) → 0 ≤ c → c ≤ 80 → 0 ≤ level → level ≤ 11 →
  Calls Try.prog 41 #[v, .int .i64 level, .pointer (some ⟨bc, 0, none⟩)] w fun en w' =>
    en = .returned (.bool (fewE e level c).1) ∧ w'.heap[bc]? = some (.cells #[.int .i64 (fewE e level c).2] 3 (0, 0)) ∧ w.grownBy w' (some bc)
mutual
theorem fewE_bd : ∀ (e : EX) (level c : Int), 0 ≤ c → c ≤ 80 → 0 ≤ (fewE e level c).2 ∧ (fewE e level c).2 ≤ 80
  | .node o v i l, level, c, h0, h1 => by
    have hl := fewL_bd l (level + 1) (c - 1)
    rw [fewE]
    split
    · exact ⟨h0, h1⟩
    · exact hl (by omega) (by omega)
theorem fewL_bd : ∀ (l : List EX) (level c : Int), 0 ≤ c → c ≤ 80 → 0 ≤ (fewL l level c).2 ∧ (fewL l level c).2 ≤ 80
  | [], _, _, h0, h1 => ⟨by simpa [fewL] using h0, by simpa [fewL] using h1⟩
  | e :: l, level, c, h0, h1 => by
    have h := fewE_bd e level c h0 h1
    rw [fewL]
    split
    · exact fewL_bd l level _ h.1 h.2
    · exact h
end
set_option maxRecDepth 100000 in
set_option maxHeartbeats 1000000 in
theorem few_any : ∀ e, FewSaid e := by
  refine EX.ind fun o x i l ih => ?_
  intro level c v w0 w bc hv hB hbc hcell hc0 hc1 hl0 hl1
  obtain ⟨A, cc, rfl, hlc, hcm, hA⟩ := hv
  have hcc := cell_of_one hcell
  have hcf := free_of_one hcell
  have hbw := oneLt hcell
  have hne : bc ≠ w.heap.size := by omega
  have hne' : w.heap.size ≠ bc := by omega
  have hlm : (l.length : Int) ≤ 35184372088831 := by omega
  have HC := Lib.hid hcell
  have HA := Lib.hid (ER.ero hA)
  have HB := Lib.hid hB
  have IH := Lib.hid ih
  clear hcell hA hB ih
  by_cases h1 : c = 0
  · subst h1
    rw [fewE, if_pos (.inl rfl)]
    go_enter Try.func41, Try.ntmps41
    go_wp2
    go_ret
    exact ⟨rfl, oneAlloc HC.out _, (by repeat (first | exact World.grownBy.refl _ _ | assumption | refine gAlloc ?_ _ | refine gDrewN ?_ _ | refine gSet ?_ (by simp; try omega) _))⟩
  have hc64 : (c == 0) = false := by rw [beq_eq_false_iff_ne]; omega
  have H1 := Lib.hid h1
  clear h1
  by_cases h2 : 10 < level
  · rw [fewE, if_pos (.inr (.inl h2))]
    go_enter Try.func41, Try.ntmps41
    go_wp2
    go_ret
    exact ⟨rfl, oneAlloc HC.out _, (by repeat (first | exact World.grownBy.refl _ _ | assumption | refine gAlloc ?_ _ | refine gDrewN ?_ _ | refine gSet ?_ (by simp; try omega) _))⟩
  by_cases h3 : 4 < l.length
  · rw [fewE, if_pos (.inr (.inr h3))]
    have h3' : (4 : Int) < (l.length : Int) := by omega
    go_enter Try.func41, Try.ntmps41
    go_wp2
    go_ret
    exact ⟨rfl, oneAlloc HC.out _, (by repeat (first | exact World.grownBy.refl _ _ | assumption | refine gAlloc ?_ _ | refine gDrewN ?_ _ | refine gSet ?_ (by simp; try omega) _))⟩
  have h3' : ¬ (4 : Int) < (l.length : Int) := by omega
  rw [fewE, if_neg (by have := H1.out; omega)]
  obtain ⟨N, hN⟩ : ∃ N, l.length = N := ⟨_, rfl⟩
  rw [hN] at h3' hlm hlc ⊢
  have HN := Lib.hid hN
  clear hN h3
  go_enter Try.func41, Try.ntmps41
  go_wp2
  go_loopw [7] (fun j wr => ∃ k : Nat, k ≤ N ∧ j = .int .i64 k ∧ Hid (∃ r c', k + r.length = N ∧ ERo w0 A k r ∧ (∀ e, e ∈ r → e ∈ l) ∧ fewL l (level + 1) (c - 1) = fewL r (level + 1) c' ∧ 0 ≤ c' ∧ c' ≤ 80 ∧ wr.heap[bc]? = some (.cells #[.int .i64 c'] 3 (0, 0)) ∧ ((w.setCell ⟨bc, 0, none⟩ (.int .i64 (c - 1))).alloc (.cells #[.int .i64 o, .int .i64 x, .int .i64 i, .slice A N cc] 24)).grownBy wr (some bc))) (fun j _ => N - (intOf j).toNat)
  case atStart => exact ⟨0, Nat.zero_le _, rfl, l, c - 1, by have := HN.out; omega, HA.out, fun _ h => h, rfl, by have := H1.out; omega, by omega, oneAlloc (one_setCell HC.out) _, World.grownBy.refl _ _⟩
  case round =>
    obtain ⟨k, hk, rfl, HR⟩ := hrel
    obtain ⟨r, c', hr, her, hsub, hf, hc0', hc1', hcell, hgr⟩ := HR.out
    have hbox : wr.cell? ⟨w.heap.size, 3, none⟩ = some (.slice A N cc) := by rw [hgr.cell_far ⟨w.heap.size, 3, none⟩ (by simp [World.setCell]) (by simpa using hne')]; rw [show w.heap.size = (w.setCell ⟨bc, 0, none⟩ (.int .i64 (c - 1))).heap.size by simp [World.setCell]]; simp [go_sem]
    have HF := Lib.hid hf
    have HLN := Lib.hid hr
    have HG := Lib.hid ((gAlloc (gSet (World.grownBy.refl w (some bc)) (p := ⟨bc, 0, none⟩) (.inl rfl) _) _).trans hgr)
    have HG1 := Lib.hid hgr
    have hwr := HG.out.size
    have HCC := Lib.hid hcell
    clear hf hr HR hgr hcell hcc hcf
    match r with
    | [] =>
      have hlt : ¬ k < N := by have := HLN.out; simp at this; omega
      go_wp2
      go_ret
      exact ⟨ret_bool (by rw [HF.out]; rfl), by rw [HF.out]; exact HCC.out, HG.out⟩
    | y :: r =>
      have hlt : k < N := by have := HLN.out; simp at this; omega
      have hB0 : Below w0.heap.size w0 wr := HB.out.trans (gBelow HG.out hbc HB.out.size)
      obtain ⟨b1, f1, rfl, A1, c1, a0, a1, a2, a3, hb1, hb1', hb1'', hy, hry⟩ := her.cons'
      have a0' := keepc hB0 a0
      have a1' := keepc hB0 a1
      have a2' := keepc hB0 a2
      have a3' := keepc hB0 a3
      have HB0 := Lib.hid hB0
      have HC' := Lib.hid (IH.out y (hsub y (by simp)))
      clear a0 a1 a2 a3 hB0
      obtain ⟨q, hq⟩ : ∃ q, fewE y (level + 1) c' = q := ⟨_, rfl⟩
      have hqb := fewE_bd y (level + 1) c' hc0' hc1'
      rw [hq] at hqb
      have HQ := Lib.hid hq
      clear hq
      go_wp2_with fail
      refine (HC' (level + 1) c' _ w0 _ bc hy HB0.out hbc HCC.out hc0' hc1' (by omega) (by omega)).mono ?_
      rw [HQ.out]
      rintro en w2 ⟨rfl, hcell2, hg2⟩
      have HC2 := Lib.hid hcell2
      have HG2 := Lib.hid (HG.out.trans hg2)
      have HG3 := Lib.hid (HG1.out.trans hg2)
      clear hcell2 hg2
      cases hz : q.1
      · have HZ := Lib.hid hz
        clear hz
        go_wp2
        go_ret
        refine ⟨ret_bool ?_, ?_, HG2.out⟩
        · rw [HF.out, fewL, HQ.out, HZ.out]; simp [HZ.out]
        · rw [HF.out, fewL, HQ.out, HZ.out]; simpa using HC2.out
      · have HZ := Lib.hid hz
        clear hz
        go_wp2
        go_roundw
        case rel => exact ⟨k + 1, by omega, by go_num, r, q.2, by have := HLN.out; simp at this; omega, hry, fun e he => hsub e (by simp [he]), by rw [HF.out, fewL, HQ.out, HZ.out]; simp, hqb.1, hqb.2, HC2.out, HG3.out⟩
        case measure => simp [intOf]; omega

def FormSaid (e : EX) : Prop := ∀ (n level c : Int) (v : Value) (w0 w : World) (bc : Nat), ER w0 e v → Below w0.heap.size w0 w → w0.heap.size ≤ bc →
  w.heap[bc]? = some (.cells #[.int .i64 c] 3 (0, 0)) → 0 ≤ c → c ≤ 64 → -1000000000 ≤ n → n ≤ 1000000000 → 0 ≤ level → level ≤ 9 →
  Calls Try.prog 44 #[v, .int .i64 n, .int .i64 level, .pointer (some ⟨bc, 0, none⟩)] w fun en w' =>
    en = .returned (.int .i64 (formedE e n level (64 - c)).1) ∧ Hid (∃ c', w'.heap[bc]? = some (.cells #[.int .i64 c'] 3 (0, 0)) ∧ 0 ≤ c' ∧ c' ≤ 64 ∧ ((formedE e n level (64 - c)).1 = 0 → c' = 64 - (formedE e n level (64 - c)).2)) ∧ w.grownBy w' (some bc)

set_option maxRecDepth 100000 in
set_option maxHeartbeats 1000000 in
theorem form_ok (o x i want n level c : Int) (l : List EX) (N cc : Nat) (A : Option Addr) (hN : l.length = N) (hNb : N ≤ 1000) (w0 w : World) (bc : Nat) (hl : ERo w0 A 0 l) (hB : Below w0.heap.size w0 w) (hbc : w0.heap.size ≤ bc)
    (hcell : w.heap[bc]? = some (.cells #[.int .i64 c] 3 (0, 0))) (hc0 : 0 < c) (hc1 : c ≤ 64) (hn0 : -1000000000 ≤ n) (hn1 : n ≤ 1000000000) (hl0 : 0 ≤ level) (hl1 : level ≤ 8)
    (hargs : argsS o = some want) (hlen : (N : Int) = want) (hform : (o = 0 ∧ i = 0 ∧ largeS x 65536 = false) ∨ (o = 1 ∧ x = 0 ∧ 0 ≤ i ∧ i < n) ∨ (2 ≤ o ∧ o ≤ 13 ∧ x = 0 ∧ i = 0))
    (ih : ∀ e, e ∈ l → FormSaid e) :
    Calls Try.prog 44 #[.agg #[.int .i64 o, .int .i64 x, .int .i64 i, .slice A N cc], .int .i64 n, .int .i64 level, .pointer (some ⟨bc, 0, none⟩)] w fun en w' =>
    en = .returned (.int .i64 (formedL l n (level + 1) (64 - (c - 1))).1) ∧ Hid (∃ c', w'.heap[bc]? = some (.cells #[.int .i64 c'] 3 (0, 0)) ∧ 0 ≤ c' ∧ c' ≤ 64 ∧ ((formedL l n (level + 1) (64 - (c - 1))).1 = 0 → c' = 64 - (formedL l n (level + 1) (64 - (c - 1))).2)) ∧ w.grownBy w' (some bc) := by
  have hcc := cell_of_one hcell
  have hcf := free_of_one hcell
  have hbw := oneLt hcell
  have HA := Lib.hid hargs
  have HL := Lib.hid hl
  have HN := Lib.hid hN
  have IH := Lib.hid ih
  have HB := Lib.hid hB
  have HC := Lib.hid hcell
  have ewant : (argsS o).getD 0 = (N : Int) := by rw [hargs]; exact hlen.symm
  have hne : bc ≠ w.heap.size := by omega
  have hne' : w.heap.size ≠ bc := by omega
  have hc64 : (c == 0) = false := by rw [beq_eq_false_iff_ne]; omega
  have hlev : ¬ 8 < level := by omega
  have hz : largeS 0 65536 = false := by decide
  clear hargs hl hN ih hB hcell hlen
  rcases hform with ⟨rfl, rfl, hlg⟩ | ⟨rfl, rfl, hi0, hi1⟩ | ⟨ho1, ho2, rfl, rfl⟩
  all_goals
    go_enter Try.func44, Try.ntmps44
    go_wp2
    go_quiet ((go_at_call 68; exact Calls.quiet_of_same (arity_any _ _ (by omega) (by omega))))
    go_wp2_with (first | (go_at_call 19; refine (beyond_any _ _ _ (by decide) (by decide)).mono ?_; rintro e w' ⟨rfl, rfl⟩))
    go_loopw [9] (fun j wr => ∃ k : Nat, k ≤ N ∧ j = .int .i64 k ∧ Hid (∃ r c', k + r.length = N ∧ ERo w0 A k r ∧ (∀ e, e ∈ r → e ∈ l) ∧ formedL l n (level + 1) (64 - (c - 1)) = formedL r n (level + 1) (64 - c') ∧ 0 ≤ c' ∧ c' ≤ 64 ∧ wr.heap[bc]? = some (.cells #[.int .i64 c'] 3 (0, 0)) ∧ wr.cell? ⟨w.heap.size, 3, none⟩ = some (.slice A N cc) ∧ w.heap.size < wr.heap.size ∧ w.grownBy wr (some bc))) (fun j _ => N - (intOf j).toNat)
    case atStart => exact ⟨0, Nat.zero_le _, rfl, l, c - 1, by have := HN.out; omega, HL.out, fun _ h => h, rfl, by omega, by omega, by repeat (first | exact HC.out | refine oneAlloc ?_ _ | refine oneDrewN ?_ _ | refine one_setCell (v := .int .i64 c) ?_), by simp [go_sem, hne'], by simp [World.setCell], by repeat (first | exact World.grownBy.refl _ _ | refine gAlloc ?_ _ | refine gDrewN ?_ _ | refine gSet ?_ (by simp) _)⟩
    case round =>
      obtain ⟨k, hk, rfl, HR⟩ := hrel
      obtain ⟨r, c', hr, her, hsub, hf, hc0', hc1', hcell, hbox, hwr1, hgr⟩ := HR.out
      have HF := Lib.hid hf
      have HLN := Lib.hid hr
      have HG := Lib.hid hgr
      have HBX := Lib.hid hbox
      have hwr := HG.out.size
      have HCC := Lib.hid hcell
      clear hf hr HR hgr hcell hcc hcf
      match r with
      | [] =>
        have hlt : ¬ k < N := by have := HLN.out; simp at this; omega
        go_wp2
        go_ret
        exact ⟨ret_int (by rw [HF.out]; rfl), ⟨c', HCC.out, hc0', hc1', fun _ => by rw [HF.out, formedL]; simp only; omega⟩, HG.out⟩
      | y :: r =>
        have hlt : k < N := by have := HLN.out; simp at this; omega
        have hB0 : Below w0.heap.size w0 wr := HB.out.trans (gBelow HG.out hbc HB.out.size)
        obtain ⟨b1, f1, rfl, A1, c1, a0, a1, a2, a3, hb1, hb1', hb1'', hy, hry⟩ := her.cons'
        have a0' := keepc hB0 a0
        have a1' := keepc hB0 a1
        have a2' := keepc hB0 a2
        have a3' := keepc hB0 a3
        have HB0 := Lib.hid hB0
        have HC' := Lib.hid (IH.out y (hsub y (by simp)))
        clear a0 a1 a2 a3 hB0
        obtain ⟨q, hq⟩ : ∃ q, formedE y n (level + 1) (64 - c') = q := ⟨_, rfl⟩
        have HQ := Lib.hid hq
        clear hq
        go_wp2_with fail
        refine (HC' n (level + 1) c' _ w0 _ bc hy HB0.out hbc HCC.out hc0' hc1' hn0 hn1 (by omega) (by omega)).mono ?_
        rw [HQ.out]
        rintro en w2 ⟨rfl, hcell2, hg2⟩
        have HG2 := Lib.hid (HG.out.trans hg2)
        have HBX2 := Lib.hid ((hg2.cell_far ⟨w.heap.size, 3, none⟩ hwr1 (by simpa using hne')).trans HBX.out)
        have hwr2 := hg2.size
        clear hg2
        by_cases hz : q.1 = 0
        · have hz2 : (q.1 != 0) = false := by simpa using hz
          have HZ := Lib.hid hz
          clear hz
          go_wp2
          go_roundw
          case rel =>
            obtain ⟨c2, e1, e2, e3, e4⟩ := hcell2.out
            have e5 := e4 HZ.out
            exact ⟨k + 1, by omega, by go_num, r, c2, by have := HLN.out; simp at this; omega, hry, fun e he => hsub e (by simp [he]), by rw [HF.out, formedL, HQ.out, if_pos HZ.out, show q.2 = 64 - c2 by omega], e2, e3, e1, HBX2.out, by omega, HG2.out⟩
          case measure => simp [intOf]; omega
        · have hz2 : (q.1 != 0) = true := by simpa using hz
          have HZ := Lib.hid hz
          clear hz
          go_wp2
          go_ret
          refine ⟨ret_int ?_, ?_, HG2.out⟩
          · rw [HF.out, formedL, HQ.out, if_neg HZ.out]
          · obtain ⟨c2, e1, e2, e3, e4⟩ := hcell2.out
            exact ⟨c2, e1, e2, e3, fun h => by rw [HF.out, formedL, HQ.out, if_neg HZ.out] at h; exact absurd h HZ.out⟩

theorem argsS_none (o : Int) (h : argsS o = none) : o < 0 ∨ 13 < o := by
  unfold argsS at h
  repeat' split at h
  all_goals first | omega | (cases h; done)
set_option maxRecDepth 100000 in
set_option maxHeartbeats 1000000 in
theorem form14_any : ∀ e, FormSaid e := by
  refine EX.ind fun o x i l ih => ?_
  intro n level c v w0 w bc hv hB hbc hcell hc0 hc1 hn0 hn1 hl0 hl1
  obtain ⟨A, cc, rfl, hlc, hcm, hA⟩ := hv
  have hcc := cell_of_one hcell
  have hcf := free_of_one hcell
  have hbw := oneLt hcell
  have hne : bc ≠ w.heap.size := by omega
  have hne' : w.heap.size ≠ bc := by omega
  have hlm : (l.length : Int) ≤ 35184372088831 := by omega
  have HC := Lib.hid hcell
  have HA := Lib.hid hA
  have HB := Lib.hid hB
  have IH := Lib.hid ih
  clear hcell hA hB ih
  by_cases h1 : c = 0
  · subst h1
    rw [formedE, if_pos (.inl rfl)]
    go_enter Try.func44, Try.ntmps44
    go_wp2
    go_ret
    exact ⟨rfl, ⟨0, oneAlloc HC.out _, by decide, by decide, fun h => absurd h (by decide)⟩, (by repeat (first | exact World.grownBy.refl _ _ | assumption | refine gAlloc ?_ _ | refine gDrewN ?_ _ | refine gSet ?_ (by simp; try omega) _))⟩
  have hc64 : (c == 0) = false := by rw [beq_eq_false_iff_ne]; omega
  have H1 := Lib.hid h1
  clear h1
  by_cases h2 : 8 < level
  · rw [formedE, if_pos (.inr h2)]
    go_enter Try.func44, Try.ntmps44
    go_wp2
    go_ret
    first | exact ⟨rfl, ⟨c, oneAlloc HC.out _, hc0, hc1, fun h => absurd h (by decide)⟩, (by repeat (first | exact World.grownBy.refl _ _ | assumption | refine gAlloc ?_ _ | refine gDrewN ?_ _ | refine gSet ?_ (by simp; try omega) _))⟩ | exact ⟨rfl, ⟨c, oneAlloc HC.out _, hc0, hc1⟩, (by repeat (first | exact World.grownBy.refl _ _ | assumption | refine gAlloc ?_ _ | refine gDrewN ?_ _ | refine gSet ?_ (by simp; try omega) _))⟩
  have hbad : ¬ (64 - c = 64 ∨ 8 < level) := by have := H1.out; omega
  cases h3 : argsS o with
  | none =>
    have hrg := argsS_none o h3
    rw [formedE, if_neg hbad, h3]
    clear hbad h3
    rcases hrg with hrg | hrg
    all_goals
      go_enter Try.func44, Try.ntmps44
      go_wp2
      go_ret
      first | exact ⟨rfl, ⟨c, oneAlloc HC.out _, hc0, hc1, fun h => absurd h (by decide)⟩, (by repeat (first | exact World.grownBy.refl _ _ | assumption | refine gAlloc ?_ _ | refine gDrewN ?_ _ | refine gSet ?_ (by simp; try omega) _))⟩ | exact ⟨rfl, ⟨c, oneAlloc HC.out _, hc0, hc1⟩, (by repeat (first | exact World.grownBy.refl _ _ | assumption | refine gAlloc ?_ _ | refine gDrewN ?_ _ | refine gSet ?_ (by simp; try omega) _))⟩
  | some want =>
    have hw3 := argsS_le o want h3
    have hcls := argsS_cases o want h3
    have ho0 : 0 ≤ o := by omega
    have ho13 : o ≤ 13 := by omega
    by_cases h4 : (l.length : Int) = want
    case neg =>
      rw [formedE, if_neg hbad, h3]
      simp only
      rw [if_pos h4]
      have hlne : ((l.length : Int) != want) = true := by rw [bne_iff_ne]; exact h4
      clear hbad h4
      go_enter Try.func44, Try.ntmps44
      go_wp2
      go_quiet ((go_at_call 68; exact Calls.quiet_of_same (arity_any _ _ (by omega) (by omega))))
      go_wp2_with (go_at_call 19; refine (beyond_any _ _ _ (by decide) (by decide)).mono ?_; rintro e w' ⟨rfl, rfl⟩)
      go_ret
      first | exact ⟨rfl, ⟨c, oneDrewN (oneAlloc HC.out _) _, hc0, hc1, fun h => absurd h (by decide)⟩, (by repeat (first | exact World.grownBy.refl _ _ | assumption | refine gAlloc ?_ _ | refine gDrewN ?_ _ | refine gSet ?_ (by simp; try omega) _))⟩ | exact ⟨rfl, ⟨c, oneDrewN (oneAlloc HC.out _) _, hc0, hc1⟩, (by repeat (first | exact World.grownBy.refl _ _ | assumption | refine gAlloc ?_ _ | refine gDrewN ?_ _ | refine gSet ?_ (by simp; try omega) _))⟩
    have hnl : ¬ ((l.length : Int) ≠ want) := by omega
    have hleq : ((l.length : Int) != want) = false := by simpa using h4
    have hl1 : level ≤ 8 := by omega
    by_cases h5 : (o ≠ 0 ∧ x ≠ 0) ∨ (o ≠ 1 ∧ i ≠ 0)
    · rw [formedE, if_neg hbad, h3]
      simp only
      rw [if_neg hnl, if_pos h5]
      have H4 := Lib.hid h4
      clear hbad h4 hnl
      rcases h5 with ⟨h5, h6⟩ | ⟨h5, h6⟩
      · have h5' : (o != 0) = true := by simpa using h5
        have h6' : (x != 0) = true := by simpa using h6
        clear h5 h6
        go_enter Try.func44, Try.ntmps44
        go_wp2
        go_quiet ((go_at_call 68; exact Calls.quiet_of_same (arity_any _ _ (by omega) (by omega))))
        go_wp2_with (go_at_call 19; refine (beyond_any _ _ _ (by decide) (by decide)).mono ?_; rintro e w' ⟨rfl, rfl⟩)
        go_ret
        first | exact ⟨rfl, ⟨c, oneDrewN (oneAlloc HC.out _) _, hc0, hc1, fun h => absurd h (by decide)⟩, (by repeat (first | exact World.grownBy.refl _ _ | assumption | refine gAlloc ?_ _ | refine gDrewN ?_ _ | refine gSet ?_ (by simp; try omega) _))⟩ | exact ⟨rfl, ⟨c, oneDrewN (oneAlloc HC.out _) _, hc0, hc1⟩, (by repeat (first | exact World.grownBy.refl _ _ | assumption | refine gAlloc ?_ _ | refine gDrewN ?_ _ | refine gSet ?_ (by simp; try omega) _))⟩
      · have h5' : (o != 1) = true := by simpa using h5
        have h6' : (i != 0) = true := by simpa using h6
        clear h5 h6
        go_enter Try.func44, Try.ntmps44
        go_wp2
        go_quiet ((go_at_call 68; exact Calls.quiet_of_same (arity_any _ _ (by omega) (by omega))))
        go_wp2_with (go_at_call 19; refine (beyond_any _ _ _ (by decide) (by decide)).mono ?_; rintro e w' ⟨rfl, rfl⟩)
        all_goals go_ret
        all_goals first | exact ⟨rfl, ⟨c, oneDrewN (oneAlloc HC.out _) _, hc0, hc1, fun h => absurd h (by decide)⟩, (by repeat (first | exact World.grownBy.refl _ _ | assumption | refine gAlloc ?_ _ | refine gDrewN ?_ _ | refine gSet ?_ (by simp; try omega) _))⟩ | exact ⟨rfl, ⟨c, oneDrewN (oneAlloc HC.out _) _, hc0, hc1⟩, (by repeat (first | exact World.grownBy.refl _ _ | assumption | refine gAlloc ?_ _ | refine gDrewN ?_ _ | refine gSet ?_ (by simp; try omega) _))⟩
    by_cases h7 : (o = 0 ∧ largeS x 65536 = true) ∨ (o = 1 ∧ (i < 0 ∨ n ≤ i))
    · rw [formedE, if_neg hbad, h3]
      simp only
      rw [if_neg hnl, if_neg h5, if_pos h7]
      have H4 := Lib.hid h4
      have hz : largeS 0 65536 = false := by decide
      clear hbad h4 hnl hcls
      rcases h7 with ⟨rfl, h8⟩ | ⟨rfl, h8⟩
      · obtain rfl : i = 0 := by omega
        clear h5
        go_enter Try.func44, Try.ntmps44
        go_wp2
        go_quiet ((go_at_call 68; exact Calls.quiet_of_same (arity_any _ _ (by omega) (by omega))))
        go_wp2_with (go_at_call 19; refine (beyond_any _ _ _ (by decide) (by decide)).mono ?_; rintro e w' ⟨rfl, rfl⟩)
        go_ret
        first | exact ⟨rfl, ⟨c, oneDrewN (oneAlloc HC.out _) _, hc0, hc1, fun h => absurd h (by decide)⟩, (by repeat (first | exact World.grownBy.refl _ _ | assumption | refine gAlloc ?_ _ | refine gDrewN ?_ _ | refine gSet ?_ (by simp; try omega) _))⟩ | exact ⟨rfl, ⟨c, oneDrewN (oneAlloc HC.out _) _, hc0, hc1⟩, (by repeat (first | exact World.grownBy.refl _ _ | assumption | refine gAlloc ?_ _ | refine gDrewN ?_ _ | refine gSet ?_ (by simp; try omega) _))⟩
      · obtain rfl : x = 0 := by omega
        clear h5
        rcases h8 with h8 | h8
        all_goals
          go_enter Try.func44, Try.ntmps44
          go_wp2
          go_quiet ((go_at_call 68; exact Calls.quiet_of_same (arity_any _ _ (by omega) (by omega))))
          go_wp2_with (go_at_call 19; refine (beyond_any _ _ _ (by decide) (by decide)).mono ?_; rintro e w' ⟨rfl, rfl⟩)
          all_goals go_ret
          all_goals first | exact ⟨rfl, ⟨c, oneDrewN (oneAlloc HC.out _) _, hc0, hc1, fun h => absurd h (by decide)⟩, (by repeat (first | exact World.grownBy.refl _ _ | assumption | refine gAlloc ?_ _ | refine gDrewN ?_ _ | refine gSet ?_ (by simp; try omega) _))⟩ | exact ⟨rfl, ⟨c, oneDrewN (oneAlloc HC.out _) _, hc0, hc1⟩, (by repeat (first | exact World.grownBy.refl _ _ | assumption | refine gAlloc ?_ _ | refine gDrewN ?_ _ | refine gSet ?_ (by simp; try omega) _))⟩
    · rw [formedE, if_neg hbad, h3]
      simp only
      rw [if_neg hnl, if_neg h5, if_neg h7, show 64 - c + 1 = 64 - (c - 1) by omega]
      refine form_ok o x i want n level c l l.length cc A rfl (by omega) w0 w bc (ER.ero HA.out) HB.out hbc HC.out (by have := H1.out; omega) hc1 hn0 hn1 hl0 hl1 h3 h4 ?_ IH.out
      rcases hcls with rfl | rfl | hcls
      · left
        have : largeS x 65536 ≠ true := fun h => h7 (.inl ⟨rfl, h⟩)
        exact ⟨rfl, by omega, by simpa using this⟩
      · right; left; omega
      · right; right; omega
end Go.Proofs.Ytmclnnpaephkpaa

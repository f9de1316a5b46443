/-
  WALKS of chapter 14: bounds of the program.
-/
import Derived.Test.YtmclnnpaephkpaaBB14
import Derived.Test.YtmclnnpaephkpaaWC14
import Derived.Test.YtmclnnpaephkpaaWN14
import Derived.Test.YtmclnnpaephkpaaPB14
import Derived.Test.YtmclnnpaephkpaaHeld14
import Derived.BigRegion
import Derived.Deep.CutBlock
import Derived.Deep.DeepCutAuto
namespace Go.Proofs.Ytmclnnpaephkpaa
set_option linter.unusedVariables false
set_option linter.unusedSimpArgs false
set_option linter.unnecessarySimpa false
set_option linter.unusedSectionVars false
open Go.RowKit

theorem VRo.at {w : World} {A : Option Addr} : ∀ {l : List VT} {m : Nat} (k : Nat), VRo w A m l → k < l.length → ∃ g off, A = some ⟨g, off, none⟩ ∧ w.cell? ⟨g, off + (m + k) * 4, none⟩ = some (.string (l.getD k default).name) ∧ w.cell? ⟨g, off + (m + k) * 4 + 1, none⟩ = some (.int .i64 (l.getD k default).low) ∧ w.cell? ⟨g, off + (m + k) * 4 + 2, none⟩ = some (.int .i64 (l.getD k default).high) ∧ w.cell? ⟨g, off + (m + k) * 4 + 3, none⟩ = some (.int .i64 (l.getD k default).init) ∧ g < w.heap.size
  | x :: xs, m, 0, h, _ => by
    obtain ⟨g, off, hA, h0, h1, h2, h3, _, hg, _, _⟩ := h.cons
    exact ⟨g, off, hA, by simpa using h0, by simpa using h1, by simpa using h2, by simpa using h3, hg⟩
  | x :: xs, m, k + 1, h, hk => by
    obtain ⟨_, _, _, _, _, _, _, _, _, _, hr⟩ := h.cons
    obtain ⟨g, off, hA, h0, h1, h2, h3, hg⟩ := VRo.at k hr (by simpa using hk)
    rw [show m + 1 + k = m + (k + 1) by omega] at h0 h1 h2 h3
    exact ⟨g, off, hA, by simpa using h0, by simpa using h1, by simpa using h2, by simpa using h3, hg⟩
  | [], _, _, _, h => by simp at h
theorem ret2_sb {a b c d : Int} {p q : Bool} (h1 : a = c) (h2 : b = d) (h' : p = q) : Ending.returned (.tuple #[.agg #[.int .i64 a, .int .i64 b], .bool p]) = .returned (.tuple #[.agg #[.int .i64 c, .int .i64 d], .bool q]) := by rw [h1, h2, h']
theorem cellA {w : World} {b o : Nat} (h : b < w.heap.size) {ob : Obj} : (w.alloc ob).cell? ⟨b, o, none⟩ = w.cell? ⟨b, o, none⟩ := ((Below.refl _ w).alloc (Nat.le_refl _) ob).cell (p := ⟨b, o, none⟩) h
theorem frozA {w : World} {b o : Nat} (h : b < w.heap.size) {ob : Obj} : (w.alloc ob).frozen? ⟨b, o, none⟩ = w.frozen? ⟨b, o, none⟩ := ((Below.refl _ w).alloc (Nat.le_refl _) ob).frozen (p := ⟨b, o, none⟩) h
def BPost (vs : List VT) (e : EX) (w : World) (en : Ending) (w' : World) : Prop := ∃ q : Int × Int, en = .returned (.tuple #[.agg #[.int .i64 q.1, .int .i64 q.2], .bool (boundsE vs e).isSome]) ∧ (∀ r, boundsE vs e = some r → q = r) ∧ Below w.heap.size w w'
theorem bpost {vs : List VT} {e : EX} {w w' : World} {en : Ending} (q : Int × Int) (h1 : en = .returned (.tuple #[.agg #[.int .i64 q.1, .int .i64 q.2], .bool (boundsE vs e).isSome])) (h2 : ∀ r, boundsE vs e = some r → q = r) (h3 : Below w.heap.size w w') : BPost vs e w en w' := ⟨q, h1, h2, h3⟩
def BoundsSaid (vs : List VT) (e : EX) : Prop := ∀ (v : Value) (A : Option Addr) (n c : Nat) (w : World), n = vs.length → n ≤ c → c ≤ 1000000 → ER w e v → VRo w A 0 vs →
  Calls Try.prog 52 #[v, .slice A n c] w (BPost vs e w)
set_option maxRecDepth 100000 in
set_option maxHeartbeats 2000000 in
theorem bounds_leaf (vs : List VT) (hvs : VarsOK vs) (o x i : Int) (l : List EX) (ih : ∀ e, e ∈ l → RightE vs.length e → BoundsSaid vs e) (hcls : o = 0 ∨ o = 1) : RightE vs.length (.node o x i l) → BoundsSaid vs (.node o x i l) := by
  intro hwf v Av nv cv w hnv hncv hcv hv hvals
  have HALL : Hid (∀ e, e ∈ l → ∀ r, boundsE vs e = some r → SpanOK e r) := Lib.hid fun e he => boundsE_ok hvs e (wf_args hwf e he)
  obtain ⟨A, cc, rfl, hlc, hcm, hA⟩ := hv
  have HW := Lib.hid hwf
  have HA := Lib.hid (ER.ero hA)
  have IH : Hid (∀ e, e ∈ l → BoundsSaid vs e) := Lib.hid fun e he => ih e he (wf_args hwf e he)
  have HI := Lib.hid hvals
  have HNV := Lib.hid hnv
  have hops : 0 ≤ o ∧ o ≤ 13 := by have h := hwf.1; rw [wfE] at h; exact argsS_rng o _ h.1
  have hN3 : l.length ≤ 3 := by have h := hwf.1; rw [wfE] at h; have := argsS_le3 o _ h.1; omega
  obtain ⟨N, hN⟩ : ∃ N, l.length = N := ⟨_, rfl⟩
  rw [hN] at hlc hN3 ⊢
  have HN := Lib.hid hN
  clear hA hwf ih hvs hvals hnv hN
  go_enter Try.func52, Try.ntmps52
  go_wp2
  go_loopw [6, 16] (fun s j wr => ∃ k : Nat, ∃ A' : Option Addr, ∃ c' : Nat, k ≤ N ∧ j = .int .i64 k ∧ s = .slice A' k c' ∧ Hid (∃ r os, k + r.length = N ∧ os.length = k ∧ ERo w A k r ∧ (∀ e, e ∈ r → e ∈ l) ∧ boundsL vs l = (boundsL vs r).map (os ++ ·) ∧ wr.ownsRow (w.heap.size + 2) 88 2 (.slice A' k c') k (flatS os) ∧ Keeps (w.heap.size + 2) ((w.alloc (.cells #[.int .i64 o, .int .i64 x, .int .i64 i, .slice A N cc] 24)).alloc (.cells #[.int .i64 0, .int .i64 0] 88)) wr)) (fun _ j _ => N - (intOf j).toNat)
  case atStart => exact ⟨0, none, 0, Nat.zero_le _, rfl, rfl, l, [], by have := HN.out; omega, rfl, HA.out, fun _ h => h, by simp, World.ownsRow_nil _ _ _ _, keepSelf (by simp)⟩
  case round =>
    obtain ⟨k, A', c', hk, rfl, rfl, HR⟩ := hrel
    obtain ⟨r, os, hr, hos, her, hsub, hf, hown, hkeep⟩ := HR.out
    have hcell := hkeep.2.2
    have hfro := bfro1 hkeep.1
    have hsz := hkeep.2.1
    have z0 : wr.cell? ⟨w.heap.size + 1, 0, none⟩ = some (.int .i64 0) := by rw [hcell _ _ (by omega)]; simp [go_sem]
    have z1 : wr.cell? ⟨w.heap.size + 1, 1, none⟩ = some (.int .i64 0) := by rw [hcell _ _ (by omega)]; simp [go_sem]
    have hzl : w.heap.size + 1 < wr.heap.size := by omega
    have hne1 : ¬ wr.heap.size = w.heap.size := by omega
    have hne2 : ¬ w.heap.size = wr.heap.size := by omega
    have HF := Lib.hid hf
    have HLN := Lib.hid hr
    have HOS := Lib.hid hos
    have HOW := Lib.hid hown
    have HK := Lib.hid hkeep
    have HB := Lib.hid ((((Below.refl _ w).alloc (Nat.le_refl _) _).alloc (by simp) _).trans (hkeep.1.mono (Nat.le_add_right _ _)))
    clear hf hr HR hos hown hkeep
    match r with
    | [] =>
      obtain rfl : k = N := by have := HLN.out; simp at this; omega
      have HL : Hid (boundsL vs l = some os) := Lib.hid (by rw [HF.out]; simp [boundsL])
      by_cases ho0 : o = 0
      · subst ho0
        have hl0 : l = [] := (by have h := HW.out.1; rw [wfE] at h; exact (argsS_at h.1).2.2.1 (.inl rfl))
        subst hl0
        go_wp2
        refine bodyPost_ret (v := .tuple #[.agg #[.int .i64 x, .int .i64 x], .bool true]) (by simp [results, Try.results52, go_sem, z0, z1, hzl]) rfl (bpost (x, x) (ret2_sb rfl rfl (by rw [boundsE_0]; rfl)) (fun r h => (by rw [boundsE_0] at h; injection h with h)) ?_)
        exact (by repeat (first | exact Below.refl _ _ | assumption | refine Below.drew ?_ | refine below_drewN ?_ _ | refine Below.setCell ?_ (by simp; try omega) _ | refine Below.alloc ?_ (by simp; try omega) _))
      by_cases ho1 : o = 1
      · subst ho1
        have hl0 : l = [] := (by have h := HW.out.1; rw [wfE] at h; exact (argsS_at h.1).2.2.1 (.inr rfl))
        subst hl0
        have hi := HW.out.2.1
        rw [rangeE] at hi
        have hi := hi.2.1 rfl
        obtain ⟨m, rfl⟩ : ∃ m : Nat, i = (m : Int) := ⟨i.toNat, by omega⟩
        have hmv : m < nv := by have := HNV.out; omega
        obtain ⟨g, off, rfl, _, e1, e2, _, hg⟩ := HI.out.at m (by have := HNV.out; omega)
        simp only [Nat.zero_add] at e1 e2
        have HE : Hid (boundsE vs (.node 1 x (m : Int) []) = some ((vs.getD m default).low, (vs.getD m default).high)) := Lib.hid (by rw [boundsE_1]; rfl)
        obtain ⟨q, hq⟩ : ∃ q, vs.getD m default = q := ⟨_, rfl⟩
        rw [hq] at e1 e2
        have HQ := Lib.hid hq
        have hg1 : g < w.heap.size + 2 := by omega
        clear hi hq ho0
        go_wp2
        go_big_region
        go_wp2
        refine bodyPost_ret (v := .tuple #[.agg #[.int .i64 q.low, .int .i64 q.high], .bool true]) (by simp [results, Try.results52, go_sem, z0, z1, hzl]) rfl (bpost (q.low, q.high) (ret2_sb rfl rfl (by rw [HE.out]; rfl)) (fun r h => (by rw [HE.out, HQ.out] at h; injection h)) ?_)
        exact (by repeat (first | exact Below.refl _ _ | assumption | refine Below.drew ?_ | refine below_drewN ?_ _ | refine Below.setCell ?_ (by simp; try omega) _ | refine Below.alloc ?_ (by simp; try omega) _))
      omega
    | y :: r =>
      have hlt : k < N := by have := HLN.out; simp at this; omega
      obtain ⟨b1, f1, rfl, A1, c1, a0, a1, a2, a3, hb1, hb1', hb1'', hy, hry⟩ := her.cons'
      have hbal := HB.out.alloc HB.out.size (.cells #[.int .i64 y.op, .int .i64 y.val, .int .i64 y.idx, .slice A1 y.args.length c1] 24)
      have HC' := Lib.hid (IH.out y (hsub y (by simp)) _ _ nv cv (wr.alloc (.cells #[.int .i64 y.op, .int .i64 y.val, .int .i64 y.idx, .slice A1 y.args.length c1] 24)) HNV.out hncv hcv (ER.below hbal _ _ hy) (HI.out.kept hbal (Nat.le_refl _)))
      obtain ⟨ov, hov⟩ : ∃ ov, boundsE vs y = ov := ⟨_, rfl⟩
      have HV := Lib.hid hov
      have hb1h : b1 < w.heap.size + 2 := by omega
      clear hov hbal
      go_wp2_with fail
      refine (HC'.out).mono ?_
      rintro en w2 hbp
      unfold BPost at hbp
      rw [HV.out] at hbp
      obtain ⟨q, rfl, hq, hb2⟩ := hbp
      have HQ := Lib.hid hq
      have HK2 := Lib.hid (keep2 (keepA HK.out _) hb2)
      have HOW2 := Lib.hid (ownBelowN (HOW.out.alloc _) hb2)
      have hc2 := HK2.out.2.2
      have hf2 := bfro1 HK2.out.1
      have hs2 := HK2.out.2.1
      have y0 : w2.cell? ⟨w.heap.size + 1, 0, none⟩ = some (.int .i64 0) := by rw [hc2 _ _ (by omega)]; simp [go_sem]
      have y1 : w2.cell? ⟨w.heap.size + 1, 1, none⟩ = some (.int .i64 0) := by rw [hc2 _ _ (by omega)]; simp [go_sem]
      have hyl : w.heap.size + 1 < w2.heap.size := by omega
      have HB2 := Lib.hid ((((Below.refl _ w).alloc (Nat.le_refl _) _).alloc (by simp) _).trans (HK2.out.1.mono (Nat.le_add_right w.heap.size 2)))
      clear hq hb2
      match ov with
      | none =>
        go_wp2
        refine bodyPost_ret (v := .tuple #[.agg #[.int .i64 0, .int .i64 0], .bool false]) (by simp [results, Try.results52, go_sem, y0, y1, hyl]) rfl (bpost (0, 0) (ret2_sb rfl rfl ?_) (fun r h => ?_) ?_)
        · rw [boundsE, HF.out, boundsL, HV.out]; rfl
        · rw [boundsE, HF.out, boundsL, HV.out] at h; cases h
        · exact (by repeat (first | exact Below.refl _ _ | assumption | refine Below.drew ?_ | refine below_drewN ?_ _ | refine Below.setCell ?_ (by simp; try omega) _ | refine Below.alloc ?_ (by simp; try omega) _))
      | some p =>
        obtain rfl := HQ.out p rfl
        go_wp2_with (at_builtin; refine app_span rfl _ _ rfl (w.heap.size + 2) _ k os rfl ((HOW2.out.alloc _).alloc _) _ q rfl (by simp [go_sem]) (by simp [go_sem]) (by omega) (by have := HK2.out.2.1; simp; omega) ?_; intro v' w1 hown1 hg1; obtain ⟨A2, c2, rfl⟩ := own_form hown1)
        go_roundw
        case rel => exact ⟨k + 1, A2, c2, by omega, by go_num, rfl, r, os ++ [q], by have := HLN.out; simp at this; omega, by have := HOS.out; simp; omega, hry, fun e he => hsub e (by simp [he]), by rw [HF.out, boundsL, HV.out]; simp [Function.comp_def], hown1, keepG (keepA (keepA HK2.out _) _) hg1 (fun k hk => by have := own_ge HOW2.out k hk; omega)⟩
        case measure => simp [intOf]; omega
end Go.Proofs.Ytmclnnpaephkpaa

/-
  WALKS of chapter 14: evaluate of the program.
-/
import Derived.Test.YtmclnnpaephkpaaWF14
import Derived.Test.YtmclnnpaephkpaaWG14
import Derived.Test.YtmclnnpaephkpaaWB14
import Derived.Test.YtmclnnpaephkpaaWA14
import Derived.Test.YtmclnnpaephkpaaPE14
namespace Go.Proofs.Ytmclnnpaephkpaa
set_option linter.unusedVariables false
set_option linter.unusedSimpArgs false
set_option linter.unnecessarySimpa false
set_option linter.unusedSectionVars false
open Go.RowKit

theorem IRo.at {w : World} {A : Option Addr} : ∀ {l : List Int} {m : Nat} (k : Nat), IRo w A m l → k < l.length → ∃ g off, A = some ⟨g, off, none⟩ ∧ w.cell? ⟨g, off + (m + k), none⟩ = some (.int .i64 (l.getD k 0)) ∧ g < w.heap.size
  | x :: xs, m, 0, h, _ => by
    obtain ⟨g, off, hA, h0, hg, _⟩ := h.cons
    exact ⟨g, off, hA, by simpa using h0, hg⟩
  | x :: xs, m, k + 1, h, hk => by
    obtain ⟨_, _, _, _, _, _, _, h1⟩ := h.cons
    obtain ⟨g, off, hA, h0, hg⟩ := IRo.at k h1 (by simpa using hk)
    exact ⟨g, off, hA, by rw [show m + (k + 1) = m + 1 + k by omega]; simpa using h0, hg⟩
  | [], _, _, _, h => by simp at h
theorem ret2_ib {a b : Int} {p q : Bool} (h : a = b) (h' : p = q) : Ending.returned (.tuple #[.int .i64 a, .bool p]) = .returned (.tuple #[.int .i64 b, .bool q]) := by rw [h, h']
/-- apply, for numbers that it may be applied to. -/
theorem apply_any (o : Int) (ns : List Int) (A : Option Addr) (n c : Nat) (w : World) (hn : n = ns.length) (h : IRo w A 0 ns) (hok : AppOK o ns) :
    Calls Try.prog 71 #[.int .i64 o, .slice A n c] w fun e w' => e = .returned (.int .i64 (applyS o ns)) ∧ ∃ k, w' = w.drewN k := by
  rcases hok with ⟨a, rfl, ho, h1, h2⟩ | ⟨a, b, rfl, ho, h1, h2, h3, h4⟩ | ⟨a, b, rfl, ho, h1, h2⟩
  · exact apply1_any o a [] A n c w hn h ho h1 h2
  · exact apply2_any o a b [] A n c w hn h ho h1 h2 h3 h4
  · exact applyB_any o a b [] A n c w hn h ho h1 h2
theorem apply14_any (o : Int) (ns : List Int) (A : Option Addr) (n c : Nat) (w : World) (hn : n = ns.length) (h : IRo w A 0 ns) (hok : AppOK o ns) :
    Calls Try.prog 51 #[.int .i64 o, .slice A n c] w fun e w' => e = .returned (.int .i64 (applyS o ns)) ∧ ∃ k, w' = w.drewN k := by
  rcases hok with ⟨a, rfl, ho, h1, h2⟩ | ⟨a, b, rfl, ho, h1, h2, h3, h4⟩ | ⟨a, b, rfl, ho, h1, h2⟩
  · exact apply14a_any o a [] A n c w hn h ho h1 h2
  · exact apply14b_any o a b [] A n c w hn h ho h1 h2 h3 h4
  · exact apply14c_any o a b [] A n c w hn h ho h1 h2
theorem ERo.three {w : World} {A : Option Addr} {a b c : EX} {l : List EX} (h : ERo w A 0 (a :: b :: c :: l)) : ∃ g off, A = some ⟨g, off, none⟩ ∧ g < w.heap.size ∧ g < w.heap.size + 1 ∧ g < w.heap.size + 1 + 1 ∧
    (∃ A1 c1, w.cell? ⟨g, off, none⟩ = some (.int .i64 a.op) ∧ w.cell? ⟨g, off + 1, none⟩ = some (.int .i64 a.val) ∧ w.cell? ⟨g, off + 2, none⟩ = some (.int .i64 a.idx) ∧ w.cell? ⟨g, off + 3, none⟩ = some (.slice A1 a.args.length c1) ∧ ER w a (.agg #[.int .i64 a.op, .int .i64 a.val, .int .i64 a.idx, .slice A1 a.args.length c1])) ∧
    (∃ A1 c1, w.cell? ⟨g, off + 4, none⟩ = some (.int .i64 b.op) ∧ w.cell? ⟨g, off + 4 + 1, none⟩ = some (.int .i64 b.val) ∧ w.cell? ⟨g, off + 4 + 2, none⟩ = some (.int .i64 b.idx) ∧ w.cell? ⟨g, off + 4 + 3, none⟩ = some (.slice A1 b.args.length c1) ∧ ER w b (.agg #[.int .i64 b.op, .int .i64 b.val, .int .i64 b.idx, .slice A1 b.args.length c1])) ∧
    (∃ A1 c1, w.cell? ⟨g, off + 8, none⟩ = some (.int .i64 c.op) ∧ w.cell? ⟨g, off + 8 + 1, none⟩ = some (.int .i64 c.val) ∧ w.cell? ⟨g, off + 8 + 2, none⟩ = some (.int .i64 c.idx) ∧ w.cell? ⟨g, off + 8 + 3, none⟩ = some (.slice A1 c.args.length c1) ∧ ER w c (.agg #[.int .i64 c.op, .int .i64 c.val, .int .i64 c.idx, .slice A1 c.args.length c1])) := by
  obtain ⟨g, off, rfl, A1, c1, a0, a1, a2, a3, hb, hb', hb'', hx, h⟩ := h.cons'
  obtain ⟨g', off', e, A2, c2, b0, b1, b2, b3, _, _, _, hy, h⟩ := h.cons'
  injection e with e
  injection e with e1 e2
  subst e1 e2
  obtain ⟨g', off', e, A3, c3, d0, d1, d2, d3, _, _, _, hz, h⟩ := h.cons'
  injection e with e
  injection e with e1 e2
  subst e1 e2
  exact ⟨g, off, rfl, hb, hb', hb'', ⟨A1, c1, by simpa using a0, by simpa using a1, by simpa using a2, by simpa using a3, hx⟩, ⟨A2, c2, by simpa using b0, by simpa using b1, by simpa using b2, by simpa using b3, hy⟩, ⟨A3, c3, by simpa using d0, by simpa using d1, by simpa using d2, by simpa using d3, hz⟩⟩
theorem evalE_0 {vs : List Int} {v i : Int} {l : List EX} : evalE vs (.node 0 v i l) = some v := by unfold evalE; rw [if_pos rfl]
theorem evalE_1 {vs : List Int} {v i : Int} {l : List EX} : evalE vs (.node 1 v i l) = some (vs.getD i.toNat 0) := by unfold evalE; rw [if_neg (by decide), if_pos rfl]
theorem evalE_13 {vs : List Int} {v i : Int} {c a b : EX} : evalE vs (.node 13 v i [c, a, b]) = match evalE vs c with | none => none | some n => if n = 1 then evalE vs a else evalE vs b := by
  rw [evalE]; simp only [if_neg (show ¬ (13:Int) = 0 by decide), if_neg (show ¬ (13:Int) = 1 by decide)]
  cases evalE vs c <;> rfl
theorem evalE_op {vs : List Int} {o v i : Int} {l : List EX} (ho : o ≠ 0 ∧ o ≠ 1 ∧ o ≠ 13) : evalE vs (.node o v i l) = match evalL vs l with | none => none | some ns => if largeS (applyS o ns) 1073741824 then none else some (applyS o ns) := by
  unfold evalE; rw [if_neg ho.1, if_neg ho.2.1, if_neg ho.2.2]
  cases evalL vs l <;> rfl
def EvalSaid (vs : List Int) (e : EX) : Prop := ∀ (v : Value) (A : Option Addr) (n c : Nat) (w : World), n = vs.length → n ≤ c → c ≤ 1000000 → ER w e v → IRo w A 0 vs →
  Calls Try.prog 50 #[v, .slice A n c] w fun en w' => ∃ q, en = .returned (.tuple #[.int .i64 q, .bool (evalE vs e).isSome]) ∧ (∀ r, evalE vs e = some r → q = r) ∧ Below w.heap.size w w'
set_option maxRecDepth 100000 in
set_option maxHeartbeats 2000000 in
theorem evaluate_any (vs : List Int) (hvs : ∀ q, q ∈ vs → -65536 ≤ q ∧ q ≤ 65536) : ∀ e, RightE vs.length e → EvalSaid vs e := by
  refine EX.ind fun o x i l ih => ?_
  intro hwf v Av nv cv w hnv hncv hcv hv hvals
  have HVS := Lib.hid hvs
  have HALL : Hid (∀ e, e ∈ l → ∀ r, evalE vs e = some r → ValOK e r) := Lib.hid fun e he => evalE_ok hvs e (wf_args hwf e he)
  obtain ⟨A, cc, rfl, hlc, hcm, hA⟩ := hv
  have HW := Lib.hid hwf
  have HA := Lib.hid (ER.ero hA)
  have IH : Hid (∀ e, e ∈ l → EvalSaid vs e) := Lib.hid fun e he => ih e he (wf_args hwf e he)
  have HI := Lib.hid hvals
  have HNV := Lib.hid hnv
  clear hA hwf ih hvs hvals hnv
  have hcls : o = 0 ∨ o = 1 ∨ o = 13 ∨ (o ≠ 0 ∧ o ≠ 1 ∧ o ≠ 13) := by omega
  rcases hcls with rfl | rfl | rfl | ho
  · go_enter Try.func50, Try.ntmps50
    go_wp2
    go_ret2
    exact ⟨_, ret2_ib rfl (by rw [evalE_0]; rfl), fun r h => by rw [evalE_0] at h; simpa using h, (by repeat (first | exact Below.refl _ _ | assumption | refine Below.drew ?_ | refine below_drewN ?_ _ | refine Below.setCell ?_ (by simp; try omega) _ | refine Below.alloc ?_ (by simp; try omega) _))⟩
  · have hi := HW.out.2.1
    rw [rangeE] at hi
    have hi := hi.2.1 rfl
    obtain ⟨k, rfl⟩ : ∃ k : Nat, i = (k : Int) := ⟨i.toNat, by omega⟩
    have hkv : k < nv := by have := HNV.out; omega
    obtain ⟨g, off, rfl, hc, hg⟩ := HI.out.at k (by have := HNV.out; omega)
    simp only [Nat.zero_add] at hc
    have HE : Hid (evalE vs (.node 1 x (k : Int) l) = some (vs.getD k 0)) := Lib.hid (by rw [evalE_1]; rfl)
    obtain ⟨z, hz⟩ : ∃ z, vs.getD k 0 = z := ⟨_, rfl⟩
    rw [hz] at hc
    have HZ := Lib.hid hz
    clear hi hz
    go_enter Try.func50, Try.ntmps50
    go_wp2
    go_ret2
    exact ⟨_, ret2_ib rfl (by rw [HE.out]; rfl), fun r h => by rw [HE.out, HZ.out] at h; simpa using h, (by repeat (first | exact Below.refl _ _ | assumption | refine Below.drew ?_ | refine below_drewN ?_ _ | refine Below.setCell ?_ (by simp; try omega) _ | refine Below.alloc ?_ (by simp; try omega) _))⟩
  · rcases kind_args HW.out.1 HW.out.2.2 with ⟨h2, _⟩ | ⟨h2, _⟩ | ⟨h2, _⟩ | ⟨h2, _⟩ | ⟨h2, _⟩ | ⟨h2, _⟩ | ⟨_, y, a, b, rfl, _, _, _, kc, _, _⟩
    case inr.inr.inr.inr.inr.inr =>
      obtain ⟨g, off, rfl, hg, hg1, hg2, ⟨A1, c1, a0, a1, a2, a3, hx1⟩, ⟨A2, c2, b0, b1, b2, b3, hx2⟩, ⟨A3, c3, d0, d1, d2, d3, hx3⟩⟩ := HA.out.three
      have hB1 : Below w.heap.size w (w.alloc (.cells #[.int .i64 13, .int .i64 x, .int .i64 i, .slice (some ⟨g, off, none⟩) 3 cc] 24)) := (Below.refl _ w).alloc (Nat.le_refl _) _
      have H1 := Lib.hid (IH.out y (by simp) _ _ nv cv _ HNV.out hncv hcv (ER.below hB1 _ _ hx1) (HI.out.kept hB1 (Nat.le_refl _)))
      have HX2 := Lib.hid hx2
      have HX3 := Lib.hid hx3
      have HB1 := Lib.hid hB1
      have KC := Lib.hid kc
      obtain ⟨r0, hr0⟩ : ∃ r0, evalE vs y = r0 := ⟨_, rfl⟩
      have HR0 := Lib.hid hr0
      clear hx1 hx2 hx3 hB1 kc hr0
      have hle : (0 : Int) < (([y, a, b] : List EX).length : Int) := by simp
      simp only [List.length_cons, List.length_nil, Nat.zero_add, Nat.reduceAdd] at hle ⊢ hlc
      go_enter Try.func50, Try.ntmps50
      go_wp2_with fail
      refine H1.out.mono ?_
      rw [HR0.out]
      rintro en w2 ⟨q, rfl, hq, hb2⟩
      have hc2 := bcell1 hb2
      have hsz2 := hb2.size
      have HB2 := Lib.hid (HB1.out.trans (hb2.mono (by simp)))
      have HQ := Lib.hid hq
      simp at hc2 hsz2
      clear hb2 hq
      match r0 with
      | none =>
        go_wp2
        go_ret2
        exact ⟨_, ret2_ib rfl (by rw [evalE_13, HR0.out]; rfl), fun r h => (by rw [evalE_13, HR0.out] at h; cases h), HB2.out⟩
      | some r =>
        obtain rfl := HQ.out r rfl
        have hr := (HALL.out y (by simp) q HR0.out).2.2 KC.out
        rcases hr with rfl | rfl
        · have H2 := Lib.hid (IH.out b (by simp) _ _ nv cv w2 HNV.out hncv hcv (HX3.out.kept HB2.out (Nat.le_refl _)) (HI.out.kept HB2.out (Nat.le_refl _)))
          have HE : Hid (evalE vs (.node 13 x i [y, a, b]) = evalE vs b) := Lib.hid (by rw [evalE_13, HR0.out]; rfl)
          go_wp2_with fail
          refine H2.out.mono ?_
          rintro en w3 ⟨q, rfl, hq, hb3⟩
          have HB3 := Lib.hid (HB2.out.trans (hb3.mono HB2.out.size))
          have HQ2 := Lib.hid hq
          clear hb3 hq
          go_wp2
          go_ret2
          exact ⟨_, ret2_ib rfl (by rw [HE.out]), fun r h => HQ2.out r (by rwa [HE.out] at h), HB3.out⟩
        · have H2 := Lib.hid (IH.out a (by simp) _ _ nv cv w2 HNV.out hncv hcv (HX2.out.kept HB2.out (Nat.le_refl _)) (HI.out.kept HB2.out (Nat.le_refl _)))
          have HE : Hid (evalE vs (.node 13 x i [y, a, b]) = evalE vs a) := Lib.hid (by rw [evalE_13, HR0.out]; rfl)
          go_wp2_with fail
          refine H2.out.mono ?_
          rintro en w3 ⟨q, rfl, hq, hb3⟩
          have HB3 := Lib.hid (HB2.out.trans (hb3.mono HB2.out.size))
          have HQ2 := Lib.hid hq
          clear hb3 hq
          go_wp2
          go_ret2
          exact ⟨_, ret2_ib rfl (by rw [HE.out]), fun r h => HQ2.out r (by rwa [HE.out] at h), HB3.out⟩
    all_goals exact absurd h2 (by decide)
  · have hops : 0 ≤ o ∧ o ≤ 13 := by have h := HW.out.1; rw [wfE] at h; exact argsS_rng o _ h.1
    have hN3 : l.length ≤ 3 := by have h := HW.out.1; rw [wfE] at h; have := argsS_le3 o _ h.1; omega
    obtain ⟨N, hN⟩ : ∃ N, l.length = N := ⟨_, rfl⟩
    rw [hN] at hlc hN3 ⊢
    have HN := Lib.hid hN
    have HO := Lib.hid ho
    have t0 : (o == 0) = false := by simpa using ho.1
    have t1 : (o == 1) = false := by simpa using ho.2.1
    have t13 : (o == 13) = false := by simpa using ho.2.2
    clear ho hN
    go_enter Try.func50, Try.ntmps50
    go_wp2
    go_loopw [8, 53] (fun s j wr => ∃ k : Nat, ∃ A' : Option Addr, ∃ c' : Nat, k ≤ N ∧ j = .int .i64 k ∧ s = .slice A' k c' ∧ Hid (∃ r ns, k + r.length = N ∧ ns.length = k ∧ ERo w A k r ∧ (∀ e, e ∈ r → e ∈ l) ∧ evalL vs l = (evalL vs r).map (ns ++ ·) ∧ wr.ownsRow (w.heap.size + 1) 3 1 (.slice A' k c') k (ns.map (Value.int .i64)) ∧ Keeps (w.heap.size + 1) (w.alloc (.cells #[.int .i64 o, .int .i64 x, .int .i64 i, .slice A N cc] 24)) wr)) (fun _ j _ => N - (intOf j).toNat)
    case atStart => exact ⟨0, none, 0, Nat.zero_le _, rfl, rfl, l, [], by have := HN.out; omega, rfl, HA.out, fun _ h => h, by simp, World.ownsRow_nil _ _ _ _, keepSelf (by simp)⟩
    case round =>
      obtain ⟨k, A', c', hk, rfl, rfl, HR⟩ := hrel
      obtain ⟨r, ns, hr, hns, her, hsub, hf, hown, hkeep⟩ := HR.out
      have hcell := hkeep.2.2
      have hsz := hkeep.2.1
      have HF := Lib.hid hf
      have HLN := Lib.hid hr
      have HNS := Lib.hid hns
      have HOW := Lib.hid hown
      have HK := Lib.hid hkeep
      have HB := Lib.hid (((Below.refl _ w).alloc (Nat.le_refl _) _).trans (hkeep.1.mono (Nat.le_succ _)))
      clear hf hr HR hns hown hkeep
      match r with
      | [] =>
        obtain rfl : k = N := by have := HLN.out; simp at this; omega
        have HL : Hid (evalL vs l = some ns) := Lib.hid (by rw [HF.out]; simp [evalL])
        have HE : Hid (evalE vs (.node o x i l) = if largeS (applyS o ns) 1073741824 then none else some (applyS o ns)) := Lib.hid (by rw [evalE_op HO.out, HL.out])
        have HA2 := Lib.hid (app_ok HW.out.1 HW.out.2.2 HO.out HL.out HALL.out)
        have HI2 := Lib.hid (IRo.of_own' HOW.out)
        have HC := Lib.hid (apply_any o ns A' k c' wr HNS.out.symm HI2.out HA2.out)
        obtain ⟨q, hq⟩ : ∃ q, applyS o ns = q := ⟨_, rfl⟩
        have HQ := Lib.hid hq
        clear hq
        go_wp2_with fail
        refine HC.out.mono ?_
        rw [HQ.out]
        rintro en w2 ⟨rfl, kd, rfl⟩
        go_wp2_with fail
        refine (large_any q 1073741824 _ (by decide) (by decide)).mono ?_
        rintro en w2 ⟨rfl, rfl⟩
        cases hlg : largeS q 1073741824
        all_goals
          have HG := Lib.hid hlg
          clear hlg
          go_wp2
          go_ret2
          exact ⟨_, ret2_ib rfl (by rw [HE.out, HQ.out, HG.out]; rfl), fun r h => by rw [HE.out, HQ.out, HG.out] at h; (first | (simp at h; done) | simpa using h), below_drewN HB.out _⟩
      | y :: r =>
        have hlt : k < N := by have := HLN.out; simp at this; omega
        obtain ⟨b1, f1, rfl, A1, c1, a0, a1, a2, a3, hb1, hb1', hb1'', hy, hry⟩ := her.cons'
        have hbal := HB.out.alloc HB.out.size (.cells #[.int .i64 y.op, .int .i64 y.val, .int .i64 y.idx, .slice A1 y.args.length c1] 24)
        have HC' := Lib.hid (IH.out y (hsub y (by simp)) _ _ nv cv (wr.alloc (.cells #[.int .i64 y.op, .int .i64 y.val, .int .i64 y.idx, .slice A1 y.args.length c1] 24)) HNV.out hncv hcv (ER.below hbal _ _ hy) (HI.out.kept hbal (Nat.le_refl _)))
        obtain ⟨ov, hov⟩ : ∃ ov, evalE vs y = ov := ⟨_, rfl⟩
        have HV := Lib.hid hov
        clear hov hbal
        go_wp2_with fail
        refine (HC'.out).mono ?_
        rw [HV.out]
        rintro en w2 ⟨q, rfl, hq, hb2⟩
        have HQ := Lib.hid hq
        have HK2 := Lib.hid (keep2 (keepA HK.out _) hb2)
        have HOW2 := Lib.hid (ownBelow (HOW.out.alloc _) hb2)
        have hc2 := HK2.out.2.2
        clear hq hb2
        match ov with
        | none =>
          go_wp2
          go_ret2
          exact ⟨_, ret2_ib rfl (by rw [evalE_op HO.out, HF.out, evalL, HV.out]; rfl), fun r h => (by rw [evalE_op HO.out, HF.out, evalL, HV.out] at h; cases h), ((Below.refl _ w).alloc (Nat.le_refl _) _).trans (HK2.out.1.mono (Nat.le_succ _))⟩
        | some p =>
          obtain rfl := HQ.out p rfl
          go_wp2_with (at_builtin; refine app_int rfl _ _ rfl (w.heap.size + 1) _ k ns rfl (HOW2.out.alloc _) _ q rfl (by simp [go_sem]) (by omega) (by have := HK2.out.2.1; simp; omega) ?_; intro v' w1 hown1 hg1; obtain ⟨A2, c2, rfl⟩ := own_form hown1)
          go_roundw
          case rel => exact ⟨k + 1, A2, c2, by omega, by go_num, rfl, r, ns ++ [q], by have := HLN.out; simp at this; omega, by have := HNS.out; simp; omega, hry, fun e he => hsub e (by simp [he]), by rw [HF.out, evalL, HV.out]; simp [Function.comp_def], hown1, keepG (keepA HK2.out _) hg1 (fun k hk => by have := own_ge HOW2.out k hk; omega)⟩
          case measure => simp [intOf]; omega
end Go.Proofs.Ytmclnnpaephkpaa

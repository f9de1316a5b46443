/-
  WALKS of chapter 14: Fold.
-/
import Derived.Test.YtmclnnpaephkpaaWX14
import Derived.Test.YtmclnnpaephkpaaPF14
import Derived.Test.YtmclnnpaephkpaaWI14
namespace Go.Proofs.Ytmclnnpaephkpaa
set_option linter.unusedVariables false
set_option linter.unusedSimpArgs false
set_option linter.unnecessarySimpa false
set_option linter.unusedSectionVars false
open Go.RowKit

mutual
theorem change_foldE : ∀ e, changeE foldOp e = foldE e
  | .node o v i l => by rw [changeE, foldE, change_foldL l]
theorem change_foldL : ∀ l, changeL foldOp l = foldL l
  | [] => by rw [changeL, foldL]
  | e :: l => by rw [changeL, foldL, change_foldE e, change_foldL l]
end
theorem foldOK_of_right {n : Int} : ∀ {y : EX}, RightE n y → FoldOK y
  | .node o v i l, h => by
    have hw := h.1
    rw [wfE] at hw
    refine ⟨hw.1, fun e he h0 => ?_, fun _ e he h10 => ?_⟩
    · have hr := (wf_args h e he).2.1
      obtain ⟨o', v', i', l'⟩ := e
      rw [rangeE] at hr
      have := (largeS_false _ _).1 (hr.1 h0)
      simp only [EX.val]; omega
    · have hr := (wf_args h e he).1
      obtain ⟨o', v', i', l'⟩ := e
      rw [wfE] at hr
      exact (argsS_at hr.1).2.2.2.1 (.inr h10)
theorem changeFold_any (e : EX) (h : RightE 16 e) (v : Value) (w : World) (hv : ER w e v) :
    Calls Try.prog 54 #[v, .func (.func 55) #[] #[]] w fun en w' => ∃ v', en = .returned v' ∧ EF (fun b => w.heap.size ≤ b) w' (foldE e) v' ∧ Below w.heap.size w w' := by
  rw [← change_foldE]
  refine change_gen 55 callF_folded foldOp (RightE 16) FoldOK (fun o v i l h => ?_) (fun y hy F v w hv => folded_any y hy F v w hv) e h v w hv
  refine ⟨?_, wf_args h, ?_⟩
  · have hw := h.1
    rw [wfE] at hw
    have := argsS_le3 o _ hw.1
    omega
  · rw [change_foldL]
    exact foldOK_of_right (fold_node h fun e he => foldE_right e (wf_args h e he)).1
def FoldPost (e : EX) (w : World) (en : Ending) (w' : World) : Prop := ∃ v', en = .returned (.tuple #[v', .int .i64 (foldS e).2]) ∧ EF (fun b => w.heap.size ≤ b) w' (foldS e).1 v' ∧ Below w.heap.size w w'
set_option maxRecDepth 100000 in
set_option maxHeartbeats 1000000 in
theorem foldP_any (e : EX) (v : Value) (w : World) (hv : ER w e v) : Calls Try.prog 25 #[v] w (FoldPost e w) := by
  obtain ⟨A, c, rfl, hc1, hc2⟩ := hv.form
  have HV := Lib.hid hv
  obtain ⟨w2, hw2⟩ : ∃ w2, ((w.alloc (.cells #[.int .i64 e.op, .int .i64 e.val, .int .i64 e.idx, .slice A e.args.length c] 24)).alloc (.cells #[.int .i64 0, .int .i64 0, .int .i64 0, .slice none 0 0] 24)) = w2 := ⟨_, rfl⟩
  have B2 : Hid (Below w.heap.size w w2) := Lib.hid (by rw [← hw2]; exact (by repeat (first | exact Below.refl _ _ | assumption | refine Below.drew ?_ | refine below_drewN ?_ _ | refine Below.setCell ?_ (by simp; try omega) _ | refine Below.alloc ?_ (by simp; try omega) _)))
  have hz2 : w2.heap.size = w.heap.size + 2 := by rw [← hw2]; simp
  have r0 : w2.cell? ⟨w.heap.size + 1, 0, none⟩ = some (.int .i64 0) := by rw [← hw2]; simp [go_sem]
  have r1 : w2.cell? ⟨w.heap.size + 1, 1, none⟩ = some (.int .i64 0) := by rw [← hw2]; simp [go_sem]
  have r2 : w2.cell? ⟨w.heap.size + 1, 2, none⟩ = some (.int .i64 0) := by rw [← hw2]; simp [go_sem]
  have r3 : w2.cell? ⟨w.heap.size + 1, 3, none⟩ = some (.slice none 0 0) := by rw [← hw2]; simp [go_sem]
  have x0 : w2.cell? ⟨w.heap.size, 0, none⟩ = some (.int .i64 e.op) := by rw [← hw2]; simp [go_sem]
  have x1 : w2.cell? ⟨w.heap.size, 1, none⟩ = some (.int .i64 e.val) := by rw [← hw2]; simp [go_sem]
  have x2 : w2.cell? ⟨w.heap.size, 2, none⟩ = some (.int .i64 e.idx) := by rw [← hw2]; simp [go_sem]
  have x3 : w2.cell? ⟨w.heap.size, 3, none⟩ = some (.slice A e.args.length c) := by rw [← hw2]; simp [go_sem]
  have q0 : ∀ o, w2.frozen? ⟨w.heap.size + 1, o, none⟩ = false := fun o => by rw [← hw2]; simp [go_sem]
  have HC := Lib.hid (check_any e 16 _ w2 (ER.below B2.out _ _ hv))
  obtain ⟨q, hq⟩ : ∃ q, checkS e 16 = q := ⟨_, rfl⟩
  have HQ := Lib.hid hq
  have W2 := Lib.hid hw2
  have Z2 := Lib.hid hz2
  clear hq hv hw2 hz2
  go_enter Try.func25, Try.ntmps25
  go_wp2_with fail
  rw [W2.out]
  refine HC.out.mono ?_
  rw [HQ.out]
  rintro en w3 ⟨rfl, hb3⟩
  have hz3 : w.heap.size + 1 < w3.heap.size := by have := hb3.size; have := Z2.out; omega
  have hc3 : ∀ b o, b < w.heap.size + 2 → w3.cell? ⟨b, o, none⟩ = w2.cell? ⟨b, o, none⟩ := fun b o h => hb3.cell (p := ⟨b, o, none⟩) (by show b < _; have := Z2.out; omega)
  have hf3 : ∀ b o, b < w.heap.size + 2 → w3.frozen? ⟨b, o, none⟩ = w2.frozen? ⟨b, o, none⟩ := fun b o h => hb3.frozen (p := ⟨b, o, none⟩) (by show b < _; have := Z2.out; omega)
  have B3 : Hid (Below w.heap.size w w3) := Lib.hid (B2.out.trans (hb3.mono B2.out.size))
  clear hb3
  by_cases hz : q.2 = 0
  case neg =>
    have hz2 : (q.2 != 0) = true := by simpa using hz
    have HS : Hid (foldS e = (zeroE, q.2)) := Lib.hid (by rw [foldS, HQ.out, if_pos hz])
    clear hz
    go_wp2
    refine bodyPost_ret (v := .tuple #[.agg #[.int .i64 0, .int .i64 0, .int .i64 0, .slice none 0 0], .int .i64 q.2]) (by simp [results, Try.results25, go_sem, hc3, r0, r1, r2, r3, hz3]) rfl ?_
    refine ⟨_, by rw [HS.out], by rw [HS.out]; exact EF.zero _ _, (((B3.out.setCell (by simp) _).setCell (by simp) _).setCell (by simp) _).setCell (by simp) _⟩
  have hz2 : (q.2 != 0) = false := by simpa using hz
  have HOK := Lib.hid (check_ok (e := e) (n := 16) (by rw [HQ.out]; exact hz))
  have HR : Hid (RightE 16 e) := Lib.hid ⟨HOK.out.2.2.1, HOK.out.2.2.2.1, HOK.out.2.2.2.2.1⟩
  have HS : Hid (foldS e = (foldE e, 0)) := Lib.hid (by rw [foldS, HQ.out, if_neg (by rw [hz]; simp)])
  have HCH := Lib.hid (changeFold_any e HR.out _ w3 (ER.below B3.out _ _ HV.out))
  clear hz
  go_wp2_with fail
  refine HCH.out.mono ?_
  rintro en w4 hcp
  obtain ⟨v', rfl, hef, hb4⟩ := hcp
  obtain ⟨A4, c4, rfl⟩ := headOf hef
  have HE := Lib.hid hef
  have B4 : Hid (Below w.heap.size w w4) := Lib.hid (B3.out.trans (hb4.mono B3.out.size))
  have hz4 : w.heap.size + 1 < w4.heap.size := by have := hb4.size; omega
  have hc4 : ∀ b o, b < w.heap.size + 2 → w4.cell? ⟨b, o, none⟩ = w3.cell? ⟨b, o, none⟩ := fun b o h => hb4.cell (p := ⟨b, o, none⟩) (by show b < _; omega)
  have hf4 : ∀ b o, b < w.heap.size + 2 → w4.frozen? ⟨b, o, none⟩ = w3.frozen? ⟨b, o, none⟩ := fun b o h => hb4.frozen (p := ⟨b, o, none⟩) (by show b < _; omega)
  clear hef hb4
  obtain ⟨y, hy⟩ : ∃ y, foldE e = y := ⟨_, rfl⟩
  rw [hy] at HE ⊢
  have HY := Lib.hid hy
  clear hy
  unfold headV
  go_wp2
  refine bodyPost_ret (v := .tuple #[.agg #[.int .i64 y.op, .int .i64 y.val, .int .i64 y.idx, .slice A4 y.args.length c4], .int .i64 0]) (by simp [results, Try.results25, go_sem, hc4, hc3, r0, r1, r2, r3, hz4]) rfl ?_
  refine ⟨_, by rw [HS.out], ?_, (((B4.out.setCell (by simp) _).setCell (by simp) _).setCell (by simp) _).setCell (by simp) _⟩
  rw [HS.out, HY.out]
  refine EF.weaken (F := fun b => w3.heap.size ≤ b) (fun b hb _ => by omega) ?_
  repeat (refine EF.set (fun b hb => by simp; omega) ?_)
  exact HE.out
end Go.Proofs.Ytmclnnpaephkpaa

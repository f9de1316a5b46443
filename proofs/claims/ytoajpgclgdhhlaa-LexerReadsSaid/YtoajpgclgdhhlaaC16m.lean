/-
  Scan returns the tokens of a text, or the first error and its place: the contract, put together.
-/
import Derived.Test.YtoajpgclgdhhlaaC16l
namespace Go.Proofs.Ytoajpgclgdhhlaa
set_option linter.unusedVariables false
set_option linter.unusedSimpArgs false
set_option linter.unnecessarySimpa false
set_option linter.unusedSectionVars false
open Go.RowKit
set_option maxRecDepth 1000000
abbrev R12 (out : Nat → Nat) (M : Mem) (B : Blk) (w : World) (r : PV) : Ending → World → Prop := fun e w' => ∃ v M' B', e = .returned v ∧ Post [] B out M w r [] v M' B' w'
def sI (l : Nat) (s : ByteArray) : Slots := [(0, .func (.yield l) [] []), (1, .cst (.str s))]
/-- The iterator, called: what it leaves. -/
theorem iter_calls {l : Nat} {rc : Loop} {out : Nat → Nat} (ho : 1 ≤ out l) (hrc : RcOK rc) (full : List UInt8) (hf : full.length ≤ 1000000) {n : Nat} {M : Mem} {B : Blk} {vals : Array Value} {w : World}
    (hI : Inv 86 M B out ⟨sI l (bs full), s_h true 5 [] 0 0 0⟩ (vals ++ Array.replicate (86 - vals.size) undef) w) (hr : w.heap[l]? = some (.loop (recOf rc .normal))) (hO : OutOK (Y16 l rc out).sO 27 7 rc.tmps M B) {R : Ending → World → Prop}
    (hR : ∀ σ' j M' B' t' w', PostS 0 0 0 (scanS (full.length + 1) full 0 1 0 []) .ret σ' j → GoodL l 86 out 7 M B ⟨sI l (bs full), s_h true 5 [] 0 0 0⟩ (vals ++ Array.replicate (86 - vals.size) undef) w M' B' σ' t' w' → w'.heap[l]? = some (.loop (recOf rc j)) → R (.returned (.tuple #[])) w') :
    CallsIn Fence.wide n Try.prog 58 vals w R := by
  have hf58 : Try.prog.funcs[58]? = some Try.f58 := by kernel_rfl
  have hb58 : Try.f58.body = some p58a_c := by kernel_rfl
  have hn : Try.f58.ntmps = 86 := by kernel_rfl
  have hres : Try.f58.results = #[] := by kernel_rfl
  refine callsIn_of_wp hf58 hb58 trivial ?_
  rw [hn]
  refine wpIn_mono (iter ho hrc full hf n M B { tmps := vals ++ Array.replicate (86 - vals.size) undef, defers := [] } w hI hr hO) fun e a' w' hl => ?_
  obtain ⟨ax, σ', j, M', B', rfl, hq, hd, hG, hr'⟩ := hl
  obtain ⟨rfl, hq'⟩ := hq
  exact ⟨hd, _, results_none hres _ _ _, hR σ' j M' B' _ w' ⟨rfl, hq'⟩ hG hr'⟩
theorem ev12 (full : List UInt8) : Ev Try.prog 12 [.str (bs full)] [] (scanP (scanT full)) [] := by
  refine ⟨by kernel_rfl, fun out M B w vals hmem hheap hcnt hnew hv => ?_⟩
  have hf12 : Try.prog.funcs[12]? = some Try.f12 := by kernel_rfl
  have hb12 : Try.f12.body = some p12a_c := by kernel_rfl
  have hn : Try.f12.ntmps = 27 := by kernel_rfl
  have hI0 := start_inv (n := 27) (args := [.str (bs full)]) (show 1 ≤ 27 by decide) hmem hheap hcnt hnew hv
  have hfp := fun b => slots0_fp (B := B) (args := [.str (bs full)]) (h := []) (vals ++ Array.replicate (27 - vals.size) undef) w b
  refine callsIn_wide.1 (callsIn_of_wp_marks (n := 0) (R := R12 out M B w (scanP (scanT full))) hf12 hb12 trivial ?_)
  rw [hn]
  have e : p12a_c = s := by kernel_rfl
  rw [e, s_eq]
  refine wpIn_seq (wpIn_mono (aw (fun K => s0_x K (bs full)) (a := { tmps := vals ++ Array.replicate (27 - vals.size) undef, defers := [] }) hI0) ?_)
  rintro e1 a1 w1 ⟨rfl, hd1, M1, B1, hG1⟩
  show s1.wpIn Fence.wide 0 Try.prog _ a1 w1
  rw [s1_eq]
  by_cases hbig : 65536 < full.length
  · have hT : scanT full = .err 1 1 15 := if_pos hbig
    refine wpIn_seq (wpIn_mono (aw (ax := .ret) (fun K => by rw [s10_x, decT (by rw [bs_size]; omega), bsel_true]) hG1.inv) ?_)
    rintro e2 a2 w2 ⟨rfl, hd2, M2, B2, hG2⟩
    show LeavesInM Fence.wide 0 Try.prog Try.f12 a2.tmps _ a2.defers .returning w2
    rw [hd2, hd1]
    obtain ⟨v, h6, M', B', h7⟩ := end12 hheap hfp (hG1.trans hG2) rfl rfl rfl rfl (show _ = s_h true 0 [] 1 1 15 from rfl) (r := scanP (scanT full)) (by rw [hT]; rfl)
    exact ⟨v, h6, v, M', B', rfl, h7⟩
  · have hT : scanT full = scanS (full.length + 1) full 0 1 0 [] := if_neg hbig
    rw [hT]
    refine wpIn_seq (wpIn_mono (aw (ax := .normal) (fun K => by rw [s10_x, decF (by rw [bs_size]; omega), bsel_false]) hG1.inv) ?_)
    rintro e2 a2 w2 ⟨rfl, hd2, M2, B2, hG2⟩
    show s11.wpIn Fence.wide 0 Try.prog _ a2 w2
    have hg3 := gc_good (m0 := 0) (l := [0, 2, 3, 4, 5]) (m := 4) hG2.inv (by decide) rfl
    have hG12 := (hG1.trans hG2).trans hg3
    rw [s11_eq]
    refine wpIn_seq ?_
    rw [s110_eq]
    refine wpIn_seq (wpIn_mono (aw (fun K => s1100_x K (bs full)) hg3.inv) ?_)
    rintro e4 a4 w4 ⟨rfl, hd4, M4, B4, hG4⟩
    show s1101.wpIn Fence.wide 0 Try.prog _ a4 w4
    have hGa := hG12.trans hG4
    rw [s1101_eq]
    refine wpIn_block ?_
    rw [s11010_eq]
    have hI4 := hG4.inv
    obtain ⟨f12v, c12v, h12, hr1, hr2⟩ := rep_func.1 (hI4.slots 12 (.func (.func 58) [] [.cst (.str (bs full))]) rfl).2.1
    rw [reps_nil] at hr1
    obtain ⟨bx, us, hus, hbx, hus2⟩ := reps_cons.1 hr2
    rw [reps_nil] at hus2
    subst hus2
    have hev : a4.tmps.getD 12 undef = .func (.func 58) #[] #[bx] := by
      rw [h12]; congr 1 <;> (apply Array.ext'; simp [*])
    refine wpIn_rangeFunc fun fn hfn => ?_
    obtain ⟨rc, hrcdef⟩ : ∃ rc : Loop, rc = { state := .ready, pending := none, fn, tmps := a4.tmps, params := #[13, 14], assign := sc_asg, body := sc_body, defers := w4.heap.size } := ⟨_, rfl⟩
    have hrc : RcOK rc := by subst hrcdef; exact ⟨rfl, rfl, rfl, hI4.size⟩
    have hrec0 : recOf rc .normal = rc := by subst hrcdef; rfl
    obtain ⟨hIe, hfe⟩ := enter_inv hI4 rc
    refine ⟨w4.heap.size + 1, [{ target := .collected w4.heap.size, args := #[] }], enterW w4 rc, { target := .fn (.func 58) #[bx], args := #[.func (.yield (w4.heap.size + 1)) #[] #[]] }, enterW w4 rc, 58,
      #[.func (.yield (w4.heap.size + 1)) #[] #[], bx], enterW w4 rc, ?_, ?_, ?_, ?_, fun h => absurd h (by decide), ?_⟩
    · subst hrcdef; exact run_enterLoop_outer _ _ _ _ _
    · simp [resolve, go_sem, hev]
    · intro f' hf'; trivial
    · simp [invoke, go_sem]
    · have ho1 : 1 ≤ outE out w4.heap.size (w4.heap.size + 1) := by simp [outE]
      have hoD : 1 ≤ outE out w4.heap.size w4.heap.size := by simp [outE]
      have hIi := inv_frame (n' := 86) (sr := sI (w4.heap.size + 1) (bs full)) (tr := #[.func (.yield (w4.heap.size + 1)) #[] #[], bx] ++ Array.replicate (86 - (#[.func (.yield (w4.heap.size + 1)) #[] #[], bx] : Array Value).size) undef) hIe (by simp) (by simp [Srt, sI]) (fun kp hk => by
        simp only [sI, List.mem_cons, List.not_mem_nil, or_false] at hk
        rcases hk with rfl | rfl
        · exact ⟨show 0 < 86 by decide, by rw [app_get0]; exact rep_func.2 ⟨#[], #[], rfl, reps_nil.2 rfl, reps_nil.2 rfl⟩, rfl⟩
        · exact ⟨show 1 < 86 by decide, by rw [app_get1]; exact hbx, rfl⟩)
      refine iter_calls (rc := rc) (by show 1 ≤ outE out w4.heap.size (w4.heap.size + 1) + _; omega) hrc full (by omega) hIi (by rw [hrec0]; exact enterW_rec rc) ?_ fun σ' j M' B' t' w' hq hG hr' => ?_
      · intro kp hk
        have ht : rc.tmps = a4.tmps := by subst hrcdef; rfl
        rw [ht]
        simp only [Y16, List.mem_cons, List.not_mem_nil, or_false] at hk
        rcases hk with rfl | rfl | rfl | rfl
        · exact ⟨by decide, (hI4.slots 2 (.ptr 0 0) rfl).2.1, rfl, rfl⟩
        · exact ⟨by decide, (hI4.slots 3 (.ptr 1 0) rfl).2.1, rfl, rfl⟩
        · exact ⟨by decide, (hI4.slots 4 (.ptr 2 0) rfl).2.1, rfl, rfl⟩
        · exact ⟨by decide, (hI4.slots 5 (.ptr 3 0) rfl).2.1, rfl, rfl⟩
      · have hblw : blwH 4 (σ'.h.take 4) = true := by
          obtain ⟨_, hq⟩ := hq
          split at hq <;> (rw [hq.2]; rfl)
        have hback := yield_back (m0 := 4) hIe ho1 (σr := ⟨sI (w4.heap.size + 1) (bs full), s_h true 5 [] 0 0 0⟩) rfl (fun kp hk => by
          simp only [sI, List.mem_cons, List.not_mem_nil, or_false] at hk
          rcases hk with rfl | rfl <;> rfl) rfl (hG.weak (by decide)) hblw
        have hend := run_endLoop (P := Try.prog) hr' (by
          unfold recOf; cases j.jump <;> simp)
        have hput := putObj_l (m0 := 4) hback.inv ho1 hr' { recOf rc j with state := .exhausted }
        have hall := hback.trans hput
        have hDs : w'.heap[w4.heap.size]? = some (.deferred (some [])) := by
          have := (hback.blk w4.heap.size (by rw [enterW_size]; omega) (by omega) (fp_rec hIe hoD)).1
          rw [this]; exact enterW_def rc
        have hD : (w'.putObj (w4.heap.size + 1) (.loop { recOf rc j with state := .exhausted })).heap[w4.heap.size]? = some (.deferred (some [])) := (World.putObj_heap_other (by omega)).trans hDs
        refine ⟨_, _, hend, ?_⟩
        obtain ⟨_, hq⟩ := hq
        cases hsc : scanS (full.length + 1) full 0 1 0 [] with
        | ok ts =>
          rw [hsc] at hq
          obtain ⟨rfl, hq⟩ := hq
          show s111.wpIn Fence.wide 0 Try.prog _ _ _
          rw [hq] at hall
          have hg5 := gc_good (m0 := 0) (l := [2, 3, 4, 5]) (m := 4) hall.inv (by decide) rfl
          rw [s111_eq]
          refine wpIn_seq (wpIn_mono (aw (a := { tmps := a4.tmps, defers := { target := .collected w4.heap.size, args := #[] } :: a4.defers }) (fun K => s1110_x K (ts.map tokP)) hg5.inv) ?_)
          rintro e6 a6 w6 ⟨rfl, hd6, M6, B6, hG6⟩
          show s1111.wpIn Fence.wide 0 Try.prog _ a6 w6
          rw [s1111_eq]
          refine wpIn_ret ?_
          show LeavesInM Fence.wide 0 Try.prog Try.f12 a6.tmps _ a6.defers .returning w6
          rw [hd6, hd4, hd2, hd1]
          have hG56 := hg5.trans hG6
          have hD6 : w6.heap[w4.heap.size]? = some (.deferred (some [])) := by
            have hlt : w4.heap.size < (w'.putObj (w4.heap.size + 1) (.loop { recOf rc .normal with state := .exhausted })).heap.size := (Array.getElem?_eq_some_iff.1 hD).1
            rw [(hG56.fr.blk w4.heap.size hlt (fp_rec hall.inv hoD)).1]; exact hD
          refine ⟨by simp, .inl ⟨w4.heap.size, _, rfl, run_takeDeferred hD6, ?_⟩⟩
          have hsh := putObj_d (m0 := 0) hG56.inv hoD hD6 (.deferred none)
          have htot := ((hall.weak (show 0 ≤ 4 by decide)).trans hG56.gl)
          have hfin := hGa.trans (leave_good hI4 htot hsh)
          obtain ⟨v, h6, M', B', h7⟩ := end12 hheap hfp hfin rfl rfl rfl rfl (show _ = s_h false 5 (ts.map tokP) 0 0 0 from rfl) (r := scanP (.ok ts)) rfl
          exact ⟨v, h6, v, M', B', rfl, h7⟩
        | err a b e =>
          rw [hsc] at hq
          obtain ⟨rfl, hq⟩ := hq
          refine wpIn_ret ?_
          show LeavesInM Fence.wide 0 Try.prog Try.f12 a4.tmps _ ({ target := .collected w4.heap.size, args := #[] } :: a4.defers) .returning _
          rw [hd4, hd2, hd1]
          refine ⟨by simp, .inl ⟨w4.heap.size, _, rfl, run_takeDeferred hD, ?_⟩⟩
          rw [hq] at hall
          have hsh := putObj_d (m0 := 0) hall.inv hoD hD (.deferred none)
          have hfin := hGa.trans (leave_good hI4 (hall.weak (show 0 ≤ 4 by decide)) hsh)
          obtain ⟨v, h6, M', B', h7⟩ := end12 hheap hfp hfin rfl rfl rfl rfl (show _ = s_h true 0 [] a b e from rfl) (r := scanP (.err a b e)) rfl
          exact ⟨v, h6, v, M', B', rfl, h7⟩
end Go.Proofs.Ytoajpgclgdhhlaa

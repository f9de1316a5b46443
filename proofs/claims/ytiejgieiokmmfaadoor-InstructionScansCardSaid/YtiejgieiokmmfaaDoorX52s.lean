/-
  The statement InstructionScans is proved. No condition but the row's own.
-/
import Derived.Test.YtiejgieiokmmfaaDoorO52w
import Derived.Test.YtiejgieiokmmfaaDoorC52e
namespace Go.Proofs.YtiejgieiokmmfaaDoor
set_option linter.unusedVariables false
set_option linter.unusedSimpArgs false
set_option linter.unnecessarySimpa false
set_option linter.unusedSectionVars false
open Go.ChangeShapes Go.WideShapes Go.ChangeAt Go.RowKit

set_option maxRecDepth 100000 in
theorem scans_lifted (os : Os) (started : os.Started) (H : Type) (enc : TypeId × Value → H) (F : Stop.Interp) :
    ReturnsInHanded {} Tryd.checked os 4 .any ((OpenSpec.ofChange Rows.instructionScansSpec).preRow enc Tryd.prog Tryd.f4 Rows.instructionScansRow.domain false Rows.instructionScansRow.laid) (((OpenSpec.ofChange Rows.instructionScansSpec).at F).post enc Tryd.prog Tryd.f4 false true false false) := by
  obtain ⟨x, hx⟩ := Option.isSome_iff_exists.1 (show (DataW.whole enc Tryd.prog ((laidWorld os).forCall (fun _ _ => 0) ⟨#[], #[.agg #[.int .u8 0, .slice none 0 0], .int .u8 0, .int .u8 0], []⟩).memory Tryd.f4.params.toList Rows.instructionScansSpec.vars false (#[.agg #[.int .u8 0, .slice none 0 0], .int .u8 0, .int .u8 0] : Array Value).toList 8).isSome = true by kernel_rfl)
  refine returnsInHanded_of_row (C := Tryd.checked) (s := OpenSpec.ofChange Rows.instructionScansSpec) own14 started (by kernel_rfl) Tryd.func4
      (witness_row_at (enc := enc) (C := Tryd.checked) false (laidWorld os) #[.agg #[.int .u8 0, .slice none 0 0], .int .u8 0, .int .u8 0] rfl (by kernel_rfl) (by kernel_rfl) (by kernel_rfl)
        (OpenSpec.preRow_of_cond 8 hx (by kernel_rfl) (fun k hk => by cases hk) (by kernel_rfl) (laidMet_of_run' 8 (by kernel_rfl) (by kernel_rfl)))) ?_
  intro W base args ds gs before hval0 hW hcnd _ hsz0 hlaid _ _
  have hval : ∀ (j : Nat) t v, Tryd.f4.params[j]? = some t → args[j]? = some v → Value.okWide Tryd.prog W .any base t v := hval0
  have hsz : (DataW.weightsEach Tryd.prog (Tryd.f4.params.toList ++ Rows.instructionScansSpec.plain.varTypes Tryd.prog) (ds ++ gs)).all (· ≤ reachBytes) = true := hsz0
  have hW' := hW
  obtain ⟨p, q, hA0, hV, rfl, hfz, hnd⟩ := hW
  have hA : DataW.TrodAll enc Tryd.prog W 0 (fun _ => true) true Tryd.f4.params.toList args.toList ds p := hA0
  rw [Tryd.params4] at hA hval hsz
  have hsz1 : ∀ (j : Nat) t d, (Tryd.f4.params.toList)[j]? = some t → ds[j]? = some d → ∀ n, n ∈ d.weights Tryd.prog t → n ≤ reachBytes := fun j t d ht hd n hn => of_decide_eq_true (List.all_eq_true.1 hsz0 _ (DataW.weights_mem_each (j := j) (t := t) (d := d) (by rw [List.getElem?_append_left (List.getElem?_eq_some_iff.1 ht).1]; exact ht) (by rw [List.getElem?_append_left (List.getElem?_eq_some_iff.1 hd).1]; exact hd) n hn))
  rw [Tryd.params4] at hsz1
  clear hsz hsz0
  obtain ⟨v0, vs0, d0, ds0, p0, q0, hargs, rfl, rfl, h0, r0⟩ := trodAll_cons hA
  obtain ⟨v1, vs1, d1, ds1, p1, q1, rfl, rfl, rfl, h1, r1⟩ := trodAll_cons r0
  obtain ⟨v2, vs2, d2, ds2, p2, q2, rfl, rfl, rfl, h2, r2⟩ := trodAll_cons r1
  obtain ⟨rfl, rfl, rfl⟩ := trodAll_nil r2
  obtain rfl : args = #[v0, v1, v2] := by cases args; simp_all
  obtain ⟨rfl, rfl⟩ := trodVars_none hV
  have k0 := h0
  have lt0 : ∀ x ∈ p0, x.block < W.heap.size := by obtain ⟨m, hm⟩ := k0; exact DataW.trod_lt m _ _ _ hm
  obtain ⟨f0, q0, s0, rep0⟩ := open_arg cover14_ok (by decide) (hval 0 24 v0 rfl rfl) h0 (hsz1 0 24 d0 rfl rfl)
  obtain ⟨e0, he0, x0⟩ := shp_Small s0
  rw [he0] at rep0
  have k1 := h1
  have lt1 : ∀ x ∈ p1, x.block < W.heap.size := by obtain ⟨m, hm⟩ := k1; exact DataW.trod_lt m _ _ _ hm
  obtain ⟨f1, q1, s1, rep1⟩ := open_arg cover14_ok (by decide) (hval 1 5 v1 rfl rfl) h1 (hsz1 1 5 d1 rfl rfl)
  obtain ⟨e1, he1, x1⟩ := shpe_u8 s1
  rw [he1] at rep1
  have k2 := h2
  have lt2 : ∀ x ∈ p2, x.block < W.heap.size := by obtain ⟨m, hm⟩ := k2; exact DataW.trod_lt m _ _ _ hm
  obtain ⟨f2, q2, s2, rep2⟩ := open_arg cover14_ok (by decide) (hval 2 5 v2 rfl rfl) h2 (hsz1 2 5 d2 rfl rfl)
  obtain ⟨e2, he2, x2⟩ := shpe_u8 s2
  rw [he2] at rep2
  clear hA0 hval0
  refine (Ev.top (ev_of (law4 (e0.start.toNat : Int) e0.list e1 e2)) (repsC rep0 (repsC rep1 (repsC rep2 reps0)))).mono fun e W' ⟨vr, M', he, hrep, _, bel⟩ => ?_
  subst he
  obtain rfl := rep_bool.1 hrep
  exact ⟨_, rfl, _, _, _, [], _, [], hW', trodAll_mk1 (shut_bool Tryd.underlying4 _), (trodAll_cons_mk (Below.trod laidOut14 (by kernel_rfl) (of_decide_eq_true (by kernel_rfl)) k0 bel lt0) (trodAll_cons_mk (Below.trod laidOut14 (by kernel_rfl) (of_decide_eq_true (by kernel_rfl)) k1 bel lt1) (trodAll_cons_mk (Below.trod laidOut14 (by kernel_rfl) (of_decide_eq_true (by kernel_rfl)) k2 bel lt2) trodAll_mk0))), rfl, bel.frame _, fun h => by cases h⟩
theorem scans_row : Rows.InstructionScansSaid :=
  OpenClaim.holds_of_cond 4 Tryd.f4 rfl rfl rfl rfl rfl rfl rfl ⟨rfl, rfl, rfl, rfl, rfl⟩ rfl rfl rfl rfl rfl (by kernel_rfl) Tryd.func4 (by kernel_rfl)
    (of_decide_eq_true (by kernel_rfl)) (by unfold Func.isWrapper; first | (rw [if_pos (by decide +kernel)]; kernel_rfl) | (rw [if_neg (by decide +kernel)]; exact ⟨rfl, rfl⟩))
    (fun os started H enc _ F => by rw [OpenClaim.pre_eq_preRow]; exact scans_lifted os started H enc F)
theorem scans_plain (f : FuncId) (fn : Func) (hf : Tryd.pinned.checked.prog.funcNamed "overseer/overseerlaw52.InstructionScans" = some f) (hfn : Tryd.pinned.checked.prog.funcs[f]? = some fn) :
    false = Tryd.pinned.checked.prog.looks [] ∧ ∀ (j : Nat) t, fn.params[j]? = some t → Tryd.pinned.checked.prog.wantsStandIn t = false := by
  obtain rfl : f = 4 := Option.some.inj ((show Tryd.prog.funcNamed "overseer/overseerlaw52.InstructionScans" = some 4 by kernel_rfl).symm.trans hf) |>.symm
  obtain rfl : fn = Tryd.f4 := (Option.some.inj (Tryd.func4.symm.trans hfn)).symm
  refine ⟨by kernel_rfl, fun j t ht => ?_⟩
  rw [Tryd.params4] at ht
  have hm := Array.mem_of_getElem? ht
  have hall : ∀ t, t ∈ ([24, 5, 5] : List TypeId) → Tryd.prog.wantsStandIn t = false := fun t h => by simpa using List.all_eq_true.1 (show ([24, 5, 5] : List TypeId).all (fun t => !Tryd.prog.wantsStandIn t) = true by kernel_rfl) t h
  exact hall t (by simpa using hm)
/-- THE CARD. -/
theorem scans_holds : Rows.InstructionScansCardSaid :=
  Claim7.holds_tied_plain_at .later [] _ _ _ _ scans_row (fun _ h => by cases h) (by kernel_rfl) (fun _ h => by cases h) instructionScans_row_tie rfl ⟨rfl, rfl⟩ (by kernel_rfl) rfl scans_plain (by kernel_rfl)
end Go.Proofs.YtiejgieiokmmfaaDoor

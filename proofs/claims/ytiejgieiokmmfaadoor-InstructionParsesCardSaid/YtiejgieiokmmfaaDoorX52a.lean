/-
  The statement InstructionParses is proved. No condition but the row's own.
-/
import Derived.Test.YtiejgieiokmmfaaDoorO52y
import Derived.Test.YtiejgieiokmmfaaDoorC52r
namespace Go.Proofs.YtiejgieiokmmfaaDoor
set_option linter.unusedVariables false
set_option linter.unusedSimpArgs false
set_option linter.unnecessarySimpa false
set_option linter.unusedSectionVars false
open Go.ChangeShapes Go.WideShapes Go.ChangeAt Go.RowKit

set_option maxRecDepth 100000 in
theorem parses_lifted (os : Os) (started : os.Started) (H : Type) (enc : TypeId × Value → H) (F : Stop.Interp) :
    ReturnsInHanded {} Tryd.checked os 6 .any ((OpenSpec.ofChange Rows.instructionParsesSpec).preRow enc Tryd.prog Tryd.f6 Rows.instructionParsesRow.domain false Rows.instructionParsesRow.laid) (((OpenSpec.ofChange Rows.instructionParsesSpec).at F).post enc Tryd.prog Tryd.f6 false true false false) := by
  obtain ⟨x, hx⟩ := Option.isSome_iff_exists.1 (show (DataW.whole enc Tryd.prog ((laidWorld5 os).forCall (fun _ _ => 0) ⟨#[], #[.string .empty], []⟩).memory Tryd.f6.params.toList Rows.instructionParsesSpec.vars false (#[.string .empty] : Array Value).toList 8).isSome = true by kernel_rfl)
  refine returnsInHanded_of_row (C := Tryd.checked) (s := OpenSpec.ofChange Rows.instructionParsesSpec) own14 started (by kernel_rfl) Tryd.func6
      (witness_row_at (enc := enc) (C := Tryd.checked) false (laidWorld5 os) #[.string .empty] rfl (by kernel_rfl) (by kernel_rfl) (by kernel_rfl)
        (OpenSpec.preRow_of_cond 8 hx (by kernel_rfl) (fun k hk => by cases hk) (by kernel_rfl) (laidMet_of_run' 8 (by kernel_rfl) (by kernel_rfl)))) ?_
  intro W base args ds gs before hval0 hW hcnd _ hsz0 hlaid _ _
  have hval : ∀ (j : Nat) t v, Tryd.f6.params[j]? = some t → args[j]? = some v → Value.okWide Tryd.prog W .any base t v := hval0
  have hsz : (DataW.weightsEach Tryd.prog (Tryd.f6.params.toList ++ Rows.instructionParsesSpec.plain.varTypes Tryd.prog) (ds ++ gs)).all (· ≤ reachBytes) = true := hsz0
  have hW' := hW
  obtain ⟨p, q, hA0, hV, rfl, hfz, hnd⟩ := hW
  have hA : DataW.TrodAll enc Tryd.prog W 0 (fun _ => true) true Tryd.f6.params.toList args.toList ds p := hA0
  rw [Tryd.params6] at hA hval hsz
  have hsz1 : ∀ (j : Nat) t d, (Tryd.f6.params.toList)[j]? = some t → ds[j]? = some d → ∀ n, n ∈ d.weights Tryd.prog t → n ≤ reachBytes := fun j t d ht hd n hn => of_decide_eq_true (List.all_eq_true.1 hsz0 _ (DataW.weights_mem_each (j := j) (t := t) (d := d) (by rw [List.getElem?_append_left (List.getElem?_eq_some_iff.1 ht).1]; exact ht) (by rw [List.getElem?_append_left (List.getElem?_eq_some_iff.1 hd).1]; exact hd) n hn))
  rw [Tryd.params6] at hsz1
  clear hsz hsz0
  obtain ⟨v0, vs0, d0, ds0, p0, q0, hargs, rfl, rfl, h0, r0⟩ := trodAll_cons hA
  obtain ⟨rfl, rfl, rfl⟩ := trodAll_nil r0
  obtain rfl : args = #[v0] := by cases args; simp_all
  obtain ⟨rfl, rfl⟩ := trodVars_none hV
  have k0 := h0
  have lt0 : ∀ x ∈ p0, x.block < W.heap.size := by obtain ⟨m, hm⟩ := k0; exact DataW.trod_lt m _ _ _ hm
  obtain ⟨f0, q0, s0, rep0⟩ := open_arg cover14_ok (by decide) (hval 0 9 v0 rfl rfl) h0 (hsz1 0 9 d0 rfl rfl)
  obtain ⟨e0, he0, x0⟩ := shpe_str s0
  rw [he0] at rep0
  clear hA0 hval0
  refine (Ev.top (ev_of (law6s e0)) (repsC rep0 reps0)).mono fun e W' ⟨vr, M', he, hrep, _, bel⟩ => ?_
  subst he
  obtain rfl := rep_bool.1 hrep
  exact ⟨_, rfl, _, _, _, [], _, [], hW', trodAll_mk1 (shut_bool Tryd.underlying4 _), (trodAll_cons_mk (Below.trod laidOut14 (by kernel_rfl) (of_decide_eq_true (by kernel_rfl)) k0 bel lt0) trodAll_mk0), rfl, bel.frame _, fun h => by cases h⟩
theorem parses_row : Rows.InstructionParsesSaid :=
  OpenClaim.holds_of_cond 6 Tryd.f6 rfl rfl rfl rfl rfl rfl rfl ⟨rfl, rfl, rfl, rfl, rfl⟩ rfl rfl rfl rfl rfl (by kernel_rfl) Tryd.func6 (by kernel_rfl)
    (of_decide_eq_true (by kernel_rfl)) (by unfold Func.isWrapper; first | (rw [if_pos (by decide +kernel)]; kernel_rfl) | (rw [if_neg (by decide +kernel)]; exact ⟨rfl, rfl⟩))
    (fun os started H enc _ F => by rw [OpenClaim.pre_eq_preRow]; exact parses_lifted os started H enc F)
theorem parses_plain (f : FuncId) (fn : Func) (hf : Tryd.pinned.checked.prog.funcNamed "overseer/overseerlaw52.InstructionParses" = some f) (hfn : Tryd.pinned.checked.prog.funcs[f]? = some fn) :
    false = Tryd.pinned.checked.prog.looks [] ∧ ∀ (j : Nat) t, fn.params[j]? = some t → Tryd.pinned.checked.prog.wantsStandIn t = false := by
  obtain rfl : f = 6 := Option.some.inj ((show Tryd.prog.funcNamed "overseer/overseerlaw52.InstructionParses" = some 6 by kernel_rfl).symm.trans hf) |>.symm
  obtain rfl : fn = Tryd.f6 := (Option.some.inj (Tryd.func6.symm.trans hfn)).symm
  refine ⟨by kernel_rfl, fun j t ht => ?_⟩
  rw [Tryd.params6] at ht
  have hm := Array.mem_of_getElem? ht
  have hall : ∀ t, t ∈ ([9] : List TypeId) → Tryd.prog.wantsStandIn t = false := fun t h => by simpa using List.all_eq_true.1 (show ([9] : List TypeId).all (fun t => !Tryd.prog.wantsStandIn t) = true by kernel_rfl) t h
  exact hall t (by simpa using hm)
/-- THE CARD. -/
theorem parses_holds : Rows.InstructionParsesCardSaid :=
  Claim7.holds_tied_plain_at .later [] _ _ _ _ parses_row (fun _ h => by cases h) (by kernel_rfl) (fun _ h => by cases h) instructionParses_row_tie rfl ⟨rfl, rfl⟩ (by kernel_rfl) rfl parses_plain (by kernel_rfl)
end Go.Proofs.YtiejgieiokmmfaaDoor

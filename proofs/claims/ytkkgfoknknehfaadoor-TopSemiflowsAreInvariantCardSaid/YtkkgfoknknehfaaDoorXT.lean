/-
  The statement TopSemiflowsAreInvariant is proved. No condition but the row's own.
-/
import Derived.Test.YtkkgfoknknehfaaDoorOT
import Derived.Test.YtkkgfoknknehfaaDoorCT17
namespace Go.Proofs.YtkkgfoknknehfaaDoor
set_option linter.unusedVariables false
set_option linter.unusedSimpArgs false
set_option linter.unnecessarySimpa false
set_option linter.unusedSectionVars false
open Go.ChangeShapes Go.WideShapes Go.ChangeAt Go.RowKit

set_option maxRecDepth 100000 in
theorem semiflows_lifted (os : Os) (started : os.Started) (H : Type) (enc : TypeId × Value → H) (F : Stop.Interp) :
    ReturnsInHanded {} Tryd.checked os 3 .any ((OpenSpec.ofChange Rows.topSemiflowsAreInvariantSpec).preRow enc Tryd.prog Tryd.f3 Rows.topSemiflowsAreInvariantRow.domain false Rows.topSemiflowsAreInvariantRow.laid) (((OpenSpec.ofChange Rows.topSemiflowsAreInvariantSpec).at F).post enc Tryd.prog Tryd.f3 false true false false) := by
  obtain ⟨x, hx⟩ := Option.isSome_iff_exists.1 (show (DataW.whole enc Tryd.prog ((laidWorld6 os).forCall (fun _ _ => 0) ⟨#[], #[.agg (List.replicate 37 (Value.int .u8 0)).toArray, .slice none 0 0], []⟩).memory Tryd.f3.params.toList Rows.topSemiflowsAreInvariantSpec.vars false (#[.agg (List.replicate 37 (Value.int .u8 0)).toArray, .slice none 0 0] : Array Value).toList 8).isSome = true by kernel_rfl)
  refine returnsInHanded_of_row (C := Tryd.checked) (s := OpenSpec.ofChange Rows.topSemiflowsAreInvariantSpec) own14 started (by kernel_rfl) Tryd.func3
      (witness_row_at (enc := enc) (C := Tryd.checked) false (laidWorld6 os) #[.agg (List.replicate 37 (Value.int .u8 0)).toArray, .slice none 0 0] rfl (by kernel_rfl) (by kernel_rfl) (by kernel_rfl)
        (OpenSpec.preRow_of_cond 8 hx (by kernel_rfl) (fun k hk => by cases hk) (by kernel_rfl) (laidMet_of_run' 8 (by kernel_rfl) (by kernel_rfl)))) ?_
  intro W base args ds gs before hval0 hW hcnd _ hsz0 hlaid hshp _
  have hval : ∀ (j : Nat) t v, Tryd.f3.params[j]? = some t → args[j]? = some v → Value.okWide Tryd.prog W .any base t v := hval0
  have hsz : (DataW.weightsEach Tryd.prog (Tryd.f3.params.toList ++ Rows.topSemiflowsAreInvariantSpec.plain.varTypes Tryd.prog) (ds ++ gs)).all (· ≤ reachBytes) = true := hsz0
  have hW' := hW
  obtain ⟨p, q, hA0, hV, rfl, hfz, hnd⟩ := hW
  have hA : DataW.TrodAll enc Tryd.prog W 0 (fun _ => true) true Tryd.f3.params.toList args.toList ds p := hA0
  rw [Tryd.params3] at hA hval hsz
  have hsz1 : ∀ (j : Nat) t d, (Tryd.f3.params.toList)[j]? = some t → ds[j]? = some d → ∀ n, n ∈ d.weights Tryd.prog t → n ≤ reachBytes := fun j t d ht hd n hn => of_decide_eq_true (List.all_eq_true.1 hsz0 _ (DataW.weights_mem_each (j := j) (t := t) (d := d) (by rw [List.getElem?_append_left (List.getElem?_eq_some_iff.1 ht).1]; exact ht) (by rw [List.getElem?_append_left (List.getElem?_eq_some_iff.1 hd).1]; exact hd) n hn))
  rw [Tryd.params3] at hsz1
  clear hsz hsz0
  have gw : GW W := gw_of hlaid.tail.tail hshp
  obtain ⟨v0, vs0, d0, ds0, p0, q0, hargs, rfl, rfl, h0, r0⟩ := trodAll_cons hA
  obtain ⟨v1, vs1, d1, ds1, p1, q1, rfl, rfl, rfl, h1, r1⟩ := trodAll_cons r0
  obtain ⟨rfl, rfl, rfl⟩ := trodAll_nil r1
  obtain rfl : args = #[v0, v1] := by cases args; simp_all
  obtain ⟨rfl, rfl⟩ := trodVars_none hV
  have k0 := h0
  have lt0 : ∀ x ∈ p0, x.block < W.heap.size := by obtain ⟨m, hm⟩ := k0; exact DataW.trod_lt m _ _ _ hm
  obtain ⟨f0, q0, s0, rep0⟩ := open_arg (hW := gw) cover14_ok (by decide) (hval 0 25 v0 rfl rfl) h0 (hsz1 0 25 d0 rfl rfl)
  obtain ⟨e0, he0, x0⟩ := shp_Sh s0
  rw [he0] at rep0
  have k1 := h1
  have lt1 : ∀ x ∈ p1, x.block < W.heap.size := by obtain ⟨m, hm⟩ := k1; exact DataW.trod_lt m _ _ _ hm
  obtain ⟨f1, q1, s1, rep1⟩ := open_arg (hW := gw) cover14_ok (by decide) (hval 1 26 v1 rfl rfl) h1 (hsz1 1 26 d1 rfl rfl)
  obtain ⟨e1, he1, x1⟩ := shp_by s1
  rw [he1] at rep1
  clear hA0 hval0
  refine (Ev.top (ev_of (Go.Proofs.YtkkgfoknknehfaaDoor.W.c3 x0 x1)) (repsC rep0 (repsC rep1 reps0))).mono fun e W' ⟨vr, M', he, hrep, _, bel⟩ => ?_
  subst he
  obtain rfl := rep_bool.1 hrep
  exact ⟨_, rfl, _, _, _, [], _, [], hW', trodAll_mk1 (shut_bool Tryd.underlying4 _), (trodAll_cons_mk (Below.trod laidOut14 (by kernel_rfl) (of_decide_eq_true (by kernel_rfl)) k0 bel lt0) (trodAll_cons_mk (Below.trod laidOut14 (by kernel_rfl) (of_decide_eq_true (by kernel_rfl)) k1 bel lt1) trodAll_mk0)), rfl, bel.frame _, fun h => by cases h⟩
theorem semiflows_in : (Rows.topSemiflowsAreInvariantRow.inPlace == Tryd.prog.inPlace 3) = true := by kernel_rfl
theorem semiflows_un : (Rows.topSemiflowsAreInvariantRow.unfollowed == Tryd.prog.unfollowed 3) = true := by kernel_rfl
theorem semiflows_re : (Rows.topSemiflowsAreInvariantRow.recurses == Tryd.prog.recurses 3) = true := by kernel_rfl
theorem semiflows_va : (Rows.topSemiflowsAreInvariantRow.named == Tryd.prog.varsNamed 3) = true := by kernel_rfl
theorem semiflows_jf : joinedFacts Tryd.prog 3 Tryd.f3 (OpenSpec.ofChange Rows.topSemiflowsAreInvariantSpec).bare Rows.topSemiflowsAreInvariantRow = true :=
  joined_parts (by kernel_rfl) semiflows_in semiflows_un semiflows_re semiflows_va (by kernel_rfl)
theorem semiflows_wr : Tryd.f3.isWrapper Tryd.prog Rows.topSemiflowsAreInvariantRow.wrapper Rows.topSemiflowsAreInvariantRow.mainSum := by
  unfold Func.isWrapper
  first | (rw [if_pos (by decide +kernel)]; kernel_rfl) | (rw [if_neg (by decide +kernel)]; exact ⟨rfl, rfl⟩)
theorem semiflows_row : Rows.TopSemiflowsAreInvariantSaid :=
  OpenClaim.holds_of_cond 3 Tryd.f3 rfl rfl rfl rfl rfl rfl rfl ⟨rfl, rfl, rfl, rfl, rfl⟩ rfl rfl rfl rfl rfl (by kernel_rfl) Tryd.func3 semiflows_jf
    (of_decide_eq_true (by kernel_rfl)) semiflows_wr
    (fun os started H enc _ F => by rw [OpenClaim.pre_eq_preRow]; exact semiflows_lifted os started H enc F)
theorem semiflows_plain (f : FuncId) (fn : Func) (hf : Tryd.pinned.checked.prog.funcNamed "overseer/overseertop.TopSemiflowsAreInvariant" = some f) (hfn : Tryd.pinned.checked.prog.funcs[f]? = some fn) :
    false = Tryd.pinned.checked.prog.looks [] ∧ ∀ (j : Nat) t, fn.params[j]? = some t → Tryd.pinned.checked.prog.wantsStandIn t = false := by
  obtain rfl : f = 3 := Option.some.inj ((show Tryd.prog.funcNamed "overseer/overseertop.TopSemiflowsAreInvariant" = some 3 by kernel_rfl).symm.trans hf) |>.symm
  obtain rfl : fn = Tryd.f3 := (Option.some.inj (Tryd.func3.symm.trans hfn)).symm
  refine ⟨by kernel_rfl, fun j t ht => ?_⟩
  rw [Tryd.params3] at ht
  have hm := Array.mem_of_getElem? ht
  have hall : ∀ t, t ∈ ([25, 26] : List TypeId) → Tryd.prog.wantsStandIn t = false := fun t h => by simpa using List.all_eq_true.1 (show ([25, 26] : List TypeId).all (fun t => !Tryd.prog.wantsStandIn t) = true by kernel_rfl) t h
  exact hall t (by simpa using hm)
/-- THE CARD. -/
theorem semiflows_holds : Rows.TopSemiflowsAreInvariantCardSaid :=
  Claim7.holds_tied_plain_at .later [] _ _ _ _ semiflows_row (fun _ h => by cases h) (by kernel_rfl) (fun _ h => by cases h) topSemiflowsAreInvariant_row_tie rfl ⟨rfl, rfl⟩ (by kernel_rfl) rfl semiflows_plain (by kernel_rfl)
end Go.Proofs.YtkkgfoknknehfaaDoor

/-
  The statement ExpressionFolds is proved. No condition but the row's own.
-/
import Derived.Test.YtmclnnpaephkpaaO14
import Derived.Test.YtmclnnpaephkpaaCG14
import Derived.Test.YtmclnnpaephkpaaRows
namespace Go.Proofs.Ytmclnnpaephkpaa
set_option linter.unusedVariables false
set_option linter.unusedSimpArgs false
set_option linter.unnecessarySimpa false
set_option linter.unusedSectionVars false
open Go.ChangeShapes Go.WideShapes Go.ChangeAt Go.RowKit

set_option maxRecDepth 100000 in
theorem foldslaw_lifted (os : Os) (started : os.Started) (H : Type) (enc : TypeId × Value → H) :
    ReturnsInHanded {} Try.checked os 11 .any (Rows.expressionFoldsSpec.pre6 enc Try.prog Try.f11 Rows.expressionFoldsRow.domain false) (Rows.expressionFoldsSpec.post enc Try.prog Try.f11 false true false false) := by
  refine returnsInHanded_of_change_sized (C := Try.checked) own14 started (by kernel_rfl) Try.func11
      (ChangeSpec.witness6 (enc := enc) (C := Try.checked) false ⟨#[], #[.slice none 0 0, .agg #[.int .i64 0, .int .i64 0, .int .i64 0, .slice none 0 0]], []⟩ 8 (by kernel_rfl) (by kernel_rfl) (by kernel_rfl) (by kernel_rfl)) ?_
  intro W base args ds gs before hval0 hW hcnd hsz0 _
  have hval : ∀ (j : Nat) t v, Try.f11.params[j]? = some t → args[j]? = some v → Value.okWide Try.prog W .any base t v := hval0
  have hsz : (DataW.weightsEach Try.prog (Try.f11.params.toList ++ Rows.expressionFoldsSpec.plain.varTypes Try.prog) (ds ++ gs)).all (· ≤ reachBytes) = true := hsz0
  have hW' := hW
  obtain ⟨p, q, hA0, hV, rfl, hfz, hnd⟩ := hW
  have hA : DataW.TrodAll enc Try.prog W 0 (fun _ => true) true Try.f11.params.toList args.toList ds p := hA0
  rw [Try.params11] at hA hval hsz
  have hsz1 : ∀ (j : Nat) t d, (Try.f11.params.toList)[j]? = some t → ds[j]? = some d → ∀ n, n ∈ d.weights Try.prog t → n ≤ reachBytes := fun j t d ht hd n hn => of_decide_eq_true (List.all_eq_true.1 hsz0 _ (DataW.weights_mem_each (j := j) (t := t) (d := d) (by rw [List.getElem?_append_left (List.getElem?_eq_some_iff.1 ht).1]; exact ht) (by rw [List.getElem?_append_left (List.getElem?_eq_some_iff.1 hd).1]; exact hd) n hn))
  rw [Try.params11] at hsz1
  clear hsz hsz0
  obtain ⟨v0, vs0, d0, ds0, p0, q0, hargs, rfl, rfl, h0, r0⟩ := trodAll_cons hA
  obtain ⟨v1, vs1, d1, ds1, p1, q1, rfl, rfl, rfl, h1, r1⟩ := trodAll_cons r0
  obtain ⟨rfl, rfl, rfl⟩ := trodAll_nil r1
  obtain rfl : args = #[v0, v1] := by cases args; simp_all
  obtain ⟨rfl, rfl⟩ := trodVars_none hV
  have k0 := h0
  have lt0 : ∀ x ∈ p0, x.block < W.heap.size := by obtain ⟨m, hm⟩ := k0; exact DataW.trod_lt m _ _ _ hm
  obtain ⟨f0, q0, s0, rep0⟩ := open_arg (hW := gw0 _) cover14_ok (by decide) (hval 0 32 v0 rfl rfl) h0 (hsz1 0 32 d0 rfl rfl)
  obtain ⟨e0, he0, x0⟩ := shp_bytes s0
  rw [he0] at rep0
  have k1 := h1
  have lt1 : ∀ x ∈ p1, x.block < W.heap.size := by obtain ⟨m, hm⟩ := k1; exact DataW.trod_lt m _ _ _ hm
  obtain ⟨f1, q1, s1, rep1⟩ := open_arg (hW := gw0 _) cover14_ok (by decide) (hval 1 24 v1 rfl rfl) h1 (hsz1 1 24 d1 rfl rfl)
  obtain ⟨e1, he1, x1⟩ := shp_E s1
  rw [he1] at rep1
  clear hA0 hval0
  refine (Ev.top (Go.Proofs.Ytmclnnpaephkpaa.W.ev_ofW (Go.Proofs.Ytmclnnpaephkpaa.W.c11 e0 e1 (by unfold lenMax; unfold reachBytes at x0; omega))) (repsC rep0 (repsC rep1 reps0))).mono fun e W' ⟨vr, M', he, hrep, _, bel⟩ => ?_
  subst he
  obtain rfl := rep_bool.1 hrep
  exact ⟨_, rfl, _, _, _, [], _, [], hW', trodAll_mk1 (shut_bool Try.underlying4 _), (trodAll_cons_mk (Below.trod laidOut14 (by kernel_rfl) (of_decide_eq_true (by kernel_rfl)) k0 bel lt0) (trodAll_cons_mk (Below.trod laidOut14 (by kernel_rfl) (of_decide_eq_true (by kernel_rfl)) k1 bel lt1) trodAll_mk0)), rfl, bel.frame _, fun h => by cases h⟩
theorem foldslaw_holds : Rows.ExpressionFoldsSaid :=
  OpenClaim.holds_of_wide 11 Try.f11 rfl rfl rfl rfl rfl rfl rfl ⟨rfl, rfl, rfl, rfl, rfl⟩ rfl rfl rfl rfl rfl (by kernel_rfl) Try.func11 (by kernel_rfl)
    (of_decide_eq_true (by kernel_rfl)) (by unfold Func.isWrapper; first | (rw [if_pos (by decide +kernel)]; kernel_rfl) | (rw [if_neg (by decide +kernel)]; exact ⟨rfl, rfl⟩))
    (fun os started H enc _ => foldslaw_lifted os started H enc)
end Go.Proofs.Ytmclnnpaephkpaa

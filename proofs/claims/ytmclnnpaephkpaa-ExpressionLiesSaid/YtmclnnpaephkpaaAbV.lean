/-
  Operations without their edges and places: the evaluator does not look at them.
-/
import Derived.Test.YtmclnnpaephkpaaAbS
namespace Go.Proofs.Ytmclnnpaephkpaa
set_option linter.unusedVariables false
set_option linter.unusedSimpArgs false
set_option linter.unnecessarySimpa false
set_option linter.unusedSectionVars false
open Go.RowKit
def lite : Oper → Oper
  | ⟨d, op, ty, _, _, g⟩ => ⟨d, op, ty, "", #[], g⟩
section
variable {E : AE} {ops : Array Oper} {K : ASt → Prop}
theorem awpOp_lite (o : Oper) (σ : ASt) : awpOp E (lite o) K σ = awpOp E o K σ := by cases o; rfl
theorem gval_lite (σ : ASt) (j : Nat) : gval (ops.map lite) σ j = gval ops σ j := by
  unfold gval
  rw [Array.getElem?_map]
  cases ops[j]? with
  | none => rfl
  | some o => cases o; rfl
theorem awpOps_lite : ∀ (l : List Oper) (σ : ASt), awpOps E (ops.map lite) (l.map lite) K σ = awpOps E ops l K σ
  | [], _ => rfl
  | o :: l, σ => by
    have ih := fun σ => awpOps_lite l σ
    have ih' : awpOps E (ops.map lite) (l.map lite) K = awpOps E ops l K := funext ih
    obtain ⟨d, op, ty, pos, af, g⟩ := o
    rw [List.map_cons, awpOps, awpOps, ih']
    cases g with
    | none => exact awpOp_lite _ σ
    | some jw =>
      obtain ⟨j, want⟩ := jw
      simp only [lite, gval_lite]
      rfl
theorem regL {m0 : Nat} {Q : AX → ASt → Prop} {σ : ASt} {id : Nat} {ops' : Array Oper} (he : ops.map lite = ops') (h : awpOps E ops' ops'.toList (Q .normal) (σ.head E)) : awp E m0 (.region id ops false) Q σ := by
  subst he
  rw [Array.toList_map, awpOps_lite] at h
  exact regA h
theorem isCall_lite (o : Oper) : isCall (lite o) = isCall o := by cases o; rfl
theorem awpOpD_lite (o : Oper) (σ : ASt) : awpOpD E (lite o) K σ = awpOpD E o K σ := by cases o; rfl
theorem awpOpsD_lite : ∀ (l : List Oper) (σ : ASt), awpOpsD E (ops.map lite) (l.map lite) K σ = awpOpsD E ops l K σ
  | [], _ => rfl
  | o :: l, σ => by
    have ih := fun σ => awpOpsD_lite l σ
    have ih' : awpOpsD E (ops.map lite) (l.map lite) K = awpOpsD E ops l K := funext ih
    obtain ⟨d, op, ty, pos, af, g⟩ := o
    rw [List.map_cons, awpOpsD, awpOpsD, ih']
    cases g with
    | none => exact awpOpD_lite _ σ
    | some jw =>
      obtain ⟨j, want⟩ := jw
      simp only [lite, gval_lite]
      rfl
theorem regLD {m0 : Nat} {Q : AX → ASt → Prop} {σ : ASt} {id : Nat} {ops' : Array Oper} (hok : okD E ops = true) (he : ops.map lite = ops') (h : awpOpsD E ops' ops'.toList (Q .normal) (σ.head E)) : awp E m0 (.region id ops true) Q σ := by
  subst he
  rw [Array.toList_map, awpOpsD_lite] at h
  exact regD hok h
end
end Go.Proofs.Ytmclnnpaephkpaa

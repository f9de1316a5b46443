/-
  Views of single values, pieces of code: words for the printed texts.
-/
import Derived.Test.YtkkgfoknknehfaaDoorAbY
import Derived.Test.YtkkgfoknknehfaaDoorChecked
namespace Go.Proofs.YtkkgfoknknehfaaDoor
set_option linter.unusedVariables false
set_option linter.unusedSimpArgs false
set_option linter.unnecessarySimpa false
set_option linter.unusedSectionVars false
open Go.RowKit
def vI (k : IntKind) (p : PV) (K : Int → R) : R := match p with | .int k' n => (match decide (k' = k) with | true => K n | false => none) | _ => none
def vB (p : PV) (K : Bool → R) : R := match p with | .bool b => K b | _ => none
def vS (p : PV) (K : ByteArray → R) : R := match p with | .str b => K b | _ => none
def vL (o : Bool) (z : Nat) (p : PV) (K : List PV → R) : R := match p with | .sl o' z' es => (match o' == o && Nat.beq z' z with | true => K es | false => none) | _ => none
def w0 (p : PV) (K : R) : R := match p with | .tuple [] => K | _ => none
@[simp] theorem vI_mk (k : IntKind) (n : Int) (K : Int → R) : vI k (.int k n) K = K n := by simp [vI]
@[simp] theorem vB_mk (b : Bool) (K : Bool → R) : vB (.bool b) K = K b := rfl
@[simp] theorem vS_mk (b : ByteArray) (K : ByteArray → R) : vS (.str b) K = K b := rfl
@[simp] theorem vL_mk (o : Bool) (z : Nat) (es : List PV) (K : List PV → R) : vL o z (.sl o z es) K = K es := by simp [vL]
@[simp] theorem w0_mk (K : R) : w0 (.tuple []) K = K := rfl
theorem vI_ok (k : IntKind) (p : PV) : (∀ K : PV → R, vI k p (fun n => K (.int k n)) = K p) ∨ (∀ K : PV → R, vI k p (fun n => K (.int k n)) = none) := by
 unfold vI; grind
theorem vB_ok (p : PV) : (∀ K : PV → R, vB p (fun n => K (.bool n)) = K p) ∨ (∀ K : PV → R, vB p (fun n => K (.bool n)) = none) := by
 unfold vB; grind
theorem vS_ok (p : PV) : (∀ K : PV → R, vS p (fun n => K (.str n)) = K p) ∨ (∀ K : PV → R, vS p (fun n => K (.str n)) = none) := by
 unfold vS; grind
theorem vL_ok (o : Bool) (z : Nat) (p : PV) : (∀ K : PV → R, vL o z p (fun n => K (.sl o z n)) = K p) ∨ (∀ K : PV → R, vL o z p (fun n => K (.sl o z n)) = none) := by
 unfold vL; grind [Nat.eq_of_beq_eq_true]
theorem out_bsel {b : Bool} {f g : (PV → Objs → R) → R} {p : PV} {h : Objs} (hf : (∀ K : PV → Objs → R, f K = K p h) ∨ (∀ K : PV → Objs → R, f K = none)) (hg : (∀ K : PV → Objs → R, g K = K p h) ∨ (∀ K : PV → Objs → R, g K = none)) :
 (∀ K : PV → Objs → R, bsel b (f K) (g K) = K p h) ∨ (∀ K : PV → Objs → R, bsel b (f K) (g K) = none) := by
 cases b
 ·exact hg
 ·exact hf
def bodyOf (f : Func) : Code := match f.body with | some c => c | none => .skip
def Code.sub : List Bool → Code → Code
 | [], c => c
 | b :: p, .seq x y => match b with | true => Code.sub p y | false => Code.sub p x
 | b :: p, .cond _ x y => match b with | true => Code.sub p y | false => Code.sub p x
 | b :: p, .rangeFunc _ _ x y => match b with | true => Code.sub p y | false => Code.sub p x
 | _ :: p, .block _ x => Code.sub p x
 | _ :: p, .scope x => Code.sub p x
 | _ :: p, .loop x => Code.sub p x
 | _, c => c
@[simp] theorem bsel_true (A B : R) : bsel true A B = A := rfl
@[simp] theorem bsel_false (A B : R) : bsel false A B = B := rfl
theorem chk_of {b : Bool} {A : R} (h : b = true) : chk b A = A := by subst h; rfl
theorem lgetX_of {es : List PV} {n : Int} {K : PV → R} {e : PV} (h0 : 0 ≤ n) (h : es[n.toNat]? = some e) : lgetX es n K = K e := by grind [lgetX]
theorem clX_of {C : Cal} {g : FuncId} {args : List PV} {K : PV → R} {r : PV} (h : C g args [] = some (r, [])) : clX C g args K = K r := by unfold clX; rw [h]
theorem nilX_of {es : List PV} {K : Bool → R} {v : PV × Objs} (h1 : K false = some v) (h2 : es = [] → K true = some v) : nilX es K = some v := by
 grind [nilX, eqR_self]
end Go.Proofs.YtkkgfoknknehfaaDoor

/-
  Tables of the library that lie in the world from the beginning and that nothing writes.
-/
import Derived.Lib.ItoaNum
namespace Go.Proofs.YtkkgfoknknehfaaDoor
set_option linter.unusedVariables false
set_option linter.unusedSimpArgs false
set_option linter.unnecessarySimpa false
set_option linter.unusedSectionVars false
def tabsG (m : Int) : List (Nat × List Value) := [(2, Lib.pow10Tab.map (Value.int .u64))]
def Glob (m : Int) (b o : Nat) : Option Value := ((tabsG m).lookup b).bind (·[o]?)
structure Mem where
 m : Int
 f : Nat → Nat → Option Value
 g : ∀ b o v, Glob m b o = some v → f b o = some v
instance : CoeFun Mem (fun _ => Nat → Nat → Option Value) := ⟨Mem.f⟩
def mkM (m : Int) (F : Nat → Nat → Option Value) : Mem := ⟨m, fun b o => match Glob m b o with | some v => some v | none => F b o, fun b o v h => by simp only [h]⟩
theorem mkM_of {m : Int} {F : Nat → Nat → Option Value} (h : ∀ b o v, Glob m b o = some v → F b o = some v) (b o : Nat) : mkM m F b o = F b o := by
 show (match Glob m b o with | some v => some v | none => F b o) = F b o
 split
 ·rename_i v hv; exact (h b o v hv).symm
 ·rfl
theorem glob_if {M : Mem} {c : Nat} {f : Nat → Option Value} (h : ∀ o, M c o = none) : ∀ b o v, Glob M.m b o = some v → (if b = c then f o else M b o) = some v := fun b o v e => by
 have hb : b ≠ c := fun hb => by subst hb; have := M.g _ _ _ e; rw [h] at this; cases this
 rw [if_neg hb]; exact M.g _ _ _ e
end Go.Proofs.YtkkgfoknknehfaaDoor

/-
  Parts of a function whose equation is known, one after another.
-/
import Derived.Test.YtoajpgclgdhhlaaAbI
import Derived.Test.YtoajpgclgdhhlaaAbZ
namespace Go.Proofs.Ytoajpgclgdhhlaa
set_option linter.unusedVariables false
set_option linter.unusedSimpArgs false
set_option linter.unnecessarySimpa false
set_option linter.unusedSectionVars false
open Go.RowKit
open Classical in
/-- The continuation that knows one way out alone. -/
noncomputable def onlyK (ax : AX) (σt : ASt) : AX → ASt → R := fun e σ => if e = ax ∧ σ = σt then some (.nilp, []) else none
theorem piece_awp {X : XE} (hV : viewOK X.V) (hW : outOK X.W) (hC : calOK X.E.P X.C) (hL : lopOK X) {c : Code} {σ σt : ASt} {ax : AX} (h : ∀ K : AX → ASt → R, exK X c K σ = K ax σt) :
    awp X.E X.m0 c (fun e σ' => e = ax ∧ σ' = σt) σ := by
  have h1 : exK X c (onlyK ax σt) σ = some (.nilp, []) := by rw [h]; simp [onlyK]
  refine awp_mono c (fun e σ' he => ?_) (exK_sound hV hW hC hL c h1)
  unfold onlyK at he
  split at he
  · assumption
  · cases he
theorem LL_sound {S : SE} (hm : S.P.follows .mixedOrders = true) (hS : S.OK) (h0 : calOK S.P S.C0) {E : AE} (hE : S.wp E = E) {m0 : Nat} : lopOK (S.xe S.CC S.LL E m0) := fun l m x K σ v hv => by
  obtain ⟨n, hn⟩ := (lim_some (f := fun n => (S.sem n).2 E m0 l m x K (σ.gc l m)) fun n v hv => (semn_mono hS n).2 _ _ _ _ _ _ _ _ _ (fun _ _ _ h => h) hv).1 hv
  exact ⟨n, (sem_sound hm hS h0 n).2 E m0 l m x K σ v hE hn⟩
end Go.Proofs.Ytoajpgclgdhhlaa

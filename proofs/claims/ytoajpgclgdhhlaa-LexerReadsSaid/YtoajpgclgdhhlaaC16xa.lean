/-
  The contracts below LexerReads: known, Scan, and the model's scan.
-/
import Derived.Test.YtoajpgclgdhhlaaC16v
namespace Go.Proofs.Ytoajpgclgdhhlaa
set_option linter.unusedVariables false
set_option linter.unusedSimpArgs false
set_option linter.unnecessarySimpa false
set_option linter.unusedSectionVars false
open Go.RowKit Go.Shelf
def CV : Cal := fun g args h => match g, args with
  | 11, [] => some (.bool true, h)
  | 12, [.str s] => some (scanP (scanT s.data.toList), h)
  | 20, [.str s] => (match Nat.ble s.size 1000000 with | true => some (scanP (scanT s.data.toList), h) | false => none)
  | _, _ => none
theorem ev_ofW {g : FuncId} {args : List PV} {r : PV} (h : W.SS.CC g args [] = Ret r) : Ev Try.prog g args [] r [] :=
  CC_sound mixed16 W.SS_ok CS_ok g args [] r [] h
theorem CV_ok : calOK Try.prog CV := by
  intro g args h r h' hv
  unfold CV at hv
  split at hv
  · cases hv
    exact (ev_ofW W.c11).frame' rfl rfl _
  · rename_i s
    cases hv
    have := ev12 s.data.toList
    rw [bs_data] at this
    exact this.frame' (flat_scanP _) rfl _
  · rename_i s
    split at hv
    · rename_i hs
      cases hv
      have hs : s.size ≤ 1000000 := by rwa [Nat.ble_eq] at hs
      have := ev_ofW (W.m20 s.data.toList (by rw [Array.length_toList]; exact hs))
      rw [bs_data] at this
      exact this.frame' (flat_scanP _) rfl _
    · cases hv
  · cases hv
end Go.Proofs.Ytoajpgclgdhhlaa

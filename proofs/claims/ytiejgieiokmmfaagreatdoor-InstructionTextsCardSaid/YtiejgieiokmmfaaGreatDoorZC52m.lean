/-
  Contracts: the numbers and the words of a line, in the code and in the model.
-/
import Derived.Test.YtiejgieiokmmfaaGreatDoorZP52p
namespace Go.Proofs.YtiejgieiokmmfaaGreatDoor
set_option linter.unusedVariables false
set_option linter.unusedSimpArgs false
set_option linter.unnecessarySimpa false
set_option linter.unusedSectionVars false
open Go.RowKit
def numP : Option Nat → PV
  | none => .tuple [.int .i64 0, .bool false]
  | some n => .tuple [.int .i64 (n : Int), .bool true]
theorem dig_wrap {x : UInt8} {a : Nat} (ha : a < 1000000) (h1 : ¬ x.toNat < 48) (h2 : ¬ 57 < x.toNat) :
    IntKind.i64.wrap ((IntKind.i64.wrap (10 * (a : Int))) + (IntKind.i64.wrap (IntKind.u8.wrap ((x.toNat : Int) - 48)))) = ((10 * a + (x.toNat - 48) : Nat) : Int) := by
  rw [show IntKind.u8.wrap ((x.toNat : Int) - 48) = (x.toNat : Int) - 48 by rw [IntKind.wrap_u8]; omega, wr0 (k := 10 * (a : Int)) (by omega) (by omega), wr0 (k := (x.toNat : Int) - 48) (by omega) (by omega), wr0 (by omega) (by omega)]
  omega
theorem drop_get {α : Type} {l : List α} {k : Nat} {x : α} (h : l[k]? = some x) : l.drop k = x :: l.drop (k + 1) := by
  obtain ⟨h1, rfl⟩ := List.getElem?_eq_some_iff.1 h
  exact List.drop_eq_getElem_cons h1
theorem l72 (l : List UInt8) (hl : l.length ≤ 6) : ∀ m k a : Nat, k + m = l.length → a < 10 ^ k → g65_L6 (bs l) (a : Int) (k : Int) = Ret (numP (valS a (l.drop k))) := by
  intro m
  induction m with
  | zero =>
    intro k a h _
    rw [g65_L6_eq, bs_size, decF (by omega), bsel_false, List.drop_of_length_le (by omega)]; rfl
  | succ m ih =>
    intro k a h ha
    obtain ⟨x, hx⟩ := get_lt (show k < l.length by omega)
    have h10 : (10 : Nat) ^ k ≤ 10 ^ 5 := Nat.pow_le_pow_right (by decide) (by omega)
    rw [g65_L6_eq, bs_size, decT (by omega), bsel_true, bs_get hx, drop_get hx, valS]
    by_cases h1 : x.toNat < 48
    · rw [decT (by omega), bsel_true, if_pos h1]; rfl
    rw [decF (by omega), bsel_false, bs_get hx, if_neg h1]
    by_cases h2 : 57 < x.toNat
    · rw [decT (by omega), bsel_true, if_pos h2]; rfl
    rw [decF (by omega), bsel_false, bs_get hx, if_neg h2, dig_wrap (by omega) h1 h2, wrs (by omega)]
    refine ih (k + 1) _ (by omega) ?_
    rw [Nat.pow_succ]; omega
theorem c72 (l : List UInt8) (hl : l.length ≤ 1000000) : SS.CC 65 [.str (bs l)] [] = Ret (numP (numS l)) := by
  rw [g65_eq, bs_size]
  unfold numS
  by_cases h0 : l.length = 0
  · rw [eqT (by omega), bsel_true, if_pos (by omega)]; rfl
  rw [eqF (by omega), bsel_false, if_neg (by omega)]
  by_cases h6 : 6 < l.length
  · rw [decT (by omega), bsel_true, if_pos h6]; rfl
  rw [decF (by omega), bsel_false, if_neg h6]
  have fin : g65_J4 (bs l) = Ret (numP (valS 0 l)) := by
    rw [g65_J4_eq]; exact l72 l (by omega) l.length 0 0 (by omega) (by decide)
  by_cases h1 : 1 < l.length
  · rw [decT (by omega), bsel_true]
    obtain ⟨x, hx⟩ := get_lt (show 0 < l.length by omega)
    rw [show (0 : Int) = ((0 : Nat) : Int) from rfl, bs_get hx]
    by_cases hx0 : x = 48
    · subst hx0
      rw [show ((((48 : UInt8).toNat : Nat) : Int) == 48) = true from rfl, bsel_true, if_pos ⟨h1, hx⟩]; rfl
    · have : x.toNat ≠ 48 := fun e => hx0 (UInt8.toNat_inj.1 (by rw [e]; rfl))
      rw [eqF (by omega), bsel_false, if_neg (fun h => hx0 (by rw [hx] at h; injection h.2)), fin]
  · rw [decF (by omega), bsel_false, if_neg (fun h => h1 h.1), fin]
/-- A number's view. -/
theorem num_w {l : List UInt8} (hl : l.length ≤ 1000000) {K : Int → Bool → R} : (clX SS.CC 65 [.str (bs l)] fun r => w_3_4 r K) = K (((numS l).getD 0 : Nat) : Int) (numS l).isSome := by
  rw [clX_of (c72 l hl)]
  cases numS l <;> rfl
/-! ### words -/
theorem split_w {l : List UInt8} {c : UInt8} (hl : l.length ≤ 1000000) {K : PV → R} : clX SS.CC 29 [.str (bs l), .str ⟨#[c]⟩] K = K (.sl false 1 (strsL (splitC c l))) := by
  refine clX_of (CC_c0 ?_)
  show (match Nat.ble (bs l).size 1073741824 with | true => some (PV.sl false 1 (strsL (splitC c (bs l).data.toList)), ([] : Objs)) | false => none) = _
  rw [bs_size, Nat.ble_eq_true_of_le (by omega)]
end Go.Proofs.YtiejgieiokmmfaaGreatDoor

/-
  Contracts: the numbers and the words of a line, in the code and in the model.
-/
import Derived.Test.YtiejgieiokmmfaaDoorP52p
namespace Go.Proofs.YtiejgieiokmmfaaDoor
set_option linter.unusedVariables false
set_option linter.unusedSimpArgs false
set_option linter.unnecessarySimpa false
set_option linter.unusedSectionVars false
open Go.RowKit
def numP : Option Nat → PV
  | none => .tuple [.int .i64 0, .bool false]
  | some n => .tuple [.int .i64 (n : Int), .bool true]
theorem dig_wrap {x : UInt8} {a : Nat} (ha : a < 1000000) (h1 : ¬ x.toNat < 48) (h2 : ¬ 57 < x.toNat) :
    IntKind.i64.wrap ((IntKind.i64.wrap (10 * (a : Int))) + (IntKind.i64.wrap (IntKind.u8.wrap ((x.toNat : Int) - 48)))) = ((10 * a + (x.toNat - 48) : Nat) : Int) := by
  rw [show IntKind.u8.wrap ((x.toNat : Int) - 48) = (x.toNat : Int) - 48 by rw [IntKind.wrap_u8]; omega, wr0 (k := 10 * (a : Int)) (by omega) (by omega), wr0 (k := (x.toNat : Int) - 48) (by omega) (by omega), wr0 (by omega) (by omega)]
  omega
theorem drop_get {α : Type} {l : List α} {k : Nat} {x : α} (h : l[k]? = some x) : l.drop k = x :: l.drop (k + 1) := by
  obtain ⟨h1, rfl⟩ := List.getElem?_eq_some_iff.1 h
  exact List.drop_eq_getElem_cons h1
theorem l72 (l : List UInt8) (hl : l.length ≤ 6) : ∀ m k a : Nat, k + m = l.length → a < 10 ^ k → g72_L6 (bs l) (a : Int) (k : Int) = Ret (numP (valS a (l.drop k))) := by
  intro m
  induction m with
  | zero =>
    intro k a h _
    rw [g72_L6_eq, bs_size, decF (by omega), bsel_false, List.drop_of_length_le (by omega)]; rfl
  | succ m ih =>
    intro k a h ha
    obtain ⟨x, hx⟩ := get_lt (show k < l.length by omega)
    have h10 : (10 : Nat) ^ k ≤ 10 ^ 5 := Nat.pow_le_pow_right (by decide) (by omega)
    rw [g72_L6_eq, bs_size, decT (by omega), bsel_true, bs_get hx, drop_get hx, valS]
    by_cases h1 : x.toNat < 48
    · rw [decT (by omega), bsel_true, if_pos h1]; rfl
    rw [decF (by omega), bsel_false, bs_get hx, if_neg h1]
    by_cases h2 : 57 < x.toNat
    · rw [decT (by omega), bsel_true, if_pos h2]; rfl
    rw [decF (by omega), bsel_false, bs_get hx, if_neg h2, dig_wrap (by omega) h1 h2, wrs (by omega)]
    refine ih (k + 1) _ (by omega) ?_
    rw [Nat.pow_succ]; omega
theorem c72 (l : List UInt8) (hl : l.length ≤ 1000000) : SS.CC 72 [.str (bs l)] [] = Ret (numP (numS l)) := by
  rw [g72_eq, bs_size]
  unfold numS
  by_cases h0 : l.length = 0
  · rw [eqT (by omega), bsel_true, if_pos (by omega)]; rfl
  rw [eqF (by omega), bsel_false, if_neg (by omega)]
  by_cases h6 : 6 < l.length
  · rw [decT (by omega), bsel_true, if_pos h6]; rfl
  rw [decF (by omega), bsel_false, if_neg h6]
  have fin : g72_J4 (bs l) = Ret (numP (valS 0 l)) := by
    rw [g72_J4_eq]; exact l72 l (by omega) l.length 0 0 (by omega) (by decide)
  by_cases h1 : 1 < l.length
  · rw [decT (by omega), bsel_true]
    obtain ⟨x, hx⟩ := get_lt (show 0 < l.length by omega)
    rw [show (0 : Int) = ((0 : Nat) : Int) from rfl, bs_get hx]
    by_cases hx0 : x = 48
    · subst hx0
      rw [show ((((48 : UInt8).toNat : Nat) : Int) == 48) = true from rfl, bsel_true, if_pos ⟨h1, hx⟩]; rfl
    · have : x.toNat ≠ 48 := fun e => hx0 (UInt8.toNat_inj.1 (by rw [e]; rfl))
      rw [eqF (by omega), bsel_false, if_neg (fun h => hx0 (by rw [hx] at h; injection h.2)), fin]
  · rw [decF (by omega), bsel_false, if_neg (fun h => h1 h.1), fin]
theorem l73 (l : List UInt8) (hl : l.length ≤ 6) : ∀ m k a : Nat, k + m = l.length → a < 10 ^ k → g73_L6 (bs l) (a : Int) (k : Int) = Ret (numP (valS a (l.drop k))) := by
  intro m
  induction m with
  | zero =>
    intro k a h _
    rw [g73_L6_eq, bs_size, decF (by omega), bsel_false, List.drop_of_length_le (by omega)]; rfl
  | succ m ih =>
    intro k a h ha
    obtain ⟨x, hx⟩ := get_lt (show k < l.length by omega)
    have h10 : (10 : Nat) ^ k ≤ 10 ^ 5 := Nat.pow_le_pow_right (by decide) (by omega)
    rw [g73_L6_eq, bs_size, decT (by omega), bsel_true, bs_get hx, drop_get hx, valS]
    by_cases h1 : x.toNat < 48
    · rw [decT (by omega), bsel_true, if_pos h1]; rfl
    rw [decF (by omega), bsel_false, bs_get hx, if_neg h1]
    by_cases h2 : 57 < x.toNat
    · rw [decT (by omega), bsel_true, if_pos h2]; rfl
    rw [decF (by omega), bsel_false, bs_get hx, if_neg h2, dig_wrap (by omega) h1 h2, wrs (by omega)]
    refine ih (k + 1) _ (by omega) ?_
    rw [Nat.pow_succ]; omega
theorem c73 (l : List UInt8) (hl : l.length ≤ 1000000) : SS.CC 73 [.str (bs l)] [] = Ret (numP (numS l)) := by
  rw [g73_eq, bs_size]
  unfold numS
  by_cases h0 : l.length = 0
  · rw [decT (by omega), bsel_true, if_pos (by omega)]; rfl
  rw [decF (by omega), bsel_false, if_neg (by omega)]
  by_cases h6 : 6 < l.length
  · rw [decT (by omega), bsel_true, if_pos h6]; rfl
  rw [decF (by omega), bsel_false, if_neg h6]
  have fin : g73_J4 (bs l) = Ret (numP (valS 0 l)) := by
    rw [g73_J4_eq]; exact l73 l (by omega) l.length 0 0 (by omega) (by decide)
  obtain ⟨x, hx⟩ := get_lt (show 0 < l.length by omega)
  rw [show (0 : Int) = ((0 : Nat) : Int) from rfl, bs_get hx]
  by_cases hx0 : x = 48
  · subst hx0
    rw [show ((((48 : UInt8).toNat : Nat) : Int) == 48) = true from rfl, bsel_true]
    by_cases h1 : 1 < l.length
    · rw [decT (by omega), bsel_true, if_pos ⟨h1, hx⟩]; rfl
    · rw [decF (by omega), bsel_false, if_neg (fun h => h1 h.1), fin]
  · have : x.toNat ≠ 48 := fun e => hx0 (UInt8.toNat_inj.1 (by rw [e]; rfl))
    rw [eqF (by omega), bsel_false, if_neg (fun h => hx0 (by rw [hx] at h; injection h.2)), fin]
/-- A number's view. -/
theorem num_w {l : List UInt8} (hl : l.length ≤ 1000000) {K : Int → Bool → R} : (clX SS.CC 72 [.str (bs l)] fun r => w_3_4 r K) = K (((numS l).getD 0 : Nat) : Int) (numS l).isSome := by
  rw [clX_of (c72 l hl)]
  cases numS l <;> rfl
theorem num_w' {l : List UInt8} (hl : l.length ≤ 1000000) {K : Int → Bool → R} : (clX SS.CC 73 [.str (bs l)] fun r => w_3_4 r K) = K (((numS l).getD 0 : Nat) : Int) (numS l).isSome := by
  rw [clX_of (c73 l hl)]
  cases numS l <;> rfl
/-! ### words -/
theorem split_w {l : List UInt8} {c : UInt8} (hl : l.length ≤ 1000000) {K : PV → R} : clX SS.CC 52 [.str (bs l), .str ⟨#[c]⟩] K = K (.sl false 1 (strsL (splitC c l))) := by
  refine clX_of (CC_c0 ?_)
  show (match Nat.ble (bs l).size 1073741824 with | true => some (PV.sl false 1 (strsL (splitC c (bs l).data.toList)), ([] : Objs)) | false => none) = _
  rw [bs_size, Nat.ble_eq_true_of_le (by omega)]
theorem l58 (l : List UInt8) (hl : l.length ≤ 1000000) : ∀ (m k : Nat) (out : List (List UInt8)) (w : List UInt8), k + m = l.length → out.length ≤ k → w.length ≤ k → g58_L5 (bs l) (strsL out) (k : Int) (bs w) = Ret (.sl false 1 (strsL (out ++ joinW w (splitC 32 (l.drop k))))) := by
  intro m
  induction m with
  | zero =>
    intro k out w h ho hw
    rw [g58_L5_eq, bs_size, decF (by omega), bsel_false, chk_of (by simp [LIM]; omega), strsL_snoc, List.drop_of_length_le (by omega)]
    simp [splitC, joinW]
  | succ m ih =>
    intro k out w h ho hw
    obtain ⟨x, hx⟩ := get_lt (show k < l.length by omega)
    rw [g58_L5_eq, bs_size, decT (by omega), bsel_true, bs_get hx, wrs (by omega), drop_get hx]
    by_cases h1 : x = 32
    · subst h1
      rw [show ((((32 : UInt8).toNat : Nat) : Int) == 32) = true from rfl, bsel_true, chk_of (by simp [LIM]; omega), strsL_snoc, show (⟨#[]⟩ : ByteArray) = bs [] from rfl, ih (k + 1) _ _ (by omega) (by simp; omega) (by simp), splitC_at, joinW_nil]
      simp
    · have : x.toNat ≠ 32 := fun e => h1 (UInt8.toNat_inj.1 (by rw [e]; rfl))
      have e1 : (bs l).extract (k : Int).toNat ((k + 1 : Nat) : Int).toNat = bs [x] := by
        rw [Int.toNat_natCast, Int.toNat_natCast, bs_extract, List.drop_take, drop_get hx]
        simp
      rw [eqF (by omega), bsel_false, chk_of (by simp; omega), e1, chk_of (by simp [LIM]; omega), bs_app, ih (k + 1) _ _ (by omega) (by omega) (by simp; omega), splitC_no h1]
theorem c58 (l : List UInt8) (hl : l.length ≤ 1000000) : SS.CC 58 [.str (bs l)] [] = Ret (.sl false 1 (strsL (splitC 32 l))) := by
  rw [g58_eq]
  have := l58 l hl l.length 0 [] [] (by omega) (by simp) (by simp)
  rw [List.drop_zero, joinW_nil] at this
  exact this
end Go.Proofs.YtiejgieiokmmfaaDoor

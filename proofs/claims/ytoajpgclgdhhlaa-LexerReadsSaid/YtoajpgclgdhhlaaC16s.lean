/-
  The model's scan is Scan.
-/
import Derived.Test.YtoajpgclgdhhlaaPP16
import Derived.Test.YtoajpgclgdhhlaaK16
import Derived.Test.YtoajpgclgdhhlaaW16s
namespace Go.Proofs.Ytoajpgclgdhhlaa.W
set_option linter.unusedVariables false
set_option linter.unusedSimpArgs false
set_option linter.unnecessarySimpa false
set_option linter.unusedSectionVars false
open Go.RowKit
set_option maxRecDepth 1000000
theorem m73 (n : Nat) : SS.CC 73 [.int .u8 n] [] = Ret (.bool (isDig n)) := by
  rw [g73_eq, show decide ((48 : Int) ≤ n) = decide (48 ≤ n) from leN 48 n, show decide ((n : Int) ≤ 57) = decide (n ≤ 57) from leN n 57]
  simp only [bsel_ite, isDig]
  cases decide (48 ≤ n) <;> cases decide (n ≤ 57) <;> rfl
theorem m71 (n : Nat) : SS.CC 71 [.int .u8 n] [] = Ret (.bool (isW n)) := by
  rw [g71_eq, show decide ((97 : Int) ≤ n) = decide (97 ≤ n) from leN 97 n, show decide ((n : Int) ≤ 122) = decide (n ≤ 122) from leN n 122, show decide ((65 : Int) ≤ n) = decide (65 ≤ n) from leN 65 n, show decide ((n : Int) ≤ 90) = decide (n ≤ 90) from leN n 90,
    show ((n : Int) == 95) = (n == 95) from beqN n 95]
  simp only [clX_of (m73 n), vB_mk, bsel_ite, isW, isLet]
  cases decide (97 ≤ n) <;> cases decide (n ≤ 122) <;> cases decide (65 ≤ n) <;> cases decide (n ≤ 90) <;> cases n == 95 <;> cases isDig n <;> rfl
theorem m88 : SS.CC 88 [] [] = Ret (.sl false 1 (symsL.map fun x => .str (bs x))) := g88_eq
theorem pre_T {x l : List UInt8} (h : x.length ≤ l.length) : (l.take x.length == x) = x.isPrefixOf l := by
  have := pre_take x l
  rw [decT h, Bool.true_and] at this
  exact this
theorem m72L (l : List UInt8) (xs : List (List UInt8)) (hx : xs.length ≤ 1000) : ∀ (m k : Nat), k + m = xs.length →
    g72_L3 (bs l) (xs.map fun x => .str (bs x)) (k : Int) = Ret (.str (bs (((xs.drop k).find? (fun x => x.isPrefixOf l)).getD []))) := by
  intro m
  induction m with
  | zero =>
    intro k hk
    rw [g72_L3_eq, decF (by rw [List.length_map]; omega), bsel_false, List.drop_eq_nil_of_le (by omega)]
    rfl
  | succ m ih =>
    intro k hk
    have hk' : k < xs.length := by omega
    rw [g72_L3_eq, decT (by rw [List.length_map]; omega), bsel_true, lgetX_of (e := .str (bs xs[k])) (by omega) (by simp [hk']), vS_mk, wrs (by omega), List.drop_eq_getElem_cons hk', List.find?_cons, bs_size, bs_size]
    by_cases h : xs[k].length ≤ l.length
    · rw [decT (by omega), bsel_true, chk_of (by simp <;> omega), bs_extract, bs_toList, bs_toList, show ((xs[k].length : Int)).toNat = xs[k].length from rfl, Nat.sub_zero, List.drop_zero, pre_T h]
      cases xs[k].isPrefixOf l with
      | true => rfl
      | false => exact ih (k + 1) (by omega)
    · rw [decF (by omega), bsel_false]
      have : xs[k].isPrefixOf l = false := by
        rw [Bool.eq_false_iff]; intro e
        exact h (pre_len e)
      rw [this]
      exact ih (k + 1) (by omega)
theorem m72 (l : List UInt8) : SS.CC 72 [.str (bs l)] [] = Ret (.str (bs ((symOf l).getD []))) := by
  rw [g72_eq, clX_of m88, vL_mk]
  exact m72L l symsL (by decide) symsL.length 0 (by omega)
/-- The value of digits, at most 65537. -/
def valS : List UInt8 → Nat → Nat
  | [], n => n
  | b :: l, n => valS l (min (10 * n + (b.toNat - 48)) 65537)
theorem val_top : ∀ (l : List UInt8), valS l 65537 = 65537
  | [] => rfl
  | b :: l => by rw [valS, Nat.min_eq_right (by omega), val_top l]
theorem val_le : ∀ (l : List UInt8) (n : Nat), n ≤ 65537 → valS l n ≤ 65537
  | [], n, h => h
  | b :: l, n, _ => val_le l _ (Nat.min_le_right _ _)
theorem val_num : ∀ (l : List UInt8) (n : Nat), n ≤ 65536 → numL l n = if 65536 < valS l n then none else some (valS l n)
  | [], n, h => by rw [numL, valS, if_neg (by omega)]
  | b :: l, n, h => by
    rw [numL, valS]
    by_cases c : 65536 < 10 * n + (b.toNat - 48)
    · rw [if_pos c, Nat.min_eq_right (by omega), val_top, if_pos (by omega)]
    · rw [if_neg c, Nat.min_eq_left (by omega)]
      exact val_num l _ (by omega)
theorem m74L (l : List UInt8) (hd : ∀ b, b ∈ l → isDig b.toNat = true) (hl : l.length ≤ 1000000) : ∀ (m k n : Nat), k + m = l.length → n ≤ 65537 → g74_L4 (bs l) (n : Int) (k : Int) = Ret (.int .i64 (valS (l.drop k) n : Nat)) := by
  intro m
  induction m with
  | zero =>
    intro k n hk hn
    rw [g74_L4_eq, decF (by rw [bs_size]; omega), bsel_false, List.drop_eq_nil_of_le (by omega)]; rfl
  | succ m ih =>
    intro k n hk hn
    have hk' : k < l.length := by omega
    have hb : l[k]? = some l[k] := List.getElem?_eq_getElem hk'
    have hdk := hd l[k] (List.getElem_mem hk')
    obtain ⟨d1, d2⟩ := isDig_iff.1 hdk
    rw [g74_L4_eq, decT (by rw [bs_size]; omega), bsel_true, byteX_of (b := l[k]) (by omega) (by rw [bs_get]; simpa using hb), dig_val hdk, wrs (by omega), wrap64 (n := 10 * (n : Int)) (by omega) (by omega), wrap64 (by omega) (by omega)]
    rw [show (if (65537 : Int) < 10 * (n : Int) + ((l[k].toNat - 48 : Nat) : Int) then (65537 : Int) else 10 * (n : Int) + ((l[k].toNat - 48 : Nat) : Int)) = ((min (10 * n + (l[k].toNat - 48)) 65537 : Nat) : Int) by split <;> omega]
    rw [ih (k + 1) _ (by omega) (Nat.min_le_right _ _), List.drop_eq_getElem_cons hk', valS]
theorem m74 (l : List UInt8) (hd : ∀ b, b ∈ l → isDig b.toNat = true) (hl : l.length ≤ 1000000) : SS.CC 74 [.str (bs l)] [] = Ret (.int .i64 (valS l 0 : Nat)) := by
  rw [g74_eq]; exact m74L l hd hl l.length 0 0 (by omega) (by omega)
/-! ### token -/
theorem m42L (l : List UInt8) (hl : l.length ≤ 1000000) : ∀ (m k : Nat), k + m = l.length → (∀ j c, j < k → l[j]? = some c → isW c.toNat = true) → g42_L3 (bs l) (k : Int) = g42_J5 (bs l) ((runS isW l).length : Int) := by
  intro m
  induction m with
  | zero =>
    intro k hk h
    rw [g42_L3_eq, decF (by rw [bs_size]; omega), bsel_false, run_all fun j c hc => h j c (by have := (List.getElem?_eq_some_iff.1 hc).1; omega) hc]
    rw [show k = l.length by omega]
  | succ m ih =>
    intro k hk h
    obtain ⟨b, hb⟩ : ∃ b, l[k]? = some b := ⟨l[k], List.getElem?_eq_getElem (by omega)⟩
    rw [g42_L3_eq, decT (by rw [bs_size]; omega), bsel_true, byteX_of (b := b) (by omega) (by rw [bs_get]; simpa using hb), clX_of (m71 b.toNat), vB_mk, wrs (by omega)]
    cases hw : isW b.toNat with
    | true =>
      exact ih (k + 1) (by omega) fun j c hj hc => by
        rcases Nat.lt_or_ge j k with h' | h'
        · exact h j c h' hc
        · have : j = k := by omega
          subst this; rw [hb] at hc; injection hc with hc; subst hc; exact hw
    | false =>
      rw [run_at hb h hw, bsel_false, List.length_take, Nat.min_eq_left (by omega)]
/-- The digits ahead: all of the word, or not. -/
theorem m42D (l : List UInt8) (n : Nat) (hn : n ≤ l.length) (hl : l.length ≤ 1000000) : ∀ (m k : Nat), k + m = n → (∀ j c, j < k → l[j]? = some c → isDig c.toNat = true) →
    g42_L15 (bs l) (n : Int) (k : Int) = (if n ≤ (runS isDig l).length then g42_L15 (bs l) (n : Int) (n : Int) else Ret (rd (.zero, 6))) := by
  intro m
  induction m with
  | zero =>
    intro k hk h
    have : n ≤ (runS isDig l).length := by
      have h1 : k = n := by omega
      subst h1
      rcases Nat.lt_or_ge (runS isDig l).length k with hlt | hge
      · exfalso
        have hr : (runS isDig l).length < l.length := by omega
        have hb : l[(runS isDig l).length]? = some l[(runS isDig l).length] := List.getElem?_eq_getElem hr
        have := h _ _ hlt hb
        exact absurd this (run_stop hb)
      · exact hge
    rw [if_pos this, show k = n by omega]
  | succ m ih =>
    intro k hk h
    obtain ⟨b, hb⟩ : ∃ b, l[k]? = some b := ⟨l[k], List.getElem?_eq_getElem (by omega)⟩
    rw [g42_L15_eq, decT (by omega), bsel_true, byteX_of (b := b) (by omega) (by rw [bs_get]; simpa using hb), clX_of (m73 b.toNat), vB_mk, wrs (by omega)]
    cases hw : isDig b.toNat with
    | true =>
      exact ih (k + 1) (by omega) fun j c hj hc => by
        rcases Nat.lt_or_ge j k with h' | h'
        · exact h j c h' hc
        · have : j = k := by omega
          subst this; rw [hb] at hc; injection hc with hc; subst hc; exact hw
    | false =>
      have e := run_at hb h hw
      rw [if_neg (by rw [e, List.length_take]; omega)]
      rfl
end Go.Proofs.Ytoajpgclgdhhlaa.W

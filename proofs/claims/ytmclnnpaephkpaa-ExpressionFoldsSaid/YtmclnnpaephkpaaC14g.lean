/-
  What the functions of chapter 14 answer: expressions that bytes describe.
-/
import Derived.Test.YtmclnnpaephkpaaC14e
import Derived.Test.YtmclnnpaephkpaaT14b
import Derived.Test.YtmclnnpaephkpaaPG14
namespace Go.Proofs.Ytmclnnpaephkpaa
set_option linter.unusedVariables false
set_option linter.unusedSimpArgs false
set_option linter.unnecessarySimpa false
set_option linter.unusedSectionVars false
open Go.RowKit

theorem c69 (l : List UInt8) (a b : Int) : SS.CC 69 [.ptr 0 0] [some [.sl false 1 (encB l), .int .i64 a, .int .i64 b]] = some (.int .i64 (nextS l).1, [some [.sl false 1 (encB (nextS l).2), .int .i64 a, .int .i64 b]]) := by
  rw [g69_eq]
  cases l with
  | nil => rfl
  | cons c r =>
    have hc := c.toNat_lt
    rw [show (((encB (c :: r)).length : Int) == 0) = false by simp; omega, bsel_false, lgetX_of (e := .int .u8 c.toNat) (by decide) rfl, vI_mk, chk_of (by simp; omega), wr (by omega) (by omega)]
    rfl
theorem c39 (b : Bool) : SS.CC 39 [.bool b] [] = Ret (encE (truthE b)) := by
  rw [g39_eq, g39_J5_eq, g39_J5_eq]; cases b <;> rfl
theorem h46_e (e : EX) (l : List PV) (a b : Int) (K : Int → Int → Int → List PV → List PV → Int → Int → R) : h46_0 (encE e) [some [.sl false 1 l, .int .i64 a, .int .i64 b]] K = K e.op e.val e.idx (encL e.args) l a b := by cases e; rfl
theorem encL1 (a : EX) : [encE a] = encL [a] := rfl
theorem encL2 (a b : EX) : [encE a, encE b] = encL [a, b] := rfl
theorem encL3 (a b c : EX) : [encE a, encE b, encE c] = encL [a, b, c] := rfl
def gT : Nat → Int
  | 0 => 1
  | n + 1 => 1 + 3 * gT n
theorem gT_pos : ∀ n, 1 ≤ gT n
  | 0 => by decide
  | n + 1 => by have := gT_pos n; rw [gT]; omega
theorem growS_n (vars : Int) : ∀ (lv : Nat) (k : Int) (l : List UInt8) (n : Int), n ≤ (growS vars lv k l n).n ∧ (growS vars lv k l n).n ≤ n + gT lv
  | 0, k, l, n => by
    rw [growS, gT]
    split
    · split <;> simp <;> omega
    · simp; omega
  | lv + 1, k, l, n => by
    have ih := growS_n vars lv
    have hp := gT_pos lv
    rw [growS, gT]
    have h1 := fun k : Int => ih k (nextS l).2 (n + 1)
    have h2 := fun k k' : Int => ih k' (growS vars lv k (nextS l).2 (n + 1)).l (growS vars lv k (nextS l).2 (n + 1)).n
    have h3 := fun k k' k'' : Int => ih k'' (growS vars lv k' (growS vars lv k (nextS l).2 (n + 1)).l (growS vars lv k (nextS l).2 (n + 1)).n).l (growS vars lv k' (growS vars lv k (nextS l).2 (n + 1)).l (growS vars lv k (nextS l).2 (n + 1)).n).n
    have a1 := h1 1
    have a2 := h1 2
    have b1 := h2 1 1
    have b2 := h2 2 1
    have b3 := h2 2 2
    have d1 := h3 2 1 1
    have d2 := h3 2 2 2
    split
    · split
      · split <;> simp <;> omega
      · split
        · simp only; omega
        · split
          · simp only; omega
          · simp only; omega
    · split
      · simp only; omega
      · split
        · simp only; omega
        · split
          · simp only; omega
          · simp only; omega
abbrev GH (l : List UInt8) (vars n : Int) : Objs := [some [.sl false 1 (encB l), .int .i64 vars, .int .i64 n]]
theorem c46 (vars : Int) (hv : 0 ≤ vars ∧ vars ≤ 16) : ∀ (lv : Nat) (k : Int) (l : List UInt8) (n : Int), (k = 1 ∨ k = 2) → lv ≤ 100 → 0 ≤ n → n + gT lv ≤ 1000000 →
    SS.CC 46 [.ptr 0 0, .int .i64 k, .int .i64 ((lv : Int) + 1)] (GH l vars n) = some (encE (growS vars lv k l n).e, GH (growS vars lv k l n).l vars (growS vars lv k l n).n)
  | 0, k, l, n, hk, hlv, h0, h1 => by
    have hb := nextS_bd l
    have hg := gT_pos 0
    rw [g46_eq, wr (n := n + 1) (by omega) (by omega), clH_of (c69 l vars (n + 1)), h69_0_mk, growS]
    have e1 : ∀ q : Int, Int.tmod (nextS l).1 q = (nextS l).1 % q := fun q => Int.tmod_eq_emod_of_nonneg hb.1
    have e2 : Int.tdiv (nextS l).1 8 = (nextS l).1 / 8 := Int.tdiv_eq_ediv_of_nonneg hb.1
    simp only [e1, e2, wr (n := (nextS l).1 / 8) (by omega) (by omega), wr (n := (nextS l).1 / 8 - 8) (by omega) (by omega), Int.tmod_eq_emod_of_nonneg (show 0 ≤ (nextS l).1 / 8 by omega), clX_of (c39 _), v23_e, mkE]
    rcases hk with rfl | rfl
    · by_cases q1 : (nextS l).1 % 2 = 0 <;> by_cases q2 : 0 < vars <;> simp [q1, q2, bsel_ite, chk_ite, encE_eq, encL]
      omega
    · simp [bsel_ite]
  | lv + 1, k, l, n, hk, hlv, h0, h1 => by
    have hb := nextS_bd l
    have hp := gT_pos lv
    rw [gT] at h1
    have ih := c46 vars hv lv
    have hn := growS_n vars lv
    have e1 : ∀ q : Int, Int.tmod (nextS l).1 q = (nextS l).1 % q := fun q => Int.tmod_eq_emod_of_nonneg hb.1
    have e2 : Int.tdiv (nextS l).1 8 = (nextS l).1 / 8 := Int.tdiv_eq_ediv_of_nonneg hb.1
    have i1 : ∀ k : Int, (k = 1 ∨ k = 2) → _ := fun k hk => ih k (nextS l).2 (n + 1) hk (by omega) (by omega) (by omega)
    have n1 := fun k : Int => hn k (nextS l).2 (n + 1)
    have n2 := fun k k' : Int => hn k' (growS vars lv k (nextS l).2 (n + 1)).l (growS vars lv k (nextS l).2 (n + 1)).n
    have i2 : ∀ k k' : Int, (k' = 1 ∨ k' = 2) → _ := fun k k' hk => ih k' (growS vars lv k (nextS l).2 (n + 1)).l (growS vars lv k (nextS l).2 (n + 1)).n hk (by omega) (by have := n1 k; omega) (by have := n1 k; omega)
    have i3 : ∀ k k' k'' : Int, (k'' = 1 ∨ k'' = 2) → _ := fun k k' k'' hk => ih k'' (growS vars lv k' (growS vars lv k (nextS l).2 (n + 1)).l (growS vars lv k (nextS l).2 (n + 1)).n).l (growS vars lv k' (growS vars lv k (nextS l).2 (n + 1)).l (growS vars lv k (nextS l).2 (n + 1)).n).n hk (by omega) (by have := n1 k; have := n2 k k'; omega) (by have := n1 k; have := n2 k k'; omega)
    have j11 := i1 1 (.inl rfl)
    have j12 := i1 2 (.inr rfl)
    have j211 := i2 1 1 (.inl rfl)
    have j221 := i2 2 1 (.inl rfl)
    have j222 := i2 2 2 (.inr rfl)
    have j3211 := i3 2 1 1 (.inl rfl)
    have j3222 := i3 2 2 2 (.inr rfl)
    clear i1 i2 i3 ih n1 n2 hn
    simp only [GH] at j11 j12 j211 j221 j222 j3211 j3222
    rw [g46_eq, wr (n := n + 1) (by omega) (by omega), clH_of (c69 l vars (n + 1)), h69_0_mk, growS]
    have el : IntKind.i64.wrap (((lv + 1 : Nat) : Int) + 1 - 1) = (lv : Int) + 1 := by rw [wr (by omega) (by omega)]; omega
    simp only [e1, e2, el, wr (n := (nextS l).1 / 8) (by omega) (by omega), wr (n := (nextS l).1 / 8 - 8) (by omega) (by omega), Int.tmod_eq_emod_of_nonneg (show 0 ≤ (nextS l).1 / 8 by omega), clX_of (c39 _), v23_e, mkE]
    have w3 : IntKind.i64.wrap (2 + (nextS l).1 / 8 % 3) = 2 + (nextS l).1 / 8 % 3 := wr (by omega) (by omega)
    have w4 : IntKind.i64.wrap (6 + (nextS l).1 / 8 % 4) = 6 + (nextS l).1 / 8 % 4 := wr (by omega) (by omega)
    have w2 : IntKind.i64.wrap (11 + (nextS l).1 / 8 % 2) = 11 + (nextS l).1 / 8 % 2 := wr (by omega) (by omega)
    simp only [w2, w3, w4]
    rcases hk with rfl | rfl
    · simp only [clH_of j11, clH_of j12, clH_of j211, clH_of j221, clH_of j3211, h46_e, mkE]
      by_cases q0 : 12 < n + 1 <;> by_cases q1 : (nextS l).1 % 8 < 4 <;> by_cases q2 : (nextS l).1 % 8 = 4 <;> by_cases q3 : (nextS l).1 % 8 = 5 <;> by_cases q4 : (nextS l).1 % 2 = 0 <;> by_cases q5 : 0 < vars <;>
        (first | (exfalso; omega) | (simp [q0, q1, q2, q3, q4, q5, bsel_ite, chk_ite, encE_eq, encL, show ¬ ((lv : Int) + 1 + 1 ≤ 1) by omega, show ¬ vars = 0 by omega]; done) | (simp [q0, q1, q2, q3, q4, q5, bsel_ite, chk_ite, encE_eq, encL, show ¬ ((lv : Int) + 1 + 1 ≤ 1) by omega]; done))
    · simp only [clH_of j11, clH_of j12, clH_of j211, clH_of j222, clH_of j3222, h46_e, mkE]
      by_cases q6 : lv = 0 <;> by_cases q0 : 12 < n + 1 <;> by_cases q1 : (nextS l).1 % 8 < 4 <;> by_cases q2 : (nextS l).1 % 8 = 4 <;> by_cases q3 : (nextS l).1 % 8 = 5 <;>
        (first | (exfalso; omega) | (simp [q6, q0, q1, q2, q3, bsel_ite, chk_ite, encE_eq, encL, show ¬ ((lv : Int) + 1 + 1 ≤ 1) by omega]; done) | (simp [q6, q0, q1, q2, q3, bsel_ite, chk_ite, encE_eq, encL, show ¬ ((lv : Int) + 1 + 1 ≤ 1) by omega, show ¬ ((lv : Int) + 1 + 1 ≤ 2) by omega]; done))
theorem c18 (l : List UInt8) (vars k : Int) (hl : l.length ≤ lenMax) (hv : 0 ≤ vars ∧ vars ≤ 16) (hk : k = 1 ∨ k = 2) : SS.CC 18 [.sl false 1 (encB l), .int .i64 vars, .int .i64 k] [] = Ret (encE (GrowS l vars k)) := by
  have ht : ((if (60 : Int) < ((encB l).length : Int) then (60 : Int) else ((encB l).length : Int)).toNat) = min 60 l.length := by
    rw [encB_length]; split <;> omega
  have h46 : SS.CC 46 [.ptr 0 0, .int .i64 k, .int .i64 5] [some [.sl false 1 (encB (l.take 60)), .int .i64 vars, .int .i64 0]] = _ := c46 vars hv 4 k (l.take 60) 0 hk (by omega) (by omega) (by decide)
  have htk : (encB l).take (min 60 l.length) = encB (l.take 60) := by
    unfold encB
    rw [← List.map_take]
    congr 1
    by_cases h : 60 ≤ l.length
    · rw [Nat.min_eq_left h]
    · rw [Nat.min_eq_right (by omega), List.take_length, List.take_of_length_le (by omega)]
  rw [g18_eq, chk_of (by rw [encB_length]; simp only [Bool.and_eq_true, decide_eq_true_eq]; split <;> omega), ht, htk, clH_of h46, h46_e, mkE]
  rfl
end Go.Proofs.Ytmclnnpaephkpaa

/-
  What the functions of chapter 14 answer: the statements' own bounds.
-/
import Derived.Test.YtmclnnpaephkpaaC14y
import Derived.Test.YtmclnnpaephkpaaC14f
import Derived.Test.YtmclnnpaephkpaaT14y
namespace Go.Proofs.Ytmclnnpaephkpaa
set_option linter.unusedVariables false
set_option linter.unusedSimpArgs false
set_option linter.unnecessarySimpa false
set_option linter.unusedSectionVars false
open Go.RowKit

def Br (o : Option (Int × Int)) : R := Ret (.tuple [.int .i64 (o.getD (0, 0)).1, .int .i64 (o.getD (0, 0)).2, .bool o.isSome])
theorem lget2 (a b c : Int) (l : List Int) (K : PV → R) : lgetX (encI (a :: b :: c :: l)) 2 K = K (.int .i64 c) := lgetX_of (by decide) rfl
theorem j24 (a b : Bool) : g24_J26 a b = Br (some (bitS b, bitS (!a))) := by
  rw [g24_J26_eq, clX_of (c53 b), vI_mk, clX_of (c53 (!a)), vI_mk]; rfl
/-- One corner. -/
def cor (lo hi : Int) (first : Bool) (v : Int) (K : Int → Int → R) : R :=
  if largeS v 1073741824 then Br none else K (if v < (if first then v else lo) then v else (if first then v else lo)) (if v > (if first then v else hi) then v else (if first then v else hi))
theorem j36 (o x y : Int) (c : List PV) (ns : List Int) (h : AppOK o ns) (lo hi : Int) (l7 l8 : List PV) (first : Bool) (i : Nat) (hi4 : i < 4) :
    g24_J36 o x y c (encI ns) lo hi l7 l8 first i = cor lo hi first (applyS o ns) fun a b => g24_L29 o x y c a b false ((i + 1 : Nat) : Int) l7 l8 := by
  rw [g24_J36_eq, clX_of (c51 o ns h), vI_mk, clX_of (c19 _ _ (by decide) (by decide)), vB_mk]
  unfold cor
  cases largeS (applyS o ns) 1073741824
  · rw [bsel_false]
    cases first
    · rw [bsel_false, g24_J41_eq, wrs (by omega)]; simp
    · rw [bsel_true, g24_J41_eq, wrs (by omega)]; simp
  · rfl
theorem first_ok (lo hi : Int) (v : Int) (K : Int → Int → R) : cor lo hi true v K = if largeS v 1073741824 then Br none else K v v := by
  unfold cor; simp
/-- All corners of two numbers. -/
theorem l24b (o x y : Int) (c : List PV) (a b : Int × Int) (h0 : AppOK o [a.1, b.1]) (h1 : AppOK o [a.2, b.1]) (h2 : AppOK o [a.1, b.2]) (h3 : AppOK o [a.2, b.2]) (lo hi : Int) :
    g24_L29 o x y c lo hi true 0 (encI [a.1, b.1]) (encI [a.2, b.2]) = cor lo hi true (applyS o [a.1, b.1]) fun l h => cor l h false (applyS o [a.2, b.1]) fun l h => cor l h false (applyS o [a.1, b.2]) fun l h => cor l h false (applyS o [a.2, b.2]) fun l h => Br (some (l, h)) := by
  have s0 : ∀ (lo hi : Int) (f : Bool), g24_L29 o x y c lo hi f ((0 : Nat) : Int) (encI [a.1, b.1]) (encI [a.2, b.2]) = cor lo hi f (applyS o [a.1, b.1]) fun l h => g24_L29 o x y c l h false ((1 : Nat) : Int) (encI [a.1, b.1]) (encI [a.2, b.2]) := fun lo hi f => by
    have := j36 o x y c [a.1, b.1] h0 lo hi (encI [a.1, b.1]) (encI [a.2, b.2]) f 0 (by decide)
    rw [g24_L29_eq, decT (by decide), bsel_true, lget0, vI_mk, show ((IntKind.i64.wrap (BitVec.ofInt 64 ((0 : Nat) : Int) &&& BitVec.ofInt 64 1).toNat) == 1) = false by decide, bsel_false, g24_J34_eq, show (((encI [a.1, b.1]).length : Int) == 2) = true from rfl, bsel_true, lget1, vI_mk, lget1, vI_mk, lgetX_of (e := .int .i64 b.1) (by decide) rfl, vI_mk, chk_of (decT (by simp [LIM]))]
    exact this
  have s1 : ∀ (lo hi : Int) (f : Bool), g24_L29 o x y c lo hi f ((1 : Nat) : Int) (encI [a.1, b.1]) (encI [a.2, b.2]) = cor lo hi f (applyS o [a.2, b.1]) fun l h => g24_L29 o x y c l h false ((2 : Nat) : Int) (encI [a.1, b.1]) (encI [a.2, b.2]) := fun lo hi f => by
    have := j36 o x y c [a.2, b.1] h1 lo hi (encI [a.1, b.1]) (encI [a.2, b.2]) f 1 (by decide)
    rw [g24_L29_eq, decT (by decide), bsel_true, lget0, vI_mk, show ((IntKind.i64.wrap (BitVec.ofInt 64 ((1 : Nat) : Int) &&& BitVec.ofInt 64 1).toNat) == 1) = true by decide, bsel_true, lget0, vI_mk, g24_J34_eq, show (((encI [a.1, b.1]).length : Int) == 2) = true from rfl, bsel_true, lget1, vI_mk, lget1, vI_mk, lgetX_of (e := .int .i64 b.1) (by decide) rfl, vI_mk, chk_of (decT (by simp [LIM]))]
    exact this
  have s2 : ∀ (lo hi : Int) (f : Bool), g24_L29 o x y c lo hi f ((2 : Nat) : Int) (encI [a.1, b.1]) (encI [a.2, b.2]) = cor lo hi f (applyS o [a.1, b.2]) fun l h => g24_L29 o x y c l h false ((3 : Nat) : Int) (encI [a.1, b.1]) (encI [a.2, b.2]) := fun lo hi f => by
    have := j36 o x y c [a.1, b.2] h2 lo hi (encI [a.1, b.1]) (encI [a.2, b.2]) f 2 (by decide)
    rw [g24_L29_eq, decT (by decide), bsel_true, lget0, vI_mk, show ((IntKind.i64.wrap (BitVec.ofInt 64 ((2 : Nat) : Int) &&& BitVec.ofInt 64 1).toNat) == 1) = false by decide, bsel_false, g24_J34_eq, show (((encI [a.1, b.1]).length : Int) == 2) = true from rfl, bsel_true, lget1, vI_mk, lget1, vI_mk, lgetX_of (e := .int .i64 b.2) (by decide) rfl, vI_mk, chk_of (decT (by simp [LIM]))]
    exact this
  have s3 : ∀ (lo hi : Int) (f : Bool), g24_L29 o x y c lo hi f ((3 : Nat) : Int) (encI [a.1, b.1]) (encI [a.2, b.2]) = cor lo hi f (applyS o [a.2, b.2]) fun l h => g24_L29 o x y c l h false ((4 : Nat) : Int) (encI [a.1, b.1]) (encI [a.2, b.2]) := fun lo hi f => by
    have := j36 o x y c [a.2, b.2] h3 lo hi (encI [a.1, b.1]) (encI [a.2, b.2]) f 3 (by decide)
    rw [g24_L29_eq, decT (by decide), bsel_true, lget0, vI_mk, show ((IntKind.i64.wrap (BitVec.ofInt 64 ((3 : Nat) : Int) &&& BitVec.ofInt 64 1).toNat) == 1) = true by decide, bsel_true, lget0, vI_mk, g24_J34_eq, show (((encI [a.1, b.1]).length : Int) == 2) = true from rfl, bsel_true, lget1, vI_mk, lget1, vI_mk, lgetX_of (e := .int .i64 b.2) (by decide) rfl, vI_mk, chk_of (decT (by simp [LIM]))]
    exact this
  have s4 : ∀ (lo hi : Int) (f : Bool), g24_L29 o x y c lo hi f ((4 : Nat) : Int) (encI [a.1, b.1]) (encI [a.2, b.2]) = Br (some (lo, hi)) := fun lo hi f => by
    rw [g24_L29_eq, decF (by decide), bsel_false]; rfl
  have := s0 lo hi true
  simp only [s1, s2, s3, s4] at this
  exact this
theorem l24a (o x y : Int) (c : List PV) (a : Int × Int) (h0 : AppOK o [a.1]) (h1 : AppOK o [a.2]) (lo hi : Int) :
    g24_L29 o x y c lo hi true 0 (encI [a.1]) (encI [a.2]) = cor lo hi true (applyS o [a.1]) fun l h => cor l h false (applyS o [a.2]) fun l h => cor l h false (applyS o [a.1]) fun l h => cor l h false (applyS o [a.2]) fun l h => Br (some (l, h)) := by
  have se : ∀ (i : Nat) (lo hi : Int) (f : Bool), i < 4 → ((IntKind.i64.wrap (BitVec.ofInt 64 (i : Int) &&& BitVec.ofInt 64 1).toNat) == 1) = false → g24_L29 o x y c lo hi f (i : Int) (encI [a.1]) (encI [a.2]) = cor lo hi f (applyS o [a.1]) fun l h => g24_L29 o x y c l h false ((i + 1 : Nat) : Int) (encI [a.1]) (encI [a.2]) := fun i lo hi f hi4 he => by
    have := j36 o x y c [a.1] h0 lo hi (encI [a.1]) (encI [a.2]) f i hi4
    rw [g24_L29_eq, decT (by omega), bsel_true, lget0, vI_mk, he, bsel_false, g24_J34_eq, show (((encI [a.1]).length : Int) == 2) = false from rfl, bsel_false]
    exact this
  have so : ∀ (i : Nat) (lo hi : Int) (f : Bool), i < 4 → ((IntKind.i64.wrap (BitVec.ofInt 64 (i : Int) &&& BitVec.ofInt 64 1).toNat) == 1) = true → g24_L29 o x y c lo hi f (i : Int) (encI [a.1]) (encI [a.2]) = cor lo hi f (applyS o [a.2]) fun l h => g24_L29 o x y c l h false ((i + 1 : Nat) : Int) (encI [a.1]) (encI [a.2]) := fun i lo hi f hi4 he => by
    have := j36 o x y c [a.2] h1 lo hi (encI [a.1]) (encI [a.2]) f i hi4
    rw [g24_L29_eq, decT (by omega), bsel_true, lget0, vI_mk, he, bsel_true, lget0, vI_mk, g24_J34_eq, show (((encI [a.1]).length : Int) == 2) = false from rfl, bsel_false]
    exact this
  have s0 := fun lo hi f => se 0 lo hi f (by decide) (by decide)
  have s1 := fun lo hi f => so 1 lo hi f (by decide) (by decide)
  have s2 := fun lo hi f => se 2 lo hi f (by decide) (by decide)
  have s3 := fun lo hi f => so 3 lo hi f (by decide) (by decide)
  have s4 : ∀ (lo hi : Int) (f : Bool), g24_L29 o x y c lo hi f ((3 + 1 : Nat) : Int) (encI [a.1]) (encI [a.2]) = Br (some (lo, hi)) := fun lo hi f => by
    rw [g24_L29_eq, decF (by decide), bsel_false]; rfl
  refine (s0 lo hi true).trans ?_
  simp only [Nat.zero_add, Nat.reduceAdd] at *
  simp only [s1, s2, s3, s4]
theorem spanOut_some {l h : Int} (h1 : -1073741824 ≤ l) (h2 : l ≤ 1073741824) (h3 : -1073741824 ≤ h) (h4 : h ≤ 1073741824) : spanOut l h = some (l, h) := by
  unfold spanOut
  rw [(largeS_false l _).2 (by omega), (largeS_false h _).2 (by omega)]; rfl
theorem spanOut_none {l h : Int} (hc : 1073741824 < l ∨ l < -1073741824 ∨ 1073741824 < h ∨ h < -1073741824) : spanOut l h = none := by
  unfold spanOut
  have hl : ∀ v, largeS v 1073741824 = true ↔ 1073741824 < v ∨ v < -1073741824 := fun v => by simp [largeS]
  rw [if_pos]
  rw [Bool.or_eq_true, hl, hl]; omega
theorem cors {v0 v1 v2 v3 l h : Int} (lo hi : Int) (el : l = min (min v0 v1) (min v2 v3)) (eh : h = max (max v0 v1) (max v2 v3)) :
    (cor lo hi true v0 fun l h => cor l h false v1 fun l h => cor l h false v2 fun l h => cor l h false v3 fun l h => Br (some (l, h))) = Br (spanOut l h) := by
  have hl : ∀ v, largeS v 1073741824 = true ↔ 1073741824 < v ∨ v < -1073741824 := fun v => by simp [largeS]
  rw [first_ok]
  unfold cor
  simp only [hl, Bool.false_eq_true, if_false]
  by_cases c0 : 1073741824 < v0 ∨ v0 < -1073741824
  · rw [if_pos c0, spanOut_none (by omega)]
  · rw [if_neg c0]
    by_cases c1 : 1073741824 < v1 ∨ v1 < -1073741824
    · rw [if_pos c1, spanOut_none (by omega)]
    · rw [if_neg c1]
      by_cases c2 : 1073741824 < v2 ∨ v2 < -1073741824
      · rw [if_pos c2, spanOut_none (by omega)]
      · rw [if_neg c2]
        by_cases c3 : 1073741824 < v3 ∨ v3 < -1073741824
        · rw [if_pos c3, spanOut_none (by omega)]
        · rw [if_neg c3, spanOut_some (by omega) (by omega) (by omega) (by omega)]
          subst el; subst eh
          congr 3
          · omega
          · omega
theorem bit_lt (a b : Int) : bitS (decide (a < b)) = if a < b then 1 else 0 := by by_cases h : a < b <;> simp [bitS, h]
theorem bit_le (a b : Int) : bitS (decide (a ≤ b)) = if a ≤ b then 1 else 0 := by by_cases h : a ≤ b <;> simp [bitS, h]
end Go.Proofs.Ytmclnnpaephkpaa

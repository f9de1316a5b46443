/-
  What the functions of chapter 14 answer: bounds.
-/
import Derived.Test.YtmclnnpaephkpaaC14e
import Derived.Test.YtmclnnpaephkpaaT14b
import Derived.Test.YtmclnnpaephkpaaT14x
import Derived.Test.YtmclnnpaephkpaaPB14
namespace Go.Proofs.Ytmclnnpaephkpaa
set_option linter.unusedVariables false
set_option linter.unusedSimpArgs false
set_option linter.unnecessarySimpa false
set_option linter.unusedSectionVars false
open Go.RowKit

def encP (p : Int × Int) : PV := .agg [.int .i64 p.1, .int .i64 p.2]
theorem v87_p (p : Int × Int) (K : Int → Int → R) : v87 (encP p) K = K p.1 p.2 := rfl
theorem l73 (ns : List Int) (hl : ns.length ≤ 1000000) : ∀ (m k : Nat) (c : Int), k + m = ns.length → g73_L6 (encI ns) c k = Ret (.int .i64 ((ns.drop k).foldl (fun a b => if b < a then b else a) c))
  | 0, k, c, h => by
    rw [g73_L6_eq, decF (by simp; omega), bsel_false, List.drop_of_length_le (by omega)]; rfl
  | m + 1, k, c, h => by
    obtain ⟨y, hy⟩ := get_lt (show k < ns.length by omega)
    rw [g73_L6_eq, decT (by simp; omega), bsel_true, lget_encI hy, vI_mk, wrs (by omega), l73 ns hl m (k + 1) _ (by omega), drop_cons hy]; rfl
theorem c73 (n : Int) (ns : List Int) (hl : ns.length ≤ 100000) : SS.CC 73 [.sl false 1 (encI (n :: ns))] [] = Ret (.int .i64 (ns.foldl (fun a b => if b < a then b else a) n)) := by
  rw [g73_eq, decF (by simp; omega), bsel_false, lget0, vI_mk]
  exact l73 (n :: ns) (by simp; omega) ns.length 1 n (by simp; omega)
theorem l74 (ns : List Int) (hl : ns.length ≤ 1000000) : ∀ (m k : Nat) (c : Int), k + m = ns.length → g74_L6 (encI ns) c k = Ret (.int .i64 ((ns.drop k).foldl (fun a b => if b > a then b else a) c))
  | 0, k, c, h => by
    rw [g74_L6_eq, decF (by simp; omega), bsel_false, List.drop_of_length_le (by omega)]; rfl
  | m + 1, k, c, h => by
    obtain ⟨y, hy⟩ := get_lt (show k < ns.length by omega)
    rw [g74_L6_eq, decT (by simp; omega), bsel_true, lget_encI hy, vI_mk, wrs (by omega), l74 ns hl m (k + 1) _ (by omega), drop_cons hy]; rfl
theorem c74 (n : Int) (ns : List Int) (hl : ns.length ≤ 100000) : SS.CC 74 [.sl false 1 (encI (n :: ns))] [] = Ret (.int .i64 (ns.foldl (fun a b => if b > a then b else a) n)) := by
  rw [g74_eq, decF (by simp; omega), bsel_false, lget0, vI_mk]
  exact l74 (n :: ns) (by simp; omega) ns.length 1 n (by simp; omega)
theorem j72 (a b : Bool) : g72_J13 a b = Ret (encP (bitS b, bitS (!a))) := by
  rw [g72_J13_eq, clX_of (c80 b), vI_mk, clX_of (c80 (!a)), vI_mk]; rfl
theorem c72 (o : Int) (a b : Int × Int) (h : 6 ≤ o ∧ o ≤ 9) : SS.CC 72 [.int .i64 o, encP a, encP b] [] = Ret (encP (cmpS o a b)) := by
  obtain ⟨a1, a2⟩ := a
  obtain ⟨b1, b2⟩ := b
  have e : ((a1, a2) == (b1, b2)) = ((a1 == b1) && (a2 == b2)) := rfl
  unfold encP
  rw [g72_eq]
  simp only [j72, bsel_ite, Bool.and_true]
  unfold cmpS
  simp only [e]
  have : o = 6 ∨ o = 7 ∨ o = 8 ∨ o = 9 := by omega
  rcases this with rfl | rfl | rfl | rfl
  · cases h1 : (a1 == a2) <;> by_cases h2 : a2 < b1 <;> simp [h1, h2, encP]
  · cases h1 : (a1 == a2) <;> by_cases h2 : a2 < b1 <;> simp [h1, h2, encP]
  · simp [encP]
  · simp [encP]
theorem q0 (a : Int × Int) (l : List (Int × Int)) (K : PV → R) : lgetX ((a :: l).map encP) 0 K = K (encP a) := lgetX_of (by decide) rfl
theorem q1 (a b : Int × Int) (l : List (Int × Int)) (K : PV → R) : lgetX ((a :: b :: l).map encP) 1 K = K (encP b) := lgetX_of (by decide) rfl
theorem q2 (a b c : Int × Int) (l : List (Int × Int)) (K : PV → R) : lgetX ((a :: b :: c :: l).map encP) 2 K = K (encP c) := lgetX_of (by decide) rfl
def Bd (o : Option (Int × Int)) (r : R) : Prop := ∃ p : Int × Int, r = Ret (.tuple [encP p, .bool o.isSome]) ∧ ∀ q, o = some q → p = q
theorem bd_some (p : Int × Int) : Bd (some p) (Ret (.tuple [encP p, .bool true])) := ⟨p, rfl, fun _ h => by cases h; rfl⟩
theorem j43 (n m : Int) (ns : List Int) (hl : ns.length ≤ 1000) (l h : Int) (e1 : (m :: ns).foldl (fun a b => if b < a then b else a) n = l) (e2 : (m :: ns).foldl (fun a b => if b > a then b else a) n = h) : Bd (spanOut l h) (g52_J43 (encI (n :: m :: ns))) := by
  rw [g52_J43_eq, clX_of (c73 n (m :: ns) (by simp; omega)), vI_mk, clX_of (c74 n (m :: ns) (by simp; omega)), vI_mk, e1, e2, clX_of (c49 l _ (by decide) (by decide)), vB_mk]
  unfold spanOut
  cases hl1 : largeS l 1073741824 with
  | true =>
    simp only [Bool.not_true, bsel_false, Bool.true_or, if_true]
    exact ⟨(l, h), rfl, fun _ e => by cases e⟩
  | false =>
    simp only [Bool.not_false, bsel_true, Bool.false_or]
    rw [clX_of (c49 h _ (by decide) (by decide)), vB_mk]
    cases largeS h 1073741824
    · exact bd_some (l, h)
    · exact ⟨(l, h), rfl, fun _ e => by cases e⟩
theorem boundsL_snoc (vs : List VT) : ∀ (l : List EX) (k : Nat) (y : EX) (ns : List (Int × Int)) (p : Int × Int), l[k]? = some y → boundsL vs (l.take k) = some ns → boundsE vs y = some p → boundsL vs (l.take (k + 1)) = some (ns ++ [p])
  | [], k, y, ns, p, h, _, _ => by simp at h
  | a :: l, 0, y, ns, p, h, h1, h2 => by
    simp at h; subst h
    simp [boundsL] at h1 ⊢
    subst h1
    simp [h2]
  | a :: l, k + 1, y, ns, p, h, h1, h2 => by
    simp only [List.take_succ_cons, boundsL] at h1 ⊢
    cases ha : boundsE vs a with
    | none => simp [ha] at h1
    | some q =>
      simp only [ha] at h1 ⊢
      cases hb : boundsL vs (l.take k) with
      | none => simp [hb] at h1
      | some ms =>
        simp [hb] at h1
        subst h1
        rw [boundsL_snoc vs l k y ms p (by simpa using h) hb h2]; rfl
theorem boundsL_fail (vs : List VT) : ∀ (l : List EX) (y : EX), y ∈ l → boundsE vs y = none → boundsL vs l = none
  | a :: l, y, hy, h => by
    rw [boundsL]
    rcases List.mem_cons.1 hy with rfl | hy
    · rw [h]
    · rw [boundsL_fail vs l y hy h]
      cases boundsE vs a <;> rfl
theorem boundsL_len (vs : List VT) : ∀ (l : List EX) (ns : List (Int × Int)), boundsL vs l = some ns → ns.length = l.length
  | [], ns, h => by rw [boundsL] at h; cases h; rfl
  | a :: l, ns, h => by
    rw [boundsL] at h
    cases ha : boundsE vs a with
    | none => simp [ha] at h
    | some q =>
      simp only [ha] at h
      cases hb : boundsL vs l with
      | none => simp [hb] at h
      | some ms =>
        simp [hb] at h
        subst h
        simp [boundsL_len vs l ms hb]
def andB (a b : Int) : Int := IntKind.i64.wrap (BitVec.ofInt 64 a &&& BitVec.ofInt 64 b).toNat
def orB (a b : Int) : Int := IntKind.i64.wrap (BitVec.ofInt 64 a ||| BitVec.ofInt 64 b).toNat
theorem andB_of {a b : Int} (ha : a = 0 ∨ a = 1) (hb : b = 0 ∨ b = 1) : andB a b = a * b := by
  rcases ha with rfl | rfl <;> rcases hb with rfl | rfl <;> rfl
theorem orB_of {a b : Int} (ha : a = 0 ∨ a = 1) (hb : b = 0 ∨ b = 1) : orB a b = max a b := by
  rcases ha with rfl | rfl <;> rcases hb with rfl | rfl <;> rfl
theorem minE (a b : Int) : (if b < a then b else a) = min a b := by omega
theorem maxE (a b : Int) : (if b > a then b else a) = max a b := by omega
end Go.Proofs.Ytmclnnpaephkpaa

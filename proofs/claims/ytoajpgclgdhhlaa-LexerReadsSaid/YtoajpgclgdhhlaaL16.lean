/-
  Words for the lexer: bytes as lists, classes of bytes, the contracts of the small functions.
-/
import Derived.Test.YtoajpgclgdhhlaaT16a
namespace Go.Proofs.Ytoajpgclgdhhlaa
set_option linter.unusedVariables false
set_option linter.unusedSimpArgs false
set_option linter.unnecessarySimpa false
set_option linter.unusedSectionVars false
open Go.RowKit
abbrev Ret (p : PV) : R := some (p, [])
theorem decT {p : Prop} [Decidable p] (h : p) : decide p = true := by simp [h]
theorem decF {p : Prop} [Decidable p] (h : ¬ p) : decide p = false := by simp [h]
def bs (l : List UInt8) : ByteArray := ⟨l.toArray⟩
@[simp] theorem bs_size (l : List UInt8) : (bs l).size = l.length := by simp [bs, ByteArray.size]
theorem bs_get (l : List UInt8) (i : Nat) : (bs l)[i]? = l[i]? := by
  by_cases h : i < l.length
  · rw [List.getElem?_eq_getElem h]
    have : i < (bs l).size := by simpa using h
    rw [getElem?_pos (bs l) i this]
    rfl
  · rw [List.getElem?_eq_none (by omega), getElem?_neg (bs l) i (by simpa using h)]
theorem bs_toList (l : List UInt8) : (bs l).toList = l := by
  rw [ByteArray.toList_eq]
  rfl
theorem bs_extract (l : List UInt8) (a b : Nat) : (bs l).extract a b = bs ((l.drop a).take (b - a)) := by
  apply ByteArray.ext
  rw [ByteArray.data_extract]
  simp [bs, List.extract]
theorem bs_data (s : ByteArray) : bs s.data.toList = s := by
  apply ByteArray.ext
  simp [bs]
def isLet (n : Nat) : Bool := (decide (97 ≤ n) && decide (n ≤ 122)) || ((decide (65 ≤ n) && decide (n ≤ 90)) || n == 95)
def isDig (n : Nat) : Bool := decide (48 ≤ n) && decide (n ≤ 57)
def isW (n : Nat) : Bool := isLet n || isDig n
def isBl (n : Nat) : Bool := n == 32 || (n == 9 || (n == 13 || n == 10))
theorem beqN (n k : Nat) : ((n : Int) == (k : Int)) = (n == k) := by
  rw [Bool.eq_iff_iff, beq_iff_eq, beq_iff_eq]; omega
theorem leN (k n : Nat) : decide ((k : Int) ≤ (n : Int)) = decide (k ≤ n) := by
  by_cases h : k ≤ n
  · rw [decT h, decT (by omega)]
  · rw [decF h, decF (by omega)]
theorem c78 (n : Nat) : SS.CC 78 [.int .u8 n] [] = Ret (.bool (isLet n)) := by
  rw [g78_eq, show decide ((97 : Int) ≤ n) = decide (97 ≤ n) from leN 97 n, show decide ((n : Int) ≤ 122) = decide (n ≤ 122) from leN n 122, show decide ((65 : Int) ≤ n) = decide (65 ≤ n) from leN 65 n, show decide ((n : Int) ≤ 90) = decide (n ≤ 90) from leN n 90,
    show ((n : Int) == 95) = (n == 95) from beqN n 95]
  simp only [bsel_ite, isLet]
  cases decide (97 ≤ n) <;> cases decide (n ≤ 122) <;> cases decide (65 ≤ n) <;> cases decide (n ≤ 90) <;> rfl
theorem c80 (n : Nat) : SS.CC 80 [.int .u8 n] [] = Ret (.bool (isDig n)) := by
  rw [g80_eq, show decide ((48 : Int) ≤ n) = decide (48 ≤ n) from leN 48 n, show decide ((n : Int) ≤ 57) = decide (n ≤ 57) from leN n 57]
  simp only [bsel_ite, isDig]
  cases decide (48 ≤ n) <;> cases decide (n ≤ 57) <;> rfl
theorem c91 (n : Nat) : SS.CC 91 [.int .u8 n] [] = Ret (.bool (isW n)) := by
  rw [g91_eq, clX_of (c78 n), vB_mk, clX_of (c80 n), vB_mk, bsel_ite, isW]
  cases isLet n <;> rfl
theorem c75 (n : Nat) : SS.CC 75 [.int .u8 n] [] = Ret (.bool (isBl n)) := by
  rw [g75_eq, show ((n : Int) == 32) = (n == 32) from beqN n 32, show ((n : Int) == 9) = (n == 9) from beqN n 9, show ((n : Int) == 13) = (n == 13) from beqN n 13, show ((n : Int) == 10) = (n == 10) from beqN n 10]
  simp only [bsel_ite, isBl]
  cases n == 32 <;> cases n == 9 <;> cases n == 13 <;> rfl
theorem wrs {k : Nat} (h : k < 1000000000000000) : IntKind.i64.wrap ((k : Int) + 1) = ((k + 1 : Nat) : Int) := by rw [wrap64 (by omega) (by omega)]; omega
/-- The longest beginning with bytes of a class. -/
def runS (p : Nat → Bool) (l : List UInt8) : List UInt8 := l.takeWhile fun b => p b.toNat
theorem runS_le (p : Nat → Bool) (l : List UInt8) : (runS p l).length ≤ l.length := (List.takeWhile_sublist _).length_le
theorem run_at {p : Nat → Bool} {l : List UInt8} : ∀ {k : Nat} {b : UInt8}, l[k]? = some b → (∀ j c, j < k → l[j]? = some c → p c.toNat = true) → p b.toNat = false → runS p l = l.take k := by
  induction l with
  | nil => intro k b h; simp at h
  | cons a l ih =>
    intro k b h h1 h2
    cases k with
    | zero => simp at h; subst h; simp [runS, List.takeWhile_cons, h2]
    | succ k =>
      have ha := h1 0 a (by omega) (by simp)
      have := ih (k := k) (b := b) (by simpa using h) (fun j c hj hc => h1 (j + 1) c (by omega) (by simpa using hc)) h2
      simp only [runS, List.takeWhile_cons, ha, if_true, List.take_succ_cons]
      rw [← this]; rfl
theorem run_all {p : Nat → Bool} {l : List UInt8} (h : ∀ (j : Nat) c, l[j]? = some c → p c.toNat = true) : runS p l = l := by
  induction l with
  | nil => rfl
  | cons a l ih =>
    have ha := h 0 a (by simp)
    have := ih fun j c hc => h (j + 1) c (by simpa using hc)
    unfold runS at *
    rw [List.takeWhile_cons, ha, if_pos rfl, this]
theorem c90 (l : List UInt8) (hl : l.length ≤ 1000000) : SS.CC 90 [.str (bs l), .func (.func 91) [] []] [] = Ret (.str (bs (runS isW l))) := by
  rw [g90_eq]
  have key : ∀ (m k : Nat), k + m = l.length → (∀ j c, j < k → l[j]? = some c → isW c.toNat = true) → g90_L3 (bs l) (k : Int) = Ret (.str (bs (runS isW l))) := by
    intro m
    induction m with
    | zero =>
      intro k hk h
      rw [g90_L3_eq, decF (by rw [bs_size]; omega), bsel_false]
      rw [run_all fun j c hc => h j c (by have := (List.getElem?_eq_some_iff.1 hc).1; omega) hc]
    | succ m ih =>
      intro k hk h
      obtain ⟨b, hb⟩ : ∃ b, l[k]? = some b := ⟨l[k], List.getElem?_eq_getElem (by omega)⟩
      rw [g90_L3_eq, decT (by rw [bs_size]; omega), bsel_true, byteX_of (b := b) (by omega) (by rw [bs_get]; simpa using hb), clX_of (c91 b.toNat), vB_mk, wrs (by omega)]
      cases hw : isW b.toNat with
      | true =>
        exact ih (k + 1) (by omega) fun j c hj hc => by
          rcases Nat.lt_or_ge j k with h' | h'
          · exact h j c h' hc
          · have : j = k := by omega
            subst this; rw [hb] at hc; injection hc with hc; subst hc; exact hw
      | false =>
        rw [run_at hb h hw]
        simp only [Bool.not_false, bsel_true]
        rw [chk_of (by simp; omega), bs_extract]
        simp
  exact key l.length 0 (by omega) (by omega)
theorem c90d (l : List UInt8) (hl : l.length ≤ 1000000) : SS.CC 90 [.str (bs l), .func (.func 80) [] []] [] = Ret (.str (bs (runS isDig l))) := by
  rw [g90_1i_eq]
  have key : ∀ (m k : Nat), k + m = l.length → (∀ j c, j < k → l[j]? = some c → isDig c.toNat = true) → g90_1i_L3 (bs l) (k : Int) = Ret (.str (bs (runS isDig l))) := by
    intro m
    induction m with
    | zero =>
      intro k hk h
      rw [g90_1i_L3_eq, decF (by rw [bs_size]; omega), bsel_false]
      rw [run_all fun j c hc => h j c (by have := (List.getElem?_eq_some_iff.1 hc).1; omega) hc]
    | succ m ih =>
      intro k hk h
      obtain ⟨b, hb⟩ : ∃ b, l[k]? = some b := ⟨l[k], List.getElem?_eq_getElem (by omega)⟩
      rw [g90_1i_L3_eq, decT (by rw [bs_size]; omega), bsel_true, byteX_of (b := b) (by omega) (by rw [bs_get]; simpa using hb), clX_of (c80 b.toNat), vB_mk, wrs (by omega)]
      cases hw : isDig b.toNat with
      | true =>
        exact ih (k + 1) (by omega) fun j c hj hc => by
          rcases Nat.lt_or_ge j k with h' | h'
          · exact h j c h' hc
          · have : j = k := by omega
            subst this; rw [hb] at hc; injection hc with hc; subst hc; exact hw
      | false =>
        rw [run_at hb h hw]
        simp only [Bool.not_false, bsel_true]
        rw [chk_of (by simp; omega), bs_extract]
        simp
  exact key l.length 0 (by omega) (by omega)
end Go.Proofs.Ytoajpgclgdhhlaa

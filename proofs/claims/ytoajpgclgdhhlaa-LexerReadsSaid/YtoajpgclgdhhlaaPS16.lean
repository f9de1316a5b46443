/-
  The tokens of a text, plainly.
-/
import Derived.Test.YtoajpgclgdhhlaaC16a
namespace Go.Proofs.Ytoajpgclgdhhlaa
set_option linter.unusedVariables false
set_option linter.unusedSimpArgs false
set_option linter.unnecessarySimpa false
set_option linter.unusedSectionVars false
open Go.RowKit
/-- The line, and where it starts, behind bytes. -/
def nlS : List UInt8 → Nat → Nat × Nat → Nat × Nat
  | [], _, p => p
  | b :: l, i, p => nlS l (i + 1) (if b = 10 then (p.1 + 1, i + 1) else p)
def readS (l : List UInt8) : Tok × Int := match l with
  | [] => symbolS []
  | b :: l => if isDig b.toNat then numberS (b :: l) else if isLet b.toNat then wordS (b :: l) else symbolS (b :: l)
inductive ScanR where
  | ok (ts : List Tok)
  | err (line col e : Int)
def Tok.at (t : Tok) (line col : Int) : Tok := { t with line := line, col := col }
def scanS : Nat → List UInt8 → Nat → Nat → Nat → List Tok → ScanR
  | 0, _, _, _, _, _ => .err 0 0 0
  | f + 1, rest, i, line, start, acc =>
    let g := skipS false rest
    let p := nlS (rest.take g) i (line, start)
    match rest.drop g with
    | [] => .ok (acc ++ [(⟨4, [], 0, (p.1 : Nat), ((i + g - p.2 + 1 : Nat) : Int)⟩ : Tok)])
    | b :: r =>
      if (readS (b :: r)).2 = 0 then scanS f ((b :: r).drop (readS (b :: r)).1.text.length) (i + g + (readS (b :: r)).1.text.length) p.1 p.2 (acc ++ [(readS (b :: r)).1.at (p.1 : Nat) ((i + g - p.2 + 1 : Nat) : Int)])
      else .err (p.1 : Nat) ((i + g - p.2 + 1 : Nat) : Int) (readS (b :: r)).2
theorem skip_le : ∀ (c : Bool) (l : List UInt8), skipS c l ≤ l.length
  | _, [] => by cases ‹Bool› <;> simp [skipS]
  | true, b :: l => by
    have h1 := skip_le false l
    have h2 := skip_le true l
    rw [skipS]; split <;> simp <;> omega
  | false, b :: l => by
    have h1 := skip_le false l
    have h2 := skip_le true l
    rw [skipS]; split
    · simp; omega
    · split <;> simp <;> omega
theorem nl_ge : ∀ (l : List UInt8) (i : Nat) (p : Nat × Nat), p.2 ≤ i → (nlS l i p).2 ≤ i + l.length ∧ p.1 ≤ (nlS l i p).1 ∧ (nlS l i p).1 ≤ p.1 + l.length
  | [], i, p, h => by simp [nlS, h]
  | b :: l, i, p, h => by
    rw [nlS]
    split
    · have := nl_ge l (i + 1) (p.1 + 1, i + 1) (by simp)
      simp only [List.length_cons] at *; omega
    · have := nl_ge l (i + 1) p (by omega)
      simp only [List.length_cons]; omega
theorem run_pos {p : Nat → Bool} {b : UInt8} {l : List UInt8} (h : p b.toNat = true) : 0 < (runS p (b :: l)).length := by
  unfold runS; rw [List.takeWhile_cons, h]; simp
theorem symOf_mem {l x : List UInt8} (h : symOf l = some x) : x ∈ symsL ∧ x.isPrefixOf l = true := by
  unfold symOf at h
  exact ⟨List.mem_of_find?_eq_some h, by have := List.find?_some h; simpa using this⟩
theorem syms_pos : ∀ x ∈ symsL, 0 < x.length ∧ x.length ≤ 2 := by decide
theorem pre_len : ∀ {x l : List UInt8}, x.isPrefixOf l = true → x.length ≤ l.length
  | [], _, _ => by simp
  | a :: x, [], h => by simp [List.isPrefixOf] at h
  | a :: x, b :: l, h => by simp [List.isPrefixOf] at h; have := pre_len (x := x) (l := l) (by simpa using h.2); simp; omega
/-- A token that is read takes at least one byte, and no more than there are. -/
theorem read_len {b : UInt8} {r : List UInt8} (h : (readS (b :: r)).2 = 0) : 0 < (readS (b :: r)).1.text.length ∧ (readS (b :: r)).1.text.length ≤ (b :: r).length := by
  rw [show readS (b :: r) = if isDig b.toNat then numberS (b :: r) else if isLet b.toNat then wordS (b :: r) else symbolS (b :: r) from rfl] at h ⊢
  split
  · rename_i hd
    have h1 := run_pos (p := isDig) (l := r) hd
    have h2 := runS_le isDig (b :: r)
    simp only [hd, if_true] at h
    unfold numberS at h ⊢
    split at h
    · cases h
    · rename_i c1
      rw [if_neg c1]
      split at h
      · cases h
      · rename_i c2
        rw [if_neg c2]
        split at h
        · cases h
        · rename_i n hn
          exact ⟨h1, h2⟩
  · rename_i hd
    simp only [hd] at h
    split
    · rename_i hw
      have h1 := run_pos (p := isW) (b := b) (l := r) (by simp [isW, hw])
      have h2 := runS_le isW (b :: r)
      simp only [hw, if_true] at h
      unfold wordS at h ⊢
      by_cases c : 32 < (runS isW (b :: r)).length
      · simp [c] at h
      · simp only [if_neg c]; exact ⟨h1, h2⟩
    · rename_i hw
      simp only [hw] at h
      unfold symbolS at h ⊢
      cases hs : symOf (b :: r) with
      | none => simp [hs] at h
      | some x =>
        obtain ⟨m1, m2⟩ := symOf_mem hs
        have := syms_pos x m1
        exact ⟨this.1, pre_len m2⟩
end Go.Proofs.Ytoajpgclgdhhlaa

/-
  The places of tokens, plainly.
-/
import Derived.Test.YtoajpgclgdhhlaaPS16
namespace Go.Proofs.Ytoajpgclgdhhlaa
set_option linter.unusedVariables false
set_option linter.unusedSimpArgs false
set_option linter.unnecessarySimpa false
set_option linter.unusedSectionVars false
open Go.RowKit
theorem nl_app : ∀ (a b : List UInt8) (i : Nat) (p : Nat × Nat), nlS (a ++ b) i p = nlS b (i + a.length) (nlS a i p)
  | [], b, i, p => rfl
  | x :: a, b, i, p => by
    rw [List.cons_append, nlS, nl_app a b, nlS, List.length_cons]
    congr 1; omega
theorem nl_no : ∀ (a : List UInt8) (i : Nat) (p : Nat × Nat), (∀ c, c ∈ a → c ≠ 10) → nlS a i p = p
  | [], i, p, _ => rfl
  | x :: a, i, p, h => by rw [nlS, if_neg (h x (by simp)), nl_no a _ _ fun c hc => h c (by simp [hc])]
/-- The line, and where it starts, behind the first bytes. -/
def lnS (full : List UInt8) (o : Nat) : Nat × Nat := nlS (full.take o) 0 (1, 0)
theorem ln_zero (full : List UInt8) : lnS full 0 = (1, 0) := rfl
theorem ln_le (full : List UInt8) (o : Nat) : (lnS full o).2 ≤ o := by
  have := (nl_ge (full.take o) 0 (1, 0) (Nat.le_refl _)).1
  simp only [List.length_take] at this
  unfold lnS; omega
theorem ln_bound (full : List UInt8) (o : Nat) : (lnS full o).1 ≤ 1 + full.length := by
  have := (nl_ge (full.take o) 0 (1, 0) (Nat.le_refl _)).2.2
  simp only [List.length_take] at this
  unfold lnS; omega
theorem ln_add (full : List UInt8) (o m : Nat) (h : o ≤ full.length) : lnS full (o + m) = nlS ((full.drop o).take m) o (lnS full o) := by
  unfold lnS
  rw [List.take_add, nl_app, List.length_take, Nat.min_eq_left h, Nat.zero_add]
theorem ln_succ (full : List UInt8) (o : Nat) {b : UInt8} (h : full[o]? = some b) : lnS full (o + 1) = if b = 10 then ((lnS full o).1 + 1, o + 1) else lnS full o := by
  have hlt := (List.getElem?_eq_some_iff.1 h).1
  rw [ln_add full o 1 (by omega)]
  have : (full.drop o).take 1 = [b] := by
    rw [List.drop_eq_getElem_cons hlt, List.take_succ_cons, List.take_zero]
    rw [List.getElem?_eq_getElem hlt] at h; injection h with h; rw [h]
  rw [this]; rfl
/-- Places differ. -/
theorem ln_inj (full : List UInt8) (o : Nat) : ∀ m, o + m ≤ full.length → (lnS full o).1 ≤ (lnS full (o + m)).1 ∧ ((lnS full (o + m)).1 = (lnS full o).1 → (lnS full (o + m)).2 = (lnS full o).2)
  | 0, _ => ⟨Nat.le_refl _, fun _ => rfl⟩
  | m + 1, h => by
    obtain ⟨h1, h2⟩ := ln_inj full o m (by omega)
    obtain ⟨b, hb⟩ : ∃ b, full[o + m]? = some b := ⟨full[o + m], List.getElem?_eq_getElem (by omega)⟩
    rw [← Nat.add_assoc, ln_succ full (o + m) hb]
    split
    · exact ⟨by simp only; omega, fun h => by simp only at h; omega⟩
    · exact ⟨h1, h2⟩
theorem place_inj {full : List UInt8} {o o' : Nat} (h : o ≤ o') (h' : o' ≤ full.length) (h1 : (lnS full o').1 = (lnS full o).1) (h2 : o' - (lnS full o').2 = o - (lnS full o).2) : o' = o := by
  obtain ⟨m, rfl⟩ : ∃ m, o' = o + m := ⟨o' - o, by omega⟩
  have := (ln_inj full o m h').2 h1
  have := ln_le full o
  omega
/-- The tokens from a place on. -/
def PlL (full : List UInt8) : Nat → List Tok → Prop
  | _, [] => False
  | i, t :: ts => (ts = [] ∧ t.kind = 4 ∧ t.text = [] ∧ i ≤ full.length ∧ t.line = (lnS full full.length).1 ∧ t.col = ((full.length - (lnS full full.length).2 + 1 : Nat) : Int)) ∨
    (t.kind ≠ 4 ∧ ∃ o, i ≤ o ∧ 0 < t.text.length ∧ o + t.text.length ≤ full.length ∧ t.text = (full.drop o).take t.text.length ∧ t.line = (lnS full o).1 ∧ t.col = ((o - (lnS full o).2 + 1 : Nat) : Int) ∧ PlL full (o + t.text.length) ts)
theorem pl_mono {full : List UInt8} {i j : Nat} (h : i ≤ j) : ∀ {ts : List Tok}, PlL full j ts → PlL full i ts
  | [], h1 => h1
  | t :: ts, h1 => by
    rcases h1 with ⟨a, b, c, d, e⟩ | ⟨a, o, b, c⟩
    · exact .inl ⟨a, b, c, by omega, e⟩
    · exact .inr ⟨a, o, by omega, c⟩
theorem pl_last {full : List UInt8} : ∀ {i : Nat} {ts : List Tok}, PlL full i ts → ∃ t, ts[ts.length - 1]? = some t ∧ t.kind = 4 ∧ 0 < ts.length
  | _, [], h => h.elim
  | i, t :: ts, h => by
    rcases h with ⟨rfl, b, _⟩ | ⟨_, o, _, _, _, _, _, _, h⟩
    · exact ⟨t, rfl, b, by simp⟩
    · obtain ⟨u, h1, h2, h3⟩ := pl_last h
      refine ⟨u, ?_, h2, by simp⟩
      rw [List.length_cons, show ts.length + 1 - 1 = (ts.length - 1) + 1 by omega, List.getElem?_cons_succ, h1]
theorem take_of_prefix : ∀ {x l : List UInt8}, x.isPrefixOf l = true → x = l.take x.length
  | [], _, _ => by simp
  | a :: x, [], h => by simp [List.isPrefixOf] at h
  | a :: x, b :: l, h => by
    simp [List.isPrefixOf] at h
    have := take_of_prefix (x := x) (l := l) (by simpa using h.2)
    rw [List.length_cons, List.take_succ_cons, ← this, h.1]
theorem run_take (p : Nat → Bool) : ∀ (l : List UInt8), runS p l = l.take (runS p l).length
  | [] => rfl
  | b :: l => by
    have ih := run_take p l
    unfold runS at *
    rw [List.takeWhile_cons]
    split
    · rw [List.length_cons, List.take_succ_cons, ← ih]
    · rfl
theorem run_stop {p : Nat → Bool} : ∀ {l : List UInt8} {b : UInt8}, l[(runS p l).length]? = some b → ¬ p b.toNat = true
  | [], b, h => by simp at h
  | a :: l, b, h => by
    unfold runS at h
    rw [List.takeWhile_cons] at h
    split at h
    · rw [List.length_cons, List.getElem?_cons_succ] at h
      exact run_stop (p := p) (l := l) h
    · rename_i ha
      simp at h; subst h; exact ha
theorem syms_nl : ∀ x ∈ symsL, ∀ c ∈ x, c ≠ 10 := by decide
/-- What is read: its kind, its bytes. -/
theorem read_spec {b : UInt8} {r : List UInt8} (h : (readS (b :: r)).2 = 0) : (readS (b :: r)).1.kind ≠ 4 ∧ (readS (b :: r)).1.text = (b :: r).take (readS (b :: r)).1.text.length ∧ (∀ c ∈ (readS (b :: r)).1.text, c ≠ 10) := by
  rw [show readS (b :: r) = if isDig b.toNat then numberS (b :: r) else if isLet b.toNat then wordS (b :: r) else symbolS (b :: r) from rfl] at h ⊢
  split
  · rename_i hd
    simp only [hd, if_true] at h
    unfold numberS at h ⊢
    split at h
    · cases h
    · rename_i c1
      rw [if_neg c1]
      split at h
      · cases h
      · rename_i c2
        rw [if_neg c2]
        split at h
        · cases h
        · rename_i n hn
          refine ⟨(by show (2 : Int) ≠ 4; decide), run_take isDig _, fun c hc e => ?_⟩
          have := runS_mem hc
          subst e; revert this; decide
  · rename_i hd
    simp only [hd] at h
    split
    · rename_i hw
      simp only [hw, if_true] at h
      unfold wordS at h ⊢
      by_cases c : 32 < (runS isW (b :: r)).length
      · simp [c] at h
      · simp only [if_neg c]
        refine ⟨(by show (1 : Int) ≠ 4; decide), run_take isW _, fun c hc e => ?_⟩
        have := runS_mem hc
        subst e; revert this; decide
    · rename_i hw
      simp only [hw] at h
      unfold symbolS at h ⊢
      cases hs : symOf (b :: r) with
      | none => simp [hs] at h
      | some x =>
        obtain ⟨m1, m2⟩ := symOf_mem hs
        exact ⟨(by show (3 : Int) ≠ 4; decide), take_of_prefix m2, syms_nl x m1⟩
theorem scan_pl (full : List UInt8) : ∀ (f : Nat) (rest : List UInt8) (i : Nat) (acc ts : List Tok), scanS f rest i (lnS full i).1 (lnS full i).2 acc = .ok ts → rest = full.drop i → i ≤ full.length → ∃ ts', ts = acc ++ ts' ∧ PlL full i ts'
  | 0, _, _, _, _, h, _, _ => by cases h
  | f + 1, rest, i, acc, ts, h, hr, hi => by
    unfold scanS at h
    simp only at h
    have hg : i + skipS false rest ≤ full.length := by
      have := skip_le false rest
      rw [hr, List.length_drop] at this
      rw [hr]; omega
    generalize hgg : skipS false rest = g at h hg
    have hp : nlS (rest.take g) i ((lnS full i).1, (lnS full i).2) = lnS full (i + g) := by rw [ln_add full i g hi, ← hr]
    rw [hp] at h
    split at h
    · rename_i hnil
      injection h with h
      have hlen : i + g = full.length := by
        rw [hr, List.drop_drop] at hnil
        have := List.drop_eq_nil_iff.1 hnil
        omega
      rw [hlen] at h
      exact ⟨_, h.symm, .inl ⟨rfl, rfl, rfl, hi, rfl, rfl⟩⟩
    · rename_i b r hcons
      split at h
      · rename_i h0
        obtain ⟨k1, k2, k3⟩ := read_spec h0
        obtain ⟨k4, k5⟩ := read_len h0
        generalize ht : (readS (b :: r)).1 = t at h k1 k2 k3 k4 k5
        have hd : full.drop (i + g) = b :: r := by rw [hr, List.drop_drop] at hcons; exact hcons
        have hl : i + g + t.text.length ≤ full.length := by
          have := congrArg List.length hd
          rw [List.length_drop] at this
          omega
        have hln : lnS full (i + g + t.text.length) = lnS full (i + g) := by
          rw [ln_add full (i + g) _ hg, hd, ← k2, nl_no _ _ _ k3]
        rw [← hln] at h
        obtain ⟨ts', e1, e2⟩ := scan_pl full f _ _ _ _ h (by rw [← hd, List.drop_drop]) hl
        refine ⟨t.at ((lnS full (i + g + t.text.length)).1 : Nat) ((i + g - (lnS full (i + g + t.text.length)).2 + 1 : Nat) : Int) :: ts', by rw [e1, List.append_assoc]; rfl, .inr ⟨k1, i + g, by omega, k4, hl, by rw [hd]; exact k2, ?_, ?_, e2⟩⟩
        · show (((lnS full (i + g + t.text.length)).1 : Nat) : Int) = _
          rw [hln]
        · show ((i + g - (lnS full (i + g + t.text.length)).2 + 1 : Nat) : Int) = _
          rw [hln]
      · cases h
theorem scan_err : ∀ (f : Nat) (rest : List UInt8) (i line start : Nat) (acc : List Tok) {a b e : Int}, rest.length < f → scanS f rest i line start acc = .err a b e → e ≠ 0
  | 0, _, _, _, _, _, _, _, _, h, _ => by omega
  | f + 1, rest, i, line, start, acc, a, b, e, hl, h => by
    unfold scanS at h
    simp only at h
    split at h
    · cases h
    · rename_i x r hcons
      split at h
      · rename_i h0
        obtain ⟨k4, k5⟩ := read_len h0
        refine scan_err f _ _ _ _ _ ?_ h
        have := congrArg List.length hcons
        rw [List.length_drop] at this
        rw [List.length_drop]; omega
      · rename_i h0
        injection h with _ _ h
        rw [← h]; exact h0
end Go.Proofs.Ytoajpgclgdhhlaa

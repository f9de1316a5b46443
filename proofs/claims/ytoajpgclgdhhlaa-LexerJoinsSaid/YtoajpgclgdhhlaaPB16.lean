/-
  Texts with blanks and comments between the tokens, plainly.
-/
import Derived.Test.YtoajpgclgdhhlaaPQ16
namespace Go.Proofs.Ytoajpgclgdhhlaa
set_option linter.unusedVariables false
set_option linter.unusedSimpArgs false
set_option linter.unnecessarySimpa false
set_option linter.unusedSectionVars false
open Go.RowKit
/-- A token without its place. -/
def Tok.bare (t : Tok) : Int × List UInt8 × Int := (t.kind, t.text, t.value)
/-- A token that can be read again: the last one, or what is read of a text. -/
def GoodT (t : Tok) : Prop := (t.kind = 4 ∧ t.text = [] ∧ t.value = 0) ∨ ∃ b r, (readS (b :: r)).2 = 0 ∧ t.bare = (readS (b :: r)).1.bare
theorem scan_good : ∀ (f : Nat) (rest : List UInt8) (i line start : Nat) (acc ts : List Tok), scanS f rest i line start acc = .ok ts → (∀ t, t ∈ acc → GoodT t ∧ t.kind ≠ 4) → ∃ ts0 e, ts = ts0 ++ [e] ∧ (∀ t, t ∈ ts0 → GoodT t ∧ t.kind ≠ 4) ∧ e.kind = 4 ∧ e.text = [] ∧ e.value = 0
  | 0, _, _, _, _, _, _, h, _ => by cases h
  | f + 1, rest, i, line, start, acc, ts, h, ha => by
    unfold scanS at h
    simp only at h
    split at h
    · injection h with h
      exact ⟨acc, _, h.symm, ha, rfl, rfl, rfl⟩
    · rename_i b r hcons
      split at h
      · rename_i h0
        refine scan_good f _ _ _ _ _ ts h fun t ht => ?_
        rcases List.mem_append.1 ht with ht | ht
        · exact ha t ht
        · simp only [List.mem_singleton] at ht; subst ht
          exact ⟨.inr ⟨b, r, h0, rfl⟩, (read_spec h0).1⟩
      · cases h
theorem runS_run (p : Nat → Bool) : ∀ (l : List UInt8), runS p (runS p l) = runS p l
  | [] => rfl
  | b :: l => by
    have := runS_run p l
    unfold runS at *
    rw [List.takeWhile_cons]
    split
    · rename_i h; rw [List.takeWhile_cons, if_pos h, this]
    · rfl
theorem sym_self : ∀ x ∈ symsL, symOf x = some x := by decide
/-- What is read is read again ahead of a blank. -/
theorem read_again {b : UInt8} {r : List UInt8} (h : (readS (b :: r)).2 = 0) (u : List UInt8) : ∃ b' r', (readS (b :: r)).1.text = b' :: r' ∧ readS ((readS (b :: r)).1.text ++ 32 :: u) = readS (b :: r) ∧ isBl b'.toNat = false ∧ [47, 47].isPrefixOf ((readS (b :: r)).1.text ++ 32 :: u) = false := by
  have key : ∃ b' r', (readS (b :: r)).1.text = b' :: r' ∧ readS (b' :: r') = readS (b :: r) ∧ isBl b'.toNat = false ∧ [47, 47].isPrefixOf (b' :: r') = false := by
    have hnb : ∀ n, isW n = true → isBl n = false := fun n hn => by
      unfold isW at hn
      rw [Bool.or_eq_true, isDig_iff] at hn
      unfold isLet at hn
      simp at hn
      unfold isBl
      simp
      omega
    have hn47 : ∀ n, isW n = true → n ≠ 47 := fun n hn e => by subst e; revert hn; decide
    rw [show readS (b :: r) = if isDig b.toNat then numberS (b :: r) else if isLet b.toNat then wordS (b :: r) else symbolS (b :: r) from rfl] at h ⊢
    cases hd : isDig b.toNat with
    | true =>
      have hw : isW b.toNat = true := by simp [isW, hd]
      rw [if_pos (by rw [hd])] at h
      simp only [if_true]
      have hD : runS isDig (b :: r) = b :: runS isDig r := by unfold runS; rw [List.takeWhile_cons, hd]; rfl
      have hWD : (runS isDig (b :: r)).length ≥ (runS isW (b :: r)).length := by
        unfold numberS at h
        split at h
        · cases h
        · omega
      have hWW : runS isW (runS isDig (b :: r)) = runS isDig (b :: r) := by
        refine run_all fun j c hc => ?_
        have := runS_mem (List.mem_of_getElem? hc)
        simp [isW, this]
      have htx : (numberS (b :: r)).1.text = runS isDig (b :: r) := by
        unfold numberS at h ⊢
        split at h
        · cases h
        · rename_i c1
          rw [if_neg c1]
          split at h
          · cases h
          · rename_i c2
            rw [if_neg c2]
            split at h
            · cases h
            · rename_i n hn; rfl
      refine ⟨b, runS isDig r, by rw [htx, hD], ?_, hnb _ hw, ?_⟩
      · rw [← hD, show readS (runS isDig (b :: r)) = readS (b :: runS isDig r) by rw [hD], show readS (b :: runS isDig r) = if isDig b.toNat then numberS (b :: runS isDig r) else if isLet b.toNat then wordS (b :: runS isDig r) else symbolS (b :: runS isDig r) from rfl, hd, if_pos rfl, ← hD]
        unfold numberS
        rw [runS_run, hWW, if_neg (by omega)]
        rw [if_neg (show ¬ (runS isDig (b :: r)).length < (runS isW (b :: r)).length by omega)]
      · have := hn47 _ hw
        simp [List.isPrefixOf]
        intro e; subst e; exact absurd rfl this
    | false =>
      rw [if_neg (by rw [hd]; decide)] at h
      simp only [Bool.false_eq_true, if_false]
      cases hl : isLet b.toNat with
      | true =>
        have hw : isW b.toNat = true := by simp [isW, hl]
        rw [if_pos (by rw [hl])] at h
        simp only [if_true]
        have hW : runS isW (b :: r) = b :: runS isW r := by unfold runS; rw [List.takeWhile_cons, hw]; rfl
        have h32 : ¬ 32 < (runS isW (b :: r)).length := fun c => by unfold wordS at h; rw [if_pos c] at h; cases h
        refine ⟨b, runS isW r, by unfold wordS; rw [if_neg h32]; exact hW, ?_, hnb _ hw, ?_⟩
        · rw [show readS (b :: runS isW r) = if isDig b.toNat then numberS (b :: runS isW r) else if isLet b.toNat then wordS (b :: runS isW r) else symbolS (b :: runS isW r) from rfl, hd, hl, if_neg (by decide), if_pos rfl, ← hW]
          unfold wordS
          rw [runS_run]
        · have := hn47 _ hw
          simp [List.isPrefixOf]
          intro e; subst e; exact absurd rfl this
      | false =>
        rw [if_neg (by rw [hl]; decide)] at h
        simp only [Bool.false_eq_true, if_false]
        unfold symbolS at h ⊢
        cases hs : symOf (b :: r) with
        | none => rw [hs] at h; cases h
        | some x =>
          obtain ⟨m1, m2⟩ := symOf_mem hs
          have hself := sym_self x m1
          have hx : ∃ r', x = b :: r' := by
            cases x with
            | nil => have := syms_pos [] m1; simp at this
            | cons a x => simp [List.isPrefixOf] at m2; exact ⟨x, by rw [m2.1]⟩
          obtain ⟨r', rfl⟩ := hx
          have hfacts : ∀ x ∈ symsL, (∀ c, c ∈ x.head? → isBl c.toNat = false) ∧ [47, 47].isPrefixOf x = false := by decide
          obtain ⟨f1, f2⟩ := hfacts _ m1
          refine ⟨b, r', rfl, ?_, f1 b (by simp), f2⟩
          rw [show readS (b :: r') = if isDig b.toNat then numberS (b :: r') else if isLet b.toNat then wordS (b :: r') else symbolS (b :: r') from rfl, hd, hl, if_neg (by decide), if_neg (by decide)]
          unfold symbolS
          rw [hself]
  obtain ⟨b', r', e1, e2, e3, e4⟩ := key
  refine ⟨b', r', e1, ?_, e3, ?_⟩
  · rw [e1, read_stop (x := 32) (by decide) syms_no32 u b' r', e2]
  · rw [e1, pre_stop (x := 32) u [47, 47] (b' :: r') (by decide), e4]
/-- Blanks and comments. -/
def SepOK (p : List UInt8) : Prop := ∀ (u : List UInt8) (i line start : Nat) (acc : List Tok), ∃ i' line' start', scanC false (p ++ u) i line start acc = scanC false u i' line' start' acc
theorem sep_of {p : List UInt8} (h : ∀ u, skipS false (p ++ u) = p.length + skipS false u) : SepOK p := by
  intro u i line start acc
  refine ⟨i + p.length, (nlS p i (line, start)).1, (nlS p i (line, start)).2, ?_⟩
  rw [← G_C (c := false) (f := (p ++ u).length) (rest := u) (by rw [List.length_append]; omega)]
  unfold scanC scanG
  rw [h]
  have e1 : (p ++ u).take (p.length + skipS false u) = p ++ u.take (skipS false u) := by rw [List.take_length_add_append]
  have e2 : (p ++ u).drop (p.length + skipS false u) = u.drop (skipS false u) := by rw [List.drop_length_add_append]
  simp only [e1, e2, nl_app]
  rw [show i + (p.length + skipS false u) = i + p.length + skipS false u by omega]
/-- The text of tokens, each with a blank and what is chosen behind it. -/
def spT : List Tok → List (List UInt8) → List UInt8
  | [], _ => []
  | t :: ts, ps => t.text ++ 32 :: (ps.headD [] ++ spT ts ps.tail)
theorem sep_blank : SepOK [32] := sep_of fun u => by
  show skipS false (32 :: u) = _
  rw [skipS]; rfl
theorem sep_nil : SepOK [] := fun u i line start acc => ⟨i, line, start, rfl⟩
theorem sp_scan (e : Tok) (he1 : e.kind = 4) (he2 : e.text = []) (he3 : e.value = 0) : ∀ (ts : List Tok) (ps : List (List UInt8)), (∀ t, t ∈ ts → GoodT t ∧ t.kind ≠ 4) → (∀ p, p ∈ ps → SepOK p) → ∀ (i line start : Nat) (acc : List Tok),
    ∃ us, scanC false (spT (ts ++ [e]) ps) i line start acc = .ok (acc ++ us) ∧ us.map Tok.bare = (ts ++ [e]).map Tok.bare
  | [], ps, _, hp, i, line, start, acc => by
    have hh : SepOK (ps.headD []) := by
      cases ps with
      | nil => exact sep_nil
      | cons p ps => exact hp p (by simp)
    have e0 : spT ([] ++ [e]) ps = [32] ++ (ps.headD [] ++ []) := by simp [spT, he2]
    rw [e0]
    obtain ⟨i1, l1, s1, h1⟩ := sep_blank (ps.headD [] ++ []) i line start acc
    obtain ⟨i2, l2, s2, h2⟩ := hh [] i1 l1 s1 acc
    rw [h1, h2, C_nil]
    exact ⟨_, rfl, by simp [Tok.bare, he1, he2, he3]⟩
  | t :: ts, ps, hg, hp, i, line, start, acc => by
    have hh : SepOK (ps.headD []) := by
      cases ps with
      | nil => exact sep_nil
      | cons p ps => exact hp p (by simp)
    have ht : ∀ p, p ∈ ps.tail → SepOK p := fun p h => hp p (List.mem_of_mem_tail h)
    obtain ⟨hgt, hk4⟩ := hg t (by simp)
    rcases hgt with ⟨k, _⟩ | ⟨b, r, h0, hb⟩
    · exact absurd k hk4
    · have htx : t.text = (readS (b :: r)).1.text := congrArg (fun x => x.2.1) hb
      obtain ⟨b', r', e1, e2, e3, e4⟩ := read_again h0 (ps.headD [] ++ spT (ts ++ [e]) ps.tail)
      have e5 : spT (t :: ts ++ [e]) ps = (readS (b :: r)).1.text ++ 32 :: (ps.headD [] ++ spT (ts ++ [e]) ps.tail) := by rw [List.cons_append, spT, htx]
      rw [e5]
      obtain ⟨us, i3, l3, s3, q1, q2⟩ : ∃ us i3 l3 s3, scanC false ((readS (b :: r)).1.text ++ 32 :: (ps.headD [] ++ spT (ts ++ [e]) ps.tail)) i line start acc = scanC false (spT (ts ++ [e]) ps.tail) i3 l3 s3 (acc ++ [us]) ∧ us.bare = t.bare := by
        have hcons : (readS (b :: r)).1.text ++ 32 :: (ps.headD [] ++ spT (ts ++ [e]) ps.tail) = b' :: (r' ++ 32 :: (ps.headD [] ++ spT (ts ++ [e]) ps.tail)) := by rw [e1]; rfl
        have hsk : skipS false (b' :: (r' ++ 32 :: (ps.headD [] ++ spT (ts ++ [e]) ps.tail))) = 0 := by
          rw [skipS, e3, ← hcons, e4]; rfl
        rw [hcons, C_tok hsk, ← hcons, e2, if_pos h0, List.drop_left]
        obtain ⟨i1, l1, s1, h1⟩ := sep_blank (ps.headD [] ++ spT (ts ++ [e]) ps.tail) (i + (readS (b :: r)).1.text.length) line start (acc ++ [(readS (b :: r)).1.at (line : Nat) ((i - start + 1 : Nat) : Int)])
        obtain ⟨i2, l2, s2, h2⟩ := hh (spT (ts ++ [e]) ps.tail) i1 l1 s1 (acc ++ [(readS (b :: r)).1.at (line : Nat) ((i - start + 1 : Nat) : Int)])
        exact ⟨_, i2, l2, s2, h1.trans h2, by rw [hb]; rfl⟩
      obtain ⟨vs, w1, w2⟩ := sp_scan e he1 he2 he3 ts ps.tail (fun x hx => hg x (by simp [hx])) ht i3 l3 s3 (acc ++ [us])
      refine ⟨us :: vs, by rw [q1, w1]; simp, by rw [List.map_cons, w2, q2]; rfl⟩
end Go.Proofs.Ytoajpgclgdhhlaa

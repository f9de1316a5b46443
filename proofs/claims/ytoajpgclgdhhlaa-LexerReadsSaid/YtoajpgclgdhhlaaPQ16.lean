/-
  scanS without fuel, and what it says of texts that are laid one behind another.
-/
import Derived.Test.YtoajpgclgdhhlaaPP16
namespace Go.Proofs.Ytoajpgclgdhhlaa
set_option linter.unusedVariables false
set_option linter.unusedSimpArgs false
set_option linter.unnecessarySimpa false
set_option linter.unusedSectionVars false
open Go.RowKit
/-- scanS, from within a comment or not. -/
def scanG (c : Bool) (f : Nat) (rest : List UInt8) (i line start : Nat) (acc : List Tok) : ScanR :=
  let g := skipS c rest
  let p := nlS (rest.take g) i (line, start)
  match rest.drop g with
  | [] => .ok (acc ++ [(⟨4, [], 0, (p.1 : Nat), ((i + g - p.2 + 1 : Nat) : Int)⟩ : Tok)])
  | b :: r =>
    if (readS (b :: r)).2 = 0 then scanS f ((b :: r).drop (readS (b :: r)).1.text.length) (i + g + (readS (b :: r)).1.text.length) p.1 p.2 (acc ++ [(readS (b :: r)).1.at (p.1 : Nat) ((i + g - p.2 + 1 : Nat) : Int)])
    else .err (p.1 : Nat) ((i + g - p.2 + 1 : Nat) : Int) (readS (b :: r)).2
theorem scan_G (f : Nat) (rest : List UInt8) (i line start : Nat) (acc : List Tok) : scanS (f + 1) rest i line start acc = scanG false f rest i line start acc := rfl
/-- One byte that is passed over. -/
theorem G_step {c c' : Bool} {b : UInt8} {r : List UInt8} (h : skipS c (b :: r) = 1 + skipS c' r) (f i line start : Nat) (acc : List Tok) :
    scanG c f (b :: r) i line start acc = scanG c' f r (i + 1) (if b = 10 then line + 1 else line) (if b = 10 then i + 1 else start) acc := by
  unfold scanG
  rw [h]
  simp only [Nat.add_comm 1 (skipS c' r), List.take_succ_cons, List.drop_succ_cons, nlS]
  generalize skipS c' r = g
  rw [show i + (g + 1) = i + 1 + g by omega]
  by_cases hb : b = 10
  · simp only [hb, if_true]
  · simp only [hb, if_false]
theorem G_nil (c : Bool) (f i line start : Nat) (acc : List Tok) : scanG c f [] i line start acc = .ok (acc ++ [(⟨4, [], 0, (line : Nat), ((i - start + 1 : Nat) : Int)⟩ : Tok)]) := by
  have : skipS c [] = 0 := by cases c <;> rfl
  unfold scanG
  rw [this]; rfl
/-- Enough fuel is enough. -/
theorem scan_fuel : ∀ (f f' : Nat) (rest : List UInt8) (i line start : Nat) (acc : List Tok), rest.length < f → rest.length < f' → scanS f rest i line start acc = scanS f' rest i line start acc
  | 0, _, _, _, _, _, _, h, _ => by omega
  | f + 1, 0, _, _, _, _, _, _, h => by omega
  | f + 1, f' + 1, rest, i, line, start, acc, h1, h2 => by
    unfold scanS
    simp only
    split
    · rfl
    · rename_i b r hcons
      split
      · rename_i h0
        obtain ⟨k4, k5⟩ := read_len h0
        have hl := congrArg List.length hcons
        rw [List.length_drop] at hl
        exact scan_fuel f f' _ _ _ _ _ (by rw [List.length_drop]; omega) (by rw [List.length_drop]; omega)
      · rfl
def scanC (c : Bool) (rest : List UInt8) (i line start : Nat) (acc : List Tok) : ScanR := scanG c rest.length rest i line start acc
theorem G_C {c : Bool} {f : Nat} {rest : List UInt8} (h : rest.length ≤ f) (i line start : Nat) (acc : List Tok) : scanG c f rest i line start acc = scanC c rest i line start acc := by
  unfold scanC scanG
  simp only
  split
  · rfl
  · rename_i b r hcons
    split
    · rename_i h0
      obtain ⟨k4, k5⟩ := read_len h0
      have hl := congrArg List.length hcons
      rw [List.length_drop] at hl
      exact scan_fuel _ _ _ _ _ _ _ (by rw [List.length_drop]; omega) (by rw [List.length_drop]; omega)
    · rfl
theorem scan_C (l : List UInt8) (i line start : Nat) (acc : List Tok) : scanS (l.length + 1) l i line start acc = scanC false l i line start acc := rfl
theorem C_nil (c : Bool) (i line start : Nat) (acc : List Tok) : scanC c [] i line start acc = .ok (acc ++ [(⟨4, [], 0, (line : Nat), ((i - start + 1 : Nat) : Int)⟩ : Tok)]) := G_nil c 0 i line start acc
theorem C_step {c c' : Bool} {b : UInt8} {r : List UInt8} (h : skipS c (b :: r) = 1 + skipS c' r) (i line start : Nat) (acc : List Tok) :
    scanC c (b :: r) i line start acc = scanC c' r (i + 1) (if b = 10 then line + 1 else line) (if b = 10 then i + 1 else start) acc := by
  rw [scanC, G_step h, G_C (by simp)]
theorem C_tok {b : UInt8} {r : List UInt8} (h : skipS false (b :: r) = 0) (i line start : Nat) (acc : List Tok) :
    scanC false (b :: r) i line start acc = if (readS (b :: r)).2 = 0 then scanC false ((b :: r).drop (readS (b :: r)).1.text.length) (i + (readS (b :: r)).1.text.length) line start (acc ++ [(readS (b :: r)).1.at (line : Nat) ((i - start + 1 : Nat) : Int)])
      else .err (line : Nat) ((i - start + 1 : Nat) : Int) (readS (b :: r)).2 := by
  rw [scanC, scanG, h]
  simp only [List.take_zero, List.drop_zero, nlS, Nat.add_zero]
  split
  · rename_i h0
    obtain ⟨k4, k5⟩ := read_len h0
    rw [scan_fuel _ (((b :: r).drop (readS (b :: r)).1.text.length).length + 1) _ _ _ _ _ (by rw [List.length_drop]; omega) (by omega)]
    rfl
  · rfl
/-- What stands at the first byte. -/
theorem skip_cases (c : Bool) (b : UInt8) (r : List UInt8) : (∃ c', skipS c (b :: r) = 1 + skipS c' r ∧ ((c = true ∧ b = 10 ∧ c' = false) ∨ (c = true ∧ b ≠ 10 ∧ c' = true) ∨ (c = false ∧ isBl b.toNat = true ∧ c' = false) ∨ (c = false ∧ isBl b.toNat = false ∧ [47, 47].isPrefixOf (b :: r) = true ∧ c' = true))) ∨
    (c = false ∧ isBl b.toNat = false ∧ [47, 47].isPrefixOf (b :: r) = false ∧ skipS c (b :: r) = 0) := by
  cases c with
  | true =>
    left
    by_cases h : b = 10
    · exact ⟨false, by rw [skipS, if_pos h], .inl ⟨rfl, h, rfl⟩⟩
    · exact ⟨true, by rw [skipS, if_neg h], .inr (.inl ⟨rfl, h, rfl⟩)⟩
  | false =>
    cases hb : isBl b.toNat with
    | true => exact .inl ⟨false, by rw [skipS, if_pos hb], .inr (.inr (.inl ⟨rfl, rfl, rfl⟩))⟩
    | false =>
      cases hp : [47, 47].isPrefixOf (b :: r) with
      | true => exact .inl ⟨true, by rw [skipS, hb, hp]; rfl, .inr (.inr (.inr ⟨rfl, rfl, rfl, rfl⟩))⟩
      | false => exact .inr ⟨rfl, rfl, rfl, by rw [skipS, hb, hp]; rfl⟩
/-! ### a byte that no token holds -/
theorem run_stop_at {p : Nat → Bool} {x : UInt8} (hx : p x.toNat = false) (u : List UInt8) : ∀ (l : List UInt8), runS p (l ++ x :: u) = runS p l
  | [] => by unfold runS; rw [List.nil_append, List.takeWhile_cons, hx]; rfl
  | b :: l => by
    have := run_stop_at hx u l
    unfold runS at *
    rw [List.cons_append, List.takeWhile_cons, List.takeWhile_cons, this]
theorem pre_stop {x : UInt8} (u : List UInt8) : ∀ (y l : List UInt8), (∀ c, c ∈ y → c ≠ x) → y.isPrefixOf (l ++ x :: u) = y.isPrefixOf l
  | [], l, _ => by simp
  | a :: y, [], h => by
    have := h a (by simp)
    simp [List.isPrefixOf, this]
  | a :: y, b :: l, h => by
    have := pre_stop u y l fun c hc => h c (by simp [hc])
    simp only [List.cons_append, List.isPrefixOf, this]
theorem find_congr {α : Type} {p q : α → Bool} : ∀ {l : List α}, (∀ x, x ∈ l → p x = q x) → l.find? p = l.find? q
  | [], _ => rfl
  | a :: l, h => by
    have := find_congr (l := l) fun x hx => h x (by simp [hx])
    rw [List.find?_cons, List.find?_cons, h a (by simp), this]
theorem syms_no32 : ∀ x ∈ symsL, ∀ c ∈ x, c ≠ 32 := by decide
theorem sym_stop {x : UInt8} (hx : ∀ y ∈ symsL, ∀ c ∈ y, c ≠ x) (u l : List UInt8) : symOf (l ++ x :: u) = symOf l := by
  unfold symOf
  exact find_congr fun y hy => pre_stop u y l (hx y hy)
theorem read_stop {x : UInt8} (h1 : isW x.toNat = false) (hx : ∀ y ∈ symsL, ∀ c ∈ y, c ≠ x) (u : List UInt8) (b : UInt8) (r : List UInt8) : readS ((b :: r) ++ x :: u) = readS (b :: r) := by
  have hd : isDig x.toNat = false := by unfold isW at h1; simp at h1; exact h1.2
  have e1 := run_stop_at h1 u (b :: r)
  have e2 := run_stop_at hd u (b :: r)
  have e3 := sym_stop hx u (b :: r)
  rw [List.cons_append] at *
  rw [show readS (b :: (r ++ x :: u)) = if isDig b.toNat then numberS (b :: (r ++ x :: u)) else if isLet b.toNat then wordS (b :: (r ++ x :: u)) else symbolS (b :: (r ++ x :: u)) from rfl,
    show readS (b :: r) = if isDig b.toNat then numberS (b :: r) else if isLet b.toNat then wordS (b :: r) else symbolS (b :: r) from rfl]
  unfold numberS wordS symbolS
  rw [e1, e2, e3]
/-! ### one text behind another -/
theorem fol_nl (t : List UInt8) : ∀ (n : Nat) (c : Bool) (rest : List UInt8) (i line start : Nat) (acc ts : List Tok), rest.length = n → scanC c rest i line start acc = .ok ts →
    ∃ ts0 e, ts = acc ++ ts0 ++ [e] ∧ scanC c (rest ++ 10 :: t) i line start acc = scanC false t (i + rest.length + 1) ((nlS rest i (line, start)).1 + 1) (i + rest.length + 1) (acc ++ ts0) := by
  intro n
  induction n using Nat.strongRecOn with
  | _ n ih =>
    intro c rest i line start acc ts hn h
    cases rest with
    | nil =>
      rw [C_nil] at h
      injection h with h
      refine ⟨[], _, by rw [List.append_nil]; exact h.symm, ?_⟩
      rw [List.nil_append, C_step (c' := false) (by cases c <;> rfl), if_pos rfl, if_pos rfl, List.append_nil]
      rfl
    | cons b r =>
      rw [List.length_cons] at hn
      rcases skip_cases c b r with ⟨c', h1, h2⟩ | ⟨rfl, hb, hp, h1⟩
      · rw [C_step h1] at h
        obtain ⟨ts0, e, e1, e2⟩ := ih r.length (by omega) c' r _ _ _ _ _ rfl h
        refine ⟨ts0, e, e1, ?_⟩
        have h3 : skipS c (b :: (r ++ 10 :: t)) = 1 + skipS c' (r ++ 10 :: t) := by
          rcases h2 with ⟨rfl, k1, rfl⟩ | ⟨rfl, k1, rfl⟩ | ⟨rfl, k1, rfl⟩ | ⟨rfl, k1, k2, rfl⟩
          · rw [skipS, if_pos k1]
          · rw [skipS, if_neg k1]
          · rw [skipS, if_pos k1]
          · have := pre_stop (x := 10) t [47, 47] (b :: r) (by decide)
            rw [List.cons_append] at this
            rw [skipS, k1, this, k2]; rfl
        rw [List.cons_append, C_step h3, e2, List.length_cons]
        have e3 : nlS (b :: r) i (line, start) = nlS r (i + 1) (if b = 10 then line + 1 else line, if b = 10 then i + 1 else start) := by
          rw [nlS]; by_cases hb : b = 10
          · simp only [hb, if_true]
          · simp only [hb, if_false]
        rw [e3, show i + 1 + r.length + 1 = i + (r.length + 1) + 1 by omega]
      · rw [C_tok h1] at h
        split at h
        · rename_i h0
          obtain ⟨k1, k2, k3⟩ := read_spec h0
          obtain ⟨k4, k5⟩ := read_len h0
          have hr := read_stop (x := 10) (by decide) syms_nl t b r
          rw [List.cons_append] at hr
          have h3 : skipS false (b :: (r ++ 10 :: t)) = 0 := by
            have := pre_stop (x := 10) t [47, 47] (b :: r) (by decide)
            rw [List.cons_append] at this
            rw [skipS, hb, this, hp]; rfl
          obtain ⟨ts0, e, e1, e2⟩ := ih ((b :: r).drop (readS (b :: r)).1.text.length).length (by rw [List.length_drop, List.length_cons]; omega) false _ _ _ _ _ _ rfl h
          refine ⟨(readS (b :: r)).1.at (line : Nat) ((i - start + 1 : Nat) : Int) :: ts0, e, by rw [e1]; simp, ?_⟩
          rw [List.cons_append, C_tok h3, hr, if_pos h0]
          have hd : (b :: (r ++ 10 :: t)).drop (readS (b :: r)).1.text.length = (b :: r).drop (readS (b :: r)).1.text.length ++ 10 :: t := by
            rw [← List.cons_append, List.drop_append_of_le_length k5]
          rw [hd, e2]
          have hn2 : nlS (b :: r) i (line, start) = nlS ((b :: r).drop (readS (b :: r)).1.text.length) (i + (readS (b :: r)).1.text.length) (line, start) := by
            conv => lhs; rw [← List.take_append_drop (readS (b :: r)).1.text.length (b :: r)]
            rw [nl_app, ← k2, nl_no _ _ _ k3]
          rw [hn2, List.length_drop, List.append_assoc]
          have e9 : i + (readS (b :: r)).1.text.length + ((b :: r).length - (readS (b :: r)).1.text.length) + 1 = i + (b :: r).length + 1 := by omega
          rw [e9]
          rfl
        · cases h
/-! ### elsewhere -/
theorem nl_shift (d k : Nat) : ∀ (l : List UInt8) (i a s : Nat), nlS l (i + d) (a + k, s + d) = ((nlS l i (a, s)).1 + k, (nlS l i (a, s)).2 + d)
  | [], i, a, s => rfl
  | b :: l, i, a, s => by
    simp only [nlS]
    by_cases hb : b = 10
    · simp only [hb, if_true]
      have := nl_shift d k l (i + 1) (a + 1) (i + 1)
      rw [show i + d + 1 = i + 1 + d by omega, show a + k + 1 = a + 1 + k by omega]; exact this
    · simp only [hb, if_false]
      have := nl_shift d k l (i + 1) a s
      rw [show i + d + 1 = i + 1 + d by omega]; exact this
def Tok.down (k : Nat) (t : Tok) : Tok := { t with line := t.line + k }
def ScanR.down (k : Nat) (acc0 : List Tok) : ScanR → ScanR
  | .ok ts => .ok (acc0 ++ ts.map (Tok.down k))
  | .err a b e => .err (a + k) b e
theorem scan_shift (d k : Nat) (acc0 : List Tok) : ∀ (f : Nat) (rest : List UInt8) (i line start : Nat) (acc : List Tok), rest.length < f → scanS f rest (i + d) (line + k) (start + d) (acc0 ++ acc.map (Tok.down k)) = (scanS f rest i line start acc).down k acc0
  | 0, rest, i, line, start, acc, h => by omega
  | f + 1, rest, i, line, start, acc, h => by
    unfold scanS
    simp only [nl_shift]
    split
    · rename_i hd
      simp only [hd, ScanR.down, List.map_append, List.map_cons, List.map_nil, List.append_assoc, Tok.down]
      rw [show i + d + skipS false rest - ((nlS (rest.take (skipS false rest)) i (line, start)).2 + d) = i + skipS false rest - (nlS (rest.take (skipS false rest)) i (line, start)).2 by omega]
      simp only [Int.natCast_add]
    · rename_i b r hd
      try simp only [hd]
      split
      · rename_i h0
        obtain ⟨k4, k5⟩ := read_len h0
        have hl := congrArg List.length hd
        rw [List.length_drop] at hl
        have := scan_shift d k acc0 f ((b :: r).drop (readS (b :: r)).1.text.length) (i + skipS false rest + (readS (b :: r)).1.text.length) (nlS (rest.take (skipS false rest)) i (line, start)).1 (nlS (rest.take (skipS false rest)) i (line, start)).2
          (acc ++ [(readS (b :: r)).1.at ((nlS (rest.take (skipS false rest)) i (line, start)).1 : Nat) ((i + skipS false rest - (nlS (rest.take (skipS false rest)) i (line, start)).2 + 1 : Nat) : Int)]) (by rw [List.length_drop]; omega)
        rw [← this]
        simp only [List.map_append, List.map_cons, List.map_nil, List.append_assoc, Tok.down, Tok.at]
        rw [show i + d + skipS false rest - ((nlS (rest.take (skipS false rest)) i (line, start)).2 + d) = i + skipS false rest - (nlS (rest.take (skipS false rest)) i (line, start)).2 by omega,
          show i + d + skipS false rest + (readS (b :: r)).1.text.length = i + skipS false rest + (readS (b :: r)).1.text.length + d by omega]
        simp only [Int.natCast_add]
      · simp only [ScanR.down]
        rw [show i + d + skipS false rest - ((nlS (rest.take (skipS false rest)) i (line, start)).2 + d) = i + skipS false rest - (nlS (rest.take (skipS false rest)) i (line, start)).2 by omega]
        simp only [Int.natCast_add]
/-- The tokens of two texts with a line feed between them. -/
theorem scan_two (s t : List UInt8) {l m : List Tok} (h1 : scanS (s.length + 1) s 0 1 0 [] = .ok l) (h2 : scanS (t.length + 1) t 0 1 0 [] = .ok m) :
    ∃ ts0 e, l = ts0 ++ [e] ∧ scanS ((s ++ 10 :: t).length + 1) (s ++ 10 :: t) 0 1 0 [] = .ok (ts0 ++ m.map (Tok.down (nlS s 0 (1, 0)).1)) := by
  obtain ⟨ts0, e, e1, e2⟩ := fol_nl t s.length false s 0 1 0 [] l rfl h1
  refine ⟨ts0, e, by simpa using e1, ?_⟩
  rw [scan_C, e2, List.nil_append]
  have := scan_shift (0 + s.length + 1) (nlS s 0 (1, 0)).1 ts0 (t.length + 1) t 0 1 0 [] (by omega)
  rw [h2] at this
  simp only [ScanR.down, List.map_nil, List.append_nil, Nat.zero_add] at this
  rw [← this, scan_C]
  simp only [Nat.zero_add]
  rw [Nat.add_comm (nlS s 0 (1, 0)).1 1]
end Go.Proofs.Ytoajpgclgdhhlaa

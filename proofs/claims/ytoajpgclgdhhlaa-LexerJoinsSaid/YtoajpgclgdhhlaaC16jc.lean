/-
  Pretty, the model's pretty, and the contract of LexerJoins.
-/
import Derived.Test.YtoajpgclgdhhlaaC16jb
import Derived.Test.YtoajpgclgdhhlaaW16y
namespace Go.Proofs.Ytoajpgclgdhhlaa.W
set_option linter.unusedVariables false
set_option linter.unusedSimpArgs false
set_option linter.unnecessarySimpa false
set_option linter.unusedSectionVars false
open Go.RowKit Go.Shelf
set_option maxRecDepth 1000000
/-- The text in lines: what is out, the line, how deep, the token before. -/
def prS : List Tok → List UInt8 → List UInt8 → Nat → List UInt8 → List UInt8
  | [], out, line, _, _ => if (line == []) = true then out else out ++ line ++ [10]
  | t :: ts, out, line, op, before =>
    let c := t.text == [125] && !(line == [])
    let out1 := if c = true then out ++ line ++ [10] else out
    let line1 := if c = true then [] else line
    let op1 := if (t.text == [125]) = true then op - 1 else op
    let line2 := if (line1 == []) = true then Lib.repeatL [32, 32] op1 else if (!(t.text == [44]) && (!(t.text == [59]) && (!(t.text == [41]) && !(before == [40])))) = true then line1 ++ [32] else line1
    let op2 := if (t.text == [123]) = true then op1 + 1 else op1
    if (t.text == [123] || (t.text == [59] || t.text == [125])) = true then prS ts (out1 ++ (line2 ++ t.text) ++ [10]) [] op2 t.text else prS ts out1 (line2 ++ t.text) op2 t.text
theorem bsE (c : UInt8) : (⟨#[c]⟩ : ByteArray).toList = [c] := bs_toList [c]
theorem bsE0 : (⟨#[]⟩ : ByteArray).toList = [] := bs_toList []
theorem bs_app (a b : List UInt8) : bs a ++ bs b = bs (a ++ b) := by apply ByteArray.ext; simp [bs]
theorem bs_app1 (a : List UInt8) (c : UInt8) : bs a ++ (⟨#[c]⟩ : ByteArray) = bs (a ++ [c]) := by apply ByteArray.ext; simp [bs]
/-! ### the model -/
def prP (s : List UInt8) : PV := .tuple [.str (bs s), .int .i64 0]
theorem rep_snoc (k : Nat) (l : List UInt8) : Lib.repeatL l (k + 1) = Lib.repeatL l k ++ l := by
  induction k with
  | zero => simp [Lib.repeatL]
  | succ k ih =>
    show l ++ Lib.repeatL l (k + 1) = (l ++ Lib.repeatL l k) ++ l
    rw [ih, List.append_assoc]
theorem ind17 (b : List Tok) (t : List UInt8) (out : List UInt8) (op : Nat) (k : Nat) (hop : op ≤ 1000) : ∀ (m j : Nat), j + m = op → g17_L17 (b.map tokP) (bs t) (bs out) (bs (Lib.repeatL [32, 32] j)) (op : Int) (k : Int) (j : Int) = g17_J22 (b.map tokP) (bs t) (bs out) (bs (Lib.repeatL [32, 32] op)) (op : Int) (k : Int) := by
  intro m
  induction m with
  | zero =>
    intro j hj
    have : j = op := by omega
    subst this
    rw [g17_L17_eq, decF (by omega), bsel_false]
  | succ m ih =>
    intro j hj
    have hl := Lib.repeatL_length [32, 32] j
    rw [g17_L17_eq, decT (by omega), bsel_true, chk_of (decT (by rw [bs_size, hl]; show j * 2 + 2 ≤ LIM; unfold LIM; omega)), wrs (by omega)]
    have := ih (j + 1) (by omega)
    rw [rep_snoc] at this
    rw [show bs (Lib.repeatL [32, 32] j) ++ (⟨#[32, 32]⟩ : ByteArray) = bs (Lib.repeatL [32, 32] j ++ [32, 32]) by apply ByteArray.ext; simp [bs]]
    exact this
/-- Behind the blanks: the token's text, and the line's end. -/
theorem tail17 (b : List Tok) (t : Tok) (out line : List UInt8) (op k : Nat) (hop : op ≤ 1000) (hk : k ≤ 1000) (hsz : out.length + line.length ≤ 1000000) (ht : t.text.length ≤ 40) :
    g17_J22 (b.map tokP) (bs t.text) (bs out) (bs line) (op : Int) (k : Int) =
      if (t.text == [123] || (t.text == [59] || t.text == [125])) = true then g17_L8 (b.map tokP) (bs (out ++ (line ++ t.text) ++ [10])) ((if (t.text == [123]) = true then op + 1 else op : Nat) : Int) (bs t.text) ((k + 1 : Nat) : Int) ⟨#[]⟩
      else g17_L8 (b.map tokP) (bs out) ((if (t.text == [123]) = true then op + 1 else op : Nat) : Int) (bs t.text) ((k + 1 : Nat) : Int) (bs (line ++ t.text)) := by
  have c1 : decide ((bs out).size + (bs (line ++ t.text)).size ≤ LIM) = true := decT (by rw [bs_size, bs_size, List.length_append]; unfold LIM; omega)
  have c2 : decide ((bs (out ++ (line ++ t.text))).size + (⟨#[10]⟩ : ByteArray).size ≤ LIM) = true := decT (by rw [bs_size, List.length_append, List.length_append]; show _ + 1 ≤ LIM; unfold LIM; omega)
  rw [g17_J22_eq, chk_of (decT (by rw [bs_size, bs_size]; unfold LIM; omega)), bs_toList, bsE, wrs (k := op) (by omega), bs_app]
  simp only [g17_J25_eq, bs_toList, bsE, bs_app, bs_app1, c1, c2]
  rw [wrs (k := k) (by omega)]
  cases h1 : t.text == [123] with
  | true => simp only [bsel_true, Bool.true_or, if_true]; rfl
  | false =>
    cases h2 : t.text == [59] with
    | true => simp only [bsel_true, bsel_false, Bool.true_or, Bool.false_or, if_true, Bool.false_eq_true, if_false]; rfl
    | false =>
      cases h3 : t.text == [125] with
      | true => simp only [bsel_true, bsel_false, Bool.false_or, if_true, Bool.false_eq_true, if_false]; rfl
      | false => simp only [bsel_false, Bool.false_or, Bool.false_eq_true, if_false]
theorem m17L (b : List Tok) (h : Few b) : ∀ (m k : Nat) (out line : List UInt8) (op : Nat) (before : List UInt8), k + m = b.length → op ≤ k → out.length + line.length ≤ k * 1000 →
    g17_L8 (b.map tokP) (bs out) (op : Int) (bs before) (k : Int) (bs line) = Ret (prP (prS (b.drop k) out line op before)) := by
  have hb := h.1
  intro m
  induction m with
  | zero =>
    intro k out line op before hk hop hsz
    rw [g17_L8_eq, decF (by rw [List.length_map]; omega), bsel_false, List.drop_eq_nil_of_le (by omega), prS, bs_toList, bsE0]
    cases hl : line == [] with
    | true => rfl
    | false =>
      rw [Bool.not_false, bsel_true, chk_of (decT (by rw [bs_size, bs_size]; unfold LIM; omega)), bs_app, chk_of (decT (by rw [bs_size, List.length_append]; show _ + 1 ≤ LIM; unfold LIM; omega)), bs_app1]
      rfl
  | succ m ih =>
    intro k out line op before hk hop hsz
    have hkl : k < b.length := by omega
    have h1 : b[k]? = some b[k] := List.getElem?_eq_getElem hkl
    have ht := h.2 b[k] (List.getElem_mem _)
    rw [List.drop_eq_getElem_cons hkl, prS]
    generalize htk : b[k] = t at *
    -- behind the first line end
    have hJ13 : ∀ (out1 line1 : List UInt8), out1.length + line1.length ≤ k * 1000 + 1 → (∀ (op1 : Nat), op1 = (if (t.text == [125]) = true then op - 1 else op) → ∀ line2, line2 = (if (line1 == []) = true then Lib.repeatL [32, 32] op1 else if (!(t.text == [44]) && (!(t.text == [59]) && (!(t.text == [41]) && !(before == [40])))) = true then line1 ++ [32] else line1) →
        g17_J13 (b.map tokP) (bs t.text) (bs out1) (op : Int) (bs before) (k : Int) (bs line1) = Ret (prP (if (t.text == [123] || (t.text == [59] || t.text == [125])) = true then prS (b.drop (k + 1)) (out1 ++ (line2 ++ t.text) ++ [10]) [] (if (t.text == [123]) = true then op1 + 1 else op1) t.text else prS (b.drop (k + 1)) out1 (line2 ++ t.text) (if (t.text == [123]) = true then op1 + 1 else op1) t.text))) := by
      intro out1 line1 hs1 op1 hop1 line2 hl2
      have hop1' : op1 ≤ op := by subst hop1; split <;> omega
      have eop : g17_J13 (b.map tokP) (bs t.text) (bs out1) (op : Int) (bs before) (k : Int) (bs line1) = g17_J15 (b.map tokP) (bs t.text) (bs out1) (bs line1) (op1 : Int) (bs before) (k : Int) := by
        rw [g17_J13_eq, bs_toList, bsE]
        cases h5 : t.text == [125] with
        | true =>
          rw [h5, if_pos rfl] at hop1
          rw [bsel_true, wrap64 (by omega) (by omega)]
          congr 1
          split <;> omega
        | false =>
          rw [h5, if_neg (by decide)] at hop1
          rw [bsel_false, hop1]
      have e15 : g17_J15 (b.map tokP) (bs t.text) (bs out1) (bs line1) (op1 : Int) (bs before) (k : Int) = g17_J22 (b.map tokP) (bs t.text) (bs out1) (bs line2) (op1 : Int) (k : Int) := by
        rw [g17_J15_eq]
        simp only [bs_toList, bsE, bsE0, bs_app1]
        rw [chk_of (decT (by rw [bs_size]; show _ + 1 ≤ LIM; unfold LIM; omega))]
        cases hl : line1 == [] with
        | true =>
          rw [hl, if_pos rfl] at hl2
          have : line1 = [] := by simpa using hl
          subst this
          rw [bsel_true, hl2]
          exact ind17 b t.text out1 op1 k (by omega) op1 0 (by omega)
        | false =>
          rw [hl, if_neg (by decide)] at hl2
          rw [bsel_false, hl2]
          cases t.text == [44] <;> cases t.text == [59] <;> cases t.text == [41] <;> cases before == [40] <;> rfl
      have hl2l : out1.length + line2.length ≤ k * 1000 + 1 + 100 := by
        have hr := Lib.repeatL_length [32, 32] op1
        simp only [List.length_cons, List.length_nil] at hr
        subst hl2
        split
        · omega
        · split
          · rw [List.length_append, List.length_singleton]; omega
          · omega
      rw [eop, e15, tail17 b t out1 line2 op1 k (by omega) (by omega) (by omega) ht]
      have hop2 : (if (t.text == [123]) = true then op1 + 1 else op1) ≤ k + 1 := by split <;> omega
      split
      · exact ih (k + 1) _ [] _ _ (by omega) hop2 (by simp only [List.length_append, List.length_cons, List.length_nil]; omega)
      · exact ih (k + 1) _ _ _ _ (by omega) hop2 (by simp only [List.length_append]; omega)
    rw [g17_L8_eq, decT (by rw [List.length_map]; omega), bsel_true, lget_tok h1, v29_tok]
    simp only [bs_toList, bsE, bsE0, bs_app, bs_app1]
    rw [chk_of (decT (by rw [bs_size, bs_size]; unfold LIM; omega)), chk_of (decT (by rw [bs_size, List.length_append]; show _ + 1 ≤ LIM; unfold LIM; omega))]
    cases h5 : t.text == [125] with
    | true =>
      cases hl : line == [] with
      | true =>
        have := hJ13 out line (by omega) _ rfl _ rfl
        rw [h5, hl] at this
        simpa only [bsel_true, bsel_false, Bool.not_true, Bool.and_false, Bool.true_and, if_true, Bool.false_eq_true, if_false, hl] using this
      | false =>
        have := hJ13 (out ++ line ++ [10]) [] (by simp only [List.length_append, List.length_cons, List.length_nil]; omega) _ rfl _ rfl
        rw [h5] at this
        rw [show (⟨#[]⟩ : ByteArray) = bs [] from rfl]
        simpa only [bsel_true, bsel_false, Bool.not_false, Bool.and_self, Bool.true_and, if_true, Bool.false_eq_true, if_false] using this
    | false =>
      have := hJ13 out line (by omega) _ rfl _ rfl
      rw [h5] at this
      simpa only [bsel_false, Bool.false_and, Bool.false_eq_true, if_false] using this
end Go.Proofs.Ytoajpgclgdhhlaa.W

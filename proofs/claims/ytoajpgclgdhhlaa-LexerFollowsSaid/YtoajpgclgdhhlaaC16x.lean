/-
  The contract of LexerFollows.
-/
import Derived.Test.YtoajpgclgdhhlaaPQ16
import Derived.Test.YtoajpgclgdhhlaaC16w
import Derived.Test.YtoajpgclgdhhlaaW16f
namespace Go.Proofs.Ytoajpgclgdhhlaa.W
set_option linter.unusedVariables false
set_option linter.unusedSimpArgs false
set_option linter.unnecessarySimpa false
set_option linter.unusedSectionVars false
open Go.RowKit
set_option maxRecDepth 1000000
/-- The loop over the second text's tokens, and the end. -/
theorem fol16 (s t : List UInt8) (hs : s.length ≤ 200) (ht : t.length ≤ 200) (m pre : List Tok) (L : Nat) (hL : L ≤ 1000) (hm : m.length ≤ 1000) (hp : pre.length ≤ 1000) (hml : ∀ x, x ∈ m → 0 ≤ x.line ∧ x.line ≤ 1000)
    (hall : scanS ((s ++ 10 :: t).length + 1) (s ++ 10 :: t) 0 1 0 [] = .ok (pre ++ m.map (Tok.down L))) : ∀ (n k : Nat), k + n = m.length →
    g6_L16 (bs s) (bs t) (m.map tokP) ((pre ++ (m.take k).map (Tok.down L)).map tokP) (k : Int) (L : Int) = Ret (.bool true) := by
  intro n
  induction n with
  | zero =>
    intro k hk
    have hcat : (bs s ++ (⟨#[10]⟩ : ByteArray)) ++ bs t = bs (s ++ 10 :: t) := by
      apply ByteArray.ext
      simp [bs]
    have hsz : (bs s ++ (⟨#[10]⟩ : ByteArray)).size = s.length + 1 := by
      rw [ByteArray.size_append, bs_size]; rfl
    rw [g6_L16_eq, decF (by rw [List.length_map]; omega), bsel_false, chk_of (decT (by rw [bs_size]; show s.length + 1 ≤ LIM; unfold LIM; omega)), chk_of (decT (by rw [hsz, bs_size]; unfold LIM; omega)), hcat, clX_of (c12 _)]
    unfold scanT
    rw [if_neg (by rw [List.length_append, List.length_cons]; omega), hall]
    simp only [scanP, w_24_3_3_3_mk]
    rw [eqB_T rfl, bsel_true, List.take_of_length_le (by omega), clX_of (m18 _ (by rw [List.length_append, List.length_map]; omega)), vB_mk]
  | succ n ih =>
    intro k hk
    have hk' : m[k]? = some m[k] := List.getElem?_eq_getElem (by omega)
    have hb := hml m[k] (List.getElem_mem _)
    rw [g6_L16_eq, decT (by rw [List.length_map]; omega), bsel_true, lget_tok hk', v29_tok, chk_of (decT (by rw [List.length_map, List.length_append, List.length_map, List.length_take]; unfold LIM; omega)), wrs (by omega), wrap64 (by omega) (by omega)]
    have := ih (k + 1) (by omega)
    rw [List.take_succ_eq_append_getElem (by omega)] at this
    simp only [List.map_append, List.map_cons, List.map_nil, ← List.append_assoc] at this ⊢
    exact this
theorem count16 (s t : List UInt8) (hs : s.length ≤ 200) (l m : List Tok) (hl0 : 0 < l.length) (hl : l.length ≤ 1000) (r : R)
    (hr : g6_L16 (bs s) (bs t) (m.map tokP) ((l.take (l.length - 1)).map tokP) 0 ((lnS s s.length).1 : Nat) = r) : ∀ (n i : Nat), i + n = s.length →
    g6_L10 (bs s) (bs t) (l.map tokP) (m.map tokP) ((lnS s i).1 : Nat) (i : Int) = r := by
  intro n
  induction n with
  | zero =>
    intro i hi
    have : i = s.length := by omega
    subst this
    have e1 : IntKind.i64.wrap ((l.length : Int) - 1) = ((l.length - 1 : Nat) : Int) := by rw [wrap64 (by omega) (by omega)]; omega
    rw [g6_L10_eq, decF (by rw [bs_size]; omega), bsel_false, List.length_map, e1, chk_of (by rw [decT (by omega), decT (by omega)]; rfl), show (((l.length - 1 : Nat) : Int)).toNat = l.length - 1 from rfl, chk_of (decT (by rw [List.length_take]; unfold LIM; omega)), ← List.map_take]
    exact hr
  | succ n ih =>
    intro i hi
    have hb : s[i]? = some s[i] := List.getElem?_eq_getElem (by omega)
    have hln := ln_succ s i hb
    have hbd := ln_bound s i
    rw [g6_L10_eq, decT (by rw [bs_size]; omega), bsel_true, byteX_of (b := s[i]) (by omega) (by rw [bs_get]; simpa using hb), wrs (k := i) (by omega)]
    by_cases h10 : s[i] = 10
    · rw [h10, show (((10 : UInt8).toNat : Int) == 10) = true from rfl, bsel_true, wrap64 (by omega) (by omega)]
      rw [if_pos h10] at hln
      have := ih (i + 1) (by omega)
      rw [hln] at this
      exact this
    · rw [show ((s[i].toNat : Int) == 10) = false from u8_F (c := 10) h10, bsel_false]
      rw [if_neg h10] at hln
      have := ih (i + 1) (by omega)
      rw [hln] at this
      exact this
theorem pl_lines {full : List UInt8} : ∀ {i : Nat} {ts : List Tok}, PlL full i ts → ∀ t, t ∈ ts → 0 ≤ t.line ∧ t.line ≤ full.length + 1
  | _, [], h => h.elim
  | i, t :: ts, h => by
    intro x hx
    rcases h with ⟨rfl, _, _, _, h1, _⟩ | ⟨_, o, _, _, _, _, h1, _, h⟩
    · simp at hx; subst hx
      have := ln_bound full full.length
      omega
    · rcases List.mem_cons.1 hx with hx | hx
      · subst hx
        have := ln_bound full o
        omega
      · exact pl_lines h x hx
/-- LexerFollows says true. -/
theorem c6 (s t : List UInt8) : SS.CC 6 [.str (bs s), .str (bs t)] [] = Ret (.bool true) := by
  have hk : ∀ {K : PV → R}, clX SS.CC 11 [] K = K (.bool true) := fun {K} => clX_of c11
  rw [g6_eq, hk, vB_mk, Bool.not_true, bsel_false, bs_size, bs_size]
  by_cases h3 : 200 < s.length
  · rw [decT (by omega), bsel_true, hk, vB_mk]
  · rw [decF (by omega), bsel_false]
    by_cases h4 : 200 < t.length
    · rw [decT (by omega), bsel_true, hk, vB_mk]
    · have h12 : ∀ (x : List UInt8) {K : PV → R}, clX SS.CC 12 [.str (bs x)] K = K (scanP (scanT x)) := fun x {K} => clX_of (c12 x)
      rw [decF (by omega), bsel_false]
      simp only [h12]
      unfold scanT
      rw [if_neg (by omega), if_neg (by omega)]
      cases h1 : scanS (s.length + 1) s 0 1 0 [] with
      | err a b e =>
        have he := scan_err _ _ _ _ _ _ (by omega) h1
        have hb : (e != 0) = true := by simp [bne_iff_ne, he]
        cases scanS (t.length + 1) t 0 1 0 [] <;> simp only [scanP, w_24_3_3_3_mk, hb, bsel_true]
      | ok l =>
        cases h2 : scanS (t.length + 1) t 0 1 0 [] with
        | err a b e =>
          have he := scan_err _ _ _ _ _ _ (by omega) h2
          have hb : (e != 0) = true := by simp [bne_iff_ne, he]
          simp only [scanP, w_24_3_3_3_mk, hb, bsel_true, show ((0 : Int) != 0) = false from rfl, bsel_false]
        | ok m =>
          obtain ⟨l', e1, hpl⟩ := scan_pl s (s.length + 1) s 0 [] l h1 rfl (Nat.zero_le _)
          rw [List.nil_append] at e1; subst e1
          obtain ⟨m', e1, hpm⟩ := scan_pl t (t.length + 1) t 0 [] m h2 rfl (Nat.zero_le _)
          rw [List.nil_append] at e1; subst e1
          obtain ⟨ts0, e, e1, hall⟩ := scan_two s t h1 h2
          have hl := pl_len hpl
          have hm := pl_len hpm
          have hl0 : l.length = ts0.length + 1 := by rw [e1, List.length_append]; rfl
          simp only [scanP, w_24_3_3_3_mk, show ((0 : Int) != 0) = false from rfl, bsel_false]
          rw [List.length_map, show ((l.length : Int) == 0) = false from eqB_N (by omega), bsel_false]
          have hln : (nlS s 0 (1, 0)).1 = (lnS s s.length).1 := by unfold lnS; rw [List.take_length]
          have hb := ln_bound s s.length
          rw [hln] at hall
          refine count16 s t (by omega) l m (by omega) (by omega) _ ?_ s.length 0 (by omega)
          rw [show l.take (l.length - 1) = ts0 by rw [hl0, e1, Nat.add_sub_cancel, List.take_left]]
          have := fol16 s t (by omega) (by omega) m ts0 (lnS s s.length).1 (by omega) (by omega) (by omega) (fun x hx => by have := pl_lines hpm x hx; omega) hall m.length 0 (by omega)
          rw [List.take_zero, List.map_nil, List.append_nil] at this
          exact this
theorem c6s (s t : ByteArray) : SS.CC 6 [.str s, .str t] [] = Ret (.bool true) := by
  have := c6 s.data.toList t.data.toList
  rwa [bs_data, bs_data] at this
end Go.Proofs.Ytoajpgclgdhhlaa.W

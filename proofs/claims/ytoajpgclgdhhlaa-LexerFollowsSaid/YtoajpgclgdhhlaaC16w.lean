/-
  The contract of LexerScans.
-/
import Derived.Test.YtoajpgclgdhhlaaC16v
import Derived.Test.YtoajpgclgdhhlaaC16r
import Derived.Test.YtoajpgclgdhhlaaW16t
namespace Go.Proofs.Ytoajpgclgdhhlaa.W
set_option linter.unusedVariables false
set_option linter.unusedSimpArgs false
set_option linter.unnecessarySimpa false
set_option linter.unusedSectionVars false
open Go.RowKit
set_option maxRecDepth 1000000
/-! ### the same tokens -/
theorem m18L (ts : List Tok) (hl : ts.length ≤ 1000000) : ∀ (m k : Nat), k + m = ts.length → g18_L5 (ts.map tokP) (ts.map tokP) (k : Int) = Ret (.bool true) := by
  intro m
  induction m with
  | zero =>
    intro k hk
    rw [g18_L5_eq, decF (by rw [List.length_map]; omega), bsel_false]
  | succ m ih =>
    intro k hk
    have hk' : ts[k]? = some ts[k] := List.getElem?_eq_getElem (by omega)
    rw [g18_L5_eq, decT (by rw [List.length_map]; omega), bsel_true, lget_tok hk', v29_tok, lget_tok hk', v29_tok]
    simp only [BEq.rfl, Bool.and_self, Bool.not_true, bsel_false]
    rw [wrs (by omega)]
    exact ih (k + 1) (by omega)
theorem m18 (ts : List Tok) (hl : ts.length ≤ 1000000) : SS.CC 18 [.sl false 5 (ts.map tokP), .sl false 5 (ts.map tokP)] [] = Ret (.bool true) := by
  rw [g18_eq, show (((ts.map tokP).length : Int) != ((ts.map tokP).length : Int)) = false by simp, bsel_false]
  exact m18L ts hl ts.length 0 (by omega)
/-! ### names -/
def NameS (x : List UInt8) : Prop := 0 < x.length ∧ x.length ≤ 32 ∧ ∀ (j : Nat) c, x[j]? = some c → isLet c.toNat = true ∨ (isDig c.toNat = true ∧ j ≠ 0)
theorem isLet_iff {n : Nat} : isLet n = true ↔ (97 ≤ n ∧ n ≤ 122) ∨ (65 ≤ n ∧ n ≤ 90) ∨ n = 95 := by simp [isLet]
theorem m21L (x : List UInt8) (hx : NameS x) : ∀ (m k : Nat), k + m = x.length → g21_L3 (bs x) (k : Int) = Ret (.bool true) := by
  obtain ⟨h0, h1, h2⟩ := hx
  intro m
  induction m with
  | zero =>
    intro k hk
    rw [g21_L3_eq, bs_size, decF (by omega), bsel_false, decT (by omega), bsel_true, decT (by omega)]
  | succ m ih =>
    intro k hk
    have hb : x[k]? = some x[k] := List.getElem?_eq_getElem (by omega)
    have hc := h2 k _ hb
    have hn := ih (k + 1) (by omega)
    rw [g21_L3_eq, bs_size, decT (by omega), bsel_true, byteX_of (b := x[k]) (by omega) (by rw [bs_get]; simpa using hb), wrs (by omega), hn]
    generalize x[k].toNat = n at hc
    rw [isLet_iff, isDig_iff] at hc
    simp only [bsel_ite, decide_eq_true_eq, Bool.not_eq_true', beq_iff_eq, beq_eq_false_iff_ne, ne_eq]
    repeat' split
    all_goals first | rfl | (exfalso; omega)
theorem m21 (x : List UInt8) (hx : NameS x) : SS.CC 21 [.str (bs x)] [] = Ret (.bool true) := by
  rw [g21_eq]; exact m21L x hx x.length 0 (by omega)
theorem read_name {b : UInt8} {r : List UInt8} (h : (readS (b :: r)).2 = 0) (hk : (readS (b :: r)).1.kind = 1) : NameS (readS (b :: r)).1.text := by
  rw [show readS (b :: r) = if isDig b.toNat then numberS (b :: r) else if isLet b.toNat then wordS (b :: r) else symbolS (b :: r) from rfl] at h hk ⊢
  split
  · rename_i hd
    exfalso
    simp only [hd, if_true] at h hk
    unfold numberS at h hk
    split at h
    · cases h
    · rename_i c1
      rw [if_neg c1] at hk
      split at h
      · cases h
      · rename_i c2
        rw [if_neg c2] at hk
        split at h
        · cases h
        · rename_i n hn
          rw [hn] at hk
          exact absurd hk (by show ¬ (2 : Int) = 1; decide)
  · rename_i hd
    simp only [hd] at h hk
    split
    · rename_i hw
      have h1 := run_pos (p := isW) (b := b) (l := r) (by simp [isW, hw])
      simp only [hw, if_true] at h
      unfold wordS at h ⊢
      by_cases c : 32 < (runS isW (b :: r)).length
      · simp [c] at h
      · simp only [if_neg c]
        refine ⟨h1, by omega, fun j c hj => ?_⟩
        have hm := runS_mem (List.mem_of_getElem? hj)
        cases j with
        | zero =>
          left
          have : (runS isW (b :: r))[0]? = some b := by unfold runS; rw [List.takeWhile_cons, show isW b.toNat = true by simp [isW, hw]]; rfl
          rw [this] at hj; injection hj with hj; subst hj; exact hw
        | succ j =>
          unfold isW at hm
          simp at hm
          rcases hm with h | h
          · exact .inl h
          · exact .inr ⟨h, by omega⟩
    · rename_i hw
      exfalso
      simp only [hw] at h hk
      unfold symbolS at h hk
      cases hs : symOf (b :: r) with
      | none => simp [hs] at h
      | some x => rw [hs] at hk; exact absurd hk (by show ¬ (3 : Int) = 1; decide)
theorem scan_names : ∀ (f : Nat) (rest : List UInt8) (i line start : Nat) (acc ts : List Tok), scanS f rest i line start acc = .ok ts → (∀ t, t ∈ acc → t.kind = 1 → NameS t.text) → ∀ t, t ∈ ts → t.kind = 1 → NameS t.text
  | 0, _, _, _, _, _, _, h, _ => by cases h
  | f + 1, rest, i, line, start, acc, ts, h, ha => by
    unfold scanS at h
    simp only at h
    split at h
    · injection h with h
      subst h
      intro t ht hk
      rcases List.mem_append.1 ht with ht | ht
      · exact ha t ht hk
      · simp at ht; subst ht; exact absurd hk (by show ¬ (4 : Int) = 1; decide)
    · rename_i b r hcons
      split at h
      · rename_i h0
        refine scan_names f _ _ _ _ _ ts h fun t ht hk => ?_
        rcases List.mem_append.1 ht with ht | ht
        · exact ha t ht hk
        · simp only [List.mem_singleton] at ht; subst ht; exact read_name h0 hk
      · cases h
theorem m8L (ts : List Tok) (a b e : Int) (hl : ts.length ≤ 1000000) (hnm : ∀ t, t ∈ ts → t.kind = 1 → NameS t.text) : ∀ (m k : Nat), k + m = ts.length → g8_L7 (ts.map tokP) a b e (ts.map tokP) a b e (k : Int) = Ret (.bool true) := by
  intro m
  induction m with
  | zero =>
    intro k hk
    rw [g8_L7_eq, decF (by rw [List.length_map]; omega), bsel_false, clX_of (m18 ts hl), vB_mk, bsel_true, eqB_T rfl, bsel_true, eqB_T rfl, bsel_true, eqB_T rfl]
  | succ m ih =>
    intro k hk
    have hk' : ts[k]? = some ts[k] := List.getElem?_eq_getElem (by omega)
    have hgo := ih (k + 1) (by omega)
    rw [g8_L7_eq, decT (by rw [List.length_map]; omega), bsel_true, lget_tok hk', v29_tok, wrs (by omega), hgo]
    by_cases h1 : ts[k].kind = 1
    · rw [eqB_T h1, bsel_true, lget_tok hk', v29_tok, clX_of (m21 _ (hnm _ (List.getElem_mem _) h1)), vB_mk, Bool.not_true, bsel_false]
    · rw [eqB_F h1, bsel_false]
/-- LexerScans says true. -/
theorem c8 (full : List UInt8) : SS.CC 8 [.str (bs full)] [] = Ret (.bool true) := by
  have hk : ∀ {K : PV → R}, clX SS.CC 11 [] K = K (.bool true) := fun {K} => clX_of c11
  rw [g8_eq, hk, vB_mk, Bool.not_true, bsel_false, bs_size]
  by_cases h3 : 400 < full.length
  · rw [decT (by omega), bsel_true, hk, vB_mk]
  · rw [decF (by omega), bsel_false, clX_of (c12 full)]
    have h20 : ∀ {K : PV → R}, clX SS.CC 20 [.str (bs full)] K = K (scanP (scanT full)) := fun {K} => clX_of (m20 full (by omega))
    simp only [h20]
    unfold scanT
    rw [if_neg (by omega)]
    cases hs : scanS (full.length + 1) full 0 1 0 [] with
    | err a b e =>
      simp only [scanP, w_24_3_3_3_mk]
      exact m8L [] a b e (by simp) (by simp) 0 0 rfl
    | ok ts =>
      obtain ⟨ts', e1, hpl⟩ := scan_pl full (full.length + 1) full 0 [] ts hs rfl (Nat.zero_le _)
      rw [List.nil_append] at e1; subst e1
      simp only [scanP, w_24_3_3_3_mk]
      exact m8L ts 0 0 0 (by have := pl_len hpl; omega) (scan_names _ _ _ _ _ _ _ hs (by simp)) ts.length 0 (by omega)
theorem c8s (s : ByteArray) : SS.CC 8 [.str s] [] = Ret (.bool true) := by
  have := c8 s.data.toList
  rwa [bs_data] at this
end Go.Proofs.Ytoajpgclgdhhlaa.W

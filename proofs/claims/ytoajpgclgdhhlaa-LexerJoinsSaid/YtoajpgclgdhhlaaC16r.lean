/-
  The contract of LexerPlaces.
-/
import Derived.Test.YtoajpgclgdhhlaaPP16
import Derived.Test.YtoajpgclgdhhlaaK16
import Derived.Test.YtoajpgclgdhhlaaW16p
namespace Go.Proofs.Ytoajpgclgdhhlaa.W
set_option linter.unusedVariables false
set_option linter.unusedSimpArgs false
set_option linter.unnecessarySimpa false
set_option linter.unusedSectionVars false
open Go.RowKit
set_option maxRecDepth 1000000
theorem c12s (s : ByteArray) : SS.CC 12 [.str s] [] = Ret (scanP (scanT s.data.toList)) := by
  rw [CC_eq SS_ok]; rfl
theorem c12 (full : List UInt8) : SS.CC 12 [.str (bs full)] [] = Ret (scanP (scanT full)) := by
  rw [c12s]; rfl
theorem v29_tok (t : Tok) (K : Int → ByteArray → Int → Int → Int → R) : v29 (tokP t) K = K t.kind (bs t.text) t.value t.line t.col := rfl
theorem lget_tok {ts : List Tok} {k : Nat} {t : Tok} {K : PV → R} (h : ts[k]? = some t) : lgetX (ts.map tokP) (k : Int) K = K (tokP t) :=
  lgetX_of (by omega) (by rw [Int.toNat_natCast, List.getElem?_map, h]; rfl)
theorem drop_cons_get {α : Type} {l : List α} {k : Nat} {a : α} {tl : List α} (h : l.drop k = a :: tl) : l[k]? = some a ∧ l.drop (k + 1) = tl ∧ k < l.length := by
  have h1 : l[k]? = some a := by
    have := congrArg (fun x => x[0]?) h
    simpa using this
  have h2 := (List.getElem?_eq_some_iff.1 h1).1
  refine ⟨h1, ?_, h2⟩
  rw [List.drop_eq_getElem_cons h2] at h
  injection h
theorem eqB_F {a b : Int} (h : a ≠ b) : (a == b) = false := by rw [beq_eq_false_iff_ne]; exact h
theorem eqB_T {a b : Int} (h : a = b) : (a == b) = true := by rw [beq_iff_eq]; exact h
theorem places_loop (full : List UInt8) (hn : full.length ≤ 300) (ts : List Tok) (hk0 : ∃ t, ts[ts.length - 1]? = some t ∧ t.kind = 4 ∧ 0 < ts.length) (htl : ts.length ≤ 1000000) : ∀ (m i k : Nat) (line col : Int), i + m = full.length + 1 → k ≤ ts.length →
    (i ≤ full.length → line = ((lnS full i).1 : Nat) ∧ col = ((i - (lnS full i).2 + 1 : Nat) : Int)) → ((PlL full i (ts.drop k) ∧ i ≤ full.length) ∨ (k = ts.length)) →
    g5_L9 (bs full) (ts.map tokP) line (k : Int) (i : Int) col = Ret (.bool true) := by
  have hend : ∀ (line col : Int) (i : Nat), i = full.length + 1 → g5_L9 (bs full) (ts.map tokP) line (ts.length : Int) (i : Int) col = Ret (.bool true) := fun line col i hi => by
    obtain ⟨t, h1, h2, h3⟩ := hk0
    rw [g5_L9_eq, decF (by rw [bs_size]; omega), bsel_false, List.length_map, eqB_T rfl, bsel_true, decT (by omega), bsel_true, wrap64 (by omega) (by omega), show ((ts.length : Int) - 1) = ((ts.length - 1 : Nat) : Int) by omega, lget_tok h1, v29_tok, h2]
    rfl
  intro m
  induction m with
  | zero =>
    intro i k line col hm hk hpos hpl
    rcases hpl with ⟨_, h⟩ | rfl
    · omega
    · exact hend line col i (by omega)
  | succ m ih =>
    intro i k line col hm hk hpos hpl
    have hi : i ≤ full.length := by omega
    obtain ⟨hline, hcol⟩ := hpos hi
    have hlb := ln_bound full i
    have hle := ln_le full i
    -- the step to the next place
    have hJ : ∀ k', k' ≤ ts.length → ((PlL full (i + 1) (ts.drop k') ∧ i + 1 ≤ full.length) ∨ k' = ts.length) → g5_J16 (bs full) (ts.map tokP) (k' : Int) line col (i : Int) = Ret (.bool true) := fun k' hk' hp' => by
      rw [g5_J16_eq, bs_size]
      rcases Nat.lt_or_ge i full.length with hlt | hge
      · have hb : full[i]? = some full[i] := List.getElem?_eq_getElem hlt
        rw [decT (by omega), bsel_true, byteX_of (b := full[i]) (by omega) (by rw [bs_get]; simpa using hb), show ((full[i].toNat : Int) == 10) = (full[i].toNat == 10) from beqN _ 10, wrs (by omega)]
        have hs := ln_succ full i hb
        by_cases h10 : full[i] = 10
        · rw [h10, show ((10 : UInt8).toNat == 10) = true from rfl, bsel_true, wrap64 (by omega) (by omega)]
          rw [if_pos h10] at hs
          exact ih (i + 1) k' _ _ (by omega) hk' (fun _ => by rw [hs]; simp only; omega) hp'
        · have : (full[i].toNat == 10) = false := by
            rw [beq_eq_false_iff_ne]; intro e; exact h10 (UInt8.toNat_inj.1 (by rw [e]; rfl))
          rw [this, bsel_false, wrap64 (by omega) (by omega)]
          rw [if_neg h10] at hs
          exact ih (i + 1) k' _ _ (by omega) hk' (fun _ => by rw [hs]; omega) hp'
      · rw [decF (by omega), bsel_false, wrs (by omega)]
        exact ih (i + 1) k' _ _ (by omega) hk' (fun h => by omega) hp'
    rw [g5_L9_eq, bs_size, decT (by omega), bsel_true, List.length_map]
    rcases hpl with ⟨hpl, _⟩ | hk1
    · cases hd : ts.drop k with
      | nil => rw [hd] at hpl; exact hpl.elim
      | cons t tl =>
        obtain ⟨hg, hdr, hkl⟩ := drop_cons_get hd
        rw [hd] at hpl
        rw [decT (by omega), bsel_true]
        simp only [lget_tok hg, v29_tok]
        -- either the token stands here, or it stands further down
        rcases hpl with ⟨htl0, hkd, htx, _, h1, h2⟩ | ⟨hkd, o, ho, htp, hol, htx, h1, h2, hrest⟩
        · have hk1 : k + 1 = ts.length := by rw [htl0] at hdr; have := List.drop_eq_nil_iff.1 hdr; omega
          by_cases hii : i = full.length
          · subst hii
            rw [h1, h2, eqB_T hline.symm, bsel_true, eqB_T hcol.symm, bsel_true, htx, show ((bs []).size : Int) = 0 from rfl, Int.add_zero, wrap64 (by omega) (by omega), decF (by omega), bsel_false, chk_of (by simp <;> omega), bs_extract, hkd,
              show (!((bs ((full.drop ((full.length : Int)).toNat).take (((full.length : Int)).toNat - ((full.length : Int)).toNat))).toList == (bs []).toList)) = false by simp [bs_toList], bsel_false, eqB_T rfl, eqB_T rfl,
              show (!(true == true)) = false from rfl, bsel_false, wrs (by omega)]
            exact hJ (k + 1) (by omega) (.inr hk1)
          · have hne : ¬ (t.line = line ∧ t.col = col) := fun ⟨e1, e2⟩ => hii (by
              have hL := ln_le full full.length
              have := place_inj (full := full) (o := i) (o' := full.length) hi (Nat.le_refl _) (by omega) (by omega)
              omega)
            have hgo := hJ k (by omega) (.inl ⟨by rw [hd]; exact .inl ⟨htl0, hkd, htx, by omega, h1, h2⟩, by omega⟩)
            by_cases e1 : t.line = line
            · rw [eqB_T e1, bsel_true, eqB_F (fun e2 => hne ⟨e1, e2⟩), bsel_false]; exact hgo
            · rw [eqB_F e1, bsel_false]; exact hgo
        · have hob := ln_bound full o
          by_cases hio : o = i
          · subst hio
            have hsz : ((bs t.text).size : Int) = (t.text.length : Int) := by rw [bs_size]
            rw [h1, h2, eqB_T hline.symm, bsel_true, eqB_T hcol.symm, bsel_true, hsz, wrap64 (by omega) (by omega), decF (by omega), bsel_false, chk_of (by simp <;> omega), bs_extract, show ((o : Int)).toNat = o from rfl,
              show ((o : Int) + (t.text.length : Int)).toNat = o + t.text.length by omega, Nat.add_sub_cancel_left, ← htx, show (!((bs t.text).toList == (bs t.text).toList)) = false by simp, bsel_false, eqB_F hkd, eqB_F (show (o : Int) ≠ full.length by omega),
              show (!(false == false)) = false from rfl, bsel_false, wrs (by omega)]
            exact hJ (k + 1) (by omega) (.inl ⟨by rw [hdr]; exact pl_mono (by omega) hrest, by omega⟩)
          · have hne : ¬ (t.line = line ∧ t.col = col) := fun ⟨e1, e2⟩ => hio (by
              have hL := ln_le full o
              have := place_inj (full := full) (o := i) (o' := o) ho (by omega) (by omega) (by omega)
              omega)
            have hgo := hJ k (by omega) (.inl ⟨by rw [hd]; exact .inr ⟨hkd, o, by omega, htp, hol, htx, h1, h2, hrest⟩, by omega⟩)
            by_cases e1 : t.line = line
            · rw [eqB_T e1, bsel_true, eqB_F (fun e2 => hne ⟨e1, e2⟩), bsel_false]; exact hgo
            · rw [eqB_F e1, bsel_false]; exact hgo
    · subst hk1
      rw [decF (by omega), bsel_false]
      exact hJ ts.length (Nat.le_refl _) (.inr rfl)
theorem pl_len {full : List UInt8} : ∀ {ts : List Tok} {i : Nat}, PlL full i ts → i + ts.length ≤ full.length + 1
  | [], _, h => h.elim
  | t :: ts, i, h => by
    rcases h with ⟨rfl, _, _, h, _⟩ | ⟨_, o, h1, h2, _, _, _, _, h⟩
    · simp; omega
    · have := pl_len h; rw [List.length_cons]; omega
/-- LexerPlaces says true. -/
theorem c5 (full : List UInt8) : SS.CC 5 [.str (bs full)] [] = Ret (.bool true) := by
  have hk : ∀ {K : PV → R}, clX SS.CC 11 [] K = K (.bool true) := fun {K} => clX_of c11
  rw [g5_eq, hk, vB_mk, Bool.not_true, bsel_false, bs_size]
  by_cases h3 : 300 < full.length
  · rw [decT (by omega), bsel_true, hk, vB_mk]
  · rw [decF (by omega), bsel_false, clX_of (c12 full)]
    unfold scanT
    rw [if_neg (by omega)]
    cases hs : scanS (full.length + 1) full 0 1 0 [] with
    | err a b e =>
      have := scan_err _ _ _ _ _ _ (by omega) hs
      simp only [scanP, w_24_3_3_3_mk]
      rw [show (e != 0) = true by simp [bne_iff_ne, this], bsel_true]; rfl
    | ok ts =>
      obtain ⟨ts', e1, hpl⟩ := scan_pl full (full.length + 1) full 0 [] ts hs rfl (Nat.zero_le _)
      rw [List.nil_append] at e1; subst e1
      simp only [scanP, w_24_3_3_3_mk]
      rw [show ((0 : Int) != 0) = false from rfl, bsel_false]
      exact places_loop full (by omega) ts (pl_last hpl) (by have := pl_len hpl; omega) (full.length + 1) 0 0 1 1 (by omega) (by omega) (fun _ => ⟨rfl, rfl⟩) (.inl ⟨hpl, by omega⟩)
theorem c5s (s : ByteArray) : SS.CC 5 [.str s] [] = Ret (.bool true) := by
  have := c5 s.data.toList
  rwa [bs_data] at this
end Go.Proofs.Ytoajpgclgdhhlaa.W

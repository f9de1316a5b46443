/-
  The statement ExpressionValues: what its law answers.
-/
import Derived.Test.YtmclnnpaephkpaaC14g
import Derived.Test.YtmclnnpaephkpaaC14f
import Derived.Test.YtmclnnpaephkpaaK14
import Derived.Test.YtmclnnpaephkpaaT14v
namespace Go.Proofs.Ytmclnnpaephkpaa
set_option linter.unusedVariables false
set_option linter.unusedSimpArgs false
set_option linter.unnecessarySimpa false
set_option linter.unusedSectionVars false
open Go.RowKit

def wantK (e : EX) (vs : List Int) (k : Nat) : Int := if (checkS e vs.length).2 ≠ 0 then (checkS e vs.length).2 else if (vs.take k).any (fun n => largeS n 65536) then 2 else 0
def wantS (e : EX) (vs : List Int) : Int := if (checkS e vs.length).2 ≠ 0 then (checkS e vs.length).2 else if vs.any (fun n => largeS n 65536) then 2 else 0
theorem evaluateS_want (e : EX) (vs : List Int) : evaluateS e vs = if wantS e vs ≠ 0 then (0, wantS e vs) else match evalE vs e with | none => (0, 17) | some n => (n, 0) := by
  unfold evaluateS wantS
  generalize (checkS e vs.length).2 = q
  cases vs.any fun n => largeS n 65536 <;> by_cases h : q = 0 <;> cases evalE vs e <;> simp [h]
theorem wantK_end (e : EX) (vs : List Int) (k : Nat) (h : wantK e vs k ≠ 0 ∨ vs.length ≤ k) : wantK e vs k = wantS e vs := by
  unfold wantK wantS at *
  split
  · rfl
  · rename_i h0
    rw [if_neg h0] at h
    rcases h with h | h
    · split at h
      · rename_i h1
        rw [if_pos h1, if_pos]
        rw [List.any_eq_true] at h1 ⊢
        obtain ⟨x, hx, h2⟩ := h1
        exact ⟨x, List.mem_of_mem_take hx, h2⟩
      · exact absurd rfl h
    · rw [List.take_of_length_le h]
theorem wantK_next (e : EX) (vs : List Int) (k : Nat) (q : Int) (hq : vs[k]? = some q) (h : wantK e vs k = 0) : wantK e vs (k + 1) = if largeS q 65536 then 2 else 0 := by
  unfold wantK at *
  split at h
  · rename_i h0; exact absurd h h0
  · rename_i h0
    rw [if_neg h0]
    split at h
    · cases h
    · rename_i h1
      rw [List.take_add_one, hq, List.any_append]
      simp only [Bool.not_eq_true] at h1
      rw [h1]
      simp
theorem want_right {e : EX} {vs : List Int} (h : wantS e vs = 0) : RightE vs.length e ∧ ∀ q, q ∈ vs → -65536 ≤ q ∧ q ≤ 65536 := by
  unfold wantS at h
  split at h
  · rename_i h0; exact absurd h h0
  · rename_i h0
    obtain ⟨_, _, h1, h2, h3, _⟩ := check_ok (Decidable.not_not.1 h0)
    split at h
    · cases h
    · rename_i h4
      refine ⟨⟨h1, h2, h3⟩, fun q hq => ?_⟩
      have : ¬ largeS q 65536 = true := fun hl => h4 (List.any_eq_true.2 ⟨q, hq, hl⟩)
      rw [Bool.not_eq_true, largeS_false] at this
      omega
theorem evS_none {e : EX} {vs : List Int} (hw : wantS e vs = 0) (hv : evalE vs e = none) : evaluateS e vs = (0, 17) := by
  rw [evaluateS_want, if_neg (by simp [hw]), hv]
theorem evS_some {e : EX} {vs : List Int} {n : Int} (hw : wantS e vs = 0) (hv : evalE vs e = some n) : evaluateS e vs = (n, 0) := by
  rw [evaluateS_want, if_neg (by simp [hw]), hv]
theorem evS_err {e : EX} {vs : List Int} (hw : wantS e vs ≠ 0) : evaluateS e vs = (0, wantS e vs) := by
  rw [evaluateS_want, if_pos hw]
theorem wantK_0 (e : EX) (vs : List Int) : wantK e vs 0 = (checkS e vs.length).2 := by
  unfold wantK
  split
  · rfl
  · rename_i h; simp at h; simp [h]
theorem l4in (x7 : List PV) (e : EX) (vs : List Int) (hv : vs.length ≤ 18) (x8 : Int) : ∀ (m k : Nat), k + m = vs.length → g4_L10 (encI vs) x7 (wantK e vs k) k x8 = g4_J14 (encI vs) x7 (wantS e vs) x8
  | 0, k, h => by
    rw [g4_L10_eq, decF (by simp; omega), bsel_false, wantK_end e vs k (.inr (by omega))]
  | m + 1, k, h => by
    obtain ⟨y, hy⟩ := get_lt (show k < vs.length by omega)
    rw [g4_L10_eq, decT (by simp; omega), bsel_true]
    by_cases hw : wantK e vs k = 0
    · have hnx := wantK_next e vs k y hy hw
      rw [hw, show ((0 : Int) == 0) = true from rfl, bsel_true, lget_encI hy, vI_mk, clX_of (c19 y 65536 (by omega) (by omega)), vB_mk, wrs (by omega), ← hw]
      rw [← l4in x7 e vs hv x8 m (k + 1) (by omega), hnx]
      cases largeS y 65536
      · rw [bsel_false, hw]; rfl
      · rw [bsel_true]; rfl
    · rw [show (wantK e vs k == 0) = false by simpa using hw, bsel_false, wantK_end e vs k (.inl hw)]
theorem l4out (x7 : List EX) (vs : List Int) (hv : vs.length ≤ 18) (k : Nat) (hk : k ≤ 1) (e : EX) (he : x7[k]? = some e) : g4_L6 (encI vs) (encL x7) k = g4_L6 (encI vs) (encL x7) ((k : Nat) + 1 : Nat) := by
  have hval := c20 e vs (by unfold lenMax; omega)
  have hchk := c15 e vs.length
  rw [g4_L6_eq, decT (by omega), bsel_true, lget_encL he]
  have hin := l4in (encL x7) e vs hv k vs.length 0 (by omega)
  rw [wantK_0] at hin
  have hJ : g4_J14 (encI vs) (encL x7) (wantS e vs) k = g4_L6 (encI vs) (encL x7) ((k : Nat) + 1 : Nat) := by
    rw [g4_J14_eq, lget_encL he]
    have hrt := @want_right e vs
    have hev := evaluateS_want e vs
    have hq := evQ_some vs e
    have c21' : wantS e vs = 0 → SS.CC 21 [encE e, .sl false 1 (encI vs)] [] = Ret (EvV vs e) := fun h => c21 vs (fun q hq => (hrt h).2 q hq) e (hrt h).1
    obtain ⟨o, v, i, l⟩ := e
    rw [encE_eq] at hval c21'
    rw [v23_enc, clX_of hval, w_3_3_mk, wrs (by omega)]
    by_cases hw : wantS (.node o v i l) vs = 0
    · rw [hev, if_neg (by simp [hw]), hw, show ((0 : Int) != 0) = false from rfl, bsel_false, lget_encL he, v23_enc, clX_of (c21' hw)]
      unfold EvV
      cases hx : evalE vs (.node o v i l) with
      | none => simp [hx, w_3_4_mk]
      | some n => simp [hx, w_3_4_mk, hq n hx]
    · rw [hev, if_pos hw, show (wantS (.node o v i l) vs != 0) = true by simpa using hw, bsel_true]
      simp
  obtain ⟨o, v, i, l⟩ := e
  rw [encE_eq] at hchk
  rw [v23_enc, encI_length, clX_of hchk, w_3_3_mk]
  exact hin.trans hJ
theorem c4 (x : EX) (bytes : List UInt8) (vs : List Int) (hb : bytes.length ≤ lenMax) : SS.CC 4 [encE x, .sl false 1 (encB bytes), .sl false 1 (encI vs)] [] = Ret (.bool true) := by
  have h13 := c13 x
  obtain ⟨o, v, i, l⟩ := x
  rw [encE_eq] at h13
  rw [encE_eq, g4_eq, clX_of c12, vB_mk, Bool.not_true, bsel_false, clX_of h13, vB_mk]
  cases smallE (.node o v i l) with
  | false => rw [Bool.not_false, bsel_true, clX_of c12]; rfl
  | true =>
  rw [Bool.not_true, bsel_false, encI_length, encB_length]
  by_cases h18 : 18 < vs.length
  · rw [decT (by omega), bsel_true, clX_of c12]; rfl
  rw [decF (by omega), bsel_false]
  have h1 : (bytes.length : Int).tmod 2 = (bytes.length : Int) % 2 := Int.tmod_eq_emod_of_nonneg (by omega)
  rw [h1, wr (by omega) (by omega)]
  obtain ⟨mm, hmm, hm0, hm1⟩ : ∃ mm : Int, (if 16 < (vs.length : Int) then 16 else (vs.length : Int)) = mm ∧ 0 ≤ mm ∧ mm ≤ 16 := ⟨_, rfl, by split <;> omega, by split <;> omega⟩
  rw [hmm, clX_of (c18 bytes mm _ hb ⟨hm0, hm1⟩ (by omega)), v23_e, mkE]
  generalize GrowS bytes mm (1 + (bytes.length : Int) % 2) = gx
  have h7 : [PV.agg [.int .i64 o, .int .i64 v, .int .i64 i, .sl false 4 (encL l)], encE gx] = encL [.node o v i l, gx] := by rw [encL, encL, encL, encE_eq]
  have e0 := l4out [.node o v i l, gx] vs (by omega) 0 (by decide) _ rfl
  have e1 := l4out [.node o v i l, gx] vs (by omega) 1 (by decide) _ rfl
  rw [h7]
  refine e0.trans (e1.trans ?_)
  rw [g4_L6_eq]; rfl
end Go.Proofs.Ytmclnnpaephkpaa

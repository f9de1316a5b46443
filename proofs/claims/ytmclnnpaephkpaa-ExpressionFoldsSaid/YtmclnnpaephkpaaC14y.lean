/-
  What the functions of chapter 14 answer: Bounds.
-/
import Derived.Test.YtmclnnpaephkpaaC14x
namespace Go.Proofs.Ytmclnnpaephkpaa
set_option linter.unusedVariables false
set_option linter.unusedSimpArgs false
set_option linter.unnecessarySimpa false
set_option linter.unusedSectionVars false
open Go.RowKit

theorem wp_87 (p : Int × Int) (b : Bool) (K : Int → Int → Bool → R) : w_87_4 (.tuple [encP p, .bool b]) K = K p.1 p.2 b := rfl
theorem encP1 (p : Int × Int) : [PV.agg [.int .i64 p.1, .int .i64 p.2]] = [p].map encP := rfl
theorem mkP (a b : Int) : PV.agg [.int .i64 a, .int .i64 b] = encP (a, b) := rfl
theorem c72' (o : Int) (a b : Int × Int) (h : 6 ≤ o ∧ o ≤ 9) : SS.CC 72 [.int .i64 o, encP (a.1, a.2), encP (b.1, b.2)] [] = Ret (encP (cmpS o a b)) := c72 o a b h
theorem bd_of {o : Option (Int × Int)} {r : R} {p : Int × Int} (h : o = some p) (e : r = Ret (.tuple [encP p, .bool true])) : Bd o r := by
  subst h; exact ⟨p, e, fun q hq => by cases hq; rfl⟩
theorem l52e (rs : List VT) (x v i : Int) (l : List EX) (os : List (Int × Int)) (k : Nat) (hk : l.length = k) (h : SpOK x os) : Bd (boundsOp x os) (g52_L4 (rs.map encV) x v i (encL l) (os.map encP) k) := by
  rcases h with ⟨a, rfl, ⟨rfl, ha⟩ | ⟨rfl, ha, hb⟩⟩ | ⟨a, b, rfl, ho, ha, hb⟩ | ⟨a, b, rfl, ho, ha, hb, sa, sb⟩ | ⟨c, a, b, rfl, rfl, hc, sc, ha, hb⟩
  · obtain ⟨a1, a2, a3⟩ := ha
    rw [g52_L4_eq, decF (by simp; omega), bsel_false]
    simp only [Int.reduceBEq, bsel_true, bsel_false, q0, q1, q2, v87_p, mkP]
    have := j43 (-a.2) (-a.1) [] (by decide) (-a.2) (-a.1) (by simp; omega) (by simp; omega)
    rw [wr (by omega) (by omega), wr (by omega) (by omega)]
    simpa [boundsOp, encI] using this
  · obtain ⟨a1, a2, a3⟩ := ha
    rw [g52_L4_eq, decF (by simp; omega), bsel_false]
    simp only [Int.reduceBEq, bsel_true, bsel_false, q0, q1, q2, v87_p, mkP]
    rw [wr (by omega) (by omega), wr (by omega) (by omega)]
    exact bd_of (p := (1 - a.2, 1 - a.1)) (by simp [boundsOp]) rfl
  · obtain ⟨a1, a2, a3⟩ := ha
    obtain ⟨b1, b2, b3⟩ := hb
    rcases ho with rfl | rfl | rfl | rfl | rfl | rfl | rfl
    ·
      rw [g52_L4_eq, decF (by simp; omega), bsel_false]
      simp only [Int.reduceBEq, bsel_true, bsel_false, q0, q1, q2, v87_p, mkP]
      have := j43 (a.1 + b.1) (a.2 + b.2) [] (by decide) (a.1 + b.1) (a.2 + b.2) (by simp; omega) (by simp; omega)
      rw [wr (by omega) (by omega), wr (by omega) (by omega)]
      simpa [boundsOp, encI] using this
    ·
      rw [g52_L4_eq, decF (by simp; omega), bsel_false]
      simp only [Int.reduceBEq, bsel_true, bsel_false, q0, q1, q2, v87_p, mkP]
      have := j43 (a.1 - b.2) (a.2 - b.1) [] (by decide) (a.1 - b.2) (a.2 - b.1) (by simp; omega) (by simp; omega)
      rw [wr (by omega) (by omega), wr (by omega) (by omega)]
      simpa [boundsOp, encI] using this
    ·
      rw [g52_L4_eq, decF (by simp; omega), bsel_false]
      simp only [Int.reduceBEq, bsel_true, bsel_false, q0, q1, q2, v87_p, mkP]
      have m1 := mul_bd (a := a.1) (b := b.1) (by omega) (by omega) (by omega) (by omega)
      have m2 := mul_bd (a := a.1) (b := b.2) (by omega) (by omega) (by omega) (by omega)
      have m3 := mul_bd (a := a.2) (b := b.1) (by omega) (by omega) (by omega) (by omega)
      have m4 := mul_bd (a := a.2) (b := b.2) (by omega) (by omega) (by omega) (by omega)
      rw [wr m1.1 m1.2, wr m2.1 m2.2, wr m3.1 m3.2, wr m4.1 m4.2]
      have e : boundsOp 4 [a, b] = spanOut (min (min (a.1 * b.1) (a.1 * b.2)) (min (a.2 * b.1) (a.2 * b.2))) (max (max (a.1 * b.1) (a.1 * b.2)) (max (a.2 * b.1) (a.2 * b.2))) := by simp [boundsOp]
      rw [e]
      generalize a.1 * b.1 = x1 at *
      generalize a.1 * b.2 = x2 at *
      generalize a.2 * b.1 = x3 at *
      generalize a.2 * b.2 = x4 at *
      have := j43 x1 x2 [x3, x4] (by simp) (min (min x1 x2) (min x3 x4)) (max (max x1 x2) (max x3 x4)) (by simp only [List.foldl]; omega) (by simp only [List.foldl]; omega)
      simpa [encI] using this
    all_goals
      rw [g52_L4_eq, decF (by simp; omega), bsel_false]
      simp only [Int.reduceBEq, bsel_true, bsel_false, q0, q1, q2, v87_p, mkP]
      rw [clX_of (c72' _ a b (by decide)), v87_p]
      exact bd_of (by simp [boundsOp]) rfl
  · rcases ho with rfl | rfl
    ·
      rw [g52_L4_eq, decF (by simp; omega), bsel_false]
      simp only [Int.reduceBEq, bsel_true, bsel_false, q0, q1, q2, v87_p, mkP]
      exact bd_of (p := (andB a.1 b.1, andB a.2 b.2)) (by simp [boundsOp, andB_of sa.1 sb.1, andB_of sa.2 sb.2]) rfl
    ·
      rw [g52_L4_eq, decF (by simp; omega), bsel_false]
      simp only [Int.reduceBEq, bsel_true, bsel_false, q0, q1, q2, v87_p, mkP]
      exact bd_of (p := (orB a.1 b.1, orB a.2 b.2)) (by simp [boundsOp, orB_of sa.1 sb.1, orB_of sa.2 sb.2]) rfl
  ·
    rw [g52_L4_eq, decF (by simp; omega), bsel_false]
    simp only [Int.reduceBEq, bsel_true, bsel_false, q0, q1, q2, v87_p, mkP]
    obtain ⟨c1, c2⟩ := c
    obtain ⟨s1, s2⟩ := sc
    dsimp only at s1 s2 ⊢
    rw [minE, maxE]
    rcases s1 with rfl | rfl <;> rcases s2 with rfl | rfl
    · exact bd_of (p := b) (by simp [boundsOp]) rfl
    · exact bd_of (p := (min a.1 b.1, max a.2 b.2)) (by simp [boundsOp]) rfl
    · exact bd_of (p := (min a.1 b.1, max a.2 b.2)) (by simp [boundsOp]) rfl
    · exact bd_of (p := a) (by simp [boundsOp]) rfl
theorem getV {rs : List VT} {i : Int} {K : PV → R} (h0 : 0 ≤ i) (h1 : i < rs.length) : lgetX (rs.map encV) i K = K (encV (rs.getD i.toNat default)) :=
  lgetX_of h0 (by rw [List.getElem?_map, List.getD_eq_getElem?_getD, List.getElem?_eq_getElem (show i.toNat < rs.length by omega)]; rfl)
theorem l52 (rs : List VT) (hrs : VarsOK rs) (o v i : Int) (l : List EX) (hr : RightE rs.length (.node o v i l)) (hl3 : l.length ≤ 3) (ih : ∀ e, e ∈ l → Bd (boundsE rs e) (SS.CC 52 [encE e, .sl false 4 (rs.map encV)] [])) :
    ∀ (m k : Nat) (os : List (Int × Int)), k + m = l.length → boundsL rs (l.take k) = some os → Bd (boundsE rs (.node o v i l)) (g52_L4 (rs.map encV) o v i (encL l) (os.map encP) k)
  | 0, k, os, h, hk => by
    rw [List.take_of_length_le (by omega)] at hk
    by_cases h0 : o = 0
    · subst h0
      rw [g52_L4_eq, decF (by simp; omega), bsel_false, boundsE, hk]
      simp only [beq_self_eq_true, bsel_true, if_true]
      exact bd_some (v, v)
    by_cases h1 : o = 1
    · subst h1
      obtain ⟨i0, i1⟩ : 0 ≤ i ∧ i < rs.length := by
        have := hr.2.1
        rw [rangeE] at this
        exact this.2.1 rfl
      rw [g52_L4_eq, decF (by simp; omega), bsel_false, boundsE, hk]
      simp only [Int.reduceBEq, bsel_false, bsel_true, getV i0 i1, v47_e]
      exact bd_some (_, _)
    rw [boundsE_op ⟨h0, h1⟩, hk]
    exact l52e rs o v i l os k (by omega) (span_ok hr.1 hr.2.2 ⟨h0, h1⟩ hk fun e he r hb => boundsE_ok hrs e (wf_args hr e he) r hb)
  | m + 1, k, os, h, hk => by
    obtain ⟨y, hy⟩ := get_lt (show k < l.length by omega)
    obtain ⟨p, hp, hq⟩ := ih y (get_mem hy)
    have hlen := boundsL_len rs _ _ hk
    rw [g52_L4_eq, decT (by simp; omega), bsel_true, lget_encL hy, v23_e, mkE, clX_of hp, wp_87]
    cases hb : boundsE rs y with
    | none =>
      refine ⟨(0, 0), by rw [boundsE, boundsL_fail rs l y (get_mem hy) hb]; rfl, fun q h => by rw [boundsE, boundsL_fail rs l y (get_mem hy) hb] at h; cases h⟩
    | some q =>
      obtain rfl := hq q hb
      have hs := boundsL_snoc rs l k y os p hy hk hb
      rw [Option.isSome_some, Bool.not_true, bsel_false, chk_of (decT (by simp at hlen; simp [LIM]; omega)), wrs (by omega), encP1, ← List.map_append]
      exact l52 rs hrs o v i l hr hl3 ih m (k + 1) _ (by omega) hs
theorem c52 (rs : List VT) (hrs : VarsOK rs) : ∀ e, RightE rs.length e → Bd (boundsE rs e) (SS.CC 52 [encE e, .sl false 4 (rs.map encV)] []) := by
  refine EX.ind fun o v i l ih hr => ?_
  have hl3 : l.length ≤ 3 := by
    have := hr.1
    rw [wfE] at this
    have := (argsS_le this.1).2.2
    omega
  have := l52 rs hrs o v i l hr hl3 (fun e he => ih e he (wf_args hr e he)) l.length 0 [] (by omega) (by simp [boundsL])
  rw [encE_eq, g52_eq]
  exact this
/-- Bounds, where the variables are right. -/
def boundsT (e : EX) (vs : List VT) : Int × Int × Int :=
  if (checkS e vs.length).2 ≠ 0 then (0, 0, (checkS e vs.length).2)
  else match boundsE vs e with
    | none => (0, 0, 17)
    | some (a, b) => (a, b, 0)
theorem c23 (e : EX) (rs : List VT) (hrs : VarsOK rs) (h33 : SS.CC 33 [.sl false 4 (rs.map encV)] [] = Ret (.int .i64 0)) : SS.CC 23 [encE e, .sl false 4 (rs.map encV)] [] = Ret (.tuple [.int .i64 (boundsT e rs).1, .int .i64 (boundsT e rs).2.1, .int .i64 (boundsT e rs).2.2]) := by
  have h14 := c14 e rs.length
  have h52 := fun h => c52 rs hrs e (check_right h).1
  unfold boundsT
  obtain ⟨o, v, i, l⟩ := e
  rw [encE_eq] at h14 h52
  rw [encE_eq, g23_eq, clX_of h33, vI_mk, show ((0 : Int) != 0) = false from rfl, bsel_false, List.length_map, clX_of h14, w_3_3_mk]
  by_cases h : (checkS (.node o v i l) rs.length).2 = 0
  · rw [show ((checkS (.node o v i l) rs.length).2 != 0) = false by simpa using h, bsel_false, if_neg (by simpa using h)]
    obtain ⟨p, hp, hq⟩ := h52 h
    rw [clX_of hp, wp_87]
    cases hb : boundsE rs (.node o v i l) with
    | none => rfl
    | some q => obtain rfl := hq q hb; rfl
  · rw [show ((checkS (.node o v i l) rs.length).2 != 0) = true by simpa using h, bsel_true, if_pos h]
end Go.Proofs.Ytmclnnpaephkpaa

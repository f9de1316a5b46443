/-
  The statement ExpressionBounds: what its law answers, the end.
-/
import Derived.Test.YtmclnnpaephkpaaC14za
namespace Go.Proofs.Ytmclnnpaephkpaa
set_option linter.unusedVariables false
set_option linter.unusedSimpArgs false
set_option linter.unnecessarySimpa false
set_option linter.unusedSectionVars false
open Go.RowKit

theorem w333 (x y z : Int) (K : Int → Int → Int → R) : w_3_3_3 (.tuple [.int .i64 x, .int .i64 y, .int .i64 z]) K = K x y z := rfl
theorem w334 (a b : Int) (c : Bool) (K : Int → Int → Bool → R) : w_3_3_4 (.tuple [.int .i64 a, .int .i64 b, .bool c]) K = K a b c := rfl
theorem l5 (x : EX) (rs : List VT) (hR : RightVs rs) (k : Nat) (hk : k < 2) (es : List EX) (e : EX) (he : es[k]? = some e) :
    g5_L7 x.op x.val x.idx (encL x.args) (rs.map encV) (encL es) k = g5_L7 x.op x.val x.idx (encL x.args) (rs.map encV) (encL es) ((k + 1 : Nat) : Int) := by
  have h23 := c23 e rs hR.ok (c33 rs hR)
  have h15 := c15 e rs.length
  rw [g5_L7_eq, decT (by omega), bsel_true, lget_encL he, v23_e, mkE, clX_of h23, w333, lget_encL he, v23_e, mkE, List.length_map, clX_of h15, w_3_3_mk]
  by_cases hc : (checkS e rs.length).2 = 0
  · have h24 := c24 rs hR.ok e (check_right hc).1
    unfold Br at h24
    have hT : boundsT e rs = match boundsE rs e with | none => (0, 0, 17) | some (a, b) => (a, b, 0) := by
      unfold boundsT; rw [hc]; simp; cases boundsE rs e <;> rfl
    rw [show ((checkS e rs.length).2 != 0) = false by simpa using hc, bsel_false, lget_encL he, v23_e, mkE, clX_of h24, w334, hT, wrs (by omega)]
    cases boundsE rs e with
    | none => simp
    | some p => obtain ⟨a, b⟩ := p; simp
  · have hT : boundsT e rs = (0, 0, (checkS e rs.length).2) := by unfold boundsT; rw [if_pos hc]
    rw [show ((checkS e rs.length).2 != 0) = true by simpa using hc, bsel_true, hT, wrs (by omega)]
    simp
def badV : VT := ⟨⟨#[120]⟩, 1, 0, 0⟩
theorem c33bad : SS.CC 33 [.sl false 4 ([badV].map encV)] [] = Ret (.int .i64 5) := CC_of_sem SS_ok 40 (by kernel_rfl)
theorem c23bad (e : EX) : SS.CC 23 [encE e, .sl false 4 ([badV].map encV)] [] = Ret (.tuple [.int .i64 0, .int .i64 0, .int .i64 5]) := by
  obtain ⟨o, v, i, l⟩ := e
  rw [encE_eq, g23_eq, clX_of c33bad, vI_mk]; rfl
theorem c5 (bs : List UInt8) (l : List (Int × Int)) (x : EX) (hb : bs.length ≤ lenMax) (hl : ∀ p, p ∈ l → -128 ≤ p.1 ∧ p.1 ≤ 127 ∧ -128 ≤ p.2 ∧ p.2 ≤ 127) :
    SS.CC 5 [.sl false 1 (encB bs), .sl false 2 (l.map encR), encE x] [] = Ret (.bool true) := by
  have h22 := c22 l hl
  have h13 := c13 x
  have hR := ranges_right l
  have hlen3 : (rangesS l).length ≤ 3 := by unfold rangesS; rw [rangesFrom_len, List.length_take]; omega
  generalize rangesS l = rs at *
  have h1 : (bs.length : Int).tmod 2 = (bs.length : Int) % 2 := Int.tmod_eq_emod_of_nonneg (by omega)
  have hx : encE x = .agg [.int .i64 x.op, .int .i64 x.val, .int .i64 x.idx, .sl false 4 (encL x.args)] := (mkE x).symm
  rw [hx, g5_eq, mkE, clX_of c12, vB_mk, Bool.not_true, bsel_false, clX_of h13, vB_mk]
  cases smallE x with
  | false => rw [Bool.not_false, bsel_true, clX_of c12, vB_mk]
  | true =>
    rw [Bool.not_true, bsel_false, clX_of h22, vL_mk, List.length_map, encB_length, h1, wr (by omega) (by omega), clX_of (c18 bs rs.length _ hb ⟨by omega, by omega⟩ (by omega)), v23_e, mkE]
    generalize GrowS bs rs.length (1 + (bs.length : Int) % 2) = e
    have e2 : [encE e, encE x] = encL [e, x] := rfl
    have s0 := l5 x rs hR 0 (by decide) [e, x] e rfl
    have s1 := l5 x rs hR 1 (by decide) [e, x] x rfl
    rw [e2]
    refine s0.trans (s1.trans ?_)
    rw [g5_L7_eq, decF (by decide), bsel_false, mkE]
    have hbad := c23bad x
    refine (clX_of hbad).trans ?_
    rfl
end Go.Proofs.Ytmclnnpaephkpaa

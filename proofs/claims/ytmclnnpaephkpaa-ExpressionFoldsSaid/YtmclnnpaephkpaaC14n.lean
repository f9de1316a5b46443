/-
  The statement ExpressionKeeps: what its law answers.
-/
import Derived.Test.YtmclnnpaephkpaaC14m
import Derived.Test.YtmclnnpaephkpaaC14l
import Derived.Test.YtmclnnpaephkpaaT14k
namespace Go.Proofs.Ytmclnnpaephkpaa
set_option linter.unusedVariables false
set_option linter.unusedSimpArgs false
set_option linter.unnecessarySimpa false
set_option linter.unusedSectionVars false
open Go.RowKit

theorem w23e (e : EX) (n : Int) (K : Int → Int → Int → List PV → Int → R) : w_23_3 (.tuple [encE e, .int .i64 n]) K = K e.op e.val e.idx (encL e.args) n := by cases e; rw [encE_eq, w_23_3_mk]; rfl
theorem c6 (bs : List UInt8) (l : List (Int × Int)) (a b c : UInt8) (hb : bs.length ≤ lenMax) (hl : ∀ p, p ∈ l → -128 ≤ p.1 ∧ p.1 ≤ 127 ∧ -128 ≤ p.2 ∧ p.2 ≤ 127) :
    SS.CC 6 [.sl false 1 (encB bs), .sl false 2 (l.map encR), .agg [.int .u8 (a.toNat : Int), .int .u8 (b.toNat : Int), .int .u8 (c.toNat : Int)]] [] = Ret (.bool true) := by
  have h22 := c22 l hl
  have hlen3 : (rangesS l).length ≤ 3 := by unfold rangesS; rw [rangesFrom_len, List.length_take]; omega
  have hvok : ∀ v, v ∈ rangesS l → VOK v := fun v hv => (rangesFrom_vok _ _ v hv).1
  generalize rangesS l = rs at *
  have h1 : (bs.length : Int).tmod 2 = (bs.length : Int) % 2 := Int.tmod_eq_emod_of_nonneg (by omega)
  have hgg := GrowS_good (n := rs.length) (vars := rs.length) bs (Int.le_refl _) (k := 1 + (bs.length : Int) % 2) (by omega)
  have hg16 := GrowS_good (n := 16) (vars := rs.length) bs (by omega) (k := 1 + (bs.length : Int) % 2) (by omega)
  have h27 := c27 rs a b c hlen3 hvok
  obtain ⟨hw1, hw2, hw3⟩ := within_in rs [a, b, c] hvok (by simpa using hlen3)
  generalize withinS rs [a, b, c] = vs at *
  rw [g6_eq, clX_of c12, vB_mk, Bool.not_true, bsel_false, clX_of h22, vL_mk, List.length_map, encB_length, h1, wr (by omega) (by omega), clX_of (c18 bs rs.length _ hb ⟨by omega, by omega⟩ (by omega)), v23_e]
  generalize GrowS bs rs.length (1 + (bs.length : Int) % 2) = e at *
  obtain ⟨r1, r2, r3, r4, r5⟩ := hgg
  have s1 := hg16.1
  have fo := fold_ok e r1
  have fr := foldE_right e r1
  have fr16 := foldE_right (n := 16) e s1
  have d1 := fo.depth
  have d2 := fo.size
  have ff : foldE (foldE e) = foldE e := nf_fix _ fo.nf
  have k1 : checkS e rs.length = (kindE e, 0) := check_good (by omega) (by omega) r1 r3 (by omega) (by omega)
  have k2 : checkS (foldE e) rs.length = (kindE (foldE e), 0) := check_good (by omega) (by omega) fr.1 (fo.clean r3) (by omega) (by omega)
  have k3 : checkS e 16 = (kindE e, 0) := check_good (by decide) (by decide) s1 r3 (by omega) (by omega)
  have k4 : checkS (foldE e) 16 = (kindE (foldE e), 0) := check_good (by decide) (by decide) fr16.1 (fo.clean r3) (by omega) (by omega)
  have e1 : foldS e = (foldE e, 0) := by unfold foldS; rw [k3]; rfl
  have e2 : foldS (foldE e) = (foldE e, 0) := by unfold foldS; rw [k4, ff]; rfl
  have h25 := c25 e
  have h25' := c25 (foldE e)
  rw [e1] at h25
  rw [e2] at h25'
  have hbig : (vs.any fun n => largeS n 65536) = false ∧ ∀ q, q ∈ vs → -65536 ≤ q ∧ q ≤ 65536 := by
    have hq : ∀ q, q ∈ vs → -65536 ≤ q ∧ q ≤ 65536 := by
      intro q hq
      obtain ⟨j, hj⟩ := List.mem_iff_getElem?.1 hq
      have hjl := (List.getElem?_eq_some_iff.1 hj).1
      obtain ⟨b1, b2⟩ := hw3 j (by omega)
      have hv := hvok (rs.getD j default) (by rw [List.getD_eq_getElem?_getD, List.getElem?_eq_getElem (by omega)]; exact List.getElem_mem (by omega))
      have hd : vs.getD j 0 = q := by rw [List.getD_eq_getElem?_getD, hj]; rfl
      rw [hd] at b1 b2
      obtain ⟨v1, v2, v3⟩ := hv
      omega
    refine ⟨?_, hq⟩
    rw [List.any_eq_false]
    intro q h
    have := hq q h
    rw [(largeS_false q 65536).2 (by omega)]; simp
  have hev : ∀ x, checkS x vs.length = (kindE x, 0) → evaluateS x vs = match evalE vs x with | none => (0, 17) | some n => (n, 0) := by
    intro x hx
    unfold evaluateS
    rw [hx]
    simp [hbig.1]
    cases evalE vs x <;> rfl
  rw [hw1] at k1 k2
  have te := tri_wf e r1.1
  have tf := tri_wf (foldE e) fr.1.1
  have v1 := hev e k1
  have v2 := hev (foldE e) k2
  have hval := fo.val vs (by omega) hbig.2
  simp only [mkE]
  rw [clX_of h25, w23e]
  simp only [mkE]
  rw [clX_of h25', w23e]
  simp only [mkE]
  rw [hw1, clX_of (c14 e vs.length), k1, w_3_3_mk, clX_of (c14 (foldE e) vs.length), k2, w_3_3_mk, clX_of (c17 _ tf _ tf), vB_mk, sameE_refl, clX_of (c26 _ tf (by omega)), vI_mk, clX_of (c26 _ te (by omega)), vI_mk, clX_of h27, vL_mk, clX_of (c20 e vs (by unfold lenMax; omega)), w_3_3_mk, clX_of (c20 (foldE e) vs (by unfold lenMax; omega)), w_3_3_mk, v1, v2, fr.2, decF (by omega)]
  simp only [bne_self_eq_false, bsel_false, Bool.not_true]
  cases hx : evalE vs e with
  | none => rfl
  | some x =>
    rw [hval x hx]
    simp [bsel_ite]
end Go.Proofs.Ytmclnnpaephkpaa

/-
  The statement ExpressionReplaces: what its law answers.
-/
import Derived.Test.YtmclnnpaephkpaaC14n
import Derived.Test.YtmclnnpaephkpaaC14sl
import Derived.Test.YtmclnnpaephkpaaPN14
import Derived.Test.YtmclnnpaephkpaaT14p
namespace Go.Proofs.Ytmclnnpaephkpaa
set_option linter.unusedVariables false
set_option linter.unusedSimpArgs false
set_option linter.unnecessarySimpa false
set_option linter.unusedSectionVars false
open Go.RowKit

theorem encI_plain (l : List Int) : (encI l).all plainC = true := by
  rw [List.all_eq_true]
  intro p hp
  obtain ⟨n, _, rfl⟩ := List.mem_map.1 hp
  rfl
theorem encI_set (l : List Int) (k : Nat) (v : Int) : (encI l).set k (.int .i64 v) = encI (l.set k v) := by simp [encI, List.map_set]
theorem encI_take (l : List Int) (k : Nat) : (encI l).take k = encI (l.take k) := by simp [encI]
theorem ev_small {e : EX} {vs : List Int} (hq : ∀ q, q ∈ vs → -65536 ≤ q ∧ q ≤ 65536) (hc : (checkS e vs.length).2 = 0) : evaluateS e vs = match evalE vs e with | none => (0, 17) | some n => (n, 0) := by
  have hbig : (vs.any fun n => largeS n 65536) = false := by
    rw [List.any_eq_false]
    intro q h
    have := hq q h
    rw [(largeS_false q 65536).2 (by omega)]; simp
  unfold evaluateS
  rw [hc]
  simp [hbig]
  cases evalE vs e <;> rfl
theorem wi8 (n : Int) : -128 ≤ IntKind.i8.wrap n ∧ IntKind.i8.wrap n ≤ 127 := by
  simp only [IntKind.wrap, IntKind.bits, IntKind.signed]
  simp
  omega
theorem c9 (a b : List UInt8) (p0 p1 p2 p3 p4 p5 : UInt8) (ha : a.length ≤ lenMax) (hb : b.length ≤ lenMax) :
    SS.CC 9 [.sl false 1 (encB a), .sl false 1 (encB b), .agg [.int .u8 (p0.toNat : Int), .int .u8 (p1.toNat : Int), .int .u8 (p2.toNat : Int), .int .u8 (p3.toNat : Int), .int .u8 (p4.toNat : Int), .int .u8 (p5.toNat : Int)]] [] = Ret (.bool true) := by
  have hp2 := p2.toNat_lt
  have hk0 : (a.length : Int).tmod 2 = (a.length : Int) % 2 := Int.tmod_eq_emod_of_nonneg (by omega)
  have hix : IntKind.i64.wrap ((p2.toNat : Int).tmod 3) = (p2.toNat : Int) % 3 := by rw [Int.tmod_eq_emod_of_nonneg (by omega), wr (by omega) (by omega)]
  obtain ⟨i, hi⟩ : ∃ i : Int, i = (p2.toNat : Int) % 3 := ⟨_, rfl⟩
  have hi0 : 0 ≤ i ∧ i < 3 := by omega
  obtain ⟨ls, hls⟩ : ∃ ls : List (Int × Int), ls = [(IntKind.i8.wrap (p0.toNat : Int), 3), (IntKind.i8.wrap (p1.toNat : Int), 2), (0, 1)] := ⟨_, rfl⟩
  have h22 := c22 ls (by
    intro p hp
    have e0 := wi8 (p0.toNat : Int)
    have e1 := wi8 (p1.toNat : Int)
    rw [hls] at hp
    simp at hp
    rcases hp with rfl | rfl | rfl <;> simp <;> omega)
  have hlen : (rangesS ls).length = 3 := by unfold rangesS; rw [rangesFrom_len, hls]; rfl
  have hvok : ∀ v, v ∈ rangesS ls → VOK v := fun v hv => (rangesFrom_vok _ _ v hv).1
  have hls2 : ls.map encR = [.agg [.int .i8 (IntKind.i8.wrap (p0.toNat : Int)), .int .i8 3], .agg [.int .i8 (IntKind.i8.wrap (p1.toNat : Int)), .int .i8 2], .agg [.int .i8 0, .int .i8 1]] := by rw [hls]; rfl
  rw [hls2] at h22
  generalize rangesS ls = rs at *
  have h27 := c27 rs p3 p4 p5 (by omega) hvok
  obtain ⟨hw1, hw2, hw3⟩ := within_in rs [p3, p4, p5] hvok (by simp [hlen])
  generalize withinS rs [p3, p4, p5] = vs at *
  have hvl : vs.length = 3 := by omega
  have hq : ∀ q, q ∈ vs → -65536 ≤ q ∧ q ≤ 65536 := by
    intro q hq
    obtain ⟨j, hj⟩ := List.mem_iff_getElem?.1 hq
    have hjl := (List.getElem?_eq_some_iff.1 hj).1
    obtain ⟨b1, b2⟩ := hw3 j (by omega)
    have hv := hvok (rs.getD j default) (by rw [List.getD_eq_getElem?_getD, List.getElem?_eq_getElem (by omega)]; exact List.getElem_mem (by omega))
    have hd : vs.getD j 0 = q := by rw [List.getD_eq_getElem?_getD, hj]; rfl
    rw [hd] at b1 b2
    obtain ⟨v1, v2, v3⟩ := hv
    omega
  have gx3 := GrowS_good (n := 3) (vars := 3) a (by decide) (k := 1 + (a.length : Int) % 2) (by omega)
  have gx16 := GrowS_good (n := 16) (vars := 3) a (by decide) (k := 1 + (a.length : Int) % 2) (by omega)
  have gb3 := GrowS_good (n := 3) (vars := 3) b (by decide) (k := 1) (by omega)
  have gb16 := GrowS_good (n := 16) (vars := 3) b (by decide) (k := 1) (by omega)
  rw [g9_eq, clX_of c12, vB_mk, Bool.not_true, bsel_false, clX_of h22, vL_mk, encB_length, hk0, wr (n := 1 + _) (by omega) (by omega), clX_of (c18 a 3 _ ha (by decide) (by omega)), v23_e, clX_of (c18 b 3 1 hb (by decide) (by omega)), v23_e]
  simp only [mkE]
  generalize GrowS a 3 (1 + (a.length : Int) % 2) = x at *
  generalize GrowS b 3 1 = y at *
  have cx3 : checkS x 3 = (kindE x, 0) := check_good (by decide) (by decide) gx3.1 gx3.2.2.1 (by have := gx3.2.2.2.1; omega) gx3.2.2.2.2
  have cy3 : checkS y 3 = (kindE y, 0) := check_good (by decide) (by decide) gb3.1 gb3.2.2.1 (by have := gb3.2.2.2.1; omega) gb3.2.2.2.2
  have cx16 : checkS x 16 = (kindE x, 0) := check_good (by decide) (by decide) gx16.1 gx16.2.2.1 (by have := gx16.2.2.2.1; omega) gx16.2.2.2.2
  have cy16 : checkS y 16 = (kindE y, 0) := check_good (by decide) (by decide) gb16.1 gb16.2.2.1 (by have := gb16.2.2.2.1; omega) gb16.2.2.2.2
  have ky : kindE y = 1 := gb3.2.1
  have rr16 := repl_right (i := i) gb16.1 ky x gx16.1
  have rr3 := repl_right (i := i) gb3.1 ky x gx3.1
  have rc := repl_clean (i := i) gb3.2.2.1 x gx3.2.2.1
  rw [hix, ← hi, clX_of (c29 x i y), w23e]
  simp only [mkE]
  have hsub : substS x i y = if (checkS (replE i y x) 16).2 ≠ 0 then (zeroE, (checkS (replE i y x) 16).2) else (replE i y x, 0) := by
    unfold substS
    rw [cx16, cy16]
    simp only [ne_eq, not_true_eq_false, if_false, ky]
    rw [if_neg (by omega)]
  have cz3 := check_less (n := 16) (m := 3) (e := replE i y x) (by decide) (by decide) rr3.1
  have hrep := fun v hv => eval_repl (vs := vs) (i := i) (v := v) (b := y) hv hi0.1 (by omega) x (by rw [hvl]; exact gx3.1.2.1)
  rw [hsub]
  rcases check_lim (n := 16) (by decide) (by decide) rr16.1 rc with hz | hz
  · have cz3 := cz3 (by rw [hz])
    rw [hz]
    simp only [ne_eq, not_true_eq_false, if_false, bne_self_eq_false, bsel_false]
    generalize replE i y x = z at *
    rw [clX_of h27, vL_mk, encI_length, encI_plain, encI_take, List.take_of_length_le (Nat.le_refl _)]
    rw [chk_of (by simp; omega), chk_of (by simp), clX_of (c20 y vs (by unfold lenMax; omega)), w_3_3_mk, ev_small hq (by rw [hvl]; simp [cy3])]
    cases hy : evalE vs y with
    | none => rfl
    | some v =>
      simp only [bne_self_eq_false, bsel_false]
      rw [clX_of (c19 v 65536 (by decide) (by decide)), vB_mk]
      cases hlg : largeS v 65536 with
      | true => rfl
      | false =>
        have hvb := (largeS_false v 65536).1 hlg
        have hq' : ∀ q, q ∈ vs.set i.toNat v → -65536 ≤ q ∧ q ≤ 65536 := fun q hm => by
          rcases List.mem_or_eq_of_mem_set hm with h | rfl
          · exact hq q h
          · omega
        have hk1 : (decide (0 ≤ i) && decide (i < (vs.length : Int))) = true := by simp; omega
        have hk2 : decide (i.toNat < vs.length) = true := by simp; omega
        have hE := c20 x (vs.set i.toNat v) (by unfold lenMax; simp; omega)
        rw [ev_small hq' (by rw [List.length_set, hvl]; simp [cx3]), ← hrep v hy] at hE
        rw [bsel_false, chk_of (by simp), clX_of (c20 z vs (by unfold lenMax; omega)), w_3_3_mk, ev_small hq (by rw [hvl]; simp [cz3])]
        rw [hk1, hk2, encI_set, encI_plain, encI_length, List.length_set, encI_take, List.take_of_length_le (by simp), clX_of hE, w_3_3_mk]
        cases evalE vs z <;> simp [chk]
  · rw [hz]; rfl
end Go.Proofs.Ytmclnnpaephkpaa

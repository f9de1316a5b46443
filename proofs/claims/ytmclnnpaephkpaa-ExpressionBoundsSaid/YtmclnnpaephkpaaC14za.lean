/-
  The statement ExpressionBounds: what its law answers.
-/
import Derived.Test.YtmclnnpaephkpaaC14z
import Derived.Test.YtmclnnpaephkpaaC14l
namespace Go.Proofs.Ytmclnnpaephkpaa
set_option linter.unusedVariables false
set_option linter.unusedSimpArgs false
set_option linter.unnecessarySimpa false
set_option linter.unusedSectionVars false
open Go.RowKit

theorem encI_fst1 (a : Int × Int) : encI ([a].map Prod.fst) = encI [a.1] := rfl
theorem encI_snd1 (a : Int × Int) : encI ([a].map Prod.snd) = encI [a.2] := rfl
theorem encI_fst2 (a b : Int × Int) : encI ([a, b].map Prod.fst) = encI [a.1, b.1] := rfl
theorem encI_snd2 (a b : Int × Int) : encI ([a, b].map Prod.snd) = encI [a.2, b.2] := rfl
theorem encI_fst3 (a b c : Int × Int) : encI ([a, b, c].map Prod.fst) = encI [a.1, b.1, c.1] := rfl
theorem encI_snd3 (a b c : Int × Int) : encI ([a, b, c].map Prod.snd) = encI [a.2, b.2, c.2] := rfl
theorem ap1 {o : Int} {a : Int × Int} (ho : o = 5 ∨ o = 10) (ha : Sp a) : AppOK o [a.1] ∧ AppOK o [a.2] := by
  obtain ⟨h1, h2, h3⟩ := ha
  exact ⟨.inl ⟨_, rfl, ho, by omega, by omega⟩, .inl ⟨_, rfl, ho, by omega, by omega⟩⟩
theorem ap2 {o : Int} {a b : Int × Int} (ho : o = 2 ∨ o = 3 ∨ o = 4 ∨ o = 6 ∨ o = 7 ∨ o = 8 ∨ o = 9) (ha : Sp a) (hb : Sp b) : AppOK o [a.1, b.1] ∧ AppOK o [a.2, b.1] ∧ AppOK o [a.1, b.2] ∧ AppOK o [a.2, b.2] := by
  obtain ⟨h1, h2, h3⟩ := ha
  obtain ⟨h4, h5, h6⟩ := hb
  have key : ∀ x y : Int, -1073741824 ≤ x → x ≤ 1073741824 → -1073741824 ≤ y → y ≤ 1073741824 → AppOK o [x, y] := fun x y k1 k2 k3 k4 => .inr (.inl ⟨x, y, rfl, ho, k1, k2, k3, k4⟩)
  exact ⟨key _ _ (by omega) (by omega) (by omega) (by omega), key _ _ (by omega) (by omega) (by omega) (by omega), key _ _ (by omega) (by omega) (by omega) (by omega), key _ _ (by omega) (by omega) (by omega) (by omega)⟩
theorem ap3 {o : Int} {a b : Int × Int} (ho : o = 11 ∨ o = 12) (ha : Sb a) (hb : Sb b) : AppOK o [a.1, b.1] ∧ AppOK o [a.2, b.1] ∧ AppOK o [a.1, b.2] ∧ AppOK o [a.2, b.2] :=
  ⟨.inr (.inr ⟨_, _, rfl, ho, ha.1, hb.1⟩), .inr (.inr ⟨_, _, rfl, ho, ha.2, hb.1⟩), .inr (.inr ⟨_, _, rfl, ho, ha.1, hb.2⟩), .inr (.inr ⟨_, _, rfl, ho, ha.2, hb.2⟩)⟩
theorem l24e (rs : List VT) (x v i : Int) (l : List EX) (os : List (Int × Int)) (k : Nat) (hk : l.length = k) (h : SpOK x os) : g24_L9 (rs.map encV) x v i (encL l) (encI (os.map Prod.fst)) (encI (os.map Prod.snd)) k = Br (boundsOp x os) := by
  rcases h with ⟨a, rfl, ⟨rfl, ha⟩ | ⟨rfl, ha, hb⟩⟩ | ⟨a, b, rfl, ho, ha, hb⟩ | ⟨a, b, rfl, ho, ha, hb, sa, sb⟩ | ⟨c, a, b, rfl, rfl, hc, sc, ha, hb⟩
  · obtain ⟨p1, p2⟩ := ap1 (.inl rfl) ha
    rw [g24_L9_eq, decF (by simp; omega), bsel_false]
    simp only [Int.reduceBEq, bsel_false, bsel_true, encI_fst1, encI_snd1, encI_fst2, encI_snd2, encI_fst3, encI_snd3]
    obtain ⟨a1, a2, a3⟩ := ha
    rw [l24a 5 v i (encL l) a p1 p2, show boundsOp 5 [a] = spanOut (-a.2) (-a.1) by simp [boundsOp]]
    exact cors _ _ (by simp [applyS]; omega) (by simp [applyS]; omega)
  · obtain ⟨p1, p2⟩ := ap1 (.inr rfl) ha
    rw [g24_L9_eq, decF (by simp; omega), bsel_false]
    simp only [Int.reduceBEq, bsel_false, bsel_true, encI_fst1, encI_snd1, encI_fst2, encI_snd2, encI_fst3, encI_snd3]
    obtain ⟨a1, a2, a3⟩ := ha
    rw [l24a 10 v i (encL l) a p1 p2, show boundsOp 10 [a] = some (1 - a.2, 1 - a.1) by simp [boundsOp]]
    obtain ⟨s1, s2⟩ := hb
    rw [← spanOut_some (l := 1 - a.2) (h := 1 - a.1) (by omega) (by omega) (by omega) (by omega)]
    exact cors _ _ (by simp [applyS]; omega) (by simp [applyS]; omega)
  · obtain ⟨p1, p2, p3, p4⟩ := ap2 ho ha hb
    obtain ⟨a1, a2⟩ := a
    obtain ⟨b1, b2⟩ := b
    obtain ⟨x1, x2, x3⟩ := ha
    obtain ⟨y1, y2, y3⟩ := hb
    dsimp only at *
    rcases ho with rfl | rfl | rfl | rfl | rfl | rfl | rfl
    ·
      rw [g24_L9_eq, decF (by simp; omega), bsel_false]
      simp only [Int.reduceBEq, bsel_false, bsel_true, encI_fst1, encI_snd1, encI_fst2, encI_snd2, encI_fst3, encI_snd3]
      rw [l24b 2 v i (encL l) (a1, a2) (b1, b2) p1 p2 p3 p4, show boundsOp 2 [(a1, a2), (b1, b2)] = spanOut (a1 + b1) (a2 + b2) by simp [boundsOp]]
      exact cors _ _ (by simp [applyS]; omega) (by simp [applyS]; omega)
    ·
      rw [g24_L9_eq, decF (by simp; omega), bsel_false]
      simp only [Int.reduceBEq, bsel_false, bsel_true, encI_fst1, encI_snd1, encI_fst2, encI_snd2, encI_fst3, encI_snd3]
      rw [l24b 3 v i (encL l) (a1, a2) (b1, b2) p1 p2 p3 p4, show boundsOp 3 [(a1, a2), (b1, b2)] = spanOut (a1 - b2) (a2 - b1) by simp [boundsOp]]
      exact cors _ _ (by simp [applyS]; omega) (by simp [applyS]; omega)
    ·
      rw [g24_L9_eq, decF (by simp; omega), bsel_false]
      simp only [Int.reduceBEq, bsel_false, bsel_true, encI_fst1, encI_snd1, encI_fst2, encI_snd2, encI_fst3, encI_snd3]
      rw [l24b 4 v i (encL l) (a1, a2) (b1, b2) p1 p2 p3 p4, show boundsOp 4 [(a1, a2), (b1, b2)] = spanOut (min (min (a1 * b1) (a1 * b2)) (min (a2 * b1) (a2 * b2))) (max (max (a1 * b1) (a1 * b2)) (max (a2 * b1) (a2 * b2))) by simp [boundsOp]]
      refine cors _ _ ?_ ?_
      · simp only [applyS]
        generalize e1 : ([a1, b1] : List Int).getD 0 0 * ([a1, b1] : List Int).getD 1 0 = z1
        simp at e1 ⊢
        subst e1
        generalize a1 * b1 = z1
        generalize a1 * b2 = z2
        generalize a2 * b1 = z3
        generalize a2 * b2 = z4
        omega
      · simp [applyS]
        generalize a1 * b1 = z1
        generalize a1 * b2 = z2
        generalize a2 * b1 = z3
        generalize a2 * b2 = z4
        omega
    ·
      rw [g24_L9_eq, decF (by simp; omega), bsel_false]
      simp only [Int.reduceBEq, bsel_false, bsel_true, encI_fst1, encI_snd1, encI_fst2, encI_snd2, encI_fst3, encI_snd3]
      simp only [lget0, lget1, vI_mk, j24]
      rw [show boundsOp 6 [(a1, a2), (b1, b2)] = some (cmpS 6 (a1, a2) (b1, b2)) by simp [boundsOp]]
      have e : ((a1, a2) == (b1, b2)) = ((a1 == b1) && (a2 == b2)) := rfl
      simp only [cmpS, e]
      have f1 : (a1 == a2) = true → (a1 == b1) = true → (a2 == b2) = true → (b1 == b2) = true := by simp; omega
      have f2 : (a1 == a2) = true → (b1 == b2) = true → (a1 == b1) = true → (a2 == b2) = true := by simp; omega
      generalize (a1 == a2) = p at *
      generalize (b1 == b2) = q at *
      generalize (a1 == b1) = r at *
      generalize (a2 == b2) = s at *
      generalize decide (a2 < b1) = t at *
      generalize decide (b2 < a1) = u at *
      cases p <;> cases q <;> cases r <;> cases s <;> cases t <;> cases u <;> first | rfl | exact absurd (f1 rfl rfl rfl) (by decide) | exact absurd (f2 rfl rfl rfl) (by decide)
    ·
      rw [g24_L9_eq, decF (by simp; omega), bsel_false]
      simp only [Int.reduceBEq, bsel_false, bsel_true, encI_fst1, encI_snd1, encI_fst2, encI_snd2, encI_fst3, encI_snd3]
      simp only [lget0, lget1, vI_mk, j24]
      rw [show boundsOp 7 [(a1, a2), (b1, b2)] = some (cmpS 7 (a1, a2) (b1, b2)) by simp [boundsOp]]
      have e : ((a1, a2) == (b1, b2)) = ((a1 == b1) && (a2 == b2)) := rfl
      simp only [cmpS, e]
      have f1 : (a1 == a2) = true → (a1 == b1) = true → (a2 == b2) = true → (b1 == b2) = true := by simp; omega
      have f2 : (a1 == a2) = true → (b1 == b2) = true → (a1 == b1) = true → (a2 == b2) = true := by simp; omega
      generalize (a1 == a2) = p at *
      generalize (b1 == b2) = q at *
      generalize (a1 == b1) = r at *
      generalize (a2 == b2) = s at *
      generalize decide (a2 < b1) = t at *
      generalize decide (b2 < a1) = u at *
      cases p <;> cases q <;> cases r <;> cases s <;> cases t <;> cases u <;> first | rfl | exact absurd (f1 rfl rfl rfl) (by decide) | exact absurd (f2 rfl rfl rfl) (by decide)
    ·
      rw [g24_L9_eq, decF (by simp; omega), bsel_false]
      simp only [Int.reduceBEq, bsel_false, bsel_true, encI_fst1, encI_snd1, encI_fst2, encI_snd2, encI_fst3, encI_snd3]
      rw [l24b 8 v i (encL l) (a1, a2) (b1, b2) p1 p2 p3 p4, show boundsOp 8 [(a1, a2), (b1, b2)] = some (cmpS 8 (a1, a2) (b1, b2)) by simp [boundsOp]]
      have hc : cmpS 8 (a1, a2) (b1, b2) = ((if a2 < b1 then 1 else 0), (if a1 < b2 then 1 else 0)) := by
        simp only [cmpS, ← bit_lt]
        simp [← Int.not_lt]
      rw [hc, ← spanOut_some (l := if a2 < b1 then 1 else 0) (h := if a1 < b2 then 1 else 0) (by split <;> decide) (by split <;> decide) (by split <;> decide) (by split <;> decide)]
      refine cors _ _ ?_ ?_ <;> simp [applyS, bit_lt] <;> omega
    ·
      rw [g24_L9_eq, decF (by simp; omega), bsel_false]
      simp only [Int.reduceBEq, bsel_false, bsel_true, encI_fst1, encI_snd1, encI_fst2, encI_snd2, encI_fst3, encI_snd3]
      rw [l24b 9 v i (encL l) (a1, a2) (b1, b2) p1 p2 p3 p4, show boundsOp 9 [(a1, a2), (b1, b2)] = some (cmpS 9 (a1, a2) (b1, b2)) by simp [boundsOp]]
      have hc : cmpS 9 (a1, a2) (b1, b2) = ((if a2 ≤ b1 then 1 else 0), (if a1 ≤ b2 then 1 else 0)) := by
        simp only [cmpS, ← bit_le]
        simp [← Int.not_lt]
      rw [hc, ← spanOut_some (l := if a2 ≤ b1 then 1 else 0) (h := if a1 ≤ b2 then 1 else 0) (by split <;> decide) (by split <;> decide) (by split <;> decide) (by split <;> decide)]
      refine cors _ _ ?_ ?_ <;> simp [applyS, bit_le] <;> omega
  · obtain ⟨p1, p2, p3, p4⟩ := ap3 ho sa sb
    obtain ⟨a1, a2⟩ := a
    obtain ⟨b1, b2⟩ := b
    obtain ⟨x1, x2, x3⟩ := ha
    obtain ⟨y1, y2, y3⟩ := hb
    obtain ⟨s1, s2⟩ := sa
    obtain ⟨s3, s4⟩ := sb
    dsimp only at *
    rcases ho with rfl | rfl
    ·
      rw [g24_L9_eq, decF (by simp; omega), bsel_false]
      simp only [Int.reduceBEq, bsel_false, bsel_true, encI_fst1, encI_snd1, encI_fst2, encI_snd2, encI_fst3, encI_snd3]
      rw [l24b 11 v i (encL l) (a1, a2) (b1, b2) p1 p2 p3 p4, show boundsOp 11 [(a1, a2), (b1, b2)] = some (a1 * b1, a2 * b2) by simp [boundsOp]]
      rcases s1 with rfl | rfl <;> rcases s2 with rfl | rfl <;> rcases s3 with rfl | rfl <;> rcases s4 with rfl | rfl <;> first | (exfalso; omega) | kernel_rfl
    ·
      rw [g24_L9_eq, decF (by simp; omega), bsel_false]
      simp only [Int.reduceBEq, bsel_false, bsel_true, encI_fst1, encI_snd1, encI_fst2, encI_snd2, encI_fst3, encI_snd3]
      rw [l24b 12 v i (encL l) (a1, a2) (b1, b2) p1 p2 p3 p4, show boundsOp 12 [(a1, a2), (b1, b2)] = some (max a1 b1, max a2 b2) by simp [boundsOp]]
      rcases s1 with rfl | rfl <;> rcases s2 with rfl | rfl <;> rcases s3 with rfl | rfl <;> rcases s4 with rfl | rfl <;> first | (exfalso; omega) | kernel_rfl
  ·
    rw [g24_L9_eq, decF (by simp; omega), bsel_false]
    simp only [Int.reduceBEq, bsel_false, bsel_true, encI_fst1, encI_snd1, encI_fst2, encI_snd2, encI_fst3, encI_snd3]
    obtain ⟨c1, c2⟩ := c
    obtain ⟨s1, s2⟩ := sc
    simp only [lget0, lget1, lget2, vI_mk]
    dsimp only at s1 s2 ⊢
    rw [minE, maxE, show boundsOp 13 [(c1, c2), a, b] = if (c1, c2) = (1, 1) then some a else if (c1, c2) = (0, 0) then some b else some (min a.1 b.1, max a.2 b.2) by simp [boundsOp]]
    obtain ⟨z1, z2, z3⟩ := hc
    dsimp only at z1 z2 z3
    rcases s1 with rfl | rfl <;> rcases s2 with rfl | rfl <;> first | (exfalso; omega) | rfl
theorem l24 (rs : List VT) (hrs : VarsOK rs) (o v i : Int) (l : List EX) (hr : RightE rs.length (.node o v i l)) (ho : o ≠ 0 ∧ o ≠ 1) (hl3 : l.length ≤ 3) (ih : ∀ e, e ∈ l → SS.CC 24 [encE e, .sl false 4 (rs.map encV)] [] = Br (boundsE rs e)) :
    ∀ (m k : Nat) (os : List (Int × Int)), k + m = l.length → boundsL rs (l.take k) = some os → g24_L9 (rs.map encV) o v i (encL l) (encI (os.map Prod.fst)) (encI (os.map Prod.snd)) k = Br (boundsE rs (.node o v i l))
  | 0, k, os, h, hk => by
    rw [List.take_of_length_le (by omega)] at hk
    rw [boundsE_op ho, hk]
    exact l24e rs o v i l os k (by omega) (span_ok hr.1 hr.2.2 ho hk fun e he r hb => boundsE_ok hrs e (wf_args hr e he) r hb)
  | m + 1, k, os, h, hk => by
    obtain ⟨y, hy⟩ := get_lt (show k < l.length by omega)
    have hp := ih y (get_mem hy)
    have hlen := boundsL_len rs _ _ hk
    have w334 : ∀ (a b : Int) (c : Bool) K, w_3_3_4 (.tuple [.int .i64 a, .int .i64 b, .bool c]) K = K a b c := fun _ _ _ _ => rfl
    unfold Br at hp
    rw [g24_L9_eq, decT (by simp; omega), bsel_true, lget_encL hy, v23_e, mkE, clX_of hp, w334]
    cases hb : boundsE rs y with
    | none => rw [boundsE, boundsL_fail rs l y (get_mem hy) hb]; rfl
    | some q =>
      have hs := boundsL_snoc rs l k y os q hy hk hb
      rw [Option.isSome_some, Bool.not_true, bsel_false, chk_of (decT (by simp at hlen; simp [LIM, hlen]; omega)), chk_of (decT (by simp at hlen; simp [LIM, hlen]; omega)), wrs (by omega), encI_one, encI_one, ← encI_app, ← encI_app]
      have := l24 rs hrs o v i l hr ho hl3 ih m (k + 1) _ (by omega) hs
      simpa using this
theorem c24 (rs : List VT) (hrs : VarsOK rs) : ∀ e, RightE rs.length e → SS.CC 24 [encE e, .sl false 4 (rs.map encV)] [] = Br (boundsE rs e) := by
  refine EX.ind fun o v i l ih hr => ?_
  have hl3 : l.length ≤ 3 := by
    have := hr.1
    rw [wfE] at this
    have := (argsS_le this.1).2.2
    omega
  rw [encE_eq, g24_eq]
  rcases kind_args hr.1 hr.2.2 with ⟨h01, rfl, _⟩ | h
  · rcases h01 with rfl | rfl
    · rw [boundsE_0]; rfl
    · obtain ⟨i0, i1⟩ : 0 ≤ i ∧ i < rs.length := by
        have := hr.2.1
        rw [rangeE] at this
        exact this.2.1 rfl
      rw [boundsE_1, show ((1 : Int) == 0) = false from rfl, bsel_false, show ((1 : Int) == 1) = true from rfl, bsel_true, getV i0 i1, v47_e, getV i0 i1, v47_e]; rfl
  · have ho : o ≠ 0 ∧ o ≠ 1 := by
      rcases h with ⟨h1, _⟩ | ⟨h1, _⟩ | ⟨h1, _⟩ | ⟨h1, _⟩ | ⟨h1, _⟩ | ⟨h1, _⟩ <;> omega
    have := l24 rs hrs o v i l hr ho hl3 (fun e he => ih e he (wf_args hr e he)) l.length 0 [] (by omega) (by simp [boundsL])
    rw [show (o == 0) = false by simpa using ho.1, bsel_false, show (o == 1) = false by simpa using ho.2, bsel_false]
    exact this
end Go.Proofs.Ytmclnnpaephkpaa

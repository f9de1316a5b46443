/-
  The statement ExpressionLies: what its law answers.
-/
import Derived.Test.YtmclnnpaephkpaaC14r
import Derived.Test.YtmclnnpaephkpaaC14y
import Derived.Test.YtmclnnpaephkpaaC14g
import Derived.Test.YtmclnnpaephkpaaPH14
import Derived.Test.YtmclnnpaephkpaaPI14
import Derived.Test.YtmclnnpaephkpaaK14
namespace Go.Proofs.Ytmclnnpaephkpaa
set_option linter.unusedVariables false
set_option linter.unusedSimpArgs false
set_option linter.unnecessarySimpa false
set_option linter.unusedSectionVars false
open Go.RowKit

/-! ### the variables of Ranges are right -/
theorem c58n (k : Nat) (h : k < 3) : SS.CC 58 [.str (nmR k)] [] = Ret (.bool true) := by
  have : k = 0 ∨ k = 1 ∨ k = 2 := by omega
  rcases this with rfl | rfl | rfl
  · exact CC_of_sem SS_ok 20 (by kernel_rfl)
  · exact CC_of_sem SS_ok 20 (by kernel_rfl)
  · exact CC_of_sem SS_ok 20 (by kernel_rfl)
def obV (v : VT) : Objs := [some [.str v.name, .int .i64 v.low, .int .i64 v.high, .int .i64 v.init]]
theorem c60 (u v : VT) : SS.CC 60 [encV u, .ptr 0 0] (obV v) = some (.bool (u.name.toList == v.name.toList), obV v) := g60_eq _ _ _ _ _ _ _ _
theorem l77 (rs : List VT) (v : VT) (hr : rs.length ≤ 1000000) (hn : ∀ u, u ∈ rs → (u.name.toList == v.name.toList) = false) : ∀ (m k : Nat), k + m = rs.length → g77_L3 (rs.map encV) v.name v.low v.high v.init k = some (.int .i64 (-1), obV v)
  | 0, k, h => by
    rw [g77_L3_eq, decF (by simp; omega), bsel_false]; rfl
  | m + 1, k, h => by
    obtain ⟨y, hy⟩ := get_lt (show k < rs.length by omega)
    rw [g77_L3_eq, decT (by simp; omega), bsel_true, lget_map hy, v47_e]
    have h60 := c60 y v
    rw [hn y (get_mem hy)] at h60
    unfold encV obV at h60
    rw [clH_of h60, h60_0_mk, bsel_false, wrs (by omega)]
    exact l77 rs v hr hn m (k + 1) (by omega)
theorem c59 (rs : List VT) (v : VT) (hr : rs.length ≤ 1000000) (hn : ∀ u, u ∈ rs → (u.name.toList == v.name.toList) = false) : SS.CC 59 [.sl false 4 (rs.map encV), .func (.func 60) [] [.ptr 0 0]] (obV v) = some (.bool false, obV v) := by
  have h77 : SS.CC 77 [.sl false 4 (rs.map encV), .func (.func 60) [] [.ptr 0 0]] [some [.str v.name, .int .i64 v.low, .int .i64 v.high, .int .i64 v.init]] = some (.int .i64 (-1), obV v) := by
    rw [g77_eq]; exact l77 rs v hr hn rs.length 0 (by omega)
  unfold obV
  rw [g59_eq, clH_of h77]
  unfold obV
  rw [h77_0_mk]
  rfl
/-- Variables that CheckVariables takes. -/
structure RightVs (rs : List VT) : Prop where
  len : rs.length ≤ 16
  ok : VarsOK rs
  name : ∀ v, v ∈ rs → SS.CC 58 [.str v.name] [] = Ret (.bool true)
  one : ∀ (k : Nat) v, rs[k]? = some v → ∀ u, u ∈ rs.take k → (u.name.toList == v.name.toList) = false
  init : ∀ v, v ∈ rs → v.low ≤ v.init ∧ v.init ≤ v.high
theorem l33 (rs : List VT) (h : RightVs rs) : ∀ (m k : Nat), k + m = rs.length → g33_L5 (rs.map encV) k = Ret (.int .i64 0)
  | 0, k, hk => by
    rw [g33_L5_eq, decF (by simp; omega), bsel_false]
  | m + 1, k, hk => by
    obtain ⟨y, hy⟩ := get_lt (show k < rs.length by omega)
    have hl := h.len
    obtain ⟨a1, a2, a3⟩ := h.ok y (get_mem hy)
    obtain ⟨a4, a5⟩ := h.init y (get_mem hy)
    have h59 := c59 (rs.take k) y (by simp; omega) (h.one k y hy)
    unfold obV at h59
    rw [g33_L5_eq, decT (by simp; omega), bsel_true, lget_map hy, v47_e, clX_of (h.name y (get_mem hy)), vB_mk, Bool.not_true, bsel_false, chk_of (by simp; omega),
      Int.toNat_natCast, ← List.map_take, clH_of h59, h59_0_mk, bsel_false, clX_of (c49 y.low 65536 (by decide) (by decide)), vB_mk, (largeS_false _ _).2 (by omega), bsel_false, clX_of (c49 y.high 65536 (by decide) (by decide)), vB_mk, (largeS_false _ _).2 (by omega), bsel_false,
      decF (by omega), bsel_false, decF (by omega), bsel_false, decF (by omega), bsel_false, wrs (by omega)]
    exact l33 rs h m (k + 1) (by omega)
theorem c33 (rs : List VT) (h : RightVs rs) : SS.CC 33 [.sl false 4 (rs.map encV)] [] = Ret (.int .i64 0) := by
  have := h.len
  rw [g33_eq, decF (by simp; omega), bsel_false]
  exact l33 rs h rs.length 0 (by omega)
theorem rangesFrom_get : ∀ (l : List (Int × Int)) (k j : Nat) (v : VT), (rangesFrom k l)[j]? = some v → ∃ p, v = rgV (k + j) p
  | [], k, j, v, h => by simp [rangesFrom] at h
  | p :: l, k, 0, v, h => by simp [rangesFrom] at h; exact ⟨p, h.symm⟩
  | p :: l, k, j + 1, v, h => by
    rw [rangesFrom] at h
    obtain ⟨q, hq⟩ := rangesFrom_get l (k + 1) j v (by simpa using h)
    exact ⟨q, by rw [hq, show k + 1 + j = k + (j + 1) by omega]⟩
theorem n01 : ((nmR 0).toList == (nmR 1).toList) = false := by kernel_rfl
theorem n02 : ((nmR 0).toList == (nmR 2).toList) = false := by kernel_rfl
theorem n10 : ((nmR 1).toList == (nmR 0).toList) = false := by kernel_rfl
theorem n12 : ((nmR 1).toList == (nmR 2).toList) = false := by kernel_rfl
theorem n20 : ((nmR 2).toList == (nmR 0).toList) = false := by kernel_rfl
theorem n21 : ((nmR 2).toList == (nmR 1).toList) = false := by kernel_rfl
theorem nm_ne {i j : Nat} (hi : i < 3) (hj : j < 3) (h : i ≠ j) : ((nmR i).toList == (nmR j).toList) = false := by
  have a : i = 0 ∨ i = 1 ∨ i = 2 := by omega
  have b : j = 0 ∨ j = 1 ∨ j = 2 := by omega
  rcases a with rfl | rfl | rfl <;> rcases b with rfl | rfl | rfl <;> first | (exact absurd rfl h) | exact n01 | exact n02 | exact n10 | exact n12 | exact n20 | exact n21
theorem ranges_right (l : List (Int × Int)) : RightVs (rangesS l) := by
  have hlen : (rangesS l).length ≤ 3 := by unfold rangesS; rw [rangesFrom_len, List.length_take]; omega
  have hget : ∀ (j : Nat) v, (rangesS l)[j]? = some v → ∃ p, v = rgV j p := fun j v h => by
    obtain ⟨p, hp⟩ := rangesFrom_get _ 0 j v h
    exact ⟨p, by rw [hp, Nat.zero_add]⟩
  have hlt : ∀ (j : Nat) v, (rangesS l)[j]? = some v → j < 3 := fun j v h => by
    have := (List.getElem?_eq_some_iff.1 h).1; omega
  refine ⟨by omega, fun v hv => (rangesFrom_vok _ _ v hv).1, fun v hv => ?_, fun k v hv u hu => ?_, fun v hv => ?_⟩
  · obtain ⟨j, hj⟩ := List.mem_iff_getElem?.1 hv
    obtain ⟨p, rfl⟩ := hget j v hj
    exact c58n j (hlt j _ hj)
  · obtain ⟨j, hj⟩ := List.mem_iff_getElem?.1 hu
    rw [List.getElem?_take] at hj
    split at hj
    · rename_i hjk
      obtain ⟨p, rfl⟩ := hget j u hj
      obtain ⟨q, rfl⟩ := hget k v hv
      exact nm_ne (hlt j _ hj) (hlt k _ hv) (by omega)
    · cases hj
  · obtain ⟨j, hj⟩ := List.mem_iff_getElem?.1 hv
    obtain ⟨p, rfl⟩ := hget j v hj
    have hw : 0 ≤ widR p ∧ widR p ≤ 3 := by unfold widR; omega
    have := Int.emod_nonneg (p.2 % 256 / 4) (show widR p + 1 ≠ 0 by omega)
    have := Int.emod_lt_of_pos (p.2 % 256 / 4) (show 0 < widR p + 1 by omega)
    simp only [rgV]; omega
/-! ### values within -/
theorem within_in : ∀ (rs : List VT) (us : List UInt8), (∀ v, v ∈ rs → VOK v) → rs.length ≤ us.length → rs.length = (withinS rs us).length ∧ inS rs (withinS rs us) = true ∧ ∀ (i : Nat), i < rs.length → (rs.getD i default).low ≤ (withinS rs us).getD i 0 ∧ (withinS rs us).getD i 0 ≤ (rs.getD i default).high
  | [], us, _, _ => ⟨rfl, rfl, fun i h => absurd h (Nat.not_lt_zero i)⟩
  | v :: rs, [], _, h => by simp at h
  | v :: rs, u :: us, hv, h => by
    obtain ⟨i1, i2, i3⟩ := within_in rs us (fun v hv' => hv v (by simp [hv'])) (by simpa using h)
    obtain ⟨a1, a2, a3⟩ := hv v (by simp)
    have q1 := Int.emod_nonneg (u.toNat : Int) (show v.high - v.low + 1 ≠ 0 by omega)
    have q2 := Int.emod_lt_of_pos (u.toNat : Int) (show 0 < v.high - v.low + 1 by omega)
    have e : withinS (v :: rs) (u :: us) = (v.low + (u.toNat : Int) % (v.high - v.low + 1)) :: withinS rs us := rfl
    rw [e]
    refine ⟨by simp [i1], ?_, fun i hi => ?_⟩
    · have e2 : inS (v :: rs) ((v.low + (u.toNat : Int) % (v.high - v.low + 1)) :: withinS rs us) = (decide (v.low ≤ v.low + (u.toNat : Int) % (v.high - v.low + 1)) && decide (v.low + (u.toNat : Int) % (v.high - v.low + 1) ≤ v.high) && inS rs (withinS rs us)) := rfl
      rw [e2, i2, decT (by omega), decT (by omega)]; rfl
    · cases i with
      | zero => simp; omega
      | succ i => simpa using i3 i (by simpa using hi)
theorem c7 (bs : List UInt8) (l : List (Int × Int)) (a b c : UInt8) (hb : bs.length ≤ lenMax) (hl : ∀ p, p ∈ l → -128 ≤ p.1 ∧ p.1 ≤ 127 ∧ -128 ≤ p.2 ∧ p.2 ≤ 127) :
    SS.CC 7 [.sl false 1 (encB bs), .sl false 2 (l.map encR), .agg [.int .u8 (a.toNat : Int), .int .u8 (b.toNat : Int), .int .u8 (c.toNat : Int)]] [] = Ret (.bool true) := by
  have w333 : ∀ (x y z : Int) K, w_3_3_3 (.tuple [.int .i64 x, .int .i64 y, .int .i64 z]) K = K x y z := fun _ _ _ _ => rfl
  have h22 := c22 l hl
  have hR := ranges_right l
  have hlen3 : (rangesS l).length ≤ 3 := by unfold rangesS; rw [rangesFrom_len, List.length_take]; omega
  have hvok : ∀ v, v ∈ rangesS l → VOK v := fun v hv => (rangesFrom_vok _ _ v hv).1
  generalize rangesS l = rs at *
  have h1 : (bs.length : Int).tmod 2 = (bs.length : Int) % 2 := Int.tmod_eq_emod_of_nonneg (by omega)
  have hgc := GrowS_check (n := rs.length) (vars := rs.length) bs (Int.le_refl _) (by omega) (by omega) (k := 1 + (bs.length : Int) % 2) (by omega)
  have hgg := GrowS_good (n := rs.length) (vars := rs.length) bs (Int.le_refl _) (k := 1 + (bs.length : Int) % 2) (by omega)
  have h27 := c27 rs a b c hlen3 hvok
  obtain ⟨hw1, hw2, hw3⟩ := within_in rs [a, b, c] hvok (by simpa using hlen3)
  generalize withinS rs [a, b, c] = vs at *
  rw [g7_eq, clX_of c12, vB_mk, Bool.not_true, bsel_false, clX_of h22, vL_mk, List.length_map, encB_length, h1, wr (by omega) (by omega), clX_of (c18 bs rs.length _ hb ⟨by omega, by omega⟩ (by omega)), v23_e, mkE, clX_of h27, vL_mk]
  generalize GrowS bs rs.length (1 + (bs.length : Int) % 2) = e at *
  have hbig : (vs.any fun n => largeS n 65536) = false := by
    rw [List.any_eq_false]
    intro q hq
    obtain ⟨j, hj⟩ := List.mem_iff_getElem?.1 hq
    have hjl := (List.getElem?_eq_some_iff.1 hj).1
    obtain ⟨b1, b2⟩ := hw3 j (by omega)
    have hv := hvok (rs.getD j default) (by rw [List.getD_eq_getElem?_getD, List.getElem?_eq_getElem (by omega)]; exact List.getElem_mem (by omega))
    have hd : vs.getD j 0 = q := by rw [List.getD_eq_getElem?_getD, hj]; rfl
    rw [hd] at b1 b2
    obtain ⟨v1, v2, v3⟩ := hv
    rw [(largeS_false q 65536).2 (by omega)]; simp
  have hev : evaluateS e vs = match evalE vs e with | none => (0, 17) | some n => (n, 0) := by
    unfold evaluateS
    rw [← hw1, hgc]
    simp [hbig]
    cases evalE vs e <;> rfl
  rw [clX_of (c20 e vs (by unfold lenMax; omega)), w_3_3_mk, clX_of (c23 e rs hR.ok (c33 rs hR)), w333, clX_of (c28 rs vs (by omega) hw1), vB_mk, hw2, bsel_true]
  have hT : boundsT e rs = match boundsE rs e with | none => (0, 0, 17) | some (a, b) => (a, b, 0) := by
    unfold boundsT
    rw [hgc]; simp
    cases boundsE rs e <;> rfl
  rw [hT]
  cases hbd : boundsE rs e with
  | none => rfl
  | some p =>
    obtain ⟨x, hx, hin⟩ := lies hR.ok ⟨hw1, hw3⟩ e hgg.1 p hbd
    rw [hev, hx]
    obtain ⟨i1, i2⟩ := hin
    simp only [Int.reduceBEq, beq_self_eq_true, bsel_true, bsel_false]
    rw [decT i1, bsel_true, decT i2]
end Go.Proofs.Ytmclnnpaephkpaa

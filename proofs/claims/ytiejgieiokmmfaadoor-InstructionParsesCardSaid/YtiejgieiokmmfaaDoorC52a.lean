/-
  The runs of a list: the program's and the model's.
-/
import Derived.Test.YtiejgieiokmmfaaDoorL52
namespace Go.Proofs.YtiejgieiokmmfaaDoor
set_option linter.unusedVariables false
set_option linter.unusedSimpArgs false
set_option linter.unnecessarySimpa false
set_option linter.unusedSectionVars false
open Go.RowKit
def runP (r : List Int × List Bool) : R := some (.sl false 1 (intL r.1), [some (bitL r.2)])
theorem bitsAt {w : Nat} {x : Ins} {b : List Bool} (hb : b.length = w) (h : 0 ≤ x.2 ∧ x.2 < w) : b[x.2.toNat]? = some (b.getD x.2.toNat false) := by
  have : x.2.toNat < b.length := by omega
  rw [List.getD_eq_getElem?_getD, List.getElem?_eq_getElem this]; rfl
theorem l40 (p : Prg) (w : Nat) (hok : okL w p.list) : ∀ (f i : Nat) (acc : Bool) (b : List Bool) (st : List Int), b.length = w → p.list.length ≤ i + f → st.length ≤ i → i ≤ p.list.length →
    g40_L6 w p.ni p.no p.nm (bitL p.start) (insL p.list) opsP (bitL b) (intL st) acc (i : Int) = runP (runS p.list f i acc b st) := by
  intro f
  induction f with
  | zero =>
    intro i acc b st hb hf hs hi
    rw [g40_L6_eq, bitL_flC, Bool.true_and, chk_of rfl, decF (by simp; omega), bsel_false, chk_of rfl, chk_of rfl]
    rfl
  | succ f ih =>
    intro i acc b st hb hf hs hi
    have hn := hok.1
    rw [g40_L6_eq, bitL_flC, Bool.true_and, chk_of rfl]
    by_cases hlt : i < p.list.length
    · obtain ⟨x, hx⟩ := get_lt hlt
      obtain ⟨h1, h2, h3, h4⟩ := hok.2 i x hx
      rw [decT (by simp; omega), bsel_true, chk_of rfl, chk_of (by simp [LIM]; omega), lget_ins hx, v57_mk, runS, hx]
      simp only
      by_cases h6 : x.1 ≤ 6
      · obtain ⟨s, g, e1, _, e2⟩ := op_load h1 h6
        have hr := h3 (by omega)
        rw [e1, v110_mk]
        simp only [List.all_cons, List.all_nil, PV.one, Bool.and_true, chk_of, PV.un, fnX]
        rw [show ((false : Bool) == false) = true from rfl, bsel_true, chk_of (by rw [decT hr.1, decT hr.2]; rfl), nget_bit (bitsAt hb hr), vB_mk]
        simp only [fvX, List.nil_append, List.append_nil, PV.flats, PV.flat, Bool.and_true, chk_of]
        rw [clX_of (e2 _ _), vB_mk, intL_snoc, wrs (by omega), if_pos h6]
        exact ih (i + 1) _ b _ hb (by omega) (by simp; omega) (by omega)
      · rw [if_neg h6]
        by_cases h10 : x.1 ≤ 10
        · obtain ⟨s, g, e1, _, e2⟩ := op_store (by omega) h10
          have hr := h3 (by omega)
          rw [e1, v110_mk]
          simp only [List.all_cons, List.all_nil, PV.one, Bool.and_true, chk_of, PV.un, fnX]
          rw [show ((true : Bool) == false) = false from rfl, bsel_false, show ((false : Bool) == false) = true from rfl, bsel_true, chk_of (by rw [decT hr.1, decT hr.2]; rfl), nget_bit (bitsAt hb hr), vB_mk]
          simp only [fvX, List.nil_append, List.append_nil, PV.flats, PV.flat, Bool.and_true, chk_of]
          rw [clX_of (e2 _ _), vB_mk, chk_of (by rw [decT hr.1, decT hr.2]; rfl), chk_of (by simp; omega), intL_snoc, wrs (by omega), bitL_set, if_pos h10]
          exact ih (i + 1) _ _ _ (by simpa using hb) (by omega) (by simp; omega) (by omega)
        · obtain ⟨s, g, e1, _, e2⟩ := op_jump (by omega) h2
          have hj := h4 (by omega)
          rw [e1, v110_mk]
          simp only [List.all_cons, List.all_nil, PV.one, Bool.and_true, chk_of, PV.un, fnX]
          rw [show ((true : Bool) == false) = false from rfl, bsel_false, bsel_false]
          simp only [fvX, List.nil_append, List.append_nil, PV.flats, PV.flat, Bool.and_true, chk_of]
          rw [clX_of (e2 _), vB_mk, intL_snoc, wrs (by omega), if_neg h10]
          have hxi : x.2 = (x.2.toNat : Int) := by omega
          cases jumpS x.1 acc with
          | true =>
            rw [bsel_true, if_pos rfl]
            have := ih x.2.toNat acc b (st ++ [(i : Int)]) hb (by omega) (by simp; omega) (by omega)
            rwa [← hxi] at this
          | false =>
            rw [bsel_false, if_neg (by simp)]
            exact ih (i + 1) acc b _ hb (by omega) (by simp; omega) (by omega)
    · have hx : p.list[i]? = none := List.getElem?_eq_none (by omega)
      rw [decF (by simp; omega), bsel_false, chk_of rfl, chk_of rfl, runS, hx]
      rfl
theorem l42 (p : Prg) (w : Nat) (hok : okL w p.list) : ∀ (f i : Nat) (acc : Bool) (b : List Bool) (st : List Int), b.length = w → p.list.length ≤ i + f → st.length ≤ i → i ≤ p.list.length →
    g42_L5 w p.ni p.no p.nm (bitL p.start) (insL p.list) (bitL b) (intL st) acc (i : Int) = runP (runS p.list f i acc b st) := by
  intro f
  induction f with
  | zero =>
    intro i acc b st hb hf hs hi
    rw [g42_L5_eq, bitL_flC, Bool.true_and, chk_of rfl, decF (by simp; omega), bsel_false, chk_of rfl, chk_of rfl]
    rfl
  | succ f ih =>
    intro i acc b st hb hf hs hi
    have hn := hok.1
    rw [g42_L5_eq, bitL_flC, Bool.true_and, chk_of rfl]
    by_cases hlt : i < p.list.length
    · obtain ⟨x, hx⟩ := get_lt hlt
      obtain ⟨k, y⟩ := x
      obtain ⟨h1, h2, h3, h4⟩ := hok.2 i _ hx
      simp only at h1 h2 h3 h4
      rw [decT (by simp; omega), bsel_true, chk_of rfl, lget_ins hx, v57_mk, chk_of (by simp [LIM]; omega), runS, hx, intL_snoc, wrs (by omega)]
      simp only [bitL_set, bitL_flC, Bool.and_true, chk_of]
      have nxt : ∀ acc' b', b'.length = w → g42_L5 w p.ni p.no p.nm (bitL p.start) (insL p.list) (bitL b') (intL (st ++ [(i : Int)])) acc' ((i + 1 : Nat) : Int) = runP (runS p.list f (i + 1) acc' b' (st ++ [(i : Int)])) := fun acc' b' hb' => ih (i + 1) acc' b' _ hb' (by omega) (by simp; omega) (by omega)
      by_cases h10 : k ≤ 10
      · have hr := h3 h10
        have hc : (decide (0 ≤ y) && decide (y < (w : Int))) = true := by rw [decT hr.1, decT hr.2]; rfl
        have hg := bitsAt (x := (k, y)) hb hr
        simp only at hg
        have hset : ∀ v, (b.set y.toNat v).length = w := fun v => by simpa using hb
        simp only [hc, nget_bit hg, vB_mk, chk_of, bitL_len, decT (show y.toNat < b.length by omega)]
        have : k = 1 ∨ k = 2 ∨ k = 3 ∨ k = 4 ∨ k = 5 ∨ k = 6 ∨ k = 7 ∨ k = 8 ∨ k = 9 ∨ k = 10 := by omega
        rcases this with rfl | rfl | rfl | rfl | rfl | rfl | rfl | rfl | rfl | rfl <;> simp only [Int.reduceBEq, bsel_true, bsel_false, loadS, storeS, nxt _ _ hb, nxt _ _ (hset _)]
        all_goals (first | rfl | (cases acc <;> simp only [bsel_true, bsel_false, Bool.true_and, Bool.false_and, Bool.and_true, Bool.and_false, Bool.or_true, Bool.or_false, Bool.true_or, Bool.false_or, Bool.not_true, Bool.not_false, chk_of, nxt _ _ hb, nxt _ _ (hset _)] <;> first | rfl | (cases b.getD y.toNat false <;> simp only [bsel_true, bsel_false, Bool.true_and, Bool.false_and, Bool.and_true, Bool.and_false, Bool.or_true, Bool.or_false, Bool.true_or, Bool.false_or, Bool.not_true, Bool.not_false, chk_of, nxt _ _ (hset _)] <;> rfl)))
      · have hj := h4 (by omega)
        have hy : ∀ acc', g42_L5 w p.ni p.no p.nm (bitL p.start) (insL p.list) (bitL b) (intL (st ++ [(i : Int)])) acc' y = runP (runS p.list f y.toNat acc' b (st ++ [(i : Int)])) := fun acc' => by
          have := ih y.toNat acc' b (st ++ [(i : Int)]) hb (by omega) (by simp; omega) (by omega)
          rwa [show ((y.toNat : Nat) : Int) = y by omega] at this
        have : k = 11 ∨ k = 12 ∨ k = 13 := by omega
        rcases this with rfl | rfl | rfl <;> simp only [Int.reduceBEq, bsel_true, bsel_false, nxt _ _ hb, hy]
        all_goals (first | rfl | (cases acc <;> rfl))
    · have hx : p.list[i]? = none := List.getElem?_eq_none (by omega)
      rw [decF (by simp; omega), bsel_false, chk_of rfl, chk_of rfl, runS, hx]
      rfl
end Go.Proofs.YtiejgieiokmmfaaDoor

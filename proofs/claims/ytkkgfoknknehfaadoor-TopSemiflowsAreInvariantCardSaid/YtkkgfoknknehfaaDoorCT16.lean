/-
  Cycles of the reachability graph.
-/
import Derived.Test.YtkkgfoknknehfaaDoorCT15
namespace Go.Proofs.YtkkgfoknknehfaaDoor.W
set_option linter.unusedVariables false
set_option linter.unusedSimpArgs false
set_option linter.unnecessarySimpa false
set_option linter.unusedSectionVars false
open Go.RowKit
set_option maxRecDepth 100000
set_option maxHeartbeats 1000000
theorem H9_of {g : FuncId} {a : List PV} {h0 : Objs} {K} {b : Bool} {m : Int} {l : List PV} (h : SS.CC g a h0 = some (.tuple [.bool b, .int .i64 m], [some l])) : H9 g a h0 K = K ((b, ()), (m, ()), ()) l := clH_to h rfl
theorem lgV_e {l : List (Nat × Nat × Nat)} {r : Int} {K : Sh.V S30 → R} (h0 : 0 ≤ r) (h : r.toNat < l.length) : lgV S30 (l.map pE) r K = K (vE l[r.toNat]) := (lget_mapI h0 h).trans rfl
theorem sm_single {T a : Nat} (ha : a < T) (g : Nat → Int) : sm T (fun t => g t * (if a = t then 1 else 0)) = g a := by
  induction T with
  | zero => omega
  | succ T ih =>
    rw [smS]
    by_cases e : a = T
    · subst e; rw [if_pos rfl, sm_zero fun t ht => by rw [if_neg (by omega), Int.mul_zero]]; omega
    · rw [ih (by omega), if_neg e]; omega
/-- How often. -/
def cnt (F : Nat → Nat) (L t : Nat) : Int := sm L fun j => if F j = t then 1 else 0
theorem cnt_sum {T : Nat} {F : Nat → Nat} (g : Nat → Int) : ∀ {L : Nat}, (∀ j, j < L → F j < T) → sm T (fun t => g t * cnt F L t) = sm L fun j => g (F j)
  | 0, _ => sm_zero fun t _ => by unfold cnt; rw [sm0, Int.mul_zero]
  | L + 1, h => by
    have e : ∀ t, g t * cnt F (L + 1) t = g t * cnt F L t + g t * (if F L = t then 1 else 0) := fun t => by unfold cnt; rw [smS, Int.mul_add]
    rw [smS, sm_congr fun t _ => e t, sm_add, cnt_sum g fun j hj => h j (by omega), sm_single (h L (by omega))]
theorem cnt_b (F : Nat → Nat) (L t : Nat) : 0 ≤ cnt F L t ∧ cnt F L t ≤ L := by
  induction L with
  | zero => simp [cnt]
  | succ L ih =>
    unfold cnt at ih ⊢
    rw [smS]
    split <;> omega
def mk (nd : List Nd) (i p : Nat) : Int := match nd[i]? with | some a => a.m p | none => 0
theorem tele {μ : Nat → Int} {g : Nat → Int} : ∀ {L : Nat}, (∀ j, j < L → μ (j + 1) = μ j + g j) → sm L g = μ L - μ 0
  | 0, _ => by simp
  | L + 1, h => by rw [smS, tele fun j hj => h j (by omega), h L (by omega)]; omega
section
variable {n : Nt} (hn : NtOk n)
include hn
/-- Transitions that were fired between two meetings of a marking. -/
theorem c23L {F : Nat → Nat} {L : Nat} (hL1 : 1 ≤ L) (hL : L ≤ 100) (hF : ∀ j, j < L → F j < n.ts.length) (hz : ∀ p, p < n.P → sm L (fun j => n.D (F j) p) = 0) :
    g14_L23 (vN n) (mv L fun j => (F j : Int)) (L : Int) 0 (mv n.ts.length fun _ => 0) = some (.bool true, []) := by
  have ht := hn.t5
  have key : ∀ j, j ≤ L → g14_L23 (vN n) (mv L fun j => (F j : Int)) (L : Int) (j : Int) (mv n.ts.length fun t => cnt F j t) = some (.bool true, []) := by
    refine up_to ?_ fun j hj ih => ?_
    · have h28 := c28 hn (c := fun t => cnt F L t) (fun k hk => by have := cnt_b F L k; omega) (fun p hp => by rw [cnt_sum (fun t => n.D t p) hF]; exact hz p hp) ⟨F 0, hF 0 (by omega), by
        have := sm_one (n := L) (f := fun j => if F j = F 0 then 1 else 0) (fun i hi => by split <;> omega) 0 (by omega)
        rw [if_pos rfl] at this
        unfold cnt; omega⟩
      rw [g14_L23_eq, mv_fl, List.length_map, Int.toNat_natCast, decF (by omega), bsel_false]
      simp only [Bool.and_self, chk_true]
      rw [H9_of h28, mv_fl]; rfl
    · have hb := cnt_b F j (F j)
      have hFj := hF j hj
      rw [g14_L23_eq, mv_fl, List.length_map, Int.toNat_natCast, decT (show (j : Int) < (L : Int) by omega), bsel_true, lget_mv hj, vI_mk, decT (show (0 : Int) ≤ (F j : Int) by omega), decT (show (F j : Int) < (n.ts.length : Int) by omega), Int.toNat_natCast, nget_mv hFj, vI_mk, mv_length, decT hFj, mv_set, mv_fl, wrs (by omega), wrap64 (by omega) (by omega)]
      simp only [Bool.and_self, chk_true]
      rw [show (mv n.ts.length fun p => if p = F j then cnt F j (F j) + 1 else cnt F j p) = mv n.ts.length fun t => cnt F (j + 1) t from mv_congr fun t _ => by
        unfold cnt; rw [smS]
        by_cases e : t = F j
        · rw [if_pos e, if_pos e.symm, e]
        · rw [if_neg e, if_neg fun h => e h.symm]; omega]
      exact ih
  have := key 0 (by omega)
  exact this
theorem c14 {nd : List Nd} {ed : List (Nat × Nat × Nat)} {l : List (List UInt8 × Nat)} (hG : GInv n nd ed l) (he : ed.length ≤ 20480) {sv : List PV} (hS : sv.length ≤ 20) (hsv : ∀ i, i < sv.length → ∃ v : Int, 0 ≤ v ∧ v ≤ 255 ∧ sv[i]? = some (.int .u8 v)) :
    SS.CC 14 [A0 (vN n), .sl false 3 (ed.map pE), .sl false 1 sv] [] = some (.bool true, []) := by
  have ht := hn.t5
  have outer : ∀ i, i ≤ sv.length → ∀ A F : Nat → Nat, (∀ j, j < i → F j < n.ts.length ∧ ∀ p, p < n.P → mk nd (A (j + 1)) p = mk nd (A j) p + n.D (F j) p) →
      g14_L5 (ed.map pE) sv (vN n) (mv (i + 1) fun j => (A j : Int)) (mv i fun j => (F j : Int)) (i : Int) = some (.bool true, []) := by
    refine up_to (fun A F _ => ?_) fun i hi ih A F hI => ?_
    · rw [g14_L5_eq, decF (by omega), bsel_false]
    · obtain ⟨v, v0, v1, hv⟩ := hsv i hi
      have inner : ∀ j, j ≤ ed.length → ∀ ex : List (Nat × Nat × Nat), (∀ e, e ∈ ex → e ∈ ed ∧ e.1 = A i) → ex.length ≤ j → g14_L9 (ed.map pE) sv (vN n) (ex.map pE) (j : Int) (mv (i + 1) fun j => (A j : Int)) (mv i fun j => (F j : Int)) (i : Int) = some (.bool true, []) := by
        refine up_to (fun ex hex hl => ?_) fun j hj ihj ex hex hl => ?_
        · rw [g14_L9_eq, List.length_map, decF (by omega), bsel_false, List.length_map]
          by_cases h0 : ex.length = 0
          · rw [show ((ex.length : Int) == 0) = true from beq_iff_eq.2 (by omega), bsel_true]
          · have hr := tm v0 (show (0 : Int) < (ex.length : Int) by omega)
            have hrl : (Int.tmod v (ex.length : Int)).toNat < ex.length := by omega
            obtain ⟨y, hy⟩ : ∃ y, ex[(Int.tmod v (ex.length : Int)).toNat] = y := ⟨_, rfl⟩
            have hym : y ∈ ex := hy ▸ List.getElem_mem hrl
            obtain ⟨h1, h2⟩ := hex y hym
            obtain ⟨a, b, ha, hb, hT, hD⟩ := hG.ed y h1
            rw [show ((ex.length : Int) == 0) = false from beq_eq_false_iff_ne.2 (by omega), bsel_false, lgetX_of (by omega) (by rw [Int.toNat_natCast]; exact hv), vI_mk, Bool.not_false, chk_true, wrap64 (by omega) (by omega), lgV_e hr.1 hrl, hy, mv_length, decT (show i + 1 + 1 ≤ LIM by unfold LIM; omega), chk_true, mv_length, decT (show i + 1 ≤ LIM by unfold LIM; omega), chk_true]
            dsimp only
            let A' : Nat → Nat := fun j => if j < i + 1 then A j else y.2.2
            let F' : Nat → Nat := fun j => if j < i then F j else y.2.1
            have eA : (mv (i + 1) fun j => (A j : Int)) ++ [.int .i64 (y.2.2 : Int)] = mv (i + 2) fun j => (A' j : Int) := by
              rw [show ([.int .i64 (y.2.2 : Int)] : List PV) = mv 1 fun _ => (y.2.2 : Int) from rfl, mv_app]
              apply mv_congr; intro j _
              show _ = ((if j < i + 1 then A j else y.2.2 : Nat) : Int)
              split <;> rfl
            have eF : (mv i fun j => (F j : Int)) ++ [.int .i64 (y.2.1 : Int)] = mv (i + 1) fun j => (F' j : Int) := by
              rw [show ([.int .i64 (y.2.1 : Int)] : List PV) = mv 1 fun _ => (y.2.1 : Int) from rfl, mv_app]
              apply mv_congr; intro j _
              show _ = ((if j < i then F j else y.2.1 : Nat) : Int)
              split <;> rfl
            have a1 : ∀ j, j < i + 1 → A' j = A j := fun j hj => if_pos hj
            have a2 : A' (i + 1) = y.2.2 := if_neg (by omega)
            have f1 : ∀ j, j < i → F' j = F j := fun j hj => if_pos hj
            have f2 : F' i = y.2.1 := if_neg (by omega)
            have hI' : ∀ j, j < i + 1 → F' j < n.ts.length ∧ ∀ p, p < n.P → mk nd (A' (j + 1)) p = mk nd (A' j) p + n.D (F' j) p := fun j hj => by
              by_cases e : j = i
              · rw [e, f2, a2, a1 i (by omega)]
                refine ⟨hT, fun p hp => ?_⟩
                rw [← h2]
                unfold mk
                rw [ha, hb]
                exact hD p hp
              · rw [f1 j (by omega), a1 (j + 1) (by omega), a1 j (by omega)]
                exact hI j (by omega)
            rw [eA, eF]
            have up : ∀ k, k ≤ i + 1 → g14_L18 (ed.map pE) sv (vN n) (vE y) (k : Int) (mv (i + 2) fun j => (A' j : Int)) (mv (i + 1) fun j => (F' j : Int)) (i : Int) = some (.bool true, []) := by
              refine up_to ?_ fun k hk ihk => ?_
              · rw [g14_L18_eq, decF (by omega), bsel_false, wrs (by omega)]
                exact ih A' F' hI'
              · rw [g14_L18_eq, decT (by omega), bsel_true, lget_mv (show k < i + 2 by omega), vI_mk]
                by_cases e : A' k = y.2.2
                · rw [show ((A' k : Int) != (vE y).2.2.1) = false by rw [e]; exact bne_self_eq_false _, bsel_false, List.length_map, decT (show ((n.ts.length : Int) = (n.ts.length : Int)) from rfl), decT (show (0 : Int) ≤ (n.ts.length : Int) by omega), decT (show (n.ts.length : Int) ≤ 1073741824 by omega), Bool.and_self, Bool.and_self, chk_true, mv_length, decT (show (0 : Int) ≤ (k : Int) by omega), decT (show (k : Int) ≤ ((i + 1 : Nat) : Int) by omega), Bool.and_self, chk_true, Int.toNat_natCast, Int.toNat_natCast, mv_drop, mv_length, mv_rep]
                  refine c23L hn (F := fun j => F' (k + j)) (by omega) (by omega) (fun j hj => (hI' (k + j) (by omega)).1) fun p hp => ?_
                  have := tele (μ := fun j => mk nd (A' (k + j)) p) (g := fun j => n.D (F' (k + j)) p) (L := i + 1 - k) fun j hj => (hI' (k + j) (by omega)).2 p hp
                  rw [this, show k + (i + 1 - k) = i + 1 by omega, a2, Nat.add_zero, e]; omega
                · rw [show ((A' k : Int) != (vE y).2.2.1) = true from bne_iff_ne.2 (by show (A' k : Int) ≠ (y.2.2 : Int); omega), bsel_true, wrs (by omega)]
                  exact ihk
            exact up 0 (by omega)
        · rw [g14_L9_eq, List.length_map, decT (by omega), bsel_true, lgV_e (by omega) (show ((j : Int)).toNat < ed.length by omega), lget_mv (show i < i + 1 by omega), vI_mk]
          obtain ⟨y, hy⟩ : ∃ y, ed[((j : Int)).toNat]'(by omega) = y := ⟨_, rfl⟩
          have hym : y ∈ ed := hy ▸ List.getElem_mem _
          rw [hy]
          by_cases e : y.1 = A i
          · rw [show ((vE y).1 == (A i : Int)) = true from beq_iff_eq.2 (by show (y.1 : Int) = (A i : Int); omega), bsel_true, lgV_e (by omega) (show ((j : Int)).toNat < ed.length by omega), hy, List.length_map, decT (show ex.length + 1 ≤ LIM by unfold LIM; omega), chk_true, wrs (by omega)]
            have := ihj (ex ++ [y]) (fun e' he' => by
              rcases List.mem_append.1 he' with h3 | h3
              · exact hex e' h3
              · rw [List.mem_singleton.1 h3]; exact ⟨hym, e⟩) (by simp; omega)
            rw [List.map_append] at this
            exact this
          · rw [show ((vE y).1 == (A i : Int)) = false from beq_eq_false_iff_ne.2 (by show (y.1 : Int) ≠ (A i : Int); omega), bsel_false, wrs (by omega)]
            exact ihj ex hex (by omega)
      rw [g14_L5_eq, decT (by omega), bsel_true]
      exact inner 0 (by omega) [] (fun e h => by simp at h) (by simp)
  rw [g14_eq]
  exact outer 0 (by omega) (fun _ => 0) (fun _ => 0) fun j hj => by omega
end
end Go.Proofs.YtkkgfoknknehfaaDoor.W

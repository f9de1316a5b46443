/-
  Check; bounded; Graph and Bounds of nets.
-/
import Derived.Test.YtkkgfoknknehfaaDoorCT4
import Derived.Test.YtkkgfoknknehfaaDoorTTa
namespace Go.Proofs.YtkkgfoknknehfaaDoor.W
set_option linter.unusedVariables false
set_option linter.unusedSimpArgs false
set_option linter.unnecessarySimpa false
set_option linter.unusedSectionVars false
open Go.RowKit
set_option maxRecDepth 100000
set_option maxHeartbeats 1000000
theorem c47 {P : Nat} {l : List (Nat × Int)} (h : ArcOk P l) (hP : P ≤ 10) : SS.CC 47 [.sl false 2 (l.map pA), .int .i64 (P : Int)] [] = some (.int .i64 0, []) := by
  have hl := h.len
  have key : ∀ i, i ≤ l.length → g47_L3 (l.map pA) (P : Int) (i : Int) = some (.int .i64 0, []) := by
    refine up_to ?_ fun i hi ih => ?_
    · rw [g47_L3_eq, List.length_map, decF (by omega), bsel_false]
    · have hb := h.b _ (List.getElem_mem hi)
      rw [g47_L3_eq, List.length_map, decT (by omega), bsel_true, lgV_arc hi]
      dsimp only
      rw [decF (show ¬ ((l[i].1 : Nat) : Int) < 0 by omega), bsel_false, decF (show ¬ (P : Int) ≤ ((l[i].1 : Nat) : Int) by omega), bsel_false, wrs (by omega)]
      rw [decF (show ¬ l[i].2 < 1 by omega), decF (show ¬ 8 < l[i].2 by omega), bsel_false, bsel_false]
      by_cases h0 : i = 0
      · rw [decF (show ¬ (0 : Int) < (i : Int) by omega), bsel_false]; exact ih
      · have hs := List.pairwise_iff_getElem.1 h.s (i - 1) i (by omega) hi (by omega)
        rw [decT (show (0 : Int) < (i : Int) by omega), bsel_true, show IntKind.i64.wrap ((i : Int) - 1) = ((i - 1 : Nat) : Int) by rw [wrap64 (by omega) (by omega)]; omega, lgV_arc (show i - 1 < l.length by omega)]
        dsimp only
        rw [decF (show ¬ ((l[i].1 : Nat) : Int) ≤ ((l[i - 1].1 : Nat) : Int) by omega), bsel_false]; exact ih
  rw [g47_eq]
  exact key 0 (by omega)
theorem c37 {n : Nt} (hn : NtOk n) : SS.CC 37 [A0 (vN n)] [] = some (.int .i64 0, []) := by
  have hp := hn.p5
  have ht := hn.t5
  have key : ∀ i, i ≤ n.ts.length → g37_L9 (vN n) (i : Int) = some (.int .i64 0, []) := by
    refine up_to ?_ fun i hi ih => ?_
    · rw [g37_L9_eq, List.length_map, decF (by omega), bsel_false]
    · have h := hn.t _ (List.getElem_mem hi)
      have e0 := h.e0
      have e1 := h.e1
      rw [g37_L9_eq, List.length_map, decT (by omega), bsel_true, lgV_tr hi]
      dsimp only
      rw [decF (show ¬ (n.ts[i]).ev < 0 by omega), bsel_false, decF (show ¬ 32 ≤ (n.ts[i]).ev by omega), bsel_false]
      rw [g37_L14_eq, decT (by omega), bsel_true, lgetX_of (e := .sl false 2 ((n.ts[i]).inn.map pA)) (by omega) rfl, vL_mk, mv_length, G6_of (c47 h.i (by omega)), show ((0 : Int) != 0) = false from rfl, bsel_false]
      rw [show IntKind.i64.wrap (0 + 1) = 1 from rfl, g37_L14_eq, decT (by omega), bsel_true, lgetX_of (e := .sl false 2 ((n.ts[i]).out.map pA)) (by omega) rfl, vL_mk, mv_length, G6_of (c47 h.o (by omega)), show ((0 : Int) != 0) = false from rfl, bsel_false]
      rw [show IntKind.i64.wrap (1 + 1) = 2 from rfl, g37_L14_eq, decF (by omega), bsel_false, wrs (by omega)]
      exact ih
  rw [g37_eq, mv_length, decF (by omega), bsel_false, G1_of (c46 n.m0 (by omega)), tokB_iff.2 hn.tk, Bool.not_true, bsel_false, List.length_map, decF (by omega), bsel_false]
  exact key 0 (by omega)
abbrev Gok (n : Nt) (nd : List Nd) (ed : List (Nat × Nat × Nat)) (l : List (List UInt8 × Nat)) (s : Int) : Prop := SS.CC 17 [A0 (vN n)] [] = some (.tuple [.ptr 1 0, .int .i64 0], [O27 (mpL l, ()), O26 (nd.map (pNd n.P), ed.map pE, s, ())])
theorem c17 {n : Nt} (hn : NtOk n) : (∃ e : Int, e ≠ 0 ∧ SS.CC 17 [A0 (vN n)] [] = some (.tuple [.nilp, .int .i64 e], [])) ∨
    ∃ (nd : List Nd) (ed : List (Nat × Nat × Nat)) (l : List (List UInt8 × Nat)) (s : Int), GInv n nd ed l ∧ ed.length ≤ 20480 ∧ Gok n nd ed l s := by
  rcases c38 hn with ⟨e, he, h⟩ | ⟨a, b, c, s, hs, h⟩ | ⟨nd, ed, l, s, hG, hel, hs, h⟩
  · refine .inl ⟨e, he, ?_⟩
    rw [g17_eq, G6_of (c37 hn), show ((0 : Int) != 0) = false from rfl, bsel_false]
    refine clH_to h ?_
    rw [h38_0_mk1, show (e != 0) = true by simpa using he, bsel_true]
  · refine .inl ⟨23, by decide, ?_⟩
    rw [g17_eq, G6_of (c37 hn), show ((0 : Int) != 0) = false from rfl, bsel_false]
    refine clH_to h ?_
    rw [h38_0_mk0, show ((0 : Int) != 0) = false from rfl, bsel_false, g17_J8_eq]
    dsimp only
    rw [decT hs, bsel_true]
  · refine .inr ⟨nd, ed, l, s, hG, hel, ?_⟩
    show SS.CC 17 [A0 (vN n)] [] = _
    rw [g17_eq, G6_of (c37 hn), show ((0 : Int) != 0) = false from rfl, bsel_false]
    refine clH_to h ?_
    rw [h38_0_mk0, show ((0 : Int) != 0) = false from rfl, bsel_false, g17_J8_eq]
    dsimp only
    rw [decF (by omega), bsel_false]
theorem c7_err {n : Nt} {e : Int} (he : e ≠ 0) (h : SS.CC 17 [A0 (vN n)] [] = some (.tuple [.nilp, .int .i64 e], [])) : SS.CC 7 [A0 (vN n)] [] = some (.tuple [.sl false 3 [], .sl false 1 [], .int .i64 e], []) := by
  rw [g7_eq]
  refine clH_to h ?_
  rw [h17_0_mk1, show (e != 0) = true by simpa using he, bsel_true]
/-- A list of lists. -/
def mvs (P : Nat) (nd : List Nd) : List PV := nd.map fun x => .sl false 1 (mv P x.m)
theorem c7 {n : Nt} {nd : List Nd} {ed : List (Nat × Nat × Nat)} {l : List (List UInt8 × Nat)} {s : Int} (hG : GInv n nd ed l) (h : Gok n nd ed l s) : SS.CC 7 [A0 (vN n)] [] = some (.tuple [.sl false 3 (ed.map pE), .sl false 1 (mvs n.P nd), .int .i64 0], []) := by
  have hl := hG.len2
  have key : ∀ i, i ≤ nd.length → g7_L6 (nd.map (pNd n.P), ed.map pE, s, ()) (mpL l) (mvs n.P (nd.take i)) (i : Int) = some (.tuple [.sl false 3 (ed.map pE), .sl false 1 (mvs n.P nd), .int .i64 0], []) := by
    refine up_to ?_ fun i hi ih => ?_
    · rw [g7_L6_eq, List.length_map, decF (by omega), bsel_false, List.take_length]
    · rw [g7_L6_eq, List.length_map, decT (by omega), bsel_true, lgV_nd (List.getElem?_eq_getElem hi), decT (show (mvs n.P (nd.take i)).length + 1 ≤ LIM by unfold mvs; rw [List.length_map, List.length_take]; unfold LIM; omega), chk_true, wrs (by omega), ← ih, List.take_succ_eq_append_getElem hi]
      unfold mvs
      rw [List.map_append]; rfl
  rw [g7_eq]
  refine clH_to h ?_
  rw [h17_0_mk0, show ((0 : Int) != 0) = false from rfl, bsel_false, g7_J5_eq]
  exact key 0 (by omega)
/-- Greatest tokens: of some marking that keeps all values. -/
def Top (n : Nt) (b : Nat → Int) : Prop := ∀ p, p < n.P → ∃ f : Nat → Int, (∀ p, p < n.P → 0 ≤ f p ∧ f p ≤ 65536) ∧ Kept n f ∧ b p = f p
theorem c10 {n : Nt} (hn : NtOk n) {nd : List Nd} {ed : List (Nat × Nat × Nat)} {l : List (List UInt8 × Nat)} {s : Int} (hG : GInv n nd ed l) (h : Gok n nd ed l s) :
    ∃ b, Top n b ∧ SS.CC 10 [A0 (vN n)] [] = some (.tuple [.sl false 1 (mv n.P b), .int .i64 0], []) := by
  have hl := hG.len2
  have hp := hn.p5
  have outer : ∀ i, i ≤ nd.length → ∀ b, Top n b → ∃ b', Top n b' ∧ g10_L7 (nd.map (pNd n.P), ed.map pE, s, ()) (mpL l) (mv n.P b) (i : Int) n.P = some (.tuple [.sl false 1 (mv n.P b'), .int .i64 0], []) := by
    refine up_to (fun b hb => ⟨b, hb, ?_⟩) fun i hi ih b hb => ?_
    · rw [g10_L7_eq, mv_fl, List.length_map, decF (by omega), bsel_false, mv_length, mv_flat, chunk1_mv, decT (by omega)]; rfl
    · obtain ⟨x, hx⟩ : ∃ x, nd[i]? = some x := ⟨_, List.getElem?_eq_getElem hi⟩
      have inner : ∀ j, j ≤ n.P → ∀ b, Top n b → ∃ b', Top n b' ∧ g10_L10 (nd.map (pNd n.P), ed.map pE, s, ()) (mv n.P x.m) (mpL l) (mv n.P b) n.P (j : Int) (i : Int) = some (.tuple [.sl false 1 (mv n.P b'), .int .i64 0], []) := by
        refine up_to (fun b hb => ?_) fun j hj ihj b hb => ?_
        · rw [g10_L10_eq, mv_fl, mv_length, decF (by omega), bsel_false, wrs (by omega)]
          exact ih b hb
        · have hT : Top n (fun p => if p = j then (if x.m j > b j then x.m j else b j) else b p) := fun p hp => by
            dsimp only
            by_cases e : p = j
            · rw [if_pos e]
              split
              · exact ⟨x.m, hG.tk i x hx, hG.kp i x hx, by rw [e]⟩
              · rw [← e]; exact hb p hp
            · rw [if_neg e]; exact hb p hp
          obtain ⟨b', h1, h2⟩ := ihj _ hT
          refine ⟨b', h1, ?_⟩
          rw [g10_L10_eq, mv_fl, mv_length, decT (show (j : Int) < (n.P : Int) by omega), bsel_true]
          simp only [Bool.and_self, chk_true, Int.toNat_natCast]
          rw [lget_mv hj, vI_mk, decT (show (0 : Int) ≤ (j : Int) by omega), nget_mv hj, vI_mk, mv_length, decT hj, mv_set, mv_fl, wrs (by omega)]
          exact h2
      obtain ⟨b', h1, h2⟩ := inner 0 (by omega) b hb
      refine ⟨b', h1, ?_⟩
      rw [g10_L7_eq, mv_fl, List.length_map, decT (by omega), bsel_true, lgV_nd hx]
      exact h2
  obtain ⟨b, h1, h2⟩ := outer 0 (by omega) n.m0 fun p hp => ⟨n.m0, hn.tk, Kept.start n, rfl⟩
  refine ⟨b, h1, ?_⟩
  rw [g10_eq]
  refine clH_to h ?_
  rw [h17_0_mk0, show ((0 : Int) != 0) = false from rfl, bsel_false, g10_J5_eq, G8_of (c22 n.m0 (by omega)), mv_length, mv_plain, decT (by have := hn.p0; omega)]
  exact h2
end Go.Proofs.YtkkgfoknknehfaaDoor.W

/-
  Minimal, Bounds, Verify, Excludes, Value, IsSemiflow.
-/
import Derived.Test.YtkkgfoknknehfaaDoorCT13
namespace Go.Proofs.YtkkgfoknknehfaaDoor.W
set_option linter.unusedVariables false
set_option linter.unusedSimpArgs false
set_option linter.unnecessarySimpa false
set_option linter.unusedSectionVars false
open Go.RowKit
set_option maxRecDepth 100000
set_option maxHeartbeats 1000000
theorem G7_of {g : FuncId} {a : List PV} {K} {v : Sh.V S29} {n : Int} (h : SS.CC g a [] = some (.tuple [A29 v, .int .i64 n], [])) : G7 g a K = K (v, (n, ()), ()) := (clX_of h).trans rfl
theorem lg_wsl {P : Nat} {ws : List (Nat → Int)} {i : Nat} (h : i < ws.length) {K : PV → R} : lgetX (wsl P ws) (i : Int) K = K (.sl false 1 (mv P ws[i])) := lget_map h
/-- What the lists hold: semiflows of places. -/
abbrev Wok (n : Nt) (w : Nat → Int) : Prop := FlOk n.P n.ts.length (M1 n) w
theorem Wok.d {n : Nt} {w : Nat → Int} (h : Wok n w) : ∀ k, k < n.ts.length → sm n.P (fun p => n.D k p * w p) = 0 := fun k hk => by
  rw [← h.z k hk]
  exact sm_congr fun p hp => by unfold M1; rw [if_pos ⟨hp, hk⟩]
theorem Wok.t {n : Nt} {w : Nat → Int} (h : Wok n w) : ∀ p, p < n.P → 0 ≤ w p ∧ w p ≤ 65536 := fun p hp => by have := h.b p hp; omega
section
variable {n : Nt} (hn : NtOk n)
include hn
theorem c8 : SS.CC 8 [A0 (vN n), .int .i64 1] [] = some (.tuple [.sl false 1 [], .int .i64 3], []) ∨ ∃ ws : List (Nat → Int), (∀ w, w ∈ ws → Wok n w) ∧ ws.length ≤ 128 ∧ SS.CC 19 [A29 (vTab n.P n.ts.length (M1 n))] [] = some (.tuple [.sl false 1 (wsl n.P ws), .int .i64 0], []) ∧ SS.CC 8 [A0 (vN n), .int .i64 1] [] = some (.tuple [.sl false 1 (wsl n.P ws), .int .i64 0], []) := by
  have ht := hn.t5
  rcases c19 (P := n.P) (T := n.ts.length) (M := M1 n) hn.p5 (by omega) (M1_bd hn) with h | ⟨ws, h1, h2, h3⟩
  · refine .inl ?_
    rw [g8_eq, G7_of (c18_1 hn), show ((0 : Int) != 0) = false from rfl, bsel_false, G5_of h]
  · refine .inr ⟨ws, h1, h2, h3, ?_⟩
    rw [g8_eq, G7_of (c18_1 hn), show ((0 : Int) != 0) = false from rfl, bsel_false, G5_of h3]
section
variable {ws : List (Nat → Int)} (hw : ∀ w, w ∈ ws → Wok n w) (hl : ws.length ≤ 128)
include hw hl
theorem c20 : SS.CC 20 [A0 (vN n), .sl false 1 (wsl n.P ws)] [] = some (.int .i64 0, []) := by
  have hp := hn.p5
  have ht := hn.t5
  have key : ∀ i, i ≤ ws.length → g20_L6 (wsl n.P ws) (vTab n.P n.ts.length (M1 n)) (i : Int) = some (.int .i64 0, []) := by
    refine up_to ?_ fun i hi ih => ?_
    · rw [g20_L6_eq, wsl_length, decF (by omega), bsel_false]
    · have h := hw _ (List.getElem_mem hi)
      rw [g20_L6_eq, wsl_length, decT (by omega), bsel_true, lg_wsl hi, vL_mk, G6_of (c23 (ws[i]) (by omega) (tokB_iff.2 h.t)), show ((0 : Int) != 0) = false from rfl, bsel_false, G1_of (c41 (by omega) (by omega) (M1_bd hn) h.t h.z h.s), Bool.not_true, bsel_false, wrs (by omega)]
      exact ih
  rw [g20_eq, G7_of (c18_1 hn), show ((0 : Int) != 0) = false from rfl, bsel_false]
  exact key 0 (by omega)
theorem c9 : ∃ b : Nat → Int, (∀ p, p < n.P → b p < 0 ∨ ∃ w, w ∈ ws ∧ w p ≠ 0 ∧ b p = (sm n.P fun q => w q * n.m0 q).tdiv (w p)) ∧ SS.CC 9 [A0 (vN n), .sl false 1 (wsl n.P ws)] [] = some (.tuple [.sl false 1 (mv n.P b), .int .i64 0], []) := by
  have hp5 := hn.p5
  let Q := fun (b : Nat → Int) (p : Nat) => b p < 0 ∨ ∃ w, w ∈ ws ∧ w p ≠ 0 ∧ b p = (sm n.P fun q => w q * n.m0 q).tdiv (w p)
  have outer : ∀ p, p ≤ n.P → ∀ b : Nat → Int, (∀ q, q < p → Q b q) → ∃ b' : Nat → Int, (∀ q, q < n.P → Q b' q) ∧ g9_L7 (wsl n.P ws) (vN n) (p : Int) (mv n.P b) = some (.tuple [.sl false 1 (mv n.P b'), .int .i64 0], []) := by
    refine up_to (fun b hb => ⟨b, hb, ?_⟩) fun p hp ih b hb => ?_
    · rw [g9_L7_eq, mv_fl, mv_length, Int.toNat_natCast, decF (by omega), bsel_false, mv_length, mv_flat, decT (show n.P * 1 ≤ n.P by omega), chunk1_mv]; rfl
    · have inner : ∀ i, i ≤ ws.length → ∀ b : Nat → Int, (∀ q, q < p + 1 → Q b q) → ∃ b' : Nat → Int, (∀ q, q < n.P → Q b' q) ∧ g9_L11 (wsl n.P ws) (vN n) (i : Int) (mv n.P b) (p : Int) (p : Int) = some (.tuple [.sl false 1 (mv n.P b'), .int .i64 0], []) := by
        refine up_to (fun b hb => ?_) fun i hi ihi b hb => ?_
        · obtain ⟨b', h1, h2⟩ := ih b hb
          refine ⟨b', h1, ?_⟩
          rw [g9_L11_eq, mv_fl, wsl_length, decF (by omega), bsel_false, wrs (by omega)]
          exact h2
        · have h := hw _ (List.getElem_mem hi)
          have ht := h.t p hp
          have hv := c21 (ws[i]) n.m0 (show n.P ≤ 10 by omega) h.t hn.tk
          by_cases h0 : (ws[i]) p = 0
          · obtain ⟨b', h1, h2⟩ := ihi b hb
            refine ⟨b', h1, ?_⟩
            rw [g9_L11_eq, mv_fl, wsl_length, decT (by omega), bsel_true, lg_wsl hi, vL_mk, lget_mv hp, vI_mk, h0, show ((0 : Int) == 0) = true from rfl, bsel_true, wrs (by omega)]
            exact h2
          · have hs := sm_bd (n := n.P) (f := fun q => ws[i] q * n.m0 q) (B := 65536 * 65536) fun q hq => by
              have := prod_bd (h.t q hq).1 (h.t q hq).2 (hn.tk q hq).1 (hn.tk q hq).2; omega
            have hd : ((sm n.P fun q => ws[i] q * n.m0 q).tdiv (ws[i] p)).natAbs ≤ (sm n.P fun q => ws[i] q * n.m0 q).natAbs := by rw [Int.natAbs_tdiv]; exact Nat.div_le_self _ _
            have hset : ∀ q, q < p + 1 → Q (fun q => if q = p then (sm n.P fun q => ws[i] q * n.m0 q).tdiv (ws[i] p) else b q) q := fun q hq => by
              by_cases e : q = p
              · subst e; exact .inr ⟨ws[i], List.getElem_mem hi, h0, if_pos rfl⟩
              · have := hb q hq
                rcases this with h1 | ⟨w, h1, h2, h3⟩
                · exact .inl (by dsimp only; rw [if_neg e]; exact h1)
                · exact .inr ⟨w, h1, h2, (if_neg e).trans h3⟩
            obtain ⟨b1, h11, h12⟩ := ihi _ hset
            obtain ⟨b2, h21, h22⟩ := ihi b hb
            have hB : 65536 * 65536 * (n.P : Int) ≤ 65536 * 65536 * 5 := by omega
            have e1 : IntKind.i64.wrap ((sm n.P fun q => ws[i] q * n.m0 q).tdiv (ws[i] p)) = (sm n.P fun q => ws[i] q * n.m0 q).tdiv (ws[i] p) := wrap64 (by omega) (by omega)
            have e2 : ((ws[i]) p == 0) = false := beq_eq_false_iff_ne.2 h0
            have main : g9_L11 (wsl n.P ws) (vN n) (i : Int) (mv n.P b) (p : Int) (p : Int) = bsel (decide (b p < 0)) (g9_L11 (wsl n.P ws) (vN n) ((i + 1 : Nat) : Int) (mv n.P fun q => if q = p then (sm n.P fun q => ws[i] q * n.m0 q).tdiv (ws[i] p) else b q) (p : Int) (p : Int)) (bsel (decide ((sm n.P fun q => ws[i] q * n.m0 q).tdiv (ws[i] p) < b p)) (g9_L11 (wsl n.P ws) (vN n) ((i + 1 : Nat) : Int) (mv n.P fun q => if q = p then (sm n.P fun q => ws[i] q * n.m0 q).tdiv (ws[i] p) else b q) (p : Int) (p : Int)) (g9_L11 (wsl n.P ws) (vN n) ((i + 1 : Nat) : Int) (mv n.P b) (p : Int) (p : Int))) := by
              rw [g9_L11_eq, mv_fl, wsl_length, decT (by omega), bsel_true, lg_wsl hi, vL_mk, lget_mv hp, vI_mk, e2, bsel_false, G6_of hv, lget_mv hp, vI_mk, e2, mv_length, Int.toNat_natCast, decT (show (0 : Int) ≤ (p : Int) by omega), decT (show (p : Int) < (n.P : Int) by omega), Int.toNat_natCast, nget_mv hp, vI_mk, nget_mv hp, vI_mk, mv_length, decT hp, mv_set, mv_fl, wrs (by omega), e1]
              simp only [Bool.and_self, chk_true, Bool.not_false, mv_set, mv_fl]
            rw [main]
            cases decide (b p < 0)
            · cases decide ((sm n.P fun q => ws[i] q * n.m0 q).tdiv (ws[i] p) < b p)
              · exact ⟨b2, h21, h22⟩
              · exact ⟨b1, h11, h12⟩
            · exact ⟨b1, h11, h12⟩
      obtain ⟨b', h1, h2⟩ := inner 0 (by omega) (fun q => if q = p then -1 else b q) fun q hq => by
        by_cases e : q = p
        · exact .inl (by dsimp only; rw [if_pos e]; omega)
        · rcases hb q (by omega) with h1 | ⟨w, h1, h2, h3⟩
          · exact .inl (by dsimp only; rw [if_neg e]; exact h1)
          · exact .inr ⟨w, h1, h2, (if_neg e).trans h3⟩
      refine ⟨b', h1, ?_⟩
      rw [g9_L7_eq, mv_fl, mv_length, Int.toNat_natCast, decT (show (p : Int) < (n.P : Int) by omega), bsel_true, decT (show (0 : Int) ≤ (p : Int) by omega), Int.toNat_natCast, mv_length, decT hp, mv_set]
      simp only [Bool.and_self, chk_true]
      exact h2
  obtain ⟨b, h1, h2⟩ := outer 0 (by omega) (fun _ => 0) fun q hq => by omega
  refine ⟨b, h1, ?_⟩
  rw [g9_eq, G6_of (c20 hn hw hl), show ((0 : Int) != 0) = false from rfl, bsel_false, mv_length, decT (show ((n.P : Int) = (n.P : Int)) from rfl), decT (show (0 : Int) ≤ (n.P : Int) by omega), decT (show (n.P : Int) ≤ 1073741824 by omega), Bool.and_self, Bool.and_self, chk_true, Int.toNat_natCast, mv_rep]
  exact h2
theorem c12 {m : Nat → Int} (hm : ∀ p, p < n.P → 0 ≤ m p ∧ m p ≤ 65536) (hk : Kept n m) : SS.CC 12 [A0 (vN n), .sl false 1 (wsl n.P ws), .sl false 1 (mv n.P m)] [] = some (.tuple [.int .i64 0, .bool false, .int .i64 0], []) := by
  have hp := hn.p5
  have key : ∀ i, i ≤ ws.length → g12_L9 (mv n.P m) (vN n) (wsl n.P ws) (i : Int) = some (.tuple [.int .i64 0, .bool false, .int .i64 0], []) := by
    refine up_to ?_ fun i hi ih => ?_
    · rw [g12_L9_eq, wsl_length, decF (by omega), bsel_false]
    · have h := hw _ (List.getElem_mem hi)
      rw [g12_L9_eq, wsl_length, decT (by omega), bsel_true, lg_wsl hi, vL_mk, G6_of (c21 _ m (by omega) h.t hm), G6_of (c21 _ n.m0 (by omega) h.t hn.tk), hk _ h.d, bne_self_eq_false, bsel_false, wrs (by omega)]
      exact ih
  rw [g12_eq, G6_of (c20 hn hw hl), show ((0 : Int) != 0) = false from rfl, bsel_false, mv_length, G6_of (c23 m (by omega) (tokB_iff.2 hm)), show ((0 : Int) != 0) = false from rfl, bsel_false]
  exact key 0 (by omega)
omit hw in
theorem c24 : SS.CC 24 [.sl false 1 (wsl n.P ws), .sl false 1 (wsl n.P ws), .func (.func 25) [] []] [] = some (.bool true, []) := by
  have hp := hn.p5
  have h26 : ∀ w : Nat → Int, SS.CC 26 [.sl false 1 (mv n.P w), .sl false 1 (mv n.P w)] [] = some (.bool true, []) := fun w => by
    have key : ∀ i, i ≤ n.P → g26_L5 (mv n.P w) (mv n.P w) (i : Int) = some (.bool true, []) := by
      refine up_to ?_ fun i hi ih => ?_
      · rw [g26_L5_eq, mv_length, decF (by omega), bsel_false]
      · rw [g26_L5_eq, mv_length, decT (by omega), bsel_true, lget_mv hi, vI_mk, lget_mv hi, vI_mk, bne_self_eq_false, bsel_false, wrs (by omega)]
        exact ih
    rw [g26_eq, bne_self_eq_false, bsel_false]
    exact key 0 (by omega)
  have key : ∀ i, i ≤ ws.length → g24_L5 (wsl n.P ws) (wsl n.P ws) (i : Int) = some (.bool true, []) := by
    refine up_to ?_ fun i hi ih => ?_
    · rw [g24_L5_eq, wsl_length, decF (by omega), bsel_false]
    · have h25 : SS.CC 25 [.sl false 1 (mv n.P ws[i]), .sl false 1 (mv n.P ws[i])] [] = some (.bool true, []) := by rw [g25_eq, G1_of (h26 _)]
      rw [g24_L5_eq, wsl_length, decT (by omega), bsel_true, lg_wsl hi, vL_mk, lg_wsl hi, vL_mk, G1_of h25, Bool.not_true, bsel_false, wrs (by omega)]
      exact ih
  rw [g24_eq, bne_self_eq_false, bsel_false]
  exact key 0 (by omega)
theorem c11 (h19 : SS.CC 19 [A29 (vTab n.P n.ts.length (M1 n))] [] = some (.tuple [.sl false 1 (wsl n.P ws), .int .i64 0], [])) : SS.CC 11 [A0 (vN n), .int .i64 1, .sl false 1 (wsl n.P ws)] [] = some (.int .i64 0, []) := by
  have hp := hn.p5
  have key : ∀ i, i ≤ ws.length → g11_L6 (wsl n.P ws) (vTab n.P n.ts.length (M1 n)) (i : Int) = some (.int .i64 0, []) := by
    refine up_to ?_ fun i hi ih => ?_
    · rw [g11_L6_eq, wsl_length, decF (by omega), bsel_false, G5_of h19, show ((0 : Int) != 0) = false from rfl, bsel_false, G1_of (c24 hn hl), Bool.not_true, bsel_false]
    · have h := hw _ (List.getElem_mem hi)
      rw [g11_L6_eq, wsl_length, decT (by omega), bsel_true, lg_wsl hi, vL_mk, G6_of (c23 (ws[i]) (by omega) (tokB_iff.2 h.t)), show ((0 : Int) != 0) = false from rfl, bsel_false, wrs (by omega)]
      exact ih
  rw [g11_eq, G7_of (c18_1 hn), show ((0 : Int) != 0) = false from rfl, bsel_false]
  exact key 0 (by omega)
end
theorem c13 {w m : Nat → Int} (hw : ∀ p, p < n.P → 0 ≤ w p ∧ w p ≤ 65536) (hm : ∀ p, p < n.P → 0 ≤ m p ∧ m p ≤ 65536) : SS.CC 13 [.sl false 1 (mv n.P w), .sl false 1 (mv n.P m)] [] = some (.tuple [.int .i64 (sm n.P fun p => w p * m p), .int .i64 0], []) := by
  have hp := hn.p5
  have e : ∀ {f : Nat → Int}, (∀ p, p < n.P → 0 ≤ f p ∧ f p ≤ 65536) → SS.CC 27 [.sl false 1 (mv n.P f)] [] = some (.int .i64 0, []) := fun {f} hf => by
    rw [c27 f (by omega), tokB_iff.2 hf]; rfl
  rw [g13_eq, mv_length, mv_length, bne_self_eq_false, bsel_false, g13_L5_eq, show decide ((0 : Int) < 2) = true from rfl, bsel_true, show (decide ((0 : Int) ≤ 0) && true) = true from rfl, chk_true, show ((0 : Int) == 0) = true from rfl, bsel_true, G6_of (e hw), show ((0 : Int) != 0) = false from rfl, bsel_false]
  rw [show IntKind.i64.wrap (0 + 1) = 1 from rfl, g13_L5_eq, show decide ((1 : Int) < 2) = true from rfl, bsel_true, show (decide ((0 : Int) ≤ 1) && true) = true from rfl, chk_true, show ((1 : Int) == 0) = false from rfl, bsel_false, show ((1 : Int) == 1) = true from rfl, bsel_true, G6_of (e hm), show ((0 : Int) != 0) = false from rfl, bsel_false]
  rw [show IntKind.i64.wrap (1 + 1) = 2 from rfl, g13_L5_eq, show decide ((2 : Int) < 2) = false from rfl, bsel_false, mv_length, decF (by omega), bsel_false, G6_of (c21 w m (by omega) hw hm)]
theorem c28 {c : Nat → Int} (hc : ∀ k, k < n.ts.length → 0 ≤ c k ∧ c k ≤ 65536) (hz : ∀ p, p < n.P → sm n.ts.length (fun k => n.D k p * c k) = 0) (hs : ∃ k, k < n.ts.length ∧ c k ≠ 0) :
    SS.CC 28 [A0 (vN n), .int .i64 2, .slh 0 0 n.ts.length 1] [some (mv n.ts.length c)] = some (.tuple [.bool true, .int .i64 0], [some (mv n.ts.length c)]) := by
  have hp := hn.p5
  have ht := hn.t5
  have h41 := c41_1i (P := n.ts.length) (T := n.P) (M := M2 n) (w := c) (by omega) (by omega) (M2_bd hn) hc (fun p hp => by
    rw [← hz p hp]
    exact sm_congr fun k hk => by unfold M2; rw [if_pos ⟨hp, hk⟩]) hs
  rw [g28_eq, G7_of (c18_2 hn), show ((0 : Int) != 0) = false from rfl, bsel_false, mv_fl]
  simp only [Bool.and_self, chk_true]
  rw [H14_of (c23_1i c (by omega) (tokB_iff.2 hc)), mv_fl, show ((0 : Int) != 0) = false from rfl, bsel_false]
  simp only [Bool.and_self, chk_true]
  rw [H15_of h41, mv_fl]; rfl
end
end Go.Proofs.YtkkgfoknknehfaaDoor.W

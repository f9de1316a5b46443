/-
  The law.
-/
import Derived.Test.YtkkgfoknknehfaaDoorCT16
import Derived.Test.YtkkgfoknknehfaaDoorKT
namespace Go.Proofs.YtkkgfoknknehfaaDoor.W
set_option linter.unusedVariables false
set_option linter.unusedSimpArgs false
set_option linter.unnecessarySimpa false
set_option linter.unusedSectionVars false
open Go.RowKit
set_option maxRecDepth 100000
set_option maxHeartbeats 1000000
@[simp] theorem mvs_length (P : Nat) (nd : List Nd) : (mvs P nd).length = nd.length := by simp [mvs]
theorem lg_mvs {P : Nat} {nd : List Nd} {i : Nat} {x : Nd} (h : nd[i]? = some x) {K : PV → R} : lgetX (mvs P nd) (i : Int) K = K (.sl false 1 (mv P x.m)) := by
  obtain ⟨h1, h2⟩ := List.getElem?_eq_some_iff.1 h
  unfold mvs
  rw [lget_map h1, h2]
/-- No more tokens than a semiflow allows. -/
theorem top_le {n : Nt} (hn : NtOk n) {w f : Nat → Int} (hw : Wok n w) (hf : ∀ p, p < n.P → 0 ≤ f p ∧ f p ≤ 65536) (hk : Kept n f) {p : Nat} (hp : p < n.P) (h0 : w p ≠ 0) : f p ≤ (sm n.P fun q => w q * n.m0 q).tdiv (w p) := by
  have hwp := (hw.t p hp).1
  have h1 : ∀ i, i < n.P → 0 ≤ w i * f i := fun i hi => Int.mul_nonneg (hw.t i hi).1 (hf i hi).1
  have h2 := sm_one h1 p hp
  have h3 := sm_nn (n := n.P) (f := fun q => w q * n.m0 q) fun i hi => Int.mul_nonneg (hw.t i hi).1 (hn.tk i hi).1
  rw [hk w hw.d] at h2
  rw [Int.tdiv_eq_ediv_of_nonneg h3]
  exact Int.le_ediv_of_mul_le (by omega) (by rw [Int.mul_comm]; exact h2)
theorem c3 {q : Sh.V S1} (hq : U8 q) {sv : List PV} (hsv : ∀ i, i < sv.length → ∃ v : Int, 0 ≤ v ∧ v ≤ 255 ∧ sv[i]? = some (.int .u8 v)) : SS.CC 3 [A1 q, .sl false 1 sv] [] = some (.bool true, []) := by
  rw [g3_eq, G1_of k4, Bool.not_true, bsel_false, G1_of k5, Bool.not_true, bsel_false]
  by_cases h20 : 20 < sv.length
  · rw [decT (by omega), bsel_true, G1_of k4, bsel_true, G1_of k5]
  · obtain ⟨n, hn, h6⟩ := c6 hq
    rw [decF (by omega), bsel_false, G3_of h6]
    rcases c17 hn with ⟨e, he, h17⟩ | ⟨nd, ed, l, s, hG, hel, h17⟩
    · rw [G4_of (c7_err he h17)]
      dsimp only
      rw [show (e != 0) = true from bne_iff_ne.2 he, bsel_true]
    · rw [G4_of (c7 hG h17)]
      dsimp only
      rw [show ((0 : Int) != 0) = false from rfl, bsel_false, mvs_length]
      by_cases h100 : 100 < nd.length
      · rw [decT (by omega), bsel_true]
      · rw [decF (by omega), bsel_false]
        obtain ⟨b, hb, h10⟩ := c10 hn hG h17
        rcases c8 hn with h8 | ⟨ws, hw, hl, h19, h8⟩
        · obtain ⟨b9, _, h9⟩ := c9 hn (ws := []) (fun w h => by simp at h) (by simp)
          rw [G5_of h8]
          dsimp only
          have h9' : SS.CC 9 [A0 (vN n), .sl false 1 []] [] = some (.tuple [.sl false 1 (mv n.P b9), .int .i64 0], []) := h9
          rw [G5_of h9', G5_of h10]
          dsimp only
          rw [show ((3 : Int) != 0) = true from rfl, bsel_true]; rfl
        · obtain ⟨b9, hb9, h9⟩ := c9 hn hw hl
          rw [G5_of h8]
          dsimp only
          rw [G5_of h9, G5_of h10]
          dsimp only
          rw [show ((0 : Int) != 0) = false from rfl, bsel_false, bsel_false, bsel_false, G6_of (c11 hn hw hl h19), show ((0 : Int) != 0) = false from rfl, bsel_false, mv_length, mv_length, bne_self_eq_false, bsel_false, mv_length, bne_self_eq_false, bsel_false]
          have l19 : ∀ i, i ≤ nd.length → g3_L19 sv (ed.map pE) (mvs n.P nd) (wsl n.P ws) (vN n) (i : Int) = some (.bool true, []) := by
            refine up_to ?_ fun i hi ih => ?_
            · rw [g3_L19_eq, mvs_length, decF (by omega), bsel_false, G1_of (c14 hn hG hel (by omega) hsv)]
            · obtain ⟨x, hx⟩ : ∃ x, nd[i]? = some x := ⟨_, List.getElem?_eq_getElem hi⟩
              have hxt := hG.tk i x hx
              have hxk := hG.kp i x hx
              have l25 : ∀ k, k ≤ ws.length → g3_L25 sv (ed.map pE) (mvs n.P nd) (wsl n.P ws) (vN n) (k : Int) (i : Int) = some (.bool true, []) := by
                refine up_to ?_ fun k hk ihk => ?_
                · rw [g3_L25_eq, wsl_length, decF (by omega), bsel_false, wrs (by omega)]
                  exact ih
                · have h := hw _ (List.getElem_mem hk)
                  rw [g3_L25_eq, wsl_length, decT (by omega), bsel_true, lg_wsl hk, vL_mk, lg_mvs hx, vL_mk, G2_of (c13 hn h.t hxt), lg_wsl hk, vL_mk, G2_of (c13 hn h.t hn.tk)]
                  dsimp only
                  rw [show ((0 : Int) != 0) = false from rfl, bsel_false, bsel_false, hxk _ h.d, bne_self_eq_false, bsel_false, wrs (by omega)]
                  exact ihk
              rw [g3_L19_eq, mvs_length, decT (by omega), bsel_true, lg_mvs hx, vL_mk, G0_of (c12 hn hw hl hxt hxk)]
              dsimp only
              rw [show ((0 : Int) != 0) = false from rfl, bsel_false, bsel_false]
              exact l25 0 (by omega)
          have l14 : ∀ p, p ≤ n.P → g3_L14 sv (ed.map pE) (mvs n.P nd) (wsl n.P ws) (mv n.P b9) (mv n.P b) (vN n) (p : Int) = some (.bool true, []) := by
            have hp5 := hn.p5
            refine up_to ?_ fun p hp ih => ?_
            · rw [g3_L14_eq, mv_length, decF (by omega), bsel_false]
              exact l19 0 (by omega)
            · rw [g3_L14_eq, mv_length, decT (by omega), bsel_true, lget_mv hp, vI_mk, wrs (by omega)]
              by_cases h0 : 0 ≤ b9 p
              · obtain ⟨f, hf, hk, hbf⟩ := hb p hp
                rcases hb9 p hp with h1 | ⟨w, hwm, hw0, hwb⟩
                · omega
                · have := top_le hn (hw w hwm) hf hk hp hw0
                  rw [decT h0, bsel_true, lget_mv hp, vI_mk, lget_mv hp, vI_mk, decF (by omega), bsel_false]
                  exact ih
              · rw [decF h0, bsel_false]
                exact ih
          exact l14 0 (by omega)
end Go.Proofs.YtkkgfoknknehfaaDoor.W

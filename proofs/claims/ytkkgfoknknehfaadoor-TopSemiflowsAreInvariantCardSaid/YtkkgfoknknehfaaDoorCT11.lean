/-
  All sets of columns; the minimal flows; their list.
-/
import Derived.Test.YtkkgfoknknehfaaDoorCT10
namespace Go.Proofs.YtkkgfoknknehfaaDoor.W
set_option linter.unusedVariables false
set_option linter.unusedSimpArgs false
set_option linter.unnecessarySimpa false
set_option linter.unusedSectionVars false
open Go.RowKit
set_option maxRecDepth 100000
set_option maxHeartbeats 1000000
def vl (ns : Nat → Nat) : Nat → Nat
  | 0 => 0
  | i + 1 => 6 * vl ns i + ns i
theorem vl_lt {ns : Nat → Nat} : ∀ {i : Nat}, (∀ c, c < i → ns c ≤ 5) → vl ns i < 6 ^ i
  | 0, _ => by simp [vl]
  | i + 1, h => by
    have h1 := vl_lt (ns := ns) (i := i) fun c hc => h c (by omega)
    have h2 := h i (by omega)
    rw [vl, Nat.pow_succ]; omega
theorem vl_7776 {ns : Nat → Nat} {K : Nat} (hK : K ≤ 5) (h : ∀ c, c < K → ns c ≤ 5) : vl ns K < 7776 :=
  Nat.lt_of_lt_of_le (vl_lt h) (Nat.pow_le_pow_right (n := 6) (by decide) hK)
theorem vl_eq {a b : Nat → Nat} : ∀ {i : Nat}, (∀ c, c < i → a c = b c) → vl a i = vl b i
  | 0, _ => rfl
  | i + 1, h => by rw [vl, vl, vl_eq fun c hc => h c (by omega), h i (by omega)]
theorem vl_mono {a b : Nat → Nat} {j : Nat} (h1 : ∀ c, c < j → a c = b c) (h2 : a j < b j) : ∀ i, j < i → (∀ c, c < i → a c ≤ 5) → vl a i + 1 ≤ vl b i
  | 0, h, _ => by omega
  | i + 1, h, h5 => by
    rw [vl, vl]
    by_cases e : j = i
    · subst e; rw [vl_eq h1]; omega
    · have := vl_mono h1 h2 i (by omega) fun c hc => h5 c (by omega)
      have := h5 i (by omega)
      omega
section
variable {K P T : Nat} {M : Nat → Nat → Int}
def Rs (P T : Nat) (M : Nat → Nat → Int) (n0 : Nat) (r : R) : Prop := ∃ (fl' : List Fl) (mp' : List Int), (∀ f, f ∈ fl' → FlOk P T M f.2) ∧ fl'.length ≤ n0 + 7776 ∧ r = some (.tuple [], [some [.bld 0 2], O38 (fl'.map pF, ()), O27 (uM mp', ())])
theorem c52 (hK1 : 1 ≤ K) (hKP : K ≤ P) (hP : P ≤ 5) (hT : T ≤ 1000) (hR : ∀ k p, -2 ≤ M k p ∧ M k p ≤ 2) {fl : List Fl} (hf : ∀ f, f ∈ fl → FlOk P T M f.2) (hl : fl.length ≤ 50000) (mp : List Int) :
    Rs P T M fl.length (SS.CC 52 [.int .i64 (P : Int), .int .i64 (K : Int), .func (.func 53) [] [.ptr 0 0, .cst (A29 (vTab P T M)), .ptr 1 0]] [some [.bld 0 2], O38 (fl.map pF, ()), O27 (uM mp, ())]) := by
  have hn0 : ∃ n0, fl.length = n0 := ⟨_, rfl⟩
  obtain ⟨n0, hn0⟩ := hn0
  rw [hn0]
  have main : ∀ (F : Nat) (ns : Nat → Nat) (fl : List Fl) (mp : List Int), (∀ c d, c < d → d < K → ns c < ns d) → (∀ c, c < K → ns c + K ≤ P + c) → (∀ f, f ∈ fl → FlOk P T M f.2) → fl.length ≤ n0 + vl ns K → 7776 - vl ns K ≤ F →
      Rs P T M n0 (g52_L7 (P : Int) (K : Int) (P : Int) (rw10 T M) (fl.map pF) (uM mp) (mv K fun c => (ns c : Int))) := by
    intro F
    induction F with
    | zero =>
      intro ns fl mp hinc hb hf hl hF
      have := vl_7776 (ns := ns) (K := K) (by omega) fun c hc => by have := hb c hc; omega
      omega
    | succ F ih =>
      intro ns fl mp hinc hb hf hl hF
      have h5 : ∀ c, c < K → ns c ≤ 5 := fun c hc => by have := hb c hc; omega
      have hv := vl_7776 (ns := ns) (K := K) (by omega) h5
      obtain ⟨fl', mp', hf', hl', h53⟩ := c53 (P := P) (T := T) (M := M) hK1 (by omega) hP hT hR (fun c hc => by have := hb c hc; omega) hinc hf (by omega) mp
      rw [g52_L7_eq, mv_fl, decT (show (K : Int) ≤ (P : Int) by omega), bsel_true, Int.toNat_natCast, Bool.and_self, chk_true, chk_true, H36_of h53]
      have down : ∀ j, j ≤ K → Rs P T M n0 (g52_L10 (P : Int) (K : Int) (P : Int) (rw10 T M) (fl'.map pF) (uM mp') (mv K fun c => (ns c : Int)) ((j : Int) - 1)) := by
        intro j
        induction j with
        | zero =>
          intro _
          rw [g52_L10_eq, mv_fl, show decide ((0 : Int) ≤ ((0 : Nat) : Int) - 1) = false from rfl, bsel_false, Bool.and_self, chk_true, chk_true, g52_J12_eq, show decide (((0 : Nat) : Int) - 1 < 0) = true from rfl, bsel_true]
          exact ⟨fl', mp', hf', by omega, rfl⟩
        | succ j ihj =>
          intro hj
          have hbj := hb j (by omega)
          rw [show ((j + 1 : Nat) : Int) - 1 = (j : Int) by omega, g52_L10_eq, mv_fl, decT (show (0 : Int) ≤ (j : Int) by omega), bsel_true, Int.toNat_natCast, decT (show (j : Int) < (K : Int) by omega), Int.toNat_natCast, nget_mv (show j < K by omega), vI_mk]
          simp only [Bool.and_self, chk_true]
          rw [wrap64 (n := (P : Int) - (K : Int)) (by omega) (by omega), wrap64 (n := (P : Int) - (K : Int) + (j : Int)) (by omega) (by omega)]
          by_cases e : ns j + K = P + j
          · rw [show ((ns j : Int) == (P : Int) - (K : Int) + (j : Int)) = true from beq_iff_eq.2 (by omega), bsel_true, wrap64 (by omega) (by omega)]
            exact ihj (by omega)
          · rw [show ((ns j : Int) == (P : Int) - (K : Int) + (j : Int)) = false from beq_eq_false_iff_ne.2 (by omega), bsel_false, g52_J12_eq, decF (show ¬ (j : Int) < 0 by omega), bsel_false, mv_fl, Int.toNat_natCast, Int.toNat_natCast, decT (show (0 : Int) ≤ (j : Int) by omega), decT (show (j : Int) < (K : Int) by omega), nget_mv (show j < K by omega), vI_mk, mv_length, decT (show j < K by omega), wrs (by omega), wrs (by omega), mv_set]
            simp only [Bool.and_self, chk_true]
            obtain ⟨ns', hns'⟩ : ∃ ns' : Nat → Nat, ns' = fun c => if c < j then ns c else ns j + 1 + (c - j) := ⟨_, rfl⟩
            have e1 : ∀ c, c < j → ns' c = ns c := fun c hc => by rw [hns']; exact if_pos hc
            have e2 : ∀ c, j ≤ c → ns' c = ns j + 1 + (c - j) := fun c hc => by rw [hns']; exact if_neg (by omega)
            have up : ∀ i, i ≤ K → j < i → Rs P T M n0 (g52_L15 (P : Int) (K : Int) (P : Int) (rw10 T M) (fl'.map pF) (uM mp') (mv K fun c => ((if c < i then ns' c else ns c : Nat) : Int)) (i : Int)) := by
              refine up_to (fun _ => ?_) fun i hi ihi hji => ?_
              · rw [g52_L15_eq, mv_fl, decF (by omega), bsel_false, Bool.and_self, chk_true, mv_congr (g := fun c => (ns' c : Int)) fun c hc => by rw [if_pos hc]]
                refine ih ns' fl' mp' (fun c d hcd hd => ?_) (fun c hc => ?_) hf' ?_ ?_
                · by_cases hdj : d < j
                  · rw [e1 c (by omega), e1 d hdj]; exact hinc c d hcd hd
                  · rw [e2 d (by omega)]
                    by_cases hcj : c < j
                    · rw [e1 c hcj]; have := hinc c j hcj (by omega); omega
                    · rw [e2 c (by omega)]; omega
                · by_cases hcj : c < j
                  · rw [e1 c hcj]; exact hb c hc
                  · rw [e2 c (by omega)]; omega
                · have := vl_mono (a := ns) (b := ns') (j := j) (fun c hc => (e1 c hc).symm) (by rw [e2 j (by omega)]; omega) K (by omega) h5
                  omega
                · have := vl_mono (a := ns) (b := ns') (j := j) (fun c hc => (e1 c hc).symm) (by rw [e2 j (by omega)]; omega) K (by omega) h5
                  omega
              · rw [g52_L15_eq, mv_fl, decT (show (i : Int) < (K : Int) by omega), bsel_true, show IntKind.i64.wrap ((i : Int) - 1) = ((i - 1 : Nat) : Int) by rw [wrap64 (by omega) (by omega)]; omega, Int.toNat_natCast, Int.toNat_natCast, Int.toNat_natCast, inB (show i - 1 < K by omega), nget_mv (show i - 1 < K by omega), vI_mk, if_pos (show i - 1 < i by omega), decT (show (0 : Int) ≤ (i : Int) by omega), mv_length, decT hi, wrs (by have := hb j (by omega); rw [e2 (i - 1) (by omega)]; omega), mv_set, mv_fl, wrs (by omega), decT (show (i : Int) < (K : Int) by omega)]
                simp only [Bool.and_self, chk_true]
                have := ihi (by omega)
                rw [mv_congr (g := fun p => if p = i then ((ns' (i - 1) + 1 : Nat) : Int) else ((if p < i then ns' p else ns p : Nat) : Int)) fun c hc => by
                  by_cases e3 : c = i
                  · subst e3; rw [if_pos rfl, if_pos (by omega), e2 c (by omega), e2 (c - 1) (by omega)]; omega
                  · rw [if_neg e3]
                    by_cases e4 : c < i
                    · rw [if_pos e4, if_pos (by omega)]
                    · rw [if_neg e4, if_neg (by omega)]] at this
                exact this
            have := up (j + 1) (by omega) (by omega)
            rw [mv_congr (g := fun p => if p = j then ((ns j + 1 : Nat) : Int) else (ns p : Int)) fun c hc => by
              by_cases e3 : c = j
              · subst e3; rw [if_pos rfl, if_pos (by omega), e2 c (by omega)]; omega
              · rw [if_neg e3]
                by_cases e4 : c < j + 1
                · rw [if_pos e4, e1 c (by omega)]
                · rw [if_neg e4]] at this
            exact this
      have := down K (Nat.le_refl K)
      rw [show IntKind.i64.wrap ((K : Int) - 1) = (K : Int) - 1 from wrap64 (by omega) (by omega)]
      exact this
  have init : ∀ i, i ≤ K → Rs P T M n0 (g52_L3 (P : Int) (K : Int) (P : Int) (rw10 T M) (fl.map pF) (uM mp) (i : Int) (mv K fun c => if c < i then (c : Int) else 0)) := by
    refine up_to ?_ fun i hi ih => ?_
    · rw [g52_L3_eq, mv_fl, Int.toNat_natCast, decF (by omega), bsel_false, Bool.and_self, chk_true, chk_true, mv_congr (g := fun c => ((id c : Nat) : Int)) fun c hc => by rw [if_pos hc]; rfl]
      exact main 7776 id fl mp (fun c d h _ => h) (fun c hc => by show c + K ≤ P + c; omega) hf (by omega) (by omega)
    · rw [g52_L3_eq, mv_fl, Int.toNat_natCast, decT (show (i : Int) < (K : Int) by omega), bsel_true, decT (show (0 : Int) ≤ (i : Int) by omega), Int.toNat_natCast, mv_length, decT hi, mv_set, mv_fl, wrs (by omega)]
      simp only [Bool.and_self, chk_true]
      rw [mv_congr (g := fun p => if p = i then (i : Int) else (if p < i then (p : Int) else 0)) fun c hc => by
        by_cases e3 : c = i
        · subst e3; rw [if_pos rfl, if_pos (by omega)]
        · rw [if_neg e3]
          by_cases e4 : c < i
          · rw [if_pos e4, if_pos (by omega)]
          · rw [if_neg e4, if_neg (by omega)]] at ih
      exact ih
  have := init 0 (by omega)
  rw [mv_congr (g := fun _ => 0) fun c hc => if_neg (by omega), ← mv_rep] at this
  rw [show A29 (vTab P T M) = A29 ((P : Int), rw10 T M, ()) from rfl, g52_eq, decT (show ((K : Int) = (K : Int)) from rfl), decT (show (0 : Int) ≤ (K : Int) by omega), decT (show (K : Int) ≤ 1073741824 by omega), Bool.and_self, Bool.and_self, chk_true, Int.toNat_natCast]
  exact this
theorem c40 (hP : P ≤ 5) (hT : T ≤ 1000) (hR : ∀ k p, -2 ≤ M k p ∧ M k p ≤ 2) :
    ∃ fl : List Fl, (∀ f, f ∈ fl → FlOk P T M f.2) ∧ fl.length ≤ 40000 ∧ SS.CC 40 [A29 (vTab P T M)] [] = some (.sl false 11 (fl.map pF), []) := by
  have key : ∀ k, k ≤ P → ∀ (fl : List Fl) (mp : List Int), (∀ f, f ∈ fl → FlOk P T M f.2) → fl.length ≤ 7776 * k → ∃ fl' : List Fl, (∀ f, f ∈ fl' → FlOk P T M f.2) ∧ fl'.length ≤ 40000 ∧ g40_L5 (vTab P T M) ((k + 1 : Nat) : Int) (fl.map pF) (uM mp) = some (.sl false 11 (fl'.map pF), []) := by
    refine up_to (fun fl mp hf hl => ⟨fl, hf, by omega, ?_⟩) fun k hk ih fl mp hf hl => ?_
    · rw [g40_L5_eq, show (vTab P T M).1 = (P : Int) from rfl, decF (by omega), bsel_false]
    · obtain ⟨fl', mp', hf', hl', h⟩ := c52 (K := k + 1) (P := P) (T := T) (M := M) (by omega) hk hP hT hR hf (by omega) mp
      rw [g40_L5_eq, show (vTab P T M).1 = (P : Int) from rfl, decT (by omega), bsel_true, H35_of h, wrs (by omega)]
      exact ih fl' mp' hf' (by omega)
  rw [g40_eq]
  exact key 0 (by omega) [] [] (fun f h => by simp at h) (by simp)
theorem cellsF (f : Fl) : ([.int .u16 (vF f).1, .int .i64 (vF f).2.1, .int .i64 (vF f).2.2.1, .int .i64 (vF f).2.2.2.1, .int .i64 (vF f).2.2.2.2.1, .int .i64 (vF f).2.2.2.2.2.1, .int .i64 (vF f).2.2.2.2.2.2.1, .int .i64 (vF f).2.2.2.2.2.2.2.1, .int .i64 (vF f).2.2.2.2.2.2.2.2.1, .int .i64 (vF f).2.2.2.2.2.2.2.2.2.1, .int .i64 (vF f).2.2.2.2.2.2.2.2.2.2.1] : List PV) = .int .u16 f.1 :: mv 10 f.2 := rfl
theorem nget_cons {a : PV} {l : List PV} {i : Nat} {Q : PV → R} : ngetX (a :: l) (i + 1) Q = ngetX l i Q := rfl
/-- Lists of weights. -/
def wsl (P : Nat) (ws : List (Nat → Int)) : List PV := ws.map fun w => .sl false 1 (mv P w)
@[simp] theorem wsl_length (P : Nat) (ws : List (Nat → Int)) : (wsl P ws).length = ws.length := List.length_map _
theorem G13_of {g : FuncId} {a : List PV} {K} {l : List PV} (h : SS.CC g a [] = some (.sl false 11 l, [])) : G13 g a K = K l := (clX_of h).trans rfl
theorem c19 (hP : P ≤ 5) (hT : T ≤ 1000) (hR : ∀ k p, -2 ≤ M k p ∧ M k p ≤ 2) :
    SS.CC 19 [A29 (vTab P T M)] [] = some (.tuple [.sl false 1 [], .int .i64 3], []) ∨ ∃ ws : List (Nat → Int), (∀ w, w ∈ ws → FlOk P T M w) ∧ ws.length ≤ 128 ∧ SS.CC 19 [A29 (vTab P T M)] [] = some (.tuple [.sl false 1 (wsl P ws), .int .i64 0], []) := by
  obtain ⟨fl, hf, hl, h⟩ := c40 (P := P) (T := T) (M := M) hP hT hR
  rw [g19_eq, G13_of h, List.length_map]
  by_cases h128 : 128 < fl.length
  · rw [decT (by omega), bsel_true]; exact .inl rfl
  · rw [decF (by omega), bsel_false]
    refine .inr ⟨fl.map (·.2), fun w hw => ?_, by simp; omega, ?_⟩
    · obtain ⟨f, h1, rfl⟩ := List.mem_map.1 hw; exact hf f h1
    · have outer : ∀ i, i ≤ fl.length → g19_L7 (vTab P T M) (fl.map pF) (wsl P ((fl.take i).map (·.2))) (i : Int) = some (.tuple [.sl false 1 (wsl P (fl.map (·.2))), .int .i64 0], []) := by
        refine up_to ?_ fun i hi ih => ?_
        · rw [g19_L7_eq, List.length_map, decF (by omega), bsel_false, List.take_length]
        · have inner : ∀ p, p ≤ P → g19_L11 (vTab P T M) (fl.map pF) (vF fl[i]) (p : Int) (mv P fun q => if q < p then fl[i].2 q else 0) (wsl P ((fl.take i).map (·.2))) (i : Int) = g19_L7 (vTab P T M) (fl.map pF) (wsl P ((fl.take (i + 1)).map (·.2))) ((i + 1 : Nat) : Int) := by
            refine up_to ?_ fun p hp ihp => ?_
            · rw [g19_L11_eq, mv_fl, Int.toNat_natCast, decF (by omega), bsel_false, mv_length, mv_flat, decT (show P * 1 ≤ P by omega), chunk1_mv, decT (show (wsl P ((fl.take i).map (·.2))).length + 1 ≤ LIM by rw [wsl_length, List.length_map, List.length_take]; unfold LIM; omega), mv_congr (g := fl[i].2) fun q hq => if_pos hq, wrs (by omega), List.take_succ_eq_append_getElem hi]
              show g19_L7 _ _ _ _ = _
              unfold wsl
              rw [List.map_append, List.map_append]; rfl
            · have hb := (hf _ (List.getElem_mem hi)).b p hp
              rw [g19_L11_eq, mv_fl, Int.toNat_natCast, decT (show (p : Int) < (P : Int) by omega), bsel_true, decT (show (0 : Int) ≤ (p : Int) by omega), decT (show (p : Int) < (10 : Int) by omega), cellsF, Int.toNat_natCast, show 1 + p * 1 = p + 1 by omega, nget_cons, nget_mv (show p < 10 by omega), vI_mk, decF (by omega), bsel_false, nget_cons, nget_mv (show p < 10 by omega), vI_mk, mv_length, decT hp, mv_set, mv_fl, wrs (by omega)]
              simp only [Bool.and_self, chk_true]
              rw [← ihp]
              congr 1
              apply mv_congr; intro c hc
              by_cases e3 : c = p
              · subst e3; rw [if_pos rfl, if_pos (by omega)]
              · rw [if_neg e3]
                by_cases e4 : c < p
                · rw [if_pos e4, if_pos (by omega)]
                · rw [if_neg e4, if_neg (by omega)]
          rw [g19_L7_eq, List.length_map, decT (by omega), bsel_true, show lgV S36 (fl.map pF) (i : Int) = fun Q => Q (vF fl[i]) from funext fun Q => (lget_map hi).trans rfl, decT (show ((P : Int) = (P : Int)) from rfl), decT (show (0 : Int) ≤ (P : Int) by omega), decT (show (P : Int) ≤ 1073741824 by omega), Int.toNat_natCast, mv_rep]
          simp only [Bool.and_self, chk_true]
          have := inner 0 (by omega)
          rw [mv_congr (g := fun _ => 0) fun c hc => if_neg (by omega)] at this
          exact this.trans ih
      exact outer 0 (by omega)
end
end Go.Proofs.YtkkgfoknknehfaaDoor.W

/-
  Minimal flows: one set of columns.
-/
import Derived.Test.YtkkgfoknknehfaaDoorCT9
import Derived.Test.YtkkgfoknknehfaaDoorTTd
namespace Go.Proofs.YtkkgfoknknehfaaDoor.W
set_option linter.unusedVariables false
set_option linter.unusedSimpArgs false
set_option linter.unnecessarySimpa false
set_option linter.unusedSectionVars false
open Go.RowKit
set_option maxRecDepth 100000
set_option maxHeartbeats 1000000
/-! ### sets of small numbers, in a map -/
def uM : List Int → List PV
  | [] => []
  | a :: l => .int .u16 a :: .bool true :: uM l
theorem eqK_u (a b : Int) : eqK (some .u16) (.int .u16 a) (.int .u16 b) = some (a == b) := rfl
theorem any_uM (g : Int → Bool) : ∀ l, ∃ b, anyK .u16 (fun n => some (g n)) (uM l) = some b
  | [] => ⟨false, rfl⟩
  | a :: l => by
    obtain ⟨b, h⟩ := any_uM g l
    exact ⟨g a || b, by rw [uM, anyK, h]; rfl⟩
theorem ok_uM (q : Int) : ∀ l, mapOK (some .u16) (uM l) (.int .u16 q) = true
  | [] => rfl
  | a :: l => by rw [uM, mapOK, ok_uM q l, eqK_u]; rfl
theorem mod_uM (q : Int) : ∀ l, ∃ l', mapMod (some .u16) (uM l) (.int .u16 q) (.bool true) = uM l'
  | [] => ⟨[], rfl⟩
  | a :: l => by
    obtain ⟨l', h⟩ := mod_uM q l
    rw [uM, mapMod, eqK_u, h]
    cases q == a
    · exact ⟨a :: l', rfl⟩
    · exact ⟨q :: l, rfl⟩
theorem ins_uM (q : Int) : ∀ l, ∃ l', mapIns (uM l) (.int .u16 q) (.bool true) = uM l'
  | [] => ⟨[q], rfl⟩
  | a :: l => by
    obtain ⟨l', h⟩ := ins_uM q l
    exact ⟨a :: l', by rw [uM, mapIns, h]; rfl⟩
theorem put_uM (q : Int) (l : List Int) : ∃ l', mapPut (some .u16) (uM l) (.int .u16 q) (.bool true) = uM l' := by
  unfold mapPut
  cases mapHas (some .u16) (uM l) (.int .u16 q)
  · exact ins_uM q l
  · exact mod_uM q l
/-! ### flows -/
abbrev Fl := Int × (Nat → Int)
abbrev vF (f : Fl) : Sh.V S36 := (f.1, f.2 0, f.2 1, f.2 2, f.2 3, f.2 4, f.2 5, f.2 6, f.2 7, f.2 8, f.2 9, ())
abbrev pF (f : Fl) : PV := A36 (vF f)
theorem gv_f {Q : Type} (s : Int) (w : Nat → Int) (K : Sh.V S36 → Option Q) : gvV S36 (.agg ((((.int .u16 s :: mv 10 w : List PV).drop 0).take 11).map PV.un)) K = K (vF (s, w)) := rfl
structure FlOk (P T : Nat) (M : Nat → Nat → Int) (w : Nat → Int) : Prop where
  z : ∀ k, k < T → sm P (fun p => M k p * w p) = 0
  s : ∃ p, p < P ∧ w p ≠ 0
  b : ∀ p, p < P → 0 ≤ w p ∧ w p ≤ 3840
section
variable {g : FuncId} {a : List PV} {h0 : Objs}
theorem H30_of {K} {l m : List PV} {b : Bool} (h : SS.CC g a h0 = some (.tuple [.sl false 1 l, .bool b], [some m])) : H30 g a h0 K = K ((l, ()), (b, ()), ()) m := clH_to h rfl
theorem H35_of {K} {l m : List PV} (h : SS.CC g a h0 = some (.tuple [], [some [.bld 0 2], O38 (l, ()), O27 (m, ())])) : H35 g a h0 K = K () (l, ()) (m, ()) := clH_to h rfl
theorem H36_of {K} {l m n : List PV} (h : SS.CC g a h0 = some (.tuple [], [some [.bld 0 2], O38 (l, ()), O27 (m, ()), some n])) : H36 g a h0 K = K () (l, ()) (m, ()) n := clH_to h rfl
end
theorem c56 (n : Int) : SS.CC 56 [.int .i64 n] [] = some (.bool (decide (n < 0)), []) := g56_eq n
theorem c55 {K : Nat} (x : Nat → Int) (hK : K ≤ 1000) : ∃ b, SS.CC 55 [.sl false 1 (mv K x), .func (.func 56) [] []] [] = some (.bool b, []) ∧ (b = false → ∀ c, c < K → 0 ≤ x c) := by
  have key : ∀ i, i ≤ K → ∃ n : Int, g71_L3 (mv K x) (i : Int) = some (.int .i64 n, []) ∧ (n < 0 → ∀ c, i ≤ c → c < K → 0 ≤ x c) := by
    refine up_to ⟨-1, ?_, fun _ c h1 h2 => by omega⟩ fun i hi ⟨n, ih1, ih2⟩ => ?_
    · rw [g71_L3_eq, mv_length, decF (by omega), bsel_false]
    · rw [g71_L3_eq, mv_length, decT (by omega), bsel_true, lget_mv hi, vI_mk, G1_of (c56 _), wrs (by omega)]
      by_cases h : x i < 0
      · rw [decT h, bsel_true]; exact ⟨i, rfl, fun h => by omega⟩
      · rw [decF h, bsel_false]
        refine ⟨n, ih1, fun hn c h1 h2 => ?_⟩
        by_cases e : c = i
        · subst e; omega
        · exact ih2 hn c (by omega) h2
  obtain ⟨n, h1, h2⟩ := key 0 (by omega)
  have h1' : SS.CC 71 [.sl false 1 (mv K x), .func (.func 56) [] []] [] = some (.int .i64 n, []) := by rw [g71_eq]; exact h1
  refine ⟨decide (0 ≤ n), by rw [g55_eq, G6_of h1'], fun h c hc => ?_⟩
  have := of_decide_eq_false h
  exact h2 (by omega) c (by omega) hc
theorem sm_upd {P q : Nat} (hq : q < P) (M w : Nat → Int) (v : Int) (hw : w q = 0) : sm P (fun p => M p * (if p = q then v else w p)) = sm P (fun p => M p * w p) + M q * v := by
  induction P with
  | zero => omega
  | succ P ih =>
    rw [smS, smS]
    by_cases e : P = q
    · subst e
      rw [if_pos rfl, hw, sm_congr (g := fun p => M p * w p) fun p hp => by rw [if_neg (by omega)]]
      omega
    · rw [ih (by omega), if_neg e]; omega
section
variable {K P T : Nat} {M : Nat → Nat → Int} {ns : Nat → Nat}
/-- Weights of the columns of a set. -/
def spr (ns : Nat → Nat) (x : Nat → Int) : Nat → Nat → Int
  | 0, _ => 0
  | i + 1, p => if p = ns i then x i else spr ns x i p
theorem spr_z (x : Nat → Int) {i p : Nat} (h : ∀ c, c < i → ns c ≠ p) : spr ns x i p = 0 := by
  induction i with
  | zero => rfl
  | succ i ih => rw [spr, if_neg fun e => h i (by omega) e.symm, ih fun c hc => h c (by omega)]
theorem spr_sm (hns : ∀ c, c < K → ns c < P) (hinc : ∀ c d, c < d → d < K → ns c < ns d) (x : Nat → Int) (m : Nat → Int) : ∀ i, i ≤ K → sm P (fun p => m p * spr ns x i p) = sm i fun c => m (ns c) * x c
  | 0, _ => sm_zero fun p _ => by rw [spr, Int.mul_zero]
  | i + 1, hi => by
    rw [smS, ← spr_sm hns hinc x m i (by omega)]
    exact sm_upd (hns i (by omega)) m (spr ns x i) (x i) (spr_z x fun c hc => by have := hinc c i hc (by omega); omega)
theorem spr_b {x : Nat → Int} (hx : ∀ c, c < K → 0 ≤ x c ∧ x c ≤ 3840) (p : Nat) : ∀ i, i ≤ K → 0 ≤ spr ns x i p ∧ spr ns x i p ≤ 3840
  | 0, _ => by simp [spr]
  | i + 1, hi => by
    rw [spr]
    split
    · exact hx i (by omega)
    · exact spr_b hx p i (by omega)
theorem c53 (hK1 : 1 ≤ K) (hK : K ≤ 5) (hP : P ≤ 5) (hT : T ≤ 1000) (hR : ∀ k p, -2 ≤ M k p ∧ M k p ≤ 2) (hns : ∀ c, c < K → ns c < P) (hinc : ∀ c d, c < d → d < K → ns c < ns d) {fl : List Fl} (hf : ∀ f, f ∈ fl → FlOk P T M f.2) (hl : fl.length ≤ 100000) (mp : List Int) :
    ∃ (fl' : List Fl) (mp' : List Int), (∀ f, f ∈ fl' → FlOk P T M f.2) ∧ fl'.length ≤ fl.length + 1 ∧
      SS.CC 53 [.slh 3 0 K 1, .ptr 0 0, .cst (A29 (vTab P T M)), .ptr 1 0] [some [.bld 0 2], O38 (fl.map pF, ()), O27 (uM mp, ()), some (mv K fun c => (ns c : Int))] = some (.tuple [], [some [.bld 0 2], O38 (fl'.map pF, ()), O27 (uM mp', ()), some (mv K fun c => (ns c : Int))]) := by
  have same : ∀ {r : R}, r = some (.tuple [], [some [.bld 0 2], O38 (fl.map pF, ()), O27 (uM mp, ()), some (mv K fun c => (ns c : Int))]) → ∃ (fl' : List Fl) (mp' : List Int), (∀ f, f ∈ fl' → FlOk P T M f.2) ∧ fl'.length ≤ fl.length + 1 ∧ r = some (.tuple [], [some [.bld 0 2], O38 (fl'.map pF, ()), O27 (uM mp', ()), some (mv K fun c => (ns c : Int))]) := fun e => ⟨fl, mp, hf, by omega, e⟩
  have key : ∀ i, i ≤ K → ∀ s : Int, ∃ (fl' : List Fl) (mp' : List Int), (∀ f, f ∈ fl' → FlOk P T M f.2) ∧ fl'.length ≤ fl.length + 1 ∧ g53_L3 K (vTab P T M) (fl.map pF) (uM mp) (mv K fun c => (ns c : Int)) s (i : Int) = some (.tuple [], [some [.bld 0 2], O38 (fl'.map pF, ()), O27 (uM mp', ()), some (mv K fun c => (ns c : Int))]) := by
    refine up_to (fun s => ?_) fun i hi ih s => ?_
    · rw [g53_L3_eq, mv_fl, decF (by omega), bsel_false]
      simp only [Bool.and_self, chk_true]
      obtain ⟨b, hb⟩ := any_uM (fun n3 => (IntKind.u16.wrap (BitVec.ofInt 16 n3 &&& BitVec.ofInt 16 s).toNat) == n3) mp
      unfold rngX
      rw [hb]
      cases b
      · show ∃ (fl' : List Fl) (mp' : List Int), _ ∧ _ ∧ bsel false _ _ = _
        rw [bsel_false]
        have h54 := c54 (P := P) (M := M) (st := fun c => (ns c : Int)) hK1 hK hT hR fun c hc => ⟨ns c, rfl, by have := hns c hc; omega⟩
        rcases h54 with h | ⟨x, hx, h⟩
        · rw [H30_of h, mv_fl]
          exact same rfl
        · rw [H30_of h, mv_fl]
          simp only [Bool.and_self, chk_true]
          rw [Bool.not_true, bsel_false]
          obtain ⟨b, hb1, hb2⟩ := c55 x (K := K) (by omega)
          rw [G1_of hb1]
          cases b
          · rw [bsel_false]
            have hx0 := hb2 rfl
            have hxb : ∀ c, c < K → 0 ≤ x c ∧ x c ≤ 3840 := fun c hc => ⟨hx0 c hc, (hx.2 c hc).2.2⟩
            have hfo : FlOk P T M (spr ns x K) := by
              refine ⟨fun k hk => ?_, ⟨ns 0, hns 0 (by omega), ?_⟩, fun p hp => spr_b hxb p K (Nat.le_refl K)⟩
              · rw [spr_sm hns hinc x (M k) K (Nat.le_refl K)]
                exact hx.1 k hk
              · have : ∀ i, 1 ≤ i → i ≤ K → spr ns x i (ns 0) = x 0 := by
                  intro i
                  induction i with
                  | zero => intro h; omega
                  | succ i ih =>
                    intro _ hi
                    rw [spr]
                    by_cases e : i = 0
                    · subst e; rw [if_pos rfl]
                    · have := hinc 0 i (by omega) (by omega)
                      rw [if_neg (by omega), ih (by omega) (by omega)]
                rw [this K hK1 (Nat.le_refl K)]
                exact (hx.2 0 (by omega)).1
            obtain ⟨mp', hmp⟩ := put_uM s mp
            refine ⟨fl ++ [(s, spr ns x K)], mp', fun f h => ?_, by simp, ?_⟩
            · rcases List.mem_append.1 h with h1 | h1
              · exact hf f h1
              · rw [List.mem_singleton.1 h1]; exact hfo
            · have fin : ∀ j, j ≤ K → g53_L15 (mv K x) K (fl.map pF) (uM mp) (mv K fun c => (ns c : Int)) (j : Int) (.int .u16 s :: mv 10 (spr ns x j)) s = some (.tuple [], [some [.bld 0 2], O38 ((fl ++ [(s, spr ns x K)]).map pF, ()), O27 (uM mp', ()), some (mv K fun c => (ns c : Int))]) := by
                have hfl : ∀ w : Nat → Int, (.int .u16 s :: mv 10 w : List PV).all flC = true := fun w => by rw [List.all_cons, mv_fl]; rfl
                refine up_to ?_ fun j hj ihj => ?_
                · rw [g53_L15_eq, hfl, mv_fl, decF (by omega), bsel_false, ok_uM]
                  simp only [Bool.and_self, chk_true]
                  rw [show decide (0 + 11 ≤ (.int .u16 s :: mv 10 (spr ns x K) : List PV).length) = true by rw [List.length_cons, mv_length]; rfl, chk_true, gv_f, List.length_map, decT (show fl.length + 1 ≤ LIM by unfold LIM; omega), chk_true, hmp, List.map_append]; rfl
                · rw [g53_L15_eq, hfl, mv_fl, decT (show (j : Int) < (K : Int) by omega), bsel_true]
                  simp only [Bool.and_self, chk_true]
                  have hnj := hns j hj
                  rw [decT (show (0 : Int) ≤ (j : Int) by omega), Bool.and_self, chk_true, Int.toNat_natCast, nget_mv hj, vI_mk, lget_mv hj, vI_mk, in10 (by omega), chk_true, Int.toNat_natCast, List.length_cons, mv_length, decT (show 1 + ns j * 1 < 10 + 1 by omega), chk_true, show 1 + ns j * 1 = ns j + 1 by omega, List.set_cons_succ, mv_set, hfl, wrs (by omega)]
                  simp only [Bool.and_self, chk_true]
                  exact ihj
              exact fin 0 (by omega)
          · rw [bsel_true]
            exact same rfl
      · exact same rfl
    · rw [g53_L3_eq, mv_fl, decT (show (i : Int) < (K : Int) by omega), bsel_true]
      simp only [Bool.and_self, chk_true]
      rw [decT (show (0 : Int) ≤ (i : Int) by omega), Bool.and_self, chk_true, Int.toNat_natCast, nget_mv hi, vI_mk, decT (show (0 : Int) ≤ (ns i : Int) by omega), chk_true, wrs (by omega)]
      exact ih _
  have := key 0 (by omega) 0
  rw [g53_eq]
  exact this
end
end Go.Proofs.YtkkgfoknknehfaaDoor.W

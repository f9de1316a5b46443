/-
  Semiflows: supports, sums; firing.
-/
import Derived.Test.YtkkgfoknknehfaaDoorCT1
namespace Go.Proofs.YtkkgfoknknehfaaDoor.W
set_option linter.unusedVariables false
set_option linter.unusedSimpArgs false
set_option linter.unnecessarySimpa false
set_option linter.unusedSectionVars false
open Go.RowKit
set_option maxRecDepth 100000
theorem H22_of {g : FuncId} {a : List PV} {h0 : Objs} {K} {m l : List PV} (h : SS.CC g a h0 = some (.sl false 1 m, [some l])) : H22 g a h0 K = K m l := clH_to h rfl
theorem inB {i P : Nat} (h : i < P) : (decide (0 ≤ (i : Int)) && decide ((i : Int) < (P : Int))) = true := by
  rw [decT (by omega), decT (by omega)]; rfl
theorem c57 {P : Nat} (w : Nat → Int) (hP : P ≤ 1000) (h : ∃ p, p < P ∧ w p ≠ 0) : ∃ l, SS.CC 57 [.sl false 1 (mv P w)] [] = some (.sl false 1 l, []) ∧ 0 < l.length := by
  have key : ∀ i, i ≤ P → ∀ x, x.length ≤ i → ∃ l, g57_L4 (mv P w) x (i : Int) = some (.sl false 1 l, []) ∧ ((0 < x.length ∨ ∃ p, i ≤ p ∧ p < P ∧ w p ≠ 0) → 0 < l.length) := by
    refine up_to (fun x _ => ⟨x, ?_, ?_⟩) fun i hi ih x hx => ?_
    · rw [g57_L4_eq, mv_length, decF (by omega), bsel_false]
    · rintro (h | ⟨p, h1, h2, _⟩)
      · exact h
      · omega
    · rw [g57_L4_eq, mv_length, decT (by omega), bsel_true, lget_mv hi, vI_mk, wrs (by omega)]
      by_cases e : w i = 0
      · obtain ⟨l, h1, h2⟩ := ih x (by omega)
        refine ⟨l, by rw [e]; exact h1, fun h => h2 (h.imp id fun ⟨p, h3, h4, h5⟩ => ⟨p, ?_, h4, h5⟩)⟩
        have : p ≠ i := fun c => h5 (c ▸ e)
        omega
      · obtain ⟨l, h1, h2⟩ := ih (x ++ [iP (i : Int)]) (by simp; omega)
        refine ⟨l, ?_, fun _ => h2 (.inl (by simp))⟩
        rw [show (w i != 0) = true by simpa using e, bsel_true, decT (show x.length + 1 ≤ LIM by unfold LIM; omega)]
        exact h1
  obtain ⟨l, h1, h2⟩ := key 0 (by omega) [] (by simp)
  obtain ⟨p, h3, h4⟩ := h
  exact ⟨l, by rw [g57_eq]; exact h1, h2 (.inr ⟨p, by omega, h3, h4⟩)⟩
theorem c57_1i {P : Nat} (w : Nat → Int) (hP : P ≤ 1000) (h : ∃ p, p < P ∧ w p ≠ 0) : ∃ l, SS.CC 57 [.slh 0 0 P 1] [some (mv P w)] = some (.sl false 1 l, [some (mv P w)]) ∧ 0 < l.length := by
  have key : ∀ i, i ≤ P → ∀ x, x.length ≤ i → ∃ l, g57_1i_L4 P (mv P w) x (i : Int) = some (.sl false 1 l, [some (mv P w)]) ∧ ((0 < x.length ∨ ∃ p, i ≤ p ∧ p < P ∧ w p ≠ 0) → 0 < l.length) := by
    refine up_to (fun x _ => ⟨x, ?_, ?_⟩) fun i hi ih x hx => ?_
    · rw [g57_1i_L4_eq, mv_fl, decF (by omega), bsel_false]; rfl
    · rintro (h | ⟨p, h1, h2, _⟩)
      · exact h
      · omega
    · rw [g57_1i_L4_eq, mv_fl, decT (show (i : Int) < (P : Int) by omega), decT (show (0 : Int) ≤ (i : Int) by omega), bsel_true]
      simp only [Bool.and_self, chk_true, Int.toNat_natCast]
      rw [nget_mv hi, vI_mk, wrs (by omega)]
      by_cases e : w i = 0
      · obtain ⟨l, h1, h2⟩ := ih x (by omega)
        refine ⟨l, by rw [e]; exact h1, fun h => h2 (h.imp id fun ⟨p, h3, h4, h5⟩ => ⟨p, ?_, h4, h5⟩)⟩
        have : p ≠ i := fun c => h5 (c ▸ e)
        omega
      · obtain ⟨l, h1, h2⟩ := ih (x ++ [iP (i : Int)]) (by simp; omega)
        refine ⟨l, ?_, fun _ => h2 (.inl (by simp))⟩
        rw [show (w i != 0) = true by simpa using e, bsel_true, decT (show x.length + 1 ≤ LIM by unfold LIM; omega)]
        exact h1
  obtain ⟨l, h1, h2⟩ := key 0 (by omega) [] (by simp)
  obtain ⟨p, h3, h4⟩ := h
  exact ⟨l, by rw [g57_1i_eq]; exact h1, h2 (.inr ⟨p, by omega, h3, h4⟩)⟩
/-! ### rows -/
theorem in10 {i : Nat} (h : i < 10) : (decide (0 ≤ (i : Int)) && decide ((i : Int) < (10 : Int))) = true := by
  rw [decT (by omega), decT (by omega)]; rfl
abbrev vR (f : Nat → Int) : Sh.V S41 := (f 0, f 1, f 2, f 3, f 4, f 5, f 6, f 7, f 8, f 9, ())
abbrev pR (f : Nat → Int) : PV := A41 (vR f)
def rw10 (T : Nat) (M : Nat → Nat → Int) : List PV := (List.range T).map fun k => pR (M k)
@[simp] theorem rw10_length (T : Nat) (M : Nat → Nat → Int) : (rw10 T M).length = T := by simp [rw10]
theorem lgV_rw {T : Nat} {M : Nat → Nat → Int} {k : Nat} {K : Sh.V S41 → R} (h : k < T) : lgV S41 (rw10 T M) (k : Int) K = K (vR (M k)) := by
  unfold lgV rw10
  rw [lget_map (by simpa using h), List.getElem_range]; rfl
theorem cells10 (f : Nat → Int) : ([.int .i64 (vR f).1, .int .i64 (vR f).2.1, .int .i64 (vR f).2.2.1, .int .i64 (vR f).2.2.2.1, .int .i64 (vR f).2.2.2.2.1, .int .i64 (vR f).2.2.2.2.2.1, .int .i64 (vR f).2.2.2.2.2.2.1, .int .i64 (vR f).2.2.2.2.2.2.2.1, .int .i64 (vR f).2.2.2.2.2.2.2.2.1, .int .i64 (vR f).2.2.2.2.2.2.2.2.2.1] : List PV) = mv 10 f := rfl
/-- The table's value. -/
abbrev vTab (P T : Nat) (M : Nat → Nat → Int) : Sh.V S29 := ((P : Int), rw10 T M, ())
section
variable {P T : Nat} {M : Nat → Nat → Int} {w : Nat → Int} (hP : P ≤ 10) (hT : T ≤ 10) (hR : ∀ k p, -2 ≤ M k p ∧ M k p ≤ 2) (hw : ∀ p, p < P → 0 ≤ w p ∧ w p ≤ 65536) (hz : ∀ k, k < T → sm P (fun p => M k p * w p) = 0) (hs : ∃ p, p < P ∧ w p ≠ 0)
include hP hT hR hw hz hs
theorem c41 : SS.CC 41 [A29 (vTab P T M), .sl false 1 (mv P w)] [] = some (.bool true, []) := by
  have inner : ∀ k, k < T → ∀ i, i ≤ P → g41_L7 (mv P w) (rw10 T M) (vR (M k)) (sm i fun p => M k p * w p) (i : Int) (k : Int) = g41_L3 (mv P w) (rw10 T M) ((k + 1 : Nat) : Int) := by
    intro k hk
    have hb : ∀ i, i < P → -(2 * 65536) ≤ M k i * w i ∧ M k i * w i ≤ 2 * 65536 := fun i hi => prod_bd2 (hR k i).1 (hR k i).2 (hw i hi).1 (hw i hi).2
    refine up_to ?_ fun i hi ih => ?_
    · rw [g41_L7_eq, mv_length, decF (by omega), bsel_false, hz k hk, wrs (by omega)]; rfl
    · have b1 := sm_bd (n := i) (f := fun p => M k p * w p) (B := 2 * 65536) fun j hj => hb j (by omega)
      have b2 := hb i hi
      rw [g41_L7_eq, mv_length, decT (show (i : Int) < (P : Int) by omega), bsel_true, lget_mv hi, vI_mk, cells10]
      rw [chk_of (in10 (by omega)), Int.toNat_natCast, show 0 + i * 1 = i by omega, nget_mv (by omega), vI_mk, wrs (by omega), wrap64 (n := M k i * w i) (by omega) (by omega), wrap64 (by omega) (by omega)]
      exact ih
  have outer : ∀ k, k ≤ T → g41_L3 (mv P w) (rw10 T M) (k : Int) = some (.bool true, []) := by
    refine up_to ?_ fun k hk ih => ?_
    · obtain ⟨l, h1, h2⟩ := c57 w (by omega) hs
      rw [g41_L3_eq, rw10_length, decF (by omega), bsel_false, G17_of h1, decT (by omega)]
    · rw [g41_L3_eq, rw10_length, decT (by omega), bsel_true, lgV_rw hk]
      exact (inner k hk 0 (by omega)).trans ih
  rw [g41_eq]
  exact outer 0 (by omega)
theorem c41_1i : SS.CC 41 [A29 (vTab P T M), .slh 0 0 P 1] [some (mv P w)] = some (.bool true, [some (mv P w)]) := by
  have inner : ∀ k, k < T → ∀ i, i ≤ P → g41_1i_L7 P (rw10 T M) (mv P w) (vR (M k)) (sm i fun p => M k p * w p) (i : Int) (k : Int) = g41_1i_L3 P (rw10 T M) (mv P w) ((k + 1 : Nat) : Int) := by
    intro k hk
    have hb : ∀ i, i < P → -(2 * 65536) ≤ M k i * w i ∧ M k i * w i ≤ 2 * 65536 := fun i hi => prod_bd2 (hR k i).1 (hR k i).2 (hw i hi).1 (hw i hi).2
    refine up_to ?_ fun i hi ih => ?_
    · rw [g41_1i_L7_eq, mv_fl, decF (by omega), bsel_false, hz k hk, wrs (by omega)]; rfl
    · have b1 := sm_bd (n := i) (f := fun p => M k p * w p) (B := 2 * 65536) fun j hj => hb j (by omega)
      have b2 := hb i hi
      rw [g41_1i_L7_eq, mv_fl, inB hi, decT (show (i : Int) < (P : Int) by omega), bsel_true, cells10, in10 (by omega)]
      simp only [Bool.and_self, chk_true, Int.toNat_natCast]
      rw [nget_mv hi, vI_mk, show 0 + i * 1 = i by omega, nget_mv (by omega), vI_mk, wrs (by omega), wrap64 (n := M k i * w i) (by omega) (by omega), wrap64 (by omega) (by omega)]
      exact ih
  have outer : ∀ k, k ≤ T → g41_1i_L3 P (rw10 T M) (mv P w) (k : Int) = some (.bool true, [some (mv P w)]) := by
    refine up_to ?_ fun k hk ih => ?_
    · obtain ⟨l, h1, h2⟩ := c57_1i w (by omega) hs
      rw [g41_1i_L3_eq, mv_fl, rw10_length, decF (by omega), bsel_false, H22_of h1, decT (by omega), mv_fl]; rfl
    · rw [g41_1i_L3_eq, mv_fl, rw10_length, decT (by omega), bsel_true, lgV_rw hk]
      exact (inner k hk 0 (by omega)).trans ih
  rw [g41_1i_eq]
  exact outer 0 (by omega)
end
/-! ### firing -/
theorem c73 {P : Nat} (f : Nat → Int) {a : Nat × Int} (h : a.1 < P) : SS.CC 73 [A5 (vA a), .cst (.sl false 1 (mv P f))] [] = some (.bool (decide (f a.1 < a.2)), []) := by
  rw [g73_eq, lget_mv h, vI_mk]
theorem c80 {P : Nat} (f : Nat → Int) {l : List (Nat × Int)} (hl : l.length ≤ 1000) (h : ∀ a, a ∈ l → a.1 < P) : ∃ n, SS.CC 80 [.sl false 2 (l.map pA), .func (.func 73) [] [.cst (.sl false 1 (mv P f))]] [] = some (.int .i64 n, []) := by
  have key : ∀ i, i ≤ l.length → ∃ n, g80_L3 (l.map pA) (mv P f) (i : Int) = some (.int .i64 n, []) := by
    refine up_to ⟨-1, ?_⟩ fun i hi ⟨n, ih⟩ => ?_
    · rw [g80_L3_eq, List.length_map, decF (by omega), bsel_false]
    · rw [g80_L3_eq, List.length_map, decT (by omega), bsel_true, lgV_arc hi, G1_of (c73 f (h _ (List.getElem_mem hi))), wrs (by omega)]
      cases decide (f l[i].1 < l[i].2)
      · exact ⟨n, ih⟩
      · exact ⟨_, rfl⟩
  obtain ⟨n, h⟩ := key 0 (by omega)
  exact ⟨n, by rw [g80_eq]; exact h⟩
theorem arc_len {P : Nat} : ∀ {l : List (Nat × Int)} (k : Nat), (∀ a, a ∈ l → k ≤ a.1 ∧ a.1 < P) → l.Pairwise (fun a b => a.1 < b.1) → l.length ≤ P - k
  | [], _, _, _ => by simp
  | a :: l, k, h, hs => by
    obtain ⟨h1, h2⟩ := List.pairwise_cons.1 hs
    have ha := h a (by simp)
    have := arc_len (P := P) (a.1 + 1) (fun b hb => ⟨h1 b hb, (h b (by simp [hb])).2⟩) h2
    rw [List.length_cons]; omega
theorem ArcOk.len {P : Nat} {l : List (Nat × Int)} (h : ArcOk P l) : l.length ≤ P := by
  have := arc_len (P := P) 0 (fun a ha => ⟨by omega, (h.b a ha).1⟩) h.s
  omega
theorem c60 {P : Nat} (f : Nat → Int) (hP : P ≤ 1000) {t : Tr} (h : TrOk P t) : ∃ b, SS.CC 60 [A2 (vT t), .sl false 1 (mv P f)] [] = some (.bool b, []) := by
  obtain ⟨n, hn⟩ := c80 f (l := t.inn) (by have := h.i.len; omega) fun a ha => (h.i.b a ha).1
  refine ⟨!(decide (0 ≤ n)), ?_⟩
  rw [g60_eq]
  refine (G1_of (b := decide (0 ≤ n)) ?_)
  rw [g72_eq, G6_of hn]
def nv (l : List Nat) : List PV := l.map fun (k : Nat) => iP (k : Int)
theorem c45 {n : Nt} (hn : NtOk n) (f : Nat → Int) : ∃ l : List Nat, (∀ t, t ∈ l → t < n.ts.length) ∧ l.length ≤ n.ts.length ∧ SS.CC 45 [A0 (vN n), .sl false 1 (mv n.P f)] [] = some (.sl false 1 (nv l), []) := by
  have h5 := hn.t5
  have hp := hn.p5
  have key : ∀ i, i ≤ n.ts.length → ∀ x : List Nat, (∀ t, t ∈ x → t < n.ts.length) → x.length ≤ i → ∃ l : List Nat, (∀ t, t ∈ l → t < n.ts.length) ∧ l.length ≤ n.ts.length ∧ g45_L4 (mv n.P f) (n.ts.map pT) (nv x) (i : Int) = some (.sl false 1 (nv l), []) := by
    refine up_to (fun x h1 h2 => ⟨x, h1, h2, ?_⟩) fun i hi ih x h1 h2 => ?_
    · rw [g45_L4_eq, List.length_map, decF (by omega), bsel_false]
    · obtain ⟨b, hb⟩ := c60 f (by omega) (hn.t _ (List.getElem_mem hi))
      rw [g45_L4_eq, List.length_map, decT (by omega), bsel_true, lgV_tr hi, G1_of hb, wrs (by omega)]
      cases b
      · exact ih x h1 (by omega)
      · rw [bsel_true, chk_of (decT (by rw [nv, List.length_map]; unfold LIM; omega)), show nv x ++ [iP (i : Int)] = nv (x ++ [i]) by simp [nv]]
        exact ih (x ++ [i]) (fun t ht => by rcases List.mem_append.1 ht with h | h; exact h1 t h; simp at h; omega) (by simp; omega)
  rw [show SS.CC 45 [A0 (vN n), .sl false 1 (mv n.P f)] [] = g45_L4 (mv n.P f) (n.ts.map pT) (nv []) ((0 : Nat) : Int) from g45_eq _ _]
  exact key 0 (by omega) [] (by simp) (by simp)
theorem c49 {P : Nat} (hp0 : 1 ≤ P) (hP : P ≤ 10) {t : Tr} (h : TrOk P t) (f : Nat → Int) (hf : ∀ p, p < P → 0 ≤ f p ∧ f p ≤ 65536) :
    SS.CC 49 [A2 (vT t), .sl false 1 (mv P f)] [] = some (if tokB P (fun p => f p + dl t p) = true then (.tuple [.sl false 1 (mv P fun p => f p + dl t p), .int .i64 0]) else (.tuple [.sl false 1 [], .int .i64 3]), []) := by
  have li := h.i.len
  have lo := h.o.len
  have k2 : ∀ i, i ≤ t.out.length → g49_L9 (t.out.map pA) (mv P fun p => f p - wt t.inn p + wt (t.out.take i) p) P (i : Int) = some (if tokB P (fun p => f p + dl t p) = true then (.tuple [.sl false 1 (mv P fun p => f p + dl t p), .int .i64 0]) else (.tuple [.sl false 1 [], .int .i64 3]), []) := by
    refine up_to ?_ fun i hi ih => ?_
    · rw [List.take_length, show (fun p => f p - wt t.inn p + wt t.out p) = fun p => f p + dl t p from funext fun p => by unfold dl; omega]
      rw [g49_L9_eq, List.length_map, mv_fl, decF (by omega), bsel_false, H15_of (c46_1i _ (by omega))]
      cases tokB P fun p => f p + dl t p
      · rw [mv_fl]; rfl
      · rw [mv_fl, mv_flat, mv_length, chunk1_mv, decT (by omega)]; rfl
    · have ha := h.o.b _ (List.getElem_mem hi)
      have hfa := hf _ ha.1
      have b1 := wt_bd h.i (t.out[i]).1
      have b2 := wt_bd (h.o.take i) (t.out[i]).1
      rw [g49_L9_eq, List.length_map, mv_fl, decT (show (i : Int) < (t.out.length : Int) by omega), bsel_true, lgV_arc hi]
      simp only [Bool.and_self, chk_true, Int.toNat_natCast]
      rw [inB ha.1, nget_mv ha.1, vI_mk, mv_length, decT ha.1, wrap64 (by omega) (by omega), mv_set, mv_fl, wrs (by omega)]
      rw [← ih]
      simp only [chk_true, Bool.and_self]
      congr 1
      apply mv_congr
      intro p hp
      rw [wt_take hi]
      split
      · rename_i e; subst e; rw [if_pos rfl]; omega
      · rename_i e; rw [if_neg fun c => e c.symm]; omega
  have k1 : ∀ i, i ≤ t.inn.length → g49_L4 (vT t) (mv P fun p => f p - wt (t.inn.take i) p) P (i : Int) = some (if tokB P (fun p => f p + dl t p) = true then (.tuple [.sl false 1 (mv P fun p => f p + dl t p), .int .i64 0]) else (.tuple [.sl false 1 [], .int .i64 3]), []) := by
    refine up_to ?_ fun i hi ih => ?_
    · rw [g49_L4_eq, List.length_map, mv_fl, decF (by omega), bsel_false, List.take_length]
      have := k2 0 (by omega)
      rw [show (fun p => f p - wt t.inn p + wt (t.out.take 0) p) = fun p => f p - wt t.inn p from funext fun p => by simp [wt]] at this
      exact this
    · have ha := h.i.b _ (List.getElem_mem hi)
      have hfa := hf _ ha.1
      have b2 := wt_bd (h.i.take i) (t.inn[i]).1
      rw [g49_L4_eq, List.length_map, mv_fl, decT (show (i : Int) < (t.inn.length : Int) by omega), bsel_true, lgV_arc hi]
      simp only [Bool.and_self, chk_true, Int.toNat_natCast]
      rw [inB ha.1, nget_mv ha.1, vI_mk, mv_length, decT ha.1, wrap64 (by omega) (by omega), mv_set, mv_fl, wrs (by omega)]
      rw [← ih]
      simp only [chk_true, Bool.and_self]
      congr 1
      apply mv_congr
      intro p hp
      rw [wt_take hi]
      split
      · rename_i e; subst e; rw [if_pos rfl]; omega
      · rename_i e; rw [if_neg fun c => e c.symm]; omega
  rw [g49_eq, G8_of (c22 f (by omega)), mv_length, mv_plain, decT (by omega)]
  have := k1 0 (by omega)
  rw [show (fun p => f p - wt (t.inn.take 0) p) = f from funext fun p => by simp [wt]] at this
  exact this
end Go.Proofs.YtkkgfoknknehfaaDoor.W

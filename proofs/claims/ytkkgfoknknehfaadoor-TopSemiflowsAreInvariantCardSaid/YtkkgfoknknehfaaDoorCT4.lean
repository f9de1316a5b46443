/-
  The search: adding a marking, pumping, all markings.
-/
import Derived.Test.YtkkgfoknknehfaaDoorCT3
namespace Go.Proofs.YtkkgfoknknehfaaDoor.W
set_option linter.unusedVariables false
set_option linter.unusedSimpArgs false
set_option linter.unnecessarySimpa false
set_option linter.unusedSectionVars false
open Go.RowKit
set_option maxRecDepth 100000
set_option maxHeartbeats 2000000
structure Nd where
  m : Nat → Int
  bf : Int
  tr : Int
abbrev vNd (P : Nat) (x : Nd) : Sh.V S28 := (mv P x.m, x.bf, x.tr, ())
abbrev pNd (P : Nat) (x : Nd) : PV := A28 (vNd P x)
abbrev vE (e : Nat × Nat × Nat) : Sh.V S30 := ((e.1 : Int), (e.2.1 : Int), (e.2.2 : Int), ())
abbrev pE (e : Nat × Nat × Nat) : PV := A30 (vE e)
abbrev vS37 (P : Nat) (nd : List Nd) (ed : List (Nat × Nat × Nat)) (s : Int) : Sh.V S37 := (nd.map (pNd P), ed.map pE, s, ())
theorem lgV_nd {P : Nat} {nd : List Nd} {i : Nat} {x : Nd} {K : Sh.V S28 → R} (h : nd[i]? = some x) : lgV S28 (nd.map (pNd P)) (i : Int) K = K (vNd P x) := by
  unfold lgV
  obtain ⟨h1, h2⟩ := List.getElem?_eq_some_iff.1 h
  rw [lget_map h1, h2]; rfl
theorem c48 {P : Nat} (hP : P ≤ 10) {x : Nd} (hx : ∀ p, p < P → 0 ≤ x.m p ∧ x.m p ≤ 65536) {nd : List Nd} (hn : nd.length ≤ 100000) (ed : List (Nat × Nat × Nat)) (s : Int) (l : List (List UInt8 × Nat)) :
    ∃ l', SS.CC 48 [.ptr 0 0, pNd P x] [O37 (vS37 P nd ed s), O27 (mpL l, ())] = some (.tuple [], [O37 (vS37 P (nd ++ [x]) ed s), O27 (mpL l', ())]) ∧ ∀ y, y ∈ l' → y = (kyf P x.m, nd.length) ∨ y ∈ l := by
  obtain ⟨l', h1, h2⟩ := put_mpL (kyf P x.m) nd.length l
  refine ⟨l', ?_, h2⟩
  rw [g48_eq, G18_of (c50 hP hx), ok_mpL, List.length_map, decT (show nd.length + 1 ≤ LIM by unfold LIM; omega)]
  simp only [Bool.and_self, chk_true]
  rw [h1]
  show some (PV.tuple [], [O37 (nd.map (pNd P) ++ [pNd P x], ed.map pE, s, ()), O27 (mpL l', ())]) = some (.tuple [], [O37 ((nd ++ [x]).map (pNd P), ed.map pE, s, ()), O27 (mpL l', ())])
  rw [List.map_append]; rfl
theorem c51 {P : Nat} (hP : P ≤ 10) {nd : List Nd} (h0 : 1 ≤ nd.length) (hn : nd.length ≤ 100000) (hb : ∀ (i : Nat) (x : Nd), nd[i]? = some x → -1 ≤ x.bf ∧ x.bf < i) (ed : List (Nat × Nat × Nat)) (s : Int) (o : List PV) :
    ∃ n, SS.CC 51 [.ptr 0 0] [O37 (vS37 P nd ed s), O27 (o, ())] = some (.int .i64 n, [O37 (vS37 P nd ed s), O27 (o, ())]) := by
  obtain ⟨z, hz⟩ : ∃ z, nd[nd.length - 1]? = some z := ⟨_, List.getElem?_eq_getElem (by omega)⟩
  have key : ∀ F : Nat, ∀ i : Int, -1 ≤ i → i < F → i < nd.length → ∀ x4, ∃ n, g51_L5 i (vS37 P nd ed s) o (vNd P z) x4 = some (.int .i64 n, [O37 (vS37 P nd ed s), O27 (o, ())]) := by
    intro F
    induction F with
    | zero =>
      intro i h1 h2 h3 x4
      rw [g51_L5_eq, decF (by omega), bsel_false]
      exact ⟨_, rfl⟩
    | succ F ih =>
      intro i h1 h2 h3 x4
      rw [g51_L5_eq]
      by_cases hi : 0 ≤ i
      · obtain ⟨k, rfl⟩ := Int.eq_ofNat_of_zero_le hi
        obtain ⟨y, hy⟩ : ∃ y, nd[k]? = some y := ⟨_, List.getElem?_eq_getElem (by omega)⟩
        have hby := hb k y hy
        have hJ : ∀ x4, ∃ n, g51_J6 x4 (vS37 P nd ed s) o (vNd P z) (k : Int) = some (.int .i64 n, [O37 (vS37 P nd ed s), O27 (o, ())]) := fun x4 => by
          rw [g51_J6_eq, lgV_nd hy]
          exact ih y.bf hby.1 (by omega) (by omega) x4
        rw [decT hi, bsel_true, lgV_nd hy]
        have inner : ∀ j, j ≤ P → ∀ b : Bool, ∃ n, g51_L9 (k : Int) (mv P y.m) (vS37 P nd ed s) o (vNd P z) b (j : Int) x4 = some (.int .i64 n, [O37 (vS37 P nd ed s), O27 (o, ())]) := by
          refine up_to (fun b => ?_) fun j hj ihj b => ?_
          · rw [g51_L9_eq, mv_length, decF (by omega), bsel_false]
            cases b
            · exact hJ x4
            · exact hJ _
          · rw [g51_L9_eq, mv_length, decT (by omega), bsel_true, lget_mv hj, vI_mk, wrs (by omega)]
            cases b
            · exact ihj _
            · rw [bsel_true, lget_mv hj, vI_mk]; exact ihj _
        exact inner 0 (by omega) true
      · rw [decF hi, bsel_false]
        exact ⟨_, rfl⟩
  have hbz := hb _ z hz
  rw [g51_eq, List.length_map, show IntKind.i64.wrap ((nd.length : Int) - 1) = ((nd.length - 1 : Nat) : Int) by rw [wrap64 (by omega) (by omega)]; omega, lgV_nd hz]
  exact key nd.length z.bf hbz.1 (by omega) (by omega) _
/-- What is known of markings that were reached: they keep every value that the transitions keep. -/
def Kept (n : Nt) (f : Nat → Int) : Prop := ∀ w : Nat → Int, (∀ k, k < n.ts.length → sm n.P (fun p => n.D k p * w p) = 0) → sm n.P (fun p => w p * f p) = sm n.P (fun p => w p * n.m0 p)
theorem Kept.start (n : Nt) : Kept n n.m0 := fun _ _ => rfl
theorem Kept.step {n : Nt} {f : Nat → Int} (h : Kept n f) {k : Nat} (hk : k < n.ts.length) : Kept n fun p => f p + n.D k p := fun w hw => by
  rw [← h w hw, sm_congr (g := fun p => w p * f p + n.D k p * w p) fun p _ => by rw [Int.mul_add, Int.mul_comm (w p) (n.D k p)], sm_add, hw k hk]; omega
structure GInv (n : Nt) (nd : List Nd) (ed : List (Nat × Nat × Nat)) (l : List (List UInt8 × Nat)) : Prop where
  len1 : 1 ≤ nd.length
  len2 : nd.length ≤ 4096
  tk : ∀ (i : Nat) (x : Nd), nd[i]? = some x → ∀ p, p < n.P → 0 ≤ x.m p ∧ x.m p ≤ 65536
  kp : ∀ (i : Nat) (x : Nd), nd[i]? = some x → Kept n x.m
  bf : ∀ (i : Nat) (x : Nd), nd[i]? = some x → -1 ≤ x.bf ∧ x.bf < i
  ed : ∀ e, e ∈ ed → ∃ a b : Nd, nd[e.1]? = some a ∧ nd[e.2.2]? = some b ∧ e.2.1 < n.ts.length ∧ ∀ p, p < n.P → b.m p = a.m p + n.D e.2.1 p
  mp : ∀ x, x ∈ l → ∃ a : Nd, nd[x.2]? = some a ∧ x.1 = kyf n.P a.m
theorem get_app {α : Type} {l : List α} {i : Nat} {x : α} (y : α) (h : l[i]? = some x) : (l ++ [y])[i]? = some x := by
  rw [List.getElem?_append_left (List.getElem?_eq_some_iff.1 h).1, h]
theorem app_get {α : Type} {l : List α} {i : Nat} {x y : α} (h : (l ++ [y])[i]? = some x) : l[i]? = some x ∨ (i = l.length ∧ x = y) := by
  by_cases hi : i < l.length
  · rw [List.getElem?_append_left hi] at h; exact .inl h
  · rw [List.getElem?_append_right (by omega)] at h
    by_cases e : i = l.length
    · subst e; simp at h; exact .inr ⟨rfl, h.symm⟩
    · rw [List.getElem?_eq_none (by simp; omega)] at h; cases h
theorem GInv.add {n : Nt} {nd : List Nd} {ed : List (Nat × Nat × Nat)} {l l' : List (List UInt8 × Nat)} (h : GInv n nd ed l) {x : Nd} (ht : ∀ p, p < n.P → 0 ≤ x.m p ∧ x.m p ≤ 65536) (hk : Kept n x.m) (hb : -1 ≤ x.bf ∧ x.bf < nd.length) (hl : ∀ y, y ∈ l' → y = (kyf n.P x.m, nd.length) ∨ y ∈ l) (hn : nd.length + 1 ≤ 4096) : GInv n (nd ++ [x]) ed l' where
  len1 := by simp
  len2 := by simp; omega
  tk i y hy := by rcases app_get hy with h1 | ⟨_, rfl⟩; exact h.tk i y h1; exact ht
  kp i y hy := by rcases app_get hy with h1 | ⟨_, rfl⟩; exact h.kp i y h1; exact hk
  bf i y hy := by rcases app_get hy with h1 | ⟨rfl, rfl⟩; exact h.bf i y h1; exact hb
  ed e he := by obtain ⟨a, b, h1, h2, h3⟩ := h.ed e he; exact ⟨a, b, get_app x h1, get_app x h2, h3⟩
  mp y hy := by
    rcases hl y hy with rfl | h1
    · exact ⟨x, by simp, rfl⟩
    · obtain ⟨a, h2, h3⟩ := h.mp y h1; exact ⟨a, get_app x h2, h3⟩
theorem GInv.edge {n : Nt} {nd : List Nd} {ed : List (Nat × Nat × Nat)} {l : List (List UInt8 × Nat)} (h : GInv n nd ed l) {e : Nat × Nat × Nat} (he : ∃ a b : Nd, nd[e.1]? = some a ∧ nd[e.2.2]? = some b ∧ e.2.1 < n.ts.length ∧ ∀ p, p < n.P → b.m p = a.m p + n.D e.2.1 p) : GInv n nd (ed ++ [e]) l where
  len1 := h.len1
  len2 := h.len2
  tk := h.tk
  kp := h.kp
  bf := h.bf
  ed x hx := by rcases List.mem_append.1 hx with h1 | h1; exact h.ed x h1; rw [List.mem_singleton.1 h1]; exact he
  mp := h.mp
/-- How a search ends: an error, a net that is not bounded, or the whole graph. -/
def Out38 (n : Nt) (r : R) : Prop :=
  (∃ e : Int, e ≠ 0 ∧ r = some (.tuple [.nilp, .int .i64 e], [])) ∨
  (∃ a b c, ∃ s : Int, 0 ≤ s ∧ r = some (.tuple [.ptr 1 0, .int .i64 0], [O27 (a, ()), O26 (b, c, s, ())])) ∨
  ∃ (nd : List Nd) (ed : List (Nat × Nat × Nat)) (l : List (List UInt8 × Nat)) (s : Int), GInv n nd ed l ∧ ed.length ≤ 20480 ∧ s < 0 ∧ r = some (.tuple [.ptr 1 0, .int .i64 0], [O27 (mpL l, ()), O26 (nd.map (pNd n.P), ed.map pE, s, ())])
theorem c38 {n : Nt} (hn : NtOk n) : Out38 n (SS.CC 38 [A0 (vN n)] []) := by
  have hp := hn.p5
  have ht5 := hn.t5
  have outer : ∀ (F : Nat) (nd : List Nd) (ed : List (Nat × Nat × Nat)) (l : List (List UInt8 × Nat)) (s : Int) (i : Nat), GInv n nd ed l → s < 0 → i ≤ nd.length → ed.length ≤ 5 * i → (4096 - nd.length) * 10000 + (nd.length - i) ≤ F → Out38 n (g38_L5 (vN n) (mpL l) (vS37 n.P nd ed s) (i : Int)) := by
    intro F
    induction F with
    | zero =>
      intro nd ed l s i h hs hi he hF
      rw [g38_L5_eq, List.length_map, decF (by omega), bsel_false]
      exact .inr (.inr ⟨nd, ed, l, s, h, by have := h.len2; omega, hs, rfl⟩)
    | succ F ih =>
      intro nd ed l s i h hs hi he hF
      rw [g38_L5_eq, List.length_map]
      by_cases hlt : i < nd.length
      · obtain ⟨x, hx⟩ : ∃ x, nd[i]? = some x := ⟨_, List.getElem?_eq_getElem hlt⟩
        obtain ⟨tl, ht1, ht2, ht3⟩ := c45 hn x.m
        rw [decT (by omega), bsel_true, lgV_nd hx, G17_of ht3]
        have inner : ∀ j, j ≤ tl.length → ∀ (nd : List Nd) (ed : List (Nat × Nat × Nat)) (l : List (List UInt8 × Nat)) (s : Int), GInv n nd ed l → s < 0 → nd[i]? = some x → ed.length ≤ 5 * i + j → (4096 - nd.length) * 10000 + (nd.length - i) ≤ F + 1 → Out38 n (g38_L8 (vN n) (nv tl) (mpL l) (vS37 n.P nd ed s) (j : Int) (i : Int)) := by
          refine up_to (fun nd ed l s h hs hx he hF => ?_) fun j hj ihj nd ed l s h hs hx he hF => ?_
          · have hlt := (List.getElem?_eq_some_iff.1 hx).1
            rw [g38_L8_eq, nv, List.length_map, decF (by omega), bsel_false, wrs (by have := h.len2; omega)]
            exact ih nd ed l s (i + 1) h hs (by omega) (by omega) (by omega)
          · have hlt := (List.getElem?_eq_some_iff.1 hx).1
            have hl2 := h.len2
            have hk := ht1 _ (List.getElem_mem hj)
            have htk := h.tk i x hx
            rw [g38_L8_eq, show (nv tl).length = tl.length from List.length_map _, decT (show (j : Int) < (tl.length : Int) by omega), bsel_true, show nv tl = tl.map fun (k : Nat) => iP (k : Int) from rfl, lget_map hj, vI_mk, lgV_tr hk, lgV_nd hx]
            have hc := c49 hn.p0 (by omega) (hn.t _ (List.getElem_mem hk)) x.m htk
            obtain ⟨f, hf⟩ : ∃ f : Nat → Int, (fun p => x.m p + dl (n.ts[tl[j]]) p) = f := ⟨_, rfl⟩
            rw [hf] at hc
            have hD : ∀ p, p < n.P → f p = x.m p + n.D tl[j] p := fun p _ => by rw [← hf, Nt.D_eq hk]
            have hkp : Kept n f := by
              have := (h.kp i x hx).step hk
              rw [show (fun p => x.m p + n.D tl[j] p) = f by rw [← hf]; funext p; rw [Nt.D_eq hk]] at this
              exact this
            by_cases hB : tokB n.P f = true
            · rw [if_pos hB] at hc
              have hB2 := tokB_iff.1 hB
              have hLIM : decide ((ed.map pE).length + 1 ≤ LIM) = true := decT (by rw [List.length_map]; unfold LIM; omega)
              rw [G5_of hc]
              dsimp only
              rw [show ((0 : Int) != 0) = false from rfl, bsel_false, G18_of (c50 (by omega) hB2)]
              obtain ⟨o, hg, ho⟩ := get_mpL (kyf n.P f) l
              rw [mapX, hg]
              cases o with
              | none =>
                obtain ⟨l', h1, h2⟩ := c48 (P := n.P) (by omega) (x := ⟨f, (i : Int), (tl[j] : Int)⟩) hB2 (nd := nd) (by omega) ed s l
                rw [H19_of h1]
                have hbf : ∀ (i' : Nat) (y : Nd), (nd ++ [(⟨f, (i : Int), (tl[j] : Int)⟩ : Nd)])[i']? = some y → -1 ≤ y.bf ∧ y.bf < i' := fun i' y hy => by
                  rcases app_get hy with h3 | ⟨rfl, rfl⟩
                  · exact h.bf i' y h3
                  · dsimp only; omega
                obtain ⟨r, h3⟩ := c51 (P := n.P) (by omega) (nd := nd ++ [(⟨f, (i : Int), (tl[j] : Int)⟩ : Nd)]) (by simp) (by simp; omega) hbf ed s (mpL l')
                rw [H20_of h3]
                by_cases hr : 0 ≤ r
                · rw [decT hr, bsel_true]
                  exact .inr (.inl ⟨_, _, _, r, hr, rfl⟩)
                · rw [decF hr, bsel_false]
                  dsimp only
                  by_cases hm : nd.length + 1 ≤ 4096
                  · rw [decF (by simp; omega), bsel_false, g38_J22_eq, hLIM, chk_true, wrs (by omega), List.length_map]
                    have hG := (h.add (x := ⟨f, (i : Int), (tl[j] : Int)⟩) hB2 hkp ⟨by dsimp only; omega, by dsimp only; omega⟩ h2 hm).edge (e := (i, tl[j], nd.length)) ⟨x, ⟨f, (i : Int), (tl[j] : Int)⟩, get_app _ hx, by simp, hk, hD⟩
                    show Out38 n (g38_L8 _ _ _ (_, ed.map pE ++ [pE (i, tl[j], nd.length)], r, ()) _ _)
                    rw [show ed.map pE ++ [pE (i, tl[j], nd.length)] = (ed ++ [(i, tl[j], nd.length)]).map pE by simp]
                    exact ihj _ _ _ r hG (by omega) (get_app _ hx) (by simp; omega) (by simp; omega)
                  · rw [decT (by simp; omega), bsel_true]
                    exact .inl ⟨3, by decide, rfl⟩
              | some t =>
                obtain ⟨a, h1, h2⟩ := h.mp _ (ho t rfl)
                refine (congrArg (Out38 n) (vI_mk _ _ _)).mpr ?_
                rw [g38_J22_eq, hLIM, chk_true, wrs (by omega)]
                have he2 := mv_inj (kyf_inj (fun p hp => (hB2 p hp).1) (fun p hp => (h.tk _ a h1 p hp).1) h2)
                have hG := h.edge (e := (i, tl[j], t)) ⟨x, a, hx, h1, hk, fun p hp => by rw [← he2 p hp]; exact hD p hp⟩
                show Out38 n (g38_L8 _ _ _ (_, ed.map pE ++ [pE (i, tl[j], t)], s, ()) _ _)
                rw [show ed.map pE ++ [pE (i, tl[j], t)] = (ed ++ [(i, tl[j], t)]).map pE by simp]
                exact ihj _ _ _ s hG hs hx (by simp; omega) hF
            · rw [if_neg hB] at hc
              rw [G5_of hc]
              dsimp only
              exact .inl ⟨3, by decide, rfl⟩
        exact inner 0 (by omega) nd ed l s h hs hx (by omega) hF
      · rw [decF (by omega), bsel_false]
        exact .inr (.inr ⟨nd, ed, l, s, h, by have := h.len2; omega, hs, rfl⟩)
  obtain ⟨l', h1, h2⟩ := c48 (P := n.P) (by omega) (x := ⟨n.m0, -1, -1⟩) hn.tk (nd := []) (by simp) [] (-1) []
  rw [g38_eq, G8_of (c22 n.m0 (by omega))]
  refine (congrArg (Out38 n) (H19_of h1)).mpr ?_
  refine outer (4096 * 10000) _ _ _ _ 0 ⟨by simp, by simp, ?_, ?_, ?_, fun e he => by simp at he, ?_⟩ (by decide) (by simp) (by simp) (by simp)
  · intro i y hy
    rcases app_get hy with h3 | ⟨rfl, rfl⟩
    · simp at h3
    · exact hn.tk
  · intro i y hy
    rcases app_get hy with h3 | ⟨rfl, rfl⟩
    · simp at h3
    · exact Kept.start n
  · intro i y hy
    rcases app_get hy with h3 | ⟨rfl, rfl⟩
    · simp at h3
    · simp
  · intro y hy
    rcases h2 y hy with rfl | h3
    · exact ⟨_, rfl, rfl⟩
    · simp at h3
end Go.Proofs.YtkkgfoknknehfaaDoor.W

/-
  Contracts: dead stores of the program, Unreachable, Dead, Uses.
-/
import Derived.Test.YtiejgieiokmmfaaDoorC52g
namespace Go.Proofs.YtiejgieiokmmfaaDoor
set_option linter.unusedVariables false
set_option linter.unusedSimpArgs false
set_option linter.unnecessarySimpa false
set_option linter.unusedSectionVars false
open Go.RowKit
/-- A program over 8 bits, as those that are made. -/
structure Prg.ok8 (p : Prg) : Prop where
  check : checkS p = 0
  w8 : wd p = 8
theorem Prg.ok8.head {p : Prg} (h : p.ok8) : headS p = 0 := (check0 h.check).1
theorem Prg.ok8.okL {p : Prg} (h : p.ok8) : okL 8 p.list := by have := (check0 h.check).2.1; rwa [h.w8] at this
theorem c46 (es : List PV) (h : es.length ≤ 1000000) : SS.CC 46 [.sl false 1 es] [] = Ret (.sl true 1 es) := by
  rw [g46_eq]
  refine nilX_of ?_ fun e => ?_
  · rw [show ((false : Bool) == true) = false from rfl, bsel_false, chk_of (by simp [LIM]; omega)]
  · subst e; rfl
theorem c68 : SS.CC 68 [.sl false 1 [.bool true], .int .i64 8] [] = Ret (.sl false 1 (bitL (List.replicate 8 true))) := CC_of_sem SS_ok 60 (by kernel_rfl)
/-! ### dead -/
def slB (v : List Bool) : PV := .sl false 1 (bitL v)
def ndP (k : Nat) (V : List (List Bool)) : List PV := List.replicate k (.sl true 0 []) ++ V.map slB
theorem ndP_len (k : Nat) (V : List (List Bool)) : (ndP k V).length = k + V.length := by simp [ndP]
theorem ndP_fl (k : Nat) (V : List (List Bool)) : (ndP k V).all flC = true := by
  unfold ndP
  rw [List.all_append, Bool.and_eq_true]
  refine ⟨List.all_eq_true.2 fun x hx => ?_, List.all_eq_true.2 fun x hx => ?_⟩
  · rw [(List.mem_replicate.1 hx).2]; rfl
  · obtain ⟨v, _, rfl⟩ := List.mem_map.1 hx; rfl
theorem ndP_set (k : Nat) (V : List (List Bool)) (v : List Bool) : (ndP (k + 1) V).set k (.sl false 1 (bitL v)) = ndP k (v :: V) := by
  unfold ndP
  rw [List.set_append_left _ _ (by simp), List.replicate_succ', List.set_append_right _ _ (by simp), List.append_assoc]
  simp [slB]
theorem ndP_get {k j : Nat} {V : List (List Bool)} {v : List Bool} {K : PV → R} (h1 : k ≤ j) (h2 : V[j - k]? = some v) : ngetX (ndP k V) j K = K (.sl false 1 (bitL v)) := by
  refine ngetX_of ?_
  unfold ndP
  rw [List.getElem?_append_right (by simpa using h1), List.length_replicate, List.getElem?_map, h2]; rfl
theorem rep_snoc {α : Type} (k : Nat) (a : α) (D : List α) : List.replicate (k + 1) a ++ D = List.replicate k a ++ a :: D := by rw [List.replicate_succ', List.append_assoc]; rfl
theorem rep_set {α : Type} (k : Nat) (a v : α) (D : List α) : (List.replicate (k + 1) a ++ D).set k v = List.replicate k a ++ v :: D := by
  rw [List.set_append_left _ _ (by simp), List.replicate_succ', List.set_append_right _ _ (by simp), List.append_assoc]
  simp
theorem nvs_get {w : Nat} {l : List Ins} {i j : Nat} (h1 : i ≤ j) (h2 : j ≤ l.length) : (nv w i (l.drop i))[j - i]? = some (NS w l j) := by
  have hlen : j - i < (nv w i (l.drop i)).length := by rw [nv_len]; simp; omega
  have := nv_get w (l.drop i) i (j - i) (by simp; omega)
  rw [List.drop_drop, show i + (j - i) = j by omega, List.getD_eq_getElem?_getD, List.getElem?_eq_getElem hlen] at this
  rw [List.getElem?_eq_getElem hlen]
  exact congrArg some this
theorem or_take {a b : List Bool} {k : Nat} {x y : Bool} (ha : a[k]? = some x) (hb : b[k]? = some y) : ((orS a b).take k ++ a.drop k).set k (x || y) = (orS a b).take (k + 1) ++ a.drop (k + 1) := by
  obtain ⟨h1, rfl⟩ := List.getElem?_eq_some_iff.1 ha
  obtain ⟨h2, rfl⟩ := List.getElem?_eq_some_iff.1 hb
  have hl : k < (orS a b).length := by simp [orS]; omega
  rw [List.set_append_right _ _ (by simp; omega), List.length_take, show k - min k (orS a b).length = 0 by omega, List.drop_eq_getElem_cons h1, List.set_cons_zero, ← List.take_append_getElem hl, List.append_assoc]
  simp [orS]
theorem l45i (p : Prg) {R : List Bool} (hn : p.list.length ≤ 2048) (a b : List Bool) (x y : Int) {k : Nat} (V : List (List Bool)) (hV : k + 1 + V.length = p.list.length + 1) (D : List Bool) (ha : a.length = 8) (hb : b.length = 8) : ∀ (m j : Nat), j + m = 8 →
    g45_L21 p.ni p.no p.nm (bitL p.start) (insL p.list) (bitL R) (bitL b) (ndP (k + 1) V) x y (bitL ((orS a b).take j ++ a.drop j)) 8 (j : Int) (k : Int) (bitL D) =
    g45_L8 p.ni p.no p.nm (bitL p.start) (insL p.list) (bitL R) (ndP k (orS a b :: V)) ((k : Int) - 1) (bitL D) := by
  have hN := lenW hn
  have hol : (orS a b).length = 8 := by simp [orS, ha, hb]
  have hcl : ∀ j, j ≤ 8 → ((orS a b).take j ++ a.drop j).length = 8 := fun j hj => by simp [ha, hol]; omega
  intro m
  induction m with
  | zero =>
    intro j hj
    have hj8 : j = 8 := by omega
    subst hj8
    rw [g45_L21_eq, ndP_fl, bitL_flC, bitL_flC, decF (by simp [hb]), bsel_false]
    simp only [Bool.and_self, chk_tt]
    rw [bitL_of, bitL_len, hcl 8 (by omega), bitL_chunk _ (by rw [hcl 8 (by omega)]; exact Nat.le_refl _), hN, Int.toNat_natCast, Int.toNat_natCast, ndP_len, ndP_set, ndP_fl, wr0 (k := (k : Int) - 1) (by omega) (by omega), show (orS a b).take 8 ++ a.drop 8 = orS a b by rw [List.take_of_length_le (by omega), List.drop_of_length_le (by omega), List.append_nil]]
    rw [show (decide (8 * 1 ≤ 8) && decide (0 < 1) && true) = true from rfl, chk_tt, decT (show (0 : Int) ≤ (k : Int) by omega), decT (show (k : Int) < ((p.list.length + 1 : Nat) : Int) by omega), Bool.and_self, chk_tt, decT (show k < k + 1 + V.length by omega), chk_tt, chk_tt]
  | succ m ih =>
    intro j hj
    obtain ⟨u, hu⟩ := get_lt (show j < a.length by omega)
    obtain ⟨v, hv⟩ := get_lt (show j < b.length by omega)
    have hcj := hcl j (by omega)
    have hg : ((orS a b).take j ++ a.drop j)[j]? = some u := by
      rw [List.getElem?_append_right (by simp [hol]; omega), List.length_take, hol, show j - min j 8 = 0 by omega, List.getElem?_drop, Nat.add_zero]; exact hu
    have nx := ih (j + 1) (by omega)
    rw [← or_take hu hv] at nx
    rw [g45_L21_eq, ndP_fl, bitL_flC, bitL_flC, decT (by simp [hb]; omega), bsel_true]
    simp only [Bool.and_self, chk_tt]
    rw [lget_bit hv, vB_mk, Int.toNat_natCast, decT (show (0 : Int) ≤ (j : Int) by omega), decT (show (j : Int) < ((8 : Nat) : Int) by omega), Bool.and_self, chk_tt, nget_bit hg, vB_mk, bitL_len, hcj, decT (show j < 8 by omega), bitL_set, bitL_set, bitL_flC, bitL_flC, wrs (by omega)]
    simp only [Bool.and_self, chk_tt]
    cases u with
    | true => rw [bsel_true]; exact nx
    | false => rw [bsel_false]; rw [Bool.false_or] at nx; exact nx
theorem l45 {p : Prg} (hp : p.ok8) (Rr : List Bool) (hR : Rr = reachS p.list) : ∀ (m : Nat), m ≤ p.list.length →
    g45_L8 p.ni p.no p.nm (bitL p.start) (insL p.list) (bitL Rr) (ndP m (nv 8 m (p.list.drop m))) ((m : Int) - 1) (bitL (List.replicate m false ++ deadV 8 Rr m (p.list.drop m))) = Ret (.sl false 1 (bitL (deadV 8 Rr 0 p.list))) := by
  have hok := hp.okL
  have hn := hok.1
  have hN := lenW hn
  intro m
  induction m with
  | zero =>
    intro hm
    have hl : (deadV 8 Rr 0 p.list).length = p.list.length := deadV_len _ _ _ _
    rw [g45_L8_eq, ndP_fl, bitL_flC]
    simp only [Bool.and_self, chk_tt, List.drop_zero, List.replicate_zero, List.nil_append]
    rw [decF (by omega), bsel_false, bitL_of, bitL_len, insL_len, Int.toNat_natCast, hl, bitL_chunk _ (by omega), chk_of (by rw [decT (by omega)]; rfl)]
  | succ k ih =>
    intro hm
    have ih := ih (by omega)
    obtain ⟨x, hx⟩ := get_lt (show k < p.list.length by omega)
    obtain ⟨o1, o2, o3, o4⟩ := hok.2 k x hx
    have hVl : (nv 8 (k + 1) (p.list.drop (k + 1))).length = p.list.length - k := by rw [nv_len, List.length_drop]; omega
    have hV0 := NS_len hok p.list.length (k + 1) (by omega)
    have hst := NS_get (w := 8) hx
    have hv0 : (nv 8 (k + 1) (p.list.drop (k + 1))).headD [] = NS 8 p.list (k + 1) := rfl
    have hg0 := nvs_get (w := 8) (l := p.list) (i := k + 1) (j := k + 1) (by omega) (by omega)
    rw [drop_get hx, nv, deadV] at ih
    obtain ⟨V, hV⟩ : ∃ V, nv 8 (k + 1) (p.list.drop (k + 1)) = V := ⟨_, rfl⟩
    obtain ⟨D, hD⟩ : ∃ D, deadV 8 Rr (k + 1) (p.list.drop (k + 1)) = D := ⟨_, rfl⟩
    obtain ⟨b0, hb0⟩ : ∃ b, NS 8 p.list (k + 1) = b := ⟨_, rfl⟩
    rw [hV] at hVl hst hv0 hg0 ih
    rw [hD] at ih
    rw [hb0] at hV0 hv0 hg0
    rw [hV, hD]
    have hc46 := c46 (bitL b0) (by simp; omega)
    have hdl : D.length = p.list.length - (k + 1) := by rw [← hD, deadV_len, List.length_drop]
    have hbits : List.replicate (k + 1) false ++ D = List.replicate k false ++ false :: D := rep_snoc k false D
    have hrl : Rr.length = p.list.length + 1 := by rw [hR]; simp
    have hkk : (((k + 1 : Nat) : Int) - 1) = (k : Int) := by omega
    rw [hkk]
    -- the next state, whatever the vector and the flag
    have nxt : ∀ v d, vecS k x V = v → dead1 8 Rr k x V = d → g45_L8 p.ni p.no p.nm (bitL p.start) (insL p.list) (bitL Rr) (ndP k (v :: V)) ((k : Int) - 1) (bitL (List.replicate k false ++ d :: D)) = Ret (.sl false 1 (bitL (deadV 8 Rr 0 p.list))) := fun v d h1 h2 => by subst h1; subst h2; exact ih
    have w1 : IntKind.i64.wrap ((k : Int) + 1) = ((k + 1 : Nat) : Int) := wrs (by omega)
    have w2 : IntKind.i64.wrap ((k : Int) - 1) = (k : Int) - 1 := wr0 (by omega) (by omega)
    have f1 : (true && decide ((k : Int) < ((p.list.length + 1 : Nat) : Int))) = true := by rw [decT (by omega)]; rfl
    have f2 : (decide ((0 : Int) ≤ ((k + 1 : Nat) : Int)) && decide (((k + 1 : Nat) : Int) < ((p.list.length + 1 : Nat) : Int))) = true := by rw [decT (by omega), decT (by omega)]; rfl
    have f3 : decide (k < (ndP (k + 1) V).length) = true := by rw [ndP_len]; exact decT (by omega)
    have f4 : decide (k < (bitL (List.replicate (k + 1) false ++ D)).length) = true := decT (by simp; omega)
    have f5 : (true && decide ((k : Int) < (p.list.length : Int))) = true := by rw [decT (by omega)]; rfl
    have f6 : ∀ v : List Bool, v.length = 8 → (decide (8 * 1 ≤ (bitL v).length) && decide (0 < 1) && (bitL v).all fun p => p.one && p.flat) = true := fun v hv => by rw [bitL_of, bitL_len, hv]; rfl
    have f7 : ∀ v : List Bool, v.length = 8 → chunkP 1 (bitL v) 8 = bitL v := fun v hv => bitL_chunk v (by omega)
    rw [g45_L8_eq, ndP_fl, bitL_flC]
    simp only [Bool.and_self, chk_tt]
    rw [decT (show (0 : Int) ≤ (k : Int) by omega), bsel_true, lget_ins hx, v57_mk, w1, w2, hN, Int.toNat_natCast, Int.toNat_natCast, f2, chk_tt, Int.toNat_natCast, ndP_get (by omega) hg0, vL_mk, clX_of hc46, vL_mk, bitL_plainC, bitL_len, hV0, show (decide (0 < 8) && true) = true from rfl, chk_tt, f1, insL_len, Int.toNat_natCast, f3, f4, f5]
    simp only [chk_tt]
    by_cases h6 : x.1 ≤ 6
    · have hr := o3 (by omega)
      rw [decT h6, bsel_true, decT hr.1, decT (show x.2 < ((8 : Nat) : Int) from hr.2), decT (show x.2.toNat < 8 by omega), bitL_set, f6 _ (by simpa using hV0), f7 _ (by simpa using hV0), ndP_set, ndP_fl]
      simp only [Bool.and_self, chk_tt]
      rw [hbits]
      exact nxt _ _ (by unfold vecS; rw [if_pos h6, hv0]) (by unfold dead1; rw [if_neg (by omega)])
    rw [decF h6, bsel_false]
    have st78 : (x.1 = 7 ∨ x.1 = 8) → vecS k x V = b0.set x.2.toNat false := fun h => by unfold vecS; rw [if_neg h6, if_pos (by omega), hv0]
    have d78 : (x.1 = 7 ∨ x.1 = 8) → dead1 8 Rr k x V = (Rr.getD k false && !b0.getD x.2.toNat false) := fun h => by unfold dead1; rw [if_pos h, hv0]
    have body : (x.1 = 7 ∨ x.1 = 8) → ∀ A : R, A = (lgetX (bitL Rr) (k : Int) fun e8 => vB e8 fun b9 => bsel b9 (chk (decide (0 ≤ x.2) && decide (x.2 < ((8 : Nat) : Int))) (ngetX (bitL b0) x.2.toNat fun e10 => vB e10 fun b11 => chk (decide (0 ≤ x.2) && decide (x.2 < ((8 : Nat) : Int))) (chk (decide (x.2.toNat < 8)) (chk (decide (8 * 1 ≤ ((bitL b0).set x.2.toNat (.bool false)).length) && decide (0 < 1) && ((bitL b0).set x.2.toNat (.bool false)).all fun p => p.one && p.flat) (chk (true && (((bitL (List.replicate (k + 1) false ++ D)).set k (.bool (!b11))).all flC && true)) (chk (((ndP (k + 1) V).set k (.sl false 1 (chunkP 1 ((bitL b0).set x.2.toNat (.bool false)) 8))).all flC && (((bitL (List.replicate (k + 1) false ++ D)).set k (.bool (!b11))).all flC && true)) (g45_L8 p.ni p.no p.nm (bitL p.start) (insL p.list) (bitL Rr) ((ndP (k + 1) V).set k (.sl false 1 (chunkP 1 ((bitL b0).set x.2.toNat (.bool false)) 8))) ((k : Int) - 1) ((bitL (List.replicate (k + 1) false ++ D)).set k (.bool (!b11))))))))))
        (chk (decide (0 ≤ x.2) && decide (x.2 < ((8 : Nat) : Int))) (chk (decide (x.2.toNat < 8)) (chk (decide (8 * 1 ≤ ((bitL b0).set x.2.toNat (.bool false)).length) && decide (0 < 1) && ((bitL b0).set x.2.toNat (.bool false)).all fun p => p.one && p.flat) (chk (true && (((bitL (List.replicate (k + 1) false ++ D)).set k (.bool false)).all flC && true)) (chk (((ndP (k + 1) V).set k (.sl false 1 (chunkP 1 ((bitL b0).set x.2.toNat (.bool false)) 8))).all flC && (((bitL (List.replicate (k + 1) false ++ D)).set k (.bool false)).all flC && true)) (g45_L8 p.ni p.no p.nm (bitL p.start) (insL p.list) (bitL Rr) ((ndP (k + 1) V).set k (.sl false 1 (chunkP 1 ((bitL b0).set x.2.toNat (.bool false)) 8))) ((k : Int) - 1) ((bitL (List.replicate (k + 1) false ++ D)).set k (.bool false))))))))) → A = Ret (.sl false 1 (bitL (deadV 8 Rr 0 p.list))) := fun h A hA => by
      rw [hA]
      have hr := o3 (by omega)
      rw [lget_bit (bAt (by omega)), vB_mk, decT hr.1, decT (show x.2 < ((8 : Nat) : Int) from hr.2), decT (show x.2.toNat < 8 by omega), nget_bit (bAt (by omega)), vB_mk]
      simp only [bitL_set, f6 _ (show (b0.set x.2.toNat false).length = 8 by simpa using hV0), f7 _ (show (b0.set x.2.toNat false).length = 8 by simpa using hV0), ndP_set, ndP_fl, bitL_flC, Bool.and_self, chk_tt, rep_set]
      cases hRk : Rr.getD k false with
      | true => rw [bsel_true]; exact nxt _ _ (st78 h) (by rw [d78 h, hRk, Bool.true_and])
      | false => rw [bsel_false]; exact nxt _ _ (st78 h) (by rw [d78 h, hRk, Bool.false_and])
    by_cases h7 : x.1 = 7
    · rw [eqT h7, bsel_true]
      exact body (.inl h7) _ rfl
    rw [eqF h7, bsel_false]
    by_cases h8 : x.1 = 8
    · rw [eqT h8, bsel_true]
      exact body (.inr h8) _ rfl
    rw [eqF h8, bsel_false]
    have nd : dead1 8 Rr k x V = false := by unfold dead1; rw [if_neg (by omega)]
    by_cases h11 : x.1 = 11
    · have hj := o4 (by omega)
      have hgj := nvs_get (w := 8) (l := p.list) (i := k + 1) (j := x.2.toNat) (by omega) (by omega)
      rw [hV] at hgj
      rw [eqT h11, bsel_true, decT (show 0 ≤ x.2 by omega), decT (show x.2 < ((p.list.length + 1 : Nat) : Int) by omega), Bool.and_self, chk_tt, ndP_get (by omega) hgj, vL_mk, ndP_set, ndP_fl, Bool.and_self, chk_tt, hbits]
      refine nxt _ _ ?_ nd
      unfold vecS
      rw [if_neg h6, if_neg (by omega), if_neg (by omega), if_pos h11, List.getD_eq_getElem?_getD, hgj]; rfl
    rw [eqF h11, bsel_false]
    by_cases h12 : 12 ≤ x.1
    · have hj := o4 (by omega)
      have hgj := nvs_get (w := 8) (l := p.list) (i := k + 1) (j := x.2.toNat) (by omega) (by omega)
      have hjl := NS_len hok p.list.length x.2.toNat (by omega)
      rw [hV] at hgj
      rw [decT h12, bsel_true, decT (show 0 ≤ x.2 by omega), decT (show x.2 < ((p.list.length + 1 : Nat) : Int) by omega), Bool.and_self, chk_tt, ndP_get (by omega) hgj, vL_mk]
      have h := l45i p (R := Rr) hn b0 (NS 8 p.list x.2.toNat) x.1 x.2 (k := k) V (by omega) (List.replicate (k + 1) false ++ D) hV0 hjl 8 0 (by omega)
      simp only [List.take_zero, List.nil_append, List.drop_zero] at h
      refine (show _ = _ from h).trans ?_
      rw [hbits]
      refine nxt _ _ ?_ nd
      unfold vecS
      rw [if_neg h6, if_neg (by omega), if_neg (by omega), if_neg h11, hv0, List.getD_eq_getElem?_getD, hgj]; rfl
    · rw [decF h12, bsel_false, bitL_of, show (decide (8 * 1 ≤ 8) && decide (0 < 1) && true) = true from rfl, chk_tt, f7 _ hV0, ndP_set, ndP_fl, Bool.and_self, chk_tt]
      rw [hbits]
      exact nxt _ _ (by unfold vecS; rw [if_neg h6, if_neg (by omega), if_pos (by omega), hv0]) nd
theorem c45 {p : Prg} (hp : p.ok8) : SS.CC 45 [prgP p] [] = Ret (.sl false 1 (bitL (deadS 8 p.list))) := by
  have hok := hp.okL
  have hn := hok.1
  have hN := lenW hn
  have h67 := c67 p hp.head
  have hh := head0 hp.head
  have hw := hp.w8
  have e8 : p.ni + p.no + p.nm = 8 := by unfold wd at hw; omega
  rw [e8] at h67
  have h44 := c44 (p := p) (by rw [hw]; exact hok)
  have h68 := c68
  unfold prgP at h67 h44 ⊢
  rw [g45_eq, clX_of h67, vI_mk, hN, decT rfl, decT (by omega), decT (by omega), Bool.and_self, Bool.and_self, chk_tt, clX_of h68, vL_mk, Int.toNat_natCast, insL_len, Int.toNat_natCast, decT (show (0 : Int) ≤ (p.list.length : Int) by omega), decT (show (p.list.length : Int) < ((p.list.length + 1 : Nat) : Int) by omega), Bool.and_self, chk_tt, decT (by simp), chk_tt, decT rfl, decT (by omega), Bool.and_self, Bool.and_self, chk_tt, clX_of h44, vL_mk, wr0 (k := (p.list.length : Int) - 1) (by omega) (by omega)]
  have h := l45 hp _ rfl p.list.length (Nat.le_refl _)
  rw [List.drop_of_length_le (Nat.le_refl _)] at h
  have e1 : (List.replicate (p.list.length + 1) (.sl true 0 [] : PV)).set p.list.length (.sl false 1 (bitL (List.replicate 8 true))) = ndP p.list.length (nv 8 p.list.length []) := by
    have := ndP_set p.list.length [] (List.replicate 8 true)
    simp only [ndP, List.map_nil, List.append_nil] at this
    rw [this]; rfl
  have e2 : List.replicate p.list.length (PV.bool false) = bitL (List.replicate p.list.length false ++ deadV 8 (reachS p.list) p.list.length []) := by simp [bitL, deadV, List.map_replicate]
  rw [e1, e2]
  exact h
end Go.Proofs.YtiejgieiokmmfaaDoor

/-
  The law Compacts.
-/
import Derived.Test.YtiejgieiokmmfaaDoorC52j
namespace Go.Proofs.YtiejgieiokmmfaaDoor
set_option linter.unusedVariables false
set_option linter.unusedSimpArgs false
set_option linter.unnecessarySimpa false
set_option linter.unusedSectionVars false
open Go.RowKit
/-! ### instructions laid flat -/
def insF : List Ins → List PV
  | [] => []
  | x :: l => .int .i64 x.1 :: .int .i64 x.2 :: insF l
theorem insF_len : ∀ l : List Ins, (insF l).length = l.length * 2
  | [] => rfl
  | x :: l => by rw [insF, List.length_cons, List.length_cons, insF_len l, List.length_cons]; omega
theorem insF_app : ∀ a b : List Ins, insF (a ++ b) = insF a ++ insF b
  | [], b => rfl
  | x :: a, b => by rw [List.cons_append, insF, insF_app a, insF]; rfl
theorem insF_flC : ∀ l : List Ins, (insF l).all flC = true
  | [] => rfl
  | x :: l => by rw [insF, List.all_cons, List.all_cons, insF_flC l]; rfl
theorem insF_of : ∀ l : List Ins, ((insF l).all fun p => p.one && p.flat) = true
  | [] => rfl
  | x :: l => by rw [insF, List.all_cons, List.all_cons, insF_of l]; rfl
theorem insF_drop : ∀ (l : List Ins) (j : Nat), (insF l).drop (j * 2) = insF (l.drop j)
  | l, 0 => by simp
  | [], j + 1 => by simp [insF]
  | x :: l, j + 1 => by rw [insF, show (j + 1) * 2 = j * 2 + 1 + 1 by omega, List.drop_succ_cons, List.drop_succ_cons, insF_drop l j, List.drop_succ_cons]
theorem insF_set : ∀ (l : List Ins) (j : Nat) (x : Ins) (v : Int), l[j]? = some x → (insF l).set (j * 2 + 1) (.int .i64 v) = insF (l.set j (x.1, v))
  | [], j, x, v, h => by simp at h
  | y :: l, 0, x, v, h => by simp at h; subst h; rfl
  | y :: l, j + 1, x, v, h => by
    have := insF_set l j x v (by simpa using h)
    rw [insF, show (j + 1) * 2 + 1 = (j * 2 + 1) + 1 + 1 by omega, List.set_cons_succ, List.set_cons_succ, this, List.set_cons_succ, insF]
theorem insF_view {l : List Ins} {j : Nat} {x : Ins} (h : l[j]? = some x) : (((insF l).drop (0 + j * 2)).take 2).map PV.un = [.int .i64 x.1, .int .i64 x.2] := by
  rw [Nat.zero_add, insF_drop, drop_get h]; rfl
theorem insF_chunk (l : List Ins) : chunkP 2 (insF l) l.length = insL l := by
  apply List.ext_getElem?
  intro j
  show ((List.range l.length).map fun j => PV.agg ((((insF l).drop (j * 2)).take 2).map PV.un))[j]? = (l.map insP)[j]?
  rw [List.getElem?_map, List.getElem?_map]
  by_cases hj : j < l.length
  · obtain ⟨x, hx⟩ := get_lt hj
    rw [List.getElem?_range hj, hx]
    have := insF_view hx
    rw [Nat.zero_add] at this
    simp only [Option.map_some]
    rw [this]; rfl
  · rw [List.getElem?_eq_none (by simp; omega), List.getElem?_eq_none (by omega)]; rfl
/-! ### the table of places -/
def ixA (l : List Ins) (k : Nat) : List Int := (List.range k).map (fun j => (idxS 8 l j : Int)) ++ List.replicate (l.length + 1 - k) 0
theorem ixA_len {l : List Ins} {k : Nat} (h : k ≤ l.length + 1) : (ixA l k).length = l.length + 1 := by simp [ixA]; omega
theorem ixA_zero (l : List Ins) : ixA l 0 = List.replicate (l.length + 1) 0 := by simp [ixA]
theorem ixA_set {l : List Ins} {k : Nat} (h : k ≤ l.length) : (ixA l k).set k (idxS 8 l k : Int) = ixA l (k + 1) := by
  unfold ixA
  rw [List.set_append_right _ _ (by simp), List.length_map, List.length_range, Nat.sub_self, show l.length + 1 - k = (l.length + 1 - (k + 1)) + 1 by omega, List.replicate_succ, List.set_cons_zero, List.range_succ, List.map_append, List.append_assoc]
  rfl
theorem ixA_get {l : List Ins} {j : Nat} (h : j ≤ l.length) : (ixA l (l.length + 1))[j]? = some (idxS 8 l j : Int) := by
  unfold ixA
  rw [List.getElem?_append_left (by simp; omega), List.getElem?_map, List.getElem?_range (by omega)]; rfl
theorem raw_snoc {l : List Ins} {k : Nat} {x : Ins} (hx : l[k]? = some x) : rawS 8 l (k + 1) = rawS 8 l k ++ (if keepS 8 l k x then [x] else []) := by rw [rawS, hx]
theorem idx_succ {l : List Ins} {k : Nat} {x : Ins} (hx : l[k]? = some x) : idxS 8 l (k + 1) = idxS 8 l k + (if keepS 8 l k x then 1 else 0) := by rw [idxS, hx]
theorem rep_int0 (n : Nat) : List.replicate n (PV.int .i64 0) = intL (List.replicate n 0) := by simp [intL, List.map_replicate]
/-! ### Compact -/
def compP (p : Prg) : Prg := ⟨p.ni, p.no, p.nm, p.start, compS 8 p.list⟩
theorem adj_inj (l : List Ins) (x : Ins) : (x.1, (adjS 8 l x).2) = adjS 8 l x := by rw [← adj_op 8 l x]
theorem l20b {p : Prg} (h8 : p.ok8) (hpos : 1 ≤ idxS 8 p.list p.list.length) : ∀ (m j : Nat), j + m = idxS 8 p.list p.list.length →
    g20_L17b (idxS 8 p.list p.list.length) p.ni p.no p.nm (bitL p.start) (insF (((rawS 8 p.list p.list.length).take j).map (adjS 8 p.list) ++ (rawS 8 p.list p.list.length).drop j)) (p.list.length + 1) (intL (ixA p.list (p.list.length + 1))) (j : Int) = Ret (.tuple [prgP (compP p), .int .i64 0]) := by
  have hok := h8.okL
  have hn := hok.1
  have hil := idx_le 8 p.list p.list.length
  have hrl := raw_len 8 p.list p.list.length
  obtain ⟨raw, hraw⟩ : ∃ r, rawS 8 p.list p.list.length = r := ⟨_, rfl⟩
  have hrm : ∀ (j : Nat) x, raw[j]? = some x → ∃ i, p.list[i]? = some x := fun j x hj => by
    rw [← hraw] at hj
    obtain ⟨i, _, h1, _⟩ := raw_inv 8 p.list hj
    exact ⟨i, h1⟩
  rw [hraw] at hrl ⊢
  have hcl : ∀ j, j ≤ raw.length → ((raw.take j).map (adjS 8 p.list) ++ raw.drop j).length = raw.length := fun j hj => by simp; omega
  intro m
  induction m with
  | zero =>
    intro j hj
    rw [g20_L17b_eq, intL_flC, insF_flC, decF (by omega), bsel_false]
    simp only [Bool.and_self, chk_tt]
    rw [insF_of, insF_len, hcl j (by omega), show (decide (idxS 8 p.list p.list.length * 2 ≤ raw.length * 2) && decide (0 < 2) && true && true) = true by rw [decT (by omega)]; rfl, chk_tt]
    have e : (raw.take j).map (adjS 8 p.list) ++ raw.drop j = compS 8 p.list := by
      rw [List.take_of_length_le (by omega), List.drop_of_length_le (by omega), List.append_nil]
      unfold compS; rw [hraw]
    rw [e]
    have := insF_chunk (compS 8 p.list)
    rw [comp_len] at this
    rw [this]; rfl
  | succ m ih =>
    intro j hj
    obtain ⟨x, hx⟩ := get_lt (show j < raw.length by omega)
    obtain ⟨i, hi⟩ := hrm j x hx
    obtain ⟨o1, o2, o3, o4⟩ := hok.2 i x hi
    have hxc : ((raw.take j).map (adjS 8 p.list) ++ raw.drop j)[j]? = some x := by
      rw [List.getElem?_append_right (by simp; omega), List.length_map, List.length_take, show j - min j raw.length = 0 by omega, List.getElem?_drop, Nat.add_zero]; exact hx
    have hnext : ((raw.take j).map (adjS 8 p.list) ++ raw.drop j).set j (adjS 8 p.list x) = (raw.take (j + 1)).map (adjS 8 p.list) ++ raw.drop (j + 1) := by
      obtain ⟨hj2, rfl⟩ := List.getElem?_eq_some_iff.1 hx
      rw [List.set_append_right _ _ (by simp; omega), List.length_map, List.length_take, show j - min j raw.length = 0 by omega, List.drop_eq_getElem_cons hj2, List.set_cons_zero, ← List.take_append_getElem hj2, List.map_append, List.append_assoc]
      rfl
    have nxt := ih (j + 1) (by omega)
    rw [g20_L17b_eq, intL_flC, insF_flC, decT (by omega), bsel_true]
    simp only [Bool.and_self, chk_tt]
    rw [Int.toNat_natCast, insF_view hxc, v57_mk, insF_len, hcl j (by omega), decT (show (0 : Int) ≤ (j : Int) by omega), Bool.and_self, chk_tt, decT (show 0 + j * 2 + 2 ≤ raw.length * 2 by omega), chk_tt, wrs (k := j) (by omega)]
    by_cases h11 : 11 ≤ x.1
    · have hj4 := o4 h11
      rw [decT h11, bsel_true, decT (show 0 ≤ x.2 by omega), decT (show x.2 < ((p.list.length + 1 : Nat) : Int) by omega), Bool.and_self, chk_tt, nget_int (ixA_get (j := x.2.toNat) (by omega)), vI_mk, chk_tt, decT (show 0 + j * 2 + 1 < raw.length * 2 by omega), chk_tt, show 0 + j * 2 + 1 = j * 2 + 1 by omega, insF_set _ j x _ hxc, insF_flC]
      simp only [Bool.and_self, chk_tt]
      have e : (x.1, (idxS 8 p.list x.2.toNat : Int)) = adjS 8 p.list x := by unfold adjS; rw [if_pos h11]
      rw [e, hnext]
      exact nxt
    · rw [decF h11, bsel_false]
      have e : adjS 8 p.list x = x := adj_lo (by omega)
      have hs : ((raw.take j).map (adjS 8 p.list) ++ raw.drop j) = (raw.take (j + 1)).map (adjS 8 p.list) ++ raw.drop (j + 1) := by
        rw [← hnext, e]
        obtain ⟨hj2, rfl⟩ := List.getElem?_eq_some_iff.1 hxc
        rw [List.set_getElem_self]
      rw [hs]
      exact nxt
theorem l20 {p : Prg} (h8 : p.ok8) : ∀ (m k : Nat), k + m = p.list.length →
    g20_L9 p.ni p.no p.nm (bitL p.start) (insL p.list) (bitL (reachS p.list)) (bitL (deadS 8 p.list)) (bitL p.start) (k : Int) (idxS 8 p.list k) (insF (rawS 8 p.list k)) (intL (ixA p.list k)) = Ret (.tuple [prgP (compP p), .int .i64 0]) := by
  have hok := h8.okL
  have hn := hok.1
  have hN := lenW hn
  intro m
  induction m with
  | zero =>
    intro k hk
    have hkn : k = p.list.length := by omega
    subst hkn
    have hil := idx_le 8 p.list p.list.length
    rw [g20_L9_eq, intL_flC, Bool.true_and, chk_tt, decF (by simp), bsel_false, chk_tt, hN, Int.toNat_natCast, insL_len, Int.toNat_natCast, decT (by omega), decT (by omega), Bool.and_self, chk_tt, intL_len, ixA_len (by omega), decT (by omega), chk_tt, intL_set, ixA_set (Nat.le_refl _)]
    cases hp : Nat.ble 1 (idxS 8 p.list p.list.length) with
    | true =>
      rw [bsel_true]
      have hp := Nat.le_of_ble_eq_true hp
      have h := l20b h8 hp (idxS 8 p.list p.list.length) 0 (by omega)
      rw [List.take_zero, List.drop_zero, List.map_nil, List.nil_append] at h
      exact h
    | false =>
      have hz : idxS 8 p.list p.list.length = 0 := by
        cases hi : idxS 8 p.list p.list.length with
        | zero => rfl
        | succ n => rw [hi] at hp; cases hp
      have hc : compS 8 p.list = [] := List.eq_nil_of_length_eq_zero (by rw [comp_len, hz])
      rw [bsel_false, g20_L17_eq, intL_flC, Bool.true_and, chk_tt]
      unfold compP
      rw [hc]; rfl
  | succ m ih =>
    intro k hk
    obtain ⟨x, hx⟩ := get_lt (show k < p.list.length by omega)
    have nxt := ih (k + 1) (by omega)
    have hik := idx_le 8 p.list k
    rw [idx_succ hx, raw_snoc hx, ← ixA_set (by omega)] at nxt
    rw [g20_L9_eq, intL_flC, Bool.true_and, chk_tt, decT (by simp; omega), bsel_true, chk_tt, lget_ins hx, v57_mk, hN, Int.toNat_natCast, Int.toNat_natCast, decT (show (0 : Int) ≤ (k : Int) by omega), decT (show (k : Int) < ((p.list.length + 1 : Nat) : Int) by omega), Bool.and_self, chk_tt, intL_len, ixA_len (by omega), decT (show k < p.list.length + 1 by omega), chk_tt, lget_bit (bAt (b := reachS p.list) (by simp; omega)), vB_mk, intL_set, intL_flC, wrs (k := k) (by omega)]
    simp only [Bool.and_self, chk_tt]
    unfold keepS at nxt
    change _ = _ at nxt
    have hRS : (reachS p.list).getD k false = RS p.list k := rfl
    rw [hRS]
    cases hr : RS p.list k with
    | false =>
      rw [hr] at nxt
      rw [bsel_false]
      simpa using nxt
    | true =>
      rw [hr, Bool.true_and] at nxt
      rw [bsel_true, lget_bit (dead_get hx), vB_mk]
      cases hd : DS 8 p.list k x with
      | true =>
        rw [hd] at nxt
        rw [Bool.not_true, bsel_false]
        simpa using nxt
      | false =>
        rw [hd] at nxt
        rw [Bool.not_false, bsel_true, decT (show idxS 8 p.list k + 1 ≤ LIM by unfold LIM; omega), Bool.and_self, chk_tt]
        have e : insF (rawS 8 p.list k) ++ [.int .i64 x.1, .int .i64 x.2] = insF (rawS 8 p.list k ++ [x]) := by rw [insF_app]; rfl
        rw [e]
        simpa using nxt
theorem c20 {p : Prg} (h8 : p.ok8) : SS.CC 20 [prgP p] [] = Ret (.tuple [prgP (compP p), .int .i64 0]) := by
  have hok := h8.okL
  have hn := hok.1
  have hN := lenW hn
  have hh := head0 h8.head
  have h25 := c25 p
  have h44 := c44 (p := p) (by rw [h8.w8]; exact hok)
  have h45 := c45 h8
  have h46 := c46 (bitL p.start) (by simp; omega)
  rw [h8.check] at h25
  have h := l20 h8 p.list.length 0 (by omega)
  unfold prgP at h25 h44 h45 h ⊢
  rw [g20_eq, clX_of h25, vI_mk, neF rfl, bsel_false, clX_of h44, vL_mk, clX_of h45, vL_mk, clX_of h46, vL_mk, hN, decT rfl, decT (by omega), decT (by omega), Bool.and_self, Bool.and_self, chk_tt, Int.toNat_natCast, rep_int0, ← ixA_zero]
  exact h
/-- What Compact makes is right. -/
theorem comp_check {p : Prg} (h8 : p.ok8) : checkS (compP p) = 0 := by
  obtain ⟨h1, _, h3⟩ := check0 h8.check
  have hok := h8.okL
  have hq := comp_ok hok
  have hh := head0 h1
  have hw := h8.w8
  have hH : headS (compP p) = 0 := by
    unfold headS compP
    have := hq.1
    simp only
    rw [if_neg (by omega), if_neg (by simp; omega), if_neg (by omega)]
  rw [check_first hH]
  refine first_of fun i y hy => ?_
  rw [Nat.zero_add]
  obtain ⟨o1, o2, o3, o4⟩ := hq.2 i y hy
  obtain ⟨k, x, hx, hk, _, hyx⟩ := comp_inv hy
  unfold insE
  rw [if_neg (by omega)]
  by_cases h11 : 11 ≤ y.1
  · have := o4 h11
    rw [if_pos h11, if_neg]
    show ¬ (y.2 ≤ (i : Int) ∨ ((compS 8 p.list).length : Int) < y.2)
    omega
  · have := o3 (by omega)
    have hxy : y = x := by rw [hyx]; rw [hyx, adj_op] at h11; exact adj_lo (by omega)
    have e8 : p.ni + p.no + p.nm = 8 := by unfold wd at hw; omega
    rw [if_neg h11, if_neg]
    · rw [if_neg]
      rintro ⟨a1, a2⟩
      have := h3 k x hx (by rw [← hxy]; exact a1) (by rw [← hxy]; omega)
      rw [hxy] at a2
      exact absurd a2 (by show ¬ x.2 < p.ni; omega)
    · show ¬ (y.2 < 0 ∨ p.ni + p.no + p.nm ≤ y.2)
      omega
theorem comp8 {p : Prg} (h8 : p.ok8) : (compP p).ok8 := ⟨comp_check h8, h8.w8⟩
/-! ### the law Compacts -/
theorem l5b {p q : Prg} (h8 : p.ok8) (hq : q = compP p) : ∀ (m k : Nat), k + m = p.list.length →
    g5_L19 0 (bitL (reachS p.list)) p.ni p.no p.nm (bitL p.start) (insL p.list) q.ni q.no q.nm (bitL q.start) (insL q.list) (k : Int) (insL ((rawS 8 p.list k).map (adjS 8 p.list))) (intL (ixA p.list (p.list.length + 1))) = Ret (.bool true) := by
  have hok := h8.okL
  have hn := hok.1
  have hN := lenW hn
  have hh := head0 h8.head
  intro m
  induction m with
  | zero =>
    intro k hk
    have hkn : k = p.list.length := by omega
    subst hkn
    have hql := (comp_ok hok).1
    have h24 := c24 q q (by rw [hq]; simp [compP]; omega) (by rw [hq]; simp [compP]; omega)
    have h25 := c25 q
    rw [hq, comp_check h8, ← hq] at h25
    rw [eqPB_refl] at h24
    have e : SS.CC 24 [.agg [.int .i64 q.ni, .int .i64 q.no, .int .i64 q.nm, .sl false 1 (bitL q.start), .sl false 2 (insL q.list)], .agg [.int .i64 p.ni, .int .i64 p.no, .int .i64 p.nm, .sl false 1 (bitL p.start), .sl false 2 (insL ((rawS 8 p.list p.list.length).map (adjS 8 p.list)))]] [] = Ret (.bool true) := by
      subst hq; exact h24
    unfold prgP at h25
    rw [g5_L19_eq, intL_flC, Bool.true_and, chk_tt, decF (by simp), bsel_false, chk_tt, eqT rfl, bsel_true, clX_of e, vB_mk, bsel_true, clX_of h25, vI_mk]; rfl
  | succ m ih =>
    intro k hk
    obtain ⟨x, hx⟩ := get_lt (show k < p.list.length by omega)
    obtain ⟨o1, o2, o3, o4⟩ := hok.2 k x hx
    have nxt := ih (k + 1) (by omega)
    rw [raw_snoc hx] at nxt
    have hik := idx_le 8 p.list k
    have hrl := raw_len 8 p.list k
    have h22 := c22 (p := p) (by rw [h8.w8]; exact hok) hx
    rw [h8.w8] at h22
    unfold prgP at h22
    have J : g5_J24 0 (bitL (reachS p.list)) p.ni p.no p.nm (bitL p.start) (insL p.list) q.ni q.no q.nm (bitL q.start) (insL q.list) x.1 (adjS 8 p.list x).2 (k : Int) (intL (ixA p.list (p.list.length + 1))) (insL ((rawS 8 p.list k).map (adjS 8 p.list))) = Ret (.bool true) := by
      rw [g5_J24_eq, lget_bit (bAt (by simp; omega)), vB_mk, intL_flC, wrs (by omega)]
      simp only [Bool.and_self, chk_tt]
      unfold keepS at nxt
      have hRS : (reachS p.list).getD k false = RS p.list k := rfl
      rw [hRS]
      cases hr : RS p.list k with
      | false =>
        rw [hr] at nxt
        rw [bsel_false]
        simpa using nxt
      | true =>
        rw [hr, Bool.true_and] at nxt
        rw [bsel_true, clX_of h22, vB_mk]
        cases hd : DS 8 p.list k x with
        | true =>
          rw [hd] at nxt
          rw [Bool.not_true, bsel_false]
          simpa using nxt
        | false =>
          rw [hd] at nxt
          rw [Bool.not_false, bsel_true, insL_len, List.length_map, hrl, decT (show idxS 8 p.list k + 1 ≤ LIM by unfold LIM; omega), chk_tt]
          have e : insL ((rawS 8 p.list k).map (adjS 8 p.list)) ++ [.agg [.int .i64 x.1, .int .i64 (adjS 8 p.list x).2]] = insL ((rawS 8 p.list k ++ [x]).map (adjS 8 p.list)) := by
            rw [List.map_append]
            show _ = insL (_ ++ [adjS 8 p.list x])
            rw [← adj_inj p.list x]
            simp [insL, insP, adj_op]
          rw [e]
          simpa using nxt
    rw [g5_L19_eq, intL_flC, Bool.true_and, chk_tt, decT (by simp; omega), bsel_true, chk_tt, lget_ins hx, v57_mk, clX_of (c23 _), vB_mk, decT o2, Bool.and_true]
    by_cases h11 : 11 ≤ x.1
    · have hj := o4 h11
      rw [adj_hi h11] at J
      rw [decT h11, bsel_true, hN, Int.toNat_natCast, decT (show 0 ≤ x.2 by omega), decT (show x.2 < ((p.list.length + 1 : Nat) : Int) by omega), Bool.and_self, chk_tt, nget_int (ixA_get (j := x.2.toNat) (by omega)), vI_mk, chk_tt]
      exact J
    · rw [adj_lo (by omega)] at J
      rw [decF h11, bsel_false, chk_tt]
      exact J
theorem l5a {p q : Prg} (h8 : p.ok8) (hq : q = compP p) : ∀ (m k : Nat), k + m = p.list.length →
    g5_L10 0 (bitL (reachS p.list)) p.ni p.no p.nm (bitL p.start) (insL p.list) q.ni q.no q.nm (bitL q.start) (insL q.list) (idxS 8 p.list k : Int) (k : Int) (intL (ixA p.list k)) = Ret (.bool true) := by
  have hok := h8.okL
  have hn := hok.1
  have hN := lenW hn
  intro m
  induction m with
  | zero =>
    intro k hk
    have hkn : k = p.list.length := by omega
    subst hkn
    rw [g5_L10_eq, intL_flC, Bool.true_and, chk_tt, decF (by simp), bsel_false, chk_tt, hN, Int.toNat_natCast, insL_len, Int.toNat_natCast, decT (by omega), decT (by omega), Bool.and_self, chk_tt, intL_len, ixA_len (by omega), decT (by omega), chk_tt, intL_set, ixA_set (Nat.le_refl _)]
    exact l5b h8 hq p.list.length 0 (by omega)
  | succ m ih =>
    intro k hk
    obtain ⟨x, hx⟩ := get_lt (show k < p.list.length by omega)
    have nxt := ih (k + 1) (by omega)
    have hik := idx_le 8 p.list k
    rw [idx_succ hx, ← ixA_set (by omega)] at nxt
    have h22 := c22 (p := p) (by rw [h8.w8]; exact hok) hx
    rw [h8.w8] at h22
    unfold prgP at h22
    rw [g5_L10_eq, intL_flC, Bool.true_and, chk_tt, decT (by simp; omega), bsel_true, chk_tt, hN, Int.toNat_natCast, Int.toNat_natCast, decT (show (0 : Int) ≤ (k : Int) by omega), decT (show (k : Int) < ((p.list.length + 1 : Nat) : Int) by omega), Bool.and_self, chk_tt, intL_len, ixA_len (by omega), decT (show k < p.list.length + 1 by omega), chk_tt, lget_bit (bAt (b := reachS p.list) (by simp; omega)), vB_mk, intL_set, intL_flC, wrs (k := k) (by omega), wrs (k := idxS 8 p.list k) (by omega)]
    simp only [Bool.and_self, chk_tt]
    unfold keepS at nxt
    have hRS : (reachS p.list).getD k false = RS p.list k := rfl
    rw [hRS]
    cases hr : RS p.list k with
    | false =>
      rw [hr] at nxt
      rw [bsel_false]
      simpa using nxt
    | true =>
      rw [hr, Bool.true_and] at nxt
      rw [bsel_true, clX_of h22, vB_mk]
      cases hd : DS 8 p.list k x with
      | true =>
        rw [hd] at nxt
        rw [Bool.not_true, bsel_false]
        simpa using nxt
      | false =>
        rw [hd] at nxt
        rw [Bool.not_false, bsel_true]
        simpa using nxt
theorem law5 (s : Int) (l : List (UInt8 × UInt8)) : SS.CC 5 [.agg [.int .u8 s, .sl false 2 (u2L l)]] [] = Ret (.bool true) := by
  rw [g5_eq, c10k, vB_mk, Bool.not_true, bsel_false, clX_of (c11 s l)]
  obtain ⟨p, hp⟩ : ∃ p, makeS s l = p := ⟨_, rfl⟩
  have h8 : p.ok8 := by rw [← hp]; exact make8 s l
  rw [hp]
  have hok := h8.okL
  have hn := hok.1
  have hN := lenW hn
  have h20 := c20 h8
  have h21 := c21 (p := p) (by rw [h8.w8]; exact hok)
  have h := l5a h8 (q := compP p) rfl p.list.length 0 (by omega)
  unfold prgP at h20 h21 ⊢
  rw [v29_mk, clX_of h20, w_29_3_mk, clX_of h21, vL_mk, hN, decT rfl, decT (by omega), decT (by omega), Bool.and_self, Bool.and_self, chk_tt, Int.toNat_natCast, rep_int0, ← ixA_zero]
  exact h
end Go.Proofs.YtiejgieiokmmfaaDoor

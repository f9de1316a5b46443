/-
  The incidence of a net.
-/
import Derived.Test.YtkkgfoknknehfaaDoorCT5
import Derived.Test.YtkkgfoknknehfaaDoorTTf
namespace Go.Proofs.YtkkgfoknknehfaaDoor.W
set_option linter.unusedVariables false
set_option linter.unusedSimpArgs false
set_option linter.unnecessarySimpa false
set_option linter.unusedSectionVars false
open Go.RowKit
set_option maxRecDepth 100000
set_option maxHeartbeats 1000000
def upd (C : Nat → Nat → Int) (q k : Nat) (v : Int) : Nat → Nat → Int := fun p t => if p = q ∧ t = k then v else C p t
theorem upd_self (T : Nat) (C : Nat → Nat → Int) (q k : Nat) (v : Int) : mv T (upd C q k v q) = mv T fun t => if t = k then v else C q t :=
  mv_congr fun t _ => by
    unfold upd
    by_cases e : t = k
    · rw [if_pos ⟨rfl, e⟩, if_pos e]
    · rw [if_neg fun h => e h.2, if_neg e]
theorem upd_ne (T : Nat) (C : Nat → Nat → Int) (q k : Nat) (v : Int) {p : Nat} (h : p ≠ q) : mv T (upd C q k v p) = mv T (C p) :=
  mv_congr fun t _ => if_neg fun e => h e.1
/-- The loops over transitions and arcs. -/
theorem inc_loop {n : Nt} (hn : NtOk n) {O : (Nat → Nat → Int) → R} {L12 : Int → (Nat → Nat → Int) → R} {L15 L20 : Tr → Int → (Nat → Nat → Int) → Int → R}
    (h12 : ∀ (k : Nat) (h : k < n.ts.length) C, L12 (k : Int) C = L15 n.ts[k] 0 C (k : Int))
    (h12e : ∀ C, L12 (n.ts.length : Int) C = O C)
    (h15 : ∀ (t : Tr), TrOk n.P t → ∀ k : Nat, k < n.ts.length → ∀ (i : Nat) (hi : i < t.inn.length) (C : Nat → Nat → Int), (∀ p t, -10 ≤ C p t ∧ C p t ≤ 10) → L15 t (i : Int) C (k : Int) = L15 t ((i + 1 : Nat) : Int) (upd C t.inn[i].1 k (C t.inn[i].1 k - t.inn[i].2)) (k : Int))
    (h15e : ∀ (t : Tr) C k, L15 t (t.inn.length : Int) C k = L20 t 0 C k)
    (h20 : ∀ (t : Tr), TrOk n.P t → ∀ k : Nat, k < n.ts.length → ∀ (i : Nat) (hi : i < t.out.length) (C : Nat → Nat → Int), (∀ p t, -10 ≤ C p t ∧ C p t ≤ 10) → L20 t (i : Int) C (k : Int) = L20 t ((i + 1 : Nat) : Int) (upd C t.out[i].1 k (C t.out[i].1 k + t.out[i].2)) (k : Int))
    (h20e : ∀ (t : Tr) C (k : Nat), k < n.ts.length → L20 t (t.out.length : Int) C (k : Int) = L12 ((k + 1 : Nat) : Int) C) :
    L12 0 (fun _ _ => 0) = O fun p k => n.D k p := by
  have hD : ∀ k p, -2 ≤ n.D k p ∧ n.D k p ≤ 2 := Nt.D_bd hn
  have key : ∀ k, k ≤ n.ts.length → L12 (k : Int) (fun p t => if t < k then n.D t p else 0) = O fun p k => n.D k p := by
    refine up_to ?_ fun k hk ih => ?_
    · rw [h12e]; congr 1; funext p t
      by_cases h : t < n.ts.length
      · rw [if_pos h]
      · rw [if_neg h]; unfold Nt.D; rw [List.getElem?_eq_none (by omega)]
    · have ht := hn.t _ (List.getElem_mem hk)
      have k2 : ∀ i, i ≤ n.ts[k].out.length → L20 n.ts[k] (i : Int) (fun p t => if t = k then wt (n.ts[k].out.take i) p - wt n.ts[k].inn p else if t < k then n.D t p else 0) (k : Int) = O fun p k => n.D k p := by
        refine up_to ?_ fun i hi ihi => ?_
        · rw [h20e _ _ _ hk, ← ih]; congr 1; funext p t
          by_cases e : t = k
          · subst e; rw [if_pos rfl, if_pos (by omega), List.take_length, Nt.D_eq hk]; rfl
          · rw [if_neg e]
            by_cases e2 : t < k
            · rw [if_pos e2, if_pos (by omega)]
            · rw [if_neg e2, if_neg (by omega)]
        · rw [h20 _ ht k hk i hi _ fun p t => ?_, ← ihi]
          · congr 1; funext p t; unfold upd
            by_cases e : p = n.ts[k].out[i].1 ∧ t = k
            · obtain ⟨rfl, rfl⟩ := e
              rw [if_pos ⟨rfl, rfl⟩, if_pos rfl, if_pos rfl, wt_take hi, if_pos rfl]; omega
            · rw [if_neg e]; dsimp only
              by_cases e2 : t = k
              · rw [if_pos e2, if_pos e2, wt_take hi, if_neg fun c => e ⟨c.symm, e2⟩]; omega
              · rw [if_neg e2, if_neg e2]
          · have b1 := wt_bd (ht.o.take i) p
            have b2 := wt_bd ht.i p
            have b3 := hD t p
            split
            · omega
            · split <;> omega
      have k1 : ∀ i, i ≤ n.ts[k].inn.length → L15 n.ts[k] (i : Int) (fun p t => if t = k then - wt (n.ts[k].inn.take i) p else if t < k then n.D t p else 0) (k : Int) = O fun p k => n.D k p := by
        refine up_to ?_ fun i hi ihi => ?_
        · rw [h15e, List.take_length, ← k2 0 (by omega)]; congr 1; funext p t
          rw [List.take_zero, wt, Int.zero_sub]
        · rw [h15 _ ht k hk i hi _ fun p t => ?_, ← ihi]
          · congr 1; funext p t; unfold upd
            by_cases e : p = n.ts[k].inn[i].1 ∧ t = k
            · obtain ⟨rfl, rfl⟩ := e
              rw [if_pos ⟨rfl, rfl⟩, if_pos rfl, if_pos rfl, wt_take hi, if_pos rfl]; omega
            · rw [if_neg e]; dsimp only
              by_cases e2 : t = k
              · rw [if_pos e2, if_pos e2, wt_take hi, if_neg fun c => e ⟨c.symm, e2⟩]; omega
              · rw [if_neg e2, if_neg e2]
          · have b1 := wt_bd (ht.i.take i) p
            have b3 := hD t p
            split
            · omega
            · split <;> omega
      rw [h12 k hk, ← k1 0 (by omega)]; congr 1; funext p t
      rw [List.take_zero, wt]
      by_cases e : t = k
      · rw [if_pos e, if_neg (by omega)]; rfl
      · rw [if_neg e]
  have := key 0 (by omega)
  rw [← this]; congr 1
/-- The rows of the incidence: places. -/
def incs (n : Nt) : List PV := (List.range n.P).map fun p => .sl false 1 (mv n.ts.length fun k => n.D k p)

theorem c39_1 {n : Nt} (hn : NtOk n) (hP : n.P = 1) : SS.CC 39 [A0 (vN n)] [] = some (.tuple [.sl false 1 (incs n), .int .i64 0], []) := by
  have hT := hn.t5
  have hN : vN n = ([.int .i64 (n.m0 0)], n.ts.map pT, ()) := by show (mv n.P n.m0, n.ts.map pT, ()) = _; rw [hP]; rfl
  have hd1 : decide (0 ≤ (n.ts.length : Int)) = true := decT (by omega)
  have hd2 : decide ((n.ts.length : Int) ≤ 1073741824) = true := decT (by omega)
  have h37 := c37 hn
  rw [hN] at h37 ⊢
  rw [g39_eq, G6_of h37, show ((0 : Int) != 0) = false from rfl, bsel_false]
  rw [g39_L7_eq]
  rw [g39_J8_eq]
  simp only [List.length_map, Int.toNat_natCast, mv_rep, mv_fl, decide_true, hd1, hd2, Bool.and_self, chk_true]
  rw [g39_L7b_eq]
  simp only [List.length_map, Int.toNat_natCast, mv_rep, mv_fl, decide_true, hd1, hd2, Bool.and_self, chk_true]
  rw [g39_J11_eq]
  simp only [List.length_map, Int.toNat_natCast, mv_rep]
  refine (inc_loop hn (O := fun C => some (.tuple [.sl false 1 [.sl false 1 (mv n.ts.length (C 0))], .int .i64 0], [])) (L12 := fun k C => g39_L12 (n.ts.map pT) k (mv n.ts.length (C 0))) (L15 := fun t i C k => g39_L15 (n.ts.map pT) (vT t) i (mv n.ts.length (C 0)) k k) (L20 := fun t i C k => g39_L20 (n.ts.map pT) (t.out.map pA) i (mv n.ts.length (C 0)) k k) ?_ ?_ ?_ ?_ ?_ ?_).trans ?_
  · intro k hk C
    rw [g39_L12_eq, List.length_map, decT (by omega), bsel_true]; simp only [mv_fl, Bool.and_self, chk_true]
    rw [g39_J13_eq, lgV_tr hk]
  · intro C
    rw [g39_L12_eq, List.length_map, decF (by omega), bsel_false]; simp only [mv_fl, mv_length, Int.toNat_natCast, Bool.and_self, chk_true, chunk1_mv, mv_flat]
    rw [decT (show n.ts.length * 1 ≤ n.ts.length by omega)]; rfl
  · intro t ht k hk i hi C hC
    obtain ⟨q, v, hw⟩ : ∃ (q : Nat) (v : Int), t.inn[i] = (q, v) := ⟨_, _, rfl⟩
    have ha := ht.i.b _ (List.getElem_mem hi)
    have hl := ht.i.len
    rw [hP] at hl
    rw [hw, hP] at ha
    have hc := hC q k
    rw [g39_L15_eq, List.length_map, decT (by omega), bsel_true]; simp only [mv_fl, Bool.and_self, chk_true]
    rw [g39_J16_eq, lgV_arc hi, hw, List.length_map]
    dsimp only at ha ⊢
    rw [Int.toNat_natCast, Int.toNat_natCast, Int.toNat_natCast, inB hk, decT (show (0 : Int) ≤ (q : Int) by omega), decT (show (q : Int) < 1 by omega), Bool.and_self, chk_true]
    have hq : q = 0 := by omega
    subst hq
    rw [show Nat.beq 0 0 = true from rfl, bsel_true, chk_true, nget_mv hk, vI_mk, chk_true, mv_length, decT hk, chk_true, wrap64 (by omega) (by omega), mv_set]; simp only [mv_fl, Bool.and_self, chk_true]; rw [wrs (by omega), upd_self]
  · intro t C k
    rw [g39_L15_eq, List.length_map, decF (by omega), bsel_false]; simp only [mv_fl, Bool.and_self, chk_true]
    rw [g39_J19_eq]
  · intro t ht k hk i hi C hC
    obtain ⟨q, v, hw⟩ : ∃ (q : Nat) (v : Int), t.out[i] = (q, v) := ⟨_, _, rfl⟩
    have ha := ht.o.b _ (List.getElem_mem hi)
    have hl := ht.o.len
    rw [hP] at hl
    rw [hw, hP] at ha
    have hc := hC q k
    rw [g39_L20_eq, List.length_map, decT (by omega), bsel_true]; simp only [mv_fl, Bool.and_self, chk_true]
    rw [g39_J21_eq, lgV_arc hi, hw, List.length_map]
    dsimp only at ha ⊢
    rw [Int.toNat_natCast, Int.toNat_natCast, Int.toNat_natCast, inB hk, decT (show (0 : Int) ≤ (q : Int) by omega), decT (show (q : Int) < 1 by omega), Bool.and_self, chk_true]
    have hq : q = 0 := by omega
    subst hq
    rw [show Nat.beq 0 0 = true from rfl, bsel_true, chk_true, nget_mv hk, vI_mk, chk_true, mv_length, decT hk, chk_true, wrap64 (by omega) (by omega), mv_set]; simp only [mv_fl, Bool.and_self, chk_true]; rw [wrs (by omega), upd_self]
  · intro t C k hk
    rw [g39_L20_eq, List.length_map, decF (by omega), bsel_false]; simp only [mv_fl, Bool.and_self, chk_true]
    rw [wrs (by omega)]
  · unfold incs; rw [hP]; rfl
theorem c39_2 {n : Nt} (hn : NtOk n) (hP : n.P = 2) : SS.CC 39 [A0 (vN n)] [] = some (.tuple [.sl false 1 (incs n), .int .i64 0], []) := by
  have hT := hn.t5
  have hN : vN n = ([.int .i64 (n.m0 0), .int .i64 (n.m0 1)], n.ts.map pT, ()) := by show (mv n.P n.m0, n.ts.map pT, ()) = _; rw [hP]; rfl
  have hd1 : decide (0 ≤ (n.ts.length : Int)) = true := decT (by omega)
  have hd2 : decide ((n.ts.length : Int) ≤ 1073741824) = true := decT (by omega)
  have h37 := c37 hn
  rw [hN] at h37 ⊢
  rw [g39_1i_eq, G6_of h37, show ((0 : Int) != 0) = false from rfl, bsel_false]
  rw [g39_1i_L7_eq]
  rw [g39_1i_J8_eq]
  simp only [List.length_map, Int.toNat_natCast, mv_rep, mv_fl, decide_true, hd1, hd2, Bool.and_self, chk_true]
  rw [g39_1i_L7b_eq]
  simp only [List.length_map, Int.toNat_natCast, mv_rep, mv_fl, decide_true, hd1, hd2, Bool.and_self, chk_true]
  rw [g39_1i_J8b_eq]
  simp only [List.length_map, Int.toNat_natCast, mv_rep, mv_fl, decide_true, hd1, hd2, Bool.and_self, chk_true]
  rw [g39_1i_L7c_eq]
  simp only [List.length_map, Int.toNat_natCast, mv_rep, mv_fl, decide_true, hd1, hd2, Bool.and_self, chk_true]
  rw [g39_1i_J11_eq]
  simp only [List.length_map, Int.toNat_natCast, mv_rep]
  refine (inc_loop hn (O := fun C => some (.tuple [.sl false 1 [.sl false 1 (mv n.ts.length (C 0)), .sl false 1 (mv n.ts.length (C 1))], .int .i64 0], [])) (L12 := fun k C => g39_1i_L12 (n.ts.map pT) k (mv n.ts.length (C 0)) (mv n.ts.length (C 1))) (L15 := fun t i C k => g39_1i_L15 (n.ts.map pT) (vT t) i (mv n.ts.length (C 1)) (mv n.ts.length (C 0)) k k) (L20 := fun t i C k => g39_1i_L20 (n.ts.map pT) (t.out.map pA) i (mv n.ts.length (C 1)) (mv n.ts.length (C 0)) k k) ?_ ?_ ?_ ?_ ?_ ?_).trans ?_
  · intro k hk C
    rw [g39_1i_L12_eq, List.length_map, decT (by omega), bsel_true]; simp only [mv_fl, Bool.and_self, chk_true]
    rw [g39_1i_J13_eq, lgV_tr hk]
  · intro C
    rw [g39_1i_L12_eq, List.length_map, decF (by omega), bsel_false]; simp only [mv_fl, mv_length, Int.toNat_natCast, Bool.and_self, chk_true, chunk1_mv, mv_flat]
    rw [decT (show n.ts.length * 1 ≤ n.ts.length by omega)]; rfl
  · intro t ht k hk i hi C hC
    obtain ⟨q, v, hw⟩ : ∃ (q : Nat) (v : Int), t.inn[i] = (q, v) := ⟨_, _, rfl⟩
    have ha := ht.i.b _ (List.getElem_mem hi)
    have hl := ht.i.len
    rw [hP] at hl
    rw [hw, hP] at ha
    have hc := hC q k
    rw [g39_1i_L15_eq, List.length_map, decT (by omega), bsel_true]; simp only [mv_fl, Bool.and_self, chk_true]
    rw [g39_1i_J16_eq, lgV_arc hi, hw, List.length_map]
    dsimp only at ha ⊢
    rw [Int.toNat_natCast, Int.toNat_natCast, Int.toNat_natCast, inB hk, decT (show (0 : Int) ≤ (q : Int) by omega), decT (show (q : Int) < 2 by omega), Bool.and_self, chk_true]
    have hq : q = 0 ∨ q = 1 := by omega
    rcases hq with rfl | rfl
    · rw [show Nat.beq 0 0 = true from rfl, bsel_true, chk_true, nget_mv hk, vI_mk, chk_true, mv_length, decT hk, chk_true, wrap64 (by omega) (by omega), mv_set]; simp only [mv_fl, Bool.and_self, chk_true]; rw [wrs (by omega), upd_self, upd_ne _ _ _ _ _ (show 1 ≠ 0 by omega)]
    · rw [show Nat.beq 1 0 = false from rfl, bsel_false, show Nat.beq 1 1 = true from rfl, bsel_true, chk_true, nget_mv hk, vI_mk, chk_true, mv_length, decT hk, chk_true, wrap64 (by omega) (by omega), mv_set]; simp only [mv_fl, Bool.and_self, chk_true]; rw [wrs (by omega), upd_self, upd_ne _ _ _ _ _ (show 0 ≠ 1 by omega)]
  · intro t C k
    rw [g39_1i_L15_eq, List.length_map, decF (by omega), bsel_false]; simp only [mv_fl, Bool.and_self, chk_true]
    rw [g39_1i_J19_eq]
  · intro t ht k hk i hi C hC
    obtain ⟨q, v, hw⟩ : ∃ (q : Nat) (v : Int), t.out[i] = (q, v) := ⟨_, _, rfl⟩
    have ha := ht.o.b _ (List.getElem_mem hi)
    have hl := ht.o.len
    rw [hP] at hl
    rw [hw, hP] at ha
    have hc := hC q k
    rw [g39_1i_L20_eq, List.length_map, decT (by omega), bsel_true]; simp only [mv_fl, Bool.and_self, chk_true]
    rw [g39_1i_J21_eq, lgV_arc hi, hw, List.length_map]
    dsimp only at ha ⊢
    rw [Int.toNat_natCast, Int.toNat_natCast, Int.toNat_natCast, inB hk, decT (show (0 : Int) ≤ (q : Int) by omega), decT (show (q : Int) < 2 by omega), Bool.and_self, chk_true]
    have hq : q = 0 ∨ q = 1 := by omega
    rcases hq with rfl | rfl
    · rw [show Nat.beq 0 0 = true from rfl, bsel_true, chk_true, nget_mv hk, vI_mk, chk_true, mv_length, decT hk, chk_true, wrap64 (by omega) (by omega), mv_set]; simp only [mv_fl, Bool.and_self, chk_true]; rw [wrs (by omega), upd_self, upd_ne _ _ _ _ _ (show 1 ≠ 0 by omega)]
    · rw [show Nat.beq 1 0 = false from rfl, bsel_false, show Nat.beq 1 1 = true from rfl, bsel_true, chk_true, nget_mv hk, vI_mk, chk_true, mv_length, decT hk, chk_true, wrap64 (by omega) (by omega), mv_set]; simp only [mv_fl, Bool.and_self, chk_true]; rw [wrs (by omega), upd_self, upd_ne _ _ _ _ _ (show 0 ≠ 1 by omega)]
  · intro t C k hk
    rw [g39_1i_L20_eq, List.length_map, decF (by omega), bsel_false]; simp only [mv_fl, Bool.and_self, chk_true]
    rw [wrs (by omega)]
  · unfold incs; rw [hP]; rfl
theorem c39_3 {n : Nt} (hn : NtOk n) (hP : n.P = 3) : SS.CC 39 [A0 (vN n)] [] = some (.tuple [.sl false 1 (incs n), .int .i64 0], []) := by
  have hT := hn.t5
  have hN : vN n = ([.int .i64 (n.m0 0), .int .i64 (n.m0 1), .int .i64 (n.m0 2)], n.ts.map pT, ()) := by show (mv n.P n.m0, n.ts.map pT, ()) = _; rw [hP]; rfl
  have hd1 : decide (0 ≤ (n.ts.length : Int)) = true := decT (by omega)
  have hd2 : decide ((n.ts.length : Int) ≤ 1073741824) = true := decT (by omega)
  have h37 := c37 hn
  rw [hN] at h37 ⊢
  rw [g39_2i_eq, G6_of h37, show ((0 : Int) != 0) = false from rfl, bsel_false]
  rw [g39_2i_L7_eq]
  rw [g39_2i_J8_eq]
  simp only [List.length_map, Int.toNat_natCast, mv_rep, mv_fl, decide_true, hd1, hd2, Bool.and_self, chk_true]
  rw [g39_2i_L7b_eq]
  simp only [List.length_map, Int.toNat_natCast, mv_rep, mv_fl, decide_true, hd1, hd2, Bool.and_self, chk_true]
  rw [g39_2i_J8b_eq]
  simp only [List.length_map, Int.toNat_natCast, mv_rep, mv_fl, decide_true, hd1, hd2, Bool.and_self, chk_true]
  rw [g39_2i_L7c_eq]
  simp only [List.length_map, Int.toNat_natCast, mv_rep, mv_fl, decide_true, hd1, hd2, Bool.and_self, chk_true]
  rw [g39_2i_J8c_eq]
  simp only [List.length_map, Int.toNat_natCast, mv_rep, mv_fl, decide_true, hd1, hd2, Bool.and_self, chk_true]
  rw [g39_2i_L7d_eq]
  simp only [List.length_map, Int.toNat_natCast, mv_rep, mv_fl, decide_true, hd1, hd2, Bool.and_self, chk_true]
  rw [g39_2i_J11_eq]
  simp only [List.length_map, Int.toNat_natCast, mv_rep]
  refine (inc_loop hn (O := fun C => some (.tuple [.sl false 1 [.sl false 1 (mv n.ts.length (C 0)), .sl false 1 (mv n.ts.length (C 1)), .sl false 1 (mv n.ts.length (C 2))], .int .i64 0], [])) (L12 := fun k C => g39_2i_L12 (n.ts.map pT) k (mv n.ts.length (C 0)) (mv n.ts.length (C 1)) (mv n.ts.length (C 2))) (L15 := fun t i C k => g39_2i_L15 (n.ts.map pT) (vT t) i (mv n.ts.length (C 2)) (mv n.ts.length (C 1)) (mv n.ts.length (C 0)) k k) (L20 := fun t i C k => g39_2i_L20 (n.ts.map pT) (t.out.map pA) i (mv n.ts.length (C 2)) (mv n.ts.length (C 1)) (mv n.ts.length (C 0)) k k) ?_ ?_ ?_ ?_ ?_ ?_).trans ?_
  · intro k hk C
    rw [g39_2i_L12_eq, List.length_map, decT (by omega), bsel_true]; simp only [mv_fl, Bool.and_self, chk_true]
    rw [g39_2i_J13_eq, lgV_tr hk]
  · intro C
    rw [g39_2i_L12_eq, List.length_map, decF (by omega), bsel_false]; simp only [mv_fl, mv_length, Int.toNat_natCast, Bool.and_self, chk_true, chunk1_mv, mv_flat]
    rw [decT (show n.ts.length * 1 ≤ n.ts.length by omega)]; rfl
  · intro t ht k hk i hi C hC
    obtain ⟨q, v, hw⟩ : ∃ (q : Nat) (v : Int), t.inn[i] = (q, v) := ⟨_, _, rfl⟩
    have ha := ht.i.b _ (List.getElem_mem hi)
    have hl := ht.i.len
    rw [hP] at hl
    rw [hw, hP] at ha
    have hc := hC q k
    rw [g39_2i_L15_eq, List.length_map, decT (by omega), bsel_true]; simp only [mv_fl, Bool.and_self, chk_true]
    rw [g39_2i_J16_eq, lgV_arc hi, hw, List.length_map]
    dsimp only at ha ⊢
    rw [Int.toNat_natCast, Int.toNat_natCast, Int.toNat_natCast, inB hk, decT (show (0 : Int) ≤ (q : Int) by omega), decT (show (q : Int) < 3 by omega), Bool.and_self, chk_true]
    have hq : q = 0 ∨ q = 1 ∨ q = 2 := by omega
    rcases hq with rfl | rfl | rfl
    · rw [show Nat.beq 0 0 = true from rfl, bsel_true, chk_true, nget_mv hk, vI_mk, chk_true, mv_length, decT hk, chk_true, wrap64 (by omega) (by omega), mv_set]; simp only [mv_fl, Bool.and_self, chk_true]; rw [wrs (by omega), upd_self, upd_ne _ _ _ _ _ (show 1 ≠ 0 by omega), upd_ne _ _ _ _ _ (show 2 ≠ 0 by omega)]
    · rw [show Nat.beq 1 0 = false from rfl, bsel_false, show Nat.beq 1 1 = true from rfl, bsel_true, chk_true, nget_mv hk, vI_mk, chk_true, mv_length, decT hk, chk_true, wrap64 (by omega) (by omega), mv_set]; simp only [mv_fl, Bool.and_self, chk_true]; rw [wrs (by omega), upd_self, upd_ne _ _ _ _ _ (show 0 ≠ 1 by omega), upd_ne _ _ _ _ _ (show 2 ≠ 1 by omega)]
    · rw [show Nat.beq 2 0 = false from rfl, bsel_false, show Nat.beq 2 1 = false from rfl, bsel_false, show Nat.beq 2 2 = true from rfl, bsel_true, chk_true, nget_mv hk, vI_mk, chk_true, mv_length, decT hk, chk_true, wrap64 (by omega) (by omega), mv_set]; simp only [mv_fl, Bool.and_self, chk_true]; rw [wrs (by omega), upd_self, upd_ne _ _ _ _ _ (show 0 ≠ 2 by omega), upd_ne _ _ _ _ _ (show 1 ≠ 2 by omega)]
  · intro t C k
    rw [g39_2i_L15_eq, List.length_map, decF (by omega), bsel_false]; simp only [mv_fl, Bool.and_self, chk_true]
    rw [g39_2i_J19_eq]
  · intro t ht k hk i hi C hC
    obtain ⟨q, v, hw⟩ : ∃ (q : Nat) (v : Int), t.out[i] = (q, v) := ⟨_, _, rfl⟩
    have ha := ht.o.b _ (List.getElem_mem hi)
    have hl := ht.o.len
    rw [hP] at hl
    rw [hw, hP] at ha
    have hc := hC q k
    rw [g39_2i_L20_eq, List.length_map, decT (by omega), bsel_true]; simp only [mv_fl, Bool.and_self, chk_true]
    rw [g39_2i_J21_eq, lgV_arc hi, hw, List.length_map]
    dsimp only at ha ⊢
    rw [Int.toNat_natCast, Int.toNat_natCast, Int.toNat_natCast, inB hk, decT (show (0 : Int) ≤ (q : Int) by omega), decT (show (q : Int) < 3 by omega), Bool.and_self, chk_true]
    have hq : q = 0 ∨ q = 1 ∨ q = 2 := by omega
    rcases hq with rfl | rfl | rfl
    · rw [show Nat.beq 0 0 = true from rfl, bsel_true, chk_true, nget_mv hk, vI_mk, chk_true, mv_length, decT hk, chk_true, wrap64 (by omega) (by omega), mv_set]; simp only [mv_fl, Bool.and_self, chk_true]; rw [wrs (by omega), upd_self, upd_ne _ _ _ _ _ (show 1 ≠ 0 by omega), upd_ne _ _ _ _ _ (show 2 ≠ 0 by omega)]
    · rw [show Nat.beq 1 0 = false from rfl, bsel_false, show Nat.beq 1 1 = true from rfl, bsel_true, chk_true, nget_mv hk, vI_mk, chk_true, mv_length, decT hk, chk_true, wrap64 (by omega) (by omega), mv_set]; simp only [mv_fl, Bool.and_self, chk_true]; rw [wrs (by omega), upd_self, upd_ne _ _ _ _ _ (show 0 ≠ 1 by omega), upd_ne _ _ _ _ _ (show 2 ≠ 1 by omega)]
    · rw [show Nat.beq 2 0 = false from rfl, bsel_false, show Nat.beq 2 1 = false from rfl, bsel_false, show Nat.beq 2 2 = true from rfl, bsel_true, chk_true, nget_mv hk, vI_mk, chk_true, mv_length, decT hk, chk_true, wrap64 (by omega) (by omega), mv_set]; simp only [mv_fl, Bool.and_self, chk_true]; rw [wrs (by omega), upd_self, upd_ne _ _ _ _ _ (show 0 ≠ 2 by omega), upd_ne _ _ _ _ _ (show 1 ≠ 2 by omega)]
  · intro t C k hk
    rw [g39_2i_L20_eq, List.length_map, decF (by omega), bsel_false]; simp only [mv_fl, Bool.and_self, chk_true]
    rw [wrs (by omega)]
  · unfold incs; rw [hP]; rfl
theorem c39_4 {n : Nt} (hn : NtOk n) (hP : n.P = 4) : SS.CC 39 [A0 (vN n)] [] = some (.tuple [.sl false 1 (incs n), .int .i64 0], []) := by
  have hT := hn.t5
  have hN : vN n = ([.int .i64 (n.m0 0), .int .i64 (n.m0 1), .int .i64 (n.m0 2), .int .i64 (n.m0 3)], n.ts.map pT, ()) := by show (mv n.P n.m0, n.ts.map pT, ()) = _; rw [hP]; rfl
  have hd1 : decide (0 ≤ (n.ts.length : Int)) = true := decT (by omega)
  have hd2 : decide ((n.ts.length : Int) ≤ 1073741824) = true := decT (by omega)
  have h37 := c37 hn
  rw [hN] at h37 ⊢
  rw [g39_3i_eq, G6_of h37, show ((0 : Int) != 0) = false from rfl, bsel_false]
  rw [g39_3i_L7_eq]
  rw [g39_3i_J8_eq]
  simp only [List.length_map, Int.toNat_natCast, mv_rep, mv_fl, decide_true, hd1, hd2, Bool.and_self, chk_true]
  rw [g39_3i_L7b_eq]
  simp only [List.length_map, Int.toNat_natCast, mv_rep, mv_fl, decide_true, hd1, hd2, Bool.and_self, chk_true]
  rw [g39_3i_J8b_eq]
  simp only [List.length_map, Int.toNat_natCast, mv_rep, mv_fl, decide_true, hd1, hd2, Bool.and_self, chk_true]
  rw [g39_3i_L7c_eq]
  simp only [List.length_map, Int.toNat_natCast, mv_rep, mv_fl, decide_true, hd1, hd2, Bool.and_self, chk_true]
  rw [g39_3i_J8c_eq]
  simp only [List.length_map, Int.toNat_natCast, mv_rep, mv_fl, decide_true, hd1, hd2, Bool.and_self, chk_true]
  rw [g39_3i_L7d_eq]
  simp only [List.length_map, Int.toNat_natCast, mv_rep, mv_fl, decide_true, hd1, hd2, Bool.and_self, chk_true]
  rw [g39_3i_J8d_eq]
  simp only [List.length_map, Int.toNat_natCast, mv_rep, mv_fl, decide_true, hd1, hd2, Bool.and_self, chk_true]
  rw [g39_3i_L7e_eq]
  simp only [List.length_map, Int.toNat_natCast, mv_rep, mv_fl, decide_true, hd1, hd2, Bool.and_self, chk_true]
  rw [g39_3i_J11_eq]
  simp only [List.length_map, Int.toNat_natCast, mv_rep]
  refine (inc_loop hn (O := fun C => some (.tuple [.sl false 1 [.sl false 1 (mv n.ts.length (C 0)), .sl false 1 (mv n.ts.length (C 1)), .sl false 1 (mv n.ts.length (C 2)), .sl false 1 (mv n.ts.length (C 3))], .int .i64 0], [])) (L12 := fun k C => g39_3i_L12 (n.ts.map pT) k (mv n.ts.length (C 0)) (mv n.ts.length (C 1)) (mv n.ts.length (C 2)) (mv n.ts.length (C 3))) (L15 := fun t i C k => g39_3i_L15 (n.ts.map pT) (vT t) i (mv n.ts.length (C 3)) (mv n.ts.length (C 2)) (mv n.ts.length (C 1)) (mv n.ts.length (C 0)) k k) (L20 := fun t i C k => g39_3i_L20 (n.ts.map pT) (t.out.map pA) i (mv n.ts.length (C 3)) (mv n.ts.length (C 2)) (mv n.ts.length (C 1)) (mv n.ts.length (C 0)) k k) ?_ ?_ ?_ ?_ ?_ ?_).trans ?_
  · intro k hk C
    rw [g39_3i_L12_eq, List.length_map, decT (by omega), bsel_true]; simp only [mv_fl, Bool.and_self, chk_true]
    rw [g39_3i_J13_eq, lgV_tr hk]
  · intro C
    rw [g39_3i_L12_eq, List.length_map, decF (by omega), bsel_false]; simp only [mv_fl, mv_length, Int.toNat_natCast, Bool.and_self, chk_true, chunk1_mv, mv_flat]
    rw [decT (show n.ts.length * 1 ≤ n.ts.length by omega)]; rfl
  · intro t ht k hk i hi C hC
    obtain ⟨q, v, hw⟩ : ∃ (q : Nat) (v : Int), t.inn[i] = (q, v) := ⟨_, _, rfl⟩
    have ha := ht.i.b _ (List.getElem_mem hi)
    have hl := ht.i.len
    rw [hP] at hl
    rw [hw, hP] at ha
    have hc := hC q k
    rw [g39_3i_L15_eq, List.length_map, decT (by omega), bsel_true]; simp only [mv_fl, Bool.and_self, chk_true]
    rw [g39_3i_J16_eq, lgV_arc hi, hw, List.length_map]
    dsimp only at ha ⊢
    rw [Int.toNat_natCast, Int.toNat_natCast, Int.toNat_natCast, inB hk, decT (show (0 : Int) ≤ (q : Int) by omega), decT (show (q : Int) < 4 by omega), Bool.and_self, chk_true]
    have hq : q = 0 ∨ q = 1 ∨ q = 2 ∨ q = 3 := by omega
    rcases hq with rfl | rfl | rfl | rfl
    · rw [show Nat.beq 0 0 = true from rfl, bsel_true, chk_true, nget_mv hk, vI_mk, chk_true, mv_length, decT hk, chk_true, wrap64 (by omega) (by omega), mv_set]; simp only [mv_fl, Bool.and_self, chk_true]; rw [wrs (by omega), upd_self, upd_ne _ _ _ _ _ (show 1 ≠ 0 by omega), upd_ne _ _ _ _ _ (show 2 ≠ 0 by omega), upd_ne _ _ _ _ _ (show 3 ≠ 0 by omega)]
    · rw [show Nat.beq 1 0 = false from rfl, bsel_false, show Nat.beq 1 1 = true from rfl, bsel_true, chk_true, nget_mv hk, vI_mk, chk_true, mv_length, decT hk, chk_true, wrap64 (by omega) (by omega), mv_set]; simp only [mv_fl, Bool.and_self, chk_true]; rw [wrs (by omega), upd_self, upd_ne _ _ _ _ _ (show 0 ≠ 1 by omega), upd_ne _ _ _ _ _ (show 2 ≠ 1 by omega), upd_ne _ _ _ _ _ (show 3 ≠ 1 by omega)]
    · rw [show Nat.beq 2 0 = false from rfl, bsel_false, show Nat.beq 2 1 = false from rfl, bsel_false, show Nat.beq 2 2 = true from rfl, bsel_true, chk_true, nget_mv hk, vI_mk, chk_true, mv_length, decT hk, chk_true, wrap64 (by omega) (by omega), mv_set]; simp only [mv_fl, Bool.and_self, chk_true]; rw [wrs (by omega), upd_self, upd_ne _ _ _ _ _ (show 0 ≠ 2 by omega), upd_ne _ _ _ _ _ (show 1 ≠ 2 by omega), upd_ne _ _ _ _ _ (show 3 ≠ 2 by omega)]
    · rw [show Nat.beq 3 0 = false from rfl, bsel_false, show Nat.beq 3 1 = false from rfl, bsel_false, show Nat.beq 3 2 = false from rfl, bsel_false, show Nat.beq 3 3 = true from rfl, bsel_true, chk_true, nget_mv hk, vI_mk, chk_true, mv_length, decT hk, chk_true, wrap64 (by omega) (by omega), mv_set]; simp only [mv_fl, Bool.and_self, chk_true]; rw [wrs (by omega), upd_self, upd_ne _ _ _ _ _ (show 0 ≠ 3 by omega), upd_ne _ _ _ _ _ (show 1 ≠ 3 by omega), upd_ne _ _ _ _ _ (show 2 ≠ 3 by omega)]
  · intro t C k
    rw [g39_3i_L15_eq, List.length_map, decF (by omega), bsel_false]; simp only [mv_fl, Bool.and_self, chk_true]
    rw [g39_3i_J19_eq]
  · intro t ht k hk i hi C hC
    obtain ⟨q, v, hw⟩ : ∃ (q : Nat) (v : Int), t.out[i] = (q, v) := ⟨_, _, rfl⟩
    have ha := ht.o.b _ (List.getElem_mem hi)
    have hl := ht.o.len
    rw [hP] at hl
    rw [hw, hP] at ha
    have hc := hC q k
    rw [g39_3i_L20_eq, List.length_map, decT (by omega), bsel_true]; simp only [mv_fl, Bool.and_self, chk_true]
    rw [g39_3i_J21_eq, lgV_arc hi, hw, List.length_map]
    dsimp only at ha ⊢
    rw [Int.toNat_natCast, Int.toNat_natCast, Int.toNat_natCast, inB hk, decT (show (0 : Int) ≤ (q : Int) by omega), decT (show (q : Int) < 4 by omega), Bool.and_self, chk_true]
    have hq : q = 0 ∨ q = 1 ∨ q = 2 ∨ q = 3 := by omega
    rcases hq with rfl | rfl | rfl | rfl
    · rw [show Nat.beq 0 0 = true from rfl, bsel_true, chk_true, nget_mv hk, vI_mk, chk_true, mv_length, decT hk, chk_true, wrap64 (by omega) (by omega), mv_set]; simp only [mv_fl, Bool.and_self, chk_true]; rw [wrs (by omega), upd_self, upd_ne _ _ _ _ _ (show 1 ≠ 0 by omega), upd_ne _ _ _ _ _ (show 2 ≠ 0 by omega), upd_ne _ _ _ _ _ (show 3 ≠ 0 by omega)]
    · rw [show Nat.beq 1 0 = false from rfl, bsel_false, show Nat.beq 1 1 = true from rfl, bsel_true, chk_true, nget_mv hk, vI_mk, chk_true, mv_length, decT hk, chk_true, wrap64 (by omega) (by omega), mv_set]; simp only [mv_fl, Bool.and_self, chk_true]; rw [wrs (by omega), upd_self, upd_ne _ _ _ _ _ (show 0 ≠ 1 by omega), upd_ne _ _ _ _ _ (show 2 ≠ 1 by omega), upd_ne _ _ _ _ _ (show 3 ≠ 1 by omega)]
    · rw [show Nat.beq 2 0 = false from rfl, bsel_false, show Nat.beq 2 1 = false from rfl, bsel_false, show Nat.beq 2 2 = true from rfl, bsel_true, chk_true, nget_mv hk, vI_mk, chk_true, mv_length, decT hk, chk_true, wrap64 (by omega) (by omega), mv_set]; simp only [mv_fl, Bool.and_self, chk_true]; rw [wrs (by omega), upd_self, upd_ne _ _ _ _ _ (show 0 ≠ 2 by omega), upd_ne _ _ _ _ _ (show 1 ≠ 2 by omega), upd_ne _ _ _ _ _ (show 3 ≠ 2 by omega)]
    · rw [show Nat.beq 3 0 = false from rfl, bsel_false, show Nat.beq 3 1 = false from rfl, bsel_false, show Nat.beq 3 2 = false from rfl, bsel_false, show Nat.beq 3 3 = true from rfl, bsel_true, chk_true, nget_mv hk, vI_mk, chk_true, mv_length, decT hk, chk_true, wrap64 (by omega) (by omega), mv_set]; simp only [mv_fl, Bool.and_self, chk_true]; rw [wrs (by omega), upd_self, upd_ne _ _ _ _ _ (show 0 ≠ 3 by omega), upd_ne _ _ _ _ _ (show 1 ≠ 3 by omega), upd_ne _ _ _ _ _ (show 2 ≠ 3 by omega)]
  · intro t C k hk
    rw [g39_3i_L20_eq, List.length_map, decF (by omega), bsel_false]; simp only [mv_fl, Bool.and_self, chk_true]
    rw [wrs (by omega)]
  · unfold incs; rw [hP]; rfl
theorem c39_5 {n : Nt} (hn : NtOk n) (hP : n.P = 5) : SS.CC 39 [A0 (vN n)] [] = some (.tuple [.sl false 1 (incs n), .int .i64 0], []) := by
  have hT := hn.t5
  have hN : vN n = ([.int .i64 (n.m0 0), .int .i64 (n.m0 1), .int .i64 (n.m0 2), .int .i64 (n.m0 3), .int .i64 (n.m0 4)], n.ts.map pT, ()) := by show (mv n.P n.m0, n.ts.map pT, ()) = _; rw [hP]; rfl
  have hd1 : decide (0 ≤ (n.ts.length : Int)) = true := decT (by omega)
  have hd2 : decide ((n.ts.length : Int) ≤ 1073741824) = true := decT (by omega)
  have h37 := c37 hn
  rw [hN] at h37 ⊢
  rw [g39_4i_eq, G6_of h37, show ((0 : Int) != 0) = false from rfl, bsel_false]
  rw [g39_4i_L7_eq]
  rw [g39_4i_J8_eq]
  simp only [List.length_map, Int.toNat_natCast, mv_rep, mv_fl, decide_true, hd1, hd2, Bool.and_self, chk_true]
  rw [g39_4i_L7b_eq]
  simp only [List.length_map, Int.toNat_natCast, mv_rep, mv_fl, decide_true, hd1, hd2, Bool.and_self, chk_true]
  rw [g39_4i_J8b_eq]
  simp only [List.length_map, Int.toNat_natCast, mv_rep, mv_fl, decide_true, hd1, hd2, Bool.and_self, chk_true]
  rw [g39_4i_L7c_eq]
  simp only [List.length_map, Int.toNat_natCast, mv_rep, mv_fl, decide_true, hd1, hd2, Bool.and_self, chk_true]
  rw [g39_4i_J8c_eq]
  simp only [List.length_map, Int.toNat_natCast, mv_rep, mv_fl, decide_true, hd1, hd2, Bool.and_self, chk_true]
  rw [g39_4i_L7d_eq]
  simp only [List.length_map, Int.toNat_natCast, mv_rep, mv_fl, decide_true, hd1, hd2, Bool.and_self, chk_true]
  rw [g39_4i_J8d_eq]
  simp only [List.length_map, Int.toNat_natCast, mv_rep, mv_fl, decide_true, hd1, hd2, Bool.and_self, chk_true]
  rw [g39_4i_L7e_eq]
  simp only [List.length_map, Int.toNat_natCast, mv_rep, mv_fl, decide_true, hd1, hd2, Bool.and_self, chk_true]
  rw [g39_4i_J8e_eq]
  simp only [List.length_map, Int.toNat_natCast, mv_rep, mv_fl, decide_true, hd1, hd2, Bool.and_self, chk_true]
  rw [g39_4i_L7f_eq]
  simp only [List.length_map, Int.toNat_natCast, mv_rep, mv_fl, decide_true, hd1, hd2, Bool.and_self, chk_true]
  rw [g39_4i_J11_eq]
  simp only [List.length_map, Int.toNat_natCast, mv_rep]
  refine (inc_loop hn (O := fun C => some (.tuple [.sl false 1 [.sl false 1 (mv n.ts.length (C 0)), .sl false 1 (mv n.ts.length (C 1)), .sl false 1 (mv n.ts.length (C 2)), .sl false 1 (mv n.ts.length (C 3)), .sl false 1 (mv n.ts.length (C 4))], .int .i64 0], [])) (L12 := fun k C => g39_4i_L12 (n.ts.map pT) k (mv n.ts.length (C 0)) (mv n.ts.length (C 1)) (mv n.ts.length (C 2)) (mv n.ts.length (C 3)) (mv n.ts.length (C 4))) (L15 := fun t i C k => g39_4i_L15 (n.ts.map pT) (vT t) i (mv n.ts.length (C 4)) (mv n.ts.length (C 3)) (mv n.ts.length (C 2)) (mv n.ts.length (C 1)) (mv n.ts.length (C 0)) k k) (L20 := fun t i C k => g39_4i_L20 (n.ts.map pT) (t.out.map pA) i (mv n.ts.length (C 4)) (mv n.ts.length (C 3)) (mv n.ts.length (C 2)) (mv n.ts.length (C 1)) (mv n.ts.length (C 0)) k k) ?_ ?_ ?_ ?_ ?_ ?_).trans ?_
  · intro k hk C
    rw [g39_4i_L12_eq, List.length_map, decT (by omega), bsel_true]; simp only [mv_fl, Bool.and_self, chk_true]
    rw [g39_4i_J13_eq, lgV_tr hk]
  · intro C
    rw [g39_4i_L12_eq, List.length_map, decF (by omega), bsel_false]; simp only [mv_fl, mv_length, Int.toNat_natCast, Bool.and_self, chk_true, chunk1_mv, mv_flat]
    rw [decT (show n.ts.length * 1 ≤ n.ts.length by omega)]; rfl
  · intro t ht k hk i hi C hC
    obtain ⟨q, v, hw⟩ : ∃ (q : Nat) (v : Int), t.inn[i] = (q, v) := ⟨_, _, rfl⟩
    have ha := ht.i.b _ (List.getElem_mem hi)
    have hl := ht.i.len
    rw [hP] at hl
    rw [hw, hP] at ha
    have hc := hC q k
    rw [g39_4i_L15_eq, List.length_map, decT (by omega), bsel_true]; simp only [mv_fl, Bool.and_self, chk_true]
    rw [g39_4i_J16_eq, lgV_arc hi, hw, List.length_map]
    dsimp only at ha ⊢
    rw [Int.toNat_natCast, Int.toNat_natCast, Int.toNat_natCast, inB hk, decT (show (0 : Int) ≤ (q : Int) by omega), decT (show (q : Int) < 5 by omega), Bool.and_self, chk_true]
    have hq : q = 0 ∨ q = 1 ∨ q = 2 ∨ q = 3 ∨ q = 4 := by omega
    rcases hq with rfl | rfl | rfl | rfl | rfl
    · rw [show Nat.beq 0 0 = true from rfl, bsel_true, chk_true, nget_mv hk, vI_mk, chk_true, mv_length, decT hk, chk_true, wrap64 (by omega) (by omega), mv_set]; simp only [mv_fl, Bool.and_self, chk_true]; rw [wrs (by omega), upd_self, upd_ne _ _ _ _ _ (show 1 ≠ 0 by omega), upd_ne _ _ _ _ _ (show 2 ≠ 0 by omega), upd_ne _ _ _ _ _ (show 3 ≠ 0 by omega), upd_ne _ _ _ _ _ (show 4 ≠ 0 by omega)]
    · rw [show Nat.beq 1 0 = false from rfl, bsel_false, show Nat.beq 1 1 = true from rfl, bsel_true, chk_true, nget_mv hk, vI_mk, chk_true, mv_length, decT hk, chk_true, wrap64 (by omega) (by omega), mv_set]; simp only [mv_fl, Bool.and_self, chk_true]; rw [wrs (by omega), upd_self, upd_ne _ _ _ _ _ (show 0 ≠ 1 by omega), upd_ne _ _ _ _ _ (show 2 ≠ 1 by omega), upd_ne _ _ _ _ _ (show 3 ≠ 1 by omega), upd_ne _ _ _ _ _ (show 4 ≠ 1 by omega)]
    · rw [show Nat.beq 2 0 = false from rfl, bsel_false, show Nat.beq 2 1 = false from rfl, bsel_false, show Nat.beq 2 2 = true from rfl, bsel_true, chk_true, nget_mv hk, vI_mk, chk_true, mv_length, decT hk, chk_true, wrap64 (by omega) (by omega), mv_set]; simp only [mv_fl, Bool.and_self, chk_true]; rw [wrs (by omega), upd_self, upd_ne _ _ _ _ _ (show 0 ≠ 2 by omega), upd_ne _ _ _ _ _ (show 1 ≠ 2 by omega), upd_ne _ _ _ _ _ (show 3 ≠ 2 by omega), upd_ne _ _ _ _ _ (show 4 ≠ 2 by omega)]
    · rw [show Nat.beq 3 0 = false from rfl, bsel_false, show Nat.beq 3 1 = false from rfl, bsel_false, show Nat.beq 3 2 = false from rfl, bsel_false, show Nat.beq 3 3 = true from rfl, bsel_true, chk_true, nget_mv hk, vI_mk, chk_true, mv_length, decT hk, chk_true, wrap64 (by omega) (by omega), mv_set]; simp only [mv_fl, Bool.and_self, chk_true]; rw [wrs (by omega), upd_self, upd_ne _ _ _ _ _ (show 0 ≠ 3 by omega), upd_ne _ _ _ _ _ (show 1 ≠ 3 by omega), upd_ne _ _ _ _ _ (show 2 ≠ 3 by omega), upd_ne _ _ _ _ _ (show 4 ≠ 3 by omega)]
    · rw [show Nat.beq 4 0 = false from rfl, bsel_false, show Nat.beq 4 1 = false from rfl, bsel_false, show Nat.beq 4 2 = false from rfl, bsel_false, show Nat.beq 4 3 = false from rfl, bsel_false, show Nat.beq 4 4 = true from rfl, bsel_true, chk_true, nget_mv hk, vI_mk, chk_true, mv_length, decT hk, chk_true, wrap64 (by omega) (by omega), mv_set]; simp only [mv_fl, Bool.and_self, chk_true]; rw [wrs (by omega), upd_self, upd_ne _ _ _ _ _ (show 0 ≠ 4 by omega), upd_ne _ _ _ _ _ (show 1 ≠ 4 by omega), upd_ne _ _ _ _ _ (show 2 ≠ 4 by omega), upd_ne _ _ _ _ _ (show 3 ≠ 4 by omega)]
  · intro t C k
    rw [g39_4i_L15_eq, List.length_map, decF (by omega), bsel_false]; simp only [mv_fl, Bool.and_self, chk_true]
    rw [g39_4i_J19_eq]
  · intro t ht k hk i hi C hC
    obtain ⟨q, v, hw⟩ : ∃ (q : Nat) (v : Int), t.out[i] = (q, v) := ⟨_, _, rfl⟩
    have ha := ht.o.b _ (List.getElem_mem hi)
    have hl := ht.o.len
    rw [hP] at hl
    rw [hw, hP] at ha
    have hc := hC q k
    rw [g39_4i_L20_eq, List.length_map, decT (by omega), bsel_true]; simp only [mv_fl, Bool.and_self, chk_true]
    rw [g39_4i_J21_eq, lgV_arc hi, hw, List.length_map]
    dsimp only at ha ⊢
    rw [Int.toNat_natCast, Int.toNat_natCast, Int.toNat_natCast, inB hk, decT (show (0 : Int) ≤ (q : Int) by omega), decT (show (q : Int) < 5 by omega), Bool.and_self, chk_true]
    have hq : q = 0 ∨ q = 1 ∨ q = 2 ∨ q = 3 ∨ q = 4 := by omega
    rcases hq with rfl | rfl | rfl | rfl | rfl
    · rw [show Nat.beq 0 0 = true from rfl, bsel_true, chk_true, nget_mv hk, vI_mk, chk_true, mv_length, decT hk, chk_true, wrap64 (by omega) (by omega), mv_set]; simp only [mv_fl, Bool.and_self, chk_true]; rw [wrs (by omega), upd_self, upd_ne _ _ _ _ _ (show 1 ≠ 0 by omega), upd_ne _ _ _ _ _ (show 2 ≠ 0 by omega), upd_ne _ _ _ _ _ (show 3 ≠ 0 by omega), upd_ne _ _ _ _ _ (show 4 ≠ 0 by omega)]
    · rw [show Nat.beq 1 0 = false from rfl, bsel_false, show Nat.beq 1 1 = true from rfl, bsel_true, chk_true, nget_mv hk, vI_mk, chk_true, mv_length, decT hk, chk_true, wrap64 (by omega) (by omega), mv_set]; simp only [mv_fl, Bool.and_self, chk_true]; rw [wrs (by omega), upd_self, upd_ne _ _ _ _ _ (show 0 ≠ 1 by omega), upd_ne _ _ _ _ _ (show 2 ≠ 1 by omega), upd_ne _ _ _ _ _ (show 3 ≠ 1 by omega), upd_ne _ _ _ _ _ (show 4 ≠ 1 by omega)]
    · rw [show Nat.beq 2 0 = false from rfl, bsel_false, show Nat.beq 2 1 = false from rfl, bsel_false, show Nat.beq 2 2 = true from rfl, bsel_true, chk_true, nget_mv hk, vI_mk, chk_true, mv_length, decT hk, chk_true, wrap64 (by omega) (by omega), mv_set]; simp only [mv_fl, Bool.and_self, chk_true]; rw [wrs (by omega), upd_self, upd_ne _ _ _ _ _ (show 0 ≠ 2 by omega), upd_ne _ _ _ _ _ (show 1 ≠ 2 by omega), upd_ne _ _ _ _ _ (show 3 ≠ 2 by omega), upd_ne _ _ _ _ _ (show 4 ≠ 2 by omega)]
    · rw [show Nat.beq 3 0 = false from rfl, bsel_false, show Nat.beq 3 1 = false from rfl, bsel_false, show Nat.beq 3 2 = false from rfl, bsel_false, show Nat.beq 3 3 = true from rfl, bsel_true, chk_true, nget_mv hk, vI_mk, chk_true, mv_length, decT hk, chk_true, wrap64 (by omega) (by omega), mv_set]; simp only [mv_fl, Bool.and_self, chk_true]; rw [wrs (by omega), upd_self, upd_ne _ _ _ _ _ (show 0 ≠ 3 by omega), upd_ne _ _ _ _ _ (show 1 ≠ 3 by omega), upd_ne _ _ _ _ _ (show 2 ≠ 3 by omega), upd_ne _ _ _ _ _ (show 4 ≠ 3 by omega)]
    · rw [show Nat.beq 4 0 = false from rfl, bsel_false, show Nat.beq 4 1 = false from rfl, bsel_false, show Nat.beq 4 2 = false from rfl, bsel_false, show Nat.beq 4 3 = false from rfl, bsel_false, show Nat.beq 4 4 = true from rfl, bsel_true, chk_true, nget_mv hk, vI_mk, chk_true, mv_length, decT hk, chk_true, wrap64 (by omega) (by omega), mv_set]; simp only [mv_fl, Bool.and_self, chk_true]; rw [wrs (by omega), upd_self, upd_ne _ _ _ _ _ (show 0 ≠ 4 by omega), upd_ne _ _ _ _ _ (show 1 ≠ 4 by omega), upd_ne _ _ _ _ _ (show 2 ≠ 4 by omega), upd_ne _ _ _ _ _ (show 3 ≠ 4 by omega)]
  · intro t C k hk
    rw [g39_4i_L20_eq, List.length_map, decF (by omega), bsel_false]; simp only [mv_fl, Bool.and_self, chk_true]
    rw [wrs (by omega)]
  · unfold incs; rw [hP]; rfl
theorem c39 {n : Nt} (hn : NtOk n) : SS.CC 39 [A0 (vN n)] [] = some (.tuple [.sl false 1 (incs n), .int .i64 0], []) := by
  have h0 := hn.p0
  have h5 := hn.p5
  have : n.P = 1 ∨ n.P = 2 ∨ n.P = 3 ∨ n.P = 4 ∨ n.P = 5 := by omega
  rcases this with h | h | h | h | h
  · exact c39_1 hn h
  · exact c39_2 hn h
  · exact c39_3 hn h
  · exact c39_4 hn h
  · exact c39_5 hn h
end Go.Proofs.YtkkgfoknknehfaaDoor.W

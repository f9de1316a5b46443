/-
  The table of a net.
-/
import Derived.Test.YtkkgfoknknehfaaDoorCT12
import Derived.Test.YtkkgfoknknehfaaDoorCT11
import Derived.Test.YtkkgfoknknehfaaDoorTTg
namespace Go.Proofs.YtkkgfoknknehfaaDoor.W
set_option linter.unusedVariables false
set_option linter.unusedSimpArgs false
set_option linter.unnecessarySimpa false
set_option linter.unusedSectionVars false
open Go.RowKit
set_option maxRecDepth 100000
set_option maxHeartbeats 1000000
theorem chunk10 (m : Nat) (C : Nat → Nat → Int) : chunkP 10 (rws m C) m = rw10 m C := by
  show (List.range m).map (fun j => PV.agg ((((rws m C).drop (j * 10)).take 10).map PV.un)) = _
  unfold rw10
  apply List.map_congr_left
  intro j hj
  have h := rws_row C (List.mem_range.1 hj)
  rw [Nat.zero_add] at h
  rw [h, mv_un]; rfl
theorem rws_flat (m : Nat) (C : Nat → Nat → Int) : ((rws m C).all fun p => p.one && p.flat) = true := mv_flat _ _
theorem zrows (m : Nat) : (List.replicate m ([.int .i64 0, .int .i64 0, .int .i64 0, .int .i64 0, .int .i64 0, .int .i64 0, .int .i64 0, .int .i64 0, .int .i64 0, .int .i64 0] : List PV)).flatten = rws m fun _ _ => 0 := by
  unfold rws
  rw [← mv_rep]
  show (List.replicate m (List.replicate 10 (iP 0))).flatten = _
  exact List.flatten_replicate_replicate
theorem tb_loop {P T : Nat} {D : Nat → Nat → Int} {O : (Nat → Nat → Int) → R} {L11 : Int → (Nat → Nat → Int) → R} {L14 : Int → (Nat → Nat → Int) → Int → R} {U : Nat → Nat → Nat → Nat → Bool} {pp kk : Nat → Nat → Nat}
    (hU : ∀ i d p k, U i d p k = true ↔ pp i d = p ∧ kk i d = k)
    (h11 : ∀ (p : Nat), p < P → ∀ C, L11 (p : Int) C = L14 0 C (p : Int))
    (h11e : ∀ C, L11 (P : Int) C = O C)
    (h14 : ∀ (p : Nat), p < P → ∀ (k : Nat), k < T → ∀ C, L14 (k : Int) C (p : Int) = L14 ((k + 1 : Nat) : Int) (fun i d => if U i d p k = true then D k p else C i d) (p : Int))
    (h14e : ∀ (p : Nat), p < P → ∀ C, L14 (T : Int) C (p : Int) = L11 ((p + 1 : Nat) : Int) C) :
    L11 0 (fun _ _ => 0) = O fun i d => if pp i d < P ∧ kk i d < T then D (kk i d) (pp i d) else 0 := by
  have k1 : ∀ p, p ≤ P → L11 (p : Int) (fun i d => if pp i d < p ∧ kk i d < T then D (kk i d) (pp i d) else 0) = O fun i d => if pp i d < P ∧ kk i d < T then D (kk i d) (pp i d) else 0 := by
    refine up_to (h11e _) fun p hp ih => ?_
    have k2 : ∀ k, k ≤ T → L14 (k : Int) (fun i d => if (pp i d < p ∧ kk i d < T) ∨ (pp i d = p ∧ kk i d < k) then D (kk i d) (pp i d) else 0) (p : Int) = O fun i d => if pp i d < P ∧ kk i d < T then D (kk i d) (pp i d) else 0 := by
      refine up_to ?_ fun k hk ihk => ?_
      · rw [h14e p hp, ← ih]; congr 1; funext i d
        by_cases e : pp i d < p + 1 ∧ kk i d < T
        · rw [if_pos e, if_pos (by omega)]
        · rw [if_neg e, if_neg (by omega)]
      · rw [h14 p hp k hk, ← ihk]; congr 1; funext i d
        by_cases e : U i d p k = true
        · obtain ⟨e1, e2⟩ := (hU _ _ _ _).1 e
          rw [if_pos e, if_pos (by omega), e1, e2]
        · have e3 : ¬ (pp i d = p ∧ kk i d = k) := fun c => e ((hU _ _ _ _).2 c)
          rw [if_neg e]
          by_cases e4 : (pp i d < p ∧ kk i d < T) ∨ (pp i d = p ∧ kk i d < k)
          · rw [if_pos e4, if_pos (by omega)]
          · rw [if_neg e4, if_neg (by omega)]
    rw [h11 p hp, ← k2 0 (by omega)]; congr 1; funext i d
    by_cases e : pp i d < p ∧ kk i d < T
    · rw [if_pos e, if_pos (.inl e)]
    · rw [if_neg e, if_neg (by omega)]
  rw [← k1 0 (by omega)]; congr 1
def M1 (n : Nt) : Nat → Nat → Int := fun k p => if p < n.P ∧ k < n.ts.length then n.D k p else 0
def M2 (n : Nt) : Nat → Nat → Int := fun p k => if p < n.P ∧ k < n.ts.length then n.D k p else 0
theorem M1_bd {n : Nt} (hn : NtOk n) (k p : Nat) : -2 ≤ M1 n k p ∧ M1 n k p ≤ 2 := by
  unfold M1; split
  · exact Nt.D_bd hn k p
  · omega
theorem M2_bd {n : Nt} (hn : NtOk n) (p k : Nat) : -2 ≤ M2 n p k ∧ M2 n p k ≤ 2 := by
  unfold M2; split
  · exact Nt.D_bd hn k p
  · omega
theorem lg_incs {n : Nt} {p : Nat} (h : p < n.P) {K : PV → R} : lgetX (incs n) (p : Int) K = K (.sl false 1 (mv n.ts.length fun k => n.D k p)) := by
  unfold incs
  rw [lget_map (by simpa using h), List.getElem_range]
@[simp] theorem incs_length (n : Nt) : (incs n).length = n.P := by simp [incs]
theorem flP {n m : Nat} (C : Nat → Nat → Int) : (decide (m * 10 ≤ (rws m C).length) && decide (0 < 10) && (rws m C).all (fun p => p.one && p.flat) && true) = true := by
  rw [rws_length, decT (Nat.le_refl _), rws_flat]; rfl
section
variable {n : Nt} (hn : NtOk n)
include hn

theorem t18 : g18_L11 2 (incs n) (rws n.ts.length fun _ _ => 0) ((n.ts.length : Int), n.P, ()) (rws n.P (fun _ _ => 0)) 0 = some (.tuple [A29 (vTab n.ts.length n.P (M2 n)), .int .i64 0], []) := by
  have hp := hn.p5
  have ht := hn.t5
  refine (tb_loop (P := n.P) (T := n.ts.length) (D := n.D) (O := fun C => some (.tuple [A29 (vTab n.ts.length n.P C), .int .i64 0], [])) (L11 := fun p C => g18_L11 2 (incs n) (rws n.ts.length fun _ _ => 0) ((n.ts.length : Int), n.P, ()) (rws n.P (C)) p) (L14 := fun k C p => g18_L14 2 (incs n) (mv n.ts.length fun k => n.D k (p).toNat) (rws n.ts.length fun _ _ => 0) ((n.ts.length : Int), n.P, ()) (rws n.P (C)) k p p) (U := fun i d p k => (i == p && d == k)) (pp := fun i d => i) (kk := fun i d => d) ?_ ?_ ?_ ?_ ?_).trans ?_
  · intro i d p k; simp only [Bool.and_eq_true, beq_iff_eq]
  · intro p hp1 C
    rw [g18_L11_eq, incs_length, decT (by omega), bsel_true]; simp only [rws_fl, Bool.and_self, chk_true]
    rw [g18_J12_eq, lg_incs hp1, vL_mk, Int.toNat_natCast]
  · intro C
    rw [g18_L11_eq, incs_length, decF (by omega), bsel_false, flP (n := 0), chunk10]; simp only [rws_fl, Bool.and_self, chk_true]
  · intro p hp1 k hk C
    rw [g18_L14_eq, mv_length, decT (by omega), bsel_true]; simp only [rws_fl, Bool.and_self, chk_true]
    rw [g18_J15_eq, lget_mv hk, vI_mk, show ((2 : Int) == 1) = false from rfl, bsel_false, inB hp1, chk_true, in10 (by omega), chk_true, Int.toNat_natCast, Int.toNat_natCast, rws_length, decT (show 0 + p * 10 + k * 1 < n.P * 10 by omega), chk_true, rws_set _ _ (by omega)]; simp only [rws_fl, Bool.and_self, chk_true]
    rw [wrs (by omega)]
    congr 1
    apply rws_congr; intro i _ d _
    by_cases e : i = p ∧ d = k
    · rw [if_pos e, if_pos (by simpa using e)]
    · rw [if_neg e, if_neg (by simpa using e)]
  · intro p hp1 C
    rw [g18_L14_eq, mv_length, decF (by omega), bsel_false]; simp only [rws_fl, Bool.and_self, chk_true]
    rw [wrs (by omega)]
  · rfl
theorem t18b : g18_L11b 1 (incs n) (rws n.ts.length (fun _ _ => 0)) ((n.P : Int), n.ts.length, ()) 0 = some (.tuple [A29 (vTab n.P n.ts.length (M1 n)), .int .i64 0], []) := by
  have hp := hn.p5
  have ht := hn.t5
  refine (tb_loop (P := n.P) (T := n.ts.length) (D := n.D) (O := fun C => some (.tuple [A29 (vTab n.P n.ts.length C), .int .i64 0], [])) (L11 := fun p C => g18_L11b 1 (incs n) (rws n.ts.length (C)) ((n.P : Int), n.ts.length, ()) p) (L14 := fun k C p => g18_L14b 1 (incs n) (mv n.ts.length fun k => n.D k (p).toNat) (rws n.ts.length (C)) ((n.P : Int), n.ts.length, ()) k p p) (U := fun i d p k => (i == k && d == p)) (pp := fun i d => d) (kk := fun i d => i) ?_ ?_ ?_ ?_ ?_).trans ?_
  · intro i d p k; simp only [Bool.and_eq_true, beq_iff_eq]; exact ⟨fun h => ⟨h.2, h.1⟩, fun h => ⟨h.2, h.1⟩⟩
  · intro p hp1 C
    rw [g18_L11b_eq, incs_length, decT (by omega), bsel_true]; simp only [rws_fl, Bool.and_self, chk_true]
    rw [g18_J12b_eq, lg_incs hp1, vL_mk, Int.toNat_natCast]
  · intro C
    rw [g18_L11b_eq, incs_length, decF (by omega), bsel_false, flP (n := 0), chunk10]; simp only [rws_fl, Bool.and_self, chk_true]
  · intro p hp1 k hk C
    rw [g18_L14b_eq, mv_length, decT (by omega), bsel_true]; simp only [rws_fl, Bool.and_self, chk_true]
    rw [g18_J15b_eq, lget_mv hk, vI_mk, show ((1 : Int) == 1) = true from rfl, bsel_true, inB hk, chk_true, in10 (by omega), chk_true, Int.toNat_natCast, Int.toNat_natCast, rws_length, decT (show 0 + k * 10 + p * 1 < n.ts.length * 10 by omega), chk_true, rws_set _ _ (by omega)]; simp only [rws_fl, Bool.and_self, chk_true]
    rw [wrs (by omega)]
    congr 1
    apply rws_congr; intro i _ d _
    by_cases e : i = k ∧ d = p
    · rw [if_pos e, if_pos (by simpa using e)]
    · rw [if_neg e, if_neg (by simpa using e)]
  · intro p hp1 C
    rw [g18_L14b_eq, mv_length, decF (by omega), bsel_false]; simp only [rws_fl, Bool.and_self, chk_true]
    rw [wrs (by omega)]
  · rfl
theorem t18c : g18_L11c 2 (incs n) ((n.ts.length : Int), n.P, ()) (rws n.ts.length fun _ _ => 0) (rws n.P (fun _ _ => 0)) 0 = some (.tuple [A29 (vTab n.ts.length n.P (M2 n)), .int .i64 0], []) := by
  have hp := hn.p5
  have ht := hn.t5
  refine (tb_loop (P := n.P) (T := n.ts.length) (D := n.D) (O := fun C => some (.tuple [A29 (vTab n.ts.length n.P C), .int .i64 0], [])) (L11 := fun p C => g18_L11c 2 (incs n) ((n.ts.length : Int), n.P, ()) (rws n.ts.length fun _ _ => 0) (rws n.P (C)) p) (L14 := fun k C p => g18_L14c 2 (incs n) (mv n.ts.length fun k => n.D k (p).toNat) ((n.ts.length : Int), n.P, ()) (rws n.ts.length fun _ _ => 0) (rws n.P (C)) k p p) (U := fun i d p k => (i == p && d == k)) (pp := fun i d => i) (kk := fun i d => d) ?_ ?_ ?_ ?_ ?_).trans ?_
  · intro i d p k; simp only [Bool.and_eq_true, beq_iff_eq]
  · intro p hp1 C
    rw [g18_L11c_eq, incs_length, decT (by omega), bsel_true]; simp only [rws_fl, Bool.and_self, chk_true]
    rw [g18_J12c_eq, lg_incs hp1, vL_mk, Int.toNat_natCast]
  · intro C
    rw [g18_L11c_eq, incs_length, decF (by omega), bsel_false, flP (n := 0), chunk10]; simp only [rws_fl, Bool.and_self, chk_true]
  · intro p hp1 k hk C
    rw [g18_L14c_eq, mv_length, decT (by omega), bsel_true]; simp only [rws_fl, Bool.and_self, chk_true]
    rw [g18_J15c_eq, lget_mv hk, vI_mk, show ((2 : Int) == 1) = false from rfl, bsel_false, inB hp1, chk_true, in10 (by omega), chk_true, Int.toNat_natCast, Int.toNat_natCast, rws_length, decT (show 0 + p * 10 + k * 1 < n.P * 10 by omega), chk_true, rws_set _ _ (by omega)]; simp only [rws_fl, Bool.and_self, chk_true]
    rw [wrs (by omega)]
    congr 1
    apply rws_congr; intro i _ d _
    by_cases e : i = p ∧ d = k
    · rw [if_pos e, if_pos (by simpa using e)]
    · rw [if_neg e, if_neg (by simpa using e)]
  · intro p hp1 C
    rw [g18_L14c_eq, mv_length, decF (by omega), bsel_false]; simp only [rws_fl, Bool.and_self, chk_true]
    rw [wrs (by omega)]
  · rfl
theorem t18d : g18_L11d 1 (incs n) ((n.P : Int), n.ts.length, ()) (rws n.ts.length (fun _ _ => 0)) 0 = some (.tuple [A29 (vTab n.P n.ts.length (M1 n)), .int .i64 0], []) := by
  have hp := hn.p5
  have ht := hn.t5
  refine (tb_loop (P := n.P) (T := n.ts.length) (D := n.D) (O := fun C => some (.tuple [A29 (vTab n.P n.ts.length C), .int .i64 0], [])) (L11 := fun p C => g18_L11d 1 (incs n) ((n.P : Int), n.ts.length, ()) (rws n.ts.length (C)) p) (L14 := fun k C p => g18_L14d 1 (incs n) (mv n.ts.length fun k => n.D k (p).toNat) ((n.P : Int), n.ts.length, ()) (rws n.ts.length (C)) k p p) (U := fun i d p k => (i == k && d == p)) (pp := fun i d => d) (kk := fun i d => i) ?_ ?_ ?_ ?_ ?_).trans ?_
  · intro i d p k; simp only [Bool.and_eq_true, beq_iff_eq]; exact ⟨fun h => ⟨h.2, h.1⟩, fun h => ⟨h.2, h.1⟩⟩
  · intro p hp1 C
    rw [g18_L11d_eq, incs_length, decT (by omega), bsel_true]; simp only [rws_fl, Bool.and_self, chk_true]
    rw [g18_J12d_eq, lg_incs hp1, vL_mk, Int.toNat_natCast]
  · intro C
    rw [g18_L11d_eq, incs_length, decF (by omega), bsel_false, flP (n := 0), chunk10]; simp only [rws_fl, Bool.and_self, chk_true]
  · intro p hp1 k hk C
    rw [g18_L14d_eq, mv_length, decT (by omega), bsel_true]; simp only [rws_fl, Bool.and_self, chk_true]
    rw [g18_J15d_eq, lget_mv hk, vI_mk, show ((1 : Int) == 1) = true from rfl, bsel_true, inB hk, chk_true, in10 (by omega), chk_true, Int.toNat_natCast, Int.toNat_natCast, rws_length, decT (show 0 + k * 10 + p * 1 < n.ts.length * 10 by omega), chk_true, rws_set _ _ (by omega)]; simp only [rws_fl, Bool.and_self, chk_true]
    rw [wrs (by omega)]
    congr 1
    apply rws_congr; intro i _ d _
    by_cases e : i = k ∧ d = p
    · rw [if_pos e, if_pos (by simpa using e)]
    · rw [if_neg e, if_neg (by simpa using e)]
  · intro p hp1 C
    rw [g18_L14d_eq, mv_length, decF (by omega), bsel_false]; simp only [rws_fl, Bool.and_self, chk_true]
    rw [wrs (by omega)]
  · rfl
theorem c18_1 : SS.CC 18 [A0 (vN n), .int .i64 1] [] = some (.tuple [A29 (vTab n.P n.ts.length (M1 n)), .int .i64 0], []) := by
  have hp := hn.p5
  have ht := hn.t5
  have hd1 : decide (0 ≤ (n.ts.length : Int)) = true := decT (by omega)
  have hd2 : decide ((n.ts.length : Int) ≤ 1073741824) = true := decT (by omega)
  have hd3 : decide (0 ≤ (n.P : Int)) = true := decT (by omega)
  have hd4 : decide ((n.P : Int) ≤ 1073741824) = true := decT (by omega)
  rw [g18_eq, G5_of (c39 hn), show ((0 : Int) != 0) = false from rfl, bsel_false, show ((1 : Int) != 1) = false from rfl, bsel_false, g18_J7_eq, show ((1 : Int) == 2) = false from rfl, bsel_false, bsel_false]
  simp only [List.length_map, mv_length, Int.toNat_natCast, decide_true, hd1, hd2, hd3, hd4, zrows, rws_fl, Bool.and_self, chk_true]
  rw [g18_J10b_eq, g18_J10d_eq, t18b hn, t18d hn, agR_self]
theorem c18_2 : SS.CC 18 [A0 (vN n), .int .i64 2] [] = some (.tuple [A29 (vTab n.ts.length n.P (M2 n)), .int .i64 0], []) := by
  have hp := hn.p5
  have ht := hn.t5
  have hd1 : decide (0 ≤ (n.ts.length : Int)) = true := decT (by omega)
  have hd2 : decide ((n.ts.length : Int) ≤ 1073741824) = true := decT (by omega)
  have hd3 : decide (0 ≤ (n.P : Int)) = true := decT (by omega)
  have hd4 : decide ((n.P : Int) ≤ 1073741824) = true := decT (by omega)
  rw [g18_eq, G5_of (c39 hn), show ((0 : Int) != 0) = false from rfl, bsel_false, show ((2 : Int) != 1) = true from rfl, bsel_true, show ((2 : Int) != 2) = false from rfl, bsel_false, g18_J7_eq, show ((2 : Int) == 2) = true from rfl, bsel_true, bsel_true]
  simp only [List.length_map, mv_length, Int.toNat_natCast, decide_true, hd1, hd2, hd3, hd4, zrows, rws_fl, Bool.and_self, chk_true]
  rw [g18_J10_eq, g18_J10c_eq, t18 hn, t18c hn, agR_self]
end
end Go.Proofs.YtkkgfoknknehfaaDoor.W

/-
  The kernel of a table: its contract.
-/
import Derived.Test.YtkkgfoknknehfaaDoorCT8
namespace Go.Proofs.YtkkgfoknknehfaaDoor.W
set_option linter.unusedVariables false
set_option linter.unusedSimpArgs false
set_option linter.unnecessarySimpa false
set_option linter.unusedSectionVars false
open Go.RowKit
set_option maxRecDepth 100000
set_option maxHeartbeats 1000000
theorem zfl : ([.int .i64 0, .int .i64 0, .int .i64 0, .int .i64 0, .int .i64 0, .int .i64 0, .int .i64 0, .int .i64 0, .int .i64 0, .int .i64 0] : List PV).all flC = true := rfl
theorem cells10' (f : Nat → Int) : ([.int .i64 (f 0), .int .i64 (f 1), .int .i64 (f 2), .int .i64 (f 3), .int .i64 (f 4), .int .i64 (f 5), .int .i64 (f 6), .int .i64 (f 7), .int .i64 (f 8), .int .i64 (f 9)] : List PV) = mv 10 f := rfl
def zB (u : Nat → Int) : Bool := (u 0 == 0) && ((u 1 == 0) && ((u 2 == 0) && ((u 3 == 0) && ((u 4 == 0) && ((u 5 == 0) && ((u 6 == 0) && ((u 7 == 0) && ((u 8 == 0) && ((u 9 == 0) && true)))))))))
theorem z10 (u : Nat → Int) : (((vR u).1 == 0) && (((vR u).2.1 == 0) && (((vR u).2.2.1 == 0) && (((vR u).2.2.2.1 == 0) && (((vR u).2.2.2.2.1 == 0) && (((vR u).2.2.2.2.2.1 == 0) && (((vR u).2.2.2.2.2.2.1 == 0) && (((vR u).2.2.2.2.2.2.2.1 == 0) && (((vR u).2.2.2.2.2.2.2.2.1 == 0) && (((vR u).2.2.2.2.2.2.2.2.2.1 == 0) && true)))))))))) = zB u := rfl
theorem zB_z {u : Nat → Int} (h : zB u = true) : ∀ c, c < 10 → u c = 0 := by
  unfold zB at h
  simp only [Bool.and_eq_true, beq_iff_eq, and_true] at h
  obtain ⟨h0, h1, h2, h3, h4, h5, h6, h7, h8, h9⟩ := h
  intro c hc
  have : c = 0 ∨ c = 1 ∨ c = 2 ∨ c = 3 ∨ c = 4 ∨ c = 5 ∨ c = 6 ∨ c = 7 ∨ c = 8 ∨ c = 9 := by omega
  rcases this with rfl | rfl | rfl | rfl | rfl | rfl | rfl | rfl | rfl | rfl <;> assumption
theorem c69z (b : Nat) : SS.CC 69 [.int .u64 0, .int .u64 (b : Int)] [] = some (.int .u64 (b : Int), []) := by
  have := c69 0 b
  rw [Nat.gcd_zero_left] at this; exact this
section
variable {K T : Nat} {st : Nat → Int} {N : Nat → Nat → Int}
theorem k54z (hK1 : 1 ≤ K) (hK : K ≤ 5) (hz : ∀ k, k < T → ∀ c, c < K → N k c = 0) : KO K T N st (g54_J15 K (mv K st)) := by
  rw [g54_J15_eq, g54_L20_eq, mv_fl, zfl, decT (by omega), bsel_true]
  simp only [Bool.and_self, chk_true]
  rw [g54_J21_eq, show (decide ((0 : Nat) ≤ 0) && decide ((0 : Nat) ≤ 0)) = true from rfl, Bool.and_self, chk_true, chk_true, show ([] : List PV).drop (0 : Int).toNat = [] from rfl, H31_of (c66 _), chk_true, show decide ((-1 : Int) < 0) = true from rfl, bsel_true, show decide (0 ≤ (-1 : Int)) = false from rfl, bsel_false, mv_fl, zfl]
  simp only [Bool.and_self, chk_true]
  rw [show IntKind.i64.wrap (0 + 1) = 1 from rfl, g54_L20_eq, mv_fl, zfl]
  simp only [Bool.and_self, chk_true]
  by_cases h : K = 1
  · subst h
    rw [decF (by omega), bsel_false, g54_J44_eq, decF (by omega), bsel_false, mv_fl, zfl]
    simp only [Bool.and_self, chk_true]
    rw [g54_J46_eq, Int.toNat_natCast, decT (show (((1 : Nat) : Int) = ((1 : Nat) : Int)) from rfl), decT (show (0 : Int) ≤ ((1 : Nat) : Int) by omega), decT (show ((1 : Nat) : Int) ≤ 1073741824 by omega), Bool.and_self, Bool.and_self, chk_true, mv_rep]
    rw [g54_L49_eq, mv_fl, zfl, mv_fl, decT (by omega), bsel_true]
    simp only [Bool.and_self, chk_true]
    rw [g54_J50_eq, Int.toNat_natCast, show (decide ((0 : Int) ≤ 0) && decide ((0 : Int) < ((1 : Nat) : Int))) = true from rfl, chk_true, mv_length, show decide ((0 : Int).toNat < 1) = true from rfl, chk_true, show ((0 : Int) != 0) = false from rfl, bsel_false, show (0 : Int).toNat = 0 from rfl, mv_set, mv_fl, zfl, mv_fl]
    simp only [Bool.and_self, chk_true]
    rw [g54_J54_eq, Int.toNat_natCast, show (decide ((0 : Int) ≤ 0) && decide ((0 : Int) < ((1 : Nat) : Int))) = true from rfl, chk_true, show (0 : Int).toNat = 0 from rfl, nget_mv (by omega), vI_mk, if_pos rfl, show ((1 : Int) == 0) = false from rfl, bsel_false, mv_fl, zfl, mv_fl]
    simp only [Bool.and_self, chk_true]
    rw [g54_J56_eq, Int.toNat_natCast, show (decide ((0 : Int) ≤ 0) && decide ((0 : Int) < ((1 : Nat) : Int))) = true from rfl, chk_true, show (0 : Int).toNat = 0 from rfl, nget_mv (by omega), vI_mk, if_pos rfl, G33_of (c70 (by omega) (by omega)), G33_of (c69z _), mv_fl, zfl, mv_fl]
    simp only [Bool.and_self, chk_true]
    rw [show IntKind.i64.wrap (0 + 1) = 1 from rfl, g54_L49_eq, mv_fl, zfl, mv_fl, decF (by omega), bsel_false]
    simp only [Bool.and_self, chk_true]
    rw [g54_J58_eq, Int.toNat_natCast, show (decide ((0 : Nat) ≤ 0) && decide ((0 : Int) < ((1 : Nat) : Int))) = true from rfl, chk_true, show (0 : Int).toNat = 0 from rfl, nget_mv (by omega), vI_mk, if_pos rfl, show decide ((1 : Int) < 0) = false from rfl]
    rw [g54_L60_eq, mv_fl, zfl, mv_fl, Int.toNat_natCast, decT (by omega), bsel_true]
    simp only [Bool.and_self, chk_true]
    rw [g54_J61_eq, Int.toNat_natCast, show (decide ((0 : Int) ≤ 0) && decide ((0 : Int) < ((1 : Nat) : Int))) = true from rfl, chk_true, show (0 : Int).toNat = 0 from rfl, nget_mv (by omega), vI_mk, if_pos rfl, show (!(IntKind.i64.wrap ((Int.natAbs 1 : Nat) : Int) == 0)) = true from rfl, chk_true, chk_true, mv_length, show decide (0 < 1) = true from rfl, chk_true, bsel_false, mv_set, mv_fl, zfl, mv_fl, show IntKind.i64.wrap (Int.tdiv 1 (IntKind.i64.wrap ((Int.natAbs 1 : Nat) : Int))) = 1 from rfl, show IntKind.i64.wrap (0 + 1) = 1 from rfl]
    simp only [Bool.and_self, chk_true]
    rw [g54_L60_eq, mv_fl, zfl, mv_fl, Int.toNat_natCast, decF (show ¬ (1 : Int) < ((1 : Nat) : Int) by omega), bsel_false, mv_length, mv_flat, decT (show 1 * 1 ≤ 1 by omega), chunk1_mv]
    refine .inr ⟨fun _ => 1, ⟨fun k hk => ?_, fun c hc => ⟨Int.one_ne_zero, by show (-3840 : Int) ≤ 1 ∧ (1 : Int) ≤ 3840; omega⟩⟩, ?_⟩
    · rw [smS, sm0, hz k hk 0 (by omega)]; rfl
    · rw [show (mv 1 fun p => if p = 0 then (1 : Int) else (if p = 0 then 1 else 0)) = mv 1 fun _ => 1 from rfl]; rfl
  · rw [decT (by omega), bsel_true, g54_J21_eq, show (decide ((0 : Nat) ≤ 0) && decide ((0 : Nat) ≤ 0)) = true from rfl, Bool.and_self, chk_true, chk_true, show ([] : List PV).drop (0 : Int).toNat = [] from rfl, H31_of (c66 _), chk_true, show decide ((-1 : Int) < 0) = true from rfl, bsel_true, show decide ((0 : Int) ≤ 0) = true from rfl, bsel_true, mv_fl]
    exact .inl rfl
theorem c54 {P : Nat} {M : Nat → Nat → Int} (hK1 : 1 ≤ K) (hK : K ≤ 5) (hT : T ≤ 1000) (hR : ∀ k p, -2 ≤ M k p ∧ M k p ≤ 2) (hst : ∀ c, c < K → ∃ q : Nat, st c = (q : Int) ∧ q < 10) :
    KO K T (fun k c => M k (st c).toNat) st (SS.CC 54 [A29 (vTab P T M), .slh 0 0 K 1] [some (mv K st)]) := by
  have outer : ∀ k, k ≤ T → ∀ (src : List Rw) (R : Nat → Nat → Int), src.length ≤ k → (∀ j r, src[j]? = some r → ∀ c, c < K → R j c = r c) → (∀ r, r ∈ src → ∀ c, -2 ≤ r c ∧ r c ≤ 2) → (∀ k', k' < k → (∀ c, c < K → M k' (st c).toNat = 0) ∨ (fun c => M k' (st c).toNat) ∈ src) →
      KO K T (fun k c => M k (st c).toNat) st (g54_L4 K (rw10 T M) (mv K st) src.length (rws src.length R) (k : Int)) := by
    refine up_to (fun src R hl hS hN hs => ?_) fun k hk ih src R hl hS hN hs => ?_
    · rw [g54_L4_eq, mv_fl, rw10_length, decF (by omega), bsel_false, rws_fl]
      by_cases h0 : src.length = 0
      · rw [show Nat.ble 1 src.length = false by rw [h0]; rfl, bsel_false]
        simp only [Bool.and_self, chk_true]
        refine k54z hK1 hK fun k hk c hc => ?_
        rcases hs k hk with h | h
        · exact h c hc
        · rw [List.eq_nil_of_length_eq_zero h0] at h; cases h
      · rw [show Nat.ble 1 src.length = true from Nat.ble_eq_true_of_le (by omega), bsel_true]
        simp only [Bool.and_self, chk_true]
        rw [g54_J15b_eq]
        exact kerM hK1 hK (by omega) rfl hN hs 0 (by omega) R 1 none [] src (fun _ => 0) (EI.start hS) fun i hi => by simp at hi
    · have inner : ∀ i, i ≤ K → g54_L8 K (rw10 T M) (mv K st) (vR (M k)) (i : Int) (mv 10 fun c => if c < i then M k (st c).toNat else 0) src.length (rws src.length R) (k : Int) = g54_L8 K (rw10 T M) (mv K st) (vR (M k)) (K : Int) (mv 10 fun c => if c < K then M k (st c).toNat else 0) src.length (rws src.length R) (k : Int) := by
        refine up_to rfl fun i hi ih => ?_
        obtain ⟨q, h1, h2⟩ := hst i hi
        rw [← ih, g54_L8_eq, mv_fl, mv_fl, decT (show (i : Int) < (K : Int) by omega), bsel_true]
        simp only [Bool.and_self, chk_true]
        rw [decT (show (0 : Int) ≤ (i : Int) by omega), Bool.and_self, chk_true, Int.toNat_natCast, nget_mv hi, h1, vI_mk, in10 h2, chk_true, cells10' (M k), Int.toNat_natCast, show 0 + q * 1 = q by omega, nget_mv h2, vI_mk, decT (show (i : Int) < (10 : Int) by omega), Bool.and_self, chk_true, mv_length, show 0 + i * 1 = i by omega, decT (show i < 10 by omega), chk_true, mv_set, mv_fl, wrs (by omega)]
        simp only [Bool.and_self, chk_true]
        congr 1
        apply mv_congr; intro c hc
        by_cases e : c = i
        · subst e; rw [if_pos rfl, if_pos (by omega), h1]; rfl
        · rw [if_neg e]
          by_cases e2 : c < i
          · rw [if_pos e2, if_pos (by omega)]
          · rw [if_neg e2, if_neg (by omega)]
      have i0 := inner 0 (by omega)
      rw [show (mv 10 fun c => if c < 0 then M k (st c).toNat else 0) = [.int .i64 0, .int .i64 0, .int .i64 0, .int .i64 0, .int .i64 0, .int .i64 0, .int .i64 0, .int .i64 0, .int .i64 0, .int .i64 0] from rfl] at i0
      rw [g54_L4_eq, mv_fl, rw10_length, decT (by omega), bsel_true]
      simp only [Bool.and_self, chk_true]
      rw [lgV_rw hk]
      refine (congrArg (KO K T (fun k c => M k (st c).toNat) st) i0).mpr ?_
      rw [g54_L8_eq, mv_fl, mv_fl, decF (by omega), bsel_false]
      simp only [Bool.and_self, chk_true]
      rw [List.drop_zero, mv_take _ (Nat.le_refl 10), mv_un, mv_length, show decide (0 + 10 ≤ 10) = true from rfl, chk_true, gv_mv, z10, gv_mv, cells10, wrs (by omega), rws_app, chk_true]
      cases hz : zB fun c => if c < K then M k (st c).toNat else 0
      case true =>
        have hz := zB_z hz
        rw [Bool.not_true, bsel_false]
        refine ih src R (by omega) hS hN fun k' hk' => ?_
        by_cases e : k' = k
        · subst e; exact .inl fun c hc => by have := hz c (by omega); rwa [if_pos hc] at this
        · exact hs k' (by omega)
      case false =>
        rw [Bool.not_false, bsel_true, decT (show src.length + 1 ≤ LIM by unfold LIM; omega)]
        simp only [Bool.and_self, chk_true]
        have := ih (src ++ [fun c => M k (st c).toNat]) (fun i => if i < src.length then R i else fun c => if c < K then M k (st c).toNat else 0) (by simp; omega) (fun j r hr c hc => ?_) (fun r hr => ?_) fun k' hk' => ?_
        · rw [List.length_append] at this; exact this
        · rcases app_get hr with h1 | ⟨rfl, rfl⟩
          · rw [if_pos (List.getElem?_eq_some_iff.1 h1).1]; exact hS j r h1 c hc
          · rw [if_neg (by omega), if_pos hc]
        · rcases List.mem_append.1 hr with h1 | h1
          · exact hN r h1
          · rw [List.mem_singleton.1 h1]; exact fun c => hR k _
        · by_cases e : k' = k
          · subst e; exact .inr (by simp)
          · rcases hs k' (by omega) with h1 | h1
            · exact .inl h1
            · exact .inr (List.mem_append_left _ h1)
  rw [g54_eq, rw10_length, decT (show (0 : Int) ≤ (T : Int) by omega), decT (show (T : Int) ≤ 1073741824 by omega), show decide ((0 : Nat) ≤ 0) = true from rfl, Bool.and_self, Bool.and_self, chk_true]
  exact outer 0 (by omega) [] (fun _ _ => 0) (by simp) (fun j r hr => by simp at hr) (fun r hr => by simp at hr) fun k hk => by omega
end
end Go.Proofs.YtkkgfoknknehfaaDoor.W

/-
  The kernel: pivot after pivot; the solution read off.
-/
import Derived.Test.YtkkgfoknknehfaaDoorCT7
namespace Go.Proofs.YtkkgfoknknehfaaDoor.W
set_option linter.unusedVariables false
set_option linter.unusedSimpArgs false
set_option linter.unnecessarySimpa false
set_option linter.unusedSectionVars false
open Go.RowKit
set_option maxRecDepth 100000
set_option maxHeartbeats 1000000
theorem sm_mul (n : Nat) (a : Int) (f : Nat → Int) : sm n (fun i => a * f i) = a * sm n f := by
  induction n with
  | zero => simp
  | succ n ih => rw [smS, smS, ih, Int.mul_add]
/-- A solution of the rows. -/
def Sol (K T : Nat) (N : Nat → Nat → Int) (x : Nat → Int) : Prop := (∀ k, k < T → sm K (fun c => N k c * x c) = 0) ∧ ∀ c, c < K → x c ≠ 0 ∧ Sm (x c)
def KO (K T : Nat) (N : Nat → Nat → Int) (st : Nat → Int) (r : R) : Prop :=
  r = some (.tuple [.sl false 1 [], .bool false], [some (mv K st)]) ∨ ∃ x, Sol K T N x ∧ r = some (.tuple [.sl false 1 (mv K x), .bool true], [some (mv K st)])
section
variable {K m T : Nat} {st : Nat → Int} {A : Nat → Nat → Int} {at' X : Nat → Int} {N : Nat → Nat → Int}
theorem divs (hK : K ≤ 5) {G : Nat} (h0 : G ≠ 0) (hb : G ≤ 3840) (hX : ∀ c, c < K → Sm (X c)) (b : Bool) :
    g54_L60b K m (mv K st) (rws m A) (mv 10 at') b 0 (mv K X) (G : Int) = some (.tuple [.sl false 1 (mv K fun c => bif b then -((X c).tdiv G) else (X c).tdiv G), .bool true], [some (mv K st)]) := by
  have key : ∀ i, i ≤ K → g54_L60b K m (mv K st) (rws m A) (mv 10 at') b (i : Int) (mv K fun c => if c < i then (bif b then -((X c).tdiv G) else (X c).tdiv G) else X c) (G : Int) = some (.tuple [.sl false 1 (mv K fun c => bif b then -((X c).tdiv G) else (X c).tdiv G), .bool true], [some (mv K st)]) := by
    refine up_to ?_ fun i hi ih => ?_
    · rw [mv_congr (g := fun c => bif b then -((X c).tdiv G) else (X c).tdiv G) fun c hc => if_pos hc]
      rw [g54_L60b_eq, mv_fl, rws_fl, mv_fl, mv_fl, Int.toNat_natCast, decF (by omega), bsel_false, mv_length, mv_flat, decT (show K * 1 ≤ K by omega), chunk1_mv]; rfl
    · have hx := hX i hi
      have hd : ((X i).tdiv G).natAbs ≤ (X i).natAbs := by rw [Int.natAbs_tdiv]; exact Nat.div_le_self _ _
      rw [g54_L60b_eq, mv_fl, rws_fl, mv_fl, mv_fl, Int.toNat_natCast, decT (show (i : Int) < (K : Int) by omega), bsel_true]
      simp only [Bool.and_self, chk_true]
      rw [g54_J61b_eq, Int.toNat_natCast, Int.toNat_natCast, inB hi, chk_true, nget_mv hi, vI_mk, if_neg (by omega), wrap64 (n := (G : Int)) (by omega) (by omega), show ((G : Int) == 0) = false from beq_eq_false_iff_ne.2 (by omega), Bool.not_false, chk_true, chk_true, mv_length, decT hi, chk_true, wrap64 (n := (X i).tdiv G) (by omega) (by omega), mv_set, mv_fl, rws_fl, mv_fl, wrs (by omega)]
      rw [← ih]
      cases b
      · rw [bsel_false]
        simp only [mv_fl, rws_fl, Bool.and_self, chk_true]
        congr 1
        apply mv_congr; intro c hc
        by_cases e : c = i
        · subst e; rw [if_pos rfl, if_pos (by omega)]; rfl
        · rw [if_neg e]
          by_cases e2 : c < i
          · rw [if_pos e2, if_pos (by omega)]
          · rw [if_neg e2, if_neg (by omega)]
      · rw [bsel_true, nget_mv hi, vI_mk, if_pos rfl, chk_true, mv_length, decT hi, chk_true, wrap64 (by omega) (by omega), mv_set]
        simp only [mv_fl, rws_fl, Bool.and_self, chk_true]
        congr 1
        apply mv_congr; intro c hc
        by_cases e : c = i
        · subst e; rw [if_pos rfl, if_pos (by omega)]; simp
        · rw [if_neg e, if_neg e]
          by_cases e2 : c < i
          · rw [if_pos e2, if_pos (by omega)]
          · rw [if_neg e2, if_neg (by omega)]
  have := key 0 (by omega)
  rw [mv_congr (g := X) fun c hc => if_neg (by omega)] at this
  exact this
theorem rdX (hK1 : 1 ≤ K) (hK : K ≤ 5) {f : Nat} (hf : f < K) {last : Int} (hXf : X f = last) (hXc : ∀ c, c < K → c ≠ f → ∃ q : Nat, at' c = (q : Int) ∧ q < m ∧ X c = -A q f) (hX : ∀ c, c < K → Sm (X c)) (hS : ∀ k, k < T → sm K (fun c => N k c * X c) = 0) :
    KO K T N st (g54_L49b K m last (f : Int) (mv K st) (rws m A) (mv 10 at') 0 0 (mv K fun _ => 0)) := by
  have key : ∀ i, i ≤ K → ∀ G : Nat, (∀ c, c < i → X c ≠ 0 ∧ G ∣ (X c).natAbs) → KO K T N st (g54_L49b K m last (f : Int) (mv K st) (rws m A) (mv 10 at') (G : Int) (i : Int) (mv K fun c => if c < i then X c else 0)) := by
    refine up_to (fun G hG => ?_) fun i hi ih G hG => ?_
    · have hx0 := hX 0 (by omega)
      obtain ⟨h1, h2⟩ := hG 0 (by omega)
      have hG0 : G ≠ 0 := fun e => by rw [e] at h2; have := Nat.eq_zero_of_zero_dvd h2; omega
      have hGb : G ≤ 3840 := by have := Nat.le_of_dvd (by omega) h2; omega
      rw [mv_congr (g := X) fun c hc => if_pos hc, g54_L49b_eq, mv_fl, rws_fl, mv_fl, mv_fl, decF (by omega), bsel_false]
      simp only [Bool.and_self, chk_true]
      rw [g54_J58b_eq, Int.toNat_natCast, decT (show (0 : Int) < (K : Int) by omega), show (0 : Int).toNat = 0 from rfl, nget_mv (by omega), vI_mk]
      rw [show (decide ((0 : Nat) ≤ 0) && true) = true from rfl, chk_true, divs hK hG0 hGb hX]
      refine .inr ⟨_, ⟨fun k hk => ?_, fun c hc => ?_⟩, rfl⟩
      · have e : ∀ c, c < K → N k c * X c = ((bif decide (X 0 < 0) then -1 else 1) * G) * (N k c * (bif decide (X 0 < 0) then -((X c).tdiv G) else (X c).tdiv G)) := fun c hc => by
          have hd : (X c).tdiv G * G = X c := Int.tdiv_mul_cancel (Int.ofNat_dvd_left.2 (hG c hc).2)
          cases decide (X 0 < 0)
          · simp only [cond_false]
            conv => lhs; rw [← hd]
            grind
          · simp only [cond_true]
            conv => lhs; rw [← hd]
            grind
        have h3 := hS k hk
        rw [sm_congr e, sm_mul] at h3
        rcases Int.mul_eq_zero.1 h3 with h4 | h4
        · rcases Int.mul_eq_zero.1 h4 with h5 | h5
          · cases hb : decide (X 0 < 0) <;> rw [hb] at h5 <;> simp at h5
          · omega
        · exact h4
      · have hd : (X c).tdiv G * G = X c := Int.tdiv_mul_cancel (Int.ofNat_dvd_left.2 (hG c hc).2)
        have hn : (X c).tdiv G ≠ 0 := fun e => by rw [e, Int.zero_mul] at hd; exact (hG c hc).1 hd.symm
        have hl : ((X c).tdiv G).natAbs ≤ (X c).natAbs := by rw [Int.natAbs_tdiv]; exact Nat.div_le_self _ _
        have := hX c hc
        cases decide (X 0 < 0)
        · simp only [cond_false]; exact ⟨hn, by omega⟩
        · simp only [cond_true]; exact ⟨by omega, by omega⟩
    · have hx := hX i hi
      have hJ : g54_J50b K m last (f : Int) (mv K st) (rws m A) (mv 10 at') (G : Int) (i : Int) (mv K fun c => if c < i then X c else 0) = g54_J54b K m last (f : Int) (mv K st) (rws m A) (mv 10 at') (mv K fun c => if c < i + 1 then X c else 0) (G : Int) (i : Int) (i : Int) := by
        rw [g54_J50b_eq, Int.toNat_natCast, Int.toNat_natCast, inB hi, chk_true, mv_length, decT hi, chk_true, mv_set]
        by_cases e : i = f
        · rw [show ((i : Int) != (f : Int)) = false by rw [e]; exact bne_self_eq_false _, bsel_false, mv_fl, rws_fl, mv_fl, mv_fl]
          simp only [Bool.and_self, chk_true]
          congr 1
          apply mv_congr; intro c hc
          by_cases e3 : c = i
          · rw [if_pos e3, if_pos (by omega), e3, e, hXf]
          · rw [if_neg e3]
            by_cases e2 : c < i
            · rw [if_pos e2, if_pos (by omega)]
            · rw [if_neg e2, if_neg (by omega)]
        · obtain ⟨q, h1, h2, h3⟩ := hXc i hi e
          rw [show ((i : Int) != (f : Int)) = true from bne_iff_ne.2 (by omega), bsel_true, in10 (by omega), chk_true, show 0 + i * 1 = i by omega, nget_mv (by omega), h1, vI_mk, inB h2, chk_true, in10 (by omega), chk_true, Int.toNat_natCast, Int.toNat_natCast, rws_nget h2 (by omega), vI_mk, chk_true, mv_length, decT hi, chk_true, wrap64 (by omega) (by omega), mv_set, mv_fl, rws_fl, mv_fl, mv_fl]
          simp only [Bool.and_self, chk_true]
          congr 1
          apply mv_congr; intro c hc
          by_cases e3 : c = i
          · rw [if_pos e3, if_pos (by omega), e3, h3]; omega
          · rw [if_neg e3, if_neg e3]
            by_cases e2 : c < i
            · rw [if_pos e2, if_pos (by omega)]
            · rw [if_neg e2, if_neg (by omega)]
      rw [g54_L49b_eq, mv_fl, rws_fl, mv_fl, mv_fl, decT (by omega), bsel_true]
      simp only [Bool.and_self, chk_true]
      rw [hJ, g54_J54b_eq, Int.toNat_natCast, Int.toNat_natCast, inB hi, chk_true, nget_mv hi, vI_mk, if_pos (by omega)]
      by_cases h0 : X i = 0
      · rw [show (X i == 0) = true from beq_iff_eq.2 h0, bsel_true, mv_fl]; exact .inl rfl
      · rw [show (X i == 0) = false from beq_eq_false_iff_ne.2 h0, bsel_false, mv_fl, rws_fl, mv_fl, mv_fl]
        simp only [Bool.and_self, chk_true]
        rw [g54_J56b_eq, Int.toNat_natCast, Int.toNat_natCast, inB hi, chk_true, nget_mv hi, vI_mk, if_pos (by omega), G33_of (c70 (by omega) (by omega)), G33_of (c69 _ _), mv_fl, rws_fl, mv_fl, mv_fl, wrs (by omega)]
        simp only [Bool.and_self, chk_true]
        refine ih _ fun c hc => ?_
        by_cases e : c = i
        · subst e; exact ⟨h0, Nat.gcd_dvd_right _ _⟩
        · obtain ⟨h1, h2⟩ := hG c (by omega)
          exact ⟨h1, Nat.dvd_trans (Nat.gcd_dvd_left _ _) h2⟩
  have := key 0 (by omega) 0 fun c hc => by omega
  rw [mv_congr (g := fun _ => 0) fun c hc => if_neg (by omega)] at this
  exact this
def frI : Option Nat → Int
  | none => -1
  | some f => (f : Int)
theorem kerM {src : List Rw} (hK1 : 1 ≤ K) (hK : K ≤ 5) (hm : m ≤ 1000) (hlen : src.length = m) (hN : ∀ r, r ∈ src → ∀ c, -2 ≤ r c ∧ r c ≤ 2) (hs : ∀ k, k < T → (∀ c, c < K → N k c = 0) ∨ N k ∈ src) :
    ∀ k, k ≤ K → ∀ (A : Nat → Nat → Int) (last : Int) (fr : Option Nat) (cs : List Nat) (O : List Rw) (at' : Nat → Int), EI K src k A last fr cs O → (∀ i, i < cs.length → ∀ c, cs[i]? = some c → at' c = ((cs.length - 1 - i : Nat) : Int)) →
      KO K T N st (g54_L20b K m (mv K st) (rws m A) (frI fr) (k : Int) (cs.length : Int) last (mv 10 at')) := by
  refine up_to (fun A last fr cs O at' h hat => ?_) fun k hk ih A last fr cs O at' h hat => ?_
  · have hl4 := h.lens
    have hpl := h.pl
    have hOl := h.len
    rw [g54_L20b_eq, mv_fl, rws_fl, mv_fl, decF (by omega), bsel_false]
    simp only [Bool.and_self, chk_true]
    rw [g54_J44b_eq]
    cases fr with
    | none => rw [show decide (frI none < 0) = true from rfl, bsel_true, mv_fl]; exact .inl rfl
    | some f =>
      have hl5 : cs.length + 1 = K := by simpa [Nat.add_comm] using hl4
      have hfK : f < K := (h.cols f).1 (by simp)
      have hbd := h.bd hN (by omega)
      have hnd := h.nd
      rw [show frI (some f) = (f : Int) from rfl, decF (by omega), bsel_false, mv_fl, rws_fl, mv_fl]
      simp only [Bool.and_self, chk_true]
      rw [g54_J46b_eq, Int.toNat_natCast, decT (show ((K : Int) = (K : Int)) from rfl), decT (show (0 : Int) ≤ (K : Int) by omega), decT (show (K : Int) ≤ 1073741824 by omega), Bool.and_self, Bool.and_self, chk_true, mv_rep]
      refine rdX (X := fun c => if c = f then last else -A (at' c).toNat f) hK1 hK hfK (if_pos rfl) (fun c hc hne => ?_) (fun c hc => ?_) fun k hk => ?_
      · have hm := (h.cols c).2 hc
        simp only [Option.toList_some, List.singleton_append, List.mem_cons] at hm
        obtain ⟨i, hi⟩ := List.mem_iff_getElem?.1 (hm.resolve_left hne)
        have hi2 := (List.getElem?_eq_some_iff.1 hi).1
        have := hat i hi2 c hi
        exact ⟨cs.length - 1 - i, this, by omega, by rw [if_neg hne, this, Int.toNat_natCast]⟩
      · by_cases e : c = f
        · rw [if_pos e]; unfold Sm; omega
        · rw [if_neg e]
          have hm := (h.cols c).2 hc
          simp only [Option.toList_some, List.singleton_append, List.mem_cons] at hm
          obtain ⟨i, hi⟩ := List.mem_iff_getElem?.1 (hm.resolve_left e)
          have hi2 := (List.getElem?_eq_some_iff.1 hi).1
          rw [hat i hi2 c hi, Int.toNat_natCast]
          have := hbd.2 (cs.length - 1 - i) (by omega) f hfK
          unfold Sm; omega
      · rcases hs k hk with hz | hr
        · exact sm_zero fun c hc => by rw [hz c hc, Int.zero_mul]
        · have := h.sol (by omega) (x := fun c => if c = f then last else -A (at' c).toNat f) (if_pos rfl) (fun i hi c hc => ?_) hr
          · rw [sm_list] at this
            rw [← this]
            exact sm_congr fun c _ => Int.mul_comm _ _
          · have hcf : c ≠ f := fun e => by
              simp only [Option.toList_some, List.singleton_append, List.nodup_cons] at hnd
              exact hnd.1 (e ▸ List.mem_of_getElem? hc)
            rw [if_neg hcf, hat i hi c hc, Int.toNat_natCast]
  · have hl4 := h.lens
    have hpl := h.pl
    have hOl := h.len
    have hfl : fr.toList.length ≤ 1 := by cases fr <;> simp
    have hbd := h.bd hN (by omega)
    -- no pivot in this column
    have hfree : (∀ j, cs.length ≤ j → j < m → A j k = 0) → KO K T N st (bsel (decide (0 ≤ frI fr)) (some (.tuple [.sl false 1 [], .bool false], [some (mv K st)])) (g54_L20b K m (mv K st) (rws m A) (k : Int) (IntKind.i64.wrap ((k : Int) + 1)) (cs.length : Int) last (mv 10 at'))) := fun hz => by
      cases fr with
      | some f => rw [show frI (some f) = (f : Int) from rfl, decT (by omega), bsel_true]; exact .inl rfl
      | none =>
        rw [show decide (0 ≤ frI none) = false from rfl, bsel_false, wrs (by omega)]
        exact ih A last (some k) cs O at' (h.free fun j h1 h2 => hz j h1 (by omega)) hat
    rw [g54_L20b_eq, mv_fl, rws_fl, mv_fl, decT (by omega), bsel_true]
    simp only [Bool.and_self, chk_true]
    rw [g54_J21b_eq, decT (show (0 : Int) ≤ (cs.length : Int) by omega), decT (show (cs.length : Int) ≤ (m : Int) by omega), Bool.and_self, chk_true]
    by_cases hp : cs.length < m
    · obtain ⟨n, h1, h2⟩ := c66_1i A (k := k) (by omega) hp hm
      rw [decT (by omega), bsel_true, rws_fl, Bool.and_self, chk_true, Int.toNat_natCast, H32_of h1, rws_fl, mv_fl, mv_fl]
      simp only [Bool.and_self, chk_true]
      rcases h2 with ⟨rfl, hz⟩ | ⟨i, rfl, hi, hne⟩
      · rw [show decide ((-1 : Int) < 0) = true from rfl, bsel_true]
        exact hfree hz
      · rw [decF (show ¬ (i : Int) < 0 by omega), bsel_false]
        have hbm : ∀ j, j < m → ∀ d, d < K → Sm (A j d) := fun j hj d hd => hbd.2 j (by omega) d hd
        rw [pivJ hK hk hm hi hbm (by unfold Sm; omega) h.nz]
        by_cases h3 : cs.length ≤ 3
        · obtain ⟨O', hE⟩ := h.pivot hk h3 (i := cs.length + i) (by omega) (by omega) hne (A1 := swp A cs.length i) (A' := fun i' d => if i' < m ∧ i' ≠ cs.length ∧ d < K then stp (swp A cs.length i) cs.length k last i' d else swp A cs.length i i' d) (fun j => rfl) (fun j hj c hc => by
            by_cases e : j = cs.length
            · rw [if_pos e, if_neg (by omega)]
            · rw [if_neg e, if_pos (by omega)]; rfl)
          refine ih _ _ fr (k :: cs) O' _ hE fun i' hi' c hc => ?_
          cases i' with
          | zero =>
            simp at hc
            rw [if_pos hc.symm]; simp
          | succ i' =>
            rw [List.getElem?_cons_succ] at hc
            rw [List.length_cons] at hi'
            have hck : c < k := (h.cols c).1 (List.mem_append_right _ (List.mem_of_getElem? hc))
            rw [if_neg (by omega), hat i' (by omega) c hc, List.length_cons]
            congr 1; omega
        · have hfr : fr = none := by
            cases fr with
            | none => rfl
            | some f => simp at hl4; omega
          subst hfr
          rw [g54_L20b_eq, mv_fl, rws_fl, mv_fl, decF (by omega), bsel_false]
          simp only [Bool.and_self, chk_true]
          rw [g54_J44b_eq, show decide (frI none < 0) = true from rfl, bsel_true, mv_fl]; exact .inl rfl
    · rw [decF (by omega), bsel_false, H31_of (c66 _), mv_fl, rws_fl, mv_fl]
      simp only [Bool.and_self, chk_true]
      rw [show decide ((-1 : Int) < 0) = true from rfl, bsel_true]
      exact hfree fun j h1 h2 => by omega
end
end Go.Proofs.YtkkgfoknknehfaaDoor.W

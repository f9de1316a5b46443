/-
  Contracts: what is reachable, what is needed, dead stores (the program's and the model's).
-/
import Derived.Test.YtiejgieiokmmfaaDoorC52f
import Derived.Test.YtiejgieiokmmfaaDoorP52b
namespace Go.Proofs.YtiejgieiokmmfaaDoor
set_option linter.unusedVariables false
set_option linter.unusedSimpArgs false
set_option linter.unnecessarySimpa false
set_option linter.unusedSectionVars false
open Go.RowKit
@[simp] theorem chk_tt (A : R) : chk true A = A := rfl
theorem bAt {b : List Bool} {k : Nat} (h : k < b.length) : b[k]? = some (b.getD k false) := by
  rw [List.getD_eq_getElem?_getD, List.getElem?_eq_getElem h]; rfl
theorem drop_get {α : Type} {l : List α} {k : Nat} {x : α} (hx : l[k]? = some x) : l.drop k = x :: l.drop (k + 1) := by
  obtain ⟨h1, rfl⟩ := List.getElem?_eq_some_iff.1 hx
  exact List.drop_eq_getElem_cons h1
theorem lenW {l : List Ins} (h : l.length ≤ 2048) : IntKind.i64.wrap (((insL l).length : Int) + 1) = ((l.length + 1 : Nat) : Int) := by rw [insL_len]; exact wrs (by omega)
/-! ### reachable -/
theorem l44 {w : Nat} {l : List Ins} (hok : okL w l) : ∀ (m k : Nat) (b : List Bool), k + m = l.length → b.length = l.length + 1 → g44_L5 (insL l) (k : Int) (bitL b) = Ret (.sl false 1 (bitL (reachF k (l.drop k) b))) := by
  have hn := hok.1
  have hN := lenW hn
  intro m
  induction m with
  | zero =>
    intro k b hk hb
    rw [g44_L5_eq, bitL_flC, Bool.true_and, chk_tt, decF (by simp; omega), bsel_false, hN, Int.toNat_natCast, bitL_of, decT (by simp; omega), bitL_chunk _ (by omega), List.drop_of_length_le (by omega)]
    rfl
  | succ m ih =>
    intro k b hk hb
    obtain ⟨x, hx⟩ := get_lt (show k < l.length by omega)
    obtain ⟨o1, o2, o3, o4⟩ := hok.2 k x hx
    have nxt := fun b' (hb' : b'.length = l.length + 1) => ih (k + 1) b' (by omega) hb'
    rw [drop_get hx, reachF]
    rw [g44_L5_eq, bitL_flC, Bool.true_and, chk_tt, decT (by simp; omega), bsel_true, chk_tt, lget_ins hx, v57_mk, hN, Int.toNat_natCast, decT (by omega), decT (by omega), Bool.true_and, chk_tt, Int.toNat_natCast, nget_bit (bAt (by omega)), vB_mk, wrs (by omega)]
    cases hbk : b.getD k false with
    | false =>
      rw [Bool.not_false, bsel_true, chk_tt, nxt b hb, stepR, hbk, if_neg (by simp)]
    | true =>
      rw [Bool.not_true, bsel_false, chk_tt, stepR, hbk, if_pos rfl, markR]
      have J : ∀ b' : List Bool, b'.length = l.length + 1 → g44_J10 (insL l) x.1 x.2 (bitL b') (k : Int) (k : Int) = Ret (.sl false 1 (bitL (reachF (k + 1) (l.drop (k + 1)) (if x.1 = 11 then b' else b'.set (k + 1) true)))) := fun b' hb' => by
        rw [g44_J10_eq]
        by_cases h11 : x.1 = 11
        · rw [neF h11, bsel_false, bitL_flC, Bool.true_and, chk_tt, wrs (by omega), nxt b' hb', if_pos h11]
        · rw [neT h11, bsel_true, hN, Int.toNat_natCast, wrs (by omega), decT (by omega), decT (by omega), Bool.true_and, chk_tt, Int.toNat_natCast, decT (by simp; omega), chk_tt, bitL_set, bitL_flC, Bool.true_and, chk_tt, nxt _ (by simpa using hb'), if_neg h11]
      by_cases h12 : 11 ≤ x.1
      · have hj := o4 h12
        rw [decT h12, bsel_true, decT (by omega), decT (by omega), Bool.true_and, chk_tt, decT (by simp; omega), chk_tt, bitL_set, bitL_flC, Bool.true_and, chk_tt, J _ (by simpa using hb), if_pos h12]
      · rw [decF h12, bsel_false, chk_tt, J b hb, if_neg h12, if_neg (show ¬ x.1 = 11 by omega), if_neg (show ¬ x.1 = 11 by omega)]
theorem rep0 (n : Nat) : (List.replicate (n + 1) (PV.bool false)).set 0 (.bool true) = bitL (reach0 n) := by
  unfold reach0; rw [← bitL_set]; simp [bitL, List.map_replicate]
theorem c44 {p : Prg} (hok : okL (wd p) p.list) : SS.CC 44 [prgP p] [] = Ret (.sl false 1 (bitL (reachS p.list))) := by
  have hn := hok.1
  have hN := lenW hn
  unfold prgP
  rw [g44_eq, hN, decT rfl, decT (by omega), decT (by omega), Bool.and_self, Bool.and_self, chk_tt, Int.toNat_natCast, decT (by omega), decT (by omega), Bool.and_self, chk_tt, decT (by simp), chk_tt]
  have h := l44 hok p.list.length 0 (reach0 p.list.length) (by omega) (by simp [reach0])
  rw [List.drop_zero] at h
  show g44_L5 _ _ ((List.replicate (p.list.length + 1) (PV.bool false)).set 0 (.bool true)) = _
  rw [rep0]; exact h
/-! ### the model's -/
def nextI (i : Nat) (x : Ins) : List Int := if x.1 = 11 then [x.2] else if 11 ≤ x.1 then (if x.2 ≠ (i : Int) + 1 then [(i : Int) + 1, x.2] else [(i : Int) + 1]) else [(i : Int) + 1]
theorem c47 {p : Prg} (hok : okL (wd p) p.list) {i : Nat} {x : Ins} (hx : p.list[i]? = some x) : SS.CC 47 [prgP p, .int .i64 (i : Int)] [] = Ret (.sl false 1 (intL (nextI i x))) := by
  have hi := (List.getElem?_eq_some_iff.1 hx).1
  have hn := hok.1
  obtain ⟨o1, o2, o3, o4⟩ := hok.2 i x hx
  unfold prgP nextI
  rw [g47_eq, lget_ins hx, v57_mk, wr0 (k := (i : Int) + 1) (by omega) (by omega)]
  by_cases h11 : x.1 = 11
  · rw [eqT h11, bsel_true, if_pos h11]; rfl
  · rw [eqF h11, bsel_false, clX_of (c23 _), vB_mk, if_neg h11, decT o2, Bool.and_true]
    by_cases h12 : 11 ≤ x.1
    · rw [decT h12, bsel_true, if_pos h12]
      by_cases h13 : x.2 = (i : Int) + 1
      · rw [neF h13, bsel_false, if_neg (by simpa using h13)]; rfl
      · rw [neT h13, bsel_true, if_pos h13]; rfl
    · rw [decF h12, bsel_false, if_neg h12]; rfl
def setAll (b : List Bool) (ns : List Int) : List Bool := ns.foldl (fun b n => b.set n.toNat true) b
theorem set_next {l : List Ins} {i : Nat} {x : Ins} {b : List Bool} : setAll b (nextI i x) = markR x i b := by
  unfold nextI markR setAll
  by_cases h11 : x.1 = 11
  · rw [if_pos h11, if_pos h11]; rfl
  · rw [if_neg h11, if_neg h11]
    have e : ((i : Int) + 1).toNat = i + 1 := by omega
    by_cases h12 : 11 ≤ x.1
    · rw [if_pos h12, if_pos h12]
      by_cases h13 : x.2 = (i : Int) + 1
      · rw [if_neg (by simpa using h13)]
        simp only [List.foldl_cons, List.foldl_nil, e, h13, List.set_set]
      · rw [if_pos h13]
        simp only [List.foldl_cons, List.foldl_nil, e]
        by_cases h14 : x.2.toNat = i + 1
        · rw [h14]
        · exact List.set_comm _ _ (by omega)
    · rw [if_neg h12, if_neg h12]
      simp only [List.foldl_cons, List.foldl_nil, e]
theorem next_mem {w : Nat} {l : List Ins} (hok : okL w l) {i : Nat} {x : Ins} (hx : l[i]? = some x) {n : Int} (h : n ∈ nextI i x) : (i : Int) < n ∧ n ≤ l.length := by
  have hi := (List.getElem?_eq_some_iff.1 hx).1
  obtain ⟨o1, o2, o3, o4⟩ := hok.2 i x hx
  unfold nextI at h
  split at h
  · simp at h; subst h; have := o4 (by omega); omega
  · split at h
    · have := o4 (by assumption)
      split at h
      · simp at h; rcases h with rfl | rfl <;> omega
      · simp at h; omega
    · simp at h; omega
theorem l21i {p : Prg} (hok : okL (wd p) p.list) (ns : List Int) {i : Nat} (hi : i < p.list.length) (hns : ∀ n, n ∈ ns → (i : Int) < n ∧ n ≤ p.list.length) (hl : ns.length ≤ 2) : ∀ (m k : Nat) (b : List Bool), k + m = ns.length → b.length = p.list.length + 1 → b.getD i false = true →
    g21_L9 p.ni p.no p.nm (bitL p.start) (insL p.list) (intL ns) (k : Int) (bitL b) (i : Int) = g21_L5 p.ni p.no p.nm (bitL p.start) (insL p.list) ((i + 1 : Nat) : Int) (bitL (setAll b (ns.drop k))) := by
  have hn := hok.1
  have hN := lenW hn
  intro m
  induction m with
  | zero =>
    intro k b hk hb hbi
    rw [g21_L9_eq, bitL_flC, Bool.true_and, chk_tt, decF (by simp; omega), bsel_false, chk_tt, wrs (by omega), List.drop_of_length_le (by omega)]; rfl
  | succ m ih =>
    intro k b hk hb hbi
    obtain ⟨y, hy⟩ := get_lt (show k < ns.length by omega)
    have hyb := hns y (List.mem_of_getElem? hy)
    rw [drop_get hy, g21_L9_eq, bitL_flC, Bool.true_and, chk_tt, decT (by simp; omega), bsel_true, hN, Int.toNat_natCast, decT (by omega), decT (by omega), Bool.true_and, chk_tt, Int.toNat_natCast, nget_bit (bAt (by omega)), vB_mk, hbi, bsel_true, chk_tt, lget_int hy, vI_mk, decT (by omega), decT (by omega), Bool.true_and, chk_tt, decT (by simp; omega), chk_tt, bitL_set, bitL_flC, Bool.true_and, chk_tt, wrs (by omega), ih (k + 1) _ (by omega) (by simpa using hb) (set_mono hbi)]
    rfl
theorem l21 {p : Prg} (hok : okL (wd p) p.list) : ∀ (m k : Nat) (b : List Bool), k + m = p.list.length → b.length = p.list.length + 1 → g21_L5 p.ni p.no p.nm (bitL p.start) (insL p.list) (k : Int) (bitL b) = Ret (.sl false 1 (bitL (reachF k (p.list.drop k) b))) := by
  have hn := hok.1
  have hN := lenW hn
  intro m
  induction m with
  | zero =>
    intro k b hk hb
    rw [g21_L5_eq, bitL_flC, Bool.true_and, chk_tt, decF (by simp; omega), bsel_false, hN, Int.toNat_natCast, bitL_of, decT (by simp; omega), bitL_chunk _ (by omega), List.drop_of_length_le (by omega)]
    rfl
  | succ m ih =>
    intro k b hk hb
    obtain ⟨x, hx⟩ := get_lt (show k < p.list.length by omega)
    have h47 := c47 hok hx
    unfold prgP at h47
    have hnl : (nextI k x).length ≤ 2 := by unfold nextI; split <;> (try split) <;> (try split) <;> simp
    rw [drop_get hx, reachF, g21_L5_eq, bitL_flC, Bool.true_and, chk_tt, decT (by simp; omega), bsel_true, chk_tt, clX_of h47, vL_mk]
    cases hbk : b.getD k false with
    | false =>
      have hnx := ih (k + 1) b (by omega) hb
      rw [stepR, hbk, if_neg (by simp), ← hnx, g21_L9_eq, bitL_flC, Bool.true_and, chk_tt, hN, Int.toNat_natCast, decT (show (0 : Int) ≤ (k : Int) by omega), decT (show (k : Int) < ((p.list.length + 1 : Nat) : Int) by omega), Bool.true_and, chk_tt, Int.toNat_natCast, nget_bit (bAt (by omega)), vB_mk, hbk, bsel_false, chk_tt, wrs (by omega)]
      cases decide ((0 : Int) < ((intL (nextI k x)).length : Int)) <;> rfl
    | true =>
      have h := l21i hok (nextI k x) (show k < p.list.length by omega) (fun n hn => next_mem hok hx hn) hnl (nextI k x).length 0 b (by omega) hb hbk
      rw [List.drop_zero, set_next (l := p.list)] at h
      rw [stepR, hbk, if_pos rfl]
      refine h.trans ?_
      exact ih (k + 1) _ (by omega) (by simpa using hb)
theorem c21 {p : Prg} (hok : okL (wd p) p.list) : SS.CC 21 [prgP p] [] = Ret (.sl false 1 (bitL (reachS p.list))) := by
  have hn := hok.1
  have hN := lenW hn
  unfold prgP
  rw [g21_eq, hN, decT rfl, decT (by omega), decT (by omega), Bool.and_self, Bool.and_self, chk_tt, Int.toNat_natCast, decT (by omega), decT (by omega), Bool.and_self, chk_tt, decT (by simp), chk_tt]
  have h := l21 hok p.list.length 0 (reach0 p.list.length) (by omega) (by simp [reach0])
  rw [List.drop_zero] at h
  show g21_L5 _ _ _ _ _ _ ((List.replicate (p.list.length + 1) (PV.bool false)).set 0 (.bool true)) = _
  rw [rep0]; exact h
/-! ### needed, dead -/
theorem c48 (a : Int) : SS.CC 48 [.int .i64 a] [] = Ret (.bool (decide (a = 7 ∨ a = 8))) := by
  rw [g48_eq]
  by_cases h : a = 7
  · rw [eqT h, bsel_true, decT (.inl h)]
  · rw [eqF h, bsel_false]
    by_cases h8 : a = 8
    · rw [eqT h8, decT (.inr h8)]
    · rw [eqF h8, decF (by omega)]
theorem c31 (a : Int) : SS.CC 31 [.int .i64 a] [] = Ret (.bool (decide (1 ≤ a) && decide (a ≤ 6))) := by
  rw [g31_eq]; cases decide (1 ≤ a) <;> rfl
theorem c49 {p : Prg} (hok : okL (wd p) p.list) {bit : Int} (hb0 : 0 ≤ bit) (hb1 : bit < wd p) : ∀ (m i : Nat), p.list.length ≤ i + m → i ≤ p.list.length → SS.CC 49 [prgP p, .int .i64 (i : Int), .int .i64 bit] [] = Ret (.bool ((NS (wd p) p.list i).getD bit.toNat false)) := by
  have hn := hok.1
  intro m
  induction m with
  | zero =>
    intro i h1 h2
    rw [NS_end _ _ (by omega)]
    unfold prgP
    rw [g49_eq, eqT (by simp; omega), bsel_true, List.getD_eq_getElem?_getD, List.getElem?_replicate, if_pos (by omega)]; rfl
  | succ m ih =>
    intro i h1 h2
    by_cases hi : i < p.list.length
    · obtain ⟨x, hx⟩ := get_lt hi
      obtain ⟨o1, o2, o3, o4⟩ := hok.2 i x hx
      have h47 := c47 hok hx
      have hN1 := NS_len hok p.list.length (i + 1) (by omega)
      have ih1 := ih (i + 1) (by omega) (by omega)
      have hst := NS_step hok hx
      unfold prgP at h47 ih1 ⊢
      have J9 : g49_J9 (i : Int) bit p.ni p.no p.nm (bitL p.start) (insL p.list) = Ret (.bool (if x.1 ≤ 10 then (NS (wd p) p.list (i + 1)).getD bit.toNat false else (NS (wd p) p.list i).getD bit.toNat false)) := by
        rw [g49_J9_eq, clX_of h47, vL_mk]
        have g0 : ∀ (a : Int) (r : List Int) (K : PV → R), lgetX (intL (a :: r)) 0 K = K (.int .i64 a) := fun a r K => lgetX_of (by omega) rfl
        have g1 : ∀ (a b : Int) (r : List Int) (K : PV → R), lgetX (intL (a :: b :: r)) 1 K = K (.int .i64 b) := fun a b r K => lgetX_of (by omega) rfl
        have fin : ∀ (a : Int) (v : Bool), SS.CC 49 [.agg [.int .i64 p.ni, .int .i64 p.no, .int .i64 p.nm, .sl false 1 (bitL p.start), .sl false 2 (insL p.list)], .int .i64 a, .int .i64 bit] [] = Ret (.bool v) → g49_L11 bit p.ni p.no p.nm (bitL p.start) (insL p.list) (intL [a]) 0 = Ret (.bool v) := fun a v h => by
          rw [g49_L11_eq, decT (by simp [intL]), bsel_true, g0, vI_mk, clX_of h, vB_mk]
          cases v with
          | true => rfl
          | false => rw [bsel_false, show IntKind.i64.wrap (0 + 1) = 1 from rfl, g49_L11_eq, decF (by simp [intL]), bsel_false]
        have ih1' : SS.CC 49 [.agg [.int .i64 p.ni, .int .i64 p.no, .int .i64 p.nm, .sl false 1 (bitL p.start), .sl false 2 (insL p.list)], .int .i64 ((i : Int) + 1), .int .i64 bit] [] = Ret (.bool ((NS (wd p) p.list (i + 1)).getD bit.toNat false)) := ih1
        unfold nextI
        by_cases h11 : x.1 = 11
        · have hj := o4 (by omega)
          have ih2 := ih x.2.toNat (by omega) (by omega)
          unfold prgP at ih2
          rw [show ((x.2.toNat : Nat) : Int) = x.2 by omega] at ih2
          rw [if_pos h11, fin _ _ ih2, if_neg (by omega), hst, if_neg (by omega), if_neg (by omega), if_neg (by omega), if_pos h11]
        · rw [if_neg h11]
          by_cases h12 : 11 ≤ x.1
          · have hj := o4 h12
            have ih2 := ih x.2.toNat (by omega) (by omega)
            unfold prgP at ih2
            rw [show ((x.2.toNat : Nat) : Int) = x.2 by omega] at ih2
            have hN2 := NS_len hok p.list.length x.2.toNat (by omega)
            have hstJ : NS (wd p) p.list i = orS (NS (wd p) p.list (i + 1)) (NS (wd p) p.list x.2.toNat) := by rw [hst, if_neg (by omega), if_neg (by omega), if_neg (by omega), if_neg h11]
            rw [if_pos h12, if_neg (show ¬ x.1 ≤ 10 by omega), hstJ, orS_getD (by omega)]
            by_cases h13 : x.2 = (i : Int) + 1
            · rw [if_neg (by simpa using h13), fin _ _ ih1', show x.2.toNat = i + 1 by omega, Bool.or_self]
            · rw [if_pos h13, g49_L11_eq, decT (by simp [intL]), bsel_true, g0, vI_mk, clX_of ih1', vB_mk]
              cases (NS (wd p) p.list (i + 1)).getD bit.toNat false with
              | true => rfl
              | false =>
                rw [bsel_false, show IntKind.i64.wrap (0 + 1) = 1 from rfl, g49_L11_eq, decT (by simp [intL]), bsel_true, g1, vI_mk, clX_of ih2, vB_mk, Bool.false_or]
                cases (NS (wd p) p.list x.2.toNat).getD bit.toNat false with
                | true => rfl
                | false => rw [bsel_false, show IntKind.i64.wrap (1 + 1) = 2 from rfl, g49_L11_eq, decF (by simp [intL]), bsel_false]
          · rw [if_neg h12, fin _ _ ih1', if_pos (by omega)]
      have hne : x.2 ≠ bit → x.1 ≤ 10 → x.2.toNat ≠ bit.toNat := fun h h2 => by have := o3 h2; omega
      have J7 : 7 ≤ x.1 → g49_J7 (i : Int) bit p.ni p.no p.nm (bitL p.start) (insL p.list) x.1 x.2 = Ret (.bool ((NS (wd p) p.list i).getD bit.toNat false)) := fun h7 => by
        rw [g49_J7_eq, clX_of (c48 _), vB_mk]
        by_cases h78 : x.1 = 7 ∨ x.1 = 8
        · rw [decT h78, bsel_true, hst, if_neg (by omega), if_pos (by omega)]
          by_cases hb : x.2 = bit
          · rw [eqT hb, bsel_true, getD_setB, if_pos (by rw [hb]; omega)]
          · rw [eqF hb, bsel_false, J9, if_pos (by omega), getD_setB, if_neg (fun h => hne hb (by omega) h.1)]
        · rw [decF h78, bsel_false, J9]
          by_cases h10 : x.1 ≤ 10
          · rw [if_pos h10, hst, if_neg (by omega), if_neg (by omega), if_pos h10]
          · rw [if_neg h10]
      rw [g49_eq, eqF (by simp; omega), bsel_false, lget_ins hx, v57_mk, clX_of (c31 _), vB_mk, decT o1, Bool.true_and]
      by_cases h6 : x.1 ≤ 6
      · rw [decT h6, bsel_true, hst, if_pos h6]
        by_cases hb : x.2 = bit
        · rw [eqT hb, bsel_true, getD_setB, if_pos (by rw [hb]; omega)]
        · rw [eqF hb, bsel_false, g49_J7_eq, clX_of (c48 _), vB_mk, decF (by omega), bsel_false, J9, if_pos (by omega), getD_setB, if_neg (fun h => hne hb (by omega) h.1)]
      · rw [decF h6, bsel_false]
        exact J7 (by omega)
    · have e : i = p.list.length := by omega
      rw [NS_end _ _ (by omega)]
      unfold prgP
      rw [g49_eq, eqT (by simp; omega), bsel_true, List.getD_eq_getElem?_getD, List.getElem?_replicate, if_pos (by omega)]; rfl
theorem c22 {p : Prg} (hok : okL (wd p) p.list) {i : Nat} {x : Ins} (hx : p.list[i]? = some x) : SS.CC 22 [prgP p, .int .i64 (i : Int)] [] = Ret (.bool (DS (wd p) p.list i x)) := by
  have hi := (List.getElem?_eq_some_iff.1 hx).1
  have hn := hok.1
  obtain ⟨o1, o2, o3, o4⟩ := hok.2 i x hx
  have h21 := c21 hok
  have h49 := fun (h : x.1 ≤ 10) => c49 hok (o3 h).1 (o3 h).2 p.list.length (i + 1) (by omega) (by omega)
  unfold prgP at h21 h49 ⊢
  unfold DS
  rw [g22_eq, clX_of h21, vL_mk, lget_bit (bAt (by simp; omega)), vB_mk]
  show bsel (RS p.list i) _ _ = _
  cases hr : RS p.list i with
  | false => rw [bsel_false, Bool.false_and]; split <;> rfl
  | true =>
    rw [bsel_true, lget_ins hx, v57_mk, clX_of (c48 _), vB_mk]
    by_cases h78 : x.1 = 7 ∨ x.1 = 8
    · rw [decT h78, bsel_true, lget_ins hx, v57_mk, wrs (by omega), clX_of (h49 (by omega)), vB_mk, if_pos h78, Bool.true_and]
    · rw [decF h78, bsel_false, if_neg h78]
end Go.Proofs.YtiejgieiokmmfaaDoor

/-
  The laws Reaches and Compacts.
-/
import Derived.Test.YtiejgieiokmmfaaDoorC52i
namespace Go.Proofs.YtiejgieiokmmfaaDoor
set_option linter.unusedVariables false
set_option linter.unusedSimpArgs false
set_option linter.unnecessarySimpa false
set_option linter.unusedSectionVars false
open Go.RowKit
/-! ### sorted, without repeats -/
theorem sort_mem (zs : List Int) (x : Int) : x ∈ sortI zs ↔ x ∈ zs := List.mem_mergeSort
theorem sort_le (zs : List Int) : (sortI zs).Pairwise (· ≤ ·) := by
  have := List.pairwise_mergeSort (le := fun x y : Int => decide (x ≤ y)) (fun a b c h1 h2 => by simp at *; omega) (fun a b => by simp; omega) zs
  exact this.imp fun h => by simpa using h
theorem ded_lt : ∀ {l : List Int} {p : Int}, (p :: l).Pairwise (· ≤ ·) → (p :: dedA p l).Pairwise (· < ·) ∧ (∀ y, y ∈ p :: dedA p l ↔ y ∈ p :: l)
  | [], p, _ => by simp [dedA]
  | y :: r, p, h => by
    obtain ⟨h1, h2⟩ := List.pairwise_cons.1 h
    obtain ⟨h3, h4⟩ := List.pairwise_cons.1 h2
    rw [dedA]
    split
    · rename_i e
      subst e
      obtain ⟨g1, g2⟩ := ded_lt h2
      refine ⟨g1, fun z => ?_⟩
      rw [g2 z]; simp
    · rename_i e
      obtain ⟨g1, g2⟩ := ded_lt h2
      have hpy : p < y := by have := h1 y (by simp); omega
      refine ⟨List.pairwise_cons.2 ⟨fun z hz => ?_, g1⟩, fun z => ?_⟩
      · rcases List.mem_cons.1 hz with rfl | hz
        · exact hpy
        · have := (List.pairwise_cons.1 g1).1 z hz; omega
      · rw [List.mem_cons, g2 z, List.mem_cons (a := z) (b := p)]
theorem use_inc (zs : List Int) : (useS zs).Pairwise (· < ·) ∧ ∀ y, y ∈ useS zs ↔ y ∈ zs := by
  unfold useS
  have h := sort_le zs
  have hm := sort_mem zs
  cases hs : sortI zs with
  | nil =>
    rw [hs] at hm
    exact ⟨List.Pairwise.nil, fun y => hm y⟩
  | cons x r =>
    rw [hs] at h hm
    obtain ⟨g1, g2⟩ := ded_lt h
    exact ⟨g1, fun y => (g2 y).trans (hm y)⟩
theorem readsF_mem (R : List Bool) (y : Int) : ∀ (l : List Ins) (i : Nat), y ∈ readsF R i l ↔ ∃ k x, l[k]? = some x ∧ R.getD (i + k) false = true ∧ x.1 ≤ 6 ∧ y = x.2
  | [], i => by simp [readsF]
  | x :: l, i => by
    have ih := readsF_mem R y l (i + 1)
    have e : (∃ k z, (x :: l)[k]? = some z ∧ R.getD (i + k) false = true ∧ z.1 ≤ 6 ∧ y = z.2) ↔ (R.getD i false = true ∧ x.1 ≤ 6 ∧ y = x.2) ∨ ∃ k z, l[k]? = some z ∧ R.getD (i + 1 + k) false = true ∧ z.1 ≤ 6 ∧ y = z.2 := by
      constructor
      · rintro ⟨k, z, h1, h2⟩
        cases k with
        | zero => simp at h1; subst h1; exact .inl h2
        | succ k => exact .inr ⟨k, z, by simpa using h1, by rw [show i + 1 + k = i + (k + 1) by omega]; exact h2⟩
      · rintro (h | ⟨k, z, h1, h2⟩)
        · exact ⟨0, x, rfl, h⟩
        · exact ⟨k + 1, z, by simpa using h1, by rw [show i + (k + 1) = i + 1 + k by omega]; exact h2⟩
    rw [e, readsF]
    split
    · rename_i h
      rw [List.mem_cons, ih]
      exact ⟨fun h2 => h2.imp (fun e => ⟨h.1, h.2, e⟩) id, fun h2 => h2.imp (fun e => e.2.2) id⟩
    · rename_i h
      rw [ih]
      constructor
      · exact .inr
      · rintro (h2 | h2)
        · exact absurd ⟨h2.1, h2.2.1⟩ h
        · exact h2
theorem writesF_mem (R : List Bool) (y : Int) : ∀ (l : List Ins) (i : Nat), y ∈ writesF R i l ↔ ∃ k x, l[k]? = some x ∧ R.getD (i + k) false = true ∧ 7 ≤ x.1 ∧ x.1 ≤ 10 ∧ y = x.2
  | [], i => by simp [writesF]
  | x :: l, i => by
    have ih := writesF_mem R y l (i + 1)
    have e : (∃ k z, (x :: l)[k]? = some z ∧ R.getD (i + k) false = true ∧ 7 ≤ z.1 ∧ z.1 ≤ 10 ∧ y = z.2) ↔ (R.getD i false = true ∧ 7 ≤ x.1 ∧ x.1 ≤ 10 ∧ y = x.2) ∨ ∃ k z, l[k]? = some z ∧ R.getD (i + 1 + k) false = true ∧ 7 ≤ z.1 ∧ z.1 ≤ 10 ∧ y = z.2 := by
      constructor
      · rintro ⟨k, z, h1, h2⟩
        cases k with
        | zero => simp at h1; subst h1; exact .inl h2
        | succ k => exact .inr ⟨k, z, by simpa using h1, by rw [show i + 1 + k = i + (k + 1) by omega]; exact h2⟩
      · rintro (h | ⟨k, z, h1, h2⟩)
        · exact ⟨0, x, rfl, h⟩
        · exact ⟨k + 1, z, by simpa using h1, by rw [show i + (k + 1) = i + 1 + k by omega]; exact h2⟩
    rw [e, writesF]
    split
    · rename_i h
      rw [List.mem_cons, ih]
      exact ⟨fun h2 => h2.imp (fun e => ⟨h.1, h.2.1, h.2.2, e⟩) id, fun h2 => h2.imp (fun e => e.2.2.2) id⟩
    · rename_i h
      rw [ih]
      constructor
      · exact .inr
      · rintro (h2 | h2)
        · exact absurd ⟨h2.1, h2.2.1, h2.2.2.1⟩ h
        · exact h2
/-! ### the model's lists of bits -/
def rdB (R : List Bool) (bit : Int) (k : Nat) (x : Ins) : Bool := R.getD k false && (decide (x.1 ≤ 6) && (x.2 == bit))
def wrB (R : List Bool) (bit : Int) (k : Nat) (x : Ins) : Bool := R.getD k false && (decide (7 ≤ x.1) && decide (x.1 ≤ 10) && (x.2 == bit))
def anyF (P : Nat → Ins → Bool) : Nat → List Ins → Bool
  | _, [] => false
  | k, x :: l => P k x || anyF P (k + 1) l
theorem anyF_iff (P : Nat → Ins → Bool) : ∀ (l : List Ins) (i : Nat), anyF P i l = true ↔ ∃ k x, l[k]? = some x ∧ P (i + k) x = true
  | [], i => by simp [anyF]
  | x :: l, i => by
    rw [anyF, Bool.or_eq_true, anyF_iff P l (i + 1)]
    constructor
    · rintro (h | ⟨k, z, h1, h2⟩)
      · exact ⟨0, x, rfl, h⟩
      · exact ⟨k + 1, z, by simpa using h1, by rw [show i + (k + 1) = i + 1 + k by omega]; exact h2⟩
    · rintro ⟨k, z, h1, h2⟩
      cases k with
      | zero => simp at h1; subst h1; exact .inl h2
      | succ k => exact .inr ⟨k, z, by simpa using h1, by rw [show i + 1 + k = i + (k + 1) by omega]; exact h2⟩
def bitsF (q : Int → Bool) : Nat → Nat → List Int
  | 0, _ => []
  | m + 1, b => if q (b : Int) = true then (b : Int) :: bitsF q m (b + 1) else bitsF q m (b + 1)
theorem bitsF_mem (q : Int → Bool) (y : Int) : ∀ (m b : Nat), y ∈ bitsF q m b ↔ (b : Int) ≤ y ∧ y < ((b + m : Nat) : Int) ∧ q y = true
  | 0, b => by simp [bitsF]; omega
  | m + 1, b => by
    have ih := bitsF_mem q y m (b + 1)
    rw [bitsF]
    split
    · rename_i h
      rw [List.mem_cons, ih]
      constructor
      · rintro (rfl | h2)
        · exact ⟨by omega, by omega, h⟩
        · exact ⟨by omega, by omega, h2.2.2⟩
      · intro h2
        by_cases e : y = (b : Int)
        · exact .inl e
        · exact .inr ⟨by omega, by omega, h2.2.2⟩
    · rename_i h
      rw [ih]
      constructor
      · intro h2; exact ⟨by omega, by omega, h2.2.2⟩
      · intro h2
        have : y ≠ (b : Int) := fun e => h (by rw [← e]; exact h2.2.2)
        exact ⟨by omega, by omega, h2.2.2⟩
theorem bitsF_inc (q : Int → Bool) : ∀ (m b : Nat), (bitsF q m b).Pairwise (· < ·)
  | 0, b => List.Pairwise.nil
  | m + 1, b => by
    rw [bitsF]
    split
    · refine List.pairwise_cons.2 ⟨fun y hy => ?_, bitsF_inc q m (b + 1)⟩
      have := (bitsF_mem q y m (b + 1)).1 hy; omega
    · exact bitsF_inc q m (b + 1)
theorem bitsF_len (q : Int → Bool) : ∀ (m b : Nat), (bitsF q m b).length ≤ m
  | 0, b => by simp [bitsF]
  | m + 1, b => by
    have := bitsF_len q m (b + 1)
    rw [bitsF]; split
    · simp; omega
    · omega
theorem reads_eq {l : List Ins} (hok : okL 8 l) : bitsF (fun b => anyF (rdB (reachS l) b) 0 l) 8 0 = readsS l := by
  obtain ⟨h1, h2⟩ := use_inc (readsF (reachS l) 0 l)
  refine inc_ext (bitsF_inc _ _ _) h1 fun y => ?_
  show _ ↔ y ∈ useS _
  rw [h2, bitsF_mem, readsF_mem, anyF_iff]
  constructor
  · rintro ⟨_, _, k, x, hx, hp⟩
    unfold rdB at hp
    simp only [Bool.and_eq_true, decide_eq_true_eq, beq_iff_eq] at hp
    exact ⟨k, x, hx, hp.1, hp.2.1, hp.2.2.symm⟩
  · rintro ⟨k, x, hx, hr, h6, rfl⟩
    have := (hok.2 k x hx).2.2.1 (by omega)
    refine ⟨by omega, by omega, k, x, hx, ?_⟩
    unfold rdB
    rw [hr, decT h6]; simp
theorem writes_eq {l : List Ins} (hok : okL 8 l) : bitsF (fun b => anyF (wrB (reachS l) b) 0 l) 8 0 = writesS l := by
  obtain ⟨h1, h2⟩ := use_inc (writesF (reachS l) 0 l)
  refine inc_ext (bitsF_inc _ _ _) h1 fun y => ?_
  show _ ↔ y ∈ useS _
  rw [h2, bitsF_mem, writesF_mem, anyF_iff]
  constructor
  · rintro ⟨_, _, k, x, hx, hp⟩
    unfold wrB at hp
    simp only [Bool.and_eq_true, decide_eq_true_eq, beq_iff_eq] at hp
    exact ⟨k, x, hx, hp.1, hp.2.1.1, hp.2.1.2, hp.2.2.symm⟩
  · rintro ⟨k, x, hx, hr, h7, h10, rfl⟩
    have := (hok.2 k x hx).2.2.1 (by omega)
    refine ⟨by omega, by omega, k, x, hx, ?_⟩
    unfold wrB
    rw [hr, decT h7, decT h10]; simp
/-! ### the law Reaches -/
section
variable {p : Prg} (hok : okL 8 p.list) (hw : wd p = 8) (u d r w : List Int)
include hok hw
theorem l7b (hu : u.length ≤ 100000) (hd : d.length ≤ 100000) (hr : r.length ≤ 100000) (hwl : w.length ≤ 100000) (A B : List Int) (Rc : List Bool) (hR : Rc.length = p.list.length + 1) : ∀ (m b : Nat) (C Y : List Int), b + m = 8 → C.length ≤ b → Y.length ≤ b →
    g7_L18 (intL u) 0 (intL d) 0 (intL r) (intL w) 0 (bitL Rc) p.ni p.no p.nm (bitL p.start) (insL p.list) (b : Int) (intL A) (intL B) (intL C) (intL Y) =
    Ret (.bool (decide (u = A) && (decide (d = B) && (decide (r = C ++ bitsF (fun q => anyF (rdB Rc q) 0 p.list) m b) && decide (w = Y ++ bitsF (fun q => anyF (wrB Rc q) 0 p.list) m b))))) := by
  have hn := hok.1
  have k31 : ∀ (n : Int) (K : PV → R), clX SS.CC 31 [.int .i64 n] K = K (.bool (decide (1 ≤ n) && decide (n ≤ 6))) := fun n K => clX_of (c31 n)
  have k32 : ∀ (n : Int) (K : PV → R), clX SS.CC 32 [.int .i64 n] K = K (.bool (decide (7 ≤ n) && decide (n ≤ 10))) := fun n K => clX_of (c32 n)
  intro m
  induction m with
  | zero =>
    intro b C Y hb hC hY
    rw [g7_L18_eq, decF (by omega), bsel_false, show ((0 : Int) == 0) = true from rfl, bsel_true, bsel_true, bsel_true, clX_of (c19 _ _ (by omega)), vB_mk, bitsF, bitsF, List.append_nil, List.append_nil]
    cases decide (u = A) with
    | false => rfl
    | true =>
      rw [bsel_true, clX_of (c19 _ _ (by omega)), vB_mk]
      cases decide (d = B) with
      | false => rfl
      | true =>
        rw [bsel_true, clX_of (c19 _ _ (by omega)), vB_mk]
        cases decide (r = C) with
        | false => rfl
        | true => rw [bsel_true, clX_of (c19 _ _ (by omega)), vB_mk]; rfl
  | succ m ih =>
    intro b C Y hb hC hY
    rw [g7_L18_eq, decT (by omega), bsel_true]
    have inner : ∀ (j k : Nat) (f g : Bool), k + j = p.list.length →
        g7_L22 (intL u) 0 (intL d) 0 (intL r) (intL w) 0 (bitL Rc) p.ni p.no p.nm (bitL p.start) (insL p.list) f g (k : Int) (intL A) (intL B) (b : Int) (intL C) (intL Y) =
        g7_L22 (intL u) 0 (intL d) 0 (intL r) (intL w) 0 (bitL Rc) p.ni p.no p.nm (bitL p.start) (insL p.list) (f || anyF (rdB Rc b) k (p.list.drop k)) (g || anyF (wrB Rc b) k (p.list.drop k)) (p.list.length : Int) (intL A) (intL B) (b : Int) (intL C) (intL Y) := by
      intro j
      induction j with
      | zero =>
        intro k f g hk
        rw [List.drop_of_length_le (by omega), anyF, anyF, Bool.or_false, Bool.or_false, show k = p.list.length by omega]
      | succ j ihj =>
        intro k f g hk
        obtain ⟨x, hx⟩ := get_lt (show k < p.list.length by omega)
        obtain ⟨o1, o2, o3, o4⟩ := hok.2 k x hx
        have hs := ihj (k + 1) (f || rdB Rc b k x) (g || wrB Rc b k x) (by omega)
        rw [drop_get hx, anyF, anyF, ← Bool.or_assoc, ← Bool.or_assoc, ← hs, g7_L22_eq, decT (by simp; omega), bsel_true]
        simp only [lget_bit (bAt (b := Rc) (k := k) (by omega)), lget_ins hx, vB_mk, v57_mk, k31, k32, wrs (show k < 1000000000000000 by omega)]
        unfold rdB wrB
        cases f <;> cases g <;> cases Rc.getD k false <;> simp only [bsel_true, bsel_false, Bool.true_or, Bool.false_or, Bool.true_and, Bool.false_and, decT o1] <;> try rfl
        all_goals (by_cases h6 : x.1 ≤ 6)
        all_goals (by_cases h10 : x.1 ≤ 10)
        all_goals (first | omega | skip)
        all_goals (first
          | simp only [decT (show x.1 ≤ 6 from h6), decT (show x.1 ≤ 10 from h10), decF (show ¬ 7 ≤ x.1 by omega), bsel_true, bsel_false, Bool.true_and, Bool.false_and, Bool.and_false]
          | simp only [decF (show ¬ x.1 ≤ 6 from h6), decT (show x.1 ≤ 10 from h10), decT (show 7 ≤ x.1 by omega), bsel_true, bsel_false, Bool.true_and, Bool.false_and, Bool.and_self]
          | simp only [decF (show ¬ x.1 ≤ 6 from h6), decF (show ¬ x.1 ≤ 10 from h10), bsel_true, bsel_false, Bool.true_and, Bool.false_and, Bool.and_false])
    refine (show _ = _ from inner p.list.length 0 false false (by omega)).trans ?_
    rw [List.drop_zero, Bool.false_or, Bool.false_or, g7_L22_eq, decF (by simp), bsel_false, bitsF, bitsF]
    have J : ∀ C2 : List Int, C2.length ≤ b + 1 → g7_J28 (intL u) 0 (intL d) 0 (intL r) (intL w) 0 (bitL Rc) p.ni p.no p.nm (bitL p.start) (insL p.list) (intL A) (intL B) (intL C2) (b : Int) (anyF (wrB Rc b) 0 p.list) (intL Y) =
        Ret (.bool (decide (u = A) && (decide (d = B) && (decide (r = C2 ++ bitsF (fun q => anyF (rdB Rc q) 0 p.list) m (b + 1)) && decide (w = Y ++ (if anyF (wrB Rc b) 0 p.list = true then (b : Int) :: bitsF (fun q => anyF (wrB Rc q) 0 p.list) m (b + 1) else bitsF (fun q => anyF (wrB Rc q) 0 p.list) m (b + 1))))))) := fun C2 hC2 => by
      rw [g7_J28_eq, wrs (by omega)]
      cases anyF (wrB Rc b) 0 p.list with
      | true =>
        rw [bsel_true, chk_of (decT (by simp [LIM]; omega)), intL_snoc, ih (b + 1) _ _ (by omega) hC2 (by simp; omega), if_pos rfl, List.append_assoc]; rfl
      | false => rw [bsel_false, ih (b + 1) _ _ (by omega) hC2 (by omega), if_neg (by simp)]
    cases hc : anyF (rdB Rc b) 0 p.list with
    | true =>
      rw [bsel_true, chk_of (decT (by simp [LIM]; omega)), intL_snoc, if_pos rfl]
      have := J (C ++ [(b : Int)]) (by simp; omega)
      rw [List.append_assoc] at this
      exact this
    | false =>
      rw [bsel_false, if_neg (by simp)]
      exact J C (by omega)
theorem l7a (A0 B0 : List Int) : ∀ (m k : Nat) (A B : List Int), k + m = p.list.length → A.length ≤ k → B.length ≤ k →
    g7_L11 (intL u) 0 (intL d) 0 (intL r) (intL w) 0 (bitL (reachS p.list)) p.ni p.no p.nm (bitL p.start) (insL p.list) (intL A) (intL B) (k : Int) =
    g7_L18 (intL u) 0 (intL d) 0 (intL r) (intL w) 0 (bitL (reachS p.list)) p.ni p.no p.nm (bitL p.start) (insL p.list) 0 (intL (A ++ selS false k (((reachS p.list).take p.list.length).drop k))) (intL (B ++ selS true k ((deadS 8 p.list).drop k))) [] [] := by
  have hn := hok.1
  intro m
  induction m with
  | zero =>
    intro k A B hk hA hB
    rw [g7_L11_eq, decF (by simp; omega), bsel_false, List.drop_of_length_le (by simp; omega), List.drop_of_length_le (by simp; omega), selS, selS, List.append_nil, List.append_nil]
  | succ m ih =>
    intro k A B hk hA hB
    obtain ⟨x, hx⟩ := get_lt (show k < p.list.length by omega)
    have h22 := c22 (p := p) (by rw [hw]; exact hok) hx
    rw [hw] at h22
    have hd := dead_get (w := 8) hx
    have hr : ((reachS p.list).take p.list.length)[k]? = some ((reachS p.list).getD k false) := by rw [List.getElem?_take_of_lt (by omega)]; exact bAt (by simp; omega)
    unfold prgP at h22
    have J : ∀ A2 : List Int, A2.length ≤ k + 1 → g7_J15 (intL u) 0 (intL d) 0 (intL r) (intL w) 0 (bitL (reachS p.list)) p.ni p.no p.nm (bitL p.start) (insL p.list) (intL A2) (intL B) (k : Int) =
        g7_L18 (intL u) 0 (intL d) 0 (intL r) (intL w) 0 (bitL (reachS p.list)) p.ni p.no p.nm (bitL p.start) (insL p.list) 0 (intL (A2 ++ selS false (k + 1) (((reachS p.list).take p.list.length).drop (k + 1)))) (intL (B ++ selS true k ((deadS 8 p.list).drop k))) [] [] := fun A2 hA2 => by
      rw [g7_J15_eq, clX_of h22, vB_mk, wrs (by omega), drop_get hd, selS]
      cases DS 8 p.list k x with
      | true => rw [bsel_true, chk_of (decT (by simp [LIM]; omega)), intL_snoc, ih (k + 1) _ _ (by omega) hA2 (by simp; omega), if_pos rfl, List.append_assoc]; rfl
      | false => rw [bsel_false, ih (k + 1) _ _ (by omega) hA2 (by omega), if_neg (by simp)]
    rw [g7_L11_eq, decT (by simp; omega), bsel_true, lget_bit (bAt (by simp; omega)), vB_mk, drop_get hr, selS]
    cases (reachS p.list).getD k false with
    | false =>
      rw [Bool.not_false, bsel_true, chk_of (decT (by simp [LIM]; omega)), intL_snoc, J _ (by simp; omega), if_pos rfl, List.append_assoc]; rfl
    | true =>
      rw [Bool.not_true, bsel_false, J _ (by omega), if_neg (by simp)]
end
theorem ded_len (l : List Int) : (dedS l).length ≤ l.length := by
  cases l with
  | nil => exact Nat.le_refl _
  | cons x r => have := dedA_len r x; simp [dedS]; omega
theorem make8 (s : Int) (l : List (UInt8 × UInt8)) : (makeS s l).ok8 := ⟨make_ok s l, rfl⟩
theorem law7 (s : Int) (l : List (UInt8 × UInt8)) : SS.CC 7 [.agg [.int .u8 s, .sl false 2 (u2L l)]] [] = Ret (.bool true) := by
  rw [g7_eq, c10k, vB_mk, Bool.not_true, bsel_false, clX_of (c11 s l)]
  obtain ⟨p, hp⟩ : ∃ p, makeS s l = p := ⟨_, rfl⟩
  have h8 : p.ok8 := by rw [← hp]; exact make8 s l
  rw [hp]
  have hok := h8.okL
  have hn := hok.1
  have h28 := c28 h8
  have h29 := c29 h8
  have h30 := c30 h8
  have h21 := c21 (p := p) (by rw [h8.w8]; exact hok)
  have lu : (unrS p.list).length ≤ 100000 := by unfold unrS; have := sel_len false ((reachS p.list).take p.list.length) 0; simp at this; omega
  have ld : (selS true 0 (deadS 8 p.list)).length ≤ 100000 := by have := sel_len true (deadS 8 p.list) 0; simp at this; omega
  have lr : (readsS p.list).length ≤ 100000 := by rw [← reads_eq hok]; have := bitsF_len (fun b => anyF (rdB (reachS p.list) b) 0 p.list) 8 0; omega
  have lw : (writesS p.list).length ≤ 100000 := by rw [← writes_eq hok]; have := bitsF_len (fun b => anyF (wrB (reachS p.list) b) 0 p.list) 8 0; omega
  unfold prgP at h28 h29 h30 h21 ⊢
  rw [v29_mk, clX_of h28, w_43_3_mk, clX_of h29, w_43_3_mk, clX_of h30, w_43_43_3_mk, clX_of h21, vL_mk]
  have e1 := l7a hok h8.w8 (unrS p.list) (selS true 0 (deadS 8 p.list)) (readsS p.list) (writesS p.list) [] [] p.list.length 0 [] [] (by omega) (by simp) (by simp)
  have e2 := l7b hok h8.w8 (unrS p.list) (selS true 0 (deadS 8 p.list)) (readsS p.list) (writesS p.list) lu ld lr lw (unrS p.list) (selS true 0 (deadS 8 p.list)) (reachS p.list) (by simp) 8 0 [] [] (by omega) (by simp) (by simp)
  simp only [List.nil_append, List.drop_zero] at e1 e2
  refine (show _ = _ from e1).trans ((show _ = _ from e2).trans ?_)
  rw [reads_eq hok, writes_eq hok]
  simp
end Go.Proofs.YtiejgieiokmmfaaDoor

/-
  Bits, comparisons, Check.
-/
import Derived.Test.YtiejgieiokmmfaaGreatDoorZL52
namespace Go.Proofs.YtiejgieiokmmfaaGreatDoor
set_option linter.unusedVariables false
set_option linter.unusedSimpArgs false
set_option linter.unnecessarySimpa false
set_option linter.unusedSectionVars false
open Go.RowKit
/-! ### comparisons -/
theorem take_snoc_eq {α : Type} [DecidableEq α] {a b : List α} {k : Nat} {x y : α} (ha : a[k]? = some x) (hb : b[k]? = some y) : a.take (k + 1) = b.take (k + 1) ↔ a.take k = b.take k ∧ x = y := by
  have h1 := (List.getElem?_eq_some_iff.1 ha); have h2 := (List.getElem?_eq_some_iff.1 hb)
  obtain ⟨h1, rfl⟩ := h1; obtain ⟨h2, rfl⟩ := h2
  rw [← List.take_append_getElem h1, ← List.take_append_getElem h2]
  constructor
  · intro h
    have := List.append_inj h (by simp; omega)
    exact ⟨this.1, by simpa using this.2⟩
  · rintro ⟨h1, h2⟩; rw [h1, h2]
theorem c38 (a b : List Bool) (ha : a.length ≤ 1000000) : SS.CC 20 [.sl false 1 (bitL a), .sl false 1 (bitL b)] [] = Ret (.bool (decide (a = b))) := by
  rw [g20_eq]
  by_cases hl : a.length = b.length
  · rw [show (((bitL a).length : Int) != ((bitL b).length : Int)) = false by simp [hl], bsel_false]
    have key : ∀ m k : Nat, k + m = a.length → a.take k = b.take k → g20_L5 (bitL a) (bitL b) (k : Int) = Ret (.bool (decide (a = b))) := by
      intro m
      induction m with
      | zero =>
        intro k h h2
        rw [List.take_of_length_le (by omega), List.take_of_length_le (by omega)] at h2
        rw [g20_L5_eq, decF (by simp; omega), bsel_false, decT h2]
      | succ m ih =>
        intro k h h2
        obtain ⟨x, hx⟩ := get_lt (show k < a.length by omega)
        obtain ⟨y, hy⟩ := get_lt (show k < b.length by omega)
        rw [g20_L5_eq, decT (by simp; omega), bsel_true, lget_bit hx, vB_mk, lget_bit hy, vB_mk, wrs (by omega)]
        by_cases hxy : x = y
        · rw [show (!(x == y)) = false by simp [hxy], bsel_false]
          exact ih (k + 1) (by omega) ((take_snoc_eq hx hy).2 ⟨h2, hxy⟩)
        · rw [show (!(x == y)) = true by simp [hxy], bsel_true, decF (fun e => by subst e; rw [hx] at hy; injection hy with hy; exact hxy hy)]
    exact key a.length 0 (by omega) rfl
  · rw [show (((bitL a).length : Int) != ((bitL b).length : Int)) = true by simp; omega, bsel_true, decF (fun e => hl (by rw [e]))]
theorem c19 (a b : List Int) (ha : a.length ≤ 1000000) : SS.CC 17 [.sl false 1 (intL a), .sl false 1 (intL b)] [] = Ret (.bool (decide (a = b))) := by
  rw [g17_eq]
  by_cases hl : a.length = b.length
  · rw [show (((intL a).length : Int) != ((intL b).length : Int)) = false by simp [hl], bsel_false]
    have key : ∀ m k : Nat, k + m = a.length → a.take k = b.take k → g17_L5 (intL a) (intL b) (k : Int) = Ret (.bool (decide (a = b))) := by
      intro m
      induction m with
      | zero =>
        intro k h h2
        rw [List.take_of_length_le (by omega), List.take_of_length_le (by omega)] at h2
        rw [g17_L5_eq, decF (by simp; omega), bsel_false, decT h2]
      | succ m ih =>
        intro k h h2
        obtain ⟨x, hx⟩ := get_lt (show k < a.length by omega)
        obtain ⟨y, hy⟩ := get_lt (show k < b.length by omega)
        rw [g17_L5_eq, decT (by simp; omega), bsel_true, lget_int hx, vI_mk, lget_int hy, vI_mk, wrs (by omega)]
        by_cases hxy : x = y
        · rw [show (x != y) = false by simp [hxy], bsel_false]
          exact ih (k + 1) (by omega) ((take_snoc_eq hx hy).2 ⟨h2, hxy⟩)
        · rw [show (x != y) = true by simp [hxy], bsel_true, decF (fun e => by subst e; rw [hx] at hy; injection hy with hy; exact hxy hy)]
    exact key a.length 0 (by omega) rfl
  · rw [show (((intL a).length : Int) != ((intL b).length : Int)) = true by simp; omega, bsel_true, decF (fun e => hl (by rw [e]))]
/-! ### Check -/
def headS (p : Prg) : Int := if p.ni < 0 ∨ 256 < p.ni ∨ p.no < 0 ∨ 256 < p.no ∨ p.nm < 0 ∨ 256 < p.nm then 2 else if (p.start.length : Int) ≠ p.nm then 4 else if 2048 < p.list.length then 3 else 0
def insE (p : Prg) (i : Nat) (x : Ins) : Int := if x.1 < 1 ∨ 13 < x.1 then 11 else if 11 ≤ x.1 then (if x.2 ≤ i ∨ (p.list.length : Int) < x.2 then 2 else 0) else if x.2 < 0 ∨ p.ni + p.no + p.nm ≤ x.2 then 2 else if 7 ≤ x.1 ∧ x.2 < p.ni then 19 else 0
def firstE (p : Prg) : Nat → List Ins → Int
  | _, [] => 0
  | i, x :: l => if insE p i x ≠ 0 then insE p i x else firstE p (i + 1) l
def checkS (p : Prg) : Int := if headS p ≠ 0 then headS p else firstE p 0 p.list
theorem c50 (p : Prg) : SS.CC 43 [prgP p] [] = Ret (.int .i64 (headS p)) := by
  unfold prgP headS
  rw [g43_eq, g43_L3_eq]
  simp only [show decide ((0 : Int) < 3) = true from rfl, show decide ((0 : Int) ≤ 0) = true from rfl, Bool.and_self, bsel_true, chk_of, show ((0 : Int) == 0) = true from rfl]
  by_cases h1 : p.ni < 0
  · rw [decT h1, bsel_true, if_pos (.inl h1)]
  rw [decF h1, bsel_false]
  by_cases h2 : 256 < p.ni
  · rw [decT h2, bsel_true, if_pos (.inr (.inl h2))]
  rw [decF h2, bsel_false, show IntKind.i64.wrap (0 + 1) = 1 from rfl, g43_L3_eq]
  simp only [show decide ((1 : Int) < 3) = true from rfl, show decide ((0 : Int) ≤ 1) = true from rfl, Bool.and_self, bsel_true, bsel_false, chk_of, show ((1 : Int) == 0) = false from rfl, show ((1 : Int) == 1) = true from rfl]
  by_cases h3 : p.no < 0
  · rw [decT h3, bsel_true, if_pos (.inr (.inr (.inl h3)))]
  rw [decF h3, bsel_false]
  by_cases h4 : 256 < p.no
  · rw [decT h4, bsel_true, if_pos (.inr (.inr (.inr (.inl h4))))]
  rw [decF h4, bsel_false, show IntKind.i64.wrap (1 + 1) = 2 from rfl, g43_L3_eq]
  simp only [show decide ((2 : Int) < 3) = true from rfl, show decide ((0 : Int) ≤ 2) = true from rfl, Bool.and_self, bsel_true, bsel_false, chk_of, show ((2 : Int) == 0) = false from rfl, show ((2 : Int) == 1) = false from rfl, show ((2 : Int) == 2) = true from rfl]
  by_cases h5 : p.nm < 0
  · rw [decT h5, bsel_true, if_pos (.inr (.inr (.inr (.inr (.inl h5)))))]
  rw [decF h5, bsel_false]
  by_cases h6 : 256 < p.nm
  · rw [decT h6, bsel_true, if_pos (.inr (.inr (.inr (.inr (.inr h6)))))]
  rw [decF h6, bsel_false, show IntKind.i64.wrap (2 + 1) = 3 from rfl, g43_L3_eq, if_neg (by omega)]
  simp only [show decide ((3 : Int) < 3) = false from rfl, bsel_false]
  by_cases h7 : (p.start.length : Int) = p.nm
  · rw [show (((bitL p.start).length : Int) != p.nm) = false by simp [h7], bsel_false, if_neg (by simpa using h7)]
    by_cases h8 : 2048 < p.list.length
    · rw [decT (by simp; omega), bsel_true, if_pos h8]
    · rw [decF (by simp; omega), bsel_false, if_neg h8]
  · rw [show (((bitL p.start).length : Int) != p.nm) = true by simp [h7], bsel_true, if_pos h7]
theorem head0 {p : Prg} (h : headS p = 0) : 0 ≤ p.ni ∧ p.ni ≤ 256 ∧ 0 ≤ p.no ∧ p.no ≤ 256 ∧ 0 ≤ p.nm ∧ p.nm ≤ 256 ∧ (p.start.length : Int) = p.nm ∧ p.list.length ≤ 2048 := by
  unfold headS at h
  split at h
  · cases h
  split at h
  · cases h
  split at h
  · cases h
  omega
theorem c67 (p : Prg) (h : headS p = 0) : SS.CC 67 [prgP p] [] = Ret (.int .i64 (p.ni + p.no + p.nm)) := by
  have := head0 h
  unfold prgP
  rw [g67_eq, wr0 (k := p.ni + p.no) (by omega) (by omega), wr0 (by omega) (by omega)]
theorem c51 (p : Prg) (hh : headS p = 0) {i : Nat} {x : Ins} (hx : p.list[i]? = some x) : SS.CC 44 [prgP p, .int .i64 (i : Int)] [] = Ret (.int .i64 (insE p i x)) := by
  have hw := c67 p hh
  unfold prgP at hw ⊢
  obtain ⟨k, y⟩ := x
  rw [g44_eq, lget_ins hx, v42_mk, clX_of c63, vL_mk, insE]
  simp only
  by_cases h1 : k < 1
  · rw [decT h1, bsel_true, if_pos (.inl h1)]
  rw [decF h1, bsel_false]
  by_cases h2 : 13 < k
  · rw [decT (show ((opsP.length : Nat) : Int) < k from h2), bsel_true, if_pos (.inr h2)]
  rw [decF (show ¬ ((opsP.length : Nat) : Int) < k from h2), bsel_false, if_neg (by omega)]
  by_cases h3 : 11 ≤ k
  · obtain ⟨s, g, e1, _, _⟩ := op_jump h3 (by omega)
    rw [e1, v66_mk, if_pos h3]
    simp only [List.all_cons, List.all_nil, PV.one, Bool.and_true, chk_of, PV.un, fnX]
    rw [show ((false : Bool) == false) = true from rfl, bsel_true]
    by_cases h4 : y ≤ i
    · rw [decT h4, bsel_true, if_pos (.inl h4)]
    rw [decF h4, bsel_false]
    by_cases h5 : (p.list.length : Int) < y
    · rw [decT (by simpa using h5), bsel_true, if_pos (.inr h5)]
    · rw [decF (by simpa using h5), bsel_false, if_neg (by omega)]
  rw [if_neg h3]
  have fin : ∀ (s : ByteArray) (p7 p8 : PV) (bb : Bool), (∀ K : PV → R, lgetX opsP (IntKind.i64.wrap (k - 1)) K = K (.agg [.int .i64 k, .str s, p7, p8, .raw .nilFunc])) → PV.one p7 = true → PV.one p8 = true → flC (PV.un p7) = true → flC (PV.un p8) = true → (∀ K : Bool → R, fnX (PV.un (PV.un (PV.un p8))) K = K bb) →
      (bb = decide (k ≤ 6)) → True := fun _ _ _ _ _ _ _ _ _ _ _ => trivial
  clear fin
  by_cases h6 : k ≤ 6
  · obtain ⟨s, g, e1, _, _⟩ := op_load (show 1 ≤ k by omega) h6
    rw [e1, v66_mk]
    simp only [List.all_cons, List.all_nil, PV.one, Bool.and_true, chk_of, PV.un, fnX, flC, PV.flat, PV.flats]
    rw [show ((true : Bool) == false) = false from rfl, bsel_false]
    by_cases h7 : y < 0
    · rw [decT h7, bsel_true, if_pos (.inl h7)]
    rw [decF h7, bsel_false, clX_of hw, vI_mk]
    by_cases h8 : p.ni + p.no + p.nm ≤ y
    · rw [decT h8, bsel_true, if_pos (.inr h8)]
    · rw [decF h8, bsel_false, bsel_false, if_neg (by omega), if_neg (by omega)]
  · obtain ⟨s, g, e1, _, _⟩ := op_store (show 7 ≤ k by omega) (by omega)
    rw [e1, v66_mk]
    simp only [List.all_cons, List.all_nil, PV.one, Bool.and_true, chk_of, PV.un, fnX, flC, PV.flat, PV.flats]
    rw [show ((true : Bool) == false) = false from rfl, bsel_false]
    by_cases h7 : y < 0
    · rw [decT h7, bsel_true, if_pos (.inl h7)]
    rw [decF h7, bsel_false, clX_of hw, vI_mk]
    by_cases h8 : p.ni + p.no + p.nm ≤ y
    · rw [decT h8, bsel_true, if_pos (.inr h8)]
    rw [decF h8, bsel_false, if_neg (by omega), show ((false : Bool) == false) = true from rfl, bsel_true]
    by_cases h9 : y < p.ni
    · rw [decT h9, bsel_true, if_pos ⟨by omega, h9⟩]
    · rw [decF h9, bsel_false, if_neg (by omega)]
theorem c25 (p : Prg) : SS.CC 23 [prgP p] [] = Ret (.int .i64 (checkS p)) := by
  have h50 := c50 p
  have h51 := fun (hh : headS p = 0) (i : Nat) x (hx : p.list[i]? = some x) => c51 p hh hx
  unfold checkS
  unfold prgP at h50 h51 ⊢
  rw [g23_eq, clX_of h50, vI_mk]
  by_cases hh : headS p = 0
  · rw [show (headS p != 0) = false by simp [hh], bsel_false, if_neg (by simpa using hh)]
    have hn := (head0 hh).2.2.2.2.2.2.2
    have key : ∀ m k : Nat, k + m = p.list.length → g23_L6 p.ni p.no p.nm (bitL p.start) (insL p.list) (k : Int) = Ret (.int .i64 (firstE p k (p.list.drop k))) := by
      intro m
      induction m with
      | zero =>
        intro k h
        rw [g23_L6_eq, decF (by simp; omega), bsel_false, List.drop_of_length_le (by omega)]; rfl
      | succ m ih =>
        intro k h
        obtain ⟨x, hx⟩ := get_lt (show k < p.list.length by omega)
        have hd : p.list.drop k = x :: p.list.drop (k + 1) := by
          obtain ⟨h1, rfl⟩ := List.getElem?_eq_some_iff.1 hx
          exact List.drop_eq_getElem_cons h1
        rw [g23_L6_eq, decT (by simp; omega), bsel_true, clX_of (h51 hh k x hx), vI_mk, wrs (by omega), hd, firstE]
        by_cases he : insE p k x = 0
        · rw [show (insE p k x != 0) = false by simp [he], bsel_false, if_neg (by simpa using he)]
          exact ih (k + 1) (by omega)
        · rw [show (insE p k x != 0) = true by simp [he], bsel_true, if_pos he]
    exact key p.list.length 0 (by omega)
  · rw [show (headS p != 0) = true by simp [hh], bsel_true, if_pos hh]
theorem first0 {p : Prg} : ∀ {l : List Ins} {k : Nat}, firstE p k l = 0 → ∀ (i : Nat) x, l[i]? = some x → insE p (k + i) x = 0
  | [], _, _, i, x, hx => by simp at hx
  | y :: l, k, h, i, x, hx => by
    rw [firstE] at h
    split at h
    · exact absurd h (by assumption)
    · rename_i he
      have he : insE p k y = 0 := by simpa using he
      cases i with
      | zero => simp at hx; subst hx; exact he
      | succ i => have := first0 h i x (by simpa using hx); rwa [show k + (i + 1) = k + 1 + i by omega]
theorem first_of {p : Prg} : ∀ {l : List Ins} {k : Nat}, (∀ (i : Nat) x, l[i]? = some x → insE p (k + i) x = 0) → firstE p k l = 0
  | [], _, _ => rfl
  | y :: l, k, h => by
    rw [firstE, if_neg (by simpa using h 0 y (by simp))]
    exact first_of fun i x hx => by have := h (i + 1) x (by simpa using hx); rwa [show k + (i + 1) = k + 1 + i by omega] at this
def wd (p : Prg) : Nat := (p.ni + p.no + p.nm).toNat
/-- A program that is right. -/
theorem check0 {p : Prg} (h : checkS p = 0) : headS p = 0 ∧ okL (wd p) p.list ∧ ∀ (i : Nat) x, p.list[i]? = some x → 7 ≤ x.1 → x.1 ≤ 10 → p.ni ≤ x.2 := by
  unfold checkS at h
  split at h
  · exact absurd h (by assumption)
  rename_i hh
  have hh : headS p = 0 := by simpa using hh
  have hd := head0 hh
  have key := fun i x hx => first0 h i x hx
  simp only [Nat.zero_add] at key
  refine ⟨hh, ⟨hd.2.2.2.2.2.2.2, fun i x hx => ?_⟩, fun i x hx h7 h10 => ?_⟩
  · have := key i x hx
    unfold insE at this
    unfold okI wd
    split at this
    · cases this
    split at this
    · split at this
      · cases this
      · refine ⟨by omega, by omega, fun h => by omega, fun _ => ⟨by omega, by omega⟩⟩
    · split at this
      · cases this
      · refine ⟨by omega, by omega, fun h => ⟨by omega, by omega⟩, fun h => by omega⟩
  · have := key i x hx
    unfold insE at this
    split at this
    · cases this
    split at this
    · omega
    split at this
    · cases this
    split at this
    · cases this
    · omega
end Go.Proofs.YtiejgieiokmmfaaGreatDoor

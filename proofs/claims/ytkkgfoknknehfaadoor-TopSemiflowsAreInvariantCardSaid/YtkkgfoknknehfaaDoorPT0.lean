/-
  Lists of numbers as cells; loops; sums.
-/
import Derived.Test.YtkkgfoknknehfaaDoorAbH
import Derived.Test.YtkkgfoknknehfaaDoorTD6
namespace Go.Proofs.YtkkgfoknknehfaaDoor
set_option linter.unusedVariables false
set_option linter.unusedSimpArgs false
set_option linter.unnecessarySimpa false
set_option linter.unusedSectionVars false
open Go.RowKit
set_option maxRecDepth 100000
abbrev iP (n : Int) : PV := .int .i64 n
def iv (l : List Int) : List PV := l.map iP
@[simp] theorem iv_nil : iv [] = [] := rfl
@[simp] theorem iv_cons (a : Int) (l : List Int) : iv (a :: l) = iP a :: iv l := rfl
@[simp] theorem iv_append (a b : List Int) : iv (a ++ b) = iv a ++ iv b := List.map_append
@[simp] theorem iv_length (l : List Int) : (iv l).length = l.length := List.length_map _
@[simp] theorem iv_drop (l : List Int) (n : Nat) : (iv l).drop n = iv (l.drop n) := by simp [iv]
theorem iv_set (l : List Int) (i : Nat) (x : Int) : (iv l).set i (iP x) = iv (l.set i x) := by simp [iv, List.map_set]
theorem iv_rep (n : Nat) (x : Int) : List.replicate n (iP x) = iv (List.replicate n x) := by simp [iv]
theorem iv_inj {a b : List Int} (h : iv a = iv b) : a = b := by
  induction a generalizing b with
  | nil => cases b with
    | nil => rfl
    | cons y b => cases h
  | cons x a ih => cases b with
    | nil => cases h
    | cons y b => rw [iv_cons, iv_cons] at h; injection h with h1 h2; injection h1 with _ h1; rw [h1, ih h2]
@[simp] theorem iv_fl (l : List Int) : (iv l).all flC = true := by
  rw [List.all_eq_true]; intro p hp; obtain ⟨n, _, rfl⟩ := List.mem_map.1 hp; rfl
@[simp] theorem iv_flat (l : List Int) : ((iv l).all fun p => p.one && p.flat) = true := iv_fl l
@[simp] theorem iv_plain (l : List Int) : (iv l).all plainC = true := by
  rw [List.all_eq_true]; intro p hp; obtain ⟨n, _, rfl⟩ := List.mem_map.1 hp; rfl
theorem iv_un (l : List Int) : (iv l).map PV.un = iv l := by
  induction l with
  | nil => rfl
  | cons x l ih => rw [iv_cons, List.map_cons, ih]; rfl
theorem lget_iv {l : List Int} {i : Nat} {K : PV → R} (h : i < l.length) : lgetX (iv l) (i : Int) K = K (iP (l.getD i 0)) := by
  apply lgetX_of (by omega)
  rw [Int.toNat_natCast, iv, List.getElem?_map, List.getElem?_eq_getElem h]
  simp [List.getElem?_eq_getElem h]
theorem nget_iv {l : List Int} {i : Nat} {K : PV → R} (h : i < l.length) : ngetX (iv l) i K = K (iP (l.getD i 0)) := by
  unfold ngetX
  rw [iv, List.getElem?_map, List.getElem?_eq_getElem h]
  simp [List.getElem?_eq_getElem h]
theorem lget_map {α : Type} {f : α → PV} {l : List α} {i : Nat} {K : PV → R} (h : i < l.length) : lgetX (l.map f) (i : Int) K = K (f l[i]) := by
  apply lgetX_of (by omega)
  rw [Int.toNat_natCast, List.getElem?_map, List.getElem?_eq_getElem h]; rfl
theorem lget_mapI {α : Type} {f : α → PV} {l : List α} {n : Int} {K : PV → R} (h0 : 0 ≤ n) (h : n.toNat < l.length) : lgetX (l.map f) n K = K (f l[n.toNat]) := by
  apply lgetX_of h0
  rw [List.getElem?_map, List.getElem?_eq_getElem h]; rfl
theorem wrs {k : Nat} (h : k < 1000000000000000) : IntKind.i64.wrap ((k : Int) + 1) = ((k + 1 : Nat) : Int) := by rw [wrap64 (by omega) (by omega)]; omega
/-- Going back from the end of a loop. -/
theorem up_to {n : Nat} {P : Nat → Prop} (he : P n) (hs : ∀ i, i < n → P (i + 1) → P i) : ∀ i, i ≤ n → P i := by
  have : ∀ k i, n - i = k → i ≤ n → P i := by
    intro k
    induction k with
    | zero => intro i h1 h2; have : i = n := by omega
              subst this; exact he
    | succ k ih => intro i h1 h2; exact hs i (by omega) (ih (i + 1) (by omega) (by omega))
  exact fun i hi => this _ i rfl hi
/-- The sum of the first n. -/
def sm : Nat → (Nat → Int) → Int
  | 0, _ => 0
  | n + 1, f => sm n f + f n
@[simp] theorem sm0 (f : Nat → Int) : sm 0 f = 0 := rfl
theorem smS (n : Nat) (f : Nat → Int) : sm (n + 1) f = sm n f + f n := rfl
theorem sm_congr {n : Nat} {f g : Nat → Int} (h : ∀ i, i < n → f i = g i) : sm n f = sm n g := by
  induction n with
  | zero => rfl
  | succ n ih => rw [smS, smS, ih fun i hi => h i (by omega), h n (by omega)]
theorem sm_add (n : Nat) (f g : Nat → Int) : sm n (fun i => f i + g i) = sm n f + sm n g := by
  induction n with
  | zero => rfl
  | succ n ih => rw [smS, smS, smS, ih]; omega
theorem sm_zero {n : Nat} {f : Nat → Int} (h : ∀ i, i < n → f i = 0) : sm n f = 0 := by
  rw [sm_congr h]
  induction n with
  | zero => rfl
  | succ n ih => rw [smS, ih fun i hi => h i (by omega)]; rfl
theorem sm_bd {n : Nat} {f : Nat → Int} {B : Int} (h : ∀ i, i < n → -B ≤ f i ∧ f i ≤ B) : -(B * n) ≤ sm n f ∧ sm n f ≤ B * n := by
  induction n with
  | zero => simp
  | succ n ih =>
    have h1 := ih fun i hi => h i (by omega)
    have h2 := h n (by omega)
    have e : B * ((n + 1 : Nat) : Int) = B * n + B := by rw [Int.natCast_add, Int.mul_add]; simp
    rw [smS, e]; omega
theorem sm_nn {n : Nat} {f : Nat → Int} (h : ∀ i, i < n → 0 ≤ f i) : 0 ≤ sm n f := by
  induction n with
  | zero => exact Int.le_refl 0
  | succ n ih => have := ih fun i hi => h i (by omega); have := h n (by omega); rw [smS]; omega
theorem sm_one {n : Nat} {f : Nat → Int} (h : ∀ i, i < n → 0 ≤ f i) : ∀ i, i < n → f i ≤ sm n f := by
  induction n with
  | zero => intro i hi; omega
  | succ n ih =>
    intro i hi
    have h1 := sm_nn (n := n) (f := f) fun i hi => h i (by omega)
    have h2 := h n (by omega)
    rw [smS]
    by_cases e : i = n
    · subst e; omega
    · have := ih (fun i hi => h i (by omega)) i (by omega); omega
theorem sm_list (n : Nat) (f : Nat → Int) : ((List.range n).map f).sum = sm n f := by
  induction n with
  | zero => rfl
  | succ n ih => rw [List.range_succ, List.map_append, List.sum_append_int, ih, smS]; simp
theorem prod_bd {a b A B : Int} (ha : 0 ≤ a) (ha2 : a ≤ A) (hb : 0 ≤ b) (hb2 : b ≤ B) : 0 ≤ a * b ∧ a * b ≤ A * B :=
  ⟨Int.mul_nonneg ha hb, Int.mul_le_mul ha2 hb2 hb (by omega)⟩
theorem prod_bd2 {a b A B : Int} (ha : -A ≤ a) (ha2 : a ≤ A) (hb : 0 ≤ b) (hb2 : b ≤ B) : -(A * B) ≤ a * b ∧ a * b ≤ A * B := by
  by_cases h : 0 ≤ a
  · have := prod_bd h ha2 hb hb2; omega
  · have := prod_bd (a := -a) (A := A) (by omega) (by omega) hb hb2
    rw [Int.neg_mul] at this; omega
/-- Numbers that are tokens, weights or counts. -/
def Tok (l : List Int) : Prop := ∀ x, x ∈ l → 0 ≤ x ∧ x ≤ 65536
theorem Tok.getD {l : List Int} (h : Tok l) (i : Nat) : 0 ≤ l.getD i 0 ∧ l.getD i 0 ≤ 65536 := by
  by_cases hi : i < l.length
  · simp only [List.getD, List.getElem?_eq_getElem hi, Option.getD_some]; exact h _ (List.getElem_mem hi)
  · rw [List.getD, List.getElem?_eq_none (Nat.le_of_not_lt hi)]; simp
theorem tok_dec (l : List Int) : Tok l ∨ ¬ Tok l := Classical.em _
/-- The first element that is no token, if any: its place. -/
theorem getD_mem {l : List Int} {i : Nat} (h : i < l.length) : l.getD i 0 ∈ l := by
  simp only [List.getD, List.getElem?_eq_getElem h, Option.getD_some]; exact List.getElem_mem h
theorem getD_set (l : List Int) (i j : Nat) (x : Int) (h : i < l.length) : (l.set i x).getD j 0 = if j = i then x else l.getD j 0 := by
  simp only [List.getD]
  by_cases e : j = i
  · subst e; rw [List.getElem?_set_self h, if_pos rfl]; rfl
  · rw [List.getElem?_set_ne (fun h => e h.symm), if_neg e]
theorem chunk1_iv {l : List Int} : chunkP 1 (iv l) l.length = iv l := by
  unfold chunkP
  have := iv_length l
  show ((iv l).take l.length).map PV.un = _
  rw [← this, List.take_length, iv_un]
/-! ### lists that functions describe -/
def mv (P : Nat) (f : Nat → Int) : List PV := iv ((List.range P).map f)
@[simp] theorem mv_length (P : Nat) (f : Nat → Int) : (mv P f).length = P := by simp [mv]
@[simp] theorem mv_fl (P : Nat) (f : Nat → Int) : (mv P f).all flC = true := iv_fl _
@[simp] theorem mv_flat (P : Nat) (f : Nat → Int) : ((mv P f).all fun p => p.one && p.flat) = true := iv_fl _
@[simp] theorem mv_plain (P : Nat) (f : Nat → Int) : (mv P f).all plainC = true := iv_plain _
theorem mv_get {P : Nat} {f : Nat → Int} {i : Nat} (h : i < P) : (mv P f)[i]? = some (iP (f i)) := by
  simp [mv, iv, h]
theorem lget_mv {P : Nat} {f : Nat → Int} {i : Nat} {K : PV → R} (h : i < P) : lgetX (mv P f) (i : Int) K = K (iP (f i)) := lgetX_of (by omega) (by rw [Int.toNat_natCast]; exact mv_get h)
theorem lget_mvI {P : Nat} {f : Nat → Int} {i : Int} {K : PV → R} (h0 : 0 ≤ i) (h : i.toNat < P) : lgetX (mv P f) i K = K (iP (f i.toNat)) := lgetX_of h0 (mv_get h)
theorem nget_mv {P : Nat} {f : Nat → Int} {i : Nat} {K : PV → R} (h : i < P) : ngetX (mv P f) i K = K (iP (f i)) := by
  unfold ngetX; rw [mv_get h]
theorem mv_congr {P : Nat} {f g : Nat → Int} (h : ∀ p, p < P → f p = g p) : mv P f = mv P g := by
  unfold mv; congr 1; apply List.map_congr_left; intro p hp; exact h p (List.mem_range.1 hp)
theorem mv_inj {P : Nat} {f g : Nat → Int} (h : mv P f = mv P g) : ∀ p, p < P → f p = g p := fun p hp => by
  have h1 := mv_get (f := f) hp
  rw [h, mv_get hp] at h1
  injection h1 with h1; injection h1 with _ h1; exact h1.symm
theorem mv_set (P : Nat) (f : Nat → Int) (i : Nat) (x : Int) : (mv P f).set i (iP x) = mv P (fun p => if p = i then x else f p) := by
  apply List.ext_getElem? ; intro j
  by_cases hj : j < P
  · rw [mv_get hj, List.getElem?_set, mv_get hj, mv_length]
    by_cases e : j = i
    · subst e; simp [hj]
    · rw [if_neg (fun h => e h.symm), if_neg e]
  · rw [List.getElem?_eq_none (by simp; omega), List.getElem?_eq_none (by simp; omega)]
theorem mv_rep (n : Nat) (x : Int) : List.replicate n (iP x) = mv n (fun _ => x) := by
  apply List.ext_getElem? ; intro j
  by_cases hj : j < n
  · rw [mv_get hj, List.getElem?_replicate, if_pos hj]
  · rw [List.getElem?_eq_none (by simp; omega), List.getElem?_eq_none (by simp; omega)]
theorem mv_iv (l : List Int) : iv l = mv l.length (l.getD · 0) := by
  apply List.ext_getElem? ; intro j
  by_cases hj : j < l.length
  · rw [mv_get hj]; simp [iv, List.getElem?_eq_getElem hj]
  · rw [List.getElem?_eq_none (by simp; omega), List.getElem?_eq_none (by simp; omega)]
theorem chunk1_mv (P : Nat) (f : Nat → Int) : chunkP 1 (mv P f) P = mv P f := by
  have := chunk1_iv (l := (List.range P).map f)
  rw [List.length_map, List.length_range] at this; exact this
/-- All are tokens (or weights, or counts). -/
def tokB (P : Nat) (f : Nat → Int) : Bool := decide (∀ p, p < P → 0 ≤ f p ∧ f p ≤ 65536)
theorem tokB_iff {P : Nat} {f : Nat → Int} : tokB P f = true ↔ ∀ p, p < P → 0 ≤ f p ∧ f p ≤ 65536 := decide_eq_true_iff
/-! ### results -/
theorem clX_to {C : Cal} {g : FuncId} {args : List PV} {K : PV → R} {r : PV} {v : R} (h : C g args [] = some (r, [])) (hk : K r = v) : clX C g args K = v := (clX_of h).trans hk
theorem clH_to {C : Cal} {g : FuncId} {args : List PV} {h : Objs} {K : PV → Objs → R} {r : PV} {h' : Objs} {v : R} (e : C g args h = some (r, h')) (hk : K r h' = v) : clH C g args h K = v := by
  unfold clH; rw [e]; exact hk
end Go.Proofs.YtkkgfoknknehfaaDoor

/-
  Plain laws of chapter 52: what is reachable, what bits matter, dead stores, compaction.
-/
import Derived.Test.YtiejgieiokmmfaaDoorL52
namespace Go.Proofs.YtiejgieiokmmfaaDoor
set_option linter.unusedVariables false
set_option linter.unusedSimpArgs false
set_option linter.unnecessarySimpa false
set_option linter.unusedSectionVars false
open Go.RowKit
theorem getD_setB {α : Type} (b : List α) (k : Nat) (v : α) (j : Nat) (d : α) : (b.set k v).getD j d = if k = j ∧ k < b.length then v else b.getD j d := by
  rw [List.getD_eq_getElem?_getD, List.getD_eq_getElem?_getD, List.getElem?_set]
  by_cases h : k = j
  · subst h
    by_cases h2 : k < b.length
    · simp [h2]
    · simp [h2]
  · simp [h]
/-! ### reach -/
def markR (x : Ins) (i : Nat) (b : List Bool) : List Bool := if x.1 = 11 then b.set x.2.toNat true else if 11 ≤ x.1 then (b.set x.2.toNat true).set (i + 1) true else b.set (i + 1) true
def stepR (x : Ins) (i : Nat) (b : List Bool) : List Bool := if b.getD i false = true then markR x i b else b
def reachF : Nat → List Ins → List Bool → List Bool
  | _, [], b => b
  | i, x :: l, b => reachF (i + 1) l (stepR x i b)
def reach0 (n : Nat) : List Bool := (List.replicate (n + 1) false).set 0 true
def reachS (l : List Ins) : List Bool := reachF 0 l (reach0 l.length)
@[simp] theorem markR_len (x : Ins) (i : Nat) (b : List Bool) : (markR x i b).length = b.length := by unfold markR; split <;> (try split) <;> simp
@[simp] theorem stepR_len (x : Ins) (i : Nat) (b : List Bool) : (stepR x i b).length = b.length := by unfold stepR; split <;> simp
theorem reachF_len : ∀ (l : List Ins) (i : Nat) (b : List Bool), (reachF i l b).length = b.length
  | [], _, _ => rfl
  | x :: l, i, b => by rw [reachF, reachF_len l]; simp
@[simp] theorem reachS_len (l : List Ins) : (reachS l).length = l.length + 1 := by unfold reachS reach0; rw [reachF_len]; simp
theorem reachF_app : ∀ (l l2 : List Ins) (i : Nat) (b : List Bool), reachF i (l ++ l2) b = reachF (i + l.length) l2 (reachF i l b)
  | [], l2, i, b => rfl
  | x :: l, l2, i, b => by rw [List.cons_append, reachF, reachF_app l, reachF, List.length_cons, show i + 1 + l.length = i + (l.length + 1) by omega]
theorem set_mono {b : List Bool} {k j : Nat} (h : b.getD j false = true) : (b.set k true).getD j false = true := by
  rw [getD_setB]; split
  · rfl
  · exact h
theorem markR_mono {x : Ins} {i j : Nat} {b : List Bool} (h : b.getD j false = true) : (markR x i b).getD j false = true := by
  unfold markR; split
  · exact set_mono h
  · split
    · exact set_mono (set_mono h)
    · exact set_mono h
theorem stepR_mono {x : Ins} {i j : Nat} {b : List Bool} (h : b.getD j false = true) : (stepR x i b).getD j false = true := by
  unfold stepR; split
  · exact markR_mono h
  · exact h
theorem reachF_mono : ∀ {l : List Ins} {i j : Nat} {b : List Bool}, b.getD j false = true → (reachF i l b).getD j false = true
  | [], _, _, _, h => h
  | x :: l, i, j, b, h => by rw [reachF]; exact reachF_mono (stepR_mono h)
def fwd (i : Nat) (l : List Ins) : Prop := ∀ (k : Nat) x, l[k]? = some x → 11 ≤ x.1 → ((i + k : Nat) : Int) < x.2
theorem fwd_cons {i : Nat} {x : Ins} {l : List Ins} (h : fwd i (x :: l)) : fwd (i + 1) l := fun k y hy h2 => by
  have := h (k + 1) y (by simpa using hy) h2
  rwa [show i + (k + 1) = i + 1 + k by omega] at this
theorem fwd_of {w : Nat} {l : List Ins} (h : okL w l) : fwd 0 l := fun k x hx h2 => by
  have := ((h.2 k x hx).2.2.2 h2).1
  rwa [Nat.zero_add]
theorem set_low {b : List Bool} {k j : Nat} (h : j < k) : (b.set k true).getD j false = b.getD j false := by rw [getD_setB, if_neg (by omega)]
theorem stepR_low {x : Ins} {i j : Nat} {b : List Bool} (hf : 11 ≤ x.1 → (i : Int) < x.2) (h : j ≤ i) : (stepR x i b).getD j false = b.getD j false := by
  unfold stepR; split
  · unfold markR; split
    · exact set_low (by omega)
    · split
      · rw [set_low (by omega), set_low (by omega)]
      · exact set_low (by omega)
  · rfl
theorem reachF_low : ∀ {l : List Ins} {i j : Nat} {b : List Bool}, fwd i l → j ≤ i → (reachF i l b).getD j false = b.getD j false
  | [], _, _, _, _, _ => rfl
  | x :: l, i, j, b, hf, h => by
    rw [reachF, reachF_low (fwd_cons hf) (by omega), stepR_low (fun h2 => by simpa using hf 0 x rfl h2) h]
/-- Is an instruction reachable? -/
def RS (l : List Ins) (j : Nat) : Bool := (reachS l).getD j false
theorem RS_zero (l : List Ins) : RS l 0 = true := by
  unfold RS reachS
  exact reachF_mono (by unfold reach0; rw [getD_setB, if_pos (by simp)])
theorem take_drop_cons {α : Type} {l : List α} {i : Nat} {x : α} (h : l[i]? = some x) : l.take i ++ x :: l.drop (i + 1) = l := by
  obtain ⟨hi, rfl⟩ := List.getElem?_eq_some_iff.1 h
  rw [← List.drop_eq_getElem_cons hi, List.take_append_drop]
theorem fwd_drop {l : List Ins} (h : fwd 0 l) (i : Nat) : fwd i (l.drop i) := fun k x hx h2 => by
  have := h (i + k) x (by rw [List.getElem?_drop] at hx; exact hx) h2
  simpa using this
theorem RS_step {l : List Ins} (hf : fwd 0 l) {i : Nat} {x : Ins} (hx : l[i]? = some x) (hle : 11 ≤ x.1 → x.2 ≤ l.length) (h : RS l i = true) : (11 ≤ x.1 → RS l x.2.toNat = true) ∧ (x.1 ≠ 11 → RS l (i + 1) = true) := by
  have hi := (List.getElem?_eq_some_iff.1 hx).1
  have hlen : (l.take i).length = i := by simp; omega
  have e : reachS l = reachF (i + 1) (l.drop (i + 1)) (stepR x i (reachF 0 (l.take i) (reach0 l.length))) := by
    have h1 : reachS l = reachF 0 (l.take i ++ x :: l.drop (i + 1)) (reach0 l.length) := by rw [take_drop_cons hx]; rfl
    rw [h1, reachF_app, hlen, Nat.zero_add, reachF]
  have hbl : (reachF 0 (l.take i) (reach0 l.length)).length = l.length + 1 := by rw [reachF_len]; simp [reach0]
  have hb : (reachF 0 (l.take i) (reach0 l.length)).getD i false = true := by
    unfold RS at h
    rw [e, reachF_low (fwd_drop hf (i + 1)) (by omega), stepR_low (fun h2 => by simpa using hf i x hx h2) (Nat.le_refl _)] at h
    exact h
  unfold RS
  rw [e]
  refine ⟨fun h2 => reachF_mono ?_, fun h2 => reachF_mono ?_⟩
  · have hj : (i : Int) < x.2 := by simpa using hf i x hx h2
    have := hle h2
    rw [stepR, if_pos hb, markR]
    by_cases h11 : x.1 = 11
    · rw [if_pos h11, getD_setB, if_pos (by omega)]
    · rw [if_neg h11, if_pos h2]
      exact set_mono (by rw [getD_setB, if_pos (by omega)])
  · rw [stepR, if_pos hb, markR, if_neg h2]
    by_cases h12 : 11 ≤ x.1
    · rw [if_pos h12, getD_setB, if_pos (by simp; omega)]
    · rw [if_neg h12, getD_setB, if_pos (by omega)]
theorem set_true {b : List Bool} {k j : Nat} (h : (b.set k true).getD j false = true) : j = k ∨ b.getD j false = true := by
  rw [getD_setB] at h
  split at h
  · rename_i h2; exact .inl h2.1.symm
  · exact .inr h
theorem reachF_ind (Q : Nat → Prop) : ∀ {l : List Ins} {i : Nat} {b : List Bool}, (∀ j, b.getD j false = true → Q j) → (∀ (k : Nat) x, l[k]? = some x → Q (i + k) → (11 ≤ x.1 → Q x.2.toNat) ∧ (x.1 ≠ 11 → Q (i + k + 1))) → ∀ j, (reachF i l b).getD j false = true → Q j
  | [], _, _, hb, _, j, h => hb j h
  | x :: l, i, b, hb, hs, j, h => by
    rw [reachF] at h
    refine reachF_ind Q (l := l) (i := i + 1) (b := stepR x i b) (fun j hj => ?_) (fun k y hy hq => ?_) j h
    · unfold stepR at hj
      split at hj
      · rename_i hbi
        obtain ⟨s1, s2⟩ := hs 0 x rfl (hb i hbi)
        unfold markR at hj
        split at hj
        · rename_i h11
          rcases set_true hj with rfl | hj
          · exact s1 (by omega)
          · exact hb j hj
        · rename_i h11
          split at hj
          · rename_i h12
            rcases set_true hj with rfl | hj
            · exact s2 h11
            · rcases set_true hj with rfl | hj
              · exact s1 h12
              · exact hb j hj
          · rcases set_true hj with rfl | hj
            · exact s2 h11
            · exact hb j hj
      · exact hb j hj
    · have := hs (k + 1) y (by simpa using hy) (by rwa [show i + (k + 1) = i + 1 + k by omega])
      rwa [show i + (k + 1) = i + 1 + k by omega] at this
theorem RS_ind {l : List Ins} (Q : Nat → Prop) (h0 : Q 0) (hs : ∀ (k : Nat) x, l[k]? = some x → Q k → (11 ≤ x.1 → Q x.2.toNat) ∧ (x.1 ≠ 11 → Q (k + 1))) (j : Nat) (h : RS l j = true) : Q j := by
  refine reachF_ind Q (l := l) (i := 0) (b := reach0 l.length) (fun j hj => ?_) (fun k x hx hq => ?_) j h
  · unfold reach0 at hj
    rcases set_true hj with rfl | hj
    · exact h0
    · rw [List.getD_eq_getElem?_getD, List.getElem?_replicate] at hj
      split at hj <;> simp at hj
  · rw [Nat.zero_add] at *; exact hs k x hx hq
/-! ### bits that matter -/
def orS (a b : List Bool) : List Bool := List.zipWith (fun x y => x || y) a b
def vecS (i : Nat) (x : Ins) (V : List (List Bool)) : List Bool :=
  if x.1 ≤ 6 then (V.headD []).set x.2.toNat true
  else if x.1 ≤ 8 then (V.headD []).set x.2.toNat false
  else if x.1 ≤ 10 then V.headD []
  else if x.1 = 11 then V.getD (x.2.toNat - (i + 1)) []
  else orS (V.headD []) (V.getD (x.2.toNat - (i + 1)) [])
def nv (w : Nat) : Nat → List Ins → List (List Bool)
  | _, [] => [List.replicate w true]
  | i, x :: l => vecS i x (nv w (i + 1) l) :: nv w (i + 1) l
theorem nv_len (w : Nat) : ∀ (l : List Ins) (i : Nat), (nv w i l).length = l.length + 1
  | [], _ => rfl
  | x :: l, i => by rw [nv, List.length_cons, nv_len w l, List.length_cons]
theorem nv_get (w : Nat) : ∀ (l : List Ins) (i k : Nat), k ≤ l.length → (nv w i l).getD k [] = (nv w (i + k) (l.drop k)).headD []
  | l, i, 0, _ => by
    rw [List.drop_zero, Nat.add_zero]
    cases h : nv w i l <;> rfl
  | [], i, k + 1, h => by simp at h
  | x :: l, i, k + 1, h => by
    rw [nv, List.getD_cons_succ, nv_get w l (i + 1) k (by simpa using h), List.drop_succ_cons, show i + 1 + k = i + (k + 1) by omega]
/-- Does a bit matter from an instruction on? -/
def NS (w : Nat) (l : List Ins) (i : Nat) : List Bool := (nv w i (l.drop i)).headD []
theorem NS_end (w : Nat) (l : List Ins) {i : Nat} (h : l.length ≤ i) : NS w l i = List.replicate w true := by unfold NS; rw [List.drop_of_length_le h]; rfl
theorem NS_get {w : Nat} {l : List Ins} {i : Nat} {x : Ins} (hx : l[i]? = some x) : NS w l i = vecS i x (nv w (i + 1) (l.drop (i + 1))) := by
  obtain ⟨hi, rfl⟩ := List.getElem?_eq_some_iff.1 hx
  unfold NS; rw [List.drop_eq_getElem_cons hi, nv]; rfl
theorem NS_jump {w : Nat} {l : List Ins} {i j : Nat} (h1 : i < j) (h2 : j ≤ l.length) : (nv w (i + 1) (l.drop (i + 1))).getD (j - (i + 1)) [] = NS w l j := by
  rw [nv_get w _ _ _ (by simp; omega), List.drop_drop, show i + 1 + (j - (i + 1)) = j by omega]; rfl
theorem NS_step {w : Nat} {l : List Ins} (hok : okL w l) {i : Nat} {x : Ins} (hx : l[i]? = some x) : NS w l i =
    if x.1 ≤ 6 then (NS w l (i + 1)).set x.2.toNat true
    else if x.1 ≤ 8 then (NS w l (i + 1)).set x.2.toNat false
    else if x.1 ≤ 10 then NS w l (i + 1)
    else if x.1 = 11 then NS w l x.2.toNat
    else orS (NS w l (i + 1)) (NS w l x.2.toNat) := by
  obtain ⟨_, _, _, h4⟩ := hok.2 i x hx
  rw [NS_get hx, vecS]
  by_cases h : 11 ≤ x.1
  · have := h4 h
    rw [NS_jump (by omega) (by omega)]
    rfl
  · rw [if_neg (show ¬ x.1 = 11 by omega), if_neg (show ¬ x.1 = 11 by omega)]
    by_cases h10 : x.1 ≤ 10
    · simp only [if_pos h10]; rfl
    · omega
theorem NS_len {w : Nat} {l : List Ins} (hok : okL w l) : ∀ (m i : Nat), l.length ≤ i + m → (NS w l i).length = w
  | 0, i, h => by rw [NS_end w l (by omega)]; simp
  | m + 1, i, h => by
    by_cases hi : i < l.length
    · obtain ⟨x, hx⟩ := get_lt hi
      have h1 := NS_len hok m (i + 1) (by omega)
      obtain ⟨_, _, _, h4⟩ := hok.2 i x hx
      rw [NS_step hok hx]
      split
      · simpa using h1
      · split
        · simpa using h1
        · split
          · exact h1
          · have := h4 (by omega)
            have h2 := NS_len hok m x.2.toNat (by omega)
            split
            · exact h2
            · simp [orS, h1, h2]
    · rw [NS_end w l (by omega)]; simp
theorem orS_getD {a b : List Bool} (h : a.length = b.length) (k : Nat) : (orS a b).getD k false = (a.getD k false || b.getD k false) := by
  unfold orS
  simp only [List.getD_eq_getElem?_getD, List.getElem?_zipWith]
  by_cases hk : k < a.length
  · rw [List.getElem?_eq_getElem hk, List.getElem?_eq_getElem (by omega)]; rfl
  · rw [List.getElem?_eq_none (by omega), List.getElem?_eq_none (by omega)]; rfl
/-- Dead stores. -/
def dead1 (w : Nat) (R : List Bool) (i : Nat) (x : Ins) (V : List (List Bool)) : Bool := if x.1 = 7 ∨ x.1 = 8 then R.getD i false && !(V.headD []).getD x.2.toNat false else false
def deadV (w : Nat) (R : List Bool) : Nat → List Ins → List Bool
  | _, [] => []
  | i, x :: l => dead1 w R i x (nv w (i + 1) l) :: deadV w R (i + 1) l
def deadS (w : Nat) (l : List Ins) : List Bool := deadV w (reachS l) 0 l
theorem deadV_len (w : Nat) (R : List Bool) : ∀ (l : List Ins) (i : Nat), (deadV w R i l).length = l.length
  | [], _ => rfl
  | x :: l, i => by rw [deadV, List.length_cons, deadV_len w R l, List.length_cons]
@[simp] theorem deadS_len (w : Nat) (l : List Ins) : (deadS w l).length = l.length := deadV_len _ _ _ _
theorem deadV_get (w : Nat) (R : List Bool) : ∀ (l : List Ins) (i k : Nat), (deadV w R i l)[k]? = (l[k]?).map fun x => dead1 w R (i + k) x (nv w (i + k + 1) (l.drop (k + 1)))
  | [], _, _ => by simp [deadV]
  | x :: l, i, 0 => by simp [deadV]
  | x :: l, i, k + 1 => by rw [deadV, List.getElem?_cons_succ, List.getElem?_cons_succ, deadV_get w R l, List.drop_succ_cons, show i + 1 + k = i + (k + 1) by omega]
def DS (w : Nat) (l : List Ins) (i : Nat) (x : Ins) : Bool := if x.1 = 7 ∨ x.1 = 8 then RS l i && !(NS w l (i + 1)).getD x.2.toNat false else false
theorem dead_get {w : Nat} {l : List Ins} {i : Nat} {x : Ins} (hx : l[i]? = some x) : (deadS w l)[i]? = some (DS w l i x) := by
  unfold deadS; rw [deadV_get, hx, Nat.zero_add]; rfl
/-! ### compaction -/
def keepS (w : Nat) (l : List Ins) (i : Nat) (x : Ins) : Bool := RS l i && !DS w l i x
/-- How many are kept ahead of a place. -/
def idxS (w : Nat) (l : List Ins) : Nat → Nat
  | 0 => 0
  | i + 1 => idxS w l i + (match l[i]? with | some x => if keepS w l i x then 1 else 0 | none => 0)
def adjS (w : Nat) (l : List Ins) (x : Ins) : Ins := if 11 ≤ x.1 then (x.1, (idxS w l x.2.toNat : Int)) else x
/-- What is kept of the first i instructions, as they were. -/
def rawS (w : Nat) (l : List Ins) : Nat → List Ins
  | 0 => []
  | i + 1 => rawS w l i ++ (match l[i]? with | some x => if keepS w l i x then [x] else [] | none => [])
def compS (w : Nat) (l : List Ins) : List Ins := (rawS w l l.length).map (adjS w l)
theorem raw_len (w : Nat) (l : List Ins) : ∀ i, (rawS w l i).length = idxS w l i
  | 0 => rfl
  | i + 1 => by
    rw [rawS, idxS, List.length_append, raw_len w l i]
    congr 1
    split
    · split <;> rfl
    · rfl
theorem idx_le (w : Nat) (l : List Ins) : ∀ i, idxS w l i ≤ i
  | 0 => Nat.le_refl _
  | i + 1 => by
    have := idx_le w l i
    rw [idxS]
    split
    · split <;> omega
    · omega
theorem idx_mono (w : Nat) (l : List Ins) {i : Nat} : ∀ {j : Nat}, i ≤ j → idxS w l i ≤ idxS w l j
  | 0, h => by rw [show i = 0 by omega]; exact Nat.le_refl _
  | j + 1, h => by
    by_cases e : i = j + 1
    · rw [e]; exact Nat.le_refl _
    · have := idx_mono w l (i := i) (j := j) (by omega)
      rw [idxS]; omega
theorem idx_keep {w : Nat} {l : List Ins} {i : Nat} {x : Ins} (hx : l[i]? = some x) (hk : keepS w l i x = true) : idxS w l (i + 1) = idxS w l i + 1 := by rw [idxS, hx]; simp [hk]
theorem idx_drop {w : Nat} {l : List Ins} {i : Nat} {x : Ins} (hx : l[i]? = some x) (hk : keepS w l i x = false) : idxS w l (i + 1) = idxS w l i := by rw [idxS, hx]; simp [hk]
theorem raw_prefix (w : Nat) (l : List Ins) {i k : Nat} {y : Ins} (h : (rawS w l i)[k]? = some y) : ∀ {j : Nat}, i ≤ j → (rawS w l j)[k]? = some y
  | 0, hj => by rw [show i = 0 by omega] at h; exact h
  | j + 1, hj => by
    by_cases e : i = j + 1
    · rw [← e]; exact h
    · have h1 := raw_prefix w l h (j := j) (by omega)
      have := (List.getElem?_eq_some_iff.1 h1).1
      rw [rawS, List.getElem?_append_left this]; exact h1
theorem raw_get {w : Nat} {l : List Ins} {i : Nat} {x : Ins} (hx : l[i]? = some x) (hk : keepS w l i x = true) : (rawS w l l.length)[idxS w l i]? = some x := by
  have hi := (List.getElem?_eq_some_iff.1 hx).1
  refine raw_prefix w l (i := i + 1) ?_ (by omega)
  rw [rawS, hx, List.getElem?_append_right (by rw [raw_len]; exact Nat.le_refl _), raw_len]
  simp [hk]
theorem raw_inv (w : Nat) (l : List Ins) : ∀ {n k : Nat} {y : Ins}, (rawS w l n)[k]? = some y → ∃ i, i < n ∧ l[i]? = some y ∧ keepS w l i y = true ∧ idxS w l i = k
  | 0, k, y, h => by simp [rawS] at h
  | n + 1, k, y, h => by
    rw [rawS] at h
    by_cases hk : k < (rawS w l n).length
    · rw [List.getElem?_append_left hk] at h
      obtain ⟨i, h1, h2⟩ := raw_inv w l h
      exact ⟨i, by omega, h2⟩
    · rw [List.getElem?_append_right (by omega)] at h
      cases hx : l[n]? with
      | none => simp [hx] at h
      | some x =>
        simp only [hx] at h
        cases hkp : keepS w l n x with
        | false => simp [hkp] at h
        | true =>
          simp only [hkp, if_true] at h
          rw [raw_len] at h hk
          have : k - idxS w l n = 0 := by
            cases hd : k - idxS w l n with
            | zero => rfl
            | succ m => rw [hd] at h; simp at h
          rw [this] at h
          simp at h; subst h
          exact ⟨n, by omega, hx, hkp, by omega⟩
end Go.Proofs.YtiejgieiokmmfaaDoor

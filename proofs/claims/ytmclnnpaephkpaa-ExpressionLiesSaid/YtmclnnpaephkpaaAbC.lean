/-
  How the abstract state is kept where the world turns: new blocks, a cell of an object, memory that is laid and not written again.
-/
import Derived.Test.YtmclnnpaephkpaaAbB
namespace Go.Proofs.Ytmclnnpaephkpaa
set_option linter.unusedVariables false
set_option linter.unusedSimpArgs false
set_option linter.unnecessarySimpa false
set_option linter.unusedSectionVars false
open Go.RowKit

section
variable {n : Nat} {M M' : Mem} {B B' : Blk} {out : Nat → Nat} {σ : ASt} {t : Array Value} {w w' : World}
theorem ownC_get : ∀ {cs : List PV} {vs : List Value} {j : Nat} {p : PV} {v : Value} (b : Nat), cs[j]? = some p → vs[j]? = some v → ownV p v b ≤ ownC cs vs b
  | [], _, _, _, _, _, h, _ => by simp at h
  | _ :: _, [], _, _, _, _, _, h => by simp at h
  | q :: cs, u :: vs, 0, p, v, b, h1, h2 => by simp at h1 h2; subst h1; subst h2; rw [ownC]; omega
  | q :: cs, u :: vs, j + 1, p, v, b, h1, h2 => by have := ownC_get (j := j) b (by simpa using h1) (by simpa using h2); rw [ownC]; omega
theorem ownH_get : ∀ {h : Objs} {B : Blk} {i : Nat} {cs : List PV} {c : Nat × Nat} (b : Nat), h[i]? = some (some cs) → B[i]? = some c → (if c.1 = b then 1 else 0) + ownC cs (cellsAt w c.1) b ≤ ownH w h B b
  | [], _, _, _, _, _, h, _ => by simp at h
  | _ :: _, [], _, _, _, _, _, h => by simp at h
  | some ds :: h, d :: B, 0, cs, c, b, h1, h2 => by simp at h1 h2; subst h1; subst h2; rw [ownH]; omega
  | none :: h, d :: B, 0, cs, c, b, h1, h2 => by simp at h1
  | some ds :: h, d :: B, i + 1, cs, c, b, h1, h2 => by have := ownH_get (i := i) (c := c) b (by simpa using h1) (by simpa using h2); rw [ownH]; omega
  | none :: h, d :: B, i + 1, cs, c, b, h1, h2 => by have := ownH_get (i := i) (c := c) b (by simpa using h1) (by simpa using h2); rw [ownH]; omega
theorem ownH_congr : ∀ {h : Objs} {B : Blk} (b : Nat), (∀ (i : Nat) cs c, h[i]? = some (some cs) → B[i]? = some c → cellsAt w' c.1 = cellsAt w c.1) → ownH w' h B b = ownH w h B b
  | [], _, _, _ => by simp [ownH]
  | some _ :: _, [], _, _ => by simp [ownH]
  | none :: _, [], _, _ => by simp [ownH]
  | some ds :: h, d :: B, b, H => by
    rw [ownH, ownH, ownH_congr b (fun i cs c h1 h2 => H (i + 1) cs c (by simpa using h1) (by simpa using h2)), H 0 ds d rfl rfl]
  | none :: h, d :: B, b, H => by
    rw [ownH, ownH, ownH_congr b (fun i cs c h1 h2 => H (i + 1) cs c (by simpa using h1) (by simpa using h2))]
theorem ownH_append {x : List PV} {c : Nat × Nat} : ∀ {h : Objs} {B : Blk} (b : Nat), h.length = B.length → ownH w (h ++ [some x]) (B ++ [c]) b = ownH w h B b + ((if c.1 = b then 1 else 0) + ownC x (cellsAt w c.1) b)
  | [], [], b, _ => by simp [ownH]
  | some ds :: h, d :: B, b, H => by simp only [List.cons_append, ownH]; rw [ownH_append b (by simpa using H)]; omega
  | none :: h, d :: B, b, H => by simp only [List.cons_append, ownH]; rw [ownH_append b (by simpa using H)]
  | [], _ :: _, _, H => by simp at H
  | _ :: _, [], _, H => by simp at H
theorem cellsAt_congr {b : Nat} (h : w'.heap[b]? = w.heap[b]?) : cellsAt w' b = cellsAt w b := by unfold cellsAt; rw [h]
theorem cellsAt_eq {b : Nat} {vs : Array Value} {ty : TypeId} (h : w.heap[b]? = some (.cells vs ty (0, 0))) : cellsAt w b = vs.toList := by unfold cellsAt; rw [h]
theorem HeapOK.at (h : HeapOK M B w σ.h) {i : Nat} {cs : List PV} (hi : σ.h[i]? = some (some cs)) {c : Nat × Nat} (hc : B[i]? = some c) : ObjOK M B w cs c := by
  obtain ⟨c', hc', ho⟩ := h.2 i cs hi
  rw [hc] at hc'; cases hc'; exact ho
theorem ownH_lt {b : Nat} (hI : Inv n M B out σ t w) (h : 1 ≤ fp B σ t w b + out b) : b < w.heap.size := by
  rcases Nat.lt_or_ge b w.heap.size with h' | h'
  · exact h'
  · have := hI.new b h'; omega

/-- What the state owns is as it was: it is kept. -/
theorem Inv.ext (hI : Inv n M B out σ t w) (hle : MLe M M' B B) (hmem : ∀ (b o : Nat) (v : Value), M' b o = some v → w'.cell? ⟨b, o, none⟩ = some v ∧ v.oneCell' = true)
    (hb : ∀ b, 1 ≤ fp B σ t w b → w'.heap[b]? = w.heap[b]? ∧ ∀ o, M' b o = M b o) (hsz : w.heap.size ≤ w'.heap.size) :
    Inv n M' B out σ t w' ∧ ∀ b, fp B σ t w' b = fp B σ t w b := by
  have hobj : ∀ (i : Nat) cs c, σ.h[i]? = some (some cs) → B[i]? = some c → 1 ≤ fp B σ t w c.1 := fun i cs c h1 h2 => by
    have := ownH_get (w := w) c.1 h1 h2
    simp only [if_true] at this
    simp only [fp]; omega
  have hfp : ∀ b, fp B σ t w' b = fp B σ t w b := fun b => by
    simp only [fp]
    rw [ownH_congr b fun i cs c h1 h2 => cellsAt_congr (hb c.1 (hobj i cs c h1 h2)).1]
  refine ⟨⟨hI.size, hmem, hI.srt, fun k p hp => ?_, ⟨hI.heap.1, fun i cs hi => ?_⟩, fun b => by rw [hfp]; exact hI.cnt b, fun b h => by rw [hfp]; exact hI.new b (Nat.le_trans hsz h)⟩, hfp⟩
  · obtain ⟨h1, h2, h3⟩ := hI.slots k p hp
    refine ⟨h1, h2.mono hle, h3.kept fun b ho => hb b ?_⟩
    have := ownK_le (s := σ.s) (t := t) (k := k) (b := b)
    simp only [ownK, hp] at this
    simp only [fp]; omega
  · obtain ⟨c, hc, vs, ty, h1, h2, h3, h4, h5⟩ := hI.heap.2 i cs hi
    have hcb := hb c.1 (hobj i cs c hi hc)
    refine ⟨c, hc, vs, ty, by rw [hcb.1, h1], h2, h3, fun j p hj => ?_, fun o => by rw [hcb.2]; exact h5 o⟩
    obtain ⟨v, hv, hr, hT, hone⟩ := h4 j p hj
    refine ⟨v, hv, hr.mono hle, hT.kept fun b ho => hb b ?_, hone⟩
    have e1 := ownH_get (w := w) b hi hc
    have e2 := ownC_get b hj (by rw [cellsAt_eq h1]; simpa using hv : (cellsAt w c.1)[j]? = some v)
    simp only [fp]; omega
theorem Inv.drew (hI : Inv n M B out σ t w) : Inv n M B out σ t w.drew ∧ Good n out M B σ t w M B σ t w.drew := by
  have := hI.ext (M' := M) (w' := w.drew) (MLe.refl _ _) (fun b o v h => hI.mem b o v h) (fun b _ => ⟨rfl, fun _ => rfl⟩) (Nat.le_refl _)
  exact ⟨this.1, this.1, MLe.refl _ _, ⟨rfl, rfl, rfl, Nat.le_refl _, fun _ _ _ => ⟨rfl, fun _ => rfl⟩⟩, fun b _ => by rw [this.2]; exact Nat.le_refl _⟩

/-- Memory that a new block holds, laid for good. -/
def laid (M : Mem) (b : Nat) (vs : List Value) : Mem := fun b' o => if b' = b then vs[o]? else M b' o
theorem laid_le (hI : Inv n M B out σ t w) (vs : List Value) : MLe M (laid M w.heap.size vs) B B :=
  ⟨fun b o v h => by
    have := World.block_lt_of_cell? _ _ (hI.mem b o v h).1
    simp only at this
    rw [laid, if_neg (by omega)]; exact h, fun _ _ h => h⟩
/-- A new block whose first cells are laid for good ('k' of them). -/
theorem Inv.lay (hI : Inv n M B out σ t w) (vs : Array Value) (ty : TypeId) (k : Nat) (h1 : ∀ v, v ∈ vs → v.oneCell' = true) :
    Good n out M B σ t w (laid M w.heap.size (vs.toList.take k)) B σ t (w.alloc (.cells vs ty)) ∧ ∀ b, fp B σ t (w.alloc (.cells vs ty)) b = fp B σ t w b := by
  have hle := laid_le hI (vs.toList.take k)
  have hb : ∀ b, 1 ≤ fp B σ t w b → (w.alloc (.cells vs ty)).heap[b]? = w.heap[b]? ∧ ∀ o, laid M w.heap.size (vs.toList.take k) b o = M b o := fun b hb => by
    have := ownH_lt hI (by omega : 1 ≤ fp B σ t w b + out b)
    exact ⟨Below.heap_alloc _ _ _ this, fun o => by rw [laid, if_neg (by omega)]⟩
  have := hI.ext (w' := w.alloc (.cells vs ty)) hle (fun b o v h => by
    by_cases e : b = w.heap.size
    · subst e
      rw [laid, if_pos rfl, List.getElem?_take] at h
      split at h
      · rw [World.cell?_alloc_new]
        exact ⟨by simpa using h, h1 v (Array.mem_of_getElem? (by simpa using h))⟩
      · cases h
    · rw [laid, if_neg e] at h
      rw [World.cell?_alloc_old _ _ _ e]; exact hI.mem b o v h) hb (by simp)
  refine ⟨⟨this.1, hle, ⟨rfl, rfl, rfl, by simp, fun b hb _ => ⟨Below.heap_alloc _ _ _ hb, fun o => by rw [laid, if_neg (by omega)]⟩⟩, fun b _ => by rw [this.2]; exact Nat.le_refl _⟩, this.2⟩

/-- A new object. -/
theorem Inv.newObj (hI : Inv n M B out σ t w) (vs : Array Value) (ty : TypeId) (cs : List PV) (hl : cs.length ≤ vs.size)
    (hr : ∀ (j : Nat) p, cs[j]? = some p → ∃ v, vs[j]? = some v ∧ Rep M B p v ∧ Tl M w p v ∧ v.oneCell' = true ∧ ∀ b, ownV p v b = 0) :
    Good n out M B σ t w M (B ++ [(w.heap.size, vs.size)]) { σ with h := σ.h ++ [some cs] } t (w.alloc (.cells vs ty)) := by
  have hle : MLe M M B (B ++ [(w.heap.size, vs.size)]) := ⟨fun _ _ _ h => h, fun i c h => by rw [List.getElem?_append_left (List.getElem?_eq_some_iff.1 h).1]; exact h⟩
  obtain ⟨hE, hF⟩ := (hI.ext (M' := M) (w' := w.alloc (.cells vs ty)) (MLe.refl _ _) (fun b o v h => by
    have := World.block_lt_of_cell? _ _ (hI.mem b o v h).1
    simp only at this
    rw [World.cell?_alloc_old _ _ _ (by simp; omega)]; exact hI.mem b o v h) (fun b hb => ⟨Below.heap_alloc _ _ _ (ownH_lt hI (by omega)), fun _ => rfl⟩) (by simp))
  have hC : ∀ b, ownC cs vs.toList b = 0 := fun b => by
    have key : ∀ (cs : List PV) (us : List Value), (∀ (j : Nat) p, cs[j]? = some p → ∃ v, us[j]? = some v ∧ ∀ b, ownV p v b = 0) → ownC cs us b = 0 := by
      intro cs
      induction cs with
      | nil => intro us _; simp [ownC]
      | cons p ps ih =>
        intro us h
        obtain ⟨v, hv, h0⟩ := h 0 p rfl
        cases us with
        | nil => simp at hv
        | cons u us =>
          simp at hv; subst hv
          rw [ownC, h0, ih us fun j q hq => by obtain ⟨v, hv, h0⟩ := h (j + 1) q (by simpa using hq); exact ⟨v, by simpa using hv, h0⟩]
    exact key cs vs.toList fun j p hp => by obtain ⟨v, hv, _, _, _, h0⟩ := hr j p hp; exact ⟨v, by simpa using hv, h0⟩
  have hat : cellsAt (w.alloc (.cells vs ty)) w.heap.size = vs.toList := cellsAt_eq (heap_alloc_new w _)
  have hfp : ∀ b, fp (B ++ [(w.heap.size, vs.size)]) { σ with h := σ.h ++ [some cs] } t (w.alloc (.cells vs ty)) b = fp B σ t w b + if w.heap.size = b then 1 else 0 := fun b => by
    have := hF b
    simp only [fp] at this ⊢
    rw [ownH_append b hI.heap.1, hat, hC]
    show _ + (_ + ((if w.heap.size = b then 1 else 0) + 0)) = _
    omega
  have hlast : ∀ (i : Nat) (cs' : List PV), (σ.h ++ [some cs])[i]? = some (some cs') → (i < σ.h.length ∧ σ.h[i]? = some (some cs')) ∨ (i = σ.h.length ∧ cs' = cs) := fun i cs' h => by
    rcases Nat.lt_or_ge i σ.h.length with hlt | hge
    · rw [List.getElem?_append_left hlt] at h; exact .inl ⟨hlt, h⟩
    · rw [List.getElem?_append_right hge] at h
      have : i - σ.h.length = 0 := by
        rcases Nat.eq_zero_or_pos (i - σ.h.length) with h0 | h0
        · exact h0
        · rw [List.getElem?_eq_none (by simp; omega)] at h; cases h
      rw [this] at h; simp at h; exact .inr ⟨by omega, h.symm⟩
  refine ⟨⟨hI.size, hE.mem, hI.srt, fun k p hp => ?_, ⟨by simp [hI.heap.1], fun i cs' hi => ?_⟩, fun b => ?_, fun b hb => ?_⟩, hle, ⟨rfl, rfl, rfl, by simp, fun b hb _ => ⟨Below.heap_alloc _ _ _ hb, fun _ => rfl⟩⟩, fun b hb => by rw [hfp, if_neg (by omega)]; exact Nat.le_refl _⟩
  · obtain ⟨h1, h2, h3⟩ := hE.slots k p hp
    exact ⟨h1, h2.mono hle, h3⟩
  · rcases hlast i cs' hi with ⟨hlt, hi'⟩ | ⟨rfl, rfl⟩
    · obtain ⟨c, hc, vs', ty', h1, h2, h3, h4, h5⟩ := hE.heap.2 i cs' hi'
      exact ⟨c, hle.blk _ _ hc, vs', ty', h1, h2, h3, fun j p hj => by obtain ⟨v, a1, a2, a3, a4⟩ := h4 j p hj; exact ⟨v, a1, a2.mono hle, a3, a4⟩, h5⟩
    · refine ⟨(w.heap.size, vs.size), by rw [hI.heap.1]; simp, vs, ty, heap_alloc_new w _, rfl, hl, fun j p hj => ?_, fun o => ?_⟩
      · obtain ⟨v, a1, a2, a3, a4, a5⟩ := hr j p hj
        refine ⟨v, a1, a2.mono hle, ?_, a4⟩
        exact a3.kept fun b hb => by rw [a5] at hb; omega
      · cases hm : M w.heap.size o with
        | none => rfl
        | some v => have := World.block_lt_of_cell? _ _ (hI.mem _ o v hm).1; simp at this
  · rw [hfp]
    have := hI.cnt b
    split
    · rename_i e; subst e; have := hI.new _ (Nat.le_refl _); omega
    · omega
  · rw [hfp]
    simp at hb
    have := hI.new b (by omega)
    rw [if_neg (by omega)]; omega

/-- One cell of an object turns. -/
theorem Inv.setCell (hI : Inv n M B out σ t w) {i j : Nat} {cs : List PV} {c : Nat × Nat} (hi : σ.h[i]? = some (some cs)) (hc : B[i]? = some c) (hj : j < cs.length) {p : PV} {v : Value}
    (hr : Rep M B p v) (hT : Tl M w p v) (h1 : v.oneCell' = true) (hcnt : ∀ b, fp B σ t w b + ownV p v b + out b ≤ 1) (hnew : ∀ b, w.heap.size ≤ b → ownV p v b = 0) :
    Inv n M B out { σ with h := σ.h.set i (some (cs.set j p)) } t (w.setCell ⟨c.1, j, none⟩ v) ∧ (∀ b, fp B { σ with h := σ.h.set i (some (cs.set j p)) } t (w.setCell ⟨c.1, j, none⟩ v) b ≤ fp B σ t w b + ownV p v b) ∧
    Fr (fp B σ t w) M w M (w.setCell ⟨c.1, j, none⟩ v) ∧ w.frozen? ⟨c.1, j, none⟩ = false ∧ (w.cell? ⟨c.1, j, none⟩).isSome = true := by
  obtain ⟨vs, ty, o1, o2, o3, o4, o5⟩ := hI.heap.at hi hc
  have hset : w.setCell ⟨c.1, j, none⟩ v = w.setRow c.1 (vs.setIfInBounds j v) := setCell_eq_setRow w c.1 j vs ty (0, 0) v o1
  have hblk : 1 ≤ fp B σ t w c.1 := by
    have := ownH_get (w := w) c.1 hi hc
    simp only [if_true] at this
    simp only [fp]; omega
  have hoth : ∀ b, b ≠ c.1 → (w.setCell ⟨c.1, j, none⟩ v).heap[b]? = w.heap[b]? := fun b hb => Below.heap_setCell _ _ _ _ hb
  have hself : (w.setCell ⟨c.1, j, none⟩ v).heap[c.1]? = some (.cells (vs.setIfInBounds j v) ty (0, 0)) := by rw [hset]; exact setRow_heap w c.1 vs _ ty (0, 0) o1
  have hvj : j < vs.size := by omega
  -- each of the other objects lies elsewhere
  have hne : ∀ (i' : Nat) cs' c', i' ≠ i → σ.h[i']? = some (some cs') → B[i']? = some c' → c'.1 ≠ c.1 := by
    have key : ∀ (h : Objs) (B : Blk) (i i' : Nat) cs cs' c c', i' < i → h[i]? = some (some cs) → B[i]? = some c → h[i']? = some (some cs') → B[i']? = some c' → c.1 = c'.1 → 2 ≤ ownH w h B c.1 := by
      intro h
      induction h with
      | nil => intro B i i' cs cs' c c' _ h1; simp at h1
      | cons x h ih =>
        intro B i i' cs cs' c c' hlt h1 h2 h3 h4 he
        cases B with
        | nil => simp at h2
        | cons d B =>
          cases i with
          | zero => omega
          | succ i =>
            simp at h1 h2
            cases i' with
            | zero =>
              simp at h3 h4; subst h3; subst h4
              have := ownH_get (w := w) c.1 h1 h2
              simp only [if_true] at this
              rw [ownH, if_pos he.symm]; omega
            | succ i' =>
              simp at h3 h4
              have := ih B i i' cs cs' c c' (by omega) h1 h2 h3 h4 he
              cases x <;> rw [ownH] <;> omega
    intro i' cs' c' hii h1 h2 he
    have hc1 := hI.cnt c.1
    simp only [fp] at hc1
    rcases Nat.lt_or_ge i' i with hlt | hge
    · have := key σ.h B i i' cs cs' c c' hlt hi hc h1 h2 he.symm; omega
    · have := key σ.h B i' i cs' cs c' c (by omega) h1 h2 hi hc he; rw [he] at this; omega
  have hcell : ∀ (i' : Nat) cs' c', σ.h[i']? = some (some cs') → B[i']? = some c' → i' ≠ i → cellsAt (w.setCell ⟨c.1, j, none⟩ v) c'.1 = cellsAt w c'.1 := fun i' cs' c' h1 h2 hii => cellsAt_congr (hoth _ (hne i' cs' c' hii h1 h2))
  have hfp : ∀ b, fp B { σ with h := σ.h.set i (some (cs.set j p)) } t (w.setCell ⟨c.1, j, none⟩ v) b ≤ fp B σ t w b + ownV p v b := fun b => by
    have key : ∀ (cs : List PV) (us : List Value) (j : Nat), ownC (cs.set j p) (us.set j v) b ≤ ownC cs us b + ownV p v b := by
      intro cs
      induction cs with
      | nil => intro us j; simp [ownC]
      | cons q qs ih =>
        intro us j
        cases us with
        | nil => simp [ownC]
        | cons u us =>
          cases j with
          | zero => simp only [List.set_cons_zero, ownC]; omega
          | succ j => have := ih us j; simp only [List.set_cons_succ, ownC]; omega
    have key2 : ∀ (h : Objs) (B : Blk) (i : Nat), h[i]? = some (some cs) → B[i]? = some c → (∀ (i' : Nat) cs' c', h[i']? = some (some cs') → B[i']? = some c' → i' ≠ i → cellsAt (w.setCell ⟨c.1, j, none⟩ v) c'.1 = cellsAt w c'.1) →
        ownH (w.setCell ⟨c.1, j, none⟩ v) (h.set i (some (cs.set j p))) B b ≤ ownH w h B b + ownV p v b := by
      intro h
      induction h with
      | nil => intro B i h1; simp at h1
      | cons x h ih =>
        intro B i h1 h2 h3
        cases B with
        | nil => simp at h2
        | cons d B =>
          cases i with
          | zero =>
            simp at h1 h2; subst h1; subst h2
            have e1 := ownH_congr (w' := w.setCell ⟨d.1, j, none⟩ v) (w := w) (h := h) (B := B) b (fun i' cs' c' a1 a2 => h3 (i' + 1) cs' c' (by simpa using a1) (by simpa using a2) (by omega))
            simp only [List.set_cons_zero, ownH]
            rw [e1, cellsAt_eq hself, cellsAt_eq o1, Array.toList_setIfInBounds]
            have := key cs vs.toList j
            omega
          | succ i =>
            simp at h1 h2
            have := ih B i h1 h2 (fun i' cs' c' a1 a2 a3 => h3 (i' + 1) cs' c' (by simpa using a1) (by simpa using a2) (by omega))
            cases x with
            | none => simp only [List.set_cons_succ, ownH]; exact this
            | some ds =>
              have e := h3 0 ds d rfl rfl (by omega)
              simp only [List.set_cons_succ, ownH]
              rw [e]; omega
    have := key2 σ.h B i hi hc hcell
    simp only [fp]; omega
  have hpb : ∀ b, ownV p v b = 1 → b ≠ c.1 := fun b hb e => by subst e; have := hcnt c.1; omega
  refine ⟨⟨hI.size, fun b o u h => ?_, hI.srt, fun k q hq => ?_, ⟨by simp [hI.heap.1], fun i' cs' hi' => ?_⟩, fun b => by have := hfp b; have := hcnt b; omega, fun b hb => ?_⟩, hfp, ⟨rfl, rfl, rfl, by simp [World.setCell], fun b hb h0 => ⟨hoth b fun e => by subst e; omega, fun _ => rfl⟩⟩, by simp [World.frozen?, o1], by simp [World.cell?, o1, hvj]⟩
  · have hm := hI.mem b o u h
    have hbc : b ≠ c.1 := fun e => by subst e; rw [o5] at h; cases h
    exact ⟨(World.cell?_of_block (w := w) (a := ⟨b, o, none⟩) (hoth b hbc)).trans hm.1, hm.2⟩
  · obtain ⟨s1, s2, s3⟩ := hI.slots k q hq
    refine ⟨s1, s2, s3.kept fun b hb => ⟨hoth b fun e => ?_, fun _ => rfl⟩⟩
    subst e
    have e1 := ownK_le (s := σ.s) (t := t) (k := k) (b := c.1)
    simp only [ownK, hq] at e1
    have e2 := hI.cnt c.1
    have e3 := ownH_get (w := w) c.1 hi hc
    simp only [if_true] at e3
    simp only [fp] at e2
    omega
  · by_cases hii : i' = i
    · subst hii
      rw [List.getElem?_set_self (List.getElem?_eq_some_iff.1 hi).1] at hi'
      injection hi' with hi'; injection hi' with hi'; subst hi'
      refine ⟨c, hc, vs.setIfInBounds j v, ty, hself, by simpa using o2, by simpa using o3, fun j' q hq => ?_, o5⟩
      by_cases hjj : j = j'
      · subst hjj
        rw [List.getElem?_set_self hj] at hq; injection hq with hq; subst hq
        exact ⟨v, by simp [hvj], hr, hT.kept fun b hb => ⟨hoth b (hpb b hb), fun _ => rfl⟩, h1⟩
      · rw [List.getElem?_set_ne hjj] at hq
        obtain ⟨u, a1, a2, a3, a4⟩ := o4 j' q hq
        refine ⟨u, by rw [Array.getElem?_setIfInBounds_ne hjj]; exact a1, a2, a3.kept fun b hb => ⟨hoth b fun e => ?_, fun _ => rfl⟩, a4⟩
        subst e
        have e2 := hI.cnt c.1
        have e3 := ownH_get (w := w) c.1 hi hc
        have e4 := ownC_get c.1 hq (by rw [cellsAt_eq o1]; simpa using a1 : (cellsAt w c.1)[j']? = some u)
        simp only [if_true] at e3
        simp only [fp] at e2
        omega
    · rw [List.getElem?_set_ne (Ne.symm hii)] at hi'
      obtain ⟨c', hc', vs', ty', a1, a2, a3, a4, a5⟩ := hI.heap.2 i' cs' hi'
      have hcc := hne i' cs' c' hii hi' hc'
      refine ⟨c', hc', vs', ty', by rw [hoth _ hcc]; exact a1, a2, a3, fun j' q hq => ?_, a5⟩
      obtain ⟨u, b1, b2, b3, b4⟩ := a4 j' q hq
      refine ⟨u, b1, b2, b3.kept fun b hb => ⟨hoth b fun e => ?_, fun _ => rfl⟩, b4⟩
      subst e
      have key : ∀ (h : Objs) (B : Blk) (i i' : Nat), i ≠ i' → h[i]? = some (some cs) → B[i]? = some c → h[i']? = some (some cs') → B[i']? = some c' → 2 ≤ ownH w h B c.1 := by
        intro h
        induction h with
        | nil => intro B i i' _ h1; simp at h1
        | cons x h ih =>
          intro B i i' hlt h1 h2 h3 h4
          have e4 := ownC_get c.1 hq (by rw [cellsAt_eq a1]; simpa using b1 : (cellsAt w c'.1)[j']? = some u)
          cases B with
          | nil => simp at h2
          | cons d B =>
            cases i with
            | zero =>
              cases i' with
              | zero => omega
              | succ i' =>
                simp at h1 h2 h3 h4; subst h1; subst h2
                have := ownH_get (w := w) d.1 h3 h4
                rw [ownH, if_pos rfl]; omega
            | succ i =>
              simp at h1 h2
              cases i' with
              | zero =>
                simp at h3 h4; subst h3; subst h4
                have := ownH_get (w := w) c.1 h1 h2
                simp only [if_true] at this
                rw [ownH]; omega
              | succ i' =>
                simp at h3 h4
                have := ih B i i' (by omega) h1 h2 h3 h4
                cases x <;> rw [ownH] <;> omega
      have e2 := hI.cnt c.1
      have := key σ.h B i i' (Ne.symm hii) hi hc hi' hc'
      simp only [fp] at e2
      omega
  · have := hfp b
    simp [World.setCell] at hb
    have e1 := hI.new b hb
    have e2 := hnew b hb
    omega
end
end Go.Proofs.Ytmclnnpaephkpaa

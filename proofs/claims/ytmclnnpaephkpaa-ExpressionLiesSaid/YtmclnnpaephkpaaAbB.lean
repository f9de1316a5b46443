/-
  The state of the abstract evaluator (slots, objects), what it says of the model's state, and how it is kept.
-/
import Derived.Test.YtmclnnpaephkpaaAbA
namespace Go.Proofs.Ytmclnnpaephkpaa
set_option linter.unusedVariables false
set_option linter.unusedSimpArgs false
set_option linter.unnecessarySimpa false
set_option linter.unusedSectionVars false
open Go.RowKit

abbrev Slots := List (Nat × PV)
abbrev Objs := List (Option (List PV))
def sget (k : Nat) : Slots → Option PV
  | [] => none
  | (j, p) :: l => if j = k then some p else sget k l
def sput (k : Nat) (p : PV) : Slots → Slots
  | [] => [(k, p)]
  | (j, q) :: l => if j = k then (k, p) :: l else if k < j then (k, p) :: (j, q) :: l else (j, q) :: sput k p l
structure ASt where
  s : Slots
  h : Objs

def ownV (p : PV) (v : Value) (b : Nat) : Nat := if p.own then (match v with | .slice (some a) _ _ => if a.block = b then 1 else 0 | _ => 0) else 0
def ownS : Slots → Array Value → Nat → Nat
  | [], _, _ => 0
  | (k, p) :: l, t, b => ownV p (t.getD k undef) b + ownS l t b
def ownC : List PV → List Value → Nat → Nat
  | p :: ps, v :: vs, b => ownV p v b + ownC ps vs b
  | _, _, _ => 0
def cellsAt (w : World) (b : Nat) : List Value := match w.heap[b]? with | some (.cells c _ _) => c.toList | _ => []
def ownH (w : World) : Objs → Blk → Nat → Nat
  | some cs :: h, c :: B, b => (if c.1 = b then 1 else 0) + ownC cs (cellsAt w c.1) b + ownH w h B b
  | none :: h, _ :: B, b => ownH w h B b
  | _, _, _ => 0
def Tl (M : Mem) (w : World) (p : PV) (v : Value) : Prop :=
  ∀ sz es A n cap, p = .sl true sz es → v = .slice A n cap → (A = none → cap = 0) ∧ (sz = 0 → A = none) ∧ ∀ a, A = some a → ∃ cs ty, w.heap[a.block]? = some (.cells cs ty (0, 0)) ∧ a.off + cap * sz ≤ cs.size ∧ (∀ o, a.off + es.length * sz ≤ o → M a.block o = none) ∧ a.spot = none
def ObjOK (M : Mem) (B : Blk) (w : World) (cs : List PV) (c : Nat × Nat) : Prop :=
  ∃ vs ty, w.heap[c.1]? = some (.cells vs ty (0, 0)) ∧ vs.size = c.2 ∧ cs.length ≤ vs.size ∧ (∀ (j : Nat) p, cs[j]? = some p → ∃ v, vs[j]? = some v ∧ Rep M B p v ∧ Tl M w p v ∧ v.oneCell' = true) ∧ ∀ o, M c.1 o = none
def HeapOK (M : Mem) (B : Blk) (w : World) (h : Objs) : Prop := h.length = B.length ∧ ∀ (i : Nat) cs, h[i]? = some (some cs) → ∃ c, B[i]? = some c ∧ ObjOK M B w cs c
def fp (B : Blk) (σ : ASt) (t : Array Value) (w : World) (b : Nat) : Nat := ownS σ.s t b + ownH w σ.h B b
def Srt (s : Slots) : Prop := s.Pairwise fun a b => a.1 < b.1
structure Inv (n : Nat) (M : Mem) (B : Blk) (out : Nat → Nat) (σ : ASt) (t : Array Value) (w : World) : Prop where
  size : t.size = n
  mem : ∀ (b o : Nat) (v : Value), M b o = some v → w.cell? ⟨b, o, none⟩ = some v ∧ v.oneCell' = true
  srt : Srt σ.s
  slots : ∀ k p, sget k σ.s = some p → k < n ∧ Rep M B p (t.getD k undef) ∧ Tl M w p (t.getD k undef)
  heap : HeapOK M B w σ.h
  cnt : ∀ b, fp B σ t w b + out b ≤ 1
  new : ∀ b, w.heap.size ≤ b → fp B σ t w b + out b = 0
/-- What has no owner here is as it was. -/
structure Fr (f : Nat → Nat) (M : Mem) (w : World) (M' : Mem) (w' : World) : Prop where
  os : w'.os = w.os
  tape : w'.tape = w.tape
  output : w'.output = w.output
  size : w.heap.size ≤ w'.heap.size
  blk : ∀ b, b < w.heap.size → f b = 0 → w'.heap[b]? = w.heap[b]? ∧ ∀ o, M' b o = M b o
theorem Fr.refl (f : Nat → Nat) (M : Mem) (w : World) : Fr f M w M w := ⟨rfl, rfl, rfl, Nat.le_refl _, fun _ _ _ => ⟨rfl, fun _ => rfl⟩⟩
theorem Fr.trans {f g : Nat → Nat} {M M' M'' : Mem} {w w' w'' : World} (h : Fr f M w M' w') (k : Fr g M' w' M'' w'') (hg : ∀ b, b < w.heap.size → f b = 0 → g b = 0) : Fr f M w M'' w'' :=
  ⟨k.os.trans h.os, k.tape.trans h.tape, k.output.trans h.output, Nat.le_trans h.size k.size, fun b hb hf => by
    obtain ⟨h1, h2⟩ := h.blk b hb hf
    obtain ⟨k1, k2⟩ := k.blk b (Nat.lt_of_lt_of_le hb h.size) (hg b hb hf)
    exact ⟨k1.trans h1, fun o => (k2 o).trans (h2 o)⟩⟩
theorem Fr.mono {f g : Nat → Nat} {M M' : Mem} {w w' : World} (h : Fr f M w M' w') (hg : ∀ b, b < w.heap.size → g b = 0 → f b = 0) : Fr g M w M' w' :=
  ⟨h.os, h.tape, h.output, h.size, fun b hb h0 => h.blk b hb (hg b hb h0)⟩
structure Good (n : Nat) (out : Nat → Nat) (M : Mem) (B : Blk) (σ : ASt) (t : Array Value) (w : World) (M' : Mem) (B' : Blk) (σ' : ASt) (t' : Array Value) (w' : World) : Prop where
  inv : Inv n M' B' out σ' t' w'
  le : MLe M M' B B'
  fr : Fr (fp B σ t w) M w M' w'
  own : ∀ b, b < w.heap.size → fp B' σ' t' w' b ≤ fp B σ t w b
theorem Good.refl {n : Nat} {out : Nat → Nat} {M : Mem} {B : Blk} {σ : ASt} {t : Array Value} {w : World} (h : Inv n M B out σ t w) : Good n out M B σ t w M B σ t w :=
  ⟨h, MLe.refl _ _, Fr.refl _ _ _, fun _ _ => Nat.le_refl _⟩
theorem Good.trans {n : Nat} {out : Nat → Nat} {M M1 M2 : Mem} {B B1 B2 : Blk} {σ σ1 σ2 : ASt} {t t1 t2 : Array Value} {w w1 w2 : World}
    (h : Good n out M B σ t w M1 B1 σ1 t1 w1) (k : Good n out M1 B1 σ1 t1 w1 M2 B2 σ2 t2 w2) : Good n out M B σ t w M2 B2 σ2 t2 w2 :=
  ⟨k.inv, h.le.trans k.le, h.fr.trans k.fr (fun b hb h0 => by have := h.own b hb; omega), fun b hb => Nat.le_trans (k.own b (Nat.lt_of_lt_of_le hb h.fr.size)) (h.own b hb)⟩

/-! ### slots -/
theorem getD_set_ne' {t : Array Value} {k j : Nat} {v : Value} (h : k ≠ j) : (t.setIfInBounds k v).getD j undef = t.getD j undef := by simp [h]
theorem getD_set_eq' {t : Array Value} {k : Nat} {v : Value} (h : k < t.size) : (t.setIfInBounds k v).getD k undef = v := by simp [h]
theorem srt_cons {kp : Nat × PV} {l : Slots} : Srt (kp :: l) ↔ (∀ a, a ∈ l → kp.1 < a.1) ∧ Srt l := by simp [Srt]
theorem sput_mem {k : Nat} {p : PV} : ∀ {s : Slots} {a : Nat × PV}, a ∈ sput k p s → a = (k, p) ∨ a ∈ s
  | [], a, h => by simpa [sput] using h
  | (j, q) :: l, a, h => by
    rw [sput] at h
    split at h
    · rcases List.mem_cons.1 h with h | h
      · exact .inl h
      · exact .inr (by simp [h])
    · split at h
      · rcases List.mem_cons.1 h with h | h
        · exact .inl h
        · exact .inr h
      · rcases List.mem_cons.1 h with h | h
        · exact .inr (by simp [h])
        · rcases sput_mem h with h | h
          · exact .inl h
          · exact .inr (by simp [h])
theorem sput_srt {k : Nat} {p : PV} : ∀ {s : Slots}, Srt s → Srt (sput k p s)
  | [], _ => by simp [sput, Srt]
  | (j, q) :: l, h => by
    obtain ⟨h1, h2⟩ := srt_cons.1 h
    rw [sput]
    split
    · rename_i e; subst e; exact srt_cons.2 ⟨h1, h2⟩
    · split
      · rename_i hlt; exact srt_cons.2 ⟨fun a ha => by
          rcases List.mem_cons.1 ha with rfl | ha
          · exact hlt
          · exact Nat.lt_trans hlt (h1 a ha), h⟩
      · rename_i hne hnl; exact srt_cons.2 ⟨fun a ha => by
          rcases sput_mem ha with rfl | ha
          · show j < k; omega
          · exact h1 a ha, sput_srt h2⟩
theorem sget_none {k : Nat} : ∀ {s : Slots}, (∀ a, a ∈ s → k < a.1) → sget k s = none
  | [], _ => rfl
  | (j, q) :: l, h => by
    have := h (j, q) (by simp)
    rw [sget, if_neg (by simp at this; omega)]
    exact sget_none fun a ha => h a (by simp [ha])
theorem sget_sput {k : Nat} {p : PV} (j : Nat) : ∀ {s : Slots}, Srt s → sget j (sput k p s) = if k = j then some p else sget j s
  | [], _ => by simp [sput, sget]
  | (i, q) :: l, h => by
    obtain ⟨h1, h2⟩ := srt_cons.1 h
    rw [sput]
    split
    · rename_i e; subst e; simp only [sget]; split <;> rfl
    · split
      · simp only [sget]
      · rw [sget, sget_sput j h2, sget]
        by_cases h3 : i = j
        · subst h3; rw [if_pos rfl, if_pos rfl, if_neg (by omega)]
        · rw [if_neg h3, if_neg h3]
theorem sget_mem {k : Nat} {p : PV} : ∀ {s : Slots}, sget k s = some p → (k, p) ∈ s
  | [], h => by simp [sget] at h
  | (j, q) :: l, h => by
    rw [sget] at h
    split at h
    · rename_i e; subst e; injection h with h; subst h; simp
    · exact List.mem_cons_of_mem _ (sget_mem h)
theorem ownS_set_ne {k : Nat} {v : Value} {t : Array Value} {b : Nat} : ∀ {l : Slots}, (∀ a, a ∈ l → a.1 ≠ k) → ownS l (t.setIfInBounds k v) b = ownS l t b
  | [], _ => rfl
  | (j, q) :: l, h => by
    rw [ownS, ownS, getD_set_ne' (Ne.symm (h (j, q) (by simp))), ownS_set_ne fun a ha => h a (by simp [ha])]
/-- What slot k owns. -/
def ownK (s : Slots) (t : Array Value) (k b : Nat) : Nat := match sget k s with | some q => ownV q (t.getD k undef) b | none => 0
theorem ownS_put {k : Nat} {p : PV} {v : Value} {t : Array Value} {b : Nat} (hk : k < t.size) : ∀ {s : Slots}, Srt s → ownS (sput k p s) (t.setIfInBounds k v) b + ownK s t k b = ownS s t b + ownV p v b
  | [], _ => by simp [sput, ownS, ownK, sget, hk]
  | (j, q) :: l, h => by
    obtain ⟨h1, h2⟩ := srt_cons.1 h
    rw [sput]
    split
    · rename_i e; subst e
      have hl : ∀ a, a ∈ l → a.1 ≠ j := fun a ha => by have := h1 a ha; simp at this; omega
      simp only [ownS, getD_set_eq' hk, ownS_set_ne hl, ownK, sget, if_true]
      omega
    · split
      · rename_i hne hlt
        have hl : ∀ a, a ∈ (j, q) :: l → a.1 ≠ k := fun a ha => by
          rcases List.mem_cons.1 ha with rfl | ha
          · exact hne
          · have := h1 a ha; simp at this; omega
        have hn : sget k ((j, q) :: l) = none := sget_none fun a ha => by
          rcases List.mem_cons.1 ha with rfl | ha
          · exact hlt
          · have := h1 a ha; simp at this; omega
        rw [ownS, getD_set_eq' hk, ownS_set_ne hl, ownK, hn]
        show _ + 0 = _
        omega
      · rename_i hne hnl
        have ih := ownS_put (p := p) (v := v) (b := b) hk h2
        have e1 : ownK ((j, q) :: l) t k b = ownK l t k b := by simp only [ownK, sget, if_neg hne]
        rw [e1, ownS, ownS, getD_set_ne' (Ne.symm hne)]
        omega
theorem ownV_un (p : PV) (v : Value) (b : Nat) : ownV p.un v b = 0 := by simp [ownV, un_own]
theorem ownV_no {p : PV} (h : p.own = false) (v : Value) (b : Nat) : ownV p v b = 0 := by simp [ownV, h]
theorem ownV_le (p : PV) (v : Value) (b : Nat) : ownV p v b ≤ 1 := by
  unfold ownV; split
  · split
    · split <;> omega
    · omega
  · omega
theorem ownK_le {s : Slots} {t : Array Value} {k b : Nat} : ownK s t k b ≤ ownS s t b := by
  induction s with
  | nil => simp [ownK, sget, ownS]
  | cons a l ih =>
    obtain ⟨j, q⟩ := a
    by_cases e : j = k
    · subst e
      have : ownK ((j, q) :: l) t j b = ownV q (t.getD j undef) b := by simp only [ownK, sget, if_true]
      rw [this, ownS]; omega
    · have : ownK ((j, q) :: l) t k b = ownK l t k b := by simp only [ownK, sget, if_neg e]
      rw [this, ownS]; omega
theorem tl_no {M : Mem} {w : World} {p : PV} {v : Value} (h : p.own = false) : Tl M w p v := fun sz es A n cap e _ => by subst e; simp [PV.own] at h

/-! ### keeping -/
section
variable {n : Nat} {M : Mem} {B : Blk} {out : Nat → Nat} {σ : ASt} {t : Array Value} {w : World}
theorem Tl.kept {M' : Mem} {w' : World} {p : PV} {v : Value} (h : Tl M w p v) (hb : ∀ b, ownV p v b = 1 → w'.heap[b]? = w.heap[b]? ∧ ∀ o, M' b o = M b o) : Tl M' w' p v := by
  intro sz es A n cap e ev
  obtain ⟨g1, g2, g3⟩ := h sz es A n cap e ev
  refine ⟨g1, g2, fun a ha => ?_⟩
  obtain ⟨cs, ty, h1, h2, h3⟩ := g3 a ha
  subst ha
  obtain ⟨k1, k2⟩ := hb a.block (by subst e; subst ev; simp [ownV, PV.own])
  exact ⟨cs, ty, by rw [k1, h1], h2, fun o ho => by rw [k2]; exact h3.1 o ho, h3.2⟩
/-- A value put into a slot; the slots' own counts. -/
theorem Inv.put (hI : Inv n M B out σ t w) {k : Nat} (hk : k < n) {p : PV} {v : Value} (hr : Rep M B p v) (ho : p.own = false) :
    Good n out M B σ t w M B { σ with s := sput k p σ.s } (t.setIfInBounds k v) w := by
  have hle : ∀ b, fp B { σ with s := sput k p σ.s } (t.setIfInBounds k v) w b ≤ fp B σ t w b := fun b => by
    have := ownS_put (p := p) (v := v) (b := b) (by rw [hI.size]; exact hk : k < t.size) hI.srt
    rw [ownV_no ho] at this
    show ownS (sput k p σ.s) (t.setIfInBounds k v) b + ownH w σ.h B b ≤ ownS σ.s t b + ownH w σ.h B b
    omega
  refine ⟨⟨by simp [hI.size], hI.mem, sput_srt hI.srt, fun j q hj => ?_, hI.heap, fun b => by have := hI.cnt b; have := hle b; omega, fun b hb => by have := hI.new b hb; have := hle b; omega⟩, MLe.refl _ _, Fr.refl _ _ _, fun b _ => hle b⟩
  rw [sget_sput j hI.srt] at hj
  split at hj
  · rename_i e; subst e; injection hj with hj; subst hj
    rw [getD_set_eq' (by rw [hI.size]; exact hk)]
    exact ⟨hk, hr, tl_no ho⟩
  · rename_i hne
    rw [getD_set_ne' hne]
    exact hI.slots j q hj
/-- A slot loses the right to append. -/
theorem Inv.clr (hI : Inv n M B out σ t w) {k : Nat} {p : PV} (hp : sget k σ.s = some p) : Inv n M B out { σ with s := sput k p.un σ.s } t w ∧ ∀ b, fp B { σ with s := sput k p.un σ.s } t w b + ownV p (t.getD k undef) b = fp B σ t w b := by
  have hk := (hI.slots k p hp).1
  have hks : k < t.size := by rw [hI.size]; exact hk
  have hset : t.setIfInBounds k (t.getD k undef) = t := by
    apply Array.ext (by simp)
    intro i h1 h2
    by_cases h : k = i
    · subst h; simp [hks]
    · rw [Array.getElem_setIfInBounds (by simpa using h1), if_neg h]
  have hown : ∀ b, ownS (sput k p.un σ.s) t b + ownV p (t.getD k undef) b = ownS σ.s t b := fun b => by
    have := ownS_put (p := p.un) (v := t.getD k undef) (b := b) hks hI.srt
    rw [hset, ownV_un] at this
    simp only [ownK, hp] at this
    omega
  refine ⟨⟨hI.size, hI.mem, sput_srt hI.srt, fun j q hj => ?_, hI.heap, fun b => by have := hI.cnt b; have := hown b; simp only [fp] at *; omega, fun b hb => by have := hI.new b hb; have := hown b; simp only [fp] at *; omega⟩, fun b => by have := hown b; simp only [fp]; omega⟩
  rw [sget_sput j hI.srt] at hj
  split at hj
  · rename_i e; subst e; injection hj with hj; subst hj
    exact ⟨hk, rep_un.2 (hI.slots _ _ hp).2.1, tl_no (un_own _)⟩
  · exact hI.slots j q hj
/-- A value with the right to append put into a slot. -/
theorem Inv.putOwn (hI : Inv n M B out σ t w) {k : Nat} (hk : k < n) {p : PV} {v : Value} (hr : Rep M B p v) (hT : Tl M w p v) (hc : ∀ b, fp B σ t w b + ownV p v b + out b ≤ 1) (hn : ∀ b, w.heap.size ≤ b → ownV p v b = 0) :
    Inv n M B out { σ with s := sput k p σ.s } (t.setIfInBounds k v) w ∧ ∀ b, fp B { σ with s := sput k p σ.s } (t.setIfInBounds k v) w b ≤ fp B σ t w b + ownV p v b := by
  have hle : ∀ b, fp B { σ with s := sput k p σ.s } (t.setIfInBounds k v) w b ≤ fp B σ t w b + ownV p v b := fun b => by
    have := ownS_put (p := p) (v := v) (b := b) (by rw [hI.size]; exact hk : k < t.size) hI.srt
    simp only [fp]; omega
  refine ⟨⟨by simp [hI.size], hI.mem, sput_srt hI.srt, fun j q hj => ?_, hI.heap, fun b => by have := hc b; have := hle b; omega, fun b hb => by have := hI.new b hb; have := hle b; have := hn b hb; omega⟩, hle⟩
  rw [sget_sput j hI.srt] at hj
  split at hj
  · rename_i e; subst e; injection hj with hj; subst hj
    rw [getD_set_eq' (by rw [hI.size]; exact hk)]
    exact ⟨hk, hr, hT⟩
  · rename_i hne
    rw [getD_set_ne' hne]
    exact hI.slots j q hj
end
end Go.Proofs.Ytmclnnpaephkpaa

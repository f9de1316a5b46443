/-
  Slice literals and append, the whole step.
-/
import Derived.Test.YtmclnnpaephkpaaAbJ
namespace Go.Proofs.Ytmclnnpaephkpaa
set_option linter.unusedVariables false
set_option linter.unusedSimpArgs false
set_option linter.unnecessarySimpa false
set_option linter.unusedSectionVars false
open Go.RowKit

section
variable {n : Nat} {out : Nat → Nat} {M : Mem} {B : Blk} {σ : ASt} {a : Act} {w : World} {E : AE}
theorem ownV_new {p : PV} {b0 off m c : Nat} {b : Nat} : ownV p (.slice (some ⟨b0, off, none⟩) m c) b ≤ if b0 = b then 1 else 0 := by
  unfold ownV; split
  · simp
  · omega
/-- A new row, its first cells laid, as a slice that may be appended to. -/
theorem Pre.newRow (hI : Inv n M B out σ a.tmps w) {vs : Array Value} {ty : TypeId} {sz k : Nat} {es : List PV} {cap : Nat} (hpos : 0 < sz) (h1 : ∀ v, v ∈ vs → v.oneCell' = true) (hk : k = es.length * sz) (hcap : es.length ≤ cap) (hcap2 : cap * sz ≤ vs.size)
    (hs : ∀ e, e ∈ es → e.size = sz) (hl : Locs (laid M w.heap.size (vs.toList.take k)) [] sz es w.heap.size 0) :
    Pre n out M B σ a.tmps w (laid M w.heap.size (vs.toList.take k)) B σ (w.alloc (.cells vs ty)) (.sl true sz es) (.slice (some ⟨w.heap.size, 0, none⟩) es.length cap) := by
  obtain ⟨hG, hfp⟩ := hI.lay vs ty k h1
  have h0 := fun b (hb : w.heap.size ≤ b) => hI.new b hb
  refine ⟨hG.inv, hG.le, hG.fr, fun b hb => ?_, rep_sl.2 ⟨_, cap, rfl, hcap, hs, fun h => absurd h (by omega), fun _ => ⟨_, _, rfl, hl⟩⟩, ?_, fun b => ?_, fun b hb => ?_⟩
  · rw [hfp]
    have := ownV_new (p := .sl true sz es) (b0 := w.heap.size) (off := 0) (m := es.length) (c := cap) (b := b)
    rw [if_neg (by omega)] at this; omega
  · intro sz' es' x n' cap' e ev
    cases e; cases ev
    refine ⟨by simp, fun h => absurd h (by omega), fun x hx => ?_⟩
    cases hx
    refine ⟨vs, ty, heap_alloc_new w _, by simpa using hcap2, fun o ho => ?_, rfl⟩
    simp only at ho
    rw [laid, if_pos rfl, List.getElem?_eq_none]
    rw [List.length_take]; omega
  · rw [hfp]
    have := ownV_new (p := .sl true sz es) (b0 := w.heap.size) (off := 0) (m := es.length) (c := cap) (b := b)
    have := hI.cnt b
    by_cases e : w.heap.size = b
    · subst e; have := h0 _ (Nat.le_refl _); rw [if_pos rfl] at *; omega
    · rw [if_neg e] at *; omega
  · have := ownV_new (p := .sl true sz es) (b0 := w.heap.size) (off := 0) (m := es.length) (c := cap) (b := b)
    simp at hb
    rw [if_neg (by omega)] at this; omega
theorem flat_get : ∀ {es : List PV} {p : PV}, p ∈ flatPV es → p.own = false
  | [], p, h => by simp [flatPV] at h
  | e :: es, p, h => by
    cases e with
    | agg ds =>
      rw [flatPV] at h
      rcases List.mem_append.1 h with h | h
      · obtain ⟨x, _, rfl⟩ := List.mem_map.1 h; exact un_own x
      · exact flat_get h
    | _ =>
      rw [flatPV] at h
      · rcases List.mem_cons.1 h with rfl | h
        · exact un_own _
        · exact flat_get h
      · simp
theorem flat_reps : ∀ {es : List PV} {vs : List (Nat × Value)}, es.length = vs.length → (∀ (j : Nat) e v, es[j]? = some e → vs[j]? = some v → Rep M B e v.2 ∧ e.okE = true) → Reps M B (flatPV es) (vs.flatMap fun v => v.2.cells.toList)
  | [], [], _, _ => reps_nil.2 rfl
  | [], _ :: _, h, _ => by simp at h
  | _ :: _, [], h, _ => by simp at h
  | e :: es, v :: vs, hl, h => by
    obtain ⟨h1, h2⟩ := h 0 e v rfl rfl
    have ih := flat_reps (es := es) (vs := vs) (by simpa using hl) fun j e v a b => h (j + 1) e v (by simpa using a) (by simpa using b)
    rw [List.flatMap_cons]
    cases e with
    | agg ds =>
      obtain ⟨us, e1, hr⟩ := rep_agg.1 h1
      rw [flatPV, e1]
      exact reps_append (reps_un hr) ih
    | tuple ds => simp [PV.okE, PV.one] at h2
    | _ =>
      rw [flatPV]
      · rw [(one_cells rfl h1).1]
        exact reps_cons.2 ⟨_, _, rfl, rep_un.2 h1, ih⟩
      · simp
theorem un_okE (p : PV) : p.un.okE = p.okE := by cases p <;> rfl
theorem literal_sound (hI : Inv n M B out σ a.tmps w) {zs : List Nat} {P : Program} {ty : TypeId} {I : TI} (hT : elemTI P ty = some I) {ps : Array (Nat × Operand)} {qs : List (Nat × PV)} (hq : partsPV (σ.rdT zs) ps.toList = some qs) {es : List PV} (he : elemsPV I.size 0 qs = some es) {len : Nat} (hlen : es.length = len) (hpos : 0 < I.size) (hsm : len * I.size ≤ 16777216) :
    (∃ v w' M' B', (Instr.buildSlice ty len (ps.map fun (i, x) => (i, a.eval x))).run P w = .ok v w' ∧ Pre n out M B σ a.tmps w M' B' σ w' (.sl true I.size es) v) ∧
    (∃ v w' M' B', (Instr.buildSlice ty len (ps.map fun (i, x) => (i, a.eval x))).run P w = .ok v w' ∧ Pre n out M B σ a.tmps w M' B' { σ with h := σ.h ++ [some (flatPV es)] } w' (.slh σ.h.length 0 len I.size) v) := by
  subst hlen
  obtain ⟨hp, hsz⟩ := build_parts (E := ⟨P, 0, [], [], [], [], [], [], [], []⟩) (M := M) (B := B) (hI.rdT zs) hq he
  obtain ⟨e, hrun⟩ := literal_run hT hsz (fun j v hv => by obtain ⟨h1, h2, _⟩ := hp j v hv; exact ⟨h1, h2⟩) hpos hsm w
  generalize hps : (ps.map fun (i, x) => (i, a.eval x)) = parts at *
  have hfl := flatMap_len (vs := parts.toList) (sz := I.size) fun j v hv => (hp j v hv).2.1
  have hpl : parts.toList.length = es.length := by simpa using hsz
  rw [hpl] at hfl
  have hes : ∀ (j : Nat) e v, es[j]? = some e → parts.toList[j]? = some v → Rep M B e v.2 ∧ e.okE = true ∧ e.size = I.size := fun j e v h1 h2 => by
    obtain ⟨_, _, q, _, h3, h4, h5, h6⟩ := hp j v h2
    rw [h1] at h3; cases h3
    exact ⟨rep_un.2 h5, by rw [un_okE]; exact h6, by rw [un_size]; exact h4⟩
  have hone : ∀ v, v ∈ (parts.toList.flatMap fun v => v.2.cells.toList) → v.oneCell' = true := by
    intro u hu
    obtain ⟨v, hv, hu⟩ := List.mem_flatMap.1 hu
    obtain ⟨j, hj⟩ := List.mem_iff_getElem?.1 hv
    obtain ⟨_, _, q, _, _, _, h5, h6⟩ := hp j v hj
    exact rep_cells_one h5 h6 u hu
  constructor
  · refine ⟨_, _, _, _, hrun, Pre.newRow hI (k := es.length * I.size) hpos (by simpa using hone) rfl (Nat.le_refl _) (by simp [hfl]) (fun e he => ?_) (locs_of fun j p hj => ?_)⟩
    · obtain ⟨j, hj⟩ := List.mem_iff_getElem?.1 he
      have hlt := (List.getElem?_eq_some_iff.1 hj).1
      exact (hes j e _ hj (List.getElem?_eq_getElem (by omega))).2.2
    · have hlt := (List.getElem?_eq_some_iff.1 hj).1
      have hv : parts.toList[j]? = some (parts.toList[j]'(by omega)) := List.getElem?_eq_getElem (by omega)
      generalize parts.toList[j]'(by omega) = v at hv
      obtain ⟨r1, r2, r3⟩ := hes j p v hj hv
      have r1 := r1.flat [] (okE_flat r2)
      have hm := (laid_le hI ((parts.toList.flatMap fun v => v.2.cells.toList).toArray.toList.take (es.length * I.size))).none
      have hcell : ∀ i, i < I.size → ∀ u, v.2.cells.toList[i]? = some u → laid M w.heap.size ((parts.toList.flatMap fun v => v.2.cells.toList).toArray.toList.take (es.length * I.size)) w.heap.size (0 + j * I.size + i) = some u := fun i hi u hu => by
        rw [laid, if_pos rfl, List.getElem?_take, if_pos (by
          have : (j + 1) * I.size ≤ es.length * I.size := Nat.mul_le_mul_right _ hlt
          rw [Nat.add_mul] at this; omega)]
        show (parts.toList.flatMap fun v => v.2.cells.toList)[0 + j * I.size + i]? = some u
        rw [Nat.zero_add, flatMap_get (fun j v hv => (hp j v hv).2.1) hv i hi]; exact hu
      cases p with
      | agg ds =>
        obtain ⟨us, e1, hr⟩ := rep_agg.1 r1
        refine loc_agg.2 (cells_of fun i q hq => ?_)
        obtain ⟨u, hu, hru⟩ := reps_get hr hq
        have hi := (List.getElem?_eq_some_iff.1 hq).1
        simp [PV.size] at r3
        exact ⟨u, hcell i (by omega) u (by rw [e1]; exact hu), hru.mono hm⟩
      | tuple ds => simp [PV.okE, PV.one] at r2
      | _ =>
        refine (loc_of_one rfl).2 ⟨v.2, ?_, r1.mono hm⟩
        have := hcell 0 (by simp [PV.size] at r3; omega) v.2 (by rw [(one_cells rfl r1).1]; rfl)
        simpa using this
  · have hfr : Reps M B (flatPV es) (parts.toList.flatMap fun v => v.2.cells.toList) := flat_reps hpl.symm fun j e v h1 h2 => ⟨(hes j e v h1 h2).1, (hes j e v h1 h2).2.1⟩
    have hG := hI.newObj (parts.toList.flatMap fun v => v.2.cells.toList).toArray e (flatPV es) (by have := reps_length hfr; simpa using Nat.le_of_eq this) (fun j p hj => by
      obtain ⟨u, hu, hr⟩ := reps_get hfr hj
      have ho := flat_get (List.mem_of_getElem? hj)
      exact ⟨u, by simpa using hu, hr, tl_no ho, hone u (List.mem_of_getElem? hu), fun b => ownV_no ho _ _⟩)
    refine ⟨_, _, _, _, hrun, Pre.ofGood hG (rep_slh.2 ⟨(w.heap.size, (parts.toList.flatMap fun v => v.2.cells.toList).toArray.size), es.length, by rw [hI.heap.1]; simp, rfl, Nat.le_refl _, by simp [hfl]⟩) rfl⟩
end
end Go.Proofs.Ytmclnnpaephkpaa

/-
  Slice literals and append.
-/
import Derived.Test.YtmclnnpaephkpaaAbI
namespace Go.Proofs.Ytmclnnpaephkpaa
set_option linter.unusedVariables false
set_option linter.unusedSimpArgs false
set_option linter.unnecessarySimpa false
set_option linter.unusedSectionVars false
open Go.RowKit

section
variable {n : Nat} {out : Nat → Nat} {M M' : Mem} {B : Blk} {σ : ASt} {a : Act} {w : World} {t : Array Value}
/-- All parts given in order: their cells one behind the other. -/
theorem fill_seq (sz : Nat) : ∀ (vs : List (Nat × Value)) (k : Nat) (done rest : List Value), (∀ (j : Nat) v, vs[j]? = some v → v.1 = k + j ∧ v.2.cells.size = sz) → done.length = k * sz → rest.length = vs.length * sz →
    Instr.fill (fun i => some (i * sz, sz)) (done ++ rest).toArray vs = some (done ++ vs.flatMap fun v => v.2.cells.toList).toArray
  | [], k, done, rest, _, _, hr => by
    have : rest = [] := List.eq_nil_of_length_eq_zero (by simpa using hr)
    subst this; simp [Instr.fill]
  | v :: vs, k, done, rest, h, hd, hr => by
    obtain ⟨e1, e2⟩ := h 0 v rfl
    obtain ⟨i, v⟩ := v
    simp only [Nat.add_zero] at e1 e2
    subst e1
    have hfold := fold_seg (i * sz) v.cells.toList 0 (done ++ rest).toArray (by simp [hd, e2]; rw [hr]; simp [Nat.add_mul])
    have ha : (v.cells.zipIdx.foldl (fun cs (c, j) => cs.setIfInBounds (i * sz + j) c) (done ++ rest).toArray) = ((v.cells.toList.zipIdx 0).foldl (fun (cs : Array Value) (cj : Value × Nat) => cs.setIfInBounds (i * sz + cj.2) cj.1) (done ++ rest).toArray) := by
      rw [← Array.foldl_toList, Array.toList_zipIdx]
    have hl : v.cells.toList.length = sz := by simpa using e2
    simp only [Nat.add_zero, hl, ← hd] at hfold
    rw [List.take_left, ← List.drop_drop, List.drop_left] at hfold
    rw [Instr.fill]
    simp only
    rw [if_neg (by simp [e2, hd, hr, Nat.add_mul]), ha]
    have harr : (v.cells.toList.zipIdx 0).foldl (fun (cs : Array Value) (cj : Value × Nat) => cs.setIfInBounds (i * sz + cj.2) cj.1) (done ++ rest).toArray = ((done ++ v.cells.toList) ++ rest.drop sz).toArray := by
      rw [← Array.toList_inj, ← hd, hfold]
    rw [harr, fill_seq sz vs (i + 1) (done ++ v.cells.toList) (rest.drop sz) (fun j x hx => by
      obtain ⟨a1, a2⟩ := h (j + 1) x (by simpa using hx)
      exact ⟨by omega, a2⟩) (by simp [hd, hl, Nat.add_mul]) (by simp [hr, Nat.add_mul])]
    simp
theorem loc_copy {p : PV} {b o b' o' : Nat} (h : Loc M B p b o) (hle : ∀ (b o : Nat) (v : Value), M b o = some v → M' b o = some v) (hc : ∀ j, j < p.size → ∀ v, M b (o + j) = some v → M' b' (o' + j) = some v) : Loc M' B p b' o' := by
  have hm : MLe M M' B B := ⟨hle, fun _ _ h => h⟩
  by_cases ha : p.isAgg = true
  · cases p <;> simp [PV.isAgg] at ha
    rename_i cs
    refine loc_agg.2 (cells_of fun j q hq => ?_)
    obtain ⟨u, hu, hr⟩ := cells_get (loc_agg.1 h) hq
    exact ⟨u, hc j (List.getElem?_eq_some_iff.1 hq).1 u hu, hr.mono hm⟩
  · have ha' : p.isAgg = false := by simpa using ha
    have ht : ∀ cs, p ≠ .tuple cs := fun cs e => by subst e; exact loc_tuple.1 h
    obtain ⟨u, hu, hr⟩ := (loc_one ha' ht).1 h
    have hsz : p.size = 1 := by cases p <;> first | rfl | (simp [PV.isAgg] at ha')
    refine (loc_one ha' ht).2 ⟨u, ?_, hr.mono hm⟩
    have := hc 0 (by omega) u (by simpa using hu)
    simpa using this
theorem locs_copy {ps : List PV} {sz b o b' o' : Nat} (h : Locs M B sz ps b o) (hs : ∀ p, p ∈ ps → p.size = sz) (hle : ∀ (b o : Nat) (v : Value), M b o = some v → M' b o = some v) (hc : ∀ j, j < ps.length * sz → ∀ v, M b (o + j) = some v → M' b' (o' + j) = some v) : Locs M' B sz ps b' o' :=
  locs_of fun j p hp => loc_copy (locs_get h hp) hle fun i hi v hv => by
    have hj := (List.getElem?_eq_some_iff.1 hp).1
    have hsz := hs p (List.mem_of_getElem? hp)
    have : j * sz + i < ps.length * sz := by
      have : (j + 1) * sz ≤ ps.length * sz := Nat.mul_le_mul_right _ hj
      rw [Nat.add_mul] at this; omega
    have := hc (j * sz + i) this v (by rwa [show o + (j * sz + i) = o + j * sz + i by omega])
    rwa [show o' + (j * sz + i) = o' + j * sz + i by omega] at this
/-- The cells of laid elements. -/
theorem loc_vals {p : PV} {b o : Nat} (h : Loc M B p b o) : ∃ vs : List Value, vs.length = p.size ∧ ∀ (j : Nat) v, vs[j]? = some v → M b (o + j) = some v := by
  by_cases ha : p.isAgg = true
  · cases p <;> simp [PV.isAgg] at ha
    rename_i cs
    obtain ⟨vs, h1, h2⟩ := cells_vals (loc_agg.1 h)
    exact ⟨vs, (reps_length h1).symm, h2⟩
  · have ha' : p.isAgg = false := by simpa using ha
    have ht : ∀ cs, p ≠ .tuple cs := fun cs e => by subst e; exact loc_tuple.1 h
    obtain ⟨u, hu, hr⟩ := (loc_one ha' ht).1 h
    have hsz : p.size = 1 := by cases p <;> first | rfl | (simp [PV.isAgg] at ha')
    refine ⟨[u], by simp [hsz], fun j v hv => ?_⟩
    cases j with
    | zero => simp at hv; subst hv; exact hu
    | succ j => simp at hv
theorem locs_vals : ∀ {ps : List PV} {sz b o : Nat}, Locs M B sz ps b o → (∀ p, p ∈ ps → p.size = sz) → ∃ vs : List Value, vs.length = ps.length * sz ∧ ∀ (j : Nat) v, vs[j]? = some v → M b (o + j) = some v
  | [], _, _, _, _, _ => ⟨[], by simp, by simp⟩
  | p :: ps, sz, b, o, h, hs => by
    obtain ⟨h1, h2⟩ := locs_cons.1 h
    obtain ⟨us, u1, u2⟩ := loc_vals h1
    obtain ⟨vs, v1, v2⟩ := locs_vals h2 fun q hq => hs q (by simp [hq])
    have hp := hs p (by simp)
    refine ⟨us ++ vs, by simp [u1, v1, hp, Nat.add_mul]; omega, fun j v hv => ?_⟩
    rcases Nat.lt_or_ge j us.length with hj | hj
    · exact u2 j v (by rwa [List.getElem?_append_left hj] at hv)
    · have := v2 (j - us.length) v (by rwa [List.getElem?_append_right hj] at hv)
      rwa [show o + sz + (j - us.length) = o + j by omega] at this
theorem elems_spec {sz : Nat} : ∀ {qs : List (Nat × PV)} {k : Nat} {es : List PV}, elemsPV sz k qs = some es → es.length = qs.length ∧ ∀ (j : Nat) q, qs[j]? = some q → q.1 = k + j ∧ q.2.size = sz ∧ q.2.okE = true ∧ es[j]? = some q.2.un
  | [], k, es, h => by simp [elemsPV] at h; subst h; simp
  | (i, p) :: qs, k, es, h => by
    rw [elemsPV] at h
    split at h
    · rename_i hc
      cases he : elemsPV sz (k + 1) qs with
      | none => simp [he] at h
      | some es' =>
        simp [he] at h; subst h
        obtain ⟨h1, h2⟩ := elems_spec he
        refine ⟨by simp [h1], fun j q hq => ?_⟩
        cases j with
        | zero => simp at hq; subst hq; exact ⟨hc.1, hc.2.1, hc.2.2, rfl⟩
        | succ j =>
          obtain ⟨a1, a2, a3, a4⟩ := h2 j q (by simpa using hq)
          exact ⟨by omega, a2, a3, by simpa using a4⟩
    · cases h
theorem flatMap_get {vs : List (Nat × Value)} {sz : Nat} (hs : ∀ (j : Nat) v, vs[j]? = some v → v.2.cells.size = sz) : ∀ {j : Nat} {v : Nat × Value}, vs[j]? = some v → ∀ i, i < sz → (vs.flatMap fun v => v.2.cells.toList)[j * sz + i]? = v.2.cells.toList[i]? := by
  induction vs with
  | nil => intro j v h; simp at h
  | cons u us ih =>
    intro j v h i hi
    have hu : u.2.cells.toList.length = sz := by simpa using hs 0 u rfl
    rw [List.flatMap_cons]
    cases j with
    | zero => simp at h; subst h; rw [List.getElem?_append_left (by rw [hu]; omega)]; simp
    | succ j =>
      rw [List.getElem?_append_right (by rw [hu, Nat.add_mul]; omega), hu, show (j + 1) * sz + i - sz = j * sz + i by rw [Nat.add_mul]; omega]
      exact ih (fun j v h => hs (j + 1) v (by simpa using h)) (by simpa using h) i hi
theorem flatMap_len {vs : List (Nat × Value)} {sz : Nat} (hs : ∀ (j : Nat) v, vs[j]? = some v → v.2.cells.size = sz) : (vs.flatMap fun v => v.2.cells.toList).length = vs.length * sz := by
  induction vs with
  | nil => simp
  | cons u us ih =>
    rw [List.flatMap_cons, List.length_append, ih (fun j v h => hs (j + 1) v (by simpa using h))]
    have hu : u.2.cells.toList.length = sz := by simpa using hs 0 u rfl
    rw [hu]; simp [Nat.add_mul]; omega
/-- The concrete side of a slice literal. -/
theorem literal_run {P : Program} {ty : TypeId} {I : TI} (hI' : elemTI P ty = some I) {len : Nat} {parts : Array (Nat × Value)} (hl : parts.size = len) (hs : ∀ (j : Nat) v, parts.toList[j]? = some v → v.1 = j ∧ v.2.cells.size = I.size) (hpos : 0 < I.size) (hsm : len * I.size ≤ 16777216) (w : World) :
    ∃ e, (Instr.buildSlice ty len parts).run P w = .ok (.slice (some ⟨w.heap.size, 0, none⟩) len len) (w.alloc (.cells (parts.toList.flatMap fun v => v.2.cells.toList).toArray e)) := by
  obtain ⟨e, i, z, d, hu, hT⟩ := elem_spec hI'
  refine ⟨e, ?_⟩
  have hsz := hT.size
  by_cases h0 : len = 0
  · subst h0
    have hp : parts = #[] := by apply Array.eq_empty_of_size_eq_zero hl
    subst hp
    simp [Instr.buildSlice, run_underlying hu, hT.run_sizeOf w, Instr.fill, newRow]
    have : (Array.range 0) = #[] := by simp
    rw [this, Array.map_empty]
  · refine run_buildSlice w ty e len parts _ i z hu hT.info hT.zero (by rw [← hsz]; omega) (by rw [← hsz]; exact Nat.mul_ne_zero h0 (by omega)) ?_
    have := fill_seq i.size parts.toList 0 [] ((List.range (len * i.size)).map (z.cells[· % z.cells.size]!)) (fun j v hv => by obtain ⟨a1, a2⟩ := hs j v hv; exact ⟨by omega, by omega⟩) (by simp) (by simp [← hl])
    have e : (Array.range (len * i.size)).map (z.cells[· % z.cells.size]!) = ([] ++ (List.range (len * i.size)).map (z.cells[· % z.cells.size]!)).toArray := by
      apply Array.toList_inj.1; simp
    rw [e, this]; rfl
theorem build_parts {E : AE} {rd : Operand → Option PV} {ρ : Operand → Value} (hrd : ∀ x q, rd x = some q → Rep M B q (ρ x) ∧ q.own = false) {ps : Array (Nat × Operand)} {qs : List (Nat × PV)} (hq : partsPV rd ps.toList = some qs) {sz : Nat} {es : List PV} (he : elemsPV sz 0 qs = some es) :
    (∀ (j : Nat) v, (ps.map fun (i, x) => (i, ρ x)).toList[j]? = some v → v.1 = j ∧ v.2.cells.size = sz ∧ ∃ q : Nat × PV, qs[j]? = some q ∧ es[j]? = some q.2.un ∧ q.2.size = sz ∧ Rep M B q.2 v.2 ∧ q.2.okE = true) ∧ (ps.map fun (i, x) => (i, ρ x)).size = es.length := by
  obtain ⟨p1, p2⟩ := parts_rep hrd hq
  obtain ⟨e1, e2⟩ := elems_spec he
  have hps : (ps.map fun (i, x) => (i, ρ x)).toList = ps.toList.map fun ix => (ix.1, ρ ix.2) := by simp
  refine ⟨fun j v hv => ?_, by rw [e1, p1]; simp⟩
  rw [hps] at hv
  have hj := (List.getElem?_eq_some_iff.1 hv).1
  have hq' : qs[j]? = some (qs[j]'(by rw [p1]; exact hj)) := List.getElem?_eq_getElem _
  obtain ⟨a1, a2⟩ := p2 j _ v hq' hv
  obtain ⟨b1, b2, b3, b4⟩ := e2 j _ hq'
  refine ⟨by omega, ?_, _, hq', b4, b2, a2, b3⟩
  generalize qs[j]'(by rw [p1]; exact hj) = q at *
  cases hq2 : q.2 with
  | agg cs =>
    rw [hq2] at a2 b2
    obtain ⟨vs, hv2, hr⟩ := rep_agg.1 a2
    have := reps_length hr
    rw [hv2]
    simp [PV.size] at b2
    simp at this
    show vs.size = sz
    omega
  | tuple cs => rw [hq2] at b3; simp [PV.okE, PV.one] at b3
  | _ =>
    rw [(one_cells (p := q.2) (by rw [hq2]; rfl) a2).1, ← b2, hq2]; rfl
theorem rep_cells_one {p : PV} {v : Value} (h : Rep M B p v) (hg : p.okE = true) : ∀ u, u ∈ v.cells.toList → u.oneCell' = true := by
  have key : p.one = true → ∀ u, u ∈ v.cells.toList → u.oneCell' = true := fun ho u hu => by
    rw [(one_cells ho h).1] at hu
    have : u = v := by simpa using hu
    subst this; exact (one_cells ho h).2
  cases p with
  | agg cs =>
    obtain ⟨vs, rfl, hr⟩ := rep_agg.1 h
    simp only [PV.okE, Bool.and_eq_true] at hg
    exact reps_one hr (List.all_eq_true.1 hg.1)
  | tuple cs => simp [PV.okE, PV.one] at hg
  | _ => exact key rfl
end
end Go.Proofs.Ytmclnnpaephkpaa

/-
  Building values; every operation of 'pop'.
-/
import Derived.Test.YtmclnnpaephkpaaAbF
import Derived.Great.BuildSlice
import Derived.Laws.CopyRow
namespace Go.Proofs.Ytmclnnpaephkpaa
set_option linter.unusedVariables false
set_option linter.unusedSimpArgs false
set_option linter.unnecessarySimpa false
set_option linter.unusedSectionVars false
open Go.RowKit

theorem fold_seg (off : Nat) : ∀ (l : List Value) (k : Nat) (cs : Array Value), off + k + l.length ≤ cs.size →
    ((l.zipIdx k).foldl (fun (cs : Array Value) (cj : Value × Nat) => cs.setIfInBounds (off + cj.2) cj.1) cs).toList = cs.toList.take (off + k) ++ l ++ cs.toList.drop (off + k + l.length)
  | [], k, cs, _ => by simp
  | v :: l, k, cs, h => by
    simp only [List.zipIdx_cons, List.foldl_cons]
    rw [fold_seg off l (k + 1) _ (by simp at h ⊢; omega), Array.toList_setIfInBounds]
    have := list_seg_step cs.toList (off + k) v l (by simp at h ⊢; omega)
    rw [show off + (k + 1) = off + k + 1 by omega, this]
    simp [Nat.add_assoc, Nat.add_comm 1]
section
variable {P : Program} {M : Mem} {B : Blk}
theorem reps_append {ps qs : List PV} {us vs : List Value} (h1 : Reps M B ps us) (h2 : Reps M B qs vs) : Reps M B (ps ++ qs) (us ++ vs) := by
  have l1 := reps_length h1
  refine reps_of (by simp [l1, reps_length h2]) fun j p u hp hu => ?_
  rw [List.getElem?_append] at hp hu
  by_cases h : j < ps.length
  · rw [if_pos h] at hp; rw [if_pos (by omega)] at hu
    obtain ⟨u', e, hr⟩ := reps_get h1 hp
    rw [e] at hu; cases hu; exact hr
  · rw [if_neg h] at hp; rw [if_neg (by omega), ← l1] at hu
    obtain ⟨u', e, hr⟩ := reps_get h2 hp
    rw [e] at hu; cases hu; exact hr
theorem reps_take {ps : List PV} {us : List Value} (h : Reps M B ps us) (k : Nat) : Reps M B (ps.take k) (us.take k) := by
  have := reps_take_drop h 0 k; simpa using this
theorem reps_drop {ps : List PV} {us : List Value} (h : Reps M B ps us) (k : Nat) : Reps M B (ps.drop k) (us.drop k) := by
  have := reps_take_drop h k (ps.length - k)
  have hl := reps_length h
  rwa [List.take_of_length_le (by simp), List.take_of_length_le (by simp [hl])] at this
theorem reps_un {ps : List PV} {us : List Value} (h : Reps M B ps us) : Reps M B (ps.map PV.un) us := by
  refine reps_of (by simp [reps_length h]) fun j p u hp hu => ?_
  rw [List.getElem?_map] at hp
  cases hq : ps[j]? with
  | none => simp [hq] at hp
  | some q =>
    simp [hq] at hp; subst hp
    obtain ⟨u', e, hr⟩ := reps_get h hq
    rw [e] at hu; cases hu; exact rep_un.2 hr
theorem one_cells {p : PV} (h : p.one = true) {v : Value} (hr : Rep M B p v) : v.cells = #[v] ∧ v.oneCell' = true := by
  cases p with
  | int k n => rw [rep_int.1 hr]; exact ⟨rfl, rfl⟩
  | bool b => rw [rep_bool.1 hr]; exact ⟨rfl, rfl⟩
  | str b => rw [rep_str.1 hr]; exact ⟨rfl, rfl⟩
  | nilp => rw [rep_nilp.1 hr]; exact ⟨rfl, rfl⟩
  | raw u => obtain ⟨rfl, h1⟩ := rep_raw.1 hr; refine ⟨?_, h1⟩; cases v <;> first | rfl | (simp [Value.oneCell'] at h1)
  | ptr i off => obtain ⟨c, _, rfl⟩ := rep_ptr.1 hr; exact ⟨rfl, rfl⟩
  | cst e => obtain ⟨c, _, rfl, _⟩ := rep_cst.1 hr; exact ⟨rfl, rfl⟩
  | sl o sz es => obtain ⟨A, c, rfl, _⟩ := rep_sl.1 hr; exact ⟨rfl, rfl⟩
  | slh i off n sz => obtain ⟨A, c, _, rfl, _⟩ := rep_slh.1 hr; exact ⟨rfl, rfl⟩
  | func fn f c => obtain ⟨f, c, rfl, _⟩ := rep_func.1 hr; exact ⟨rfl, rfl⟩
  | agg cs => simp [PV.one] at h
  | tuple cs => simp [PV.one] at h
theorem newCells_rep {p : PV} {new : List PV} (h : p.newCells = some new) {v : Value} (hr : Rep M B p v) : Reps M B new v.cells.toList ∧ ∀ q, q ∈ new → q.own = false := by
  unfold PV.newCells at h
  split at h
  · split at h
    · cases h
      obtain ⟨vs, rfl, hs⟩ := rep_agg.1 hr
      exact ⟨reps_un hs, fun q hq => by obtain ⟨x, _, rfl⟩ := List.mem_map.1 hq; exact un_own x⟩
    · cases h
  · split at h
    · rename_i h1
      cases h
      rw [(one_cells h1 hr).1]
      exact ⟨reps_cons.2 ⟨v, [], rfl, rep_un.2 hr, reps_nil.2 rfl⟩, fun q hq => by rw [List.mem_singleton.1 hq]; exact un_own p⟩
    · cases h
theorem newCells_one {p : PV} {new : List PV} (h : p.newCells = some new) {v : Value} (hr : Rep M B p v) : ∀ u, u ∈ v.cells.toList → u.oneCell' = true := by
  have h1 := (newCells_rep h hr).1
  have h2 : ∀ q, q ∈ new → q.one = true := by
    unfold PV.newCells at h
    split at h
    · split at h
      · rename_i hall
        cases h; intro q hq; obtain ⟨x, hx, rfl⟩ := List.mem_map.1 hq; rw [un_one]; exact List.all_eq_true.1 hall x hx
      · cases h
    · split at h
      · rename_i ho
        cases h; intro q hq; rw [List.mem_singleton.1 hq, un_one]; exact ho
      · cases h
  intro u hu
  obtain ⟨j, hj⟩ := List.mem_iff_getElem?.1 hu
  have hl := reps_length h1
  have hjl := (List.getElem?_eq_some_iff.1 hj).1
  have hd : new[j]? = some (new[j]'(by omega)) := List.getElem?_eq_getElem (by omega)
  obtain ⟨u', e, hr'⟩ := reps_get h1 hd
  rw [e] at hj; cases hj
  exact (one_cells (h2 _ (List.getElem_mem _)) hr').2
theorem fill_rep {place : Nat → Option (Nat × Nat)} : ∀ {ps : List (Nat × PV)} {vs : List (Nat × Value)} {cs : List PV} {us : Array Value} {r : List PV}, fillPV place cs ps = some r → Reps M B cs us.toList →
    ps.length = vs.length → (∀ (j : Nat) p v, ps[j]? = some p → vs[j]? = some v → p.1 = v.1 ∧ Rep M B p.2 v.2) → ∃ r', Instr.fill place us vs = some r' ∧ Reps M B r r'.toList
  | [], [], cs, us, r, h, hc, _, _ => by simp [fillPV] at h; subst h; exact ⟨us, rfl, hc⟩
  | [], _ :: _, _, _, _, _, _, hl, _ => by simp at hl
  | _ :: _, [], _, _, _, _, _, hl, _ => by simp at hl
  | (i, p) :: ps, (i', v) :: vs, cs, us, r, h, hc, hl, hv => by
    obtain ⟨e, hr⟩ := hv 0 (i, p) (i', v) rfl rfl
    simp only at e hr; subst e
    rw [fillPV] at h
    split at h
    · rename_i o z new hp hn
      split at h
      · rename_i hlen
        obtain ⟨hz, hfit⟩ := hlen
        have hnr := (newCells_rep hn hr).1
        have hsz : v.cells.size = z := by have := reps_length hnr; simp at this; omega
        have hus : us.size = cs.length := by have := reps_length hc; simp at this; omega
        have hfold := fold_seg o v.cells.toList 0 us (by simp; omega)
        simp only [Nat.add_zero] at hfold
        have ha : (v.cells.zipIdx.foldl (fun cs (c, j) => cs.setIfInBounds (o + j) c) us) = ((v.cells.toList.zipIdx 0).foldl (fun (cs : Array Value) (cj : Value × Nat) => cs.setIfInBounds (o + cj.2) cj.1) us) := by
          rw [← Array.foldl_toList, Array.toList_zipIdx]
        obtain ⟨r', h1, h2⟩ := fill_rep (ps := ps) (vs := vs) (us := (v.cells.toList.zipIdx 0).foldl (fun (cs : Array Value) (cj : Value × Nat) => cs.setIfInBounds (o + cj.2) cj.1) us) h (by
          rw [hfold]
          have : (v.cells.toList.length) = z := by simpa using hsz
          rw [this]
          exact reps_append (reps_append (reps_take hc o) hnr) (reps_drop hc _)) (by simpa using hl) (fun j p v a b => hv (j + 1) p v (by simpa using a) (by simpa using b))
        refine ⟨r', ?_, h2⟩
        rw [Instr.fill, hp]
        simp only
        rw [if_neg (by simp; omega), ha]
        exact h1
      · cases h
    · cases h
theorem fill_own {place : Nat → Option (Nat × Nat)} : ∀ {ps : List (Nat × PV)} {cs r : List PV}, fillPV place cs ps = some r → (∀ q, q ∈ cs → q.own = false) → ∀ q, q ∈ r → q.own = false
  | [], cs, r, h, hc => by simp [fillPV] at h; subst h; exact hc
  | (i, p) :: ps, cs, r, h, hc => by
    rw [fillPV] at h
    split at h
    · rename_i o z new hp hn
      split at h
      · refine fill_own h fun q hq => ?_
        have hno : ∀ q, q ∈ new → q.own = false := by
          unfold PV.newCells at hn
          split at hn
          · split at hn
            · cases hn; intro q hq; obtain ⟨x, _, rfl⟩ := List.mem_map.1 hq; exact un_own x
            · cases hn
          · split at hn
            · cases hn; intro q hq; rw [List.mem_singleton.1 hq]; exact un_own p
            · cases hn
        rcases List.mem_append.1 hq with hq | hq
        · rcases List.mem_append.1 hq with hq | hq
          · exact hc q (List.mem_of_mem_take hq)
          · exact hno q hq
        · exact hc q (List.mem_of_mem_drop hq)
      · cases h
    · cases h
theorem parts_rep {rd : Operand → Option PV} {ρ : Operand → Value} (hrd : ∀ x q, rd x = some q → Rep M B q (ρ x) ∧ q.own = false) : ∀ {xs : List (Nat × Operand)} {ps : List (Nat × PV)}, partsPV rd xs = some ps →
    ps.length = (xs.map fun ix => (ix.1, ρ ix.2)).length ∧ ∀ (j : Nat) p v, ps[j]? = some p → (xs.map fun ix => (ix.1, ρ ix.2))[j]? = some v → p.1 = v.1 ∧ Rep M B p.2 v.2
  | [], ps, h => by simp [partsPV] at h; subst h; simp
  | (i, x) :: xs, ps, h => by
    rw [partsPV] at h
    split at h
    · rename_i p qs hp hq
      cases h
      obtain ⟨h1, h2⟩ := parts_rep hrd hq
      refine ⟨by simpa using h1, fun j p' v a b => ?_⟩
      cases j with
      | zero => simp at a b; subst a; subst b; exact ⟨rfl, (hrd _ _ hp).1⟩
      | succ j => exact h2 j p' v (by simpa using a) (by simpa using b)
    · cases h
theorem zero_reps {z : Value} (h : ∀ v, v ∈ z.cells → v.oneCell' = true) : Reps M B ((z.cells.toList.map zeroPV).map PV.un) z.cells.toList := by
  refine reps_un (reps_of (by simp) fun j p u hp hu => ?_)
  rw [List.getElem?_map, hu] at hp
  simp at hp; subst hp
  exact rep_zero (h u (Array.mem_of_getElem? (by simpa using hu)))
theorem places_spec {t : TypeId} {fs : List (Nat × Nat × Bool)} (h : fieldsOf P t = some fs) : ∃ Fs, P.underlying t = some (.struct Fs) ∧ Fs.toList.mapM (fun f => (P.info? f.type).map fun i => (f.offset, i.size)) = some (fs.map fun f => (f.1, f.2.1)) := by
  unfold fieldsOf at h
  split at h
  · rename_i Fs hu
    refine ⟨Fs, hu, ?_⟩
    generalize Fs.toList = L at h
    induction L generalizing fs with
    | nil => simp at h; subst h; rfl
    | cons f L ih =>
      rw [List.mapM_cons] at h ⊢
      cases hf : ti P f.type with
      | none => simp [hf] at h
      | some I =>
        cases hm : L.mapM (fun f => (ti P f.type).map fun i => (f.offset, i.size, i.agg)) with
        | none => simp [hf, hm] at h
        | some bs =>
          simp [hf, hm] at h
          subst h
          obtain ⟨i, z, d, hT⟩ := ti_spec hf
          rw [ih hm]
          simp [hT.info, hT.size]
  · cases h
theorem build_run {t : TypeId} {xs : Array (Nat × Operand)} {rd : Operand → Option PV} {ρ : Operand → Value} (hrd : ∀ x q, rd x = some q → Rep M B q (ρ x) ∧ q.own = false) {p : PV} (h : pop P rd (.build t xs) = some p) (w : World) :
    ∃ v, (Instr.build t (xs.map fun (i, x) => (i, ρ x))).run P w = .ok v w ∧ Rep M B p v ∧ p.own = false := by
  have hxs : (xs.map fun (i, x) => (i, ρ x)).toList = xs.toList.map fun ix => (ix.1, ρ ix.2) := by simp
  rw [pop] at h
  split at h
  · rename_i I qs hI hq
    obtain ⟨i, z, d, hT⟩ := ti_spec hI
    obtain ⟨p1, p2⟩ := parts_rep hrd hq
    have hz : Reps M B (I.zero.map PV.un) z.cells.toList := by rw [hT.izero]; exact zero_reps hT.one
    split at h
    · rename_i fs hf ha
      obtain ⟨Fs, hu, hm⟩ := places_spec hf
      cases hfill : fillPV (fun i => (fs[i]?).map fun f => (f.1, f.2.1)) (I.zero.map PV.un) qs with
      | none => simp [hfill] at h
      | some r =>
        simp [hfill] at h; subst h
        obtain ⟨r', h1, h2⟩ := fill_rep hfill hz p1 p2
        refine ⟨.agg r', run_build w t _ r' ?_, rep_agg.2 ⟨r', rfl, h2⟩, rfl⟩
        have hpl : (fun (j : Nat) => ((fs.map fun f => (f.1, f.2.1)).toArray)[j]?) = fun (i : Nat) => (fs[i]?).map fun f => (f.1, f.2.1) := by
          funext j; simp
        simp only [Program.built, hT.info, hu, hT.zero, hm]
        rw [hpl, hxs]; exact h1
    · rename_i n J hf ha
      obtain ⟨e, j, z', d', hu, hJ⟩ := arr_spec ha
      cases hfill : fillPV (fun i => some (i * J.size, J.size)) (I.zero.map PV.un) qs with
      | none => simp [hfill] at h
      | some r =>
        simp [hfill] at h; subst h
        obtain ⟨r', h1, h2⟩ := fill_rep hfill hz p1 p2
        refine ⟨.agg r', run_build w t _ r' ?_, rep_agg.2 ⟨r', rfl, h2⟩, rfl⟩
        simp only [Program.built, hT.info, hu, hT.zero, hJ.info]
        rw [hxs, ← hJ.size]; exact h1
    · cases h
  · cases h
theorem call_run {c : Call} {ty : TypeId} {rd : Operand → Option PV} {ρ : Operand → Value} (hrd : ∀ x q, rd x = some q → Rep M B q (ρ x) ∧ q.own = false) {p : PV} (h : popCall P rd c = some p) (w : World) :
    ∃ v, (do let d ← resolve ρ c ty; invoke d.target d.args : Sem Next).run P w = .ok (.value v) w ∧ Rep M B p v ∧ p.own = false := by
  obtain ⟨callee, args, argTypes⟩ := c
  unfold popCall at h
  simp only at h
  split at h
  · split at h
    · rename_i x t h1 h2
      cases hx : rd x with
      | none => simp [hx] at h
      | some q =>
        simp [hx] at h
        have e1 : args = #[x] := by rw [← Array.toList_inj]; exact h1
        have e2 : argTypes = #[t] := by rw [← Array.toList_inj]; exact h2
        subst e1; subst e2
        obtain ⟨v, h3, h4⟩ := len_run (ty := ty) h (hrd _ _ hx).1 w
        exact ⟨v, by simp [resolve, invoke, builtin, h3], h4⟩
    · cases h
  · cases ha : allSome (args.toList.map rd) with
    | none => simp [ha] at h
    | some ps =>
      simp [ha] at h
      obtain ⟨h1, _⟩ := reps_all hrd ha
      obtain ⟨v, h3, h4⟩ := min_run (ts := argTypes) (ty := ty) h (vs := args.map ρ) (by simpa using h1) w
      exact ⟨v, by simp only [resolve, invoke, builtin, Sem.run_bind, Sem.run_pure, Result.andThen_ok]; rw [h3]; rfl, h4⟩
  · cases ha : allSome (args.toList.map rd) with
    | none => simp [ha] at h
    | some ps =>
      simp [ha] at h
      obtain ⟨h1, _⟩ := reps_all hrd ha
      obtain ⟨v, h3, h4⟩ := max_run (ts := argTypes) (ty := ty) h (vs := args.map ρ) (by simpa using h1) w
      exact ⟨v, by simp only [resolve, invoke, builtin, Sem.run_bind, Sem.run_pure, Result.andThen_ok]; rw [h3]; rfl, h4⟩
  · cases h
theorem indexAt_sl {t : TypeId} {A : Option Addr} {n cap : Nat} {k : IntKind} {j : Int} {I : TI} {e : TypeId} {i : TypeInfo} {z : Value} {d : TypeDesc} (hu : P.underlying t = some (.slice e)) (hT : TIs P e I i z d) {b off : Nat} (hA : A = some ⟨b, off, none⟩)
    (h0 : 0 ≤ j) (h1 : j < n) (w : World) : (Instr.indexAt t (.slice A n cap) (.int k j)).run P w = .ok (.pointer (some ⟨b, off + j.toNat * I.size, none⟩)) w := by
  subst hA
  simp [Instr.indexAt, asIntOf, run_underlying hu, h0, h1, hT.run_sizeOf w, add_lit]
theorem idx_run {t : TypeId} {x i : Operand} {rd : Operand → Option PV} {ρ : Operand → Value} (hrd : ∀ x q, rd x = some q → Rep M B q (ρ x) ∧ q.own = false) {p : PV} (h : pop P rd (.indexAddr t x i) = some p) (w : World) :
    ∃ v, (Instr.indexAt t (ρ x) (ρ i)).run P w = .ok v w ∧ Rep M B p v ∧ p.own = false := by
  rw [pop] at h
  split at h
  · rename_i o sz es k n hx hi
    have hrx := (hrd _ _ hx).1
    rw [rep_int.1 (hrd _ _ hi).1]
    split at h
    · rename_i hc
      obtain ⟨I, hI, hIs⟩ := Option.map_eq_some_iff.1 hc.1
      obtain ⟨e, i', z, d, hu, hT⟩ := elem_spec hI
      cases hg : es[n.toNat]? with
      | none => simp [hg] at h
      | some q =>
        simp [hg] at h; subst h
        have hlt := (List.getElem?_eq_some_iff.1 hg).1
        obtain ⟨A, cap, e1, hle, hsz, _, hA⟩ := rep_sl.1 hrx
        · obtain ⟨b, off, rfl, hl⟩ := hA (fun e => by rw [e] at hlt; simp at hlt)
          rw [e1]
          refine ⟨_, indexAt_sl hu hT rfl hc.2 (by omega) w, rep_cst.2 ⟨b, _, rfl, ?_⟩, rfl⟩
          rw [hIs]; exact locs_get hl hg
    · cases h
  · rename_i j off m sz k n hx hi
    rw [rep_int.1 (hrd _ _ hi).1]
    split at h
    · rename_i hc
      cases h
      obtain ⟨I, hI, hIs⟩ := Option.map_eq_some_iff.1 hc.1
      obtain ⟨e, i', z, d, hu, hT⟩ := elem_spec hI
      obtain ⟨c, cap, hc', e1, _⟩ := rep_slh.1 (hrd _ _ hx).1
      rw [e1]
      exact ⟨_, indexAt_sl hu hT rfl hc.2.1 (by omega) w, rep_ptr.2 ⟨c, hc', by rw [hIs]⟩, rfl⟩
    · cases h
  · rename_i j off k n hx hi
    rw [rep_int.1 (hrd _ _ hi).1]
    split at h
    · rename_i m I hI
      split at h
      · rename_i hc
        cases h
        obtain ⟨e, i', z, d, hu, hT⟩ := arr_spec hI
        obtain ⟨c, hc', e1⟩ := rep_ptr.1 (hrd _ _ hx).1
        rw [e1]
        refine ⟨_, ?_, rep_ptr.2 ⟨c, hc', rfl⟩, rfl⟩
        simp [Instr.indexAt, asIntOf, run_underlying hu, hc.1, hc.2, Instr.sureAddr, hT.run_sizeOf w, add_lit]
      · cases h
    · cases h
  · rename_i cs k n hx hi
    rw [rep_int.1 (hrd _ _ hi).1]
    split at h
    · rename_i m I hI
      split at h
      · rename_i hc
        obtain ⟨e, i', z, d, hu, hT⟩ := arr_spec hI
        obtain ⟨b, off, e1, hl⟩ := rep_cst.1 (hrd _ _ hx).1
        rw [e1]
        cases hv : subVal cs (n.toNat * I.size) I.size I.agg with
        | none => simp [hv] at h
        | some r =>
          simp [hv] at h; subst h
          refine ⟨_, ?_, rep_cst.2 ⟨b, _, rfl, subVal_loc (loc_agg.1 hl) hv⟩, rfl⟩
          simp [Instr.indexAt, asIntOf, run_underlying hu, hc.1, hc.2, Instr.sureAddr, hT.run_sizeOf w, add_lit]
      · cases h
    · cases h
  · cases h
theorem index_run {t : TypeId} {x i : Operand} {rd : Operand → Option PV} {ρ : Operand → Value} (hrd : ∀ x q, rd x = some q → Rep M B q (ρ x) ∧ q.own = false) {p : PV} (h : pop P rd (.index t x i) = some p) (w : World) :
    ∃ v, (Instr.index t (ρ x) (ρ i)).run P w = .ok v w ∧ Rep M B p v ∧ p.own = false := by
  rw [pop] at h
  split at h
  · rename_i s k n hx hi
    rw [rep_int.1 (hrd _ _ hi).1, rep_str.1 (hrd _ _ hx).1]
    split at h
    · rename_i hc
      cases hb : s[n.toNat]? with
      | none => simp [hb] at h
      | some b =>
        simp [hb] at h; subst h
        refine ⟨.int .u8 b.toNat, ?_, rep_int.2 rfl, rfl⟩
        simp [Instr.index, asIntOf, run_underlying (isStrT_spec hc.1), hc.2, hb]
    · cases h
  · rename_i cs k n hx hi
    rw [rep_int.1 (hrd _ _ hi).1]
    split at h
    · rename_i m I hI
      split at h
      · rename_i hc
        obtain ⟨e, i', z, d, hu, hT⟩ := arr_spec hI
        obtain ⟨vs, e1, hv⟩ := rep_agg.1 (hrd _ _ hx).1
        rw [e1]
        obtain ⟨v, h1, h2⟩ := subVal_rep hv hT h w
        refine ⟨v, ?_, h2⟩
        simp [Instr.index, asIntOf, run_underlying hu, hc.1, hc.2, hT.run_sizeOf w, h1]
      · cases h
    · cases h
  · cases h
theorem pop_sound {rd : Operand → Option PV} {ρ : Operand → Value} (hrd : ∀ x q, rd x = some q → Rep M B q (ρ x) ∧ q.own = false) {o : Oper} {p : PV} (h : pop P rd o.op = some p) (w : World) (hmem : ∀ (b o : Nat) (v : Value), M b o = some v → w.cell? ⟨b, o, none⟩ = some v ∧ v.oneCell' = true) :
    ∃ v, (execOp ρ o).run P w = .ok (.value v) w ∧ Rep M B p v ∧ p.own = false := by
  obtain ⟨dst, op, type, pos, after, guard⟩ := o
  simp only at h
  have fin : ∀ {s : Sem Value}, (∃ v, s.run P w = .ok v w ∧ Rep M B p v ∧ p.own = false) → execOp ρ ⟨dst, op, type, pos, after, guard⟩ = (do pure (.value (← s))) → ∃ v, (execOp ρ ⟨dst, op, type, pos, after, guard⟩).run P w = .ok (.value v) w ∧ Rep M B p v ∧ p.own = false :=
    fun ⟨v, h1, h2⟩ he => ⟨v, execOp_value he h1, h2⟩
  cases op with
  | move x => exact ⟨ρ x, rfl, hrd _ _ h⟩
  | assign x => exact ⟨ρ x, rfl, hrd _ _ h⟩
  | pick c a b =>
    rw [pop] at h
    split at h
    · rename_i cc hc
      have e := rep_bool.1 (hrd _ _ hc).1
      cases cc with
      | true => exact ⟨ρ a, by simp [execOp, e, asBool], hrd _ _ (by simpa using h)⟩
      | false => exact ⟨ρ b, by simp [execOp, e, asBool], hrd _ _ (by simpa using h)⟩
    · cases h
  | fieldAddr s x f =>
    rw [pop] at h
    split at h
    · rename_i fs q hf hq
      cases hj : fs[f]? with
      | none => simp [hj] at h
      | some ozg =>
        obtain ⟨o, z, g⟩ := ozg
        simp only [hj, Option.bind_some] at h
        split at h
        · cases h
        · rename_i hz
          exact fin (subAddr_rep (hrd _ _ hq).1 hf hj hz h w) rfl
    · cases h
  | field s x f =>
    rw [pop] at h
    split at h
    · rename_i fs cs hf hq
      cases hj : fs[f]? with
      | none => simp [hj] at h
      | some ozg =>
        obtain ⟨o, z, g⟩ := ozg
        simp only [hj, Option.bind_some] at h
        obtain ⟨Fs, F, I, i, zv, d, hu, hF, ho, hT, hsz, hg⟩ := fields_spec hf hj
        subst ho; subst hsz; subst hg
        obtain ⟨vs, e, hv⟩ := rep_agg.1 (hrd _ _ hq).1
        obtain ⟨v, h1, h2⟩ := subVal_rep hv hT h w
        refine fin ⟨v, ?_, h2⟩ rfl
        rw [e]
        simp [Instr.field, run_underlying hu, hF, asAgg, h1]
    · cases h
  | indexAddr t x i => exact fin (idx_run hrd h w) rfl
  | index t x i => exact fin (index_run hrd h w) rfl
  | slice t x lo hi mx =>
    cases mx with
    | some m => simp [pop] at h
    | none =>
      rw [pop] at h
      cases hx : rd x with
      | none => simp [hx] at h
      | some q =>
        cases lo with
        | none =>
          cases hi with
          | none => simp [hx] at h; exact fin (slice_run h (hrd _ _ hx).1 (.inl ⟨rfl, rfl⟩) (.inl ⟨rfl, rfl⟩) w) rfl
          | some b =>
            cases hb : rd b with
            | none => simp [hx, hb] at h
            | some pb => simp [hx, hb] at h; exact fin (slice_run h (hrd _ _ hx).1 (.inl ⟨rfl, rfl⟩) (.inr ⟨_, _, rfl, rfl, (hrd _ _ hb).1⟩) w) rfl
        | some a =>
          cases ha : rd a with
          | none => cases hi <;> simp [hx, ha] at h
          | some pa =>
            cases hi with
            | none => simp [hx, ha] at h; exact fin (slice_run h (hrd _ _ hx).1 (.inr ⟨_, _, rfl, rfl, (hrd _ _ ha).1⟩) (.inl ⟨rfl, rfl⟩) w) rfl
            | some b =>
              cases hb : rd b with
              | none => simp [hx, ha, hb] at h
              | some pb => simp [hx, ha, hb] at h; exact fin (slice_run h (hrd _ _ hx).1 (.inr ⟨_, _, rfl, rfl, (hrd _ _ ha).1⟩) (.inr ⟨_, _, rfl, rfl, (hrd _ _ hb).1⟩) w) rfl
  | binOp op t x y yt =>
    rw [pop] at h
    split at h
    · rename_i a b ha hb
      obtain ⟨h1, v, h2, h3⟩ := bin_run h (hrd _ _ ha).1 (hrd _ _ hb).1 w
      refine fin (s := do eqGuard op t x y (ρ x) (ρ y); binOp op t (ρ x) (ρ y)) ⟨v, ?_, h3⟩ rfl
      rw [Sem.run_bind, h1 x y, Result.andThen_ok, h2]
    · cases h
  | unOp op t x =>
    rw [pop] at h
    cases hx : rd x with
    | none => simp [hx] at h
    | some q => simp [hx] at h; exact fin (un_run h (hrd _ _ hx).1 w) rfl
  | convert s d x =>
    rw [pop] at h
    cases hx : rd x with
    | none => simp [hx] at h
    | some q => simp [hx] at h; exact fin (conv_run h (hrd _ _ hx).1 w hmem) rfl
  | makeFunc fn first caps =>
    rw [pop] at h
    split at h
    · rename_i f c hf hc
      cases h
      exact fin (s := Instr.makeFunc fn (first.map ρ) (caps.map ρ)) ⟨_, rfl, rep_func.2 ⟨_, _, rfl, by simpa using (reps_all hrd hf).1, by simpa using (reps_all hrd hc).1⟩, rfl⟩ rfl
    · cases h
  | extract x i =>
    rw [pop] at h
    cases hx : rd x with
    | none => simp [hx] at h
    | some q => simp [hx] at h; exact fin (ext_run h (hrd _ _ hx).1 w) rfl
  | nilCheck x =>
    rw [pop] at h
    split at h
    · rename_i i o hx
      cases h
      obtain ⟨c, _, e⟩ := rep_ptr.1 (hrd _ _ hx).1
      exact ⟨ρ x, by simp [execOp, e], (hrd _ _ hx)⟩
    · rename_i q hx
      cases h
      obtain ⟨b, off, e, _⟩ := rep_cst.1 (hrd _ _ hx).1
      exact ⟨ρ x, by simp [execOp, e], (hrd _ _ hx)⟩
    · rename_i f a b hx
      cases h
      obtain ⟨f', c', e, _, _⟩ := rep_func.1 (hrd _ _ hx).1
      exact ⟨ρ x, by simp [execOp, e], (hrd _ _ hx)⟩
    · cases h
  | build t ps => exact fin (build_run hrd h w) rfl
  | call c =>
    obtain ⟨v, h1, h2⟩ := call_run (ty := type) hrd (by simpa [pop] using h) w
    exact ⟨v, h1, h2⟩
  | _ => simp [pop] at h
end
end Go.Proofs.Ytmclnnpaephkpaa

/-
  Every operation of 'pop': the model's run yields what the abstract evaluator says.
-/
import Derived.Test.YtmclnnpaephkpaaAbE
import Derived.Laws.BytesString
namespace Go.Proofs.Ytmclnnpaephkpaa
set_option linter.unusedVariables false
set_option linter.unusedSimpArgs false
set_option linter.unnecessarySimpa false
set_option linter.unusedSectionVars false
open Go.RowKit

section
variable {P : Program} {M : Mem} {B : Blk}
theorem execOp_value {ρ : Operand → Value} {o : Oper} {s : Sem Value} {v : Value} {w : World} (h : execOp ρ o = (do pure (.value (← s)))) (hr : s.run P w = .ok v w) : (execOp ρ o).run P w = .ok (.value v) w := by
  rw [h]; simp [hr]
theorem len_run {t ty : TypeId} {x p : PV} (h : lenPV P t x = some p) {a : Value} (ha : Rep M B x a) (w : World) :
    ∃ v, (Builtin.len_ #[t] ty #[a]).run P w = .ok v w ∧ Rep M B p v ∧ p.own = false := by
  have hsl : ∀ {n : Nat} {A : Option Addr} {c : Nat}, (elemOf' P t).map (fun _ => PV.int .i64 n) = some p → ∃ v, (Builtin.len_ #[t] ty #[.slice A n c]).run P w = .ok v w ∧ Rep M B p v ∧ p.own = false := by
    intro n A c h
    unfold elemOf' at h
    split at h
    · rename_i e hu
      simp at h; subst h
      exact ⟨_, by simp [Builtin.len_, run_underlying hu]; rfl, rep_int.2 rfl, rfl⟩
    · simp at h
  unfold lenPV at h
  split at h
  · split at h
    · rename_i ht; cases h
      rw [rep_str.1 ha]
      exact ⟨_, by simp [Builtin.len_, run_underlying (isStrT_spec ht)]; rfl, rep_int.2 rfl, rfl⟩
    · cases h
  · obtain ⟨A, cap, rfl, _⟩ := rep_sl.1 ha; exact hsl h
  · obtain ⟨c, cap, _, rfl, _⟩ := rep_slh.1 ha; exact hsl h
  · cases h
theorem isBytesT_spec {s : TypeId} (h : isBytesT P s = true) : ∃ e, P.underlying s = some (.slice e) ∧ P.underlying e = some (.int .u8) := by
  unfold isBytesT at h
  split at h
  · rename_i e hu
    split at h
    · rename_i k hk
      have : k = .u8 := by simpa using h
      subst this
      exact ⟨e, hu, hk⟩
    · cases h
  · cases h
theorem bytes_vals {es : List PV} {b : Nat} {w : World} (hmem : ∀ (b o : Nat) (v : Value), M b o = some v → w.cell? ⟨b, o, none⟩ = some v ∧ v.oneCell' = true) (hb : bytesP es = true) {off : Nat} (hl : Locs M [] 1 es b off) :
    ∀ (j : Nat) v, ((es.map byteInt).map (Value.int .u8))[j]? = some v → w.cell? ⟨b, off + j, none⟩ = some v := by
  intro j v hv
  simp only [List.getElem?_map, Option.map_map] at hv
  obtain ⟨q, hq, rfl⟩ := Option.map_eq_some_iff.1 hv
  have hloc := locs_get hl hq
  have hbq : isByte q = true := List.all_eq_true.1 hb q (List.mem_of_getElem? hq)
  cases q <;> simp [isByte] at hbq
  subst hbq
  obtain ⟨u, hu, hru⟩ := (loc_one rfl (fun cs e => by cases e)).1 hloc
  have hr : u = .int .u8 _ := rep_int.1 hru
  subst hr
  have := (hmem _ _ _ hu).1
  rwa [Nat.mul_one] at this
theorem conv_run {s d : TypeId} {x p : PV} (h : convPV P s d x = some p) {a : Value} (ha : Rep M B x a) (w : World) (hmem : ∀ (b o : Nat) (v : Value), M b o = some v → w.cell? ⟨b, o, none⟩ = some v ∧ v.oneCell' = true) :
    ∃ v, (convert s d a).run P w = .ok v w ∧ Rep M B p v ∧ p.own = false := by
  unfold convPV at h
  split at h
  · rename_i ow sz es
    split at h
    · rename_i hc
      cases h
      obtain ⟨e, hs, he⟩ := isBytesT_spec hc.1
      obtain ⟨A, cap, rfl, _, hsz, _, hA⟩ := rep_sl.1 ha
      refine ⟨.string (strOf es), ?_, rep_str.2 rfl, rfl⟩
      rw [run_convert_bytes_string w s d e A es.length cap hs he (isStrT_spec hc.2.1)]
      by_cases h0 : es = []
      · subst h0
        cases A with
        | none => rfl
        | some A => exact run_bytesToString w A 0 cap [] (run_loadCells_list (P := P) w A [] (by simp))
      · obtain ⟨b, off, rfl, hl⟩ := hA h0
        have h1 : sz = 1 := by
          obtain ⟨q, qs, rfl⟩ := List.exists_cons_of_ne_nil h0
          have hq := hsz q (by simp)
          have hbq : isByte q = true := List.all_eq_true.1 hc.2.2 q (by simp)
          cases q <;> simp [isByte] at hbq
          exact hq.symm
        subst h1
        have := run_loadCells_list (P := P) w ⟨b, off, none⟩ ((es.map byteInt).map (Value.int .u8)) (fun j v hj => by rw [add_lit]; exact bytes_vals hmem hc.2.2 hl j v hj)
        simp only [List.length_map] at this
        exact run_bytesToString w ⟨b, off, none⟩ es.length cap (es.map byteInt) this
    · cases h
  · rename_i k0 n
    rw [rep_int.1 ha]
    unfold intT at h
    split at h
    · rename_i k hk
      split at hk
      · rename_i k' hu
        cases hk
        split at h
        · rename_i ds hs
          cases h
          refine ⟨.int k (k.wrap n), ?_, rep_int.2 rfl, rfl⟩
          unfold convert
          rw [Sem.run_bind, run_underlying hs w, Result.andThen_ok, Sem.run_bind, run_underlying hu w, Result.andThen_ok]
          cases ds <;> rfl
        · cases h
      · cases hk
    · cases h
  · rename_i a'
    rw [rep_str.1 ha]
    split at h
    · rename_i hs hd
      cases h
      refine ⟨.string a', ?_, rep_str.2 rfl, rfl⟩
      unfold convert
      rw [Sem.run_bind, run_underlying hs w, Result.andThen_ok, Sem.run_bind, run_underlying hd w, Result.andThen_ok]
      rfl
    · cases h
  · cases h
theorem allSome_get : ∀ {l : List (Option PV)} {ps : List PV}, allSome l = some ps → l = ps.map some
  | [], ps, h => by simp [allSome] at h; subst h; rfl
  | none :: _, _, h => by simp [allSome] at h
  | some p :: l, ps, h => by
    rw [allSome] at h
    cases ha : allSome l with
    | none => simp [ha] at h
    | some qs => simp [ha] at h; subst h; simp [allSome_get ha]
theorem reps_all {rd : Operand → Option PV} {ρ : Operand → Value} (hrd : ∀ x q, rd x = some q → Rep M B q (ρ x) ∧ q.own = false) : ∀ {xs : List Operand} {ps : List PV}, allSome (xs.map rd) = some ps → Reps M B ps (xs.map ρ) ∧ ∀ p, p ∈ ps → p.own = false
  | [], ps, h => by simp [allSome] at h; subst h; exact ⟨reps_nil.2 rfl, by simp⟩
  | x :: xs, ps, h => by
    have h' := allSome_get h
    cases ps with
    | nil => simp at h'
    | cons p ps =>
      simp only [List.map_cons, List.cons.injEq] at h'
      obtain ⟨h1, h2⟩ := h'
      have ih := reps_all hrd (xs := xs) (ps := ps) (by
        rw [h2]
        have : ∀ ps : List PV, allSome (ps.map some) = some ps := by
          intro ps; induction ps with
          | nil => rfl
          | cons a l ih => simp [allSome, ih]
        exact this ps)
      exact ⟨reps_cons.2 ⟨_, _, rfl, (hrd _ _ h1).1, ih.1⟩, fun q hq => by
        rcases List.mem_cons.1 hq with rfl | hq
        · exact (hrd _ _ h1).2
        · exact ih.2 q hq⟩
theorem reps_two {p q : PV} {vs : List Value} (h : Reps M B [p, q] vs) : ∃ a b, vs = [a, b] ∧ Rep M B p a ∧ Rep M B q b := by
  obtain ⟨a, us, rfl, ha, h2⟩ := reps_cons.1 h
  obtain ⟨b, us', rfl, hb, h3⟩ := reps_cons.1 h2
  rw [reps_nil] at h3; subst h3
  exact ⟨a, b, rfl, ha, hb⟩
theorem min_run {ts : Array TypeId} {ty : TypeId} {ps : List PV} {p : PV} (h : minPV ps = some p) {vs : Array Value} (hv : Reps M B ps vs.toList) (w : World) :
    ∃ v, (Builtin.min_ ts ty vs).run P w = .ok v w ∧ Rep M B p v ∧ p.own = false := by
  unfold minPV at h
  split at h
  · split at h
    · rename_i e; subst e; cases h
      obtain ⟨a, b, e, ha, hb⟩ := reps_two hv
      rw [rep_int.1 ha, rep_int.1 hb] at e
      refine ⟨_, ?_, rep_int.2 rfl, rfl⟩
      unfold Builtin.min_; rw [e]
      simp [Builtin.min2]
    · cases h
  · cases h
theorem max_run {ts : Array TypeId} {ty : TypeId} {ps : List PV} {p : PV} (h : maxPV ps = some p) {vs : Array Value} (hv : Reps M B ps vs.toList) (w : World) :
    ∃ v, (Builtin.max_ ts ty vs).run P w = .ok v w ∧ Rep M B p v ∧ p.own = false := by
  unfold maxPV at h
  split at h
  · split at h
    · rename_i e; subst e; cases h
      obtain ⟨a, b, e, ha, hb⟩ := reps_two hv
      rw [rep_int.1 ha, rep_int.1 hb] at e
      refine ⟨_, ?_, rep_int.2 rfl, rfl⟩
      unfold Builtin.max_; rw [e]
      simp [Builtin.max2]
    · cases h
  · cases h
theorem un_run {op : UnOp} {x p : PV} (h : unPV op x = some p) {a : Value} (ha : Rep M B x a) (w : World) : ∃ v, (Op.unary op a).run P w = .ok v w ∧ Rep M B p v ∧ p.own = false := by
  unfold unPV at h
  split at h
  · cases h; rw [rep_int.1 ha]; exact ⟨_, rfl, rep_int.2 rfl, rfl⟩
  · cases h; rw [rep_bool.1 ha]; exact ⟨_, rfl, rep_bool.2 rfl, rfl⟩
  · cases h
theorem ext_run {x p : PV} {i : Nat} (h : extPV x i = some p) {a : Value} (ha : Rep M B x a) (w : World) : ∃ v, (Instr.extract a i).run P w = .ok v w ∧ Rep M B p v ∧ p.own = false := by
  unfold extPV at h
  split at h
  · rename_i ps
    obtain ⟨vs, rfl, hr⟩ := rep_tuple.1 ha
    cases hp : ps[i]? with
    | none => simp [hp] at h
    | some q =>
      simp [hp] at h; subst h
      obtain ⟨u, hu, hq⟩ := reps_get hr hp
      have hu' : vs[i]? = some u := by simpa using hu
      exact ⟨u, by simp [Instr.extract, hu'], rep_un.2 hq, un_own q⟩
  · cases h
/-- An optional bound of a slice expression. -/
def obound (d : Nat) : Option PV → Option Int
  | none => some d
  | some (.int _ n) => some n
  | _ => none
theorem obound_val {d : Nat} {q : Option PV} {n : Int} (h : obound d q = some n) {x : Option Value} (hx : (q = none ∧ x = none) ∨ ∃ p v, q = some p ∧ x = some v ∧ Rep M B p v) :
    (q = none ∧ x = none ∧ n = d) ∨ ∃ k, x = some (.int k n) := by
  rcases hx with ⟨rfl, rfl⟩ | ⟨p, v, rfl, rfl, hr⟩
  · simp [obound] at h; exact .inl ⟨rfl, rfl, h.symm⟩
  · cases p <;> simp [obound] at h
    subst h; rw [rep_int.1 hr]; exact .inr ⟨_, rfl⟩
theorem bounds_run {isS : Bool} {len cap : Nat} {lo hi : Option Value} {l h : Int} (hl : (lo = none ∧ l = 0) ∨ ∃ k, lo = some (.int k l)) (hh : (hi = none ∧ h = len) ∨ ∃ k, hi = some (.int k h))
    (h0 : 0 ≤ l) (h1 : l ≤ h) (h2 : h ≤ len) (hc : len ≤ cap) (w : World) : (Instr.sliceBounds isS len cap lo hi none).run P w = .ok (l.toNat, h.toNat, cap) w := by
  have e2 : ((h.toNat : Nat) : Int) = h := Int.toNat_of_nonneg (by omega)
  rcases hl with ⟨rfl, rfl⟩ | ⟨k, rfl⟩ <;> rcases hh with ⟨rfl, rfl⟩ | ⟨k', rfl⟩
  · simp [Instr.sliceBounds]
  · simp [Instr.sliceBounds, run_sliceBound w k' h cap _ (by omega) (by omega)]
  · simp [Instr.sliceBounds, run_sliceBound w k l len _ (by omega) (by omega)]
  · simp [Instr.sliceBounds, run_sliceBound w k' h cap _ (by omega) (by omega), run_sliceBound w k l h.toNat _ (by omega) (by omega)]
theorem slice_run {t : TypeId} {x p : PV} {lo hi : Option PV} (hs : slicePV P t x lo hi = some p) {a : Value} (ha : Rep M B x a) {l h : Option Value}
    (hl : (lo = none ∧ l = none) ∨ ∃ p v, lo = some p ∧ l = some v ∧ Rep M B p v) (hh : (hi = none ∧ h = none) ∨ ∃ p v, hi = some p ∧ h = some v ∧ Rep M B p v) (w : World) :
    ∃ v, (Instr.sliceAt t a l h none).run P w = .ok v w ∧ Rep M B p v ∧ p.own = false := by
  have hb : ∀ d q, (match q with | none => some (d : Int) | some (.int _ n) => some n | _ => none) = obound d q := fun d q => rfl
  unfold slicePV at hs
  simp only at hs
  split at hs
  · rename_i s
    rw [rep_str.1 ha]
    split at hs
    · rename_i l' h' e1 e2
      have e1 : obound 0 lo = some l' := e1
      have e2 : obound s.size hi = some h' := e2
      split at hs
      · rename_i hc
        obtain ⟨ht, b1, b2, b3⟩ := hc
        cases hs
        have hu := isStrT_spec ht
        have hl' : (l = none ∧ l' = 0) ∨ ∃ k, l = some (.int k l') := by
          rcases obound_val e1 hl with ⟨_, r1, r2⟩ | r
          · exact .inl ⟨r1, by simpa using r2⟩
          · exact .inr r
        have hh' : (h = none ∧ h' = s.size) ∨ ∃ k, h = some (.int k h') := by
          rcases obound_val e2 hh with ⟨_, r1, r2⟩ | r
          · exact .inl ⟨r1, r2⟩
          · exact .inr r
        refine ⟨_, ?_, rep_str.2 rfl, rfl⟩
        rw [run_sliceAt_string (P := P) w t _ _ _ _ hu]
        simp [Instr.slice, run_underlying hu, bounds_run (P := P) (isS := false) hl' hh' b1 b2 (by omega) (Nat.le_refl _) w]
      · cases hs
    · cases hs
  · rename_i o sz es
    obtain ⟨A, cap, rfl, hle, hsz, hz, hA⟩ := rep_sl.1 ha
    split at hs
    · rename_i l' h' e1 e2
      have e1 : obound 0 lo = some l' := e1
      have e2 : obound es.length hi = some h' := e2
      split at hs
      · rename_i hc
        obtain ⟨ht, b1, b2, b3⟩ := hc
        cases hs
        obtain ⟨I, hI, hIs⟩ := Option.map_eq_some_iff.1 ht
        obtain ⟨e, i, z, d, hu, hT⟩ := elem_spec hI
        have hu' : P.underlying t = some (.slice (P.elem t)) := by rw [hu]; simp [Program.elem, hu]
        have hee : P.elem t = e := by simp [Program.elem, hu]
        have hl' : (l = none ∧ l' = 0) ∨ ∃ k, l = some (.int k l') := by
          rcases obound_val e1 hl with ⟨_, r1, r2⟩ | r
          · exact .inl ⟨r1, by simpa using r2⟩
          · exact .inr r
        have hh' : (h = none ∧ h' = es.length) ∨ ∃ k, h = some (.int k h') := by
          rcases obound_val e2 hh with ⟨_, r1, r2⟩ | r
          · exact .inl ⟨r1, r2⟩
          · exact .inr r
        have hrun : (Instr.sliceAt t (.slice A es.length cap) l h none).run P w = .ok (.slice (if cap = l'.toNat then A else A.map (·.add (l'.toNat * sz))) (h'.toNat - l'.toNat) (cap - l'.toNat)) w := by
          rw [run_sliceAt_slice (P := P) w t _ _ _ _ hu', run_slice_any (P := P) w t A es.length cap hu', bounds_run (P := P) (isS := true) hl' hh' b1 b2 b3 hle w, Result.andThen_ok, hee, hT.run_sizeOf w]
          simp [sliced, hIs]
        refine ⟨_, hrun, rep_sl.2 ⟨_, _, by simp only [List.length_drop, List.length_take]; rw [Nat.min_eq_left (by omega)], ?_, fun e he => hsz e (List.mem_of_mem_take (List.mem_of_mem_drop he)), fun h0 => by obtain ⟨x1, x2, x3⟩ := hz h0; subst x1; subst x2; subst x3; simp, ?_⟩, rfl⟩
        · simp only [List.length_drop, List.length_take]; omega
        · intro hne
          have hlen : ((es.take h'.toNat).drop l'.toNat).length ≠ 0 := fun e => hne (List.eq_nil_of_length_eq_zero e)
          simp only [List.length_drop, List.length_take] at hlen
          obtain ⟨b, off, rfl, hloc⟩ := hA (fun e => by rw [e] at hlen; simp at hlen)
          rw [if_neg (by omega)]
          refine ⟨b, off + l'.toNat * sz, by rw [Option.map_some, add_lit], locs_of fun j p hj => ?_⟩
          rw [List.getElem?_drop, List.getElem?_take] at hj
          split at hj
          · have := locs_get hloc hj
            rwa [show off + l'.toNat * sz + j * sz = off + (l'.toNat + j) * sz by rw [Nat.add_mul]; omega]
          · cases hj
      · cases hs
    · cases hs
  · rename_i i off n sz
    obtain ⟨c, cap, hc', rfl, hle, hfit⟩ := rep_slh.1 ha
    split at hs
    · rename_i l' h' e1 e2
      have e1 : obound 0 lo = some l' := e1
      have e2 : obound n hi = some h' := e2
      split at hs
      · rename_i hc
        obtain ⟨ht, b1, b2, b3, b4⟩ := hc
        obtain ⟨I, hI, hIs⟩ := Option.map_eq_some_iff.1 ht
        obtain ⟨e, i', z, d, hu, hT⟩ := elem_spec hI
        have hu' : P.underlying t = some (.slice (P.elem t)) := by rw [hu]; simp [Program.elem, hu]
        have hee : P.elem t = e := by simp [Program.elem, hu]
        have hl' : (l = none ∧ l' = 0) ∨ ∃ k, l = some (.int k l') := by
          rcases obound_val e1 hl with ⟨_, r1, r2⟩ | r
          · exact .inl ⟨r1, by simpa using r2⟩
          · exact .inr r
        have hh' : (h = none ∧ h' = n) ∨ ∃ k, h = some (.int k h') := by
          rcases obound_val e2 hh with ⟨_, r1, r2⟩ | r
          · exact .inl ⟨r1, r2⟩
          · exact .inr r
        have hrun : (Instr.sliceAt t (.slice (some ⟨c.1, off, none⟩) n cap) l h none).run P w = .ok (.slice (if cap = l'.toNat then some ⟨c.1, off, none⟩ else some ⟨c.1, off + l'.toNat * sz, none⟩) (h'.toNat - l'.toNat) (cap - l'.toNat)) w := by
          rw [run_sliceAt_slice (P := P) w t _ _ _ _ hu', run_slice_any (P := P) w t _ n cap hu', bounds_run (P := P) (isS := true) hl' hh' b1 b2 b3 hle w, Result.andThen_ok, hee, hT.run_sizeOf w]
          simp [sliced, hIs, add_lit]
        split at hs
        · rename_i hlt
          cases hs
          rw [if_neg (by omega)] at hrun
          refine ⟨_, hrun, rep_slh.2 ⟨c, cap - l'.toNat, hc', rfl, by omega, ?_⟩, rfl⟩
          have : l'.toNat * sz + (cap - l'.toNat) * sz = cap * sz := by rw [← Nat.add_mul]; congr 1; omega
          omega
        · rename_i hlt
          cases hs
          refine ⟨_, hrun, rep_sl.2 ⟨_, _, by rw [show h'.toNat - l'.toNat = ([] : List PV).length by simp; omega], by simp, by simp, fun h => absurd h (by omega), fun h0 => absurd rfl h0⟩, rfl⟩
      · cases hs
    · cases hs
  · cases hs
end
end Go.Proofs.Ytmclnnpaephkpaa

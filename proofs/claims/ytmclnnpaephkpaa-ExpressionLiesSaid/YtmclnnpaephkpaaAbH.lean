/-
  The operations that make, read or write memory, abstractly, and that the model does what is said.
-/
import Derived.Test.YtmclnnpaephkpaaAbG
namespace Go.Proofs.Ytmclnnpaephkpaa
set_option linter.unusedVariables false
set_option linter.unusedSimpArgs false
set_option linter.unnecessarySimpa false
set_option linter.unusedSectionVars false
open Go.RowKit

/-- What a function's evaluation is told: the program, the number of slots, the slots that live on from region to region, the temporaries that take over the right to append, those that make a mutable array. -/
structure AE where
  P : Program
  n : Nat
  vars : List Nat
  mv : List Nat
  mu : List Nat
  sz : List (Nat × List Nat) := []
  jt : List (Nat × List Nat) := []
  lt : List (Nat × List Nat) := []
  pt : List (Nat × List Nat) := []
  fz : List Nat := []
def ASt.ev (σ : ASt) : Operand → Option PV
  | .tmp t => sget t σ.s
  | .const v => ofConst v
  | .func f => some (.func (.func f) [] [])
  | .global _ => none
def ASt.rd (σ : ASt) (x : Operand) : Option PV := (σ.ev x).map PV.un
def ASt.rdT (zs : List Nat) (σ : ASt) (x : Operand) : Option PV := (σ.rd x).map (PV.reszT zs)
def elT (P : Program) (t : TypeId) : List Nat := match elemOf' P t with | some e => cellSz P 8 e | none => []
def ASt.clr (σ : ASt) : Operand → ASt
  | .tmp t => match sget t σ.s with
    | some p => { σ with s := sput t p.un σ.s }
    | none => σ
  | _ => σ
def ASt.put (E : AE) (dst : Option Nat) (p : PV) (σ : ASt) : Option ASt :=
  match dst with
  | none => some σ
  | some d => if d < E.n then some { σ with s := sput d p σ.s } else none
def inMv (l : List Nat) : Option Nat → Bool
  | some d => l.contains d
  | none => false
def loadV (mv : Bool) (I : TI) (q : PV) (σ : ASt) : Option (PV × ASt) :=
  match q with
  | .cst e => if e.isAgg = I.agg ∧ e.size = I.size then some (e.un, σ) else none
  | .ptr i off => match σ.h[i]? with
    | some (some cs) =>
      if I.agg then (if off + I.size ≤ cs.length then some (.agg (((cs.drop off).take I.size).map PV.un), σ) else none)
      else match cs[off]? with
        | some p => if mv then some (p, { σ with h := σ.h.set i (some (cs.set off p.un)) }) else some (p.un, σ)
        | none => none
    | _ => none
  | _ => none
def storeV (I : TI) (a x : PV) (σ : ASt) : Option ASt :=
  match a with
  | .ptr i off => match σ.h[i]? with
    | some (some cs) => match x with
      | .agg ds => if ds.length = I.size ∧ off + I.size ≤ cs.length ∧ ds.all PV.one then some { σ with h := σ.h.set i (some (cs.take off ++ ds.map PV.un ++ cs.drop (off + I.size))) } else none
      | p => if p.one ∧ I.size = 1 ∧ off < cs.length then some { σ with h := σ.h.set i (some (cs.set off p)) } else none
    | _ => none
  | _ => none
/-- Fit to be an element of a slice: one cell, or a struct of cells. -/
def PV.okE : PV → Bool
  | .agg ds => ds.all PV.one && PV.flats ds
  | p => p.one && p.flat
theorem okE_flat {p : PV} (h : p.okE = true) : p.flat = true := by
  cases p with
  | agg ds => simp only [PV.okE, Bool.and_eq_true] at h; exact h.2
  | _ => first | (simp only [PV.okE, Bool.and_eq_true] at h; exact h.2) | (simp [PV.okE, PV.one] at h; done)
/-- The elements of a slice literal all of whose places are given in order. -/
def elemsPV (sz : Nat) : Nat → List (Nat × PV) → Option (List PV)
  | _, [] => some []
  | k, (i, p) :: ps => if i = k ∧ p.size = sz ∧ p.okE then (elemsPV sz (k + 1) ps).map (p.un :: ·) else none
def flatPV : List PV → List PV
  | [] => []
  | .agg ds :: ps => ds.map PV.un ++ flatPV ps
  | p :: ps => p.un :: flatPV ps
/-- What a variable that is never written again holds. -/
def frzPV (q : PV) : Option PV := match q.newCells with
  | some cs => if q.flat = true then some (match q with | .agg _ => .agg cs | _ => q) else none
  | none => none
def stepV (E : AE) (o : Oper) (σ : ASt) : Option (PV × ASt) :=
  match o.op with
  | .move x => if inMv E.mv o.dst then (σ.ev x).map fun p => (p, σ.clr x) else (σ.rd x).map fun p => (p, σ)
  | .assign x => (σ.ev x).map fun p => (p, σ.clr x)
  | .alloc t => (ti E.P t).map fun I => (.ptr σ.h.length 0, { σ with h := σ.h ++ [some I.zero] })
  | .box _ x => if inMv E.fz o.dst then ((σ.rd x).bind frzPV).map fun e => (.cst e, σ) else ((σ.rd x).bind PV.newCells).map fun cs => (.ptr σ.h.length 0, { σ with h := σ.h ++ [some cs] })
  | .load t a => match ti E.P t, σ.rd a with
    | some I, some q => loadV (inMv E.mv o.dst) I q σ
    | _, _ => none
  | .store t a x => match ti E.P t, σ.rd a, σ.ev x, o.dst with
    | some I, some q, some p, none => (storeV I q p (σ.clr x)).map fun σ' => (.tuple [], σ')
    | _, _, _, _ => none
  | .buildSlice t len ps => match elemTI E.P t, partsPV (σ.rdT (elT E.P t)) ps.toList with
    | some I, some qs => match elemsPV I.size 0 qs with
      | some es => if es.length = len ∧ 0 < I.size ∧ len * I.size ≤ 16777216 then
          (if inMv E.mu o.dst then some (.slh σ.h.length 0 len I.size, { σ with h := σ.h ++ [some (flatPV es)] }) else some (.sl true I.size es, σ)) else none
      | none => none
    | _, _ => none
  | .call c => match c.callee with
    | .builtin .append => (match c.args.toList, c.argTypes.toList with
      | [s, x], [t, u] => (match elemTI E.P t, σ.ev s, σ.rd x with
        | some I, some (.sl ow sz es), some (.sl _ sz' es') => if (ow = true ∨ sz = 0) ∧ t = u ∧ 0 < I.size ∧ I.bytes ≤ 1024 ∧ (sz = I.size ∨ sz = 0) ∧ (sz' = I.size ∨ sz' = 0) then some (.sl true I.size (es ++ es'), σ.clr s) else none
        | _, _, _ => none)
      | _, _ => none)
    | _ => (popCall E.P σ.rd c).map fun p => (p, σ)
  | op => (pop E.P σ.rd op).map fun p => (p, σ)
/-- What must hold beside: the length behind an append. -/
def sideV (E : AE) (o : Oper) (σ : ASt) : Prop :=
  match o.op with
  | .call c => match c.callee with
    | .builtin .append => (match c.args.toList with
      | [s, x] => (match σ.ev s, σ.rd x with
        | some (.sl _ _ es), some (.sl _ _ es') => es.length + es'.length ≤ LIM
        | _, _ => True)
      | _ => True)
    | _ => True
  | _ => True

section
variable {n : Nat} {out : Nat → Nat} {M : Mem} {B : Blk} {σ : ASt} {a : Act} {w : World} {E : AE}
theorem Inv.ev (hI : Inv n M B out σ a.tmps w) {x : Operand} {p : PV} (h : σ.ev x = some p) : Rep M B p (a.eval x) ∧ Tl M w p (a.eval x) := by
  cases x with
  | tmp t => exact (hI.slots t p h).2
  | const v => obtain ⟨h1, _, h3⟩ := ofConst_rep (M := M) (B := B) h; exact ⟨h1, h3 w⟩
  | func f => cases h; exact ⟨rep_func.2 ⟨_, _, rfl, reps_nil.2 rfl, reps_nil.2 rfl⟩, tl_no rfl⟩
  | global g => cases h
theorem Inv.rd (hI : Inv n M B out σ a.tmps w) (x : Operand) (q : PV) (h : σ.rd x = some q) : Rep M B q (a.eval x) ∧ q.own = false := by
  unfold ASt.rd at h
  cases he : σ.ev x with
  | none => simp [he] at h
  | some p => simp [he] at h; subst h; exact ⟨rep_un.2 (hI.ev he).1, un_own p⟩
theorem Inv.rdT (hI : Inv n M B out σ a.tmps w) (zs : List Nat) (x : Operand) (q : PV) (h : σ.rdT zs x = some q) : Rep M B q (a.eval x) ∧ q.own = false := by
  unfold ASt.rdT at h
  cases he : σ.rd x with
  | none => simp [he] at h
  | some p => simp [he] at h; subst h; obtain ⟨h1, h2⟩ := hI.rd x p he; exact ⟨rep_reszT zs h1, by rw [reszT_own]; exact h2⟩
theorem Inv.clrO (hI : Inv n M B out σ a.tmps w) {x : Operand} {p : PV} (h : σ.ev x = some p) : Inv n M B out (σ.clr x) a.tmps w ∧ (∀ b, fp B (σ.clr x) a.tmps w b + ownV p (a.eval x) b = fp B σ a.tmps w b) ∧ (σ.clr x).h = σ.h := by
  cases x with
  | tmp t =>
    have h' : sget t σ.s = some p := h
    have := hI.clr h'
    simp only [ASt.clr, h']
    exact ⟨this.1, this.2, trivial⟩
  | const v => exact ⟨hI, fun b => by rw [show a.eval (.const v) = v from rfl, (ofConst_rep (M := M) (B := B) h).2.1]; rfl, rfl⟩
  | func f => cases h; exact ⟨hI, fun b => by simp [ownV, PV.own, ASt.clr], rfl⟩
  | global g => cases h

/-- An operation done, its value not yet put. -/
structure Pre (n : Nat) (out : Nat → Nat) (M : Mem) (B : Blk) (σ : ASt) (t : Array Value) (w : World) (M' : Mem) (B' : Blk) (σ' : ASt) (w' : World) (p : PV) (v : Value) : Prop where
  inv : Inv n M' B' out σ' t w'
  le : MLe M M' B B'
  fr : Fr (fp B σ t w) M w M' w'
  own : ∀ b, b < w.heap.size → fp B' σ' t w' b + ownV p v b ≤ fp B σ t w b
  rep : Rep M' B' p v
  tl : Tl M' w' p v
  cnt : ∀ b, fp B' σ' t w' b + ownV p v b + out b ≤ 1
  new : ∀ b, w'.heap.size ≤ b → ownV p v b = 0
theorem Pre.put {M' : Mem} {B' : Blk} {σ1 σ' : ASt} {w' : World} {p : PV} {v : Value} (h : Pre E.n out M B σ a.tmps w M' B' σ1 w' p v) {dst : Option Nat} (hp : ASt.put E dst p σ1 = some σ') :
    Good E.n out M B σ a.tmps w M' B' σ' (a.put dst v).tmps w' := by
  cases dst with
  | none =>
    simp only [ASt.put] at hp; cases hp
    exact ⟨h.inv, h.le, h.fr, fun b hb => by have := h.own b hb; show fp B' σ1 a.tmps w' b ≤ _; omega⟩
  | some d =>
    simp only [ASt.put] at hp
    split at hp
    · rename_i hd
      cases hp
      obtain ⟨h1, h2⟩ := h.inv.putOwn hd h.rep h.tl h.cnt h.new
      exact ⟨h1, h.le, h.fr, fun b hb => Nat.le_trans (h2 b) (h.own b hb)⟩
    · cases hp
/-- Nothing but a value without rights. -/
theorem Pre.plain (hI : Inv n M B out σ a.tmps w) {p : PV} {v : Value} (hr : Rep M B p v) (ho : ∀ b, ownV p v b = 0) (hT : Tl M w p v) : Pre n out M B σ a.tmps w M B σ w p v :=
  ⟨hI, MLe.refl _ _, Fr.refl _ _ _, fun b _ => by rw [ho]; exact Nat.le_refl _, hr, hT, fun b => by rw [ho]; exact hI.cnt b, fun b _ => ho b⟩
theorem Pre.ofGood {M' : Mem} {B' : Blk} {σ' : ASt} {w' : World} (h : Good n out M B σ a.tmps w M' B' σ' a.tmps w') {p : PV} {v : Value} (hr : Rep M' B' p v) (ho : p.own = false) : Pre n out M B σ a.tmps w M' B' σ' w' p v :=
  ⟨h.inv, h.le, h.fr, fun b hb => by rw [ownV_no ho]; exact h.own b hb, hr, tl_no ho, fun b => by rw [ownV_no ho]; exact h.inv.cnt b, fun b _ => ownV_no ho v b⟩
theorem Pre.moved (hI : Inv n M B out σ a.tmps w) {x : Operand} {p : PV} (h : σ.ev x = some p) : Pre n out M B σ a.tmps w M B (σ.clr x) w p (a.eval x) := by
  obtain ⟨h1, h2, h3⟩ := hI.clrO h
  obtain ⟨r1, r2⟩ := hI.ev h
  exact ⟨h1, MLe.refl _ _, Fr.refl _ _ _, fun b _ => by rw [h2]; exact Nat.le_refl _, r1, r2, fun b => by rw [h2]; exact hI.cnt b, fun b hb => by have := h2 b; have := hI.new b hb; omega⟩

theorem alloc_run {P : Program} {t : TypeId} {I : TI} (h : ti P t = some I) (w : World) : ∃ vs : Array Value, (Instr.alloc t true (.tuple #[])).run P w = .ok (.pointer (some ⟨w.heap.size, 0, none⟩)) (w.alloc (.cells vs t)) ∧ vs.size = I.size ∧ I.zero = vs.toList.map zeroPV ∧ ∀ v, v ∈ vs → v.oneCell' = true := by
  obtain ⟨i, z, d, hT⟩ := ti_spec h
  refine ⟨z.cells, ?_, by rw [hT.zsize, hT.size], hT.izero, hT.one⟩
  simp only [Instr.alloc, Sem.run_bind, hT.run_zeroValue w, Result.andThen_ok, newVar, newRow, run_newObj]
  rfl
theorem cells_vals : ∀ {ps : List PV} {b o : Nat}, Cells M B ps b o → ∃ vs : List Value, Reps M B ps vs ∧ ∀ (j : Nat) v, vs[j]? = some v → M b (o + j) = some v
  | [], _, _, _ => ⟨[], reps_nil.2 rfl, by simp⟩
  | p :: ps, b, o, h => by
    obtain ⟨⟨u, hu, hr⟩, h2⟩ := cells_cons.1 h
    obtain ⟨vs, h3, h4⟩ := cells_vals h2
    refine ⟨u :: vs, reps_cons.2 ⟨u, vs, rfl, hr, h3⟩, fun j v hv => ?_⟩
    cases j with
    | zero => simp at hv; subst hv; exact hu
    | succ j => have := h4 j v (by simpa using hv); rwa [show o + (j + 1) = o + 1 + j by omega]
theorem loadVar_run {P : Program} {t : TypeId} {I : TI} (h : ti P t = some I) {b off : Nat} {w : World} :
    (I.agg = true → ∀ vs : List Value, vs.length = I.size → (∀ (j : Nat) v, vs[j]? = some v → w.cell? ⟨b, off + j, none⟩ = some v) → (Instr.loadAt t (.pointer (some ⟨b, off, none⟩))).run P w = .ok (.agg vs.toArray) w) ∧
    (I.agg = false → ∀ v, w.cell? ⟨b, off, none⟩ = some v → (Instr.loadAt t (.pointer (some ⟨b, off, none⟩))).run P w = .ok v w) := by
  obtain ⟨i, z, d, hT⟩ := ti_spec h
  constructor
  · intro hg vs hl hv
    have := run_loadCells_list (P := P) w ⟨b, off, none⟩ vs (fun j v hj => by rw [add_lit]; exact hv j v hj)
    rw [hl] at this
    simp [Instr.loadAt, Instr.sureAddr, loadVar, hT.run_isAgg w, hg, hT.run_sizeOf w, this]
  · intro hg v hv
    simp [Instr.loadAt, Instr.sureAddr, loadVar, hT.run_isAgg w, hg, hv]
theorem load_sound (hI : Inv n M B out σ a.tmps w) {P : Program} {t : TypeId} {I : TI} (h : ti P t = some I) {x : Operand} {q : PV} (hq : σ.rd x = some q) {mv : Bool} {p : PV} {σ1 : ASt} (hl : loadV mv I q σ = some (p, σ1)) :
    ∃ v, (Instr.loadAt t (a.eval x)).run P w = .ok v w ∧ Pre n out M B σ a.tmps w M B σ1 w p v := by
  have hr := (hI.rd x q hq).1
  unfold loadV at hl
  split at hl
  · rename_i e
    split at hl
    · rename_i hc
      cases hl
      obtain ⟨b, off, e1, hloc⟩ := rep_cst.1 hr
      have hloc := hloc.mono (MLe.zero M B)
      rw [e1]
      cases hg : I.agg with
      | true =>
        rw [hg] at hc
        cases e <;> simp [PV.isAgg] at hc
        rename_i cs
        obtain ⟨vs, h1, h2⟩ := cells_vals (loc_agg.1 hloc)
        have hlen := reps_length h1
        refine ⟨_, (loadVar_run h).1 hg vs (by rw [← hlen]; simpa [PV.size] using hc) (fun j v hv => (hI.mem _ _ _ (h2 j v hv)).1), Pre.plain hI (rep_agg.2 ⟨_, rfl, by simpa using h1⟩) (fun b => ownV_no rfl _ _) (tl_no rfl)⟩
      | false =>
        rw [hg] at hc
        have h1 : e.isAgg = false := hc.1
        have h2 : ∀ cs, e ≠ .tuple cs := fun cs e' => by subst e'; exact loc_tuple.1 hloc
        obtain ⟨u, hu, hru⟩ := (loc_one h1 h2).1 hloc
        exact ⟨u, (loadVar_run h).2 hg u (hI.mem _ _ _ hu).1, Pre.plain hI (rep_un.2 hru) (fun b => ownV_un _ _ _) (tl_no (un_own _))⟩
    · cases hl
  · rename_i i off
    obtain ⟨c, hc, e1⟩ := rep_ptr.1 hr
    rw [e1]
    split at hl
    · rename_i cs hcs
      obtain ⟨vs, ty, o1, o2, o3, o4, o5⟩ := hI.heap.at hcs hc
      have hcell : ∀ (j : Nat) v, vs[j]? = some v → w.cell? ⟨c.1, j, none⟩ = some v := fun j v hv => by simp [World.cell?, o1, hv]
      split at hl
      · rename_i hg
        split at hl
        · rename_i hfit
          cases hl
          have hreps : Reps M B (((cs.drop off).take I.size).map PV.un) ((vs.toList.drop off).take I.size) := by
            refine reps_un (reps_take_drop (cs := cs.take cs.length) (vs := vs.toList.take cs.length) (reps_of (by simp; omega) fun j p u hp hu => ?_) off I.size |> fun h => by
              have e1 : (List.drop off (List.take cs.length cs)).take I.size = (cs.drop off).take I.size := by rw [List.take_of_length_le (Nat.le_refl _)]
              have e2 : (List.drop off (List.take cs.length vs.toList)).take I.size = (vs.toList.drop off).take I.size := by
                rw [List.drop_take, List.take_take, Nat.min_eq_left (by omega)]
              rw [e1, e2] at h; exact h)
            rw [List.getElem?_take] at hp hu
            split at hp
            · rename_i hlt
              rw [if_pos hlt] at hu
              obtain ⟨v, hv, hr', _⟩ := o4 j p hp
              have hu' : vs[j]? = some u := by simpa using hu
              rw [hv] at hu'; cases hu'; exact hr'
            · cases hp
          refine ⟨_, (loadVar_run h).1 hg ((vs.toList.drop off).take I.size) (by simp; omega) (fun j v hv => ?_), Pre.plain hI (rep_agg.2 ⟨_, rfl, by simpa using hreps⟩) (fun b => ownV_no rfl _ _) (tl_no rfl)⟩
          rw [List.getElem?_take] at hv
          split at hv
          · rw [List.getElem?_drop] at hv
            exact hcell _ _ (by simpa using hv)
          · cases hv
        · cases hl
      · rename_i hg
        have hg' : I.agg = false := by simpa using hg
        cases hp : cs[off]? with
        | none => simp [hp] at hl
        | some p0 =>
          simp only [hp] at hl
          obtain ⟨v, hv, hrv, hTv, hone⟩ := o4 off p0 hp
          have hrun := (loadVar_run (P := P) (b := c.1) (off := off) (w := w) h).2 hg' v (hcell _ _ hv)
          cases mv with
          | false =>
            simp at hl
            obtain ⟨rfl, rfl⟩ := hl
            exact ⟨v, hrun, Pre.plain hI (rep_un.2 hrv) (fun b => ownV_un _ _ _) (tl_no (un_own _))⟩
          | true =>
            simp at hl
            obtain ⟨rfl, rfl⟩ := hl
            -- the cell loses the right: the same cell is written anew, as a thought
            have hlt := (List.getElem?_eq_some_iff.1 hp).1
            have hset : w.setCell ⟨c.1, off, none⟩ v = w := by
              have := setCell_eq_setRow w c.1 off vs ty (0, 0) v o1
              rw [this]
              have e2 : vs.setIfInBounds off v = vs := by
                apply Array.ext (by simp)
                intro i h1 h2
                by_cases e : off = i
                · subst e; have := (Array.getElem?_eq_some_iff.1 hv).2; simp [this]
                · rw [Array.getElem_setIfInBounds (by simpa using h1), if_neg e]
              rw [e2]; exact setRow_self w c.1 vs ty (0, 0) o1
            have hcu : ∀ b, ownV p0.un v b = 0 := fun b => ownV_un _ _ _
            obtain ⟨s1, s2, s3, _, _⟩ := hI.setCell hcs hc hlt (rep_un.2 hrv) (tl_no (un_own _)) hone (fun b => by rw [hcu]; exact hI.cnt b) (fun b _ => hcu b)
            rw [hset] at s1 s2 s3
            have hfp : ∀ b, fp B { σ with h := σ.h.set i (some (cs.set off p0.un)) } a.tmps w b + ownV p0 v b ≤ fp B σ a.tmps w b := fun b => by
              have key : ∀ (cs : List PV) (us : List Value) (j : Nat), cs[j]? = some p0 → us[j]? = some v → ownC (cs.set j p0.un) us b + ownV p0 v b = ownC cs us b := by
                intro cs
                induction cs with
                | nil => intro us j h; simp at h
                | cons q qs ih =>
                  intro us j h1 h2
                  cases us with
                  | nil => simp at h2
                  | cons u us =>
                    cases j with
                    | zero => simp at h1 h2; subst h1; subst h2; simp only [List.set_cons_zero, ownC, ownV_un]; omega
                    | succ j => have := ih us j (by simpa using h1) (by simpa using h2); simp only [List.set_cons_succ, ownC]; omega
              have key2 : ∀ (h : Objs) (B : Blk) (i : Nat), h[i]? = some (some cs) → B[i]? = some c → ownH w (h.set i (some (cs.set off p0.un))) B b + ownV p0 v b = ownH w h B b := by
                intro h
                induction h with
                | nil => intro B i h1; simp at h1
                | cons x h ih =>
                  intro B i h1 h2
                  cases B with
                  | nil => simp at h2
                  | cons d B =>
                    cases i with
                    | zero =>
                      simp at h1 h2; subst h1; subst h2
                      have := key cs (cellsAt w d.1) off hp (by rw [cellsAt_eq o1]; simpa using hv)
                      simp only [List.set_cons_zero, ownH]; omega
                    | succ i =>
                      simp at h1 h2
                      have := ih B i h1 h2
                      cases x <;> simp only [List.set_cons_succ, ownH] <;> omega
              have := key2 σ.h B i hcs hc
              simp only [fp]; omega
            exact ⟨v, hrun, s1, MLe.refl _ _, Fr.refl _ _ _, fun b _ => hfp b, hrv, hTv, fun b => by have := hfp b; have := hI.cnt b; omega, fun b hb => by have := hfp b; have := hI.new b hb; omega⟩
    · cases hl
  · cases hl
end
end Go.Proofs.Ytmclnnpaephkpaa

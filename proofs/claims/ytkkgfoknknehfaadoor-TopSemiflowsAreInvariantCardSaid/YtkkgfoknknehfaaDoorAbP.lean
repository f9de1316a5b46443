/-
  What a call of a function does ('Ev'); the abstract wp of operations in the order of the text.
  Regions that draw their order: where the operations that are not ordered by the region's edges do not touch each other, the order of the text speaks for all.
  Regions that draw their order, the end.
  The abstract wp of code, sound; a contract from it.
-/
import Derived.Test.YtkkgfoknknehfaaDoorAbM
import Derived.LoopN
import Derived.Defers
import Derived.Scope
import Derived.Orders
namespace Go.Proofs.YtkkgfoknknehfaaDoor
set_option linter.unusedVariables false
set_option linter.unusedSimpArgs false
set_option linter.unnecessarySimpa false
set_option linter.unusedSectionVars false
open Go.RowKit
mutual
def PV.blw (m : Nat) : PV → Bool
 | .ptr i _ => decide (i < m)
 | .bld _ i => decide (i < m)
 | .slh i _ _ _ => decide (i < m)
 | .func _ f c => PV.blws m f && PV.blws m c
 | .agg cs => PV.blws m cs
 | .tuple cs => PV.blws m cs
 | _ => true
def PV.blws (m : Nat) : List PV → Bool
 | [] => true
 | p :: ps => p.blw m && PV.blws m ps
end
section
variable {M : Mem} {B : Blk}
mutual
theorem sem_blw (m : Nat) : ∀ p : PV, p.blw m = true → sem M B p = sem M (B.take m) p
 | .int _ _, _ => by simp only [sem]
 | .bool _, _ => by simp only [sem]
 | .str _, _ => by simp only [sem]
 | .nilp, _ => by simp only [sem]
 | .raw _, _ => by simp only [sem]
 | .ptr i _, h => by
  have : (B.take m)[i]? = B[i]? := by rw [List.getElem?_take, if_pos (by simpa [PV.blw] using h)]
  simp only [sem, this]
 | .bld _ i, h => by
  have : (B.take m)[i]? = B[i]? := by rw [List.getElem?_take, if_pos (by simpa [PV.blw] using h)]
  simp only [sem, this]
 | .slh i _ _ _, h => by
  have : (B.take m)[i]? = B[i]? := by rw [List.getElem?_take, if_pos (by simpa [PV.blw] using h)]
  simp only [sem, this]
 | .cst e, _ => by simp only [sem]
 | .slT _, _ => by simp only [sem]
 | .slp _ _ _ _, _ => by simp only [sem]
 | .mp _, _ => by simp only [sem]
 | .sl _ _ es, _ => by simp only [sem]
 | .func _ f c, h => by
  simp only [PV.blw, Bool.and_eq_true] at h
  simp only [sem, sems_blw m f h.1, sems_blw m c h.2]
 | .agg cs, h => by simp only [sem, sems_blw m cs (by simpa [PV.blw] using h)]
 | .tuple cs, h => by simp only [sem, sems_blw m cs (by simpa [PV.blw] using h)]
theorem sems_blw (m : Nat) : ∀ ps : List PV, PV.blws m ps = true → sems M B ps = sems M (B.take m) ps
 | [], _ => by simp only [sems]
 | p :: ps, h => by
  simp only [PV.blws, Bool.and_eq_true] at h
  simp only [sems, sem_blw m p h.1, sems_blw m ps h.2]
end
theorem Rep.blw {m : Nat} {p : PV} {v : Value} (hf : p.blw m = true) (h : Rep M B p v) : Rep M (B.take m) p v := by
 grind [Rep, sem_blw]
theorem Reps.blw {m : Nat} {ps : List PV} {vs : List Value} (hf : PV.blws m ps = true) (h : Reps M B ps vs) : Reps M (B.take m) ps vs := by
 grind [Reps, sems_blw]
theorem blws_iff {m : Nat} : ∀ {ps : List PV}, PV.blws m ps = true ↔ ∀ p, p ∈ ps → p.blw m = true
 | [] => by simp [PV.blws]
 | p :: ps => by simp [PV.blws, blws_iff]
mutual
theorem flat_blw (m : Nat) : ∀ p : PV, p.flat = true → p.blw m = true
 | .int _ _, _ => rfl
 | .bool _, _ => rfl
 | .str _, _ => rfl
 | .nilp, _ => rfl
 | .raw _, _ => rfl
 | .ptr i _, h => by simp [PV.flat] at h
 | .bld _ i, h => by simp [PV.flat] at h
 | .slh i _ _ _, h => by simp [PV.flat] at h
 | .cst e, _ => by simp only [PV.blw]
 | .slT _, _ => by simp only [PV.blw]
 | .slp _ _ _ _, _ => by simp only [PV.blw]
 | .mp _, _ => by simp only [PV.blw]
 | .sl _ _ es, _ => by simp only [PV.blw]
 | .func _ f c, h => by
  simp only [PV.flat, Bool.and_eq_true] at h
  simp only [PV.blw, flats_blw m f h.1, flats_blw m c h.2, Bool.and_self]
 | .agg cs, h => by simp only [PV.blw]; exact flats_blw m cs (by simpa [PV.flat] using h)
 | .tuple cs, h => by simp only [PV.blw]; exact flats_blw m cs (by simpa [PV.flat] using h)
theorem flats_blw (m : Nat) : ∀ ps : List PV, PV.flats ps = true → PV.blws m ps = true
 | [], _ => rfl
 | p :: ps, h => by
  simp only [PV.flats, Bool.and_eq_true] at h
  simp only [PV.blws, flat_blw m p h.1, flats_blw m ps h.2, Bool.and_self]
end
end
def blwH (m : Nat) (h : Objs) : Bool := h.all fun o => match o with | some cs => PV.blws m cs | none => true
def memOK (M : Mem) (w : World) : Prop := ∀ (b o : Nat) (v : Value), M b o = some v → w.cell? ⟨b, o, none⟩ = some v ∧ v.oneCell' = true
structure Post (h : Objs) (B : Blk) (out : Nat → Nat) (M : Mem) (w : World) (r : PV) (h' : Objs) (v : Value) (M' : Mem) (B' : Blk) (w' : World) : Prop where
 mem : memOK M' w'
 le : MLe M M' B B'
 fr : Fr (ownH w h B) M w M' w'
 heap : HeapOK M' B' w' h'
 rep : Rep M' B' r v
 tl : Tl M' w' r v
 own : ∀ b, b < w.heap.size → ownH w' h' B' b + ownV r v b ≤ ownH w h B b
 cnt : ∀ b, ownH w' h' B' b + ownV r v b + out b ≤ 1
 new : ∀ b, w'.heap.size ≤ b → ownH w' h' B' b + ownV r v b + out b = 0
def callable (P : Program) (g : FuncId) : Bool := match P.funcs[g]? with | some fn => fn.name != "runtime.NumGoroutine" && fn.body.isSome | none => false
abbrev CP := FuncId → Array Value → World → (Ending → World → Prop) → Prop
def EvG (P : Program) (cp : CP) (g : FuncId) (args : List PV) (h : Objs) (r : PV) (h' : Objs) : Prop :=
 callable P g = true ∧ ∀ (out : Nat → Nat) (M : Mem) (B : Blk) (w : World) (vals : Array Value), memOK M w → HeapOK M B w h → (∀ b, ownH w h B b + out b ≤ 1) → (∀ b, w.heap.size ≤ b → ownH w h B b + out b = 0) →
  Reps M B args vals.toList → cp g vals w fun e w' => ∃ v M' B', e = .returned v ∧ Post h B out M w r h' v M' B' w'
def Ev (P : Program) (g : FuncId) (args : List PV) (h : Objs) (r : PV) (h' : Objs) : Prop := EvG P (Calls P) g args h r h'
def CPmono (cp : CP) : Prop := ∀ ⦃g : FuncId⦄ ⦃vals : Array Value⦄ ⦃w : World⦄ ⦃R R' : Ending → World → Prop⦄, cp g vals w R → (∀ e w', R e w' → R' e w') → cp g vals w R'
theorem calls_cpmono (P : Program) : CPmono (Calls P) := fun _ _ _ _ _ h k => h.mono k
def CD (P : Program) : CP := fun g vals w R => CallsD P g vals .returning w fun e u' w' => u' = .returning ∧ R e w'
theorem cd_cpmono (P : Program) : CPmono (CD P) := fun _ _ _ _ _ h k => CallsD.mono h fun _ _ _ hh => ⟨hh.1, k _ _ hh.2⟩
theorem Ev.frame' {P : Program} {g : FuncId} {args : List PV} {r : PV} (h : Ev P g args [] r []) (hr : r.flat = true) (ha : PV.flats args = true) (hh : Objs) : Ev P g args hh r hh := by
 refine ⟨h.1, fun out M B w vals hmem hheap hcnt hnew hv => ?_⟩
 have h0 : ∀ w b, ownH w [] [] b = 0 := fun w b => by simp [ownH]
 refine (h.2 (fun b => out b + ownH w hh B b) M [] w vals hmem ⟨rfl, fun i cs hi => by simp at hi⟩ (fun b => by rw [h0]; have := hcnt b; omega) (fun b hb => by rw [h0]; have := hnew b hb; omega) (Reps.flat [] ha hv)).mono fun e w' he => ?_
 obtain ⟨v, M', B', rfl, hP⟩ := he
 have hB' : B' = [] := List.eq_nil_of_length_eq_zero (by have := hP.heap.1; simp_all)
 subst hB'
 have hun : ∀ b, b < w.heap.size → w'.heap[b]? = w.heap[b]? ∧ ∀ o, M' b o = M b o := fun b hb => hP.fr.blk b hb (h0 w b)
 have hlt : ∀ b, 1 ≤ ownH w hh B b → b < w.heap.size := fun b hb => by
  grind
 have hobj : ∀ (i : Nat) cs c, hh[i]? = some (some cs) → B[i]? = some c → 1 ≤ ownH w hh B c.1 := fun i cs c h1 h2 => by
  have := ownH_get (w := w) c.1 h1 h2
  grind
 have hle : MLe M M' B B := ⟨hP.le.mem, fun _ _ h => h⟩
 have hfp : ∀ b, ownH w' hh B b = ownH w hh B b := fun b => ownH_congr b fun i cs c h1 h2 => cellsAt_congr (hun c.1 (hlt _ (hobj i cs c h1 h2))).1
 refine ⟨v, M', B, rfl, hP.mem, hle, hP.fr.mono fun b hb _ => h0 w b, ⟨hheap.1, fun i cs hi => ?_⟩, hP.rep.flat B hr, hP.tl, fun b hb => ?_, fun b => ?_, fun b hb => ?_⟩
 ·obtain ⟨c, hc, vs, ty, h1, h2, h3, h4, h5⟩ := hheap.2 i cs hi
  have hcb := hun c.1 (hlt _ (hobj i cs c hi hc))
  refine ⟨c, hc, vs, ty, by rw [rowAt_congr hcb.1, h1], h2, h3, fun j p hj => ?_, fun o => by rw [hcb.2]; exact h5 o⟩
  obtain ⟨v, hv, hr, hT, hone⟩ := h4 j p hj
  refine ⟨v, hv, hr.mono hle, hT.kept fun b ho => hun b (hlt b ?_), hone⟩
  have e1 := ownH_get (w := w) b hi hc
  have e2 := ownC_get b hj (by rw [cellsAt_eq h1]; grind : (cellsAt w c.1)[j]? = some v)
  omega
 ·have := hP.own b hb; rw [h0, h0] at this; rw [hfp]; omega
 ·have := hP.cnt b; rw [hfp]; omega
 ·have := hP.new b hb; rw [hfp]; omega
def gval (ops : Array Oper) (σ : ASt) (j : Nat) : Option (Option Bool) :=
 match (ops[j]?).bind (·.dst) with
 | none => some none
 | some d => match sget d σ.s with
  | some (.bool b) => some (some b)
  | some (.tuple []) => some none
  | _ => none
def thenPut (E : AE) (dst : Option Nat) (p : PV) (σ : ASt) (K : ASt → Prop) : Prop := match ASt.put E dst p σ with | some σ' => K σ' | none => False
def stepK (E : AE) (o : Oper) (K : ASt → Prop) (σ : ASt) : Prop :=
 match stepV E o σ with
 | some (p, σ1) => sideV E o σ ∧ thenPut E o.dst p σ1 K
 | none => False
def nilCmp (E : AE) (o : Oper) (σ : ASt) : Option (List PV × Bool) := match o.op with
 | .binOp op t x (.const (.slice none 0 0)) _ => (match E.P.underlying t, σ.rd x, op with
  | some (.slice _), some (.sl _ _ es), .eql => some (es, true)
  | some (.slice _), some (.sl _ _ es), .neq => some (es, false)
  | _, _, _ => none)
 | _ => none
def nilK (E : AE) (o : Oper) (K : ASt → Prop) (σ : ASt) : Prop := match nilCmp E o σ with
 | some (es, pos) => ∀ b : Bool, (b = true → es = []) → thenPut E o.dst (.bool (b == pos)) σ K
 | none => False
def stepN (E : AE) (o : Oper) (K : ASt → Prop) (σ : ASt) : Prop := stepK E o K σ ∨ nilK E o K σ
def callK (E : AE) (g : FuncId) (args : List PV) (dst : Option Nat) (K : ASt → Prop) (σ : ASt) : Prop := ∃ r h', Ev E.P g args σ.h r h' ∧ thenPut E dst r { σ with h := h' } K
def awpOp (E : AE) (o : Oper) (K : ASt → Prop) (σ : ASt) : Prop :=
 match o.op with
 | .call c => match c.callee with
  | .value f => (match σ.rd f, allSome (c.args.toList.map σ.rd) with
   | some (.func (.func g) first caps), some as => callK E g (first ++ as ++ caps) o.dst K σ
   | _, _ => False)
  | _ => stepN E o K σ
 | _ => stepN E o K σ
def awpOps (E : AE) (ops : Array Oper) : List Oper → (ASt → Prop) → ASt → Prop
 | [], Q, σ => Q σ
 | o :: l, Q, σ =>
  match o.guard with
  | none => awpOp E o (awpOps E ops l Q) σ
  | some (j, want) => match gval ops σ j with
   | some none => thenPut E o.dst (.tuple []) σ (awpOps E ops l Q)
   | some (some b) => (b = want → awpOp E o (awpOps E ops l Q) σ) ∧ (b ≠ want → thenPut E o.dst (.tuple []) σ (awpOps E ops l Q))
   | none => False
section
variable {out : Nat → Nat} {M : Mem} {B : Blk} {σ : ASt} {a : Act} {w : World} {E : AE} {o : Oper}
theorem stepK_sound (hI : Inv E.n M B out σ a.tmps w) {K : ASt → Prop} (h : stepK E o K σ) {K' : Act → World → Prop} {Q : Exit → Act → World → Prop}
 (hK : ∀ v σ' M' B' w', K σ' → Good E.n out M B σ a.tmps w M' B' σ' (a.put o.dst v).tmps w' → K' (a.put o.dst v) w') : o.wp E.P a w K' Q := by
 unfold stepK at h
 split at h
 ·rename_i p σ1 hs
  obtain ⟨hside, hp⟩ := h
  unfold thenPut at hp
  split at hp
  ·rename_i σ' hput
   obtain ⟨v, w', M', B', h1, h2⟩ := step_sound hI hs hside
   have hG := h2.put hput
   unfold Oper.wp
   rcases h1 with h1 | ⟨h1, hd⟩
   grind [Oper.upon_value]
   ·rw [h1, Oper.upon_skip]
    have : a.put o.dst undef = a.put o.dst v := by rw [hd]; rfl
    grind
  simp_all
 simp_all
theorem nilK_sound (hI : Inv E.n M B out σ a.tmps w) {K : ASt → Prop} (h : nilK E o K σ) {K' : Act → World → Prop} {Q : Exit → Act → World → Prop}
 (hK : ∀ v σ' M' B' w', K σ' → Good E.n out M B σ a.tmps w M' B' σ' (a.put o.dst v).tmps w' → K' (a.put o.dst v) w') : o.wp E.P a w K' Q := by
 obtain ⟨dst, op, type, pos, after, guard⟩ := o
 unfold nilK at h
 split at h
 case h_2 => exact h.elim
 rename_i es ps hc
 unfold nilCmp at hc
 simp only at hc
 split at hc
 case h_2 => cases hc
 rename_i bop t x yt
 have key : ∀ e, E.P.underlying t = some (.slice e) → ∀ ow z, σ.rd x = some (.sl ow z es) → ∃ b : Bool, (b = true → es = []) ∧ (Op.equal t (a.eval x) (.slice none 0 0)).run E.P w = .ok b w ∧ ∃ A n c, a.eval x = .slice A n c := by
  intro e hu ow z hx
  obtain ⟨A, cap, hv, hle, hs, hz, hA⟩ := rep_sl.1 (hI.rd x _ hx).1
  refine ⟨A.isNone, fun hn => ?_, ?_, A, _, cap, hv⟩
  simp_all
  ·rw [hv]
   refine equal_of fun d => ?_
   rw [Op.equalIn, Sem.run_bind, run_underlying hu w]
   cases A <;> rfl
 have fin : ∀ (r : Bool), (execOp a.eval ⟨dst, .binOp bop t x (.const (.slice none 0 0)) yt, type, pos, after, guard⟩).run E.P w = .ok (.value (.bool r)) w → thenPut E dst (.bool r) σ K → Oper.wp E.P ⟨dst, .binOp bop t x (.const (.slice none 0 0)) yt, type, pos, after, guard⟩ a w K' Q := by
  intro r hr hp
  unfold thenPut at hp
  split at hp
  ·rename_i σ' hput
   have hG := (Pre.plain hI (rep_bool.2 rfl) (fun b => ownV_no rfl _ _) (tl_no rfl)).put hput
   grind [Oper.wp, Oper.upon_value]
  simp_all
 split at hc
 ·rename_i e ow z es' hu hx
  cases hc
  obtain ⟨b, hb, he, A, n, c, hv⟩ := key e hu ow z hx
  refine fin b ?_ (by have := h b hb; simp_all)
  refine execOp_val (s := do eqGuard .eql t x (.const (.slice none 0 0)) (a.eval x) (.slice none 0 0); binOp .eql t (a.eval x) (.slice none 0 0)) rfl ?_
  rw [Sem.run_bind, hv, eqGuard_run ⟨by simp, by simp⟩ w]
  rw [hv] at he
  have : binOp .eql t (.slice A n c) (.slice none 0 0) = (do pure (.bool (← Op.equal t (.slice A n c) (.slice none 0 0)))) := rfl
  rw [this]; simp [he]
 ·rename_i e ow z es' hu hx
  cases hc
  obtain ⟨b, hb, he, A, n, c, hv⟩ := key e hu ow z hx
  refine fin (!b) ?_ (by have := h b hb; simp_all)
  refine execOp_val (s := do eqGuard .neq t x (.const (.slice none 0 0)) (a.eval x) (.slice none 0 0); binOp .neq t (a.eval x) (.slice none 0 0)) rfl ?_
  rw [Sem.run_bind, hv, eqGuard_run ⟨by simp, by simp⟩ w]
  rw [hv] at he
  have : binOp .neq t (.slice A n c) (.slice none 0 0) = (do pure (.bool (!(← Op.equal t (.slice A n c) (.slice none 0 0))))) := rfl
  rw [this]; simp [he]
 ·cases hc
theorem stepN_sound (hI : Inv E.n M B out σ a.tmps w) {K : ASt → Prop} (h : stepN E o K σ) {K' : Act → World → Prop} {Q : Exit → Act → World → Prop}
 (hK : ∀ v σ' M' B' w', K σ' → Good E.n out M B σ a.tmps w M' B' σ' (a.put o.dst v).tmps w' → K' (a.put o.dst v) w') : o.wp E.P a w K' Q := by
 rcases h with h | h
 grind [stepK_sound]
 grind [nilK_sound]
theorem call_soundG {cp : CP} (hm : CPmono cp) (hI : Inv E.n M B out σ a.tmps w) {g : FuncId} {args : List PV} {vals : Array Value} (hv : Reps M B args vals.toList) {r : PV} {h' : Objs} (hE : EvG E.P cp g args σ.h r h') {dst : Option Nat} {σ' : ASt} (hp : ASt.put E dst r { σ with h := h' } = some σ')
 {R : Ending → World → Prop} (hK : ∀ v M' B' w', Good E.n out M B σ a.tmps w M' B' σ' (a.put dst v).tmps w' → R (.returned v) w') : cp g vals w R := by
 obtain ⟨_, hE⟩ := hE
 have hc := hE (fun b => out b + ownS σ.s a.tmps b) M B w vals hI.mem hI.heap (fun b => by have := hI.cnt b; grind [fp]) (fun b hb => by have := hI.new b hb; grind [fp]) hv
 refine hm hc fun e w' he => ?_
 obtain ⟨v, M', B', rfl, hP⟩ := he
 refine hK v M' B' w' ?_
 have hpre : Pre E.n out M B σ a.tmps w M' B' { σ with h := h' } w' r v := by
  refine ⟨⟨hI.size, hP.mem, hI.srt, fun k p hk => ?_, hP.heap, fun b => ?_, fun b hb => ?_⟩, hP.le, ?_, fun b hb => ?_, hP.rep, hP.tl, fun b => ?_, fun b hb => ?_⟩
  ·obtain ⟨s1, s2, s3⟩ := hI.slots k p hk
   refine ⟨s1, s2.mono hP.le, s3.kept fun b hb => ?_⟩
   have e1 := ownK_le (s := σ.s) (t := a.tmps) (k := k) (b := b)
   simp only [ownK, hk] at e1
   have e2 := hI.cnt b
   simp only [fp] at e2
   exact hP.fr.blk b (ownH_lt hI (by simp only [fp]; omega)) (by omega)
  ·have := hP.cnt b; simp only [fp]; omega
  ·have := hP.new b hb; simp only [fp]; omega
  ·exact hP.fr.mono fun b hb h0 => by grind [fp]
  ·have := hP.own b hb; simp only [fp]; omega
  ·have := hP.cnt b; simp only [fp]; omega
  ·have := hP.new b hb; omega
 exact hpre.put hp
theorem call_sound (hI : Inv E.n M B out σ a.tmps w) {g : FuncId} {args : List PV} {vals : Array Value} (hv : Reps M B args vals.toList) {r : PV} {h' : Objs} (hE : Ev E.P g args σ.h r h') {dst : Option Nat} {σ' : ASt} (hp : ASt.put E dst r { σ with h := h' } = some σ')
 {R : Ending → World → Prop} (hK : ∀ v M' B' w', Good E.n out M B σ a.tmps w M' B' σ' (a.put dst v).tmps w' → R (.returned v) w') : Calls E.P g vals w R := call_soundG (calls_cpmono E.P) hI hv hE hp hK
theorem awpOp_sound (hI : Inv E.n M B out σ a.tmps w) {K : ASt → Prop} (h : awpOp E o K σ) {K' : Act → World → Prop} {Q : Exit → Act → World → Prop}
 (hK : ∀ v σ' M' B' w', K σ' → Good E.n out M B σ a.tmps w M' B' σ' (a.put o.dst v).tmps w' → K' (a.put o.dst v) w') : o.wp E.P a w K' Q := by
 unfold awpOp at h
 split at h
 ·rename_i c hop
  split at h
  ·rename_i f hf
   split at h
   ·rename_i g first caps as hfun has
    obtain ⟨r, h', hE, hp⟩ := h
    unfold thenPut at hp
    split at hp
    ·rename_i σ' hput
     obtain ⟨f', c', e1, r1, r2⟩ := rep_func.1 (hI.rd _ _ hfun).1
     obtain ⟨ra, _⟩ := reps_all hI.rd has
     have hcall := hE.1
     unfold callable at hcall
     split at hcall
     ·rename_i fn hfn
      unfold Oper.wp
      have hrun : (execOp a.eval o).run E.P w = .ok (.enter g (f' ++ c.args.map a.eval ++ c')) w := by
       obtain ⟨callee, cargs, cts⟩ := c
       subst hf
       unfold execOp
       rw [hop]
       simp only [resolve, e1, Deferred.ofValue, Sem.run_bind, Sem.run_pure, Result.andThen_ok, invoke, callFunc, run_program]
       have hnb : fn.body.isNone = false := by cases hb : fn.body <;> simp [hb] at hcall ⊢
       grind [Sem.run_pure]
      rw [hrun]
      refine call_sound hI ?_ hE hput fun v M' B' w' hG => hK v σ' M' B' w' hp hG
      simpa using reps_append (reps_append r1 ra) r2
     grind
    simp_all
   simp_all
  grind [stepN_sound]
 grind [stepN_sound]
theorem gval_yields (hI : Inv E.n M B out σ a.tmps w) {ops : Array Oper} {j : Nat} {x : Option Bool} (h : gval ops σ j = some x) : yielded ops a.tmps j = x := by
 unfold gval at h
 unfold yielded
 split at h
 grind
 ·rename_i d hd
  split at h
  ·rename_i b hb
   obtain ⟨h1, h2, _⟩ := hI.slots _ _ hb
   have := rep_bool.1 h2
   have hlt : d < a.tmps.size := by rw [hI.size]; exact h1
   simp_all
  ·rename_i hb
   obtain ⟨h1, h2, _⟩ := hI.slots _ _ hb
   obtain ⟨vs, h3, h4⟩ := rep_tuple.1 h2
   have hlt : d < a.tmps.size := by rw [hI.size]; exact h1
   simp_all
  ·cases h
theorem Act.put_defers' (a : Act) (d : Option Nat) (v : Value) : (a.put d v).defers = a.defers := by cases d <;> rfl
theorem skip_good (hI : Inv E.n M B out σ a.tmps w) {dst : Option Nat} {σ' : ASt} (h : ASt.put E dst (.tuple []) σ = some σ') : Good E.n out M B σ a.tmps w M B σ' (a.put dst undef).tmps w :=
 (Pre.plain hI (rep_tuple.2 ⟨#[], rfl, reps_nil.2 rfl⟩) (fun b => ownV_no rfl _ _) (tl_no rfl)).put h
theorem awpOps_sound {ops : Array Oper} {Q : Exit → Act → World → Prop} : ∀ (l : List Oper) {M : Mem} {B : Blk} {σ : ASt} {a : Act} {w : World} {K : ASt → Prop}, Inv E.n M B out σ a.tmps w → awpOps E ops l K σ →
 (∀ σ' M' B' a' w', K σ' → Good E.n out M B σ a.tmps w M' B' σ' a'.tmps w' → a'.defers = a.defers → Q .normal a' w') → wpList E.P ops Q l a w
 | [], M, B, σ, a, w, K, hI, h, hQ => hQ σ M B a w h (Good.refl hI) rfl
 | o :: l, M, B, σ, a, w, K, hI, h, hQ => by
  have run : awpOp E o (awpOps E ops l K) σ → o.wp E.P a w (wpList E.P ops Q l) Q := fun h =>
   awpOp_sound hI h fun v σ' M' B' w' hK hG => awpOps_sound l hG.inv hK fun σ2 M2 B2 a2 w2 hk hG2 hd => hQ σ2 M2 B2 a2 w2 hk (hG.trans hG2) (by rw [hd, Act.put_defers'])
  have skip : thenPut E o.dst (.tuple []) σ (awpOps E ops l K) → wpList E.P ops Q l (a.put o.dst undef) w := fun h => by
   unfold thenPut at h
   split at h
   ·rename_i σ' hp
    have hG := skip_good hI hp
    exact awpOps_sound l hG.inv h fun σ2 M2 B2 a2 w2 hk hG2 hd => hQ σ2 M2 B2 a2 w2 hk (hG.trans hG2) (by rw [hd, Act.put_defers'])
   simp_all
  rw [awpOps] at h
  grind [wpList, Region.wanted, gval_yields]
theorem awpOps_then {ops : Array Oper} {Q : Exit → Act → World → Prop} {rest : List Oper} : ∀ (l : List Oper) {M : Mem} {B : Blk} {σ : ASt} {a : Act} {w : World} {K : ASt → Prop}, Inv E.n M B out σ a.tmps w → awpOps E ops l K σ →
 (∀ σ' M' B' a' w', K σ' → Good E.n out M B σ a.tmps w M' B' σ' a'.tmps w' → a'.defers = a.defers → wpList E.P ops Q rest a' w') → wpList E.P ops Q (l ++ rest) a w
 | [], M, B, σ, a, w, K, hI, h, hQ => hQ σ M B a w h (Good.refl hI) rfl
 | o :: l, M, B, σ, a, w, K, hI, h, hQ => by
  have run : awpOp E o (awpOps E ops l K) σ → o.wp E.P a w (wpList E.P ops Q (l ++ rest)) Q := fun h =>
   awpOp_sound hI h fun v σ' M' B' w' hK hG => awpOps_then l hG.inv hK fun σ2 M2 B2 a2 w2 hk hG2 hd => hQ σ2 M2 B2 a2 w2 hk (hG.trans hG2) (by rw [hd, Act.put_defers'])
  have skip : thenPut E o.dst (.tuple []) σ (awpOps E ops l K) → wpList E.P ops Q (l ++ rest) (a.put o.dst undef) w := fun h => by
   unfold thenPut at h
   split at h
   ·rename_i σ' hp
    have hG := skip_good hI hp
    exact awpOps_then l hG.inv h fun σ2 M2 B2 a2 w2 hk hG2 hd => hQ σ2 M2 B2 a2 w2 hk (hG.trans hG2) (by rw [hd, Act.put_defers'])
   simp_all
  rw [awpOps] at h
  grind [wpList, Region.wanted, gval_yields]
end
end Go.Proofs.YtkkgfoknknehfaaDoor
namespace Go.Proofs.YtkkgfoknknehfaaDoor
set_option linter.unusedVariables false
set_option linter.unusedSimpArgs false
set_option linter.unnecessarySimpa false
set_option linter.unusedSectionVars false
open Go.RowKit
def tmpOf : Operand → Option Nat
 | .tmp t => some t
 | _ => none
def clrT (E : AE) (o : Oper) : Option Nat :=
 match o.op with
 | .move x => if inMv E.mv o.dst then tmpOf x else none
 | .assign x => tmpOf x
 | .store _ _ x => tmpOf x
 | .call c => match c.callee with
  | .builtin .append => (match c.args.toList with | [x, _] => tmpOf x | _ => none)
  | _ => none
 | _ => none
def roB (E : AE) : Bool := E.ln.any fun k => Nat.ble 1000000 k
def roEq (E : AE) (H H' : Objs) : Prop := ∀ i, inMv E.ln (some (1000000 + i)) = true → H[i]? = H'[i]?
def hk (E : AE) (o : Oper) : Nat :=
 match o.op with
 | .load _ _ => if inMv E.ln o.dst then (if roB E then 5 else 0) else if inMv E.mv o.dst then 3 else 1
 | .alloc _ => if inMv E.ln o.dst then (if roB E then 6 else 2) else 2
 | .box _ _ => if inMv E.fz o.dst then 0 else 2
 | .store _ a _ => if inMv E.mu (opT a) then 6 else 2
 | .buildSlice _ _ _ => if inMv E.mu o.dst then 2 else 0
 | .makeSlice _ _ _ => if inMv E.mu o.dst then 2 else 0
 | .makeMap _ _ => if inMv E.ln o.dst then (if roB E then 6 else 2) else 2
 | .lookup _ _ _ _ => 2
 | .mapUpdate _ _ _ _ => 2
 | .insert _ m _ _ => if inMv E.mu ((opT m).map (6000000 + ·)) then 6 else 2
 | .range _ _ => 2
 | .next _ _ => 2
 | .call c => match c.callee with
  | .builtin .clear => 2
  | .builtin .copy => 2
  | .value _ => if inMv E.sy o.dst then (if roB E then 6 else 2) else 0
  | _ => 0
 | _ => 0
def clrS (c : Option Nat) (s : Slots) : Slots :=
 match c with
 | none => s
 | some t => match sget t s with | some p => sput t p.un s | none => s
theorem clr_clrS (σ : ASt) (x : Operand) : (σ.clr x).s = clrS (tmpOf x) σ.s ∧ (σ.clr x).h = σ.h := by
 cases x with
 | tmp t => grind [ASt.clr, clrS, tmpOf]
 | _ => exact ⟨rfl, rfl⟩
def unH (h : Objs) : Objs := h.map fun o => o.map fun cs => cs.map PV.un
def agree (o : Oper) (s s' : Slots) : Prop := ∀ t, Operand.tmp t ∈ o.op.operands → sget t s' = sget t s
section
variable {E : AE} {o : Oper} {σ σ' : ASt}
theorem ev_agree (h : agree o σ.s σ'.s) {x : Operand} (hx : x ∈ o.op.operands) : σ'.ev x = σ.ev x := by
 cases x with
 | tmp t => exact h t hx
 | _ => rfl
theorem rd_agree (h : agree o σ.s σ'.s) {x : Operand} (hx : x ∈ o.op.operands) : σ'.rd x = σ.rd x := by
 grind [ASt.rd, ev_agree]
theorem allSome_agree {rd rd' : Operand → Option PV} {xs : List Operand} (h : ∀ x, x ∈ xs → rd' x = rd x) : allSome (xs.map rd') = allSome (xs.map rd) := by
 rw [List.map_congr_left h]
theorem parts_agree {rd rd' : Operand → Option PV} : ∀ {xs : List (Nat × Operand)}, (∀ x, x ∈ xs.map (·.2) → rd' x = rd x) → partsPV rd' xs = partsPV rd xs
 | [], _ => rfl
 | (i, x) :: l, h => by
  rw [partsPV, partsPV, h x (by simp), parts_agree (fun y hy => h y (by simp_all))]
theorem pop_agree {P : Program} {rd rd' : Operand → Option PV} {op : Op} (h : ∀ x, x ∈ op.operands → rd' x = rd x) : pop P rd' op = pop P rd op := by
 cases op with
 | call c =>
  obtain ⟨callee, args, ts⟩ := c
  have ha : ∀ x, x ∈ args.toList → rd' x = rd x := fun x hx => h x (by grind [Op.operands, Call.operands])
  grind [pop, popCall, allSome_agree]
 | makeFunc fn first caps =>
  have h1 : ∀ x, x ∈ first.toList → rd' x = rd x := fun x hx => h x (by grind [Op.operands])
  have h2 : ∀ x, x ∈ caps.toList → rd' x = rd x := fun x hx => h x (by grind [Op.operands])
  grind [pop, allSome_agree]
 | build t ps =>
  have : partsPV rd' ps.toList = partsPV rd ps.toList := parts_agree fun x hx => h x (by grind [Op.operands])
  simp only [pop, this]
 | slice t x lo hi mx =>
  cases mx with
  | some m =>
   cases lo with
   | none => simp [pop]
   | some a =>
    cases hi with
    | none => simp [pop]
    | some b => grind [pop, Op.operands]
  | none =>
   cases lo with
   | none =>
    grind [pop, Op.operands]
   | some a =>
    cases hi with
    | none => grind [pop, Op.operands]
    | some b => grind [pop, Op.operands]
 | _ => simp_all [pop, Op.operands]
theorem unH_get {h h' : Objs} (e : unH h' = unH h) {i : Nat} {cs : List PV} (hi : h[i]? = some (some cs)) : ∃ cs', h'[i]? = some (some cs') ∧ cs'.map PV.un = cs.map PV.un := by
 have h1 := congrArg (·[i]?) e
 simp only [unH, List.getElem?_map, hi] at h1
 cases hh : h'[i]? with
 | none => rw [hh] at h1; simp at h1
 | some x =>
  simp_all
theorem loadV_un {I : TI} {q p : PV} {σ1 : ASt} (h : loadV false I q σ = some (p, σ1)) (hh : unH σ'.h = unH σ.h) : σ1 = σ ∧ loadV false I q σ' = some (p, σ') := by
 unfold loadV at *
 cases q with
 | cst e =>
  simp_all
 | ptr i off =>
  cases hi : σ.h[i]? with
  | none => grind
  | some x =>
   cases x with
   | none => grind
   | some cs =>
    obtain ⟨cs', h1, h2⟩ := unH_get hh hi
    have hl : cs'.length = cs.length := by have := congrArg List.length h2; grind
    simp_all
    ·cases hp : cs[off]? with
     | none => grind
     | some p0 =>
      have h3 := congrArg (·[off]?) h2
      grind
 | _ => simp at h
theorem unH_set {h : Objs} {i off : Nat} {cs : List PV} {p0 : PV} (hi : h[i]? = some (some cs)) (hp : cs[off]? = some p0) : unH (h.set i (some (cs.set off p0.un))) = unH h := by
 simp only [unH]
 apply List.ext_getElem?
 intro j
 rw [List.getElem?_map, List.getElem?_map]
 by_cases hj : i = j
 ·subst hj
  rw [List.getElem?_set_self (List.getElem?_eq_some_iff.1 hi).1, hi]
  simp only [Option.map_some, Option.some.injEq]
  apply List.ext_getElem?
  grind [un_un]
 simp_all
theorem loadV_mv {I : TI} {q p : PV} {σ1 : ASt} (h : loadV true I q σ = some (p, σ1)) : σ1.s = σ.s ∧ (∀ σ' : ASt, σ'.h = σ.h → loadV true I q σ' = some (p, ⟨σ'.s, σ1.h⟩)) ∧ unH σ1.h = unH σ.h := by
 have same : ∀ σ' : ASt, σ'.h = σ.h → (⟨σ'.s, σ.h⟩ : ASt) = σ' := fun σ' e => by cases σ'; simp_all
 unfold loadV at *
 cases q with
 | cst e =>
  simp_all
 | ptr i off =>
  cases hi : σ.h[i]? with
  | none => grind
  | some x =>
   cases x with
   | none => grind
   | some cs =>
    grind [unH_set]
 | _ => simp at h
theorem roB_of {E : AE} {i : Nat} (h : inMv E.ln (some (1000000 + i)) = true) : roB E = true := by
 grind [roB, inMv, Nat.ble_eq]
theorem loadV_false {I : TI} {q : PV} {σ σ1 : ASt} {p : PV} (h : loadV false I q σ = some (p, σ1)) : σ1 = σ ∧ ∀ τ : ASt, (∀ i off, q = .ptr i off → τ.h[i]? = σ.h[i]?) → loadV false I q τ = some (p, τ) := by
 unfold loadV at h ⊢
 cases q with
 | cst e =>
  simp_all
 | ptr i off =>
  simp only at h ⊢
  cases hc : σ.h[i]? with
  | none => rw [hc] at h; cases h
  | some o =>
   rw [hc] at h
   cases o with
   | none => cases h
   | some cs =>
    grind
 | _ => cases h
theorem stepV_local {p : PV} {σ1 : ASt} (h : stepV E o σ = some (p, σ1)) (ha : agree o σ.s σ'.s) (hh : hk E o = 0 ∨ σ'.h = σ.h ∨ (hk E o = 1 ∧ unH σ'.h = unH σ.h)) :
 ∃ σ1', stepV E o σ' = some (p, σ1') ∧ σ1.s = clrS (clrT E o) σ.s ∧ σ1'.s = clrS (clrT E o) σ'.s ∧ ((hk E o = 0 ∨ hk E o = 1) → σ1.h = σ.h ∧ σ1'.h = σ'.h) ∧ (σ'.h = σ.h → σ1'.h = σ1.h) ∧ (hk E o = 3 → unH σ1.h = unH σ.h) := by
 obtain ⟨dst, op, type, pos, after, guard⟩ := o
 cases op with
 | move x =>
  have hx : σ'.ev x = σ.ev x := ev_agree ha (by simp [Op.operands])
  simp only [stepV] at h ⊢
  split at h
  ·rename_i hm
   cases he : σ.ev x with
   | none => grind
   | some q =>
    grind [clr_clrS, clrT]
  ·rename_i hm
   cases he : σ.rd x with
   | none => grind
   | some q =>
    simp [he] at h; obtain ⟨rfl, rfl⟩ := h
    have hr : σ'.rd x = σ.rd x := rd_agree ha (by simp [Op.operands])
    have ht : clrT E ⟨dst, .move x, type, pos, after, guard⟩ = none := by simp [clrT, hm]
    rw [if_neg hm, hr, he, ht]
    exact ⟨_, rfl, rfl, rfl, fun _ => ⟨rfl, rfl⟩, fun e => e, fun _ => rfl⟩
 | assign x =>
  have hx : σ'.ev x = σ.ev x := ev_agree ha (by simp [Op.operands])
  simp only [stepV] at h ⊢
  cases he : σ.ev x with
  | none => grind
  | some q =>
   grind [clr_clrS, clrT]
 | alloc t =>
  simp only [stepV] at h ⊢
  have hkn : hk E ⟨dst, .alloc t, type, pos, after, guard⟩ ≠ 0 ∧ hk E ⟨dst, .alloc t, type, pos, after, guard⟩ ≠ 1 ∧ hk E ⟨dst, .alloc t, type, pos, after, guard⟩ ≠ 3 := by
   simp only [hk]; grind
  have hh' : σ'.h = σ.h := by rcases hh with h | h | h <;> first | exact h | omega | omega
  rw [hh']
  split at h
  ·cases h
  rename_i hro
  cases ht : ti E.P t with
  | none => grind
  | some I =>
   simp [ht] at h; obtain ⟨rfl, rfl⟩ := h
   exact ⟨⟨σ'.s, σ.h ++ [some (bldZ (inMv E.mu dst) t σ.h.length I.zero)]⟩, by rfl, rfl, rfl, fun e => e.elim (fun e => absurd e hkn.1) (fun e => absurd e hkn.2.1), fun e => rfl, fun e => absurd e hkn.2.2⟩
 | box t x =>
  simp only [stepV] at h ⊢
  have hr : σ'.rd x = σ.rd x := rd_agree ha (by simp [Op.operands])
  split at h
  ·rename_i hm
   rw [if_pos hm]
   cases hb : (σ.rd x).bind frzPV with
   | none => grind
   | some e =>
    simp [hb] at h; obtain ⟨rfl, rfl⟩ := h
    exact ⟨σ', by grind, rfl, rfl, fun _ => ⟨rfl, rfl⟩, fun e => e, fun _ => rfl⟩
  ·rename_i hm
   rw [if_neg hm]
   have hh' : σ'.h = σ.h := by rcases hh with h | h | h <;> first | exact h | (simp [hk, hm] at h)
   cases hb : (σ.rd x).bind PV.newCells with
   | none => grind
   | some cs =>
    simp [hb] at h; obtain ⟨rfl, rfl⟩ := h
    exact ⟨⟨σ'.s, σ'.h ++ [some cs]⟩, by simp_all, rfl, rfl, fun e => by simp [hk, hm] at e, fun e => by simp [e], fun e => by simp [hk, hm] at e⟩
 | load t x =>
  simp only [stepV] at h ⊢
  have hr : σ'.rd x = σ.rd x := rd_agree ha (by simp [Op.operands])
  rw [hr]
  cases hI : ti E.P t with
  | none => grind
  | some I =>
   cases hq : σ.rd x with
   | none => simp_all
   | some q =>
    simp only [hI, hq] at h ⊢
    cases hln : inMv E.ln dst with
    | true =>
     rw [hln] at h
     simp only at h ⊢
     split at h
     ·rename_i hok
      have hp := loadV_false h
      refine ⟨σ', ?_, by rw [hp.1]; rfl, rfl, fun _ => ⟨by rw [hp.1], rfl⟩, fun e => by rw [hp.1]; exact e, fun e => by simp_all⟩
      refine hp.2 σ' ?_
      cases q with
      | ptr i off =>
       have hm : inMv E.ln (some (1000000 + i)) = true := hok
       have hro : roB E = true := roB_of hm
       have hne : hk E ⟨dst, .load t x, type, pos, after, guard⟩ = 5 := by simp only [hk, hln, if_true, hro]
       simp_all
      | _ => intro j o' e; cases e
     ·cases h
    | false =>
    rw [hln] at h
    simp only at h ⊢
    cases hm : inMv E.mv dst with
    | false =>
     rw [hm] at h
     have hun : unH σ'.h = unH σ.h := by
      rcases hh with h | h | h
      ·simp [hk, hln, hm] at h
      ·rw [h]
      ·exact h.2
     obtain ⟨rfl, h2⟩ := loadV_un h hun
     exact ⟨σ', h2, rfl, rfl, fun _ => ⟨rfl, rfl⟩, fun e => e, fun e => by rfl⟩
    | true =>
     rw [hm] at h
     have hh' : σ'.h = σ.h := by rcases hh with h | h | h <;> first | exact h | (simp [hk, hln, hm] at h)
     obtain ⟨k1, k2, k3⟩ := loadV_mv h
     exact ⟨⟨σ'.s, σ1.h⟩, k2 σ' hh', k1, rfl, fun e => by simp [hk, hln, hm] at e, fun _ => rfl, fun _ => k3⟩
 | store t x y =>
  simp only [stepV] at h ⊢
  have hk26 : hk E ⟨dst, .store t x y, type, pos, after, guard⟩ = 2 ∨ hk E ⟨dst, .store t x y, type, pos, after, guard⟩ = 6 := by
   simp only [hk]
   simp
  have hh' : σ'.h = σ.h := by rcases hh with h | h | h <;> first | exact h | omega | (exfalso; have := h.1; omega)
  have hr : σ'.rd x = σ.rd x := rd_agree ha (by simp [Op.operands])
  have hy : σ'.ev y = σ.ev y := ev_agree ha (by simp [Op.operands])
  have c1 := clr_clrS σ y
  have c2 := clr_clrS σ' y
  have ht : clrT E ⟨dst, .store t x y, type, pos, after, guard⟩ = tmpOf y := rfl
  rw [hr, hy]
  cases hso : stOK E.mu E.ln (opT x) (σ.rd x) with
  | false => rw [hso] at h; cases h
  | true =>
  rw [hso] at h
  simp only at h ⊢
  cases hI : ti E.P t with
  | none => grind
  | some I =>
   cases hq : σ.rd x with
   | none => simp_all
   | some q =>
    cases hp : σ.ev y with
    | none => simp_all
    | some p' =>
     cases dst with
     | some d => simp_all
     | none =>
      simp only [hI, hq, hp] at h ⊢
      have key : ∀ τ : ASt, τ.h = σ.h → ∀ τ1, storeV I q p' τ = some τ1 → τ1.s = τ.s ∧ ∀ τ' : ASt, τ'.h = σ.h → storeV I q p' τ' = some ⟨τ'.s, τ1.h⟩ := by
       intro τ hτ τ1 h1
       unfold storeV at h1 ⊢
       cases q with
       | ptr i off =>
        simp only [hτ] at h1
        split at h1
        grind
        ·cases h1
       | _ => simp at h1
      cases hst : storeV I q p' (σ.clr y) with
      | none => simp_all
      | some τ1 =>
       simp [hst] at h; obtain ⟨rfl, rfl⟩ := h
       obtain ⟨k1, k2⟩ := key (σ.clr y) c1.2 τ1 hst
       have k3 := k2 (σ'.clr y) (by rw [c2.2, hh'])
       refine ⟨⟨(σ'.clr y).s, τ1.h⟩, by rw [k3]; rfl, by rw [k1, ht]; exact c1.1, by rw [ht]; exact c2.1, fun e => by omega, fun _ => rfl, fun e => by omega⟩
 | buildSlice t len ps =>
  have hp : ∀ zs, partsPV (σ'.rdT zs) ps.toList = partsPV (σ.rdT zs) ps.toList := fun zs => parts_agree fun x hx => by grind [ASt.rdT, rd_agree, Op.operands]
  simp only [stepV, hp] at h ⊢
  cases hT : elemTI E.P t with
  | none => grind
  | some I =>
   cases hq : partsPV (σ.rdT (elT E.P t)) ps.toList with
   | none => simp_all
   | some qs =>
    simp only [hT, hq] at h ⊢
    cases he : elemsPV I.size 0 qs with
    | none => grind
    | some es =>
     simp only [he] at h ⊢
     split at h
     ·rename_i hc
      rw [if_pos hc]
      split at h
      ·rename_i hm
       have hh' : σ'.h = σ.h := by rcases hh with h | h | h <;> first | exact h | (simp [hk, hm] at h)
       cases h
       rw [if_pos hm]
       exact ⟨⟨σ'.s, σ'.h ++ [some (flatPV es)]⟩, by simp [hh'], rfl, rfl, fun e => by simp [hk, hm] at e, fun e => by simp [e], fun e => by simp [hk, hm] at e⟩
      ·rename_i hm
       rw [if_neg hm]
       split at h
       ·split at h
        ·cases h
         exact ⟨σ', by simp_all, rfl, rfl, fun _ => ⟨rfl, rfl⟩, fun e => e, fun _ => rfl⟩
        ·cases h
       ·cases h
        exact ⟨σ', by simp_all, rfl, rfl, fun _ => ⟨rfl, rfl⟩, fun e => e, fun _ => rfl⟩
     ·cases h
 | makeSlice t l c =>
  have hl : σ'.rd l = σ.rd l := rd_agree ha (by simp [Op.operands])
  have hc : σ'.rd c = σ.rd c := rd_agree ha (by simp [Op.operands])
  simp only [stepV] at h ⊢
  rw [hl, hc]
  split at h
  ·split at h
   ·split at h
    ·rename_i hcond
     rw [if_pos hcond]
     cases h
     exact ⟨σ', rfl, rfl, rfl, fun _ => ⟨rfl, rfl⟩, fun e => e, fun _ => rfl⟩
    ·cases h
   ·split at h
    ·rename_i hcond
     rw [if_pos hcond]
     split at h
     ·rename_i hm
      cases h
      have hh' : σ'.h = σ.h := by rcases hh with h | h | h <;> first | exact h | (simp [hk, hm] at h)
      rw [if_pos hm]
      exact ⟨⟨σ'.s, σ'.h ++ [some (zeroCs _ _)]⟩, by rw [hh'], rfl, rfl, fun e => by simp [hk, hm] at e, fun e => by rw [e], fun e => by simp [hk, hm] at e⟩
     ·rename_i hm
      rw [if_neg hm]
      split at h
      ·rename_i hz
       cases h
       rw [if_pos hz]
       exact ⟨σ', rfl, rfl, rfl, fun _ => ⟨rfl, rfl⟩, fun e => e, fun _ => rfl⟩
      ·cases h
    ·cases h
  ·cases h
 | call c =>
  obtain ⟨callee, args, ts⟩ := c
  have hargs : ∀ x, x ∈ args.toList → x ∈ (Op.call ⟨callee, args, ts⟩).operands := fun x hx => by grind [Op.operands, Call.operands]
  simp only [stepV] at h ⊢
  split at h
  ·have hh' : σ'.h = σ.h := by rcases hh with h | h | h <;> first | exact h | (simp [hk] at h)
   split at h
   ·rename_i x y t u h1 h2
    have hx : σ'.rd x = σ.rd x := rd_agree ha (hargs x (by rw [h1]; simp))
    have hy : σ'.rd y = σ.rd y := rd_agree ha (hargs y (by rw [h1]; simp))
    have hcs : ∀ sz q, copySrc σ' sz q = copySrc σ sz q := fun sz q => by unfold copySrc; simp_all
    rw [hx, hy]
    simp only [hcs, hh']
    split at h
    ·rename_i I i off m sz q _ _ _
     split at h
     ·rename_i cs m2 cells _ _
      split at h
      ·rename_i hc
       cases h
       exact ⟨⟨σ'.s, σ.h.set i (some (cs.take off ++ cells.take (Nat.min m2 m * sz) ++ cs.drop (off + Nat.min m2 m * sz)))⟩, by rw [if_pos hc, ← hh'], rfl, rfl, fun e => by simp [hk] at e, fun e => rfl, fun e => by simp [hk] at e⟩
      ·cases h
     ·cases h
    ·cases h
   ·cases h
  ·have hh' : σ'.h = σ.h := by rcases hh with h | h | h <;> first | exact h | (simp [hk] at h)
   split at h
   ·rename_i x t h1 h2
    have hx : σ'.rd x = σ.rd x := rd_agree ha (hargs x (by rw [h1]; simp))
    split at h
    ·rename_i I j off m sz hT hx1
     split at h
     ·rename_i cs hcs
      split at h
      ·rename_i hc
       cases h
       exact ⟨⟨σ'.s, σ'.h.set j (some (cs.take off ++ (zeroCs m I).map PV.un ++ cs.drop (off + m * sz)))⟩, by rw [hx, hx1, hh', hT]; simp_all, rfl, rfl, fun e => by simp [hk] at e, fun e => by rw [e], fun e => by simp [hk] at e⟩
      ·cases h
     ·cases h
    ·rename_i I o' z' hT hx1
     cases h
     exact ⟨σ', by rw [hx, hx1, hT], rfl, rfl, fun e => by grind, fun e => e, fun e => by rfl⟩
    ·cases h
   ·cases h
  ·split at h
   ·rename_i s x t u h1 h2
    have hs : σ'.ev s = σ.ev s := ev_agree ha (hargs s (by rw [h1]; simp))
    have hx : σ'.rd x = σ.rd x := rd_agree ha (hargs x (by rw [h1]; simp))
    rw [hs, hx]
    split at h
    grind [clr_clrS, clrT]
    grind [clr_clrS, clrT]
    grind [clr_clrS, clrT]
    grind [clr_clrS, clrT]
    grind [clr_clrS, clrT]
    ·cases h
   ·cases h
  ·rename_i hne
   have hpc : popCall E.P σ'.rd ⟨callee, args, ts⟩ = popCall E.P σ.rd ⟨callee, args, ts⟩ := by
    have := pop_agree (P := E.P) (rd := σ.rd) (rd' := σ'.rd) (op := .call ⟨callee, args, ts⟩) fun x hx => rd_agree ha hx
    grind [pop]
   rw [hpc]
   cases hp : popCall E.P σ.rd ⟨callee, args, ts⟩ with
   | none => grind
   | some q =>
    simp [hp] at h; obtain ⟨rfl, rfl⟩ := h
    have ht : clrT E ⟨dst, .call ⟨callee, args, ts⟩, type, pos, after, guard⟩ = none := by
     simp only [clrT]
    rw [ht]
    exact ⟨σ', rfl, rfl, rfl, fun _ => ⟨rfl, rfl⟩, fun e => e, fun _ => rfl⟩
 | makeMap t r =>
  simp only [stepV] at h ⊢
  have hkn : hk E ⟨dst, .makeMap t r, type, pos, after, guard⟩ ≠ 0 ∧ hk E ⟨dst, .makeMap t r, type, pos, after, guard⟩ ≠ 1 ∧ hk E ⟨dst, .makeMap t r, type, pos, after, guard⟩ ≠ 3 := by
   simp only [hk]; grind
  have hh' : σ'.h = σ.h := by rcases hh with h | h | h <;> first | exact h | omega | omega
  rw [hh']
  split at h
  ·cases h
  rename_i hro
  split at h
  ·rename_i ht
   cases h
   exact ⟨⟨σ'.s, σ.h ++ [some [mapC (inMv E.mu dst) []]]⟩, by rfl, rfl, rfl, fun e => e.elim (fun e => absurd e hkn.1) (fun e => absurd e hkn.2.1), fun e => rfl, fun e => absurd e hkn.2.2⟩
  ·cases h
 | lookup t m k ok =>
  have hh' : σ'.h = σ.h := by rcases hh with h | h | h <;> first | exact h | (simp [hk] at h)
  have hm : σ'.rd m = σ.rd m := rd_agree ha (by simp [Op.operands])
  have hkk : σ'.rd k = σ.rd k := rd_agree ha (by simp [Op.operands])
  simp only [stepV] at h ⊢
  rw [hh', hm, hkk]
  split at h
  ·rename_i s z i q ht h1 h2
   split at h
   ·rename_i cs hcs
    split at h
    ·rename_i b L hin
     split at h
     ·rename_i r hik hg
      cases h
      exact ⟨σ', by rfl, rfl, rfl, fun e => by grind, fun _ => hh', fun e => by rfl⟩
     ·cases h
    ·cases h
   ·cases h
  ·cases h
 | mapUpdate t m k x =>
  have hh' : σ'.h = σ.h := by rcases hh with h | h | h <;> first | exact h | (simp [hk] at h)
  have hm : σ'.rd m = σ.rd m := rd_agree ha (by simp [Op.operands])
  have hkk : σ'.rd k = σ.rd k := rd_agree ha (by simp [Op.operands])
  have hx : σ'.rd x = σ.rd x := rd_agree ha (by simp [Op.operands])
  simp only [stepV] at h ⊢
  rw [hh', hm, hkk, hx]
  split at h
  ·rename_i s z i q y ht h1 h2 h3
   split at h
   ·rename_i cs hcs
    split at h
    ·rename_i b L hin
     split at h
     ·rename_i hik
      cases h
      exact ⟨⟨σ'.s, σ.h.set i (some [mapC b (mapPut s L q y)])⟩, by rfl, rfl, rfl, fun e => by simp [hk] at e, fun _ => rfl, fun e => by simp [hk] at e⟩
     ·cases h
    ·cases h
   ·cases h
  ·cases h
 | insert t m k x =>
  have hkn : hk E ⟨dst, .insert t m k x, type, pos, after, guard⟩ ≠ 0 ∧ hk E ⟨dst, .insert t m k x, type, pos, after, guard⟩ ≠ 1 ∧ hk E ⟨dst, .insert t m k x, type, pos, after, guard⟩ ≠ 3 := by
   simp only [hk]; split <;> simp
  have hh' : σ'.h = σ.h := by rcases hh with h | h | h <;> first | exact h | omega | omega
  have hm : σ'.rd m = σ.rd m := rd_agree ha (by simp [Op.operands])
  have hkk : σ'.rd k = σ.rd k := rd_agree ha (by simp [Op.operands])
  have hx : σ'.rd x = σ.rd x := rd_agree ha (by simp [Op.operands])
  simp only [stepV] at h ⊢
  rw [hh', hm, hkk, hx]
  split at h
  ·cases h
  rename_i hso
  split at h
  ·rename_i s z i q y ht h1 h2 h3
   split at h
   ·rename_i cs hcs
    split at h
    ·rename_i b L hin
     split at h
     ·rename_i hik
      cases h
      exact ⟨⟨σ'.s, σ.h.set i (some [mapC b (mapPut s L q y)])⟩, by rfl, rfl, rfl, fun e => e.elim (fun e => absurd e hkn.1) (fun e => absurd e hkn.2.1), fun _ => rfl, fun e => absurd e hkn.2.2⟩
     ·cases h
    ·cases h
   ·cases h
  ·cases h
 | range t x =>
  have hh' : σ'.h = σ.h := by rcases hh with h | h | h <;> first | exact h | (simp [hk] at h)
  have hx : σ'.rd x = σ.rd x := rd_agree ha (by simp [Op.operands])
  simp only [stepV] at h ⊢
  rw [hh', hx]
  split at h
  ·rename_i s ht hs
   cases h
   exact ⟨⟨σ'.s, σ.h ++ [some [iterC s 0]]⟩, by rfl, rfl, rfl, fun e => by simp [hk] at e, fun _ => rfl, fun e => by simp [hk] at e⟩
  ·cases h
 | next x b =>
  have hh' : σ'.h = σ.h := by rcases hh with h | h | h <;> first | exact h | (simp [hk] at h)
  have hx : σ'.rd x = σ.rd x := rd_agree ha (by simp [Op.operands])
  simp only [stepV] at h ⊢
  rw [hh', hx]
  split at h
  ·rename_i T i hx2
   split at h
   ·rename_i cs hcs
    split at h
    ·rename_i s p hin
     split at h
     ·rename_i hT
      split at h
      ·rename_i hp
       cases h
       exact ⟨⟨σ'.s, σ.h.set i (some [iterC s (iterNx s p)])⟩, by rfl, rfl, rfl, fun e => by simp [hk] at e, fun _ => rfl, fun e => by simp [hk] at e⟩
      ·rename_i hp
       cases h
       exact ⟨σ', by rfl, rfl, rfl, fun e => by grind, fun _ => hh', fun e => by rfl⟩
     ·cases h
    ·cases h
   ·cases h
  ·cases h
 | _ =>
  simp only [stepV] at h ⊢
  rw [pop_agree (P := E.P) (rd := σ.rd) (rd' := σ'.rd) fun x hx => rd_agree ha hx]
  generalize pop E.P σ.rd _ = r at h ⊢
  cases r with
  | none => simp at h
  | some q =>
   simp at h; obtain ⟨rfl, rfl⟩ := h
   exact ⟨σ', rfl, rfl, rfl, fun _ => ⟨rfl, rfl⟩, fun e => e, fun _ => rfl⟩
end
end Go.Proofs.YtkkgfoknknehfaaDoor
namespace Go.Proofs.YtkkgfoknknehfaaDoor
set_option linter.unusedVariables false
set_option linter.unusedSimpArgs false
set_option linter.unnecessarySimpa false
set_option linter.unusedSectionVars false
open Go.RowKit
theorem srt_ext : ∀ {s s' : Slots}, Srt s → Srt s' → (∀ k, sget k s = sget k s') → s = s'
 | [], [], _, _, _ => rfl
 | [], (j, q) :: l, _, _, h => by have := h j; simp [sget] at this
 | (j, q) :: l, [], _, _, h => by have := h j; simp [sget] at this
 | (j, q) :: l, (j', q') :: l', h1, h2, h => by
  obtain ⟨a1, a2⟩ := srt_cons.1 h1
  obtain ⟨b1, b2⟩ := srt_cons.1 h2
  have hj : j = j' := by
   rcases Nat.lt_trichotomy j j' with hlt | he | hgt
   ·have := h j
    rw [sget, if_pos rfl, sget, if_neg (by omega), sget_none (fun a ha => by have := b1 a ha; omega)] at this
    cases this
   ·exact he
   ·have := h j'
    rw [sget, if_neg (by omega), sget_none (fun a ha => by have := a1 a ha; omega), sget, if_pos rfl] at this
    cases this
  subst hj
  have hq : q = q' := by have := h j; simpa [sget] using this
  subst hq
  congr 1
  refine srt_ext a2 b2 fun k => ?_
  by_cases e : j = k
  ·subst e
   rw [sget_none (fun a ha => by have := a1 a ha; simpa using this), sget_none (fun a ha => by have := b1 a ha; simpa using this)]
  ·have := h k
   rwa [sget, if_neg e, sget, if_neg e] at this
def putS (d : Option Nat) (p : PV) (s : Slots) : Slots := match d with | some k => sput k p s | none => s
theorem putS_srt {d : Option Nat} {p : PV} {s : Slots} (h : Srt s) : Srt (putS d p s) := by cases d <;> first | exact h | exact sput_srt h
theorem clrS_srt {c : Option Nat} {s : Slots} (h : Srt s) : Srt (clrS c s) := by
 unfold clrS; grind [sput_srt]
theorem sget_putS {d : Option Nat} {p : PV} {s : Slots} (h : Srt s) (k : Nat) : sget k (putS d p s) = if d = some k then some p else sget k s := by
 cases d with
 | none => simp [putS]
 | some j => grind [putS, sget_sput]
theorem sget_clrS {c : Option Nat} {s : Slots} (h : Srt s) (k : Nat) : sget k (clrS c s) = if c = some k then (sget k s).map PV.un else sget k s := by
 cases c with
 | none => simp [clrS]
 | some j =>
  grind [clrS, sget_sput]
theorem eff_comm {d1 d2 c1 c2 : Option Nat} {p1 p2 : PV} {s : Slots} (h : Srt s) (e1 : ∀ k, d1 = some k → d2 ≠ some k ∧ c2 ≠ some k) (e2 : ∀ k, c1 = some k → d2 ≠ some k ∧ c2 ≠ some k) :
 putS d1 p1 (clrS c1 (putS d2 p2 (clrS c2 s))) = putS d2 p2 (clrS c2 (putS d1 p1 (clrS c1 s))) := by
 have s1 := clrS_srt (c := c1) h
 have s2 := clrS_srt (c := c2) h
 refine srt_ext (putS_srt (clrS_srt (putS_srt s2))) (putS_srt (clrS_srt (putS_srt s1))) fun k => ?_
 rw [sget_putS (clrS_srt (putS_srt s2)), sget_clrS (putS_srt s2), sget_putS s2, sget_clrS h, sget_putS (clrS_srt (putS_srt s1)), sget_clrS (putS_srt s1), sget_putS s1, sget_clrS h]
 grind
def gOK (ops : Array Oper) (σ : ASt) (o : Oper) : Option Bool :=
 match o.guard with
 | none => some true
 | some (j, want) => (gval ops σ j).map fun x => x == some want
theorem hk5 {E : AE} {o : Oper} (h : hk E o = 5) : ∃ t x, o.op = .load t x ∧ inMv E.ln o.dst = true := by
 unfold hk at h
 grind
theorem stepV_ln {E : AE} {o : Oper} {σ σ' σ1 : ASt} {p : PV} (h : stepV E o σ = some (p, σ1)) (h5 : hk E o = 5) (ha : agree o σ.s σ'.s) (hr : roEq E σ'.h σ.h) : σ1 = σ ∧ stepV E o σ' = some (p, σ') ∧ clrT E o = none := by
 obtain ⟨t, x, hop, hl⟩ := hk5 h5
 obtain ⟨dst, op, type, pos, after, guard⟩ := o
 subst hop
 simp only [stepV] at h ⊢
 have hrd : σ'.rd x = σ.rd x := rd_agree ha (by simp [Op.operands])
 rw [hrd]
 cases hI : ti E.P t with
 | none => grind
 | some I =>
  cases hq : σ.rd x with
  | none => simp_all
  | some q =>
   simp only [hI, hq, hl] at h ⊢
   split at h
   ·rename_i hok
    have hp := loadV_false h
    refine ⟨hp.1, ?_, rfl⟩
    refine hp.2 σ' fun i off e => ?_
    subst e
    exact hr i hok
   ·cases h
def stepD (E : AE) (o : Oper) (σ σ' : ASt) : Prop := ∃ p σ1, stepV E o σ = some (p, σ1) ∧ sideV E o σ ∧ ASt.put E o.dst p σ1 = some σ'
def callD (E : AE) (o : Oper) (f : Operand) (args : List Operand) (σ σ' : ASt) : Prop :=
 ∃ g first caps as r, σ.rd f = some (.func (.func g) first caps) ∧ allSome (args.map σ.rd) = some as ∧
  ((Ev E.P g (first ++ as ++ caps) [] r [] ∧ r.flat = true ∧ PV.flats (first ++ as ++ caps) = true ∧ ASt.put E o.dst r σ = some σ') ∨
   (inMv E.sy o.dst = true ∧ ∃ h', Ev E.P g (first ++ as ++ caps) σ.h r h' ∧ roEq E h' σ.h ∧ ASt.put E o.dst r { σ with h := h' } = some σ'))
abbrev isCall (o : Oper) : Option (Operand × List Operand) :=
 match o.op with
 | .call c => match c.callee with
  | .value f => some (f, c.args.toList)
  | _ => none
 | _ => none
theorem hk6 {E : AE} {o : Oper} (h : hk E o = 6) : isCall o ≠ none ∨ (∃ t a x, o.op = .store t a x ∧ inMv E.mu (opT a) = true) ∨ (∃ t, o.op = .alloc t ∧ inMv E.ln o.dst = true) ∨ (∃ t r, o.op = .makeMap t r ∧ inMv E.ln o.dst = true) ∨ ∃ t m k x, o.op = .insert t m k x ∧ inMv E.mu ((opT m).map (6000000 + ·)) = true := by
 obtain ⟨dst, op, type, pos, after, guard⟩ := o
 cases op with
 | call c =>
  obtain ⟨callee, cargs, ts⟩ := c
  cases callee with
  | value f => grind
  | builtin b =>
   cases b <;> simp [hk] at h
  | _ => simp [hk] at h
 | store t a x =>
  simp only [hk] at h
  grind
 | alloc t =>
  simp only [hk] at h
  grind
 | makeMap t r =>
  simp only [hk] at h
  grind
 | insert t m k x =>
  simp only [hk] at h
  grind
 | load t x =>
  simp only [hk] at h
  grind
 | _ => simp only [hk] at h <;> first | omega | (split at h <;> omega)
theorem stepV_six {E : AE} {o : Oper} {σ σ1 : ASt} {p : PV} (h : stepV E o σ = some (p, σ1)) (h6 : hk E o = 6) (hc : isCall o = none) : roEq E σ1.h σ.h := by
 have far : ∀ {n : Nat}, roLen E.ln n = true → ∀ i, inMv E.ln (some (1000000 + i)) = true → i < n := fun {n} hro i hi => by
  have hmi : 1000000 + i ∈ E.ln := by simpa [inMv] using hi
  have := List.all_eq_true.1 hro _ hmi
  rw [show Nat.ble 1000000 (1000000 + i) = true by rw [Nat.ble_eq]; omega] at this
  simp_all
 rcases hk6 h6 with h' | ⟨t, a, x, hop, hm⟩ | ⟨t, hop, hm⟩ | ⟨t, r, hop, hm⟩ | ⟨t, m, k, x, hop, hm⟩
 simp_all
 case inr.inr.inr.inl =>
  obtain ⟨dst, op, type, pos, after, guard⟩ := o
  subst hop
  simp only [stepV, hm] at h
  split at h
  ·cases h
  ·split at h
   ·intro i hi
    grind
   ·cases h
 case inr.inr.inr.inr =>
  obtain ⟨dst, op, type, pos, after, guard⟩ := o
  subst hop
  simp only [stepV] at h
  split at h
  ·cases h
  rename_i hso
  unfold stOKm at hso
  split at h
  ·rename_i s z i q y ht h1 h2 h3
   split at h
   ·split at h
    ·split at h
     ·cases h
      intro j hj
      have hne : i ≠ j := fun e => by simp_all
      simp_all
     ·cases h
    ·cases h
   ·cases h
  ·cases h
 case inr.inr.inl =>
  obtain ⟨dst, op, type, pos, after, guard⟩ := o
  subst hop
  simp only [stepV, hm] at h
  split at h
  ·cases h
  ·cases ht : ti E.P t with
   | none => grind
   | some I =>
    intro i hi
    grind [inMv]
 obtain ⟨dst, op, type, pos, after, guard⟩ := o
 subst hop
 simp only [stepV] at h
 split at h
 ·cases h
 rename_i hso
 cases hI : ti E.P t with
 | none => grind
 | some I =>
  cases hq : σ.rd a with
  | none => simp_all
  | some q =>
   cases hp : σ.ev x with
   | none => simp_all
   | some p' =>
    cases dst with
    | some d => simp_all
    | none =>
     simp only [hI, hq, hp] at h
     cases hst : storeV I q p' (σ.clr x) with
     | none => simp_all
     | some τ =>
      simp [hst] at h
      obtain ⟨_, rfl⟩ := h
      have hcl := (clr_clrS σ x).2
      unfold stOK at hso
      rw [hm, hq] at hso
      cases q with
      | ptr i off =>
       have key : ∃ cs, τ.h = (σ.clr x).h.set i cs := by
        grind [storeV]
       obtain ⟨cs, hk⟩ := key
       intro j hj
       have hne : i ≠ j := fun e => by simp_all
       rw [hk, List.getElem?_set_ne hne, hcl]
      | _ => simp at hso
def runD (E : AE) (o : Oper) (σ σ' : ASt) : Prop :=
 match isCall o with
 | some (f, args) => callD E o f args σ σ'
 | none => stepD E o σ σ'
def AStepD (E : AE) (ops : Array Oper) (o : Oper) (σ σ' : ASt) : Prop :=
 (gOK ops σ o = some true ∧ runD E o σ σ') ∨ (gOK ops σ o = some false ∧ ASt.put E o.dst (.tuple []) σ = some σ')
section
variable {E : AE} {ops : Array Oper} {o : Oper} {σ σ' τ : ASt}
theorem put_form {d : Option Nat} {p : PV} (h : ASt.put E d p σ = some σ') : σ'.s = putS d p σ.s ∧ σ'.h = σ.h ∧ ∀ k, d = some k → k < E.n := by
 cases d with
 | none => simp [ASt.put] at h; subst h; exact ⟨rfl, rfl, by simp⟩
 | some k =>
  simp only [ASt.put] at h
  split at h
  ·cases h; exact ⟨rfl, rfl, fun j e => by simp_all⟩
  ·cases h
theorem put_of {d : Option Nat} {p : PV} (h : ∀ k, d = some k → k < E.n) : ASt.put E d p σ = some ⟨putS d p σ.s, σ.h⟩ := by
 cases d with
 | none => rfl
 | some k => simp only [ASt.put, if_pos (h k rfl)]; rfl
theorem looks_ops {t : Nat} (h : Operand.tmp t ∈ o.op.operands) : t ∈ o.looksAt ops := List.mem_append_left _ (List.mem_filterMap.2 ⟨.tmp t, by grind, rfl⟩)
theorem gOK_agree (h : ∀ t, t ∈ o.looksAt ops → sget t τ.s = sget t σ.s) : gOK ops τ o = gOK ops σ o := by
 unfold gOK
 cases hg : o.guard with
 | none => rfl
 | some jw =>
  obtain ⟨j, want⟩ := jw
  have : gval ops τ j = gval ops σ j := by
   unfold gval
   cases hd : (ops[j]?).bind (·.dst) with
   | none => rfl
   | some d => simp only [h d (List.mem_append_right _ (by grind))]
  simp_all
theorem side_agree (h : agree o σ.s τ.s) (hs : sideV E o σ) : sideV E o τ := by
 obtain ⟨dst, op, type, pos, after, guard⟩ := o
 cases op with
 | call c =>
  obtain ⟨callee, args, ts⟩ := c
  have hargs : ∀ x, x ∈ args.toList → x ∈ (Op.call ⟨callee, args, ts⟩).operands := fun x hx => by grind [Op.operands, Call.operands]
  grind [sideV, ev_agree, rd_agree]
 | _ => trivial
theorem astep_form (h : AStepD E ops o σ σ') : ∃ c p, (c = none ∨ c = clrT E o) ∧ σ'.s = putS o.dst p (clrS c σ.s) ∧ ((hk E o = 0 ∨ hk E o = 1 ∨ hk E o = 5) → σ'.h = σ.h) ∧ (hk E o = 3 → unH σ'.h = unH σ.h) ∧ (hk E o = 6 → roEq E σ'.h σ.h) ∧
 ∀ τ : ASt, (∀ t, t ∈ o.looksAt ops → sget t τ.s = sget t σ.s) → (hk E o = 0 ∨ τ.h = σ.h ∨ (hk E o = 1 ∧ unH τ.h = unH σ.h) ∨ (hk E o = 5 ∧ roEq E τ.h σ.h)) → ∃ τ', AStepD E ops o τ τ' ∧ τ'.s = putS o.dst p (clrS c τ.s) ∧ ((hk E o = 0 ∨ hk E o = 1 ∨ hk E o = 5) → τ'.h = τ.h) ∧ (τ.h = σ.h → τ'.h = σ'.h) := by
 rcases h with ⟨hg, hr⟩ | ⟨hg, hp⟩
 ·unfold runD at hr
  cases hc : isCall o with
  | some fa =>
   obtain ⟨f, args⟩ := fa
   rw [hc] at hr
   obtain ⟨g, first, caps, as, r, h1, h2, h3⟩ := hr
   have hop : f ∈ o.op.operands ∧ ∀ x, x ∈ args → x ∈ o.op.operands := by
    grind [Op.operands, Call.operands]
   rcases h3 with ⟨h3, h4, h5, h6⟩ | ⟨hsy, h', h3, hro, h6⟩
   ·obtain ⟨p1, p2, p3⟩ := put_form h6
    refine ⟨none, r, .inl rfl, p1, fun _ => p2, fun _ => by rw [p2], fun _ i _ => by rw [p2], fun τ ht _ => ⟨⟨putS o.dst r τ.s, τ.h⟩, .inl ⟨by rw [gOK_agree ht]; exact hg, ?_⟩, rfl, fun _ => rfl, fun e => by rw [p2]; exact e⟩⟩
    unfold runD
    rw [hc]
    have hag : agree o σ.s τ.s := fun t h => ht t (looks_ops h)
    exact ⟨g, first, caps, as, r, by rw [rd_agree hag hop.1]; exact h1, by rw [allSome_agree fun x hx => rd_agree hag (hop.2 x hx)]; exact h2, .inl ⟨h3, h4, h5, put_of p3⟩⟩
   ·obtain ⟨p1, p2, p3⟩ := put_form h6
    have hk2 : hk E o = 2 ∨ hk E o = 6 := by
     obtain ⟨dst, op, type, pos, after, guard⟩ := o
     cases op <;> simp [isCall] at hc
     rename_i c
     obtain ⟨callee, cargs, ts⟩ := c
     cases callee <;> simp at hc
     simp only [hk, hsy]
     simp
    refine ⟨none, r, .inl rfl, p1, fun e => by omega, fun e => by omega, fun _ => by rw [p2]; exact hro, fun τ ht hh => ?_⟩
    have hh' : τ.h = σ.h := by
     grind
    refine ⟨⟨putS o.dst r τ.s, h'⟩, .inl ⟨by rw [gOK_agree ht]; exact hg, ?_⟩, rfl, fun e => by omega, fun _ => by rw [p2]⟩
    unfold runD
    rw [hc]
    have hag : agree o σ.s τ.s := fun t h => ht t (looks_ops h)
    exact ⟨g, first, caps, as, r, by rw [rd_agree hag hop.1]; exact h1, by rw [allSome_agree fun x hx => rd_agree hag (hop.2 x hx)]; exact h2, .inr ⟨hsy, h', by rw [hh']; exact h3, by rw [hh']; exact hro, put_of p3⟩⟩
  | none =>
   rw [hc] at hr
   obtain ⟨p, σ1, h1, h2, h3⟩ := hr
   obtain ⟨p1, p2, p3⟩ := put_form h3
   have hself := stepV_local h1 (fun _ _ => rfl) (.inr (.inl rfl))
   obtain ⟨_, _, s1, _, s3, _, s5⟩ := hself
   have e5 : hk E o = 5 → σ1.h = σ.h := fun e => by rw [(stepV_ln h1 e (fun _ _ => rfl) (fun _ _ => rfl)).1]
   refine ⟨clrT E o, p, .inr rfl, by rw [p1, s1], fun e => by
    grind, fun e => by rw [p2]; exact s5 e, fun e => by rw [p2]; exact stepV_six h1 e hc, fun τ ht hh => ?_⟩
   have hag : agree o σ.s τ.s := fun t h => ht t (looks_ops h)
   by_cases h5 : hk E o = 5
   ·have hro : roEq E τ.h σ.h := by
     rcases hh with h | h | h | h
     ·omega
     ·intro i _; rw [h]
     ·omega
     ·exact h.2
    obtain ⟨l0, l1, l2⟩ := stepV_ln h1 h5 hag hro
    refine ⟨⟨putS o.dst p τ.s, τ.h⟩, .inl ⟨by rw [gOK_agree ht]; exact hg, ?_⟩, by rw [l2]; rfl, fun _ => rfl, fun e => by rw [p2, e5 h5]; exact e⟩
    unfold runD
    rw [hc]
    exact ⟨p, τ, l1, side_agree hag h2, put_of p3⟩
   have hh3 : hk E o = 0 ∨ τ.h = σ.h ∨ (hk E o = 1 ∧ unH τ.h = unH σ.h) := by
    simp_all
   obtain ⟨τ1, l1, l2, l3, l4, l5, _⟩ := stepV_local h1 hag hh3
   refine ⟨⟨putS o.dst p τ1.s, τ1.h⟩, .inl ⟨by rw [gOK_agree ht]; exact hg, ?_⟩, by grind, fun e => by
    simp_all, fun e => by rw [p2]; exact l5 e⟩
   unfold runD
   rw [hc]
   exact ⟨p, τ1, l1, side_agree hag h2, put_of p3⟩
 ·obtain ⟨p1, p2, p3⟩ := put_form hp
  exact ⟨none, .tuple [], .inl rfl, p1, fun _ => p2, fun _ => by rw [p2], fun _ i _ => by rw [p2], fun τ ht _ => ⟨⟨putS o.dst (.tuple []) τ.s, τ.h⟩, .inr ⟨by rw [gOK_agree ht]; exact hg, put_of p3⟩, rfl, fun _ => rfl, fun e => by rw [p2]; exact e⟩⟩
theorem AStepD.srt (h : AStepD E ops o σ σ') (hs : Srt σ.s) : Srt σ'.s := by
 grind [astep_form, putS_srt, clrS_srt]
def writes (E : AE) (o : Oper) : List Nat := o.dst.toList ++ (clrT E o).toList
def hkOK (a b : Nat) : Bool := a == 0 || b == 0 || (a == 1 && b == 1) || (a == 1 && b == 3) || (a == 3 && b == 1) || (a == 5 && (b == 1 || b == 5 || b == 6)) || (b == 5 && (a == 1 || a == 6))
def insK (o : Oper) : Option ByteArray := match o.op, o.dst, o.guard with
 | .insert _ _ (.const (.string k)) _, none, none => some k
 | _, _, _ => none
def insC (x y : Oper) : Bool := match insK x, insK y with
 | some a, some b => !(a.data.toList == b.data.toList)
 | _, _ => false
def commD0 (E : AE) (ops : Array Oper) (x y : Oper) : Bool :=
 (writes E x).all (fun d => !(y.looksAt ops).contains d && !(writes E y).contains d) && (writes E y).all (fun d => !(x.looksAt ops).contains d) && hkOK (hk E x) (hk E y)
def commD (E : AE) (ops : Array Oper) (x y : Oper) : Bool := commD0 E ops x y || insC x y
theorem bltL_trans : ∀ {a b c : List UInt8}, bltL a b = true → bltL b c = true → bltL a c = true
 | [], [], _, h, _ => by cases h
 | [], _ :: _, [], _, h => by cases h
 | [], _ :: _, _ :: _, _, _ => rfl
 | _ :: _, [], _, h, _ => by cases h
 | _ :: _, _ :: _, [], _, h => by cases h
 | a :: as, b :: bs, c :: cs, h1, h2 => by
  simp only [bltL, Bool.or_eq_true, Bool.and_eq_true, Nat.blt_eq, Nat.beq_eq] at h1 h2 ⊢
  rcases h1 with h1 | ⟨h1, h1'⟩ <;> rcases h2 with h2 | ⟨h2, h2'⟩
  ·omega
  ·omega
  ·omega
  ·right; exact ⟨by omega, bltL_trans h1' h2'⟩
theorem bltL_tri : ∀ {a b : List UInt8}, a ≠ b → bltL b a = !bltL a b
 | [], [], h => absurd rfl h
 | [], _ :: _, _ => rfl
 | _ :: _, [], _ => rfl
 | a :: as, b :: bs, h => by
  simp only [bltL]
  rcases Nat.lt_trichotomy a.toNat b.toNat with hl | he | hg
  ·rw [show Nat.blt a.toNat b.toNat = true by rw [Nat.blt_eq]; exact hl, show Nat.blt b.toNat a.toNat = false by rw [← Bool.not_eq_true, Nat.blt_eq]; omega, show Nat.beq b.toNat a.toNat = false by rw [← Bool.not_eq_true, Nat.beq_eq]; omega]; rfl
  ·have hab : a = b := UInt8.toNat_inj.1 he
   subst hab
   have hn : as ≠ bs := fun e => h (by rw [e])
   rw [show Nat.blt a.toNat a.toNat = false by rw [← Bool.not_eq_true, Nat.blt_eq]; omega, show Nat.beq a.toNat a.toNat = true by rw [Nat.beq_eq], bltL_tri hn]; rfl
  ·rw [show Nat.blt a.toNat b.toNat = false by rw [← Bool.not_eq_true, Nat.blt_eq]; omega, show Nat.blt b.toNat a.toNat = true by rw [Nat.blt_eq]; exact hg, show Nat.beq a.toNat b.toNat = false by rw [← Bool.not_eq_true, Nat.beq_eq]; omega]; rfl
section
variable {a b : ByteArray} {x y : PV}
def allK : List PV → Prop
 | k :: _ :: L => (∃ c, k = .str c) ∧ allK L
 | [] => True
 | [_] => False
theorem allK_of : ∀ {L : List PV}, mapOK none L (.str a) = true ↔ allK L
 | [] => ⟨fun _ => trivial, fun _ => rfl⟩
 | [_] => ⟨fun h => (by simp [mapOK] at h), fun h => h.elim⟩
 | k :: v :: L => by
  rw [mapOK, Bool.and_eq_true, allK_of]
  refine and_congr ⟨fun h => ?_, fun ⟨c, hc⟩ => by subst hc; rfl⟩ Iff.rfl
  cases k <;> first | exact ⟨_, rfl⟩ | (simp [eqK] at h)
theorem has_mod (hab : a.data.toList ≠ b.data.toList) : ∀ {L : List PV}, allK L → mapHas none (mapMod none L (.str a) x) (.str b) = mapHas none L (.str b)
 | [], _ => rfl
 | [_], h => h.elim
 | k :: v :: L, ⟨⟨c, hc⟩, h⟩ => by
  subst hc
  simp only [mapMod, eqK]
  by_cases hac : a.data.toList = c.data.toList
  ·rw [show (a.data.toList == c.data.toList) = true by rw [beq_iff_eq]; exact hac]
   simp only [mapHas, eqK]
   rw [hac]
  ·rw [show (a.data.toList == c.data.toList) = false from beq_eq_false_iff_ne.2 hac]
   simp only [mapHas]
   rw [has_mod hab h]
theorem has_ins (hab : a.data.toList ≠ b.data.toList) : ∀ {L : List PV}, allK L → mapHas none (mapIns L (.str a) x) (.str b) = mapHas none L (.str b)
 | [], _ => by
  grind [mapIns, mapHas, eqK]
 | [_], h => h.elim
 | k :: v :: L, ⟨⟨c, hc⟩, h⟩ => by
  subst hc
  simp only [mapIns]
  cases ltP (.str a) (.str c) with
  | true =>
   simp only [mapHas, eqK]
   rw [show (b.data.toList == a.data.toList) = false from beq_eq_false_iff_ne.2 (Ne.symm hab)]
  | false =>
   simp only [mapHas]
   rw [has_ins hab h]
theorem mod_mod (hab : a.data.toList ≠ b.data.toList) : ∀ {L : List PV}, allK L → mapMod none (mapMod none L (.str a) x) (.str b) y = mapMod none (mapMod none L (.str b) y) (.str a) x
 | [], _ => rfl
 | [_], h => h.elim
 | k :: v :: L, ⟨⟨c, hc⟩, h⟩ => by
  subst hc
  by_cases hac : a.data.toList = c.data.toList
  ·have hbc : (b.data.toList == c.data.toList) = false := beq_eq_false_iff_ne.2 fun e => hab (hac.trans e.symm)
   have hba : (b.data.toList == a.data.toList) = false := beq_eq_false_iff_ne.2 (Ne.symm hab)
   simp only [mapMod, eqK, show (a.data.toList == c.data.toList) = true by rw [beq_iff_eq]; exact hac, hbc, hba]
  ·have hac' : (a.data.toList == c.data.toList) = false := beq_eq_false_iff_ne.2 hac
   by_cases hbc : b.data.toList = c.data.toList
   ·have hab' : (a.data.toList == b.data.toList) = false := beq_eq_false_iff_ne.2 hab
    simp only [mapMod, eqK, hac', show (b.data.toList == c.data.toList) = true by rw [beq_iff_eq]; exact hbc, hab']
   ·have hbc' : (b.data.toList == c.data.toList) = false := beq_eq_false_iff_ne.2 hbc
    simp only [mapMod, eqK, hac', hbc', mod_mod hab h]
theorem mod_ins (hab : a.data.toList ≠ b.data.toList) : ∀ {L : List PV}, allK L → mapHas none L (.str a) = true → mapIns (mapMod none L (.str a) x) (.str b) y = mapMod none (mapIns L (.str b) y) (.str a) x
 | [], _, h => by cases h
 | [_], h, _ => h.elim
 | k :: v :: L, ⟨⟨c, hc⟩, h⟩, hh => by
  subst hc
  have hab' : (a.data.toList == b.data.toList) = false := beq_eq_false_iff_ne.2 hab
  by_cases hac : a.data.toList = c.data.toList
  ·have hl : ltP (.str b) (.str a) = ltP (.str b) (.str c) := by simp only [ltP, hac]
   simp only [mapMod, eqK, show (a.data.toList == c.data.toList) = true by rw [beq_iff_eq]; exact hac, mapIns, hl]
   cases ltP (.str b) (.str c) with
   | true => simp only [mapMod, eqK, hab', show (a.data.toList == c.data.toList) = true by rw [beq_iff_eq]; exact hac]
   | false => simp only [mapMod, eqK, show (a.data.toList == c.data.toList) = true by rw [beq_iff_eq]; exact hac]
  ·have hac' : (a.data.toList == c.data.toList) = false := beq_eq_false_iff_ne.2 hac
   simp only [mapHas, eqK, hac'] at hh
   simp only [mapMod, eqK, hac', mapIns]
   cases ltP (.str b) (.str c) with
   | true => simp only [mapMod, eqK, hab', hac']
   | false => simp only [mapMod, eqK, hac', mod_ins hab h hh]
theorem ins_ins (hab : a.data.toList ≠ b.data.toList) : ∀ {L : List PV}, allK L → mapIns (mapIns L (.str a) x) (.str b) y = mapIns (mapIns L (.str b) y) (.str a) x
 | [], _ => by
  have ht : ltP (.str b) (.str a) = !ltP (.str a) (.str b) := bltL_tri hab
  grind [mapIns]
 | [_], h => h.elim
 | k :: v :: L, ⟨⟨c, hc⟩, h⟩ => by
  subst hc
  have ht : ltP (.str b) (.str a) = !ltP (.str a) (.str b) := bltL_tri hab
  have tr : ∀ {p q r : ByteArray}, ltP (.str p) (.str q) = true → ltP (.str q) (.str r) = true → ltP (.str p) (.str r) = true := fun h1 h2 => bltL_trans h1 h2
  cases ha : ltP (.str a) (.str c) with
  | true =>
   cases hb : ltP (.str b) (.str c) with
   | true =>
    simp only [mapIns, ha, hb, ht]
    cases ltP (.str a) (.str b) <;> simp
   | false =>
    have hn : ltP (.str b) (.str a) = false := by
     cases hh : ltP (.str b) (.str a) with
     | false => rfl
     | true => rw [tr hh ha] at hb; cases hb
    simp only [mapIns, ha, hb, hn]
  | false =>
   cases hb : ltP (.str b) (.str c) with
   | true =>
    have hn : ltP (.str a) (.str b) = false := by
     cases hh : ltP (.str a) (.str b) with
     | false => rfl
     | true => rw [tr hh hb] at ha; cases ha
    simp only [mapIns, ha, hb, hn]
   | false => simp only [mapIns, ha, hb, ins_ins hab h]
theorem put_put (hab : a.data.toList ≠ b.data.toList) {L : List PV} (h : allK L) : mapPut none (mapPut none L (.str a) x) (.str b) y = mapPut none (mapPut none L (.str b) y) (.str a) x := by
 grind [mapPut, has_mod, has_ins, ins_ins, mod_ins, mod_mod]
theorem mod_all : ∀ {L : List PV}, allK L → allK (mapMod none L (.str a) x)
 | [], _ => trivial
 | [_], h => h.elim
 | k :: v :: L, ⟨⟨c, hc⟩, h⟩ => by
  subst hc
  simp only [mapMod]
  split
  ·exact ⟨⟨_, rfl⟩, h⟩
  ·exact ⟨⟨_, rfl⟩, mod_all h⟩
theorem ins_all : ∀ {L : List PV}, allK L → allK (mapIns L (.str a) x)
 | [], _ => ⟨⟨_, rfl⟩, trivial⟩
 | [_], h => h.elim
 | k :: v :: L, ⟨⟨c, hc⟩, h⟩ => by
  subst hc
  simp only [mapIns]
  cases ltP (.str a) (.str c) with
  | true => exact ⟨⟨_, rfl⟩, ⟨_, rfl⟩, h⟩
  | false => exact ⟨⟨_, rfl⟩, ins_all h⟩
theorem put_all {L : List PV} (h : allK L) : allK (mapPut none L (.str a) x) := by
 grind [mapPut, mod_all, ins_all]
end
theorem insK_spec {o : Oper} {k : ByteArray} (h : insK o = some k) : ∃ t m v, o.op = .insert t m (.const (.string k)) v ∧ o.dst = none ∧ o.guard = none := by
 grind [insK]
theorem ins_step {o : Oper} {k : ByteArray} (hk : insK o = some k) : AStepD E ops o σ σ' ↔ ∃ t m v, o.op = .insert t m (.const (.string k)) v ∧ ∃ i q cs b L z, stOKm E.mu E.ln (opT m) (σ.rd m) = true ∧ mapTI E.P t = some (none, z) ∧ σ.rd m = some (.bld 0 i) ∧ σ.rd v = some q ∧ σ.h[i]? = some (some cs) ∧ mapIn cs = some (b, L) ∧ allK L ∧ (!b || q.flat) = true ∧
 σ' = { σ with h := σ.h.set i (some [mapC b (mapPut none L (.str k) q)]) } := by
 obtain ⟨t, m, v, h1, h2, h3⟩ := insK_spec hk
 obtain ⟨dst, op, type, pos, after, guard⟩ := o
 subst h1; subst h2; subst h3
 have hr : σ.rd (.const (.string k)) = some (.str k) := rfl
 constructor
 ·rintro (⟨_, h⟩ | ⟨h, _⟩)
  ·obtain ⟨p, σ1, hs, _, hp⟩ := h
   simp only [ASt.put, Option.some.injEq] at hp
   subst hp
   simp only [stepV] at hs
   split at hs
   ·cases hs
   rename_i hso
   split at hs
   ·rename_i s z i q y ht g1 gk g3 gd
    rw [hr] at gk
    cases gk
    split at hs
    ·rename_i cs hcs
     split at hs
     ·rename_i b L hin
      split at hs
      ·rename_i hik
       cases hs
       simp only [Bool.and_eq_true] at hik
       have hsn : s = none := by
        cases s with
        | none => rfl
        | some kd => have := hik.1; simp [isKeyK] at this
       subst hsn
       exact ⟨t, m, v, rfl, i, y, cs, b, L, z, hso, ht, g1, g3, hcs, hin, allK_of.1 hik.2.1, hik.2.2, rfl⟩
      ·cases hs
     ·cases hs
    ·cases hs
   ·cases hs
  ·simp [gOK] at h
 ·rintro ⟨t', m', v', e, i, q, cs, b, L, z, hso, ht, g1, g3, hcs, hin, hal, hfl, rfl⟩
  refine .inl ⟨rfl, ?_⟩
  refine ⟨.tuple [], { σ with h := σ.h.set i (some [mapC b (mapPut none L (.str k) q)]) }, ?_, trivial, rfl⟩
  grind [stepV, isKeyK, allK_of]
theorem mapIn_mapC {b : Bool} {L : List PV} : mapIn [mapC b L] = some (b, L) := by cases b <;> rfl
theorem diamond_ins {x y : Oper} {σ1 σ2 : ASt} (h1 : AStepD E ops x σ σ1) (h2 : AStepD E ops y σ1 σ2) (hc : insC x y = true) : ∃ τ, AStepD E ops y σ τ ∧ AStepD E ops x τ σ2 := by
 unfold insC at hc
 split at hc
 ·rename_i a b hx hy
  obtain ⟨t, m, v, e1, i, q, cs, b1, L, z, s1, s2, s3, s4, s5, s6, s7, s8, rfl⟩ := (ins_step hx).1 h1
  obtain ⟨t', m', v', e2, j, q', cs', b2, L', z', u1, u2, u3, u4, u5, u6, u7, u8, rfl⟩ := (ins_step hy).1 h2
  by_cases hij : i = j
  ·subst hij
   have hlt : i < σ.h.length := (List.getElem?_eq_some_iff.1 s5).1
   rw [List.getElem?_set_self hlt] at u5
   injection u5 with u5; injection u5 with u5; subst u5
   rw [mapIn_mapC] at u6
   injection u6 with u6; injection u6 with u6a u6b
   subst u6a; refine ⟨{ σ with h := σ.h.set i (some [mapC b1 (mapPut none L (.str b) q')]) }, (ins_step hy).2 ⟨t', m', v', e2, i, q', cs, b1, L, z', u1, u2, u3, u4, s5, s6, s7, u8, rfl⟩, (ins_step hx).2 ⟨t, m, v, e1, i, q, [mapC b1 (mapPut none L (.str b) q')], b1, mapPut none L (.str b) q', z, s1, s2, s3, s4, ?_, mapIn_mapC, put_all s7, s8, ?_⟩⟩
   simp_all
   grind [List.set_set, put_put]
  ·rw [List.getElem?_set_ne hij] at u5
   refine ⟨{ σ with h := σ.h.set j (some [mapC b2 (mapPut none L' (.str b) q')]) }, (ins_step hy).2 ⟨t', m', v', e2, j, q', cs', b2, L', z', u1, u2, u3, u4, u5, u6, u7, u8, rfl⟩, (ins_step hx).2 ⟨t, m, v, e1, i, q, cs, b1, L, z, s1, s2, s3, s4, ?_, s6, s7, s8, ?_⟩⟩
   grind
   grind [List.set_comm]
 ·cases hc
theorem diamond0 {x y : Oper} {σ1 σ2 : ASt} (hs : Srt σ.s) (h1 : AStepD E ops x σ σ1) (h2 : AStepD E ops y σ1 σ2) (hc : commD0 E ops x y = true) : ∃ τ, AStepD E ops y σ τ ∧ AStepD E ops x τ σ2 := by
 unfold commD0 at hc
 simp only [Bool.and_eq_true, List.all_eq_true, Bool.not_eq_true', List.contains_eq_mem, decide_eq_false_iff_not] at hc
 obtain ⟨⟨hw1, hw2⟩, hh⟩ := hc
 obtain ⟨c1, p1, k1, e1, a1, b1, r1, t1⟩ := astep_form h1
 obtain ⟨c2, p2, k2, e2, a2, b2, r2, t2⟩ := astep_form h2
 have wr : ∀ {o : Oper} {c : Option Nat} {k : Nat}, (c = none ∨ c = clrT E o) → c = some k → k ∈ writes E o := fun hk e => by
  rcases hk with h | h
  simp_all
  ·exact List.mem_append_right _ (by rw [← h, e]; simp)
 have wd : ∀ {o : Oper} {k : Nat}, o.dst = some k → k ∈ writes E o := fun e => List.mem_append_left _ (by rw [e]; simp)
 have hsame : ∀ {o : Oper} {c : Option Nat} {p : PV} {s : Slots} {t : Nat}, Srt s → (c = none ∨ c = clrT E o) → t ∉ writes E o → sget t (putS o.dst p (clrS c s)) = sget t s := fun hs hk ht => by
  rw [sget_putS (clrS_srt hs), if_neg (fun e => ht (wd e)), sget_clrS hs, if_neg (fun e => ht (wr hk e))]
 unfold hkOK at hh
 simp only [Bool.or_eq_true, Bool.and_eq_true, beq_iff_eq] at hh
 have hheap : hk E y = 0 ∨ σ.h = σ1.h ∨ (hk E y = 1 ∧ unH σ.h = unH σ1.h) ∨ (hk E y = 5 ∧ roEq E σ.h σ1.h) := by
  rcases hh with (((((h | h) | h) | h) | h) | h) | h
  simp_all
  omega
  simp_all
  simp_all
  simp_all
  simp_all
  ·rcases h.2 with h2 | h2
   simp_all
   ·exact .inr (.inr (.inr ⟨h.1, fun i hi => (r1 h2 i hi).symm⟩))
 obtain ⟨τ, y1, y2, y3, y4⟩ := t2 σ (fun t ht => by rw [e1, hsame hs k1 fun hw => (hw1 t hw).1 ht]) hheap
 have hheap2 : hk E x = 0 ∨ τ.h = σ.h ∨ (hk E x = 1 ∧ unH τ.h = unH σ.h) ∨ (hk E x = 5 ∧ roEq E τ.h σ.h) := by
  grind
 obtain ⟨τ', x1, x2, x3, x4⟩ := t1 τ (fun t ht => by rw [y2, hsame hs k2 fun hw => hw2 t hw ht]) hheap2
 refine ⟨τ, y1, ?_⟩
 have hslots : τ'.s = σ2.s := by
  rw [x2, y2, e2, e1]
  exact eff_comm hs (fun k e => ⟨fun e' => (hw1 k (wd e)).2 (wd e'), fun e' => (hw1 k (wd e)).2 (wr k2 e')⟩) (fun k e => ⟨fun e' => (hw1 k (wr k1 e)).2 (wd e'), fun e' => (hw1 k (wr k1 e)).2 (wr k2 e')⟩)
 have hheaps : τ'.h = σ2.h := by
  grind
 have : τ' = σ2 := by cases τ'; cases σ2; simp_all
 rw [← this]; exact x1
theorem diamond {x y : Oper} {σ1 σ2 : ASt} (hs : Srt σ.s) (h1 : AStepD E ops x σ σ1) (h2 : AStepD E ops y σ1 σ2) (hc : commD E ops x y = true) : ∃ τ, AStepD E ops y σ τ ∧ AStepD E ops x τ σ2 := by
 grind [commD, diamond0, diamond_ins]
def Chain (E : AE) (ops : Array Oper) : List Nat → ASt → ASt → Prop
 | [], σ, σ' => σ = σ'
 | i :: l, σ, σ' => ∃ o, ops[i]? = some o ∧ ∃ σ1, AStepD E ops o σ σ1 ∧ Chain E ops l σ1 σ'
theorem chain_front {i : Nat} {oi : Oper} (hi : ops[i]? = some oi) : ∀ (p q : List Nat) {σ σ' : ASt}, Srt σ.s → Chain E ops (p ++ i :: q) σ σ' → (∀ k, k ∈ p → ∀ ok, ops[k]? = some ok → commD E ops ok oi = true) → ∃ σ1, AStepD E ops oi σ σ1 ∧ Chain E ops (p ++ q) σ1 σ'
 | [], q, σ, σ', hs, h, _ => by
  obtain ⟨o, ho, σ1, h1, h2⟩ := h
  grind
 | k :: p, q, σ, σ', hs, h, hc => by
  obtain ⟨o, ho, σ1, h1, h2⟩ := h
  obtain ⟨σ2, h3, h4⟩ := chain_front hi p q (h1.srt hs) h2 fun k hk => hc k (by simp [hk])
  obtain ⟨τ, d1, d2⟩ := diamond hs h1 h3 (hc k (by simp) o ho)
  exact ⟨τ, d1, o, ho, σ2, d2, h4⟩
def ancOf (acc : List Nat) (o : Oper) : Nat := o.after.toList.foldl (fun s e => if Region.binds .any e then s ||| (2 ^ e.on ||| acc.getD e.on 0) else s) 0
def ancs : List Nat → List Oper → List Nat
 | acc, [] => acc
 | acc, o :: l => ancs (acc ++ [ancOf acc o]) l
def Closed (ops : Array Oper) (L : Nat → Prop) : Prop := ∀ (j : Nat) o, ops[j]? = some o → L j → ∀ e, e ∈ o.after → Region.binds .any e = true → L e.on
theorem ancOf_bits {acc : List Nat} {o : Oper} {k : Nat} (h : (ancOf acc o).testBit k = true) : ∃ e, e ∈ o.after ∧ Region.binds .any e = true ∧ (k = e.on ∨ (acc.getD e.on 0).testBit k = true) := by
 have key : ∀ (l : List Edge) (s : Nat), (l.foldl (fun s e => if Region.binds .any e then s ||| (2 ^ e.on ||| acc.getD e.on 0) else s) s).testBit k = true → s.testBit k = true ∨ ∃ e, e ∈ l ∧ Region.binds .any e = true ∧ (k = e.on ∨ (acc.getD e.on 0).testBit k = true) := by
  intro l
  induction l with
  | nil => simp
  | cons e l ih =>
   grind
 rcases key o.after.toList 0 h with h1 | ⟨e, h1, h2⟩
 grind
 grind
def AncOK (ops : Array Oper) (acc : List Nat) : Prop := ∀ (j : Nat) o, j < acc.length → ops[j]? = some o → ∀ L, Closed ops L → (∀ e, e ∈ o.after → Region.binds .any e = true → L e.on) → ∀ k, (acc.getD j 0).testBit k = true → L k
theorem ancs_ok {ops : Array Oper} : ∀ (l : List Oper) (acc : List Nat), AncOK ops acc → (∀ j, l[j]? = ops[acc.length + j]?) → AncOK ops (ancs acc l)
 | [], acc, h, _ => h
 | o :: l, acc, h, hl => by
  have ho : ops[acc.length]? = some o := by have := hl 0; simp_all
  refine ancs_ok l _ (fun j o' hj ho' L hL hd k hk => ?_) (fun j => by have := hl (j + 1); grind)
  rcases Nat.lt_or_ge j acc.length with hlt | hge
  ·refine h j o' hlt ho' L hL hd k ?_
   rwa [List.getD_eq_getElem?_getD, List.getElem?_append_left hlt] at hk
  ·have hje : j = acc.length := by grind
   subst hje
   rw [ho] at ho'; cases ho'
   simp at hk
   obtain ⟨e, he, hb, hkk⟩ := ancOf_bits hk
   rcases hkk with rfl | hkk
   simp_all
   ·have hle := hd e he hb
    rcases Nat.lt_or_ge e.on acc.length with h1 | h1
    ·cases hoe : ops[e.on]? with
     | none =>
      have h2 := (Array.getElem?_eq_some_iff.1 ho).1
      rw [Array.getElem?_eq_none_iff] at hoe; omega
     | some oe => exact h e.on oe h1 hoe L hL (hL e.on oe hoe hle) k (by omega)
    simp_all
def okD (E : AE) (ops : Array Oper) : Bool :=
 let A := ancs [] ops.toList
 (List.range ops.size).all fun j => match ops[j]? with
  | some oj => oj.after.toList.all (fun e => !Region.binds .any e || decide (e.on < j)) && (List.range j).all fun i => match ops[i]? with
   | some oi => (A.getD j 0).testBit i || commD E ops oi oj
   | none => true
  | none => true
theorem okD_spec (h : okD E ops = true) : (∀ (j : Nat) o, ops[j]? = some o → ∀ e, e ∈ o.after → Region.binds .any e = true → e.on < j) ∧
 ∀ (i j : Nat) oi oj, i < j → ops[i]? = some oi → ops[j]? = some oj → ∀ L, Closed ops L → (∀ e, e ∈ oj.after → Region.binds .any e = true → L e.on) → ¬ L i → commD E ops oi oj = true := by
 unfold okD at h
 simp only [List.all_eq_true, List.mem_range] at h
 have hA : AncOK ops (ancs [] ops.toList) := ancs_ok ops.toList [] (fun j o hj => by simp at hj) (fun j => by simp)
 have hlen : ∀ (l : List Oper) (acc : List Nat), (ancs acc l).length = acc.length + l.length := by
  intro l
  induction l with
  | nil => simp [ancs]
  | cons o l ih => grind [ancs]
 constructor
 grind
 ·intro i j oi oj hij hi hj L hL hd hn
  have hjs := (Array.getElem?_eq_some_iff.1 hj).1
  have := h j hjs
  simp only [hj, Bool.and_eq_true, List.all_eq_true, List.mem_range] at this
  have := this.2 i hij
  simp only [hi, Bool.or_eq_true] at this
  rcases this with h1 | h1
  ·exact absurd (hA j oj (by simp_all) hj L hL hd i h1) hn
  ·exact h1
theorem gOK_wanted {out : Nat → Nat} {M : Mem} {B : Blk} {a : Act} {w : World} (hI : Inv E.n M B out σ a.tmps w) {b : Bool} (h : gOK ops σ o = some b) : Region.wanted o (yielded ops a.tmps) = b := by
 unfold gOK at h
 grind [Region.wanted, gval, gval_yields]
theorem wpOp_sound {out : Nat → Nat} {M : Mem} {B : Blk} {a : Act} {w : World} (hI : Inv E.n M B out σ a.tmps w) {i : Nat} (hi : ops[i]? = some o) (h : AStepD E ops o σ σ') {K : Act → World → Prop} {Q : Exit → Act → World → Prop}
 (hK : ∀ v M' B' w', Good E.n out M B σ a.tmps w M' B' σ' (a.put o.dst v).tmps w' → K (a.put o.dst v) w') : wpOp E.P ops Q i K a w := by
 unfold wpOp
 simp only [hi]
 rcases h with ⟨hg, hr⟩ | ⟨hg, hp⟩
 ·rw [if_pos (gOK_wanted hI hg)]
  refine .inl ?_
  unfold runD at hr
  cases hc : isCall o with
  | some fa =>
   rw [hc] at hr
   obtain ⟨g, first, caps, as, r, h1, h2, h3⟩ := hr
   refine awpOp_sound (K := fun τ => τ = σ') hI ?_ fun v τ M' B' w' e hG => by grind
   unfold awpOp
   obtain ⟨dst, op, type, pos, after, guard⟩ := o
   cases op <;> simp [isCall] at hc
   rename_i c
   obtain ⟨callee, cargs, ts⟩ := c
   cases callee <;> simp at hc
   obtain ⟨rfl, rfl⟩ := hc
   simp only [h1, h2]
   rcases h3 with ⟨h3, h4, h5, h6⟩ | ⟨_, h', h3, _, h6⟩
   ·refine ⟨r, σ.h, h3.frame' h4 h5 _, ?_⟩
    unfold thenPut
    simp_all
   ·refine ⟨r, h', h3, ?_⟩
    grind [thenPut]
  | none =>
   rw [hc] at hr
   obtain ⟨p, σ1, h1, h2, h3⟩ := hr
   refine stepK_sound (K := fun τ => τ = σ') hI ?_ fun v τ M' B' w' e hG => by grind
   grind [stepK, thenPut]
 ·rw [if_neg (by rw [gOK_wanted hI hg]; simp)]
  exact hK undef M B w (skip_good hI hp)
def unlisted (n : Nat) (L : Array Bool) : List Nat := (List.range n).filter fun i => !L.getD i true
theorem mem_unlisted {n : Nat} {L : Array Bool} {i : Nat} : i ∈ unlisted n L ↔ i < n ∧ L.getD i true = false := by
 grind [unlisted]
theorem unlisted_set {n : Nat} {L : Array Bool} {i : Nat} (hL : L.size = n) (hi : i < n) (hu : L.getD i true = false) : ∃ p q, unlisted n L = p ++ i :: q ∧ unlisted n (L.setIfInBounds i true) = p ++ q ∧ ∀ k, k ∈ p → k < i := by
 have hr : List.range n = List.range i ++ i :: (List.range' (i + 1) (n - i - 1)) := by
  have : n = i + (n - i - 1 + 1) := by omega
  rw [List.range_eq_range', List.range_eq_range', this, ← List.range'_append_1, List.range'_succ]
  simp
 have hne : ∀ j, j ≠ i → (L.setIfInBounds i true).getD j true = L.getD j true := fun j h => by simp [Array.getElem?_setIfInBounds_ne (Ne.symm h)]
 have heq : (L.setIfInBounds i true).getD i true = true := by simp [hL]
 refine ⟨(List.range i).filter fun i => !L.getD i true, (List.range' (i + 1) (n - i - 1)).filter fun i => !L.getD i true, ?_, ?_, fun k hk => ?_⟩
 grind [unlisted]
 grind [unlisted, List.filter_congr]
 simp_all
theorem any_sound (hok : okD E ops = true) {out : Nat → Nat} {Q : Exit → Act → World → Prop} : ∀ (fuel : Nat) (L : Array Bool) {M : Mem} {B : Blk} {σ : ASt} {a : Act} {w : World} {K : ASt → Prop} {σ' : ASt}, L.size = ops.size → (unlisted ops.size L).length = fuel → Closed ops (fun i => L.getD i false = true) →
 Inv E.n M B out σ a.tmps w → Chain E ops (unlisted ops.size L) σ σ' → K σ' →
 (∀ M' B' a' w', K σ' → Good E.n out M B σ a.tmps w M' B' σ' a'.tmps w' → a'.defers = a.defers → Q .normal a' w') → wpAny E.P .any ops Q fuel L a w := by
 obtain ⟨hback, hcomm⟩ := okD_spec hok
 have hready0 : ∀ (L : Array Bool), L.size = ops.size → Region.ready .any ops L = [] → unlisted ops.size L = [] := by
  intro L hL h
  cases hu : unlisted ops.size L with
  | nil => rfl
  | cons i l =>
   exfalso
   have him : i ∈ unlisted ops.size L := by rw [hu]; simp
   obtain ⟨h1, h2⟩ := mem_unlisted.1 him
   have ho : ops[i]? = some ops[i] := Array.getElem?_eq_getElem h1
   have hmin : ∀ k, k < i → L.getD k true = true := fun k hk => by
    grind [unlisted, List.filter_sublist, List.pairwise_lt_range]
   have : i ∈ Region.ready .any ops L := mem_ready.2 ⟨h2, _, ho, fun e he hb => by
    have hlt := hback i _ ho e he hb
    have := hmin _ hlt
    grind⟩
   rw [h] at this; cases this
 intro fuel
 induction fuel with
 | zero =>
  intro L M B σ a w K σ' hL hlen _ hI hc hk hQ
  have hnil : unlisted ops.size L = [] := List.eq_nil_of_length_eq_zero hlen
  rw [hnil] at hc
  have : σ = σ' := hc
  subst this
  refine ⟨?_, hQ M B a w hk (Good.refl hI) rfl⟩
  cases hr : Region.ready .any ops L with
  | nil => rfl
  | cons i l =>
   exfalso
   have hi : i ∈ Region.ready .any ops L := by rw [hr]; simp
   obtain ⟨h1, o, ho, _⟩ := mem_ready.1 hi
   have : i ∈ unlisted ops.size L := mem_unlisted.2 ⟨(Array.getElem?_eq_some_iff.1 ho).1, h1⟩
   rw [hnil] at this; cases this
 | succ fuel ih =>
  intro L M B σ a w K σ' hL hlen hcl hI hc hk hQ
  refine ⟨fun h => by rw [hready0 L hL h] at hlen; simp at hlen, fun i hi => ?_⟩
  obtain ⟨h1, o, ho, hd⟩ := mem_ready.1 hi
  have his := (Array.getElem?_eq_some_iff.1 ho).1
  obtain ⟨p, q, u1, u2, u3⟩ := unlisted_set hL his h1
  rw [u1] at hc
  obtain ⟨σ1, s1, s2⟩ := chain_front ho p q hI.srt hc fun k hkp ok hok' => by
   have hkm : k ∈ unlisted ops.size L := by rw [u1]; simp_all
   obtain ⟨k1, k2⟩ := mem_unlisted.1 hkm
   grind
  refine wpOp_sound hI ho s1 fun v M' B' w' hG => ?_
  refine ih (L.setIfInBounds i true) (by grind) (by rw [u2]; rw [u1] at hlen; grind) (fun j oj hj hlj e he hb => ?_) hG.inv (by rw [u2]; exact s2) hk fun M2 B2 a2 w2 hk2 hG2 hd2 => hQ M2 B2 a2 w2 hk2 (hG.trans hG2) (by rw [hd2, Act.put_defers'])
  by_cases hij : i = j
  grind [getD_set_true]
  ·have hlj' : (L.setIfInBounds i true).getD j false = true := hlj
   rw [getD_set_ne false hij] at hlj'
   exact getD_set_true (hcl j oj hj hlj' e he hb)
def callKD (E : AE) (g : FuncId) (args : List PV) (dst : Option Nat) (K : ASt → Prop) (σ : ASt) : Prop := (∃ r, Ev E.P g args [] r [] ∧ r.flat = true ∧ PV.flats args = true ∧ thenPut E dst r σ K) ∨ (inMv E.sy dst = true ∧ ∃ r h', Ev E.P g args σ.h r h' ∧ roEq E h' σ.h ∧ thenPut E dst r { σ with h := h' } K)
def awpOpD (E : AE) (o : Oper) (K : ASt → Prop) (σ : ASt) : Prop :=
 match isCall o with
 | some (f, args) => (match σ.rd f, allSome (args.map σ.rd) with
  | some (.func (.func g) first caps), some as => callKD E g (first ++ as ++ caps) o.dst K σ
  | _, _ => False)
 | none => stepK E o K σ
def awpOpsD (E : AE) (ops : Array Oper) : List Oper → (ASt → Prop) → ASt → Prop
 | [], Q, σ => Q σ
 | o :: l, Q, σ =>
  match o.guard with
  | none => awpOpD E o (awpOpsD E ops l Q) σ
  | some (j, want) => match gval ops σ j with
   | some none => thenPut E o.dst (.tuple []) σ (awpOpsD E ops l Q)
   | some (some b) => (b = want → awpOpD E o (awpOpsD E ops l Q) σ) ∧ (b ≠ want → thenPut E o.dst (.tuple []) σ (awpOpsD E ops l Q))
   | none => False
def awpD (E : AE) (ops : Array Oper) (K : ASt → Prop) (σ : ASt) : Prop := okD E ops = true ∧ awpOpsD E ops ops.toList K σ
theorem thenPut_ex {d : Option Nat} {p : PV} {K : ASt → Prop} (h : thenPut E d p σ K) : ∃ σ', ASt.put E d p σ = some σ' ∧ K σ' := by
 grind [thenPut]
theorem awpOpD_ex {K : ASt → Prop} (h : awpOpD E o K σ) : ∃ σ', runD E o σ σ' ∧ K σ' := by
 unfold awpOpD at h
 unfold runD
 split at h
 ·rename_i f args hc
  split at h
  ·rename_i g first caps as h1 h2
   rcases h with ⟨r, a1, a2, a3, a4⟩ | ⟨hsy, r, h', a1, aro, a4⟩
   ·obtain ⟨σ', a5, a6⟩ := thenPut_ex a4
    exact ⟨σ', ⟨g, first, caps, as, r, h1, h2, .inl ⟨a1, a2, a3, a5⟩⟩, a6⟩
   ·obtain ⟨σ', a5, a6⟩ := thenPut_ex a4
    exact ⟨σ', ⟨g, first, caps, as, r, h1, h2, .inr ⟨hsy, h', a1, aro, a5⟩⟩, a6⟩
  simp_all
 ·rename_i hc
  unfold stepK at h
  split at h
  ·rename_i p σ1 hs
   obtain ⟨σ', a5, a6⟩ := thenPut_ex h.2
   exact ⟨σ', ⟨p, σ1, hs, h.1, a5⟩, a6⟩
  simp_all
theorem awpOpsD_chain {K : ASt → Prop} : ∀ (l : List Oper) (k : Nat) {σ : ASt}, (∀ j, l[j]? = ops[k + j]?) → awpOpsD E ops l K σ → ∃ σ', Chain E ops (List.range' k l.length) σ σ' ∧ K σ'
 | [], k, σ, _, h => ⟨σ, rfl, h⟩
 | o :: l, k, σ, hl, h => by
  have ho : ops[k]? = some o := by have := hl 0; simp_all
  have go : ∀ σ1, AStepD E ops o σ σ1 → awpOpsD E ops l K σ1 → ∃ σ', Chain E ops (List.range' k (o :: l).length) σ σ' ∧ K σ' := fun σ1 h1 h2 => by
   obtain ⟨σ', h3, h4⟩ := awpOpsD_chain l (k + 1) (fun j => by have := hl (j + 1); grind) h2
   exact ⟨σ', by rw [List.length_cons, List.range'_succ]; exact ⟨o, ho, σ1, h1, h3⟩, h4⟩
  have run : gOK ops σ o = some true → awpOpD E o (awpOpsD E ops l K) σ → ∃ σ', Chain E ops (List.range' k (o :: l).length) σ σ' ∧ K σ' := fun hg h => by
   obtain ⟨σ1, h1, h2⟩ := awpOpD_ex h
   exact go σ1 (.inl ⟨hg, h1⟩) h2
  have skip : gOK ops σ o = some false → thenPut E o.dst (.tuple []) σ (awpOpsD E ops l K) → ∃ σ', Chain E ops (List.range' k (o :: l).length) σ σ' ∧ K σ' := fun hg h => by
   obtain ⟨σ1, h1, h2⟩ := thenPut_ex h
   exact go σ1 (.inr ⟨hg, h1⟩) h2
  rw [awpOpsD] at h
  split at h
  grind [gOK]
  ·rename_i j want hg
   split at h
   grind [gOK]
   ·rename_i b hv
    by_cases hb : b = want
    grind [gOK]
    ·exact skip (by simp [gOK, hg, hv, hb]) (h.2 hb)
   simp_all
theorem awpD_sound (hm : E.P.follows .mixedOrders = true) {out : Nat → Nat} {M : Mem} {B : Blk} {a : Act} {w : World} {id : Nat} {Q : Exit → Act → World → Prop} {K : ASt → Prop} (hI : Inv E.n M B out σ a.tmps w) (h : awpD E ops K σ)
 (hQ : ∀ σ' M' B' a' w', K σ' → Good E.n out M B σ a.tmps w M' B' σ' a'.tmps w' → a'.defers = a.defers → Q .normal a' w') : (Code.region id ops true).wp E.P Q a w := by
 obtain ⟨hok, h⟩ := h
 obtain ⟨σ', hc, hk⟩ := awpOpsD_chain ops.toList 0 (fun j => by simp) h
 have hd := hI.drew
 have hu : unlisted ops.size (Array.replicate ops.size false) = List.range' 0 ops.toList.length := by
  unfold unlisted
  rw [List.filter_eq_self.2 (fun i hi => by have := List.mem_range.1 hi; simp [this]), List.range_eq_range']; simp
 refine wp_region_any hm ?_
 refine any_sound hok ops.size (Array.replicate ops.size false) (K := K) (σ' := σ') (by simp) (by rw [hu]; simp) (fun j o _ h => ?_) hd.1 (by rw [hu]; exact hc) hk fun M' B' a' w' hk' hG hd' => hQ σ' M' B' a' w' hk' (hd.2.trans hG) hd'
 have h' : (Array.replicate ops.size false).getD j false = true := h
 simp [Array.getElem?_replicate] at h'
 split at h' <;> simp at h'
end
end Go.Proofs.YtkkgfoknknehfaaDoor
namespace Go.Proofs.YtkkgfoknknehfaaDoor
set_option linter.unusedVariables false
set_option linter.unusedSimpArgs false
set_option linter.unnecessarySimpa false
set_option linter.unusedSectionVars false
open Go.RowKit
def AllD (E : AE) (ops : Array Oper) (Kp : ASt → Prop) : Nat → Array Bool → ASt → Prop
 | 0, L, σ => Region.ready .any ops L = [] ∧ Kp σ
 | fuel + 1, L, σ => (Region.ready .any ops L = [] → Kp σ) ∧ ∀ i, i ∈ Region.ready .any ops L → ∃ o, ops[i]? = some o ∧ ∃ σ', AStepD E ops o σ σ' ∧ AllD E ops Kp fuel (L.setIfInBounds i true) σ'
def depOn (j : Nat) (o : Oper) : Bool := o.after.toList.any fun e => Region.binds .any e && e.on == j
def frontC (E : AE) (ops : Array Oper) (L : Array Bool) (j : Nat) : Bool := match ops[j]? with
 | none => false
 | some o => (unlisted ops.size L).all fun k => k == j || (match ops[k]? with | none => false | some ok => depOn j ok || commD E ops o ok)
def frontO (E : AE) (ops : Array Oper) (L : Array Bool) : List Nat → Option Nat
 | [] => none
 | j :: l => match frontC E ops L j with | true => some j | false => frontO E ops L l
def AllR (E : AE) (ops : Array Oper) (Kp : ASt → Prop) : Nat → Array Bool → ASt → Prop
 | 0, L, σ => Region.ready .any ops L = [] ∧ Kp σ
 | fuel + 1, L, σ => (Region.ready .any ops L = [] → Kp σ) ∧ ∀ i, i ∈ (match frontO E ops L (Region.ready .any ops L) with | some j => [j] | none => Region.ready .any ops L) → ∃ o, ops[i]? = some o ∧ ∃ σ', AStepD E ops o σ σ' ∧ AllR E ops Kp fuel (L.setIfInBounds i true) σ'
section
variable {E : AE} {ops : Array Oper} {Kp : ASt → Prop}
theorem AllR_mono {Kq : ASt → Prop} (hm : ∀ σ, Kp σ → Kq σ) : ∀ (fuel : Nat) {L : Array Bool} {σ : ASt}, AllR E ops Kp fuel L σ → AllR E ops Kq fuel L σ
 | 0, L, σ, h => ⟨h.1, hm σ h.2⟩
 | fuel + 1, L, σ, h => ⟨fun e => hm σ (h.1 e), fun i hi => by
  obtain ⟨o, ho, σ', h1, h2⟩ := h.2 i hi
  exact ⟨o, ho, σ', h1, AllR_mono hm fuel h2⟩⟩
theorem allD_sound {out : Nat → Nat} {Q : Exit → Act → World → Prop} : ∀ (fuel : Nat) (L : Array Bool) {M : Mem} {B : Blk} {σ : ASt} {a : Act} {w : World}, Inv E.n M B out σ a.tmps w → AllD E ops Kp fuel L σ →
 (∀ σt M' B' a' w', Kp σt → Good E.n out M B σ a.tmps w M' B' σt a'.tmps w' → a'.defers = a.defers → Q .normal a' w') → wpAny E.P .any ops Q fuel L a w
 | 0, L, M, B, σ, a, w, hI, h, hQ => ⟨h.1, hQ σ M B a w h.2 (Good.refl hI) rfl⟩
 | fuel + 1, L, M, B, σ, a, w, hI, h, hQ => by
  refine ⟨fun e => hQ σ M B a w (h.1 e) (Good.refl hI) rfl, fun i hi => ?_⟩
  obtain ⟨o, ho, σ', h1, h2⟩ := h.2 i hi
  refine wpOp_sound hI ho h1 fun v M' B' w' hG => ?_
  exact allD_sound fuel _ hG.inv h2 fun σ3 M3 B3 a3 w3 hk3 hG3 hd => hQ σ3 M3 B3 a3 w3 hk3 (hG.trans hG3) (by rw [hd, Act.put_defers'])
theorem frontO_mem {L : Array Bool} {j : Nat} : ∀ {l : List Nat}, frontO E ops L l = some j → j ∈ l ∧ frontC E ops L j = true
 | [], h => by cases h
 | i :: l, h => by
  unfold frontO at h
  split at h
  ·rename_i hc; cases h; exact ⟨by simp, hc⟩
  ·have := frontO_mem h; exact ⟨by simp [this.1], this.2⟩
theorem set_comm2 {L : Array Bool} {i j : Nat} : (L.setIfInBounds i true).setIfInBounds j true = (L.setIfInBounds j true).setIfInBounds i true := by
 grind
theorem ready_set {L : Array Bool} {i j : Nat} (hi : i ∈ Region.ready .any ops L) (hne : i ≠ j) : i ∈ Region.ready .any ops (L.setIfInBounds j true) := by
 obtain ⟨h1, o, ho, hd⟩ := mem_ready.1 hi
 refine mem_ready.2 ⟨?_, o, ho, fun e he hb => getD_set_true (hd e he hb)⟩
 rw [getD_set_ne true (Ne.symm hne)]; exact h1
theorem unl_set {n : Nat} {L : Array Bool} {i k : Nat} (h : k ∈ unlisted n (L.setIfInBounds i true)) : k ∈ unlisted n L := by
 obtain ⟨h1, h2⟩ := mem_unlisted.1 h
 refine mem_unlisted.2 ⟨h1, ?_⟩
 by_cases hik : i = k
 simp_all
 simp_all
theorem front_ok {j : Nat} {o : Oper} (ho : ops[j]? = some o) : ∀ (fuel : Nat) {L : Array Bool} {σ σj : ASt}, Srt σ.s → j ∈ Region.ready .any ops L → (∀ k, k ∈ unlisted ops.size L → k ≠ j → ∀ ok, ops[k]? = some ok → depOn j ok = true ∨ commD E ops o ok = true) →
 AStepD E ops o σ σj → AllD E ops Kp fuel (L.setIfInBounds j true) σj → AllD E ops Kp (fuel + 1) L σ := by
 intro fuel
 induction fuel with
 | zero =>
  intro L σ σj hs hj hc h1 h2
  refine ⟨fun e => (by rw [e] at hj; cases hj), fun i hi => ?_⟩
  by_cases hij : i = j
  grind
  ·have hi' := ready_set hi hij
   rw [h2.1] at hi'; cases hi'
 | succ fuel ih =>
  intro L σ σj hs hj hc h1 h2
  refine ⟨fun e => (by rw [e] at hj; cases hj), fun i hi => ?_⟩
  by_cases hij : i = j
  grind
  ·obtain ⟨oi, hoi, σji, h3, h4⟩ := h2.2 i (ready_set hi hij)
   obtain ⟨hi1, oi2, hoi2, hdep⟩ := mem_ready.1 hi
   rw [hoi] at hoi2; cases hoi2
   have hcomm := (hc i (mem_unlisted.2 ⟨(Array.getElem?_eq_some_iff.1 hoi).1, hi1⟩) hij oi hoi).resolve_left fun hd => by
    obtain ⟨e, he, hb⟩ := List.any_eq_true.1 hd
    simp only [Bool.and_eq_true, beq_iff_eq] at hb
    have h5 := hdep e (by grind) hb.1
    rw [hb.2] at h5
    have h6 := (mem_ready.1 hj).1
    grind
   grind [diamond, AStepD.srt, ready_set, unl_set, set_comm2]
theorem allR_D : ∀ (fuel : Nat) {L : Array Bool} {σ : ASt}, Srt σ.s → AllR E ops Kp fuel L σ → AllD E ops Kp fuel L σ
 | 0, L, σ, _, h => h
 | fuel + 1, L, σ, hs, h => by
  unfold AllR at h
  cases hf : frontO E ops L (Region.ready .any ops L) with
  | some j =>
   rw [hf] at h
   obtain ⟨hm, hc⟩ := frontO_mem hf
   obtain ⟨o, ho, σj, h1, h2⟩ := h.2 j (by simp)
   unfold frontC at hc
   rw [ho] at hc
   simp only [List.all_eq_true, Bool.or_eq_true, beq_iff_eq] at hc
   refine front_ok ho fuel hs hm (fun k hk hkj ok hok => ?_) h1 (allR_D fuel (h1.srt hs) h2)
   have := (hc k hk).resolve_left hkj
   rw [hok] at this
   exact (Bool.or_eq_true _ _).mp this
  | none =>
   rw [hf] at h
   refine ⟨h.1, fun i hi => ?_⟩
   obtain ⟨o, ho, σ', h1, h2⟩ := h.2 i hi
   exact ⟨o, ho, σ', h1, allR_D fuel (h1.srt hs) h2⟩
theorem awpOpsD_one {o : Oper} {σ : ASt} (h : awpOpsD E ops [o] Kp σ) : ∃ σ', AStepD E ops o σ σ' ∧ Kp σ' := by
 have run : gOK ops σ o = some true → awpOpD E o Kp σ → ∃ σ', AStepD E ops o σ σ' ∧ Kp σ' := fun hg h => by
  obtain ⟨σ1, h1, h2⟩ := awpOpD_ex h
  exact ⟨σ1, .inl ⟨hg, h1⟩, h2⟩
 have skip : gOK ops σ o = some false → thenPut E o.dst (.tuple []) σ Kp → ∃ σ', AStepD E ops o σ σ' ∧ Kp σ' := fun hg h => by
  obtain ⟨σ1, h1, h2⟩ := thenPut_ex h
  exact ⟨σ1, .inr ⟨hg, h1⟩, h2⟩
 rw [awpOpsD] at h
 split at h
 ·rename_i hg; exact run (by simp [gOK, hg]) h
 ·rename_i j want hg
  split at h
  ·rename_i hv; exact skip (by simp [gOK, hg, hv]) h
  ·rename_i b hv
   by_cases hb : b = want
   ·exact run (by simp [gOK, hg, hv, hb]) (h.1 hb)
   ·exact skip (by simp [gOK, hg, hv, hb]) (h.2 hb)
  simp_all
end
def awpDD (E : AE) (ops : Array Oper) (K : ASt → Prop) (σ : ASt) : Prop := awpD E ops K σ ∨ AllR E ops K ops.size (Array.replicate ops.size false) σ
theorem awpDD_sound {E : AE} (hm : E.P.follows .mixedOrders = true) {out : Nat → Nat} {M : Mem} {B : Blk} {σ : ASt} {a : Act} {w : World} {id : Nat} {ops : Array Oper} {Q : Exit → Act → World → Prop} {K : ASt → Prop} (hI : Inv E.n M B out σ a.tmps w) (h : awpDD E ops K σ)
 (hQ : ∀ σ' M' B' a' w', K σ' → Good E.n out M B σ a.tmps w M' B' σ' a'.tmps w' → a'.defers = a.defers → Q .normal a' w') : (Code.region id ops true).wp E.P Q a w := by
 rcases h with h | h
 grind [awpD_sound]
 ·have hd := hI.drew
  exact wp_region_any hm (allD_sound ops.size _ hd.1 (allR_D _ hd.1.srt h) fun σt M' B' a' w' hk hG hdf => hQ σt M' B' a' w' hk (hd.2.trans hG) hdf)
inductive AX where
 | normal
 | ret
 | exit (id : Nat)
def AX.toExit : AX → Exit
 | .normal => .normal
 | .ret => .ret
 | .exit i => .exit i
def ASt.keep (l : List Nat) (σ : ASt) : ASt := { σ with s := σ.s.filter fun kp => l.contains kp.1 }
def resS (sz : List (Nat × List Nat)) : Slots → Slots
 | [] => []
 | (k, p) :: l => (match sz.lookup k with | some z => (k, p.reszT z) | none => (k, p)) :: resS sz l
def ownObj (zs : List Nat) (p : PV) (h : Objs) : Objs := match p with
 | .ptr i 0 => (match h[i]? with | some (some cs) => h.set i (some (own0 zs cs)) | _ => h)
 | _ => h
def ownAll (s : Slots) : List (Nat × List Nat) → Objs → Objs
 | [], h => h
 | (k, zs) :: l, h => ownAll s l (match sget k s with | some p => ownObj zs p h | none => h)
def ASt.head (E : AE) (σ : ASt) : ASt := ⟨resS E.sz (σ.keep E.vars).s, ownAll (resS E.sz (σ.keep E.vars).s) E.pt σ.h⟩
def ASt.gc (l : List Nat) (m : Nat) (σ : ASt) : ASt := ⟨σ.s.filter fun kp => l.contains kp.1, σ.h.take m⟩
def gcOK (l : List Nat) (m : Nat) (σ : ASt) : Bool := (σ.gc l m).s.all (fun kp => kp.2.blw m) && blwH m (σ.gc l m).h
def contA (K : ASt → Prop) (Q : AX → ASt → Prop) : AX → ASt → Prop
 | .normal, σ => K σ
 | e, σ => Q e σ
def chunkP (sz : Nat) (cs : List PV) (n : Nat) : List PV := match sz with
 | 1 => (cs.take n).map PV.un
 | _ => (List.range n).map fun j => .agg (((cs.drop (j * sz)).take sz).map PV.un)
def frzg (k : Nat) (σ : ASt) : ASt := match sget k σ.s with
 | some (.slh i 0 n sz) => (match σ.h[i]? with
  | some (some cs) => (match decide (n * sz ≤ cs.length) && decide (0 < sz) && cs.all fun p => p.one && p.flat with
   | true => ⟨sput k (.sl false sz (chunkP sz cs n)) σ.s, σ.h.set i none⟩
   | false => σ)
  | _ => σ)
 | _ => σ
def frz0 (k : Nat) (σ : ASt) : ASt := match sget k σ.s with
 | some (.slh i 0 n 1) => (match σ.h[i]? with
  | some (some cs) => (match Nat.beq cs.length n && cs.all fun p => p.one && p.flat with
   | true => ⟨sput k (.sl true 1 (cs.map PV.un)) σ.s, σ.h.set i none⟩
   | false => σ)
  | _ => σ)
 | _ => σ
def thw (k : Nat) (σ : ASt) : ASt := match sget k σ.s with
 | some (.slp true n sz cs) => (match Nat.ble 1 n with
  | true => ⟨sput k (.slh σ.h.length 0 n sz) σ.s, σ.h ++ [some cs]⟩
  | false => ⟨sput k (.sl false sz []) σ.s, σ.h⟩)
 | _ => σ
def thwC (k j : Nat) (σ : ASt) : ASt := match sget k σ.s with
 | some (.ptr i 0) => (match σ.h[i]? with
  | some (some cs0) => (match cs0[j]? with
   | some (.slp true n sz cs) => (match Nat.ble 1 n with
    | true => ⟨σ.s, σ.h.set i (some (cs0.set j (.slh σ.h.length 0 n sz))) ++ [some cs]⟩
    | false => ⟨σ.s, σ.h.set i (some (cs0.set j (.sl false sz [])))⟩)
   | _ => σ)
  | _ => σ)
 | _ => σ
def objAt : Option PV → Option Nat
 | some (.ptr i 0) => some i
 | some (.slh i 0 _ _) => some i
 | _ => none
def frzC (k j : Nat) (σ : ASt) : ASt := match objAt (sget k σ.s) with
 | some i2 => (match σ.h[i2]? with
  | some (some cs0) => (match cs0[j]? with
   | some (.slh i 0 n sz) => (match σ.h[i]? with
    | some (some cs) => (match decide (n * sz ≤ cs.length) && decide (0 < sz) && cs.all (fun p => p.one && p.flat) && !Nat.beq i i2 with
     | true => ⟨σ.s, (σ.h.set i none).set i2 (some (cs0.set j (.sl false sz (chunkP sz cs n))))⟩
     | false => σ)
    | _ => σ)
   | _ => σ)
  | _ => σ)
 | _ => σ
def frzQ (k : Nat) (σ : ASt) : ASt := match sget k σ.s with
 | some (.ptr i 0) => (match σ.h[i]? with
  | some (some cs) => (match decide (0 < cs.length) && cs.all fun p => p.one && p.flat with
   | true => ⟨sput k (.cst ((chunkP cs.length cs 1).headD .nilp)) σ.s, σ.h.set i none⟩
   | false => σ)
  | _ => σ)
 | _ => σ
def frz1 (k : Nat) (σ : ASt) : ASt := match Nat.ble 9000000 k with
 | true => frzQ (k - 9000000) σ
 | false => match Nat.ble 5000000 k with
 | true => frzC ((k - 5000000) / 100) ((k - 5000000) % 100) σ
 | false => match Nat.ble 4000000 k with
 | true => thwC ((k - 4000000) / 100) ((k - 4000000) % 100) σ
 | false => match Nat.ble 3000000 k with
 | true => thw ((k - 3000000) % 500000) σ
 | false => match Nat.ble 1000000 k with
  | true => frzg (k - 1000000) σ
  | false => frz0 k σ
def frzL : List Nat → ASt → ASt
 | [], σ => σ
 | k :: ks, σ => frzL ks (frz1 k σ)
def jA (m0 : Nat) (K : ASt → Prop) (σ : ASt) : Prop := ∃ ks, K (frzL ks σ) ∨ ∃ l m, m0 ≤ m ∧ gcOK l m (frzL ks σ) = true ∧ K ((frzL ks σ).gc l m)
def blockA (id : Nat) (Q : AX → ASt → Prop) : AX → ASt → Prop
 | .exit i, σ => if i = id then Q .normal σ else Q (.exit i) σ
 | e, σ => Q e σ
def roundsA (m0 : Nat) (body : (AX → ASt → Prop) → ASt → Prop) (Q : AX → ASt → Prop) : Nat → ASt → Prop
 | 0, _ => False
 | n + 1, σ => ∃ l m, m0 ≤ m ∧ gcOK l m σ = true ∧ body (contA (roundsA m0 body Q n) Q) (σ.gc l m)
def loopK (m0 : Nat) (body : (AX → ASt → Prop) → ASt → Prop) (Q : AX → ASt → Prop) (σ : ASt) : Prop := ∃ n, roundsA m0 body Q n σ
structure GoodC (n : Nat) (out : Nat → Nat) (m0 : Nat) (M : Mem) (B : Blk) (σ : ASt) (t : Array Value) (w : World) (M' : Mem) (B' : Blk) (σ' : ASt) (t' : Array Value) (w' : World) : Prop where
 inv : Inv n M' B' out σ' t' w'
 mem : ∀ (b o : Nat) (v : Value), M b o = some v → M' b o = some v
 pre : ∀ (i : Nat) (c : Nat × Nat × TypeId), i < m0 → B[i]? = some c → B'[i]? = some c
 fr : Fr (fp B σ t w) M w M' w'
 own : ∀ b, b < w.heap.size → fp B' σ' t' w' b ≤ fp B σ t w b
def lift (E : AE) (out : Nat → Nat) (m0 : Nat) (M : Mem) (B : Blk) (σ : ASt) (t : Array Value) (w : World) (ds : List Deferred) (Q : AX → ASt → Prop) (e : Exit) (a' : Act) (w' : World) : Prop :=
 ∃ ax σ' M' B', e = ax.toExit ∧ Q ax σ' ∧ a'.defers = ds ∧ GoodC E.n out m0 M B σ t w M' B' σ' a'.tmps w'
def MR (E : AE) (m0 : Nat) (x y : Code) (Q : AX → ASt → Prop) (σ : ASt) : Prop := ∀ (out : Nat → Nat) (M : Mem) (B : Blk) (a : Act) (w : World), Inv E.n M B out σ a.tmps w → (Code.seq x y).wp E.P (lift E out m0 M B σ a.tmps w a.defers Q) a w
def awp (E : AE) (m0 : Nat) : Code → (AX → ASt → Prop) → ASt → Prop
 | .skip, Q, σ => Q .normal σ
 | .region _ ops draw, Q, σ => if draw then awpDD E ops (Q .normal) (σ.head E) else awpOps E ops ops.toList (Q .normal) (σ.head E)
 | .seq x y, Q, σ => awp E m0 x (contA (jA m0 (awp E m0 y Q)) Q) σ ∨ MR E m0 x y Q σ
 | .cond c x y, Q, σ => match σ.rd c with
  | some (.bool b) => (b = true → awp E m0 x Q σ) ∧ (b = false → awp E m0 y Q σ)
  | _ => False
 | .block id x, Q, σ => awp E m0 x (blockA id Q) σ
 | .loop x, Q, σ => loopK m0 (awp E m0 x) Q σ
 | .exit id, Q, σ => Q (.exit id) σ
 | .ret, Q, σ => Q .ret σ
 | .scope x, Q, σ => awp E m0 x Q σ
 | .label _, Q, σ => Q .normal σ
 | .rangeFunc _ _ _ _, _, _ => False
 | .goto _, _, _ => False
 | .refuse _, _, _ => False
section
variable {n : Nat} {out : Nat → Nat} {m0 : Nat} {M M1 M2 : Mem} {B B1 B2 : Blk} {σ σ1 σ2 : ASt} {t t1 t2 : Array Value} {w w1 w2 : World} {E : AE}
theorem GoodC.trans (h : GoodC n out m0 M B σ t w M1 B1 σ1 t1 w1) (k : GoodC n out m0 M1 B1 σ1 t1 w1 M2 B2 σ2 t2 w2) : GoodC n out m0 M B σ t w M2 B2 σ2 t2 w2 :=
 ⟨k.inv, fun b o v e => k.mem b o v (h.mem b o v e), fun i c hi e => k.pre i c hi (h.pre i c hi e), h.fr.trans k.fr (fun b hb h0 => by have := h.own b hb; omega), fun b hb => Nat.le_trans (k.own b (Nat.lt_of_lt_of_le hb h.fr.size)) (h.own b hb)⟩
theorem Good.c (h : Good n out M B σ t w M1 B1 σ1 t1 w1) : GoodC n out m0 M B σ t w M1 B1 σ1 t1 w1 := ⟨h.inv, h.le.mem, fun i c _ e => h.le.blk i c e, h.fr, h.own⟩
theorem GoodC.refl (h : Inv n M B out σ t w) : GoodC n out m0 M B σ t w M B σ t w := (Good.refl h).c
theorem ownS_filter (f : Nat × PV → Bool) (b : Nat) : ∀ s : Slots, ownS (s.filter f) t b ≤ ownS s t b
 | [] => Nat.le_refl _
 | (k, p) :: l => by
  have := ownS_filter f b l
  rw [List.filter_cons]
  grind [ownS]
theorem sget_filter (f : Nat → Bool) {k : Nat} {p : PV} : ∀ {s : Slots}, sget k (s.filter fun kp => f kp.1) = some p → sget k s = some p
 | [], h => by simp_all
 | (j, q) :: l, h => by
  rw [List.filter_cons] at h
  split at h
  ·rw [sget] at h ⊢
   split at h
   simp_all
   ·rename_i e; rw [if_neg e]; exact sget_filter f h
  ·rename_i hf
   have := sget_filter f h
   rw [sget]
   split
   ·rename_i e; subst e
    have hm := sget_mem h
    rw [List.mem_filter] at hm
    simp_all
   omega
theorem ownH_take (m : Nat) (b : Nat) : ∀ (h : Objs) (B : Blk), ownH w (h.take m) (B.take m) b ≤ ownH w h B b := by
 induction m with
 | zero => intro h B; simp [ownH]
 | succ m ih =>
  intro h B
  cases h with
  | nil => simp [ownH]
  | cons x h =>
   cases B with
   | nil => cases x <;> simp [ownH]
   | cons c B =>
    have := ih h B
    cases x <;> simp only [List.take_succ_cons, ownH] <;> omega
theorem keep_good (hI : Inv n M B out σ t w) (l : List Nat) : Good n out M B σ t w M B (σ.keep l) t w := by
 have hle : ∀ b, fp B (σ.keep l) t w b ≤ fp B σ t w b := fun b => by
  have := ownS_filter (t := t) (fun kp => l.contains kp.1) b σ.s
  grind [fp, ASt.keep]
 exact ⟨⟨hI.size, hI.mem, List.Pairwise.sublist List.filter_sublist hI.srt, fun k p hp => hI.slots k p (sget_filter (fun k => l.contains k) hp), hI.heap, fun b => by have := hle b; have := hI.cnt b; omega, fun b hb => by have := hle b; have := hI.new b hb; omega⟩, MLe.refl _ _, Fr.refl _ _ _, fun b _ => hle b⟩
theorem ownS_frz {k : Nat} {p : PV} {b : Nat} (hk : k < t.size) (hs : Srt σ.s) : ownS (sput k p σ.s) t b + ownK σ.s t k b = ownS σ.s t b + ownV p (t.getD k undef) b := by
 have hset : t.setIfInBounds k (t.getD k undef) = t := by
  apply Array.ext (by simp)
  intro i h1 h2
  by_cases h : k = i
  simp_all
  simp_all
 have := ownS_put (p := p) (v := t.getD k undef) (b := b) hk hs
 rwa [hset] at this
theorem ownH_none {b : Nat} : ∀ {h : Objs} {B : Blk} {i : Nat} {cs : List PV} {c : Nat × Nat × TypeId}, h[i]? = some (some cs) → B[i]? = some c → ownH w (h.set i none) B b + ((if c.1 = b then 1 else 0) + ownC cs (cellsAt w c.1) b) = ownH w h B b
 | [], _, _, _, _, h, _ => by simp at h
 | _ :: _, [], _, _, _, _, h => by simp at h
 | some ds :: h, d :: B, 0, cs, c, h1, h2 => by grind [ownH]
 | none :: h, d :: B, 0, cs, c, h1, h2 => by simp at h1
 | some ds :: h, d :: B, i + 1, cs, c, h1, h2 => by have := ownH_none (b := b) (h := h) (B := B) (i := i) (cs := cs) (c := c) (by grind) (by grind); grind [ownH]
 | none :: h, d :: B, i + 1, cs, c, h1, h2 => by have := ownH_none (b := b) (h := h) (B := B) (i := i) (cs := cs) (c := c) (by grind) (by grind); grind [ownH]
theorem frz0_good (hI : Inv n M B out σ t w) (k : Nat) : ∃ M', GoodC n out m0 M B σ t w M' B (frz0 k σ) t w := by
 unfold frz0
 split
 case h_2 => exact ⟨M, GoodC.refl hI⟩
 rename_i i m hk
 split
 case h_2 => exact ⟨M, GoodC.refl hI⟩
 rename_i cs hi
 split
 case h_2 => exact ⟨M, GoodC.refl hI⟩
 rename_i hb
 simp only [Bool.and_eq_true, List.all_eq_true] at hb
 obtain ⟨hb1, hb2⟩ := hb
 have hm : cs.length = m := Nat.eq_of_beq_eq_true hb1
 obtain ⟨hkn, hrep, _⟩ := hI.slots k _ hk
 obtain ⟨c, cap, ⟨hc, hcm⟩, hv, hle, hcap⟩ := rep_slh.1 hrep
 obtain ⟨vs, ty, r1, o2, o3, o4, o5⟩ := hI.heap.at hi hc
 obtain ⟨ty, rfl, o1⟩ := rowAt_inv r1 (by rw [o2.2]; exact hcm)
 have hkt : k < t.size := by rw [hI.size]; exact hkn
 have hown : 1 ≤ ownH w σ.h B c.1 := by
  have := ownH_get (w := w) c.1 hi hc
  grind
 obtain ⟨M', hM'⟩ : ∃ M' : Mem, ∀ b o, M' b o = if b = c.1 then (if o < m then vs[o]? else none) else M b o := ⟨mkM _ _, mkM_of (glob_if o5)⟩
 have hmem : MLe M M' B B := ⟨fun b o v h => by
  have : b ≠ c.1 := fun e => by simp_all
  rw [hM']; simp_all, fun _ _ h => h⟩
 have hne : ∀ b, b ≠ c.1 → ∀ o, M' b o = M b o := fun b h o => by rw [hM']; simp_all
 have hcell : ∀ o, w.cell? ⟨c.1, o, none⟩ = vs[o]? := fun o => by simp [World.cell?, o1]
 have hS := fun b => ownS_frz (t := t) (p := .sl true 1 (cs.map PV.un)) (b := b) hkt hI.srt
 have hH := fun b => ownH_none (w := w) (b := b) hi hc
 have hvo : ∀ b, ownV (.sl true 1 (cs.map PV.un)) (t.getD k undef) b = if c.1 = b then 1 else 0 := fun b => by rw [hv]; rfl
 have hfp : ∀ b, fp B ⟨sput k (.sl true 1 (cs.map PV.un)) σ.s, σ.h.set i none⟩ t w b ≤ fp B σ t w b := fun b => by
  have h1 := hS b
  have h2 := hH b
  rw [hvo] at h1
  simp only [fp]; omega
 have hfc : ∀ b, 1 ≤ ownS σ.s t b → b ≠ c.1 := fun b h e => by
  subst e
  have := hI.cnt c.1
  grind [fp]
 have hreps : ∀ (j : Nat) e, (cs.map PV.un)[j]? = some e → Loc M' [] e c.1 (0 + j * 1) := fun j e he => by
  rw [List.getElem?_map] at he
  cases hcj : cs[j]? with
  | none => rw [hcj] at he; cases he
  | some q =>
   rw [hcj] at he
   cases he
   obtain ⟨v, hv', hr, _, _⟩ := o4 j q hcj
   have hj : j < m := by rw [← hm]; grind
   have hq := hb2 q (List.mem_of_getElem? hcj)
   have h1 : M' c.1 (0 + j * 1) = some v := by rw [hM']; simp_all
   have hone : q.isAgg = false ∧ ∀ ds, q ≠ .tuple ds := by
    have := hq.1
    cases q <;> first | (simp [PV.one] at this; done) | exact ⟨rfl, fun ds h => by cases h⟩
   rw [loc_un, loc_one hone.1 hone.2]
   exact ⟨v, h1, Rep.flat [] hq.2 (hr.mono hmem)⟩
 refine ⟨M', ⟨⟨hI.size, fun b o v h => ?_, sput_srt hI.srt, fun j p hj => ?_, ⟨by simp [hI.heap.1], fun i' cs' hi' => ?_⟩, fun b => by have := hfp b; have := hI.cnt b; omega, fun b hb => by have := hfp b; have := hI.new b hb; omega⟩, hmem.mem, fun _ _ _ h => h, ⟨rfl, rfl, rfl, Nat.le_refl _, fun b hb h0 => ⟨rfl, fun o => hne b (fun e => by grind [fp]) o⟩⟩, fun b _ => hfp b⟩⟩
 ·by_cases e : b = c.1
  ·subst e
   rw [hM'] at h
   simp only [if_true] at h
   split at h
   ·rename_i ho
    rw [hcell]
    refine ⟨h, ?_⟩
    obtain ⟨q, hq⟩ : ∃ q, cs[o]? = some q := ⟨_, List.getElem?_eq_getElem (by omega)⟩
    grind
   ·cases h
  ·rw [hne b e] at h; exact hI.mem b o v h
 ·rw [sget_sput j hI.srt] at hj
  split at hj
  ·rename_i e; subst e; injection hj with hj; subst hj
   refine ⟨hkn, ?_, ?_⟩
   ·rw [hv]
    refine rep_sl.2 ⟨some ⟨c.1, 0, none⟩, cap, by simp [hm], by simp_all, fun e he => ?_, (fun h => by cases h), fun _ => ⟨c.1, 0, rfl, locs_of hreps⟩⟩
    obtain ⟨q, hq, rfl⟩ := List.mem_map.1 he
    have := (hb2 q hq).1
    rw [un_size]
    cases q <;> first | (simp [PV.one] at this; done) | rfl
   ·refine tl_mk (fun l h => by cases h) ?_
    intro sz es A n' cap' e1 e2
    rw [hv] at e2
    grind
  ·rename_i hjk
   obtain ⟨s1, s2, s3⟩ := hI.slots j p hj
   refine ⟨s1, s2.mono hmem, s3.kept fun b ho => ⟨rfl, hne b (hfc b ?_)⟩⟩
   have := ownK_le (s := σ.s) (t := t) (k := j) (b := b)
   grind [ownK]
 ·have hii : i' ≠ i := fun e => by
   grind
  simp only at hi'
  rw [List.getElem?_set_ne (Ne.symm hii)] at hi'
  obtain ⟨c', hc', vs', ty', q1, q2, q3, q4, q5⟩ := hI.heap.2 i' cs' hi'
  have hoc : ∀ b, 1 ≤ (if c'.1 = b then 1 else 0) + ownC cs' (cellsAt w c'.1) b → b ≠ c.1 := fun b h e => by
   subst e
   have h2 := ownH_none (w := w) (b := c.1) hi hc
   have h3 := ownH_get (w := w) (h := σ.h.set i none) c.1 (by rw [List.getElem?_set_ne (Ne.symm hii)]; exact hi') hc'
   have := hI.cnt c.1
   grind [fp]
  refine ⟨c', hc', vs', ty', q1, q2, q3, fun j p hj => ?_, fun o => ?_⟩
  ·obtain ⟨v, a1, a2, a3, a4⟩ := q4 j p hj
   refine ⟨v, a1, a2.mono hmem, a3.kept fun b ho => ⟨rfl, hne b (hoc b ?_)⟩, a4⟩
   have := ownC_get b hj (by rw [cellsAt_eq q1]; grind : (cellsAt w c'.1)[j]? = some v)
   omega
  simp_all
theorem chunk_spec {sz : Nat} {cs : List PV} {n : Nat} (h0 : 0 < sz) (hn : n * sz ≤ cs.length) (h1 : ∀ p, p ∈ cs → p.one = true) : (chunkP sz cs n).length = n ∧ (∀ e, e ∈ chunkP sz cs n → e.size = sz) ∧
 ∀ (M : Mem) (b : Nat), (∀ (j : Nat) p, cs[j]? = some p → j < n * sz → Loc M [] p b j) → Locs M [] sz (chunkP sz cs n) b 0 := by
 by_cases h : sz = 1
 ·subst h
  have e : chunkP 1 cs n = (cs.take n).map PV.un := rfl
  rw [e]
  refine ⟨by simp; omega, fun e he => ?_, fun M b hc => locs_of fun j p hj => ?_⟩
  ·obtain ⟨q, hq, rfl⟩ := List.mem_map.1 he
   have := h1 q (List.mem_of_mem_take hq)
   rw [un_size]
   cases q <;> first | (simp [PV.one] at this; done) | rfl
  grind [loc_un]
 ·have e : chunkP sz cs n = (List.range n).map fun j => .agg (((cs.drop (j * sz)).take sz).map PV.un) := by
   grind [chunkP]
  rw [e]
  have hfit : ∀ j, j < n → j * sz + sz ≤ cs.length := fun j hj => by
   have : (j + 1) * sz ≤ n * sz := Nat.mul_le_mul_right _ hj
   rw [Nat.succ_mul] at this; omega
  refine ⟨by simp, fun e he => ?_, fun M b hc => locs_of fun j p hj => ?_⟩
  grind [PV.size]
  ·rw [List.getElem?_map] at hj
   cases hq : (List.range n)[j]? with
   | none => simp_all
   | some q =>
    obtain ⟨hlt, hq'⟩ := List.getElem?_eq_some_iff.1 hq
    simp at hlt hq'
    subst hq'
    rw [hq] at hj; injection hj with hj; subst hj
    refine loc_agg.2 (cells_of fun k r hr => ?_)
    rw [List.getElem?_map] at hr
    cases hd : ((cs.drop (j * sz)).take sz)[k]? with
    | none => simp_all
    | some r' =>
     simp [hd] at hr; subst hr
     have hk := (List.getElem?_eq_some_iff.1 hd).1
     simp at hk
     rw [List.getElem?_take, if_pos (by omega), List.getElem?_drop] at hd
     have hone := h1 r' (List.mem_of_getElem? hd)
     have := hc (j * sz + k) r' hd (by
      have : (j + 1) * sz ≤ n * sz := Nat.mul_le_mul_right _ hlt
      rw [Nat.succ_mul] at this; omega)
     obtain ⟨u, hu, hr⟩ := (loc_of_one hone).1 this
     exact ⟨u, by rw [Nat.zero_add]; exact hu, rep_un.2 hr⟩
theorem frzg_good (hI : Inv n M B out σ t w) (k : Nat) : ∃ M', GoodC n out m0 M B σ t w M' B (frzg k σ) t w := by
 unfold frzg
 split
 case h_2 => exact ⟨M, GoodC.refl hI⟩
 rename_i i m sz hk
 split
 case h_2 => exact ⟨M, GoodC.refl hI⟩
 rename_i cs hi
 split
 case h_2 => exact ⟨M, GoodC.refl hI⟩
 rename_i hb
 simp only [Bool.and_eq_true, List.all_eq_true, decide_eq_true_eq] at hb
 obtain ⟨⟨hb1, hb0⟩, hb2⟩ := hb
 obtain ⟨hkn, hrep, _⟩ := hI.slots k _ hk
 obtain ⟨c, cap, ⟨hc, hcm⟩, hv, hle, hcap⟩ := rep_slh.1 hrep
 obtain ⟨vs, ty, r1, o2, o3, o4, o5⟩ := hI.heap.at hi hc
 obtain ⟨ty, rfl, o1⟩ := rowAt_inv r1 (by rw [o2.2]; exact hcm)
 have hkt : k < t.size := by rw [hI.size]; exact hkn
 have hown : 1 ≤ ownH w σ.h B c.1 := by
  have := ownH_get (w := w) c.1 hi hc
  grind
 obtain ⟨M', hM'⟩ : ∃ M' : Mem, ∀ b o, M' b o = if b = c.1 then (if o < m * sz then vs[o]? else none) else M b o := ⟨mkM _ _, mkM_of (glob_if o5)⟩
 have hmem : MLe M M' B B := ⟨fun b o v h => by
  have : b ≠ c.1 := fun e => by simp_all
  rw [hM']; simp_all, fun _ _ h => h⟩
 have hne : ∀ b, b ≠ c.1 → ∀ o, M' b o = M b o := fun b h o => by rw [hM']; simp_all
 have hcell : ∀ o, w.cell? ⟨c.1, o, none⟩ = vs[o]? := fun o => by simp [World.cell?, o1]
 obtain ⟨k1, k2, k3⟩ := chunk_spec hb0 hb1 fun p hp => (hb2 p hp).1
 have hH := fun b => ownH_none (w := w) (b := b) hi hc
 have hS := fun b => ownS_frz (t := t) (p := .sl false sz (chunkP sz cs m)) (b := b) hkt hI.srt
 have hfp : ∀ b, fp B ⟨sput k (.sl false sz (chunkP sz cs m)) σ.s, σ.h.set i none⟩ t w b ≤ fp B σ t w b := fun b => by
  have h1 := hS b
  have h2 := hH b
  rw [ownV_no rfl] at h1
  simp only [fp]; omega
 have hfc : ∀ b, 1 ≤ ownS σ.s t b → b ≠ c.1 := fun b h e => by
  subst e
  have := hI.cnt c.1
  grind [fp]
 refine ⟨M', ⟨⟨hI.size, fun b o v h => ?_, sput_srt hI.srt, fun j p hj => ?_, ⟨by simp [hI.heap.1], fun i' cs' hi' => ?_⟩, fun b => by have := hfp b; have := hI.cnt b; omega, fun b hb => by have := hfp b; have := hI.new b hb; omega⟩, hmem.mem, fun _ _ _ h => h, ⟨rfl, rfl, rfl, Nat.le_refl _, fun b hb h0 => ⟨rfl, hne b (fun e => by grind [fp])⟩⟩, fun b _ => hfp b⟩⟩
 ·by_cases e : b = c.1
  ·subst e
   rw [hM'] at h
   simp only [if_true] at h
   split at h
   ·rename_i ho
    rw [hcell]
    refine ⟨h, ?_⟩
    obtain ⟨q, hq⟩ : ∃ q, cs[o]? = some q := ⟨_, List.getElem?_eq_getElem (by omega)⟩
    grind
   ·cases h
  ·rw [hne b e] at h; exact hI.mem b o v h
 ·rw [sget_sput j hI.srt] at hj
  split at hj
  ·rename_i e; subst e; injection hj with hj; subst hj
   refine ⟨hkn, ?_, tl_no rfl⟩
   rw [hv]
   refine rep_sl.2 ⟨some ⟨c.1, 0, none⟩, cap, by rw [k1], by rw [k1]; exact hle, k2, (fun h => by omega), fun _ => ⟨c.1, 0, rfl, k3 M' c.1 fun j q hq hlt => ?_⟩⟩
   obtain ⟨v, hv', hr, _, _⟩ := o4 j q hq
   have hq' := hb2 q (List.mem_of_getElem? hq)
   refine (loc_of_one hq'.1).2 ⟨v, ?_, Rep.flat [] hq'.2 (hr.mono hmem)⟩
   rw [hM']; simp_all
  ·rename_i hjk
   obtain ⟨s1, s2, s3⟩ := hI.slots j p hj
   refine ⟨s1, s2.mono hmem, s3.kept fun b ho => ⟨rfl, hne b (hfc b ?_)⟩⟩
   have := ownK_le (s := σ.s) (t := t) (k := j) (b := b)
   grind [ownK]
 ·have hii : i' ≠ i := fun e => by
   grind
  simp only at hi'
  rw [List.getElem?_set_ne (Ne.symm hii)] at hi'
  obtain ⟨c', hc', vs', ty', q1, q2, q3, q4, q5⟩ := hI.heap.2 i' cs' hi'
  have hoc : ∀ b, 1 ≤ (if c'.1 = b then 1 else 0) + ownC cs' (cellsAt w c'.1) b → b ≠ c.1 := fun b h e => by
   subst e
   have h2 := ownH_none (w := w) (b := c.1) hi hc
   have h3 := ownH_get (w := w) (h := σ.h.set i none) c.1 (by rw [List.getElem?_set_ne (Ne.symm hii)]; exact hi') hc'
   have := hI.cnt c.1
   grind [fp]
  refine ⟨c', hc', vs', ty', q1, q2, q3, fun j p hj => ?_, fun o => ?_⟩
  ·obtain ⟨v, a1, a2, a3, a4⟩ := q4 j p hj
   refine ⟨v, a1, a2.mono hmem, a3.kept fun b ho => ⟨rfl, hne b (hoc b ?_)⟩, a4⟩
   have := ownC_get b hj (by rw [cellsAt_eq q1]; grind : (cellsAt w c'.1)[j]? = some v)
   omega
  simp_all
theorem frzQ_good (hI : Inv n M B out σ t w) (k : Nat) : ∃ M', GoodC n out m0 M B σ t w M' B (frzQ k σ) t w := by
 unfold frzQ
 split
 case h_2 => exact ⟨M, GoodC.refl hI⟩
 rename_i i hk
 split
 case h_2 => exact ⟨M, GoodC.refl hI⟩
 rename_i cs hi
 split
 case h_2 => exact ⟨M, GoodC.refl hI⟩
 rename_i hb
 simp only [Bool.and_eq_true, List.all_eq_true, decide_eq_true_eq] at hb
 obtain ⟨hb0, hb2⟩ := hb
 generalize hsz : cs.length = sz at hb0 ⊢
 have hb1 : 1 * sz ≤ cs.length := by omega
 obtain ⟨hkn, hrep, _⟩ := hI.slots k _ hk
 obtain ⟨c, ⟨hc, hcm⟩, hv⟩ := rep_ptr.1 hrep
 obtain ⟨vs, ty, r1, o2, o3, o4, o5⟩ := hI.heap.at hi hc
 obtain ⟨ty, rfl, o1⟩ := rowAt_inv r1 (by rw [o2.2]; exact hcm)
 have hkt : k < t.size := by rw [hI.size]; exact hkn
 have hown : 1 ≤ ownH w σ.h B c.1 := by
  have := ownH_get (w := w) c.1 hi hc
  grind
 obtain ⟨M', hM'⟩ : ∃ M' : Mem, ∀ b o, M' b o = if b = c.1 then (if o < 1 * sz then vs[o]? else none) else M b o := ⟨mkM _ _, mkM_of (glob_if o5)⟩
 have hmem : MLe M M' B B := ⟨fun b o v h => by
  have : b ≠ c.1 := fun e => by simp_all
  rw [hM']; simp_all, fun _ _ h => h⟩
 have hne : ∀ b, b ≠ c.1 → ∀ o, M' b o = M b o := fun b h o => by rw [hM']; simp_all
 have hcell : ∀ o, w.cell? ⟨c.1, o, none⟩ = vs[o]? := fun o => by simp [World.cell?, o1]
 obtain ⟨k1, k2, k3⟩ := chunk_spec hb0 hb1 fun p hp => (hb2 p hp).1
 obtain ⟨x, hx⟩ : ∃ x, chunkP sz cs 1 = [x] := by
  match hh : chunkP sz cs 1, k1 with
  | [x], _ => simp
 rw [hx] at k3 ⊢
 show ∃ M', GoodC n out m0 M B σ t w M' B ⟨sput k (.cst x) σ.s, σ.h.set i none⟩ t w
 have hH := fun b => ownH_none (w := w) (b := b) hi hc
 have hS := fun b => ownS_frz (t := t) (p := .cst x) (b := b) hkt hI.srt
 have hfp : ∀ b, fp B ⟨sput k (.cst x) σ.s, σ.h.set i none⟩ t w b ≤ fp B σ t w b := fun b => by
  have h1 := hS b
  have h2 := hH b
  rw [ownV_no rfl] at h1
  simp only [fp]; omega
 have hfc : ∀ b, 1 ≤ ownS σ.s t b → b ≠ c.1 := fun b h e => by
  subst e
  have := hI.cnt c.1
  grind [fp]
 refine ⟨M', ⟨⟨hI.size, fun b o v h => ?_, sput_srt hI.srt, fun j p hj => ?_, ⟨by simp [hI.heap.1], fun i' cs' hi' => ?_⟩, fun b => by have := hfp b; have := hI.cnt b; omega, fun b hb => by have := hfp b; have := hI.new b hb; omega⟩, hmem.mem, fun _ _ _ h => h, ⟨rfl, rfl, rfl, Nat.le_refl _, fun b hb h0 => ⟨rfl, hne b (fun e => by grind [fp])⟩⟩, fun b _ => hfp b⟩⟩
 ·by_cases e : b = c.1
  ·subst e
   rw [hM'] at h
   simp only [if_true] at h
   split at h
   ·rename_i ho
    rw [hcell]
    refine ⟨h, ?_⟩
    obtain ⟨q, hq⟩ : ∃ q, cs[o]? = some q := ⟨_, List.getElem?_eq_getElem (by omega)⟩
    grind
   ·cases h
  ·rw [hne b e] at h; exact hI.mem b o v h
 ·rw [sget_sput j hI.srt] at hj
  split at hj
  ·rename_i e; subst e; injection hj with hj; subst hj
   refine ⟨hkn, ?_, tl_no rfl⟩
   rw [hv]
   refine rep_cst.2 ⟨c.1, 0, rfl, (locs_cons.1 (k3 M' c.1 fun j q hq hlt => ?_)).1⟩
   obtain ⟨v, hv', hr, _, _⟩ := o4 j q hq
   have hq' := hb2 q (List.mem_of_getElem? hq)
   refine (loc_of_one hq'.1).2 ⟨v, ?_, Rep.flat [] hq'.2 (hr.mono hmem)⟩
   rw [hM']; simp_all
  ·rename_i hjk
   obtain ⟨s1, s2, s3⟩ := hI.slots j p hj
   refine ⟨s1, s2.mono hmem, s3.kept fun b ho => ⟨rfl, hne b (hfc b ?_)⟩⟩
   have := ownK_le (s := σ.s) (t := t) (k := j) (b := b)
   grind [ownK]
 ·have hii : i' ≠ i := fun e => by
   grind
  simp only at hi'
  rw [List.getElem?_set_ne (Ne.symm hii)] at hi'
  obtain ⟨c', hc', vs', ty', q1, q2, q3, q4, q5⟩ := hI.heap.2 i' cs' hi'
  have hoc : ∀ b, 1 ≤ (if c'.1 = b then 1 else 0) + ownC cs' (cellsAt w c'.1) b → b ≠ c.1 := fun b h e => by
   subst e
   have h2 := ownH_none (w := w) (b := c.1) hi hc
   have h3 := ownH_get (w := w) (h := σ.h.set i none) c.1 (by rw [List.getElem?_set_ne (Ne.symm hii)]; exact hi') hc'
   have := hI.cnt c.1
   grind [fp]
  refine ⟨c', hc', vs', ty', q1, q2, q3, fun j p hj => ?_, fun o => ?_⟩
  ·obtain ⟨v, a1, a2, a3, a4⟩ := q4 j p hj
   refine ⟨v, a1, a2.mono hmem, a3.kept fun b ho => ⟨rfl, hne b (hoc b ?_)⟩, a4⟩
   have := ownC_get b hj (by rw [cellsAt_eq q1]; grind : (cellsAt w c'.1)[j]? = some v)
   omega
  simp_all
theorem lit_own {p : PV} (h : p.lit = true) : p.own = false := by cases p <;> first | rfl | (simp [PV.lit] at h)
theorem ownC_lit {cs : List PV} {us : List Value} {b : Nat} (h : ∀ p, p ∈ cs → p.own = false) : ownC cs us b = 0 := by
 induction cs generalizing us with
 | nil => cases us <;> rfl
 | cons p cs ih =>
  cases us with
  | nil => rfl
  | cons u us => rw [ownC, ownV_no (h p (by simp)), ih fun q hq => h q (by simp [hq])]
theorem ownC_set {p0 q : PV} {v : Value} {b : Nat} (hq : q.own = false) : ∀ (cs : List PV) (us : List Value) (j : Nat), cs[j]? = some p0 → us[j]? = some v → ownC (cs.set j q) us b + ownV p0 v b = ownC cs us b := by
 intro cs
 induction cs with
 | nil => simp
 | cons c cs ih =>
  intro us j h1 h2
  cases us with
  | nil => simp at h2
  | cons u us =>
   cases j with
   | zero => grind [ownC, ownV_no]
   | succ j => have := ih us j (by grind) (by grind); grind [ownC]
theorem ownH_setC {cs cs' : List PV} {c : Nat × Nat × TypeId} {k b : Nat} (hk : ownC cs' (cellsAt w c.1) b + k = ownC cs (cellsAt w c.1) b) : ∀ (h : Objs) (B : Blk) (i : Nat), h[i]? = some (some cs) → B[i]? = some c → ownH w (h.set i (some cs')) B b + k = ownH w h B b := by
 intro h
 induction h with
 | nil => simp
 | cons x h ih =>
  intro B i h1 h2
  cases B with
  | nil => simp at h2
  | cons d B =>
   cases i with
   | zero => grind [ownH]
   | succ i =>
    simp at h1 h2
    have := ih B i h1 h2
    cases x <;> simp only [List.set_cons_succ, ownH] <;> omega
theorem slp_row {M : Mem} {w : World} {k sz : Nat} {cs : List PV} {v : Value} (hr : Rep M B (.slp true k sz cs) v) (hT : Tl M w (.slp true k sz cs) v) (hk : 1 ≤ k) :
 ∃ g cap vs ty, v = .slice (some ⟨g, 0, none⟩) k cap ∧ k ≤ cap ∧ w.heap[g]? = some (.cells vs ty (0, 0)) ∧ cap * sz ≤ vs.size ∧ cs.length = k * sz ∧ 0 < sz ∧ (∀ (j : Nat) p, cs[j]? = some p → p.lit = true ∧ ∃ u, vs[j]? = some u ∧ Rep noM [] p u ∧ u.oneCell' = true) ∧ ∀ o, M g o = none := by
 obtain ⟨A, cap, e1, hle⟩ := rep_slp.1 hr
 obtain ⟨⟨h1, h2⟩, h3, h4⟩ := hT.p _ _ _ _ _ _ rfl e1
 cases A with
 | none => have := h3 rfl; omega
 | some ad =>
  obtain ⟨vs, ty, g1, g2, g3, g4, g5, g6⟩ := h4 ad rfl
  obtain ⟨g, off, spot⟩ := ad
  simp only at g1 g4 g5 g6
  subst g5; subst g6
  exact ⟨g, cap, vs, ty, e1, hle, g1, g2, h1, h2, g3, g4⟩
theorem slp_none {M : Mem} {w : World} {k sz : Nat} {cs : List PV} {v : Value} (hr : Rep M B (.slp true k sz cs) v) (hT : Tl M w (.slp true k sz cs) v) (hk : k = 0) : Rep M B (.sl false sz []) v := by
 obtain ⟨A, cap, e1, hle⟩ := rep_slp.1 hr
 obtain ⟨⟨h1, h2⟩, h3, h4⟩ := hT.p _ _ _ _ _ _ rfl e1
 subst hk
 exact rep_sl.2 ⟨A, cap, e1, Nat.zero_le _, by simp, fun h => by omega, by simp⟩
theorem thw_good (hI : Inv n M B out σ t w) (k : Nat) : ∃ B', GoodC n out m0 M B σ t w M B' (thw k σ) t w := by
 unfold thw
 split
 case h_2 => exact ⟨B, GoodC.refl hI⟩
 rename_i m sz cs hk
 obtain ⟨hkn, hrep, hT⟩ := hI.slots k _ hk
 have hkt : k < t.size := by rw [hI.size]; exact hkn
 split
 ·rename_i hm
  have hm := Nat.le_of_ble_eq_true hm
  obtain ⟨g, cap, vs, ty, hv, hle, r1, r2, r3, r4, r5, r6⟩ := slp_row hrep hT hm
  have hBl : σ.h.length = B.length := hI.heap.1
  have hle2 : MLe M M B (B ++ [(g, vs.size, ty + 1)]) := ⟨fun _ _ _ h => h, fun i c h => by rw [List.getElem?_append_left (List.getElem?_eq_some_iff.1 h).1]; exact h⟩
  have hown : ∀ p, p ∈ cs → p.own = false := fun p hp => by
   obtain ⟨j, hj⟩ := List.mem_iff_getElem?.1 hp
   grind [lit_own]
  have hfp : ∀ b, fp (B ++ [(g, vs.size, ty + 1)]) ⟨sput k (.slh σ.h.length 0 m sz) σ.s, σ.h ++ [some cs]⟩ t w b = fp B σ t w b := fun b => by
   have h1 := ownS_frz (t := t) (p := .slh σ.h.length 0 m sz) (b := b) hkt hI.srt
   rw [ownV_no rfl, ownK, hk] at h1
   grind [ownV, PV.own, fp, ownH_append, ownC_lit]
  refine ⟨B ++ [(g, vs.size, ty + 1)], ⟨⟨hI.size, hI.mem, sput_srt hI.srt, fun j p hj => ?_, ⟨by simp [hBl], fun i cs' hi => ?_⟩, fun b => by rw [hfp]; exact hI.cnt b, fun b hb => by rw [hfp]; exact hI.new b hb⟩, fun _ _ _ h => h, fun i c _ h => hle2.blk i c h, Fr.refl _ _ _, fun b _ => by rw [hfp]; omega⟩⟩
  ·rw [sget_sput j hI.srt] at hj
   split at hj
   ·rename_i e; subst e; injection hj with hj; subst hj
    exact ⟨hkn, by rw [hv]; exact rep_slh.2 ⟨(g, vs.size, ty + 1), cap, ⟨by rw [hBl]; simp, by simp⟩, rfl, hle, by grind⟩, tl_no rfl⟩
   ·obtain ⟨s1, s2, s3⟩ := hI.slots j p hj
    exact ⟨s1, s2.mono hle2, s3⟩
  ·rcases Nat.lt_or_ge i σ.h.length with hlt | hge
   ·simp only at hi
    rw [List.getElem?_append_left hlt] at hi
    obtain ⟨c, hc, vs', ty', q1, q2, q3, q4, q5⟩ := hI.heap.2 i cs' hi
    exact ⟨c, hle2.blk _ _ hc, vs', ty', q1, q2, q3, fun j p hj => by obtain ⟨v, a1, a2, a3, a4⟩ := q4 j p hj; exact ⟨v, a1, a2.mono hle2, a3, a4⟩, q5⟩
   ·simp only at hi
    rw [List.getElem?_append_right hge] at hi
    have : i - σ.h.length = 0 := by
     grind
    rw [this] at hi
    simp at hi; subst hi
    have hi' : i = B.length := by omega
    subst hi'
    refine ⟨(g, vs.size, ty + 1), by simp, vs, ty + 1, rowAt_of r1, ⟨rfl, rfl⟩, ?_, fun j p hj => ?_, r6⟩
    ·rw [r3]; exact Nat.le_trans (Nat.mul_le_mul_right _ hle) r2
    grind [lit_any, tl_no]
 ·rename_i hm
  have hm0 : m = 0 := by
   grind [Nat.ble_eq_true_of_le]
  have hfp : ∀ b, fp B ⟨sput k (.sl false sz []) σ.s, σ.h⟩ t w b ≤ fp B σ t w b := fun b => by
   have h1 := ownS_frz (t := t) (p := .sl false sz []) (b := b) hkt hI.srt
   rw [ownV_no rfl] at h1
   simp only [fp]; omega
  refine ⟨B, ⟨⟨hI.size, hI.mem, sput_srt hI.srt, fun j p hj => ?_, hI.heap, fun b => by have := hfp b; have := hI.cnt b; omega, fun b hb => by have := hfp b; have := hI.new b hb; omega⟩, fun _ _ _ h => h, fun i c _ h => h, Fr.refl _ _ _, fun b _ => hfp b⟩⟩
  rw [sget_sput j hI.srt] at hj
  split at hj
  ·rename_i e; subst e; injection hj with hj; subst hj
   exact ⟨hkn, slp_none hrep hT hm0, tl_no rfl⟩
  ·exact hI.slots j p hj
theorem thwC_good (hI : Inv n M B out σ t w) (k j : Nat) : ∃ B', GoodC n out m0 M B σ t w M B' (thwC k j σ) t w := by
 unfold thwC
 split
 case h_2 => exact ⟨B, GoodC.refl hI⟩
 rename_i i hk
 split
 case h_2 => exact ⟨B, GoodC.refl hI⟩
 rename_i cs0 hi
 split
 case h_2 => exact ⟨B, GoodC.refl hI⟩
 rename_i m sz cs hj
 obtain ⟨c, hc, vs0, ty0, o1, o2, o3, o4, o5⟩ := hI.heap.2 i cs0 hi
 obtain ⟨v, hv0, hrep, hT, hone⟩ := o4 j _ hj
 have hBl : σ.h.length = B.length := hI.heap.1
 have hil := (List.getElem?_eq_some_iff.1 hi).1
 have hcs : ∀ (q : PV) (b : Nat), q.own = false → ownC (cs0.set j q) (cellsAt w c.1) b + ownV (.slp true m sz cs) v b = ownC cs0 (cellsAt w c.1) b := fun q b hq => by
  rw [cellsAt_eq o1]; grind [ownC_set]
 split
 ·rename_i hm
  have hm := Nat.le_of_ble_eq_true hm
  obtain ⟨g, cap, vs, ty, hv, hle, r1, r2, r3, r4, r5, r6⟩ := slp_row hrep hT hm
  have hle2 : MLe M M B (B ++ [(g, vs.size, ty + 1)]) := ⟨fun _ _ _ h => h, fun i c h => by rw [List.getElem?_append_left (List.getElem?_eq_some_iff.1 h).1]; exact h⟩
  have hown : ∀ p, p ∈ cs → p.own = false := fun p hp => by
   obtain ⟨j, hj⟩ := List.mem_iff_getElem?.1 hp
   grind [lit_own]
  have hfp : ∀ b, fp (B ++ [(g, vs.size, ty + 1)]) ⟨σ.s, σ.h.set i (some (cs0.set j (.slh σ.h.length 0 m sz))) ++ [some cs]⟩ t w b = fp B σ t w b := fun b => by
   have h1 := ownH_setC (hcs (.slh σ.h.length 0 m sz) b rfl) σ.h B i hi hc
   grind [ownV, PV.own, fp, ownH_append, ownC_lit]
  refine ⟨B ++ [(g, vs.size, ty + 1)], ⟨⟨hI.size, hI.mem, hI.srt, fun j p hj => ?_, ⟨by simp [hBl], fun i' cs' hi' => ?_⟩, fun b => by rw [hfp]; exact hI.cnt b, fun b hb => by rw [hfp]; exact hI.new b hb⟩, fun _ _ _ h => h, fun i c _ h => hle2.blk i c h, Fr.refl _ _ _, fun b _ => by rw [hfp]; omega⟩⟩
  ·obtain ⟨s1, s2, s3⟩ := hI.slots j p hj
   exact ⟨s1, s2.mono hle2, s3⟩
  ·simp only at hi'
   rcases Nat.lt_or_ge i' σ.h.length with hlt | hge
   ·rw [List.getElem?_append_left (by rw [List.length_set]; exact hlt)] at hi'
    by_cases hii : i' = i
    ·subst hii
     rw [List.getElem?_set_self hil] at hi'
     injection hi' with hi'; injection hi' with hi'; subst hi'
     refine ⟨c, hle2.blk _ _ hc, vs0, ty0, o1, o2, by rw [List.length_set]; exact o3, fun j' p hj' => ?_, o5⟩
     by_cases hjj : j = j'
     ·subst hjj
      rw [List.getElem?_set_self (List.getElem?_eq_some_iff.1 hj).1] at hj'
      injection hj' with hj'; subst hj'
      exact ⟨v, hv0, by rw [hv]; exact rep_slh.2 ⟨(g, vs.size, ty + 1), cap, ⟨by rw [hBl]; simp, by simp⟩, rfl, hle, by grind⟩, tl_no rfl, hone⟩
     ·rw [List.getElem?_set_ne hjj] at hj'
      obtain ⟨u, a1, a2, a3, a4⟩ := o4 j' p hj'
      exact ⟨u, a1, a2.mono hle2, a3, a4⟩
    ·rw [List.getElem?_set_ne (Ne.symm hii)] at hi'
     obtain ⟨c, hc, vs', ty', q1, q2, q3, q4, q5⟩ := hI.heap.2 i' cs' hi'
     exact ⟨c, hle2.blk _ _ hc, vs', ty', q1, q2, q3, fun j p hj => by obtain ⟨v, a1, a2, a3, a4⟩ := q4 j p hj; exact ⟨v, a1, a2.mono hle2, a3, a4⟩, q5⟩
   ·rw [List.getElem?_append_right (by rw [List.length_set]; exact hge), List.length_set] at hi'
    have : i' - σ.h.length = 0 := by
     grind
    rw [this] at hi'
    simp at hi'; subst hi'
    have hi2 : i' = B.length := by omega
    subst hi2
    refine ⟨(g, vs.size, ty + 1), by simp, vs, ty + 1, rowAt_of r1, ⟨rfl, rfl⟩, ?_, fun j p hj => ?_, r6⟩
    ·rw [r3]; exact Nat.le_trans (Nat.mul_le_mul_right _ hle) r2
    grind [lit_any, tl_no]
 ·rename_i hm
  have hm0 : m = 0 := by
   grind [Nat.ble_eq_true_of_le]
  have hfp : ∀ b, fp B ⟨σ.s, σ.h.set i (some (cs0.set j (.sl false sz [])))⟩ t w b ≤ fp B σ t w b := fun b => by
   have h1 := ownH_setC (hcs (.sl false sz []) b rfl) σ.h B i hi hc
   simp only [fp]; omega
  refine ⟨B, ⟨⟨hI.size, hI.mem, hI.srt, hI.slots, ⟨by simp [hBl], fun i' cs' hi' => ?_⟩, fun b => by have := hfp b; have := hI.cnt b; omega, fun b hb => by have := hfp b; have := hI.new b hb; omega⟩, fun _ _ _ h => h, fun i c _ h => h, Fr.refl _ _ _, fun b _ => hfp b⟩⟩
  simp only at hi'
  by_cases hii : i' = i
  ·subst hii
   rw [List.getElem?_set_self hil] at hi'
   injection hi' with hi'; injection hi' with hi'; subst hi'
   refine ⟨c, hc, vs0, ty0, o1, o2, by rw [List.length_set]; exact o3, fun j' p hj' => ?_, o5⟩
   by_cases hjj : j = j'
   ·subst hjj
    rw [List.getElem?_set_self (List.getElem?_eq_some_iff.1 hj).1] at hj'
    injection hj' with hj'; subst hj'
    exact ⟨v, hv0, slp_none hrep hT hm0, tl_no rfl, hone⟩
   simp_all
  ·rw [List.getElem?_set_ne (Ne.symm hii)] at hi'
   exact hI.heap.2 i' cs' hi'
theorem frzC_good (hI : Inv n M B out σ t w) (k j : Nat) : ∃ M', GoodC n out m0 M B σ t w M' B (frzC k j σ) t w := by
 unfold frzC
 split
 case h_2 => exact ⟨M, GoodC.refl hI⟩
 rename_i i2 hk
 split
 case h_2 => exact ⟨M, GoodC.refl hI⟩
 rename_i cs0 hi2
 split
 case h_2 => exact ⟨M, GoodC.refl hI⟩
 rename_i i m sz hj
 split
 case h_2 => exact ⟨M, GoodC.refl hI⟩
 rename_i cs hi
 split
 case h_2 => exact ⟨M, GoodC.refl hI⟩
 rename_i hb
 simp only [Bool.and_eq_true, List.all_eq_true, decide_eq_true_eq, Bool.not_eq_true'] at hb
 obtain ⟨⟨⟨hb1, hb0⟩, hb2⟩, hbn⟩ := hb
 have hii2 : i ≠ i2 := fun e => by simp_all
 obtain ⟨c2, hc2, vs2, ty2, p1, p2, p3, p4, p5⟩ := hI.heap.2 i2 cs0 hi2
 obtain ⟨v, hv0, hrep, _, hone⟩ := p4 j _ hj
 obtain ⟨c, cap, ⟨hc, hcm⟩, hv, hle, hcap⟩ := rep_slh.1 hrep
 obtain ⟨vs, ty, r1, o2, o3, o4, o5⟩ := hI.heap.at hi hc
 obtain ⟨ty, rfl, o1⟩ := rowAt_inv r1 (by rw [o2.2]; exact hcm)
 have hown : 1 ≤ ownH w σ.h B c.1 := by
  have := ownH_get (w := w) c.1 hi hc
  grind
 obtain ⟨M', hM'⟩ : ∃ M' : Mem, ∀ b o, M' b o = if b = c.1 then (if o < m * sz then vs[o]? else none) else M b o := ⟨mkM _ _, mkM_of (glob_if o5)⟩
 have hmem : MLe M M' B B := ⟨fun b o v h => by
  have : b ≠ c.1 := fun e => by simp_all
  rw [hM']; simp_all, fun _ _ h => h⟩
 have hne : ∀ b, b ≠ c.1 → ∀ o, M' b o = M b o := fun b h o => by rw [hM']; simp_all
 have hcell : ∀ o, w.cell? ⟨c.1, o, none⟩ = vs[o]? := fun o => by simp [World.cell?, o1]
 obtain ⟨k1, k2, k3⟩ := chunk_spec hb0 hb1 fun p hp => (hb2 p hp).1
 have hH := fun b => ownH_none (w := w) (b := b) hi hc
 have hi2' : (σ.h.set i none)[i2]? = some (some cs0) := by rw [List.getElem?_set_ne hii2]; exact hi2
 have hcs : ∀ b, ownC (cs0.set j (.sl false sz (chunkP sz cs m))) (cellsAt w c2.1) b + ownV (.slh i 0 m sz) v b = ownC cs0 (cellsAt w c2.1) b := fun b => by
  rw [cellsAt_eq p1]; exact ownC_set rfl cs0 vs2.toList j hj (by simp_all)
 have hfp : ∀ b, fp B ⟨σ.s, (σ.h.set i none).set i2 (some (cs0.set j (.sl false sz (chunkP sz cs m))))⟩ t w b ≤ fp B σ t w b := fun b => by
  have h1 := ownH_setC (hcs b) (σ.h.set i none) B i2 hi2' hc2
  have h2 := hH b
  simp only [fp]; omega
 have hfc : ∀ b, 1 ≤ ownS σ.s t b → b ≠ c.1 := fun b h e => by
  subst e
  have := hI.cnt c.1
  grind [fp]
 have hother : ∀ {i' : Nat} {cs' : List PV} {c' : Nat × Nat × TypeId} {b : Nat}, i' ≠ i → σ.h[i']? = some (some cs') → B[i']? = some c' → 1 ≤ (if c'.1 = b then 1 else 0) + ownC cs' (cellsAt w c'.1) b → b ≠ c.1 := fun {i' cs' c' b} hii hi' hc' h e => by
  subst e
  have h2 := ownH_none (w := w) (b := c.1) hi hc
  have h3 := ownH_get (w := w) (h := σ.h.set i none) c.1 (by rw [List.getElem?_set_ne (Ne.symm hii)]; exact hi') hc'
  have := hI.cnt c.1
  grind [fp]
 refine ⟨M', ⟨⟨hI.size, fun b o v h => ?_, hI.srt, fun j p hj => ?_, ⟨by simp [hI.heap.1], fun i' cs' hi' => ?_⟩, fun b => by have := hfp b; have := hI.cnt b; omega, fun b hb => by have := hfp b; have := hI.new b hb; omega⟩, hmem.mem, fun _ _ _ h => h, ⟨rfl, rfl, rfl, Nat.le_refl _, fun b hb h0 => ⟨rfl, hne b (fun e => by grind [fp])⟩⟩, fun b _ => hfp b⟩⟩
 ·by_cases e : b = c.1
  ·subst e
   rw [hM'] at h
   simp only [if_true] at h
   split at h
   ·rename_i ho
    rw [hcell]
    refine ⟨h, ?_⟩
    obtain ⟨q, hq⟩ : ∃ q, cs[o]? = some q := ⟨_, List.getElem?_eq_getElem (by omega)⟩
    grind
   ·cases h
  ·rw [hne b e] at h; exact hI.mem b o v h
 ·obtain ⟨s1, s2, s3⟩ := hI.slots j p hj
  refine ⟨s1, s2.mono hmem, s3.kept fun b ho => ⟨rfl, hne b (hfc b ?_)⟩⟩
  have := ownK_le (s := σ.s) (t := t) (k := j) (b := b)
  grind [ownK]
 ·by_cases hi22 : i' = i2
  ·subst hi22
   simp only at hi'
   rw [List.getElem?_set_self (by rw [List.length_set]; grind)] at hi'
   injection hi' with hi'; injection hi' with hi'; subst hi'
   refine ⟨c2, hc2, vs2, ty2, p1, p2, by rw [List.length_set]; exact p3, fun j' p hj' => ?_, fun o => ?_⟩
   ·by_cases hjj : j = j'
    ·subst hjj
     rw [List.getElem?_set_self (List.getElem?_eq_some_iff.1 hj).1] at hj'
     injection hj' with hj'; subst hj'
     refine ⟨v, hv0, ?_, tl_no rfl, hone⟩
     rw [hv]
     refine rep_sl.2 ⟨some ⟨c.1, 0, none⟩, cap, by rw [k1], by rw [k1]; exact hle, k2, (fun h => by omega), fun _ => ⟨c.1, 0, rfl, k3 M' c.1 fun j q hq hlt => ?_⟩⟩
     obtain ⟨v, hv', hr, _, _⟩ := o4 j q hq
     have hq' := hb2 q (List.mem_of_getElem? hq)
     refine (loc_of_one hq'.1).2 ⟨v, ?_, Rep.flat [] hq'.2 (hr.mono hmem)⟩
     rw [hM']; simp_all
    ·rw [List.getElem?_set_ne hjj] at hj'
     obtain ⟨u, a1, a2, a3, a4⟩ := p4 j' p hj'
     refine ⟨u, a1, a2.mono hmem, a3.kept fun b ho => ⟨rfl, hne b (hother (Ne.symm hii2) hi2 hc2 ?_)⟩, a4⟩
     have := ownC_get b hj' (by rw [cellsAt_eq p1]; grind : (cellsAt w c2.1)[j']? = some u)
     omega
   grind
  ·have hii : i' ≠ i := fun e => by
    grind
   simp only at hi'
   rw [List.getElem?_set_ne (Ne.symm hi22), List.getElem?_set_ne (Ne.symm hii)] at hi'
   obtain ⟨c', hc', vs', ty', q1, q2, q3, q4, q5⟩ := hI.heap.2 i' cs' hi'
   refine ⟨c', hc', vs', ty', q1, q2, q3, fun j p hj => ?_, fun o => ?_⟩
   ·obtain ⟨v, a1, a2, a3, a4⟩ := q4 j p hj
    refine ⟨v, a1, a2.mono hmem, a3.kept fun b ho => ⟨rfl, hne b (hother hii hi' hc' ?_)⟩, a4⟩
    have := ownC_get b hj (by rw [cellsAt_eq q1]; grind : (cellsAt w c'.1)[j]? = some v)
    omega
   grind
theorem frz_good (hI : Inv n M B out σ t w) (k : Nat) : ∃ M' B', GoodC n out m0 M B σ t w M' B' (frz1 k σ) t w := by
 unfold frz1
 split
 ·obtain ⟨M', h⟩ := frzQ_good (m0 := m0) hI (k - 9000000)
  grind
 split
 ·obtain ⟨M', h⟩ := frzC_good (m0 := m0) hI ((k - 5000000) / 100) ((k - 5000000) % 100)
  grind
 split
 ·obtain ⟨B', h⟩ := thwC_good (m0 := m0) hI ((k - 4000000) / 100) ((k - 4000000) % 100)
  grind
 split
 ·obtain ⟨B', h⟩ := thw_good (m0 := m0) hI ((k - 3000000) % 500000)
  grind
 split
 ·obtain ⟨M', h⟩ := frzg_good (m0 := m0) hI (k - 1000000)
  grind
 ·obtain ⟨M', h⟩ := frz0_good (m0 := m0) hI k
  grind
theorem frzL_good : ∀ (ks : List Nat) {M : Mem} {B : Blk} {σ : ASt}, Inv n M B out σ t w → ∃ M' B', GoodC n out m0 M B σ t w M' B' (frzL ks σ) t w
 | [], M, B, _, hI => ⟨M, B, GoodC.refl hI⟩
 | k :: ks, M, B, σ, hI => by
  obtain ⟨M1, B1, h1⟩ := frz_good (m0 := m0) hI k
  obtain ⟨M2, B2, h2⟩ := frzL_good ks h1.inv
  exact ⟨M2, B2, h1.trans h2⟩
theorem gc_good (hI : Inv n M B out σ t w) {l : List Nat} {m : Nat} (hm : m0 ≤ m) (hg : gcOK l m σ = true) : GoodC n out m0 M B σ t w M (B.take m) (σ.gc l m) t w := by
 unfold gcOK at hg
 simp only [Bool.and_eq_true, List.all_eq_true] at hg
 obtain ⟨g1, g2⟩ := hg
 have hle : ∀ b, fp (B.take m) (σ.gc l m) t w b ≤ fp B σ t w b := fun b => by
  have h1 := ownS_filter (t := t) (fun kp => l.contains kp.1) b σ.s
  have h2 := ownH_take (w := w) m b σ.h B
  grind [fp, ASt.gc]
 refine ⟨⟨hI.size, hI.mem, List.Pairwise.sublist List.filter_sublist hI.srt, fun k p hp => ?_, ⟨by simp [ASt.gc, hI.heap.1], fun i cs hi => ?_⟩, fun b => by have := hle b; have := hI.cnt b; omega, fun b hb => by have := hle b; have := hI.new b hb; omega⟩, fun _ _ _ h => h, fun i c hi hc => by rw [List.getElem?_take, if_pos (by omega)]; exact hc, Fr.refl _ _ _, fun b _ => hle b⟩
 ·obtain ⟨s1, s2, s3⟩ := hI.slots k p (sget_filter (fun k => l.contains k) hp)
  exact ⟨s1, s2.blw (g1 _ (sget_mem hp)), s3⟩
 ·have hi0 := hi
  simp only [ASt.gc] at hi
  rw [List.getElem?_take] at hi
  split at hi
  ·rename_i hlt
   obtain ⟨c, hc, vs, ty, o1, o2, o3, o4, o5⟩ := hI.heap.2 i cs hi
   refine ⟨c, by rw [List.getElem?_take, if_pos hlt]; exact hc, vs, ty, o1, o2, o3, fun j p hj => ?_, o5⟩
   obtain ⟨v, a1, a2, a3, a4⟩ := o4 j p hj
   refine ⟨v, a1, a2.blw ?_, a3, a4⟩
   have := List.all_eq_true.1 g2 _ (List.mem_of_getElem? hi0)
   exact blws_iff.1 this p (List.mem_of_getElem? hj)
  ·cases hi
theorem resS_srt (sz : List (Nat × List Nat)) {s : Slots} (h : Srt s) : Srt (resS sz s) := by
 induction s with
 | nil => exact h
 | cons a l ih =>
  obtain ⟨k, p⟩ := a
  obtain ⟨h1, h2⟩ := srt_cons.1 h
  have hm : ∀ (l : Slots) (b : Nat × PV), b ∈ resS sz l → ∃ c, c ∈ l ∧ c.1 = b.1 := by
   intro l
   induction l with
   | nil => grind [resS]
   | cons a l ih =>
    grind [resS]
  rw [resS]
  refine srt_cons.2 ⟨fun b hb => ?_, ih h2⟩
  grind
theorem sget_resS {sz : List (Nat × List Nat)} {k : Nat} {p : PV} : ∀ {s : Slots}, sget k (resS sz s) = some p → ∃ q, sget k s = some q ∧ (p = q ∨ ∃ z, p = q.reszT z)
 | [], h => by simp [resS, sget] at h
 | (j, q) :: l, h => by
  rw [resS] at h
  by_cases e : j = k
  ·refine ⟨q, by rw [sget, if_pos e], ?_⟩
   split at h <;> (rw [sget, if_pos e] at h; injection h with h)
   ·exact .inr ⟨_, h.symm⟩
   ·exact .inl h.symm
  ·have h' : sget k (resS sz l) = some p := by split at h <;> (rw [sget, if_neg e] at h; exact h)
   obtain ⟨r, h1, h2⟩ := sget_resS h'
   exact ⟨r, by rw [sget, if_neg e]; exact h1, h2⟩
theorem ownS_resS {sz : List (Nat × List Nat)} {t : Array Value} {b : Nat} : ∀ {s : Slots}, ownS (resS sz s) t b = ownS s t b
 | [] => rfl
 | (j, q) :: l => by
  rw [resS]
  split <;> simp only [ownS, ownV_reszT, ownS_resS]
theorem res_good (hI : Inv n M B out σ t w) (sz : List (Nat × List Nat)) : Good n out M B σ t w M B { σ with s := resS sz σ.s } t w := by
 have hle : ∀ b, fp B { σ with s := resS sz σ.s } t w b = fp B σ t w b := fun b => by simp only [fp, ownS_resS]
 refine ⟨⟨hI.size, hI.mem, resS_srt _ hI.srt, fun k p hp => ?_, hI.heap, fun b => by have := hle b; have := hI.cnt b; omega, fun b hb => by have := hle b; have := hI.new b hb; omega⟩, MLe.refl _ _, Fr.refl _ _ _, fun b _ => by rw [hle b]; omega⟩
 obtain ⟨q, h1, h2⟩ := sget_resS hp
 obtain ⟨g1, g2, g3⟩ := hI.slots k q h1
 grind [rep_reszT, tl_reszT]
theorem own0_get : ∀ {zs : List Nat} {cs : List PV} {j : Nat} {p : PV}, (own0 zs cs)[j]? = some p → ∃ q, cs[j]? = some q ∧ (p = q ∨ ∃ z, p = q.own1 z)
 | [], cs, j, p, h => by cases cs <;> exact ⟨p, h, .inl rfl⟩
 | z :: zs, [], j, p, h => by simp [own0] at h
 | z :: zs, c :: cs, 0, p, h => by grind [own0]
 | z :: zs, c :: cs, j + 1, p, h => by rw [own0, List.getElem?_cons_succ] at h; simpa using own0_get h
theorem own0_length : ∀ (zs : List Nat) (cs : List PV), (own0 zs cs).length = cs.length
 | [], cs => by cases cs <;> rfl
 | _ :: _, [] => rfl
 | z :: zs, c :: cs => by simp [own0, own0_length zs cs]
theorem ownC_own0 : ∀ {zs : List Nat} {cs : List PV} {vs : List Value} {b : Nat}, (∀ (j : Nat) p v, cs[j]? = some p → vs[j]? = some v → Rep M B p v) → ownC (own0 zs cs) vs b = ownC cs vs b
 | [], cs, vs, b, _ => by cases cs <;> rfl
 | _ :: _, [], vs, b, _ => rfl
 | z :: zs, c :: cs, [], b, _ => by rfl
 | z :: zs, c :: cs, v :: vs, b, h => by
  rw [own0, ownC, ownC, ownV_own1 (M := M) (B := B) z (h 0 c v rfl rfl), ownC_own0 fun j p u hp hu => h (j + 1) p u (by grind) (by grind)]
theorem obj_good (hI : Inv n M B out σ t w) {i : Nat} {cs : List PV} (hi : σ.h[i]? = some (some cs)) (zs : List Nat) : Good n out M B σ t w M B { σ with h := σ.h.set i (some (own0 zs cs)) } t w := by
 obtain ⟨c, hc, vs, ty, o1, o2, o3, o4, o5⟩ := hI.heap.2 i cs hi
 have hrep : ∀ (j : Nat) p v, cs[j]? = some p → vs.toList[j]? = some v → Rep M B p v := fun j p v hp hv => by
  grind
 have hown : ∀ b, ownH w (σ.h.set i (some (own0 zs cs))) B b = ownH w σ.h B b := fun b => by
  have key : ∀ (h : Objs) (B' : Blk) (i : Nat), h[i]? = some (some cs) → B'[i]? = some c → ownH w (h.set i (some (own0 zs cs))) B' b = ownH w h B' b := by
   intro h
   induction h with
   | nil => simp
   | cons x h ih =>
    intro B' i h1 h2
    cases B' with
    | nil => simp at h2
    | cons d B' =>
     cases i with
     | zero =>
      simp at h1 h2; subst h1; subst h2
      simp only [List.set_cons_zero, ownH]
      rw [cellsAt_eq o1, ownC_own0 hrep]
     | succ i =>
      simp at h1 h2
      cases x with
      | none => grind [ownH]
      | some ds => grind [ownH]
  simp_all
 have hfp : ∀ b, fp B { σ with h := σ.h.set i (some (own0 zs cs)) } t w b = fp B σ t w b := fun b => by simp only [fp, hown]
 refine ⟨⟨hI.size, hI.mem, hI.srt, hI.slots, ⟨by simp [hI.heap.1], fun i' cs' hi' => ?_⟩, fun b => by rw [hfp]; exact hI.cnt b, fun b hb => by rw [hfp]; exact hI.new b hb⟩, MLe.refl _ _, Fr.refl _ _ _, fun b _ => by rw [hfp]; omega⟩
 by_cases hii : i' = i
 ·subst hii
  rw [List.getElem?_set_self (List.getElem?_eq_some_iff.1 hi).1] at hi'
  injection hi' with hi'; injection hi' with hi'; subst hi'
  refine ⟨c, hc, vs, ty, o1, o2, by rw [own0_length]; exact o3, fun j p hp => ?_, o5⟩
  grind [own0_get, rep_own1, tl_own1]
 ·rw [List.getElem?_set_ne (Ne.symm hii)] at hi'
  exact hI.heap.2 i' cs' hi'
theorem ownAll_good (s : Slots) : ∀ (l : List (Nat × List Nat)) {σ : ASt}, Inv n M B out σ t w → Good n out M B σ t w M B { σ with h := ownAll s l σ.h } t w
 | [], σ, hI => Good.refl hI
 | (k, zs) :: l, σ, hI => by
  have h1 : Good n out M B σ t w M B { σ with h := match sget k s with | some p => ownObj zs p σ.h | none => σ.h } t w := by
   split
   ·rename_i p hp
    unfold ownObj
    split
    ·rename_i i
     split
     grind [obj_good]
     ·exact Good.refl hI
    ·exact Good.refl hI
   ·exact Good.refl hI
  exact h1.trans (ownAll_good s l h1.inv)
theorem head_good {E : AE} (hI : Inv n M B out σ t w) : Good n out M B σ t w M B (σ.head E) t w := by
 have hk := keep_good hI E.vars
 have h2 := res_good hk.inv E.sz
 exact (hk.trans h2).trans (ownAll_good (resS E.sz (σ.keep E.vars).s) E.pt h2.inv)
theorem lift_trans {ds : List Deferred} {Q : AX → ASt → Prop} (h : GoodC E.n out m0 M B σ t w M1 B1 σ1 t1 w1) {e : Exit} {a' : Act} {w' : World} (k : lift E out m0 M1 B1 σ1 t1 w1 ds Q e a' w') : lift E out m0 M B σ t w ds Q e a' w' := by
 obtain ⟨ax, σ', M', B', h1, h2, h3, h4⟩ := k
 exact ⟨ax, σ', M', B', h1, h2, h3, h.trans h4⟩
theorem awp_sound (hm : E.P.follows .mixedOrders = true) : ∀ (c : Code) {M : Mem} {B : Blk} {σ : ASt} {a : Act} {w : World} {Q : AX → ASt → Prop}, Inv E.n M B out σ a.tmps w → awp E m0 c Q σ → c.wp E.P (lift E out m0 M B σ a.tmps w a.defers Q) a w
 | .skip, M, B, σ, a, w, Q, hI, h => wp_skip ⟨.normal, σ, M, B, rfl, h, rfl, GoodC.refl hI⟩
 | .label l, M, B, σ, a, w, Q, hI, h => wp_label ⟨.normal, σ, M, B, rfl, h, rfl, GoodC.refl hI⟩
 | .exit id, M, B, σ, a, w, Q, hI, h => wp_exit ⟨.exit id, σ, M, B, rfl, h, rfl, GoodC.refl hI⟩
 | .ret, M, B, σ, a, w, Q, hI, h => wp_ret ⟨.ret, σ, M, B, rfl, h, rfl, GoodC.refl hI⟩
 | .region id ops draw, M, B, σ, a, w, Q, hI, h => by
  have hk := head_good (E := E) hI
  rw [awp] at h
  cases draw with
  | false =>
   simp only [Bool.false_eq_true, if_false] at h
   exact wp_region_list (awpOps_sound _ hk.inv h fun σ' M' B' a' w' hq hG hd => ⟨.normal, σ', M', B', rfl, hq, hd, (hk.trans hG).c⟩)
  | true =>
   simp only [if_true] at h
   exact awpDD_sound hm hk.inv h fun σ' M' B' a' w' hq hG hd => ⟨.normal, σ', M', B', rfl, hq, hd, (hk.trans hG).c⟩
 | .seq x y, M, B, σ, a, w, Q, hI, h => by
  rw [awp] at h
  rcases h with h | h
  rotate_left
  ·exact h _ _ _ _ _ hI
  refine wp_seq (wp_mono (awp_sound hm x hI h) fun e a' w' hl => ?_)
  obtain ⟨ax, σ', M', B', rfl, hq, hd, hG⟩ := hl
  cases ax with
  | normal =>
   obtain ⟨ks, hq⟩ := hq
   obtain ⟨M2, B2, hz⟩ := frzL_good (m0 := m0) ks hG.inv
   have hG := hG.trans hz
   rcases hq with hq | ⟨l, m, hm0, hg, hq⟩
   ·exact wp_mono (awp_sound hm y hG.inv hq) fun e a2 w2 hl2 => by rw [hd] at hl2; exact lift_trans hG hl2
   ·have hgc := hG.trans (gc_good hG.inv hm0 hg)
    exact wp_mono (awp_sound hm y hgc.inv hq) fun e a2 w2 hl2 => by rw [hd] at hl2; exact lift_trans hgc hl2
  | ret => exact ⟨.ret, σ', M', B', rfl, hq, hd, hG⟩
  | exit i => exact ⟨.exit i, σ', M', B', rfl, hq, hd, hG⟩
 | .cond c x y, M, B, σ, a, w, Q, hI, h => by
  rw [awp] at h
  split at h
  ·rename_i b hb
   have he := rep_bool.1 (hI.rd _ _ hb).1
   refine wp_cond_split he (fun hb => awp_sound hm x hI (h.1 hb)) (fun hb => awp_sound hm y hI (h.2 hb))
  simp_all
 | .block id x, M, B, σ, a, w, Q, hI, h => by
  rw [awp] at h
  refine wp_block (wp_mono (awp_sound hm x hI h) fun e a' w' hl => ?_)
  obtain ⟨ax, σ', M', B', rfl, hq, hd, hG⟩ := hl
  cases ax with
  | normal => exact ⟨.normal, σ', M', B', rfl, hq, hd, hG⟩
  | ret => exact ⟨.ret, σ', M', B', rfl, hq, hd, hG⟩
  | exit i =>
   simp only [AX.toExit, Exit.inBlock]
   simp only [blockA] at hq
   split
   ·rename_i e; rw [if_pos e] at hq; exact ⟨.normal, σ', M', B', rfl, hq, hd, hG⟩
   ·rename_i e; rw [if_neg e] at hq; exact ⟨.exit i, σ', M', B', rfl, hq, hd, hG⟩
 | .scope x, M, B, σ, a, w, Q, hI, h => by
  rw [awp] at h
  refine wp_scope_straight (wp_mono (awp_sound hm x hI h) fun e a' w' hl => ?_)
  obtain ⟨ax, σ', M', B', rfl, hq, hd, hG⟩ := hl
  cases ax <;> exact ⟨_, σ', M', B', rfl, hq, hd, hG⟩
 | .loop x, M, B, σ, a, w, Q, hI, h => by
  rw [awp] at h
  obtain ⟨k, hk⟩ := h
  refine wp_loop_rounds k ?_
  have key : ∀ (k : Nat) (M1 : Mem) (B1 : Blk) (σ1 : ASt) (a1 : Act) (w1 : World), GoodC E.n out m0 M B σ a.tmps w M1 B1 σ1 a1.tmps w1 → a1.defers = a.defers → roundsA m0 (awp E m0 x) Q k σ1 → Code.rounds E.P x (lift E out m0 M B σ a.tmps w a.defers Q) k a1 w1 := by
   intro k
   induction k with
   | zero => intro M1 B1 σ1 a1 w1 _ _ h; exact h.elim
   | succ k ih =>
    intro M1 B1 σ1 a1 w1 hG hd h
    obtain ⟨l, m, hm0, hg, hb⟩ := h
    have hgc := gc_good hG.inv hm0 hg
    rw [rounds_succ]
    refine wp_mono (awp_sound hm x hgc.inv hb) fun e a' w' hl => ?_
    obtain ⟨ax, σ', M', B', rfl, hq, hd', hG'⟩ := hl
    have hG2 := (hG.trans hgc).trans hG'
    cases ax with
    | normal => exact ih M' B' σ' a' w' hG2 (by rw [hd', hd]) hq
    | ret => exact ⟨.ret, σ', M', B', rfl, hq, by rw [hd', hd], hG2⟩
    | exit i => exact ⟨.exit i, σ', M', B', rfl, hq, by rw [hd', hd], hG2⟩
  exact key k M B σ a w (GoodC.refl hI) rfl hk
 | .rangeFunc f ps as b, _, _, _, _, _, _, _, h => by rw [awp] at h; exact h.elim
 | .goto l, _, _, _, _, _, _, _, h => by rw [awp] at h; exact h.elim
 | .refuse l, _, _, _, _, _, _, _, h => by rw [awp] at h; exact h.elim
end
def slots0 : Nat → List PV → Slots
 | _, [] => []
 | k, p :: ps => (k, p.un) :: slots0 (k + 1) ps
def resV (P : Program) (σ : ASt) : ResultVar → Option PV
 | .tmp t => sget t σ.s
 | .cell t ty => match ti P ty, sget t σ.s with
  | some I, some q => (loadV false I q σ).map (·.1)
  | _, _ => none
def retOK (P : Program) (rs : List ResultVar) (m0 : Nat) (r : PV) (h' : Objs) (σ : ASt) : Prop :=
 m0 ≤ h'.length ∧ σ.h.take h'.length = h' ∧ r.blw h'.length = true ∧ blwH h'.length h' = true ∧
  match rs with
  | [x] => resV P σ x = some r
  | rs => (allSome (rs.map (resV P σ))).map (fun ps => PV.tuple (ps.map PV.un)) = some r
section
variable {n : Nat} {out : Nat → Nat} {m0 : Nat} {M : Mem} {B : Blk} {σ : ASt} {a : Act} {w : World} {P : Program}
def resSem (tmps : Array Value) : ResultVar → Sem Value
 | .tmp t => pure (tmps.getD t undef)
 | .cell a t => do loadVar t (← asAddr (tmps.getD a undef))
theorem results_eq (fn : Func) (tmps : Array Value) : results fn tmps = (do let vs ← fn.results.mapM (resSem tmps); pure (if h : vs.size = 1 then vs[0] else .tuple vs)) := by
 rfl
theorem resV_run (hI : Inv n M B out σ a.tmps w) {x : ResultVar} {p : PV} (h : resV P σ x = some p) :
 ∃ v, (resSem a.tmps x).run P w = .ok v w ∧ Rep M B p v ∧ Tl M w p v ∧ ∀ b, ownV p v b ≤ ownS σ.s a.tmps b := by
 cases x with
 | tmp t =>
  obtain ⟨h1, h2, h3⟩ := hI.slots t p h
  refine ⟨_, rfl, h2, h3, fun b => ?_⟩
  have := ownK_le (s := σ.s) (t := a.tmps) (k := t) (b := b)
  have h' : sget t σ.s = some p := h
  grind [ownK]
 | cell c t =>
  simp only [resV] at h
  split at h
  ·rename_i I q hI' hq
   cases hl : loadV false I q σ with
   | none => grind
   | some pσ =>
    obtain ⟨p', σ1⟩ := pσ
    simp [hl] at h; subst h
    have hrd : σ.rd (.tmp c) = some q.un := by simp [ASt.rd, ASt.ev, hq]
    have hl' : loadV false I q.un σ = some (p', σ1) := by
     have : loadV false I q.un σ = loadV false I q σ := by cases q <;> rfl
     rw [this, hl]
    obtain ⟨v, h1, h2⟩ := load_sound hI hI' hrd hl'
    have hpure : p'.own = false := by
     unfold loadV at hl
     split at hl
     grind [un_own]
     ·split at hl
      ·split at hl
       ·split at hl
        ·cases hl; rfl
        ·cases hl
       grind [un_own]
      ·cases hl
     ·cases hl
    refine ⟨v, ?_, h2.rep, h2.tl, fun b => by rw [ownV_no hpure]; omega⟩
    show (do loadVar t (← asAddr (a.tmps.getD c undef)) : Sem Value).run P w = _
    have he : a.eval (.tmp c) = a.tmps.getD c undef := rfl
    rw [he] at h1
    have hr := (hI.rd _ _ hrd).1
    rw [he] at hr
    have hptr : ∃ ad, a.tmps.getD c undef = .pointer (some ad) := by
     unfold loadV at hl'
     split at hl'
     ·rename_i e hq'; rw [hq'] at hr; obtain ⟨b, off, e1, _⟩ := rep_cst.1 hr; simp_all
     ·rename_i i off hq'; rw [hq'] at hr; obtain ⟨cc, _, e1⟩ := rep_ptr.1 hr; simp_all
     ·cases hl'
    grind [Instr.loadAt, Instr.sureAddr, asAddr]
  ·cases h
theorem results_run (hI : Inv n M B out σ a.tmps w) : ∀ {rs : List ResultVar} {ps : List PV}, allSome (rs.map (resV P σ)) = some ps →
 ∃ vs, (rs.mapM (resSem a.tmps)).run P w = .ok vs w ∧ Reps M B ps vs
 | [], ps, h => by simp [allSome] at h; subst h; exact ⟨[], by simp, reps_nil.2 rfl⟩
 | x :: rs, ps, h => by
  have h' := allSome_get h
  cases ps with
  | nil => simp at h'
  | cons p ps =>
   simp only [List.map_cons, List.cons.injEq] at h'
   obtain ⟨v, h1, h2, _, _⟩ := resV_run hI h'.1
   have hall : ∀ ps : List PV, allSome (ps.map some) = some ps := by
    intro ps; induction ps with
    | nil => rfl
    | cons a l ih => simp [allSome, ih]
   obtain ⟨vs, h3, h4⟩ := results_run hI (rs := rs) (ps := ps) (by rw [h'.2]; exact hall ps)
   refine ⟨v :: vs, ?_, reps_cons.2 ⟨v, vs, rfl, h2, h4⟩⟩
   rw [List.mapM_cons, Sem.run_bind, h1, Result.andThen_ok, Sem.run_bind, h3]; rfl
theorem ret_run (hI : Inv n M B out σ a.tmps w) {fn : Func} {m0 : Nat} {r : PV} {h' : Objs} (hr : retOK P fn.results.toList m0 r h' σ) :
 ∃ v, (results fn a.tmps).run P w = .ok v w ∧ Rep M B r v ∧ Tl M w r v ∧ ∀ b, ownV r v b ≤ ownS σ.s a.tmps b := by
 obtain ⟨_, _, _, _, hres⟩ := hr
 have hst : ∀ vs : List Value, (fn.results.toList.mapM (resSem a.tmps)).run P w = .ok vs w → (results fn a.tmps).run P w = .ok (if h : vs.toArray.size = 1 then vs.toArray[0] else .tuple vs.toArray) w := fun vs h => by
  rw [results_eq, Array.mapM_eq_mapM_toList, Sem.run_bind, Sem.run_map, h]; rfl
 split at hres
 ·rename_i x hx
  obtain ⟨v, h1, h2, h3, h4⟩ := resV_run hI hres
  simp_all
 ·rename_i hx
  obtain ⟨ps, hps, rfl⟩ := Option.map_eq_some_iff.1 hres
  obtain ⟨vs, h1, h2⟩ := results_run hI hps
  have hne : vs.length ≠ 1 := by
   have e1 := reps_length h2
   have e2 := congrArg List.length (allSome_get hps)
   simp only [List.length_map] at e2
   intro h
   generalize fn.results.toList = L at *
   match L with
   | [] => simp_all
   | [x] => grind
   | x :: y :: l => simp_all
  refine ⟨.tuple vs.toArray, ?_, rep_tuple.2 ⟨_, rfl, by simpa using reps_un h2⟩, tl_no rfl, fun b => by rw [ownV_no rfl]; omega⟩
  rw [hst vs h1, dif_neg (by omega)]
theorem slots0_get : ∀ {args : List PV} {k j : Nat} {p : PV}, sget j (slots0 k args) = some p → ∃ i q, j = k + i ∧ args[i]? = some q ∧ p = q.un
 | [], _, _, _, h => by simp [slots0, sget] at h
 | q :: qs, k, j, p, h => by
  rw [slots0, sget] at h
  split at h
  simp_all
  ·obtain ⟨i, q', h1, h2, h3⟩ := slots0_get h
   exact ⟨i + 1, q', by omega, by grind, h3⟩
theorem slots0_srt : ∀ {args : List PV} {k : Nat}, Srt (slots0 k args) ∧ ∀ x, x ∈ slots0 k args → k ≤ x.1
 | [], k => ⟨by simp [slots0, Srt], by simp [slots0]⟩
 | q :: qs, k => by
  obtain ⟨h1, h2⟩ := slots0_srt (args := qs) (k := k + 1)
  rw [slots0]
  refine ⟨srt_cons.2 ⟨fun x hx => by have := h2 x hx; show k < x.1; omega, h1⟩, fun x hx => ?_⟩
  rcases List.mem_cons.1 hx with rfl | hx
  ·exact Nat.le_refl _
  ·have := h2 x hx; omega
theorem slots0_own {t : Array Value} {b : Nat} : ∀ {args : List PV} {k : Nat}, ownS (slots0 k args) t b = 0
 | [], _ => rfl
 | q :: qs, k => by rw [slots0, ownS, ownV_un, slots0_own]
def fin1 (p : PV) (z : List Nat × Bool) : PV := match z.2 with | true => p.reszT z.1 | false => (p.reszT z.1).un
def finL : List (List Nat × Bool) → List PV → List PV
 | z :: zs, p :: ps => fin1 p z :: finL zs ps
 | _, ps => ps
def finR (ro : List (List Nat × Bool)) (r : PV) : PV := match ro, r with
 | [], r => r
 | _, .tuple ps => .tuple (finL ro ps)
 | z :: _, r => fin1 r z
theorem fin1_rep {p : PV} {z : List Nat × Bool} {v : Value} (h : Rep M B p v) : Rep M B (fin1 p z) v := by
 unfold fin1; split
 ·exact rep_reszT _ h
 ·exact rep_un.2 (rep_reszT _ h)
theorem finL_rep : ∀ {zs : List (List Nat × Bool)} {ps : List PV} {vs : List Value}, Reps M B ps vs → Reps M B (finL zs ps) vs
 | [], ps, vs, h => by cases ps <;> exact h
 | z :: zs, [], vs, h => h
 | z :: zs, p :: ps, vs, h => by
  obtain ⟨u, us, rfl, h1, h2⟩ := reps_cons.1 h
  exact reps_cons.2 ⟨u, us, rfl, fin1_rep h1, finL_rep h2⟩
theorem finR_rep {ro : List (List Nat × Bool)} {r : PV} {v : Value} (h : Rep M B r v) : Rep M B (finR ro r) v := by
 unfold finR; split
 ·exact h
 ·obtain ⟨vs, rfl, hr⟩ := rep_tuple.1 h
  exact rep_tuple.2 ⟨vs, rfl, finL_rep hr⟩
 ·exact fin1_rep h
theorem fin1_tl {p : PV} {z : List Nat × Bool} {v : Value} (hr : Rep M B p v) (h : Tl M w p v) : Tl M w (fin1 p z) v := by
 grind [fin1, tl_reszT, tl_no, un_own]
theorem finR_tl {ro : List (List Nat × Bool)} {r : PV} {v : Value} (hr : Rep M B r v) (h : Tl M w r v) : Tl M w (finR ro r) v := by
 unfold finR; split
 ·exact h
 ·exact tl_no rfl
 ·exact fin1_tl hr h
theorem finR_own {ro : List (List Nat × Bool)} {r : PV} {v : Value} {b : Nat} : ownV (finR ro r) v b ≤ ownV r v b := by
 unfold finR; split
 omega
 ·rw [ownV_no rfl]; omega
 grind [fin1, ownV_reszT, ownV_un]
theorem inv_enter {n : Nat} {h : Objs} {args : List PV} {vals : Array Value} {out : Nat → Nat} {M : Mem} {B : Blk} {w : World} (hlen : args.length ≤ n) (hmem : memOK M w) (hheap : HeapOK M B w h) (hcnt : ∀ b, ownH w h B b + out b ≤ 1) (hnew : ∀ b, w.heap.size ≤ b → ownH w h B b + out b = 0)
 (hv : Reps M B args vals.toList) : Inv n M B out ⟨slots0 0 args, h⟩ (vals ++ Array.replicate (n - vals.size) undef) w := by
 have hvl := reps_length hv
 simp only [Array.length_toList] at hvl
 have hfp : ∀ t b, fp B ⟨slots0 0 args, h⟩ t w b = ownH w h B b := fun t b => by grind [fp, slots0_own]
 refine ⟨by simp; omega, hmem, slots0_srt.1, fun k p hk => ?_, hheap, fun b => by rw [hfp]; exact hcnt b, fun b hb => by rw [hfp]; simp_all⟩
 obtain ⟨i, q, rfl, hq, rfl⟩ := slots0_get hk
 obtain ⟨v, hv1, hv2⟩ := reps_get hv hq
 have hi := (List.getElem?_eq_some_iff.1 hq).1
 refine ⟨by omega, ?_, tl_no (un_own _)⟩
 have hvi : vals[i]? = some v := by simp_all
 have : (vals ++ Array.replicate (n - vals.size) undef).getD (0 + i) undef = v := by
  rw [Nat.zero_add, Array.getD_eq_getD_getElem?, Array.getElem?_append_left (by omega), hvi]; rfl
 rw [this]; exact rep_un.2 hv2
theorem fin_post {n : Nat} {fn : Func} {h h' : Objs} {args : List PV} {out : Nat → Nat} {M M' : Mem} {B B' : Blk} {w w' : World} {t : Array Value} {a' : Act} {σ' : ASt} {r0 : PV} {ro : List (List Nat × Bool)} (hheap : HeapOK M B w h)
 (hG : GoodC n out h.length M B ⟨slots0 0 args, h⟩ t w M' B' σ' a'.tmps w') (hret : retOK P fn.results.toList h.length r0 h' σ') : ∃ v, (results fn a'.tmps).run P w' = .ok v w' ∧ ∃ M'' B'', Post h B out M w (finR ro r0) h' v M'' B'' w' := by
 have hfp : ∀ t b, fp B ⟨slots0 0 args, h⟩ t w b = ownH w h B b := fun t b => by grind [fp, slots0_own]
 obtain ⟨v, hrun, hrep, htl, hown⟩ := ret_run hG.inv hret
 obtain ⟨hm0, hht, hb1, hb2, _⟩ := hret
 generalize hm' : h'.length = m at *
 subst hht
 have hpost : Post h B out M w (finR ro r0) (σ'.h.take m) v M' (B'.take m) w' := by
  have hBl : B.length = h.length := hheap.1.symm
  have htake := fun b => ownH_take (w := w') m b σ'.h B'
  have hfin : ∀ b, ownH w' (σ'.h.take m) (B'.take m) b + ownV (finR ro r0) v b ≤ fp B' σ' a'.tmps w' b := fun b => by have := htake b; have := hown b; have := finR_own (ro := ro) (r := r0) (v := v) (b := b); simp only [fp]; omega
  refine ⟨hG.inv.mem, ⟨hG.mem, fun i c hc => ?_⟩, hG.fr.mono fun b hb h0 => by rw [hfp]; exact h0, ⟨by simp [hG.inv.heap.1], fun i cs hi => ?_⟩, finR_rep (hrep.blw hb1), finR_tl (hrep.blw hb1) htl, fun b hb => ?_, fun b => ?_, fun b hb => ?_⟩
  ·have hlt := (List.getElem?_eq_some_iff.1 hc).1
   rw [List.getElem?_take, if_pos (by omega)]
   exact hG.pre i c (by omega) hc
  ·have hi0 := hi
   rw [List.getElem?_take] at hi
   split at hi
   ·rename_i hlt
    obtain ⟨c, hc, vs, ty, o1, o2, o3, o4, o5⟩ := hG.inv.heap.2 i cs hi
    refine ⟨c, by rw [List.getElem?_take, if_pos hlt]; exact hc, vs, ty, o1, o2, o3, fun j p hj => ?_, o5⟩
    obtain ⟨u, a1, a2, a3, a4⟩ := o4 j p hj
    refine ⟨u, a1, a2.blw ?_, a3, a4⟩
    have := List.all_eq_true.1 hb2 _ (List.mem_of_getElem? hi0)
    exact blws_iff.1 this p (List.mem_of_getElem? hj)
   ·cases hi
  ·have h1 := hG.own b hb; rw [hfp] at h1; grind
  ·have h1 := hG.inv.cnt b; have := hfin b; omega
  ·have h1 := hG.inv.new b hb; have := hfin b; omega
 grind
theorem EvG.of_awp {cp : CP} {g : FuncId} {fn : Func} {c : Code} (hcp : ∀ {vals : Array Value} {w : World} {R : Ending → World → Prop}, c.wp P (bodyPost P fn R) { tmps := vals ++ Array.replicate (fn.ntmps - vals.size) undef, defers := [] } w → cp g vals w R) (hm : P.follows .mixedOrders = true) (hf : P.funcs[g]? = some fn) (hb : fn.body = some c) (hn : (fn.name != "runtime.NumGoroutine") = true) {args : List PV} {h : Objs} {r : PV} {h' : Objs} (vars mv mu : List Nat) (sz jt lt pt : List (Nat × List Nat)) (fz : List Nat) (ro : List (List Nat × Bool)) (ft : List (Nat × List Nat)) (sy ln : List Nat) (hlen : args.length ≤ fn.ntmps)
 (hA : awp ⟨P, fn.ntmps, vars, mv, mu, sz, jt, lt, pt, fz, ft, sy, ln⟩ h.length c (fun e σ' => (match e with | .exit _ => False | _ => True) ∧ ∃ r0, retOK P fn.results.toList h.length r0 h' σ' ∧ finR ro r0 = r) ⟨slots0 0 args, h⟩) : EvG P cp g args h r h' := by
 refine ⟨by grind [callable], fun out M B w vals hmem hheap hcnt hnew hv => ?_⟩
 have hI := inv_enter (n := fn.ntmps) hlen hmem hheap hcnt hnew hv
 refine hcp (wp_mono (awp_sound (E := ⟨P, fn.ntmps, vars, mv, mu, sz, jt, lt, pt, fz, ft, sy, ln⟩) (out := out) (a := { tmps := vals ++ Array.replicate (fn.ntmps - vals.size) undef, defers := [] }) hm c hI hA) fun e a' w' hl => ?_)
 obtain ⟨ax, σ', M', B', rfl, ⟨hax, r0, hret, rfl⟩, hd, hG⟩ := hl
 obtain ⟨v, hrun, M'', B'', hpost⟩ := fin_post (ro := ro) hheap hG hret
 cases ax with
 | normal => exact ⟨hd, v, hrun, v, M'', B'', rfl, hpost⟩
 | ret => exact ⟨hd, v, hrun, v, M'', B'', rfl, hpost⟩
 | exit i => grind
theorem Ev.of_awp {g : FuncId} {fn : Func} {c : Code} (hm : P.follows .mixedOrders = true) (hf : P.funcs[g]? = some fn) (hb : fn.body = some c) (hn : (fn.name != "runtime.NumGoroutine") = true) {args : List PV} {h : Objs} {r : PV} {h' : Objs} (vars mv mu : List Nat) (sz jt lt pt : List (Nat × List Nat)) (fz : List Nat) (ro : List (List Nat × Bool)) (ft : List (Nat × List Nat)) (sy ln : List Nat) (hlen : args.length ≤ fn.ntmps)
 (hA : awp ⟨P, fn.ntmps, vars, mv, mu, sz, jt, lt, pt, fz, ft, sy, ln⟩ h.length c (fun e σ' => (match e with | .exit _ => False | _ => True) ∧ ∃ r0, retOK P fn.results.toList h.length r0 h' σ' ∧ finR ro r0 = r) ⟨slots0 0 args, h⟩) : Ev P g args h r h' :=
 EvG.of_awp (cp := Calls P) (fun k => calls_of_wp hf hb k) hm hf hb hn vars mv mu sz jt lt pt fz ro ft sy ln hlen hA
theorem EvD.of_awp {g : FuncId} {fn : Func} {c : Code} (hm : P.follows .mixedOrders = true) (hf : P.funcs[g]? = some fn) (hb : fn.body = some c) (hn : (fn.name != "runtime.NumGoroutine") = true) {args : List PV} {h : Objs} {r : PV} {h' : Objs} (vars mv mu : List Nat) (sz jt lt pt : List (Nat × List Nat)) (fz : List Nat) (ro : List (List Nat × Bool)) (ft : List (Nat × List Nat)) (sy ln : List Nat) (hlen : args.length ≤ fn.ntmps)
 (hA : awp ⟨P, fn.ntmps, vars, mv, mu, sz, jt, lt, pt, fz, ft, sy, ln⟩ h.length c (fun e σ' => (match e with | .exit _ => False | _ => True) ∧ ∃ r0, retOK P fn.results.toList h.length r0 h' σ' ∧ finR ro r0 = r) ⟨slots0 0 args, h⟩) : EvG P (CD P) g args h r h' :=
 EvG.of_awp (cp := CD P) (fun k => callsD_of_wp hf hb k) hm hf hb hn vars mv mu sz jt lt pt fz ro ft sy ln hlen hA
end
end Go.Proofs.YtkkgfoknknehfaaDoor

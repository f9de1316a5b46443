/-
  What a call of a function does ('Ev'); the abstract wp of operations in the order of the text.
-/
import Derived.Test.YtmclnnpaephkpaaAbM
import Derived.LoopN
import Derived.Scope
namespace Go.Proofs.Ytmclnnpaephkpaa
set_option linter.unusedVariables false
set_option linter.unusedSimpArgs false
set_option linter.unnecessarySimpa false
set_option linter.unusedSectionVars false
open Go.RowKit

/-! ### pointers below a number -/
mutual
def PV.blw (m : Nat) : PV → Bool
  | .ptr i _ => decide (i < m)
  | .slh i _ _ _ => decide (i < m)
  | .func _ f c => PV.blws m f && PV.blws m c
  | .agg cs => PV.blws m cs
  | .tuple cs => PV.blws m cs
  | _ => true
def PV.blws (m : Nat) : List PV → Bool
  | [] => true
  | p :: ps => p.blw m && PV.blws m ps
end
section
variable {M : Mem} {B : Blk}
mutual
theorem sem_blw (m : Nat) : ∀ p : PV, p.blw m = true → sem M B p = sem M (B.take m) p
  | .int _ _, _ => by simp only [sem]
  | .bool _, _ => by simp only [sem]
  | .str _, _ => by simp only [sem]
  | .nilp, _ => by simp only [sem]
  | .raw _, _ => by simp only [sem]
  | .ptr i _, h => by
    have : (B.take m)[i]? = B[i]? := by rw [List.getElem?_take, if_pos (by simpa [PV.blw] using h)]
    simp only [sem, this]
  | .slh i _ _ _, h => by
    have : (B.take m)[i]? = B[i]? := by rw [List.getElem?_take, if_pos (by simpa [PV.blw] using h)]
    simp only [sem, this]
  | .cst e, _ => by simp only [sem]
  | .sl _ _ es, _ => by simp only [sem]
  | .func _ f c, h => by
    simp only [PV.blw, Bool.and_eq_true] at h
    simp only [sem, sems_blw m f h.1, sems_blw m c h.2]
  | .agg cs, h => by simp only [sem, sems_blw m cs (by simpa [PV.blw] using h)]
  | .tuple cs, h => by simp only [sem, sems_blw m cs (by simpa [PV.blw] using h)]
theorem sems_blw (m : Nat) : ∀ ps : List PV, PV.blws m ps = true → sems M B ps = sems M (B.take m) ps
  | [], _ => by simp only [sems]
  | p :: ps, h => by
    simp only [PV.blws, Bool.and_eq_true] at h
    simp only [sems, sem_blw m p h.1, sems_blw m ps h.2]
end
theorem Rep.blw {m : Nat} {p : PV} {v : Value} (hf : p.blw m = true) (h : Rep M B p v) : Rep M (B.take m) p v := by
  unfold Rep at *; rwa [← sem_blw (B := B) m p hf]
theorem blws_iff {m : Nat} : ∀ {ps : List PV}, PV.blws m ps = true ↔ ∀ p, p ∈ ps → p.blw m = true
  | [] => by simp [PV.blws]
  | p :: ps => by simp [PV.blws, blws_iff (ps := ps)]
mutual
theorem flat_blw (m : Nat) : ∀ p : PV, p.flat = true → p.blw m = true
  | .int _ _, _ => rfl
  | .bool _, _ => rfl
  | .str _, _ => rfl
  | .nilp, _ => rfl
  | .raw _, _ => rfl
  | .ptr i _, h => by simp [PV.flat] at h
  | .slh i _ _ _, h => by simp [PV.flat] at h
  | .cst e, _ => by simp only [PV.blw]
  | .sl _ _ es, _ => by simp only [PV.blw]
  | .func _ f c, h => by
    simp only [PV.flat, Bool.and_eq_true] at h
    simp only [PV.blw, flats_blw m f h.1, flats_blw m c h.2, Bool.and_self]
  | .agg cs, h => by simp only [PV.blw]; exact flats_blw m cs (by simpa [PV.flat] using h)
  | .tuple cs, h => by simp only [PV.blw]; exact flats_blw m cs (by simpa [PV.flat] using h)
theorem flats_blw (m : Nat) : ∀ ps : List PV, PV.flats ps = true → PV.blws m ps = true
  | [], _ => rfl
  | p :: ps, h => by
    simp only [PV.flats, Bool.and_eq_true] at h
    simp only [PV.blws, flat_blw m p h.1, flats_blw m ps h.2, Bool.and_self]
end
end
def blwH (m : Nat) (h : Objs) : Bool := h.all fun o => match o with | some cs => PV.blws m cs | none => true

/-! ### calls -/
def memOK (M : Mem) (w : World) : Prop := ∀ (b o : Nat) (v : Value), M b o = some v → w.cell? ⟨b, o, none⟩ = some v ∧ v.oneCell' = true
structure Post (h : Objs) (B : Blk) (out : Nat → Nat) (M : Mem) (w : World) (r : PV) (h' : Objs) (v : Value) (M' : Mem) (B' : Blk) (w' : World) : Prop where
  mem : memOK M' w'
  le : MLe M M' B B'
  fr : Fr (ownH w h B) M w M' w'
  heap : HeapOK M' B' w' h'
  rep : Rep M' B' r v
  tl : Tl M' w' r v
  own : ∀ b, b < w.heap.size → ownH w' h' B' b + ownV r v b ≤ ownH w h B b
  cnt : ∀ b, ownH w' h' B' b + ownV r v b + out b ≤ 1
  new : ∀ b, w'.heap.size ≤ b → ownH w' h' B' b + ownV r v b + out b = 0
def callable (P : Program) (g : FuncId) : Bool := match P.funcs[g]? with | some fn => fn.name != "runtime.NumGoroutine" && fn.body.isSome | none => false
/-- A call of function g with these arguments, objects being as h says, returns r and leaves h'. -/
def Ev (P : Program) (g : FuncId) (args : List PV) (h : Objs) (r : PV) (h' : Objs) : Prop :=
  callable P g = true ∧ ∀ (out : Nat → Nat) (M : Mem) (B : Blk) (w : World) (vals : Array Value), memOK M w → HeapOK M B w h → (∀ b, ownH w h B b + out b ≤ 1) → (∀ b, w.heap.size ≤ b → ownH w h B b + out b = 0) →
    Reps M B args vals.toList → Calls P g vals w fun e w' => ∃ v M' B', e = .returned v ∧ Post h B out M w r h' v M' B' w'

/-- A contract without objects holds beside any. -/
theorem Ev.frame' {P : Program} {g : FuncId} {args : List PV} {r : PV} (h : Ev P g args [] r []) (hr : r.flat = true) (ha : PV.flats args = true) (hh : Objs) : Ev P g args hh r hh := by
  refine ⟨h.1, fun out M B w vals hmem hheap hcnt hnew hv => ?_⟩
  have h0 : ∀ w b, ownH w [] [] b = 0 := fun w b => by simp [ownH]
  refine (h.2 (fun b => out b + ownH w hh B b) M [] w vals hmem ⟨rfl, fun i cs hi => by simp at hi⟩ (fun b => by rw [h0]; have := hcnt b; omega) (fun b hb => by rw [h0]; have := hnew b hb; omega) (Reps.flat [] ha hv)).mono fun e w' he => ?_
  obtain ⟨v, M', B', rfl, hP⟩ := he
  have hB' : B' = [] := List.eq_nil_of_length_eq_zero (by have := hP.heap.1; simpa using this.symm)
  subst hB'
  have hun : ∀ b, b < w.heap.size → w'.heap[b]? = w.heap[b]? ∧ ∀ o, M' b o = M b o := fun b hb => hP.fr.blk b hb (h0 w b)
  have hlt : ∀ b, 1 ≤ ownH w hh B b → b < w.heap.size := fun b hb => by
    rcases Nat.lt_or_ge b w.heap.size with h' | h'
    · exact h'
    · have := hnew b h'; omega
  have hobj : ∀ (i : Nat) cs c, hh[i]? = some (some cs) → B[i]? = some c → 1 ≤ ownH w hh B c.1 := fun i cs c h1 h2 => by
    have := ownH_get (w := w) c.1 h1 h2
    simp only [if_true] at this
    omega
  have hle : MLe M M' B B := ⟨hP.le.mem, fun _ _ h => h⟩
  have hfp : ∀ b, ownH w' hh B b = ownH w hh B b := fun b => ownH_congr b fun i cs c h1 h2 => cellsAt_congr (hun c.1 (hlt _ (hobj i cs c h1 h2))).1
  refine ⟨v, M', B, rfl, hP.mem, hle, hP.fr.mono fun b hb _ => h0 w b, ⟨hheap.1, fun i cs hi => ?_⟩, hP.rep.flat B hr, hP.tl, fun b hb => ?_, fun b => ?_, fun b hb => ?_⟩
  · obtain ⟨c, hc, vs, ty, h1, h2, h3, h4, h5⟩ := hheap.2 i cs hi
    have hcb := hun c.1 (hlt _ (hobj i cs c hi hc))
    refine ⟨c, hc, vs, ty, by rw [hcb.1, h1], h2, h3, fun j p hj => ?_, fun o => by rw [hcb.2]; exact h5 o⟩
    obtain ⟨v, hv, hr, hT, hone⟩ := h4 j p hj
    refine ⟨v, hv, hr.mono hle, hT.kept fun b ho => hun b (hlt b ?_), hone⟩
    have e1 := ownH_get (w := w) b hi hc
    have e2 := ownC_get b hj (by rw [cellsAt_eq h1]; simpa using hv : (cellsAt w c.1)[j]? = some v)
    omega
  · have := hP.own b hb; rw [h0, h0] at this; rw [hfp]; omega
  · have := hP.cnt b; rw [h0] at this; rw [hfp]; omega
  · have := hP.new b hb; rw [h0] at this; rw [hfp]; omega

def gval (ops : Array Oper) (σ : ASt) (j : Nat) : Option (Option Bool) :=
  match (ops[j]?).bind (·.dst) with
  | none => some none
  | some d => match sget d σ.s with
    | some (.bool b) => some (some b)
    | some (.tuple []) => some none
    | _ => none
def thenPut (E : AE) (dst : Option Nat) (p : PV) (σ : ASt) (K : ASt → Prop) : Prop := match ASt.put E dst p σ with | some σ' => K σ' | none => False
def stepK (E : AE) (o : Oper) (K : ASt → Prop) (σ : ASt) : Prop :=
  match stepV E o σ with
  | some (p, σ1) => sideV E o σ ∧ thenPut E o.dst p σ1 K
  | none => False
/-- At a call: the contract's result is put. -/
def callK (E : AE) (g : FuncId) (args : List PV) (dst : Option Nat) (K : ASt → Prop) (σ : ASt) : Prop := ∃ r h', Ev E.P g args σ.h r h' ∧ thenPut E dst r { σ with h := h' } K
def awpOp (E : AE) (o : Oper) (K : ASt → Prop) (σ : ASt) : Prop :=
  match o.op with
  | .call c => match c.callee with
    | .value f => (match σ.rd f, allSome (c.args.toList.map σ.rd) with
      | some (.func (.func g) first caps), some as => callK E g (first ++ as ++ caps) o.dst K σ
      | _, _ => False)
    | _ => stepK E o K σ
  | _ => stepK E o K σ
def awpOps (E : AE) (ops : Array Oper) : List Oper → (ASt → Prop) → ASt → Prop
  | [], Q, σ => Q σ
  | o :: l, Q, σ =>
    match o.guard with
    | none => awpOp E o (awpOps E ops l Q) σ
    | some (j, want) => match gval ops σ j with
      | some none => thenPut E o.dst (.tuple []) σ (awpOps E ops l Q)
      | some (some b) => (b = want → awpOp E o (awpOps E ops l Q) σ) ∧ (b ≠ want → thenPut E o.dst (.tuple []) σ (awpOps E ops l Q))
      | none => False

section
variable {out : Nat → Nat} {M : Mem} {B : Blk} {σ : ASt} {a : Act} {w : World} {E : AE} {o : Oper}
theorem stepK_sound (hI : Inv E.n M B out σ a.tmps w) {K : ASt → Prop} (h : stepK E o K σ) {K' : Act → World → Prop} {Q : Exit → Act → World → Prop}
    (hK : ∀ v σ' M' B' w', K σ' → Good E.n out M B σ a.tmps w M' B' σ' (a.put o.dst v).tmps w' → K' (a.put o.dst v) w') : o.wp E.P a w K' Q := by
  unfold stepK at h
  split at h
  · rename_i p σ1 hs
    obtain ⟨hside, hp⟩ := h
    unfold thenPut at hp
    split at hp
    · rename_i σ' hput
      obtain ⟨v, w', M', B', h1, h2⟩ := step_sound hI hs hside
      have hG := h2.put hput
      unfold Oper.wp
      rcases h1 with h1 | ⟨h1, hd⟩
      · rw [h1, Oper.upon_value]; exact hK v σ' M' B' w' hp hG
      · rw [h1, Oper.upon_skip]
        have : a.put o.dst undef = a.put o.dst v := by rw [hd]; rfl
        rw [this]; exact hK v σ' M' B' w' hp hG
    · exact hp.elim
  · exact h.elim
theorem call_sound (hI : Inv E.n M B out σ a.tmps w) {g : FuncId} {args : List PV} {vals : Array Value} (hv : Reps M B args vals.toList) {r : PV} {h' : Objs} (hE : Ev E.P g args σ.h r h') {dst : Option Nat} {σ' : ASt} (hp : ASt.put E dst r { σ with h := h' } = some σ')
    {R : Ending → World → Prop} (hK : ∀ v M' B' w', Good E.n out M B σ a.tmps w M' B' σ' (a.put dst v).tmps w' → R (.returned v) w') : Calls E.P g vals w R := by
  obtain ⟨_, hE⟩ := hE
  have hc := hE (fun b => out b + ownS σ.s a.tmps b) M B w vals hI.mem hI.heap (fun b => by have := hI.cnt b; simp only [fp] at this; omega) (fun b hb => by have := hI.new b hb; simp only [fp] at this; omega) hv
  refine hc.mono fun e w' he => ?_
  obtain ⟨v, M', B', rfl, hP⟩ := he
  refine hK v M' B' w' ?_
  have hpre : Pre E.n out M B σ a.tmps w M' B' { σ with h := h' } w' r v := by
    refine ⟨⟨hI.size, hP.mem, hI.srt, fun k p hk => ?_, hP.heap, fun b => ?_, fun b hb => ?_⟩, hP.le, ?_, fun b hb => ?_, hP.rep, hP.tl, fun b => ?_, fun b hb => ?_⟩
    · obtain ⟨s1, s2, s3⟩ := hI.slots k p hk
      refine ⟨s1, s2.mono hP.le, s3.kept fun b hb => ?_⟩
      have e1 := ownK_le (s := σ.s) (t := a.tmps) (k := k) (b := b)
      simp only [ownK, hk] at e1
      have e2 := hI.cnt b
      simp only [fp] at e2
      exact hP.fr.blk b (ownH_lt hI (by simp only [fp]; omega)) (by omega)
    · have := hP.cnt b; simp only [fp]; omega
    · have := hP.new b hb; simp only [fp]; omega
    · exact hP.fr.mono fun b hb h0 => by simp only [fp] at h0; omega
    · have := hP.own b hb; simp only [fp]; omega
    · have := hP.cnt b; simp only [fp]; omega
    · have := hP.new b hb; omega
  exact hpre.put hp
theorem awpOp_sound (hI : Inv E.n M B out σ a.tmps w) {K : ASt → Prop} (h : awpOp E o K σ) {K' : Act → World → Prop} {Q : Exit → Act → World → Prop}
    (hK : ∀ v σ' M' B' w', K σ' → Good E.n out M B σ a.tmps w M' B' σ' (a.put o.dst v).tmps w' → K' (a.put o.dst v) w') : o.wp E.P a w K' Q := by
  unfold awpOp at h
  split at h
  · rename_i c hop
    split at h
    · rename_i f hf
      split at h
      · rename_i g first caps as hfun has
        obtain ⟨r, h', hE, hp⟩ := h
        unfold thenPut at hp
        split at hp
        · rename_i σ' hput
          obtain ⟨f', c', e1, r1, r2⟩ := rep_func.1 (hI.rd _ _ hfun).1
          obtain ⟨ra, _⟩ := reps_all hI.rd has
          have hcall := hE.1
          unfold callable at hcall
          split at hcall
          · rename_i fn hfn
            simp only [Bool.and_eq_true, bne_iff_ne, ne_eq] at hcall
            unfold Oper.wp
            have hrun : (execOp a.eval o).run E.P w = .ok (.enter g (f' ++ c.args.map a.eval ++ c')) w := by
              obtain ⟨callee, cargs, cts⟩ := c
              simp only at hf
              subst hf
              unfold execOp
              rw [hop]
              simp only [resolve, e1, Deferred.ofValue, Sem.run_bind, Sem.run_pure, Result.andThen_ok, invoke, callFunc, run_program, hfn]
              have hnb : fn.body.isNone = false := by cases hb : fn.body <;> simp [hb] at hcall ⊢
              have hnn : (fn.name == "runtime.NumGoroutine") = false := by simpa using hcall.1
              simp only [hnn, hnb, Bool.false_eq_true, if_false, Sem.run_pure]
            rw [hrun, Oper.upon_enter]
            refine call_sound hI (args := first ++ as ++ caps) ?_ hE hput fun v M' B' w' hG => hK v σ' M' B' w' hp hG
            simpa using reps_append (reps_append r1 ra) r2
          · cases hcall
        · exact hp.elim
      · exact h.elim
    · exact stepK_sound hI h hK
  · exact stepK_sound hI h hK
theorem gval_yields (hI : Inv E.n M B out σ a.tmps w) {ops : Array Oper} {j : Nat} {x : Option Bool} (h : gval ops σ j = some x) : yielded ops a.tmps j = x := by
  unfold gval at h
  unfold yielded
  split at h
  · rename_i hd; cases h; rw [hd]; rfl
  · rename_i d hd
    rw [hd]
    split at h
    · rename_i b hb
      cases h
      obtain ⟨h1, h2, _⟩ := hI.slots _ _ hb
      have := rep_bool.1 h2
      have hlt : d < a.tmps.size := by rw [hI.size]; exact h1
      have hg : a.tmps[d]? = some (.bool b) := by simpa [hlt] using this
      simp [hg]
    · rename_i hb
      cases h
      obtain ⟨h1, h2, _⟩ := hI.slots _ _ hb
      obtain ⟨vs, h3, h4⟩ := rep_tuple.1 h2
      have hlt : d < a.tmps.size := by rw [hI.size]; exact h1
      have hg : a.tmps[d]? = some (.tuple vs) := by simpa [hlt] using h3
      simp [hg]
    · cases h
theorem Act.put_defers' (a : Act) (d : Option Nat) (v : Value) : (a.put d v).defers = a.defers := by cases d <;> rfl
theorem skip_good (hI : Inv E.n M B out σ a.tmps w) {dst : Option Nat} {σ' : ASt} (h : ASt.put E dst (.tuple []) σ = some σ') : Good E.n out M B σ a.tmps w M B σ' (a.put dst undef).tmps w :=
  (Pre.plain hI (rep_tuple.2 ⟨#[], rfl, reps_nil.2 rfl⟩) (fun b => ownV_no rfl _ _) (tl_no rfl)).put h
theorem awpOps_sound {ops : Array Oper} {Q : Exit → Act → World → Prop} : ∀ (l : List Oper) {M : Mem} {B : Blk} {σ : ASt} {a : Act} {w : World} {K : ASt → Prop}, Inv E.n M B out σ a.tmps w → awpOps E ops l K σ →
    (∀ σ' M' B' a' w', K σ' → Good E.n out M B σ a.tmps w M' B' σ' a'.tmps w' → a'.defers = a.defers → Q .normal a' w') → wpList E.P ops Q l a w
  | [], M, B, σ, a, w, K, hI, h, hQ => hQ σ M B a w h (Good.refl hI) rfl
  | o :: l, M, B, σ, a, w, K, hI, h, hQ => by
    have run : awpOp E o (awpOps E ops l K) σ → o.wp E.P a w (wpList E.P ops Q l) Q := fun h =>
      awpOp_sound hI h fun v σ' M' B' w' hK hG => awpOps_sound l hG.inv hK fun σ2 M2 B2 a2 w2 hk hG2 hd => hQ σ2 M2 B2 a2 w2 hk (hG.trans hG2) (by rw [hd, Act.put_defers'])
    have skip : thenPut E o.dst (.tuple []) σ (awpOps E ops l K) → wpList E.P ops Q l (a.put o.dst undef) w := fun h => by
      unfold thenPut at h
      split at h
      · rename_i σ' hp
        have hG := skip_good hI hp
        exact awpOps_sound l hG.inv h fun σ2 M2 B2 a2 w2 hk hG2 hd => hQ σ2 M2 B2 a2 w2 hk (hG.trans hG2) (by rw [hd, Act.put_defers'])
      · exact h.elim
    rw [awpOps] at h
    unfold wpList
    split at h
    · rename_i hg
      rw [if_pos (by simp [Region.wanted, hg])]
      exact .inl (run h)
    · rename_i j want hg
      split at h
      · rename_i hv
        rw [if_neg (by simp [Region.wanted, hg, gval_yields hI hv])]
        exact skip h
      · rename_i b hv
        by_cases hb : b = want
        · rw [if_pos (by simp [Region.wanted, hg, gval_yields hI hv, hb])]
          exact .inl (run (h.1 hb))
        · rw [if_neg (by simp [Region.wanted, hg, gval_yields hI hv, hb])]
          exact skip (h.2 hb)
      · exact h.elim
end
end Go.Proofs.Ytmclnnpaephkpaa

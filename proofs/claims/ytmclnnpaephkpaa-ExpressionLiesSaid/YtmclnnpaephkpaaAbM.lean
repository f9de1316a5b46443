/-
  The whole step of an operation; what a call of a function does ('Ev'); the abstract wp of code.
-/
import Derived.Test.YtmclnnpaephkpaaAbL
namespace Go.Proofs.Ytmclnnpaephkpaa
set_option linter.unusedVariables false
set_option linter.unusedSimpArgs false
set_option linter.unnecessarySimpa false
set_option linter.unusedSectionVars false
open Go.RowKit

section
variable {n : Nat} {out : Nat → Nat} {M : Mem} {B : Blk} {σ σ1 : ASt} {a : Act} {w : World} {E : AE} {o : Oper} {p : PV}
def StepRes (E : AE) (out : Nat → Nat) (M : Mem) (B : Blk) (σ : ASt) (a : Act) (w : World) (o : Oper) (p : PV) (σ1 : ASt) : Prop :=
  ∃ v w' M' B', ((execOp a.eval o).run E.P w = .ok (.value v) w' ∨ ((execOp a.eval o).run E.P w = .ok .skip w' ∧ o.dst = none)) ∧ Pre E.n out M B σ a.tmps w M' B' σ1 w' p v
theorem execOp_val {P : Program} {ρ : Operand → Value} {o : Oper} {s : Sem Value} {v : Value} {w w' : World} (h : execOp ρ o = (do pure (.value (← s)))) (hr : s.run P w = .ok v w') : (execOp ρ o).run P w = .ok (.value v) w' := by
  rw [h]; simp [hr]
theorem step_pop (hI : Inv E.n M B out σ a.tmps w) (h : (pop E.P σ.rd o.op).map (fun p => (p, σ)) = some (p, σ1)) : StepRes E out M B σ a w o p σ1 := by
  cases hp : pop E.P σ.rd o.op with
  | none => simp [hp] at h
  | some q =>
    simp [hp] at h
    obtain ⟨rfl, rfl⟩ := h
    obtain ⟨v, h1, h2, h3⟩ := pop_sound (fun x q hq => hI.rd x q hq) hp w hI.mem
    exact ⟨v, w, M, B, .inl h1, Pre.plain hI h2 (fun b => ownV_no h3 _ _) (tl_no h3)⟩
theorem step_sound (hI : Inv E.n M B out σ a.tmps w) (hs : stepV E o σ = some (p, σ1)) (hside : sideV E o σ) : StepRes E out M B σ a w o p σ1 := by
  obtain ⟨dst, op, type, pos, after, guard⟩ := o
  cases op with
  | move x =>
    simp only [stepV] at hs
    split at hs
    · cases hx : σ.ev x with
      | none => simp [hx] at hs
      | some q =>
        simp [hx] at hs; obtain ⟨rfl, rfl⟩ := hs
        exact ⟨_, w, M, B, .inl rfl, Pre.moved hI hx⟩
    · cases hx : σ.rd x with
      | none => simp [hx] at hs
      | some q =>
        simp [hx] at hs; obtain ⟨rfl, rfl⟩ := hs
        obtain ⟨h1, h2⟩ := hI.rd x _ hx
        exact ⟨_, w, M, B, .inl rfl, Pre.plain hI h1 (fun b => ownV_no h2 _ _) (tl_no h2)⟩
  | assign x =>
    simp only [stepV] at hs
    cases hx : σ.ev x with
    | none => simp [hx] at hs
    | some q =>
      simp [hx] at hs; obtain ⟨rfl, rfl⟩ := hs
      exact ⟨_, w, M, B, .inl rfl, Pre.moved hI hx⟩
  | alloc t =>
    simp only [stepV] at hs
    cases ht : ti E.P t with
    | none => simp [ht] at hs
    | some I =>
      simp [ht] at hs; obtain ⟨rfl, rfl⟩ := hs
      obtain ⟨vs, h1, h2, h3, h4⟩ := alloc_run ht w
      have hG := hI.newObj vs t I.zero (by rw [h3]; simp) (fun j p hj => by
        rw [h3, List.getElem?_map] at hj
        cases hv : vs.toList[j]? with
        | none => simp [hv] at hj
        | some v =>
          simp [hv] at hj; subst hj
          have hv' : vs[j]? = some v := by simpa using hv
          exact ⟨v, hv', rep_zero (h4 v (Array.mem_of_getElem? hv')), tl_zero v, h4 v (Array.mem_of_getElem? hv'), ownV_zero v⟩)
      refine ⟨_, _, _, _, .inl (execOp_val rfl h1), Pre.ofGood hG (rep_ptr.2 ⟨(w.heap.size, vs.size), by have := hI.heap.1; simp [this], rfl⟩) rfl⟩
  | box t x =>
    simp only [stepV] at hs
    split at hs
    · cases hx : σ.rd x with
      | none => simp [hx] at hs
      | some q =>
        cases hf : frzPV q with
        | none => simp [hx, hf] at hs
        | some e =>
          simp [hx, hf] at hs; obtain ⟨rfl, rfl⟩ := hs
          unfold frzPV at hf
          cases hn : q.newCells with
          | none => simp [hn] at hf
          | some cs =>
            rw [hn] at hf
            simp only at hf
            split at hf
            · rename_i hfl
              injection hf with hf
              obtain ⟨r1, r2⟩ := hI.rd x _ hx
              obtain ⟨h1, h2⟩ := newCells_rep hn r1
              have hone := newCells_one hn r1
              obtain ⟨hG, hfp⟩ := hI.lay (a.eval x).cells t (a.eval x).cells.size (fun v hv => hone v (by simpa using hv))
              have hM : ∀ (j : Nat) u, (a.eval x).cells.toList[j]? = some u → laid M w.heap.size ((a.eval x).cells.toList.take (a.eval x).cells.size) w.heap.size j = some u := fun j u hu => by
                rw [laid, if_pos rfl, List.getElem?_take, if_pos (by have := (List.getElem?_eq_some_iff.1 hu).1; simpa using this)]; exact hu
              have hm := (laid_le hI ((a.eval x).cells.toList.take (a.eval x).cells.size)).none
              have hloc : Loc (laid M w.heap.size ((a.eval x).cells.toList.take (a.eval x).cells.size)) [] e w.heap.size 0 := by
                have r3 : Rep M [] q (a.eval x) := r1.flat [] hfl
                obtain ⟨h3, _⟩ := newCells_rep hn r3
                cases q with
                | agg ds =>
                  subst hf
                  refine loc_agg.2 (cells_of fun j p hj => ?_)
                  obtain ⟨u, hu, hr⟩ := reps_get h3 hj
                  exact ⟨u, by rw [Nat.zero_add]; exact hM j u hu, hr.mono hm⟩
                | tuple ds => simp [PV.newCells, PV.one] at hn
                | _ =>
                  subst hf
                  refine (loc_of_one rfl).2 ⟨a.eval x, hM 0 _ ?_, r3.mono hm⟩
                  rw [(one_cells rfl r1).1]; rfl
              exact ⟨.pointer (some ⟨w.heap.size, 0, none⟩), _, _, _, .inl (execOp_val (s := Instr.box t (a.eval x)) rfl (by simp [Instr.box, newVar, newRow])), Pre.ofGood hG (rep_cst.2 ⟨_, _, rfl, hloc⟩) rfl⟩
            · cases hf
    · cases hx : σ.rd x with
      | none => simp [hx] at hs
      | some q =>
        cases hn : q.newCells with
        | none => simp [hx, hn] at hs
        | some cs =>
          simp [hx, hn] at hs; obtain ⟨rfl, rfl⟩ := hs
          obtain ⟨r1, r2⟩ := hI.rd x _ hx
          obtain ⟨h1, h2⟩ := newCells_rep hn r1
          have hone := newCells_one hn r1
          have hG := hI.newObj (a.eval x).cells t cs (by have := reps_length h1; simpa using Nat.le_of_eq this) (fun j p hj => by
            obtain ⟨u, hu, hr⟩ := reps_get h1 hj
            have ho := h2 p (List.mem_of_getElem? hj)
            exact ⟨u, by simpa using hu, hr, tl_no ho, hone u (List.mem_of_getElem? hu), fun b => ownV_no ho _ _⟩)
          exact ⟨.pointer (some ⟨w.heap.size, 0, none⟩), _, _, _, .inl (execOp_val (s := Instr.box t (a.eval x)) rfl (by simp [Instr.box, newVar, newRow])), Pre.ofGood hG (rep_ptr.2 ⟨(w.heap.size, (a.eval x).cells.size), by have := hI.heap.1; simp [this], rfl⟩) rfl⟩
  | load t x =>
    simp only [stepV] at hs
    split at hs
    · rename_i I q hI' hq
      obtain ⟨v, h1, h2⟩ := load_sound hI hI' hq hs
      exact ⟨v, w, M, B, .inl (execOp_val rfl h1), h2⟩
    · cases hs
  | store t x y =>
    simp only [stepV] at hs
    cases hI' : ti E.P t with
    | none => simp [hI'] at hs
    | some I =>
      cases hq : σ.rd x with
      | none => simp [hI', hq] at hs
      | some q =>
        cases hp : σ.ev y with
        | none => simp [hI', hq, hp] at hs
        | some p' =>
          cases dst with
          | some d => simp [hI', hq, hp] at hs
          | none =>
            simp only [hI', hq, hp] at hs
            cases hst : storeV I q p' (σ.clr y) with
            | none => simp [hst] at hs
            | some σ2 =>
              simp [hst] at hs; obtain ⟨rfl, rfl⟩ := hs
              obtain ⟨w', M', B', h1, h2⟩ := store_sound hI hI' hq hp hst
              refine ⟨undef, w', M', B', .inr ⟨?_, rfl⟩, h2⟩
              show (execOp a.eval ⟨none, .store t x y, type, pos, after, guard⟩).run E.P w = _
              simp [execOp, h1]
  | buildSlice t len ps =>
    simp only [stepV] at hs
    split at hs
    · rename_i I qs hT hq
      split at hs
      · rename_i es he
        split at hs
        · rename_i hc
          obtain ⟨l1, l2⟩ := literal_sound hI hT hq he hc.1 hc.2.1 hc.2.2
          split at hs
          · cases hs
            obtain ⟨v, w', M', B', h1, h2⟩ := l2
            exact ⟨v, w', M', B', .inl (execOp_val rfl h1), h2⟩
          · cases hs
            obtain ⟨v, w', M', B', h1, h2⟩ := l1
            exact ⟨v, w', M', B', .inl (execOp_val rfl h1), h2⟩
        · cases hs
      · cases hs
    · cases hs
  | call c =>
    obtain ⟨callee, args, argTypes⟩ := c
    simp only [stepV] at hs
    split at hs
    · simp only [sideV] at hside
      split at hs
      · rename_i s x t u h1 h2
        split at hs
        · rename_i I ow sz es o' sz' es' hT hs' hx
          split at hs
          · rename_i hc
            obtain ⟨how, rfl, hc1, hc2, hc3, hc4⟩ := hc
            cases hs
            rw [h1] at hside
            simp only [hs', hx] at hside
            have e1 : args = #[s, x] := by rw [← Array.toList_inj]; exact h1
            have e2 : argTypes = #[t, t] := by rw [← Array.toList_inj]; exact h2
            subst e1; subst e2
            obtain ⟨v, w', M', B', g1, g2⟩ := append_sound (ty := type) hI hT how hs' hx hc1 hc2 hc3 hc4 hside
            refine ⟨v, w', M', B', .inl ?_, g2⟩
            show (execOp a.eval ⟨dst, .call ⟨.builtin .append, #[s, x], #[t, t]⟩, type, pos, after, guard⟩).run E.P w = _
            simp [execOp, resolve, invoke, builtin, g1]
          · cases hs
        · cases hs
      · cases hs
    · rename_i hne
      refine step_pop hI ?_
      rw [pop]; exact hs
  | _ => exact step_pop hI hs
end
end Go.Proofs.Ytmclnnpaephkpaa

/-
  Stores, slice literals, append.
-/
import Derived.Test.YtmclnnpaephkpaaAbH
namespace Go.Proofs.Ytmclnnpaephkpaa
set_option linter.unusedVariables false
set_option linter.unusedSimpArgs false
set_option linter.unnecessarySimpa false
set_option linter.unusedSectionVars false
open Go.RowKit

section
variable {n : Nat} {out : Nat → Nat} {M : Mem} {B : Blk} {σ : ASt} {a : Act} {w : World} {t : Array Value}
theorem storeCells_sound {P : Program} {i : Nat} {c : Nat × Nat} (hc : B[i]? = some c) {off : Nat} : ∀ (ds : List PV) (us : List Value) (k : Nat) (cs : List PV) (σ : ASt) (w : World), Inv n M B out σ t w → σ.h[i]? = some (some cs) →
    Reps M B ds us → (∀ d, d ∈ ds → d.own = false) → (∀ u, u ∈ us → u.oneCell' = true) → off + k + ds.length ≤ cs.length →
    ∃ w', (storeCells ⟨c.1, off, none⟩ us k).run P w = .ok () w' ∧ Good n out M B σ t w M B { σ with h := σ.h.set i (some (cs.take (off + k) ++ ds ++ cs.drop (off + k + ds.length))) } t w'
  | [], us, k, cs, σ, w, hI, hi, hr, _, _, _ => by
    rw [reps_nil] at hr; subst hr
    refine ⟨w, rfl, ?_⟩
    have : σ.h.set i (some (cs.take (off + k) ++ [] ++ cs.drop (off + k + ([] : List PV).length))) = σ.h := by
      simp only [List.append_nil, List.length_nil, Nat.add_zero, List.take_append_drop]
      apply List.ext_getElem?
      intro j
      by_cases e : i = j
      · subst e; rw [List.getElem?_set_self (List.getElem?_eq_some_iff.1 hi).1, hi]
      · rw [List.getElem?_set_ne e]
    rw [this]; exact Good.refl hI
  | d :: ds, us, k, cs, σ, w, hI, hi, hr, hown, hone, hfit => by
    obtain ⟨u, us, rfl, h1, h2⟩ := reps_cons.1 hr
    have ho := hown d (by simp)
    have hu1 := hone u (by simp)
    simp only [List.length_cons] at hfit
    obtain ⟨s1, s2, s3, s4, s5⟩ := hI.setCell hi hc (by omega : off + k < cs.length) h1 (tl_no ho) hu1 (fun b => by rw [ownV_no ho]; exact hI.cnt b) (fun b _ => ownV_no ho _ _)
    have hst : (store ((⟨c.1, off, none⟩ : Addr).add k) u).run P w = .ok () (w.setCell ⟨c.1, off + k, none⟩ u) := by
      rw [add_lit, run_store P w _ u _ hu1]
      obtain ⟨x, hx⟩ := Option.isSome_iff_exists.1 s5
      simp [hx, s4]
    have hi' : ({ σ with h := σ.h.set i (some (cs.set (off + k) d)) } : ASt).h[i]? = some (some (cs.set (off + k) d)) := List.getElem?_set_self (List.getElem?_eq_some_iff.1 hi).1
    obtain ⟨w', hw, hG⟩ := storeCells_sound (P := P) (off := off) hc ds us (k + 1) (cs.set (off + k) d) _ _ s1 hi' h2 (fun e he => hown e (by simp [he])) (fun v hv => hone v (by simp [hv])) (by rw [List.length_set]; omega)
    refine ⟨w', by simp only [storeCells, Sem.run_bind, hst, Result.andThen_ok, hw], ?_⟩
    have hG1 : Good n out M B σ t w M B { σ with h := σ.h.set i (some (cs.set (off + k) d)) } t (w.setCell ⟨c.1, off + k, none⟩ u) :=
      ⟨s1, MLe.refl _ _, s3, fun b _ => by have := s2 b; rw [ownV_no ho] at this; exact this⟩
    have := hG1.trans hG
    have e : (cs.set (off + k) d).take (off + (k + 1)) ++ ds ++ (cs.set (off + k) d).drop (off + (k + 1) + ds.length) = cs.take (off + k) ++ (d :: ds) ++ cs.drop (off + k + (d :: ds).length) := by
      have e1 : (cs.set (off + k) d).take (off + (k + 1)) = cs.take (off + k) ++ [d] := by
        apply List.ext_getElem?
        intro j
        simp only [List.getElem?_take, List.getElem?_set, List.getElem?_append, List.length_take]
        by_cases hj : j < off + k
        · rw [if_pos (by omega), if_neg (by omega), if_pos (by omega), if_pos hj]
        · by_cases hj2 : j = off + k
          · subst hj2
            rw [if_pos (by omega), if_pos rfl, if_pos (by omega), if_neg (by omega), Nat.min_eq_left (by omega)]; simp
          · rw [if_neg (by omega), if_neg (by omega), List.getElem?_eq_none (by simp; omega)]
      have e2 : (cs.set (off + k) d).drop (off + (k + 1) + ds.length) = cs.drop (off + k + (d :: ds).length) := by
        rw [List.drop_set_of_lt (by omega)]
        congr 1; simp; omega
      rw [e1, e2]; simp
    rw [List.set_set, e] at this
    exact this
theorem reps_one {ds : List PV} {us : List Value} (h : Reps M B ds us) (ho : ∀ d, d ∈ ds → d.one = true) : ∀ u, u ∈ us → u.oneCell' = true := by
  intro u hu
  obtain ⟨j, hj⟩ := List.mem_iff_getElem?.1 hu
  have hl := reps_length h
  have hjl := (List.getElem?_eq_some_iff.1 hj).1
  have hd : ds[j]? = some ds[j] := List.getElem?_eq_getElem (by omega)
  obtain ⟨u', e, hr⟩ := reps_get h hd
  rw [e] at hj; cases hj
  exact (one_cells (ho _ (List.getElem_mem _)) hr).2
theorem store_sound (hI : Inv n M B out σ a.tmps w) {P : Program} {ty : TypeId} {I : TI} (h : ti P ty = some I) {x y : Operand} {q p : PV} (hq : σ.rd x = some q) (hp : σ.ev y = some p) {σ1 : ASt} (hs : storeV I q p (σ.clr y) = some σ1) :
    ∃ w' M' B', (Instr.storeAt ty (a.eval x) (a.eval y)).run P w = .ok () w' ∧ Pre n out M B σ a.tmps w M' B' σ1 w' (.tuple []) undef := by
  have hr := (hI.rd x q hq).1
  obtain ⟨hpr, hpT⟩ := hI.ev hp
  obtain ⟨i', z, d, hT⟩ := ti_spec h
  obtain ⟨c1, c2, c3⟩ := hI.clrO hp
  have hundef : Rep M B (.tuple []) undef := rep_tuple.2 ⟨#[], rfl, reps_nil.2 rfl⟩
  unfold storeV at hs
  split at hs
  · rename_i i off
    obtain ⟨c, hc, e1⟩ := rep_ptr.1 hr
    rw [e1]
    split at hs
    · rename_i cs hcs
      split at hs
      · rename_i ds
        split at hs
        · rename_i hlen
          cases hs
          obtain ⟨vs, e2, hv⟩ := rep_agg.1 hpr
          have hvs : vs.size = I.size := by have := reps_length hv; simp at this; omega
          have hone : ∀ d, d ∈ ds → d.one = true := fun d hd => List.all_eq_true.1 hlen.2.2 d hd
          · obtain ⟨w', hw, hG⟩ := storeCells_sound (P := P) hc (off := off) (ds.map PV.un) vs.toList 0 cs _ _ c1 hcs (reps_un hv) (fun d hd => by obtain ⟨x, _, rfl⟩ := List.mem_map.1 hd; exact un_own x) (reps_one hv hone) (by simp; omega)
            refine ⟨w', M, B, ?_, ?_⟩
            · rw [e2]
              have hsz : (Value.agg vs).cells.size = I.size := hvs
              simp only [Instr.storeAt, Instr.sureAddr, Sem.run_bind, Sem.run_pure, Result.andThen_ok, storeVar, hT.run_sizeOf w]
              rw [if_neg (by rw [hsz]; simp)]
              exact hw
            · have hp0 : ∀ b, ownV (.agg ds) (a.eval y) b = 0 := fun b => ownV_no rfl _ _
              have hfp : ∀ b, fp B (σ.clr y) a.tmps w b = fp B σ a.tmps w b := fun b => by have := c2 b; rw [hp0] at this; exact this
              have e3 : ({ σ.clr y with h := (σ.clr y).h.set i (some (cs.take (off + 0) ++ ds.map PV.un ++ cs.drop (off + 0 + (ds.map PV.un).length))) } : ASt) = { σ.clr y with h := (σ.clr y).h.set i (some (cs.take off ++ ds.map PV.un ++ cs.drop (off + I.size))) } := by
                simp only [Nat.add_zero, List.length_map, hlen.1]
              rw [e3] at hG
              exact ⟨hG.inv, hG.le, hG.fr.mono fun b _ h0 => by rw [hfp]; exact h0, fun b hb => by have := hG.own b hb; rw [hfp] at this; simpa [ownV, PV.own] using this, hundef, tl_no rfl, fun b => by have := hG.inv.cnt b; simpa [ownV, PV.own] using this, fun b _ => by simp [ownV, PV.own]⟩
        · cases hs
      · split at hs
        · rename_i p hnagg hcond
          cases hs
          obtain ⟨h1, h2, h3⟩ := hcond
          obtain ⟨k1, k2⟩ := one_cells h1 hpr
          obtain ⟨s1, s2, s3, s4, s5⟩ := c1.setCell hcs hc h3 hpr hpT k2 (fun b => by rw [c2]; exact hI.cnt b) (fun b hb => by have := c2 b; have := hI.new b hb; omega)
          refine ⟨_, M, B, ?_, s1, MLe.refl _ _, s3.mono fun b _ h0 => by have := c2 b; omega, fun b _ => by have := s2 b; have := c2 b; simp only [ownV, PV.own]; simp; omega, hundef, tl_no rfl, fun b => by have := s1.cnt b; simpa [ownV, PV.own] using this, fun b _ => by simp [ownV, PV.own]⟩
          have hst : (store ((⟨c.1, off, none⟩ : Addr).add 0) (a.eval y)).run P w = .ok () (w.setCell ⟨c.1, off, none⟩ (a.eval y)) := by
            rw [add_lit, run_store P w _ _ _ k2]
            obtain ⟨x, hx⟩ := Option.isSome_iff_exists.1 s5
            simp [hx, s4]
          simp only [Instr.storeAt, Instr.sureAddr, Sem.run_bind, Sem.run_pure, Result.andThen_ok, storeVar, hT.run_sizeOf w, k1]
          rw [if_neg (by simp; omega)]
          simp only [Sem.run_bind, Sem.run_pure, Result.andThen_ok, storeCells, hst]
        · cases hs
    · cases hs
  · cases hs
end
end Go.Proofs.Ytmclnnpaephkpaa

/-
  A function that holds a range over a function: from its frame into the iterator's and back.
-/
import Derived.Test.YtoajpgclgdhhlaaAbK
namespace Go.Proofs.Ytoajpgclgdhhlaa
set_option linter.unusedVariables false
set_option linter.unusedSimpArgs false
set_option linter.unnecessarySimpa false
set_option linter.unusedSectionVars false
open Go.RowKit
/-- What a function's end says to its caller. -/
theorem post_of {P : Program} {n : Nat} {out : Nat → Nat} {h : Objs} {M : Mem} {B : Blk} {w : World} {σ0 : ASt} {t0 : Array Value} (hheap : HeapOK M B w h) (hfp : ∀ b, fp B σ0 t0 w b = ownH w h B b)
    {M' : Mem} {B' : Blk} {σ' : ASt} {a' : Act} {w' : World} (hG : GoodC n out h.length M B σ0 t0 w M' B' σ' a'.tmps w') {fn : Func} {r0 : PV} {h' : Objs} (hret : retOK P fn.results.toList h.length r0 h' σ') (ro : List (List Nat × Bool)) :
    ∃ v, (results fn a'.tmps).run P w' = .ok v w' ∧ Post h B out M w (finR ro r0) h' v M' (B'.take h'.length) w' := by
  obtain ⟨v, hrun, hrep, htl, hown⟩ := ret_run hG.inv hret
  obtain ⟨hm0, hht, hb1, hb2, _⟩ := hret
  generalize hm' : h'.length = m at *
  subst hht
  have hBl : B.length = h.length := hheap.1.symm
  have htake := fun b => ownH_take (w := w') m b σ'.h B'
  have hfin : ∀ b, ownH w' (σ'.h.take m) (B'.take m) b + ownV (finR ro r0) v b ≤ fp B' σ' a'.tmps w' b := fun b => by have := htake b; have := hown b; have := finR_own (ro := ro) (r := r0) (v := v) (b := b); simp only [fp]; omega
  refine ⟨v, hrun, hG.inv.mem, ⟨hG.mem, fun i c hc => ?_⟩, hG.fr.mono fun b hb h0 => by rw [hfp]; exact h0, ⟨by simp [hG.inv.heap.1], fun i cs hi => ?_⟩, finR_rep (hrep.blw hb1), finR_tl htl, fun b hb => ?_, fun b => ?_, fun b hb => ?_⟩
  · have hlt := (List.getElem?_eq_some_iff.1 hc).1
    rw [List.getElem?_take, if_pos (by omega)]
    exact hG.pre i c (by omega) hc
  · have hi0 := hi
    rw [List.getElem?_take] at hi
    split at hi
    · rename_i hlt
      obtain ⟨c, hc, vs, ty, o1, o2, o3, o4, o5⟩ := hG.inv.heap.2 i cs hi
      refine ⟨c, by rw [List.getElem?_take, if_pos hlt]; exact hc, vs, ty, o1, o2, o3, fun j p hj => ?_, o5⟩
      obtain ⟨u, a1, a2, a3, a4⟩ := o4 j p hj
      refine ⟨u, a1, a2.blw ?_, a3, a4⟩
      have := List.all_eq_true.1 hb2 _ (List.mem_of_getElem? hi0)
      exact blws_iff.1 this p (List.mem_of_getElem? hj)
    · cases hi
  · have h1 := hG.own b hb; rw [hfp] at h1; exact Nat.le_trans (hfin b) h1
  · have h1 := hG.inv.cnt b; have := hfin b; omega
  · have h1 := hG.inv.new b hb; have := hfin b; omega
/-- The state at a function's beginning. -/
theorem start_inv {n : Nat} {out : Nat → Nat} {M : Mem} {B : Blk} {w : World} {h : Objs} {args : List PV} {vals : Array Value} (hlen : args.length ≤ n) (hmem : memOK M w) (hheap : HeapOK M B w h) (hcnt : ∀ b, ownH w h B b + out b ≤ 1) (hnew : ∀ b, w.heap.size ≤ b → ownH w h B b + out b = 0)
    (hv : Reps M B args vals.toList) : Inv n M B out ⟨slots0 0 args, h⟩ (vals ++ Array.replicate (n - vals.size) undef) w := by
  have hvl := reps_length hv
  simp only [Array.length_toList] at hvl
  have hfp : ∀ t b, fp B ⟨slots0 0 args, h⟩ t w b = ownH w h B b := fun t b => by simp only [fp, slots0_own]; omega
  refine ⟨by simp; omega, hmem, slots0_srt.1, fun k p hk => ?_, hheap, fun b => by rw [hfp]; exact hcnt b, fun b hb => by rw [hfp]; exact hnew b hb⟩
  obtain ⟨i, q, rfl, hq, rfl⟩ := slots0_get hk
  obtain ⟨v, hv1, hv2⟩ := reps_get hv hq
  have hi := (List.getElem?_eq_some_iff.1 hq).1
  refine ⟨by omega, ?_, tl_no (un_own _)⟩
  have hvi : vals[i]? = some v := by simpa using hv1
  have : (vals ++ Array.replicate (n - vals.size) undef).getD (0 + i) undef = v := by
    rw [Nat.zero_add, Array.getD_eq_getD_getElem?, Array.getElem?_append_left (by omega), hvi]; rfl
  rw [this]; exact rep_un.2 hv2
theorem slots0_fp {B : Blk} {args : List PV} {h : Objs} (t : Array Value) (w : World) (b : Nat) : fp B ⟨slots0 0 args, h⟩ t w b = ownH w h B b := by simp only [fp, slots0_own]; omega
/-- The blocks that a range over a function lays. -/
def enterW (w : World) (rc : Loop) : World := (w.alloc (.deferred (some []))).alloc (.loop rc)
def outE (out : Nat → Nat) (s : Nat) (b : Nat) : Nat := out b + (if b = s ∨ b = s + 1 then 1 else 0)
section
variable {n : Nat} {out : Nat → Nat} {M : Mem} {B : Blk} {σ : ASt} {t : Array Value} {w : World}
theorem enterW_old (rc : Loop) {b : Nat} (hb : b < w.heap.size) : (enterW w rc).heap[b]? = w.heap[b]? := by
  unfold enterW
  exact (Below.heap_alloc _ _ b (by simp; omega)).trans (Below.heap_alloc _ _ b hb)
theorem enterW_size (rc : Loop) : (enterW w rc).heap.size = w.heap.size + 2 := by simp [enterW]
theorem enterW_rec (rc : Loop) : (enterW w rc).heap[w.heap.size + 1]? = some (.loop rc) := by
  have := World.alloc_heap_new (w.alloc (.deferred (some []))) (.loop rc)
  rwa [World.size_alloc] at this
theorem enterW_def (rc : Loop) : (enterW w rc).heap[w.heap.size]? = some (.deferred (some [])) :=
  (Below.heap_alloc _ _ _ (by simp)).trans (World.alloc_heap_new w _)
theorem enter_inv (hI : Inv n M B out σ t w) (rc : Loop) : Inv n M B (outE out w.heap.size) σ t (enterW w rc) ∧ ∀ b, fp B σ t (enterW w rc) b = fp B σ t w b := by
  have hx := hI.ext (M' := M) (w' := enterW w rc) (MLe.refl _ _) (fun b o v h => by
      obtain ⟨h1, h2⟩ := hI.mem b o v h
      have hb := World.block_lt_of_cell? _ _ h1
      refine ⟨?_, h2⟩
      exact (World.cell?_of_block (enterW_old rc hb)).trans h1) (fun b hb => by
      have hl : b < w.heap.size := ownH_lt hI (by omega)
      exact ⟨enterW_old rc hl, fun _ => rfl⟩) (by rw [enterW_size]; omega)
  refine ⟨⟨hx.1.size, hx.1.mem, hx.1.srt, hx.1.slots, hx.1.heap, fun b => ?_, fun b hb => ?_⟩, hx.2⟩
  · rw [hx.2]
    have h1 := hI.cnt b
    unfold outE
    split
    · rename_i h
      have := hI.new b (by omega)
      omega
    · omega
  · rw [hx.2]
    rw [enterW_size] at hb
    have := hI.new b (by omega)
    unfold outE
    rw [if_neg (by omega)]; omega
/-- The block of deferred calls is shut. -/
theorem putObj_d {l m0 : Nat} (hI : Inv n M B out σ t w) (ho : 1 ≤ out l) {ds : Option (List Deferred)} (hr : w.heap[l]? = some (.deferred ds)) (o' : Obj) : GoodL l n out m0 M B σ t w M B σ t (w.putObj l o') := by
  have h0 := fp_rec hI ho
  have hx := hI.ext (M' := M) (w' := w.putObj l o') (MLe.refl _ _) (fun b o v h => by
      obtain ⟨h1, h2⟩ := hI.mem b o v h
      refine ⟨?_, h2⟩
      have hbl : b ≠ l := by
        intro e; subst e
        simp [World.cell?, hr] at h1
      unfold World.cell? at *
      simp only at *
      rw [World.putObj_heap_other hbl]; exact h1) (fun b hb => by
      have hbl : b ≠ l := by intro e; subst e; omega
      exact ⟨World.putObj_heap_other hbl, fun _ => rfl⟩) (by simp)
  exact ⟨hx.1, fun _ _ _ h => h, fun _ _ _ h => h, rfl, rfl, rfl, by simp, fun b _ hl _ => ⟨World.putObj_heap_other hl, fun _ => rfl⟩, fun b _ => by rw [hx.2]; exact Nat.le_refl _⟩
theorem leave_good {m0 : Nat} {rc : Loop} (hI : Inv n M B out σ t w) {M1 : Mem} {B1 : Blk} {σ1 : ASt} {t1 : Array Value} {w1 : World} (hG1 : GoodL (w.heap.size + 1) n (outE out w.heap.size) m0 M B σ t (enterW w rc) M1 B1 σ1 t1 w1)
    {M' : Mem} {B' : Blk} {σ' : ASt} {t' : Array Value} {w' : World} (hG2 : GoodL w.heap.size n (outE out w.heap.size) m0 M1 B1 σ1 t1 w1 M' B' σ' t' w') : GoodC n out m0 M B σ t w M' B' σ' t' w' := by
  have he := (enter_inv hI rc).2
  have hs := enterW_size (w := w) rc
  have hle : ∀ b, out b ≤ outE out w.heap.size b := fun b => by unfold outE; omega
  have hs1 := hG1.size
  have hs2 := hG2.size
  refine ⟨⟨hG2.inv.size, hG2.inv.mem, hG2.inv.srt, hG2.inv.slots, hG2.inv.heap, fun b => ?_, fun b hb => ?_⟩, fun b o v h => hG2.mem b o v (hG1.mem b o v h), fun i c hi h => hG2.pre i c hi (hG1.pre i c hi h), ⟨hG2.os.trans hG1.os, hG2.tape.trans hG1.tape, hG2.output.trans hG1.output, by omega, fun b hb h0 => ?_⟩, fun b hb => ?_⟩
  · have := hG2.inv.cnt b; have := hle b; omega
  · have := hG2.inv.new b hb; have := hle b; omega
  · have h1 := hG1.blk b (by omega) (by omega) (by rw [he]; exact h0)
    have h2 := hG1.own b (by omega)
    rw [he, h0] at h2
    have h3 := hG2.blk b (by omega) (by omega) (by omega)
    rw [enterW_old rc hb] at h1
    exact ⟨h3.1.trans h1.1, fun o => (h3.2 o).trans (h1.2 o)⟩
  · have h1 := hG1.own b (by omega)
    have h2 := hG2.own b (by omega)
    rw [he] at h1; omega
theorem app_get0 {a b : Value} {r : Array Value} : (#[a, b] ++ r).getD 0 undef = a := by rw [Array.getD_eq_getD_getElem?, Array.getElem?_append_left (by simp)]; rfl
theorem app_get1 {a b : Value} {r : Array Value} : (#[a, b] ++ r).getD 1 undef = b := by rw [Array.getD_eq_getD_getElem?, Array.getElem?_append_left (by simp)]; rfl
end
end Go.Proofs.Ytoajpgclgdhhlaa

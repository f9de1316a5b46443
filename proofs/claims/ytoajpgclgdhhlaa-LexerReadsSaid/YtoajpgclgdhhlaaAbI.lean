/-
  The evaluator's soundness in the frame of a round (a range over a function): what it says of code in a frame of its own holds there too.
-/
import Derived.Test.YtoajpgclgdhhlaaAbQ
import Derived.RangeFuncIn
import Derived.OrdersIn
import Derived.TacticsIn
import Derived.LoopNIn
import Derived.RangeFuncRecord
namespace Go.Proofs.Ytoajpgclgdhhlaa
set_option linter.unusedVariables false
set_option linter.unusedSimpArgs false
set_option linter.unnecessarySimpa false
set_option linter.unusedSectionVars false
open Go.RowKit

abbrev rnd (l : Nat) : Fence := Fence.wide.inRound l
section
variable {P : Program} {l n : Nat}
theorem callsIn_rnd {f : FuncId} {args : Array Value} {w : World} {R : Ending → World → Prop} (h : Calls P f args w R) : CallsIn (rnd l) n P f args w R :=
  callsIn_wide.2 h
theorem rowsIn_rnd {row : String} {args : Array Value} {w : World} {R : Value → World → Prop} (h : Rows P row args w R) : RowsIn (rnd l) n P row args w R :=
  fun c cs _ => let ⟨v, w', r, s⟩ := h c cs; ⟨v, w', r, stepsIn_wide.2 s⟩
theorem opIn_rnd {o : Oper} {a : Act} {w : World} {K : Act → World → Prop} {Q : Exit → Act → World → Prop} (hd : ∀ c, o.op ≠ .defer c) (h : o.wp P a w K Q) : o.wpIn (rnd l) n P a w K Q := by
  refine ⟨fun _ _ => trivial, ?_⟩
  rw [show (rnd l).round = some l from rfl, Oper.semAt_some l a.eval o hd]
  unfold Oper.wp at h
  generalize (execOp a.eval o).run P w = r at *
  cases r with
  | ok x w' =>
    cases x <;> simp only [Oper.upon, Oper.uponIn] at h ⊢ <;>
      first
        | exact h
        | exact h.elim
        | exact ⟨fun h => by simp [Fence.wide, Fence.inRound] at h, callsIn_rnd h⟩
        | exact ⟨fun h => by simp [Fence.wide, Fence.inRound] at h, rowsIn_rnd h⟩
  | halt x w' => cases x <;> simp only [Oper.upon, Oper.uponIn] at h ⊢ <;> exact h
def noDf (o : Oper) : Bool := match o.op with | .defer _ => false | _ => true
theorem noDf_ne {o : Oper} (h : noDf o = true) : ∀ c, o.op ≠ .defer c := fun c hc => by simp [noDf, hc] at h
theorem listIn_rnd {ops : Array Oper} {Q : Exit → Act → World → Prop} (hQ : ¬ LetsOut Q) : ∀ (os : List Oper), (os.all noDf) = true → ∀ (a : Act) (w : World), wpList P ops Q os a w → wpListIn (rnd l) n P ops Q os a w
  | [], _, a, w, h => h
  | o :: os, hd, a, w, h => by
    simp only [List.all_cons, Bool.and_eq_true] at hd
    unfold wpList at h
    unfold wpListIn
    split at h
    · rename_i hw
      rw [if_pos hw]
      rcases h with h | h
      · exact Oper.wpIn_mono (fun a w => listIn_rnd hQ os hd.2 a w) (opIn_rnd (noDf_ne hd.1) h)
      · exact absurd h.2 hQ
    · rename_i hw
      rw [if_neg hw]
      exact ⟨fun _ _ => trivial, listIn_rnd hQ os hd.2 _ _ h⟩
theorem anyIn_rnd {md : Region.Mode} {ops : Array Oper} {Q : Exit → Act → World → Prop} (hQ : ¬ LetsOut Q) (hd : ops.all noDf = true) : ∀ (fuel : Nat) (L : Array Bool) (a : Act) (w : World), wpAny P md ops Q fuel L a w → wpAnyIn (rnd l) n P md ops Q fuel L a w
  | 0, L, a, w, h => h
  | fuel + 1, L, a, w, h => by
    refine ⟨h.1, fun i hi => ?_⟩
    have h2 := h.2 i hi
    unfold wpOp at h2
    unfold wpOpIn
    cases ho : ops[i]? with
    | none => rw [ho] at h2; exact anyIn_rnd hQ hd fuel _ a w h2
    | some o =>
      rw [ho] at h2
      have hdo : noDf o = true := by
        obtain ⟨hlt, he⟩ := Array.getElem?_eq_some_iff.1 ho
        rw [Array.all_eq_true] at hd
        rw [← he]; exact hd i hlt
      show if Region.wanted o (yielded ops a.tmps) = true then _ else _
      have h2 : if Region.wanted o (yielded ops a.tmps) = true then _ else _ := h2
      split at h2
      · rename_i hw
        rw [if_pos hw]
        rcases h2 with h2 | h2
        · exact Oper.wpIn_mono (fun a w => anyIn_rnd hQ hd fuel _ a w) (opIn_rnd (noDf_ne hdo) h2)
        · exact absurd h2.2 hQ
      · rename_i hw
        rw [if_neg hw]
        exact ⟨fun _ _ => trivial, anyIn_rnd hQ hd fuel _ _ _ h2⟩
end
/-- No deferred calls, no scopes. -/
def noDfC : Code → Bool
  | .region _ ops _ => ops.all noDf
  | .seq x y => noDfC x && noDfC y
  | .cond _ x y => noDfC x && noDfC y
  | .block _ x => noDfC x
  | .loop x => noDfC x
  | .scope _ => false
  | .rangeFunc _ _ _ _ => false
  | _ => true
section
variable {E : AE} {m0 l n : Nat} {out : Nat → Nat}
theorem lift_in {M : Mem} {B : Blk} {σ : ASt} {t : Array Value} {w : World} {ds : List Deferred} {Q : AX → ASt → Prop} : ¬ LetsOut (lift E out m0 M B σ t w ds Q) := by
  rintro ⟨a, w', ax, σ', M', B', h, _⟩
  cases ax <;> cases h
theorem awp_soundIn (hm : E.P.follows .mixedOrders = true) : ∀ (c : Code), noDfC c = true → ∀ {M : Mem} {B : Blk} {σ : ASt} {a : Act} {w : World} {Q : AX → ASt → Prop}, Inv E.n M B out σ a.tmps w → awp E m0 c Q σ → c.wpIn (rnd l) n E.P (lift E out m0 M B σ a.tmps w a.defers Q) a w
  | .skip, _, M, B, σ, a, w, Q, hI, h => wpIn_skip ⟨.normal, σ, M, B, rfl, h, rfl, GoodC.refl hI⟩
  | .label _, _, M, B, σ, a, w, Q, hI, h => wpIn_label ⟨.normal, σ, M, B, rfl, h, rfl, GoodC.refl hI⟩
  | .exit id, _, M, B, σ, a, w, Q, hI, h => wpIn_exit ⟨.exit id, σ, M, B, rfl, h, rfl, GoodC.refl hI⟩
  | .ret, _, M, B, σ, a, w, Q, hI, h => wpIn_ret ⟨.ret, σ, M, B, rfl, h, rfl, GoodC.refl hI⟩
  | .region id ops draw, hn, M, B, σ, a, w, Q, hI, h => by
    have hk := head_good (E := E) hI
    have hn : ops.all noDf = true := hn
    rw [awp] at h
    cases draw with
    | false =>
      simp only [Bool.false_eq_true, if_false] at h
      exact wpIn_region_list (listIn_rnd lift_in _ (by rw [Array.all_toList]; exact hn) _ _ (awpOps_sound _ hk.inv h fun σ' M' B' a' w' hq hG hd => ⟨.normal, σ', M', B', rfl, hq, hd, (hk.trans hG).c⟩))
    | true =>
      simp only [if_true] at h
      have hd := hk.inv.drew
      rcases h with ⟨hok, h⟩ | ⟨σt, k, h, hq⟩
      · obtain ⟨σ', hc, hq⟩ := awpOpsD_chain ops.toList 0 (fun j => by simp) h
        have hu : unlisted ops.size (Array.replicate ops.size false) = List.range' 0 ops.toList.length := by
          unfold unlisted
          rw [List.filter_eq_self.2 (fun i hi => by have := List.mem_range.1 hi; simp [this]), List.range_eq_range']; simp
        refine wpIn_region_any hm (anyIn_rnd lift_in hn _ _ _ _ ?_)
        refine any_sound hok ops.size (Array.replicate ops.size false) (K := Q .normal) (σ' := σ') (by simp) (by rw [hu]; simp) (fun j o _ h => ?_) hd.1 (by rw [hu]; exact hc) hq fun M' B' a' w' hk' hG hd' => ⟨.normal, σ', M', B', rfl, hk', hd', ((hk.trans hd.2).trans hG).c⟩
        have h' : (Array.replicate ops.size false).getD j false = true := h
        simp [Array.getElem?_replicate] at h'
        split at h' <;> simp at h'
      · refine wpIn_region_any hm (anyIn_rnd lift_in hn _ _ _ _ (orders_sound ops.size _ hd.1 (fun x hx => ?_) fun M' B' a' w' hG hd' => ⟨.normal, σt, M', B', rfl, hq, hd', ((hk.trans hd.2).trans hG).c⟩))
        rw [h] at hx
        exact (List.mem_replicate.1 hx).2
  | .seq x y, hn, M, B, σ, a, w, Q, hI, h => by
    simp only [noDfC, Bool.and_eq_true] at hn
    rw [awp] at h
    refine wpIn_seq (wpIn_mono (awp_soundIn hm x hn.1 hI h) fun e a' w' hl => ?_)
    obtain ⟨ax, σ', M', B', rfl, hq, hd, hG⟩ := hl
    cases ax with
    | normal =>
      obtain ⟨ks, hq⟩ := hq
      obtain ⟨M2, hz⟩ := frzL_good (m0 := m0) ks hG.inv
      have hG := hG.trans hz
      rcases hq with hq | ⟨l, m, hm0, hg, hq⟩
      · exact wpIn_mono (awp_soundIn hm y hn.2 hG.inv hq) fun e a2 w2 hl2 => by rw [hd] at hl2; exact lift_trans hG hl2
      · have hgc := hG.trans (gc_good hG.inv hm0 hg)
        exact wpIn_mono (awp_soundIn hm y hn.2 hgc.inv hq) fun e a2 w2 hl2 => by rw [hd] at hl2; exact lift_trans hgc hl2
    | ret => exact ⟨.ret, σ', M', B', rfl, hq, hd, hG⟩
    | exit i => exact ⟨.exit i, σ', M', B', rfl, hq, hd, hG⟩
  | .cond c x y, hn, M, B, σ, a, w, Q, hI, h => by
    simp only [noDfC, Bool.and_eq_true] at hn
    rw [awp] at h
    split at h
    · rename_i b hb
      have he := rep_bool.1 (hI.rd _ _ hb).1
      refine wpIn_cond_split he (fun hb => awp_soundIn hm x hn.1 hI (h.1 hb)) (fun hb => awp_soundIn hm y hn.2 hI (h.2 hb))
    · exact h.elim
  | .block id x, hn, M, B, σ, a, w, Q, hI, h => by
    rw [awp] at h
    refine wpIn_block (wpIn_mono (awp_soundIn hm x (by simpa [noDfC] using hn) hI h) fun e a' w' hl => ?_)
    obtain ⟨ax, σ', M', B', rfl, hq, hd, hG⟩ := hl
    cases ax with
    | normal => exact ⟨.normal, σ', M', B', rfl, hq, hd, hG⟩
    | ret => exact ⟨.ret, σ', M', B', rfl, hq, hd, hG⟩
    | exit i =>
      simp only [AX.toExit, Exit.inBlock]
      simp only [blockA] at hq
      split
      · rename_i e; rw [if_pos e] at hq; exact ⟨.normal, σ', M', B', rfl, hq, hd, hG⟩
      · rename_i e; rw [if_neg e] at hq; exact ⟨.exit i, σ', M', B', rfl, hq, hd, hG⟩
  | .scope x, hn, _, _, _, _, _, _, _, _ => by simp [noDfC] at hn
  | .loop x, hn, M, B, σ, a, w, Q, hI, h => by
    rw [awp] at h
    obtain ⟨k, hk⟩ := h
    refine wpIn_loop_rounds k ?_
    have key : ∀ (k : Nat) (M1 : Mem) (B1 : Blk) (σ1 : ASt) (a1 : Act) (w1 : World), GoodC E.n out m0 M B σ a.tmps w M1 B1 σ1 a1.tmps w1 → a1.defers = a.defers → roundsA m0 (awp E m0 x) Q k σ1 → Code.roundsIn (rnd l) n E.P x (lift E out m0 M B σ a.tmps w a.defers Q) k a1 w1 := by
      intro k
      induction k with
      | zero => intro M1 B1 σ1 a1 w1 _ _ h; exact h.elim
      | succ k ih =>
        intro M1 B1 σ1 a1 w1 hG hd h
        obtain ⟨l, m, hm0, hg, hb⟩ := h
        have hgc := gc_good hG.inv hm0 hg
        rw [roundsIn_succ]
        refine wpIn_mono (awp_soundIn hm x (by simpa [noDfC] using hn) hgc.inv hb) fun e a' w' hl => ?_
        obtain ⟨ax, σ', M', B', rfl, hq, hd', hG'⟩ := hl
        have hG2 := (hG.trans hgc).trans hG'
        cases ax with
        | normal => exact ih M' B' σ' a' w' hG2 (by rw [hd', hd]) hq
        | ret => exact ⟨.ret, σ', M', B', rfl, hq, by rw [hd', hd], hG2⟩
        | exit i => exact ⟨.exit i, σ', M', B', rfl, hq, by rw [hd', hd], hG2⟩
    exact key k M B σ a w (GoodC.refl hI) rfl hk
  | .rangeFunc f ps as b, _, _, _, _, _, _, _, _, h => by rw [awp] at h; exact h.elim
  | .goto l, _, _, _, _, _, _, _, _, h => by rw [awp] at h; exact h.elim
  | .refuse l, _, _, _, _, _, _, _, _, h => by rw [awp] at h; exact h.elim
end

/-! ### the loop's record -/
/-- As GoodC, but the block l (a loop's record, nobody's) may have changed. -/
structure GoodL (l n : Nat) (out : Nat → Nat) (m0 : Nat) (M : Mem) (B : Blk) (σ : ASt) (t : Array Value) (w : World) (M' : Mem) (B' : Blk) (σ' : ASt) (t' : Array Value) (w' : World) : Prop where
  inv : Inv n M' B' out σ' t' w'
  mem : ∀ (b o : Nat) (v : Value), M b o = some v → M' b o = some v
  pre : ∀ (i : Nat) (c : Nat × Nat × TypeId), i < m0 → B[i]? = some c → B'[i]? = some c
  os : w'.os = w.os
  tape : w'.tape = w.tape
  output : w'.output = w.output
  size : w.heap.size ≤ w'.heap.size
  blk : ∀ b, b < w.heap.size → b ≠ l → fp B σ t w b = 0 → w'.heap[b]? = w.heap[b]? ∧ ∀ o, M' b o = M b o
  own : ∀ b, b < w.heap.size → fp B' σ' t' w' b ≤ fp B σ t w b
section
variable {n l : Nat} {out : Nat → Nat} {m0 : Nat} {M M1 M2 : Mem} {B B1 B2 : Blk} {σ σ1 σ2 : ASt} {t t1 t2 : Array Value} {w w1 w2 : World}
theorem GoodC.gl (h : GoodC n out m0 M B σ t w M1 B1 σ1 t1 w1) : GoodL l n out m0 M B σ t w M1 B1 σ1 t1 w1 :=
  ⟨h.inv, h.mem, h.pre, h.fr.os, h.fr.tape, h.fr.output, h.fr.size, fun b hb _ h0 => h.fr.blk b hb h0, h.own⟩
theorem GoodL.trans (h : GoodL l n out m0 M B σ t w M1 B1 σ1 t1 w1) (k : GoodL l n out m0 M1 B1 σ1 t1 w1 M2 B2 σ2 t2 w2) : GoodL l n out m0 M B σ t w M2 B2 σ2 t2 w2 :=
  ⟨k.inv, fun b o v e => k.mem b o v (h.mem b o v e), fun i c hi e => k.pre i c hi (h.pre i c hi e), k.os.trans h.os, k.tape.trans h.tape, k.output.trans h.output, Nat.le_trans h.size k.size,
   fun b hb hl h0 => by
    obtain ⟨h1, h2⟩ := h.blk b hb hl h0
    obtain ⟨k1, k2⟩ := k.blk b (Nat.lt_of_lt_of_le hb h.size) hl (by have := h.own b hb; omega)
    exact ⟨k1.trans h1, fun o => (k2 o).trans (h2 o)⟩,
   fun b hb => Nat.le_trans (k.own b (Nat.lt_of_lt_of_le hb h.size)) (h.own b hb)⟩
theorem fp_rec (hI : Inv n M B out σ t w) (ho : 1 ≤ out l) : fp B σ t w l = 0 := by have := hI.cnt l; omega
/-- The record is written. -/
theorem putObj_l (hI : Inv n M B out σ t w) (ho : 1 ≤ out l) {r : Loop} (hr : w.heap[l]? = some (.loop r)) (r' : Loop) : GoodL l n out m0 M B σ t w M B σ t (w.putObj l (.loop r')) := by
  have h0 := fp_rec hI ho
  have hx := hI.ext (M' := M) (w' := w.putObj l (.loop r')) (MLe.refl _ _) (fun b o v h => by
      obtain ⟨h1, h2⟩ := hI.mem b o v h
      refine ⟨?_, h2⟩
      have hbl : b ≠ l := by
        intro e; subst e
        simp [World.cell?, hr] at h1
      unfold World.cell? at *
      simp only at *
      rw [World.putObj_heap_other hbl]; exact h1) (fun b hb => by
      have hbl : b ≠ l := by intro e; subst e; omega
      exact ⟨World.putObj_heap_other hbl, fun _ => rfl⟩) (by simp)
  exact ⟨hx.1, fun _ _ _ h => h, fun _ _ _ h => h, rfl, rfl, rfl, by simp, fun b _ hl _ => ⟨World.putObj_heap_other hl, fun _ => rfl⟩, fun b _ => by rw [hx.2]; exact Nat.le_refl _⟩
theorem rec_kept (hI : Inv n M B out σ t w) (ho : 1 ≤ out l) {r : Loop} (hr : w.heap[l]? = some (.loop r)) (hG : GoodC n out m0 M B σ t w M1 B1 σ1 t1 w1) : w1.heap[l]? = some (.loop r) := by
  have hl : l < w.heap.size := (Array.getElem?_eq_some_iff.1 hr).1
  rw [(hG.fr.blk l hl (fp_rec hI ho)).1]; exact hr
end
def AX.jump : AX → Option Code
  | .normal => none
  | .ret => some .ret
  | .exit i => some (.exit i)
theorem putObj_rec {w : World} {l : Nat} {o o' : Obj} (h : w.heap[l]? = some o) : (w.putObj l o').heap[l]? = some o' := by
  have hl : l < w.heap.size := (Array.getElem?_eq_some_iff.1 h).1
  simp [World.putObj, hl]
/-- A round: the assignments and the body, by the evaluator. -/
theorem round_sound {E : AE} (hm : E.P.follows .mixedOrders = true) {assign body : Code} (ha : noDfC assign = true) (hb : noDfC body = true) {n l m0 : Nat} {out : Nat → Nat} {M : Mem} {B : Blk} {σ : ASt} {t : Array Value} {w : World} {f : FuncId}
    (hI : Inv E.n M B out σ t w) (ho : 1 ≤ out l) {r : Loop} (hr : w.heap[l]? = some (.loop r)) (hst : r.state = .ready) {Q : AX → ASt → Prop}
    (h : awp E m0 assign (contA (awp E m0 body Q) fun _ _ => False) σ) {R : Ending → World → Prop}
    (hR : ∀ ax σ' M' B' t' w', Q ax σ' → GoodL l E.n out m0 M B σ t w M' B' σ' t' w' → w'.heap[l]? = some (.loop { r with state := if ax.jump.isNone then .ready else .done, pending := ax.jump }) → R (.returned (.bool ax.jump.isNone)) w') :
    RoundIn Fence.wide n E.P l f t assign body w R := by
  refine roundIn_of_wpIn trivial ?_
  refine wpIn_mono (awp_soundIn (n := n) (l := l) hm assign ha (a := { tmps := t, defers := [] }) hI h) fun e a1 w1 hl => ?_
  obtain ⟨ax, σ1, M1, B1, rfl, hq, hd, hG⟩ := hl
  cases ax with
  | ret => exact hq.elim
  | exit i => exact hq.elim
  | normal =>
    have hr1 := rec_kept hI ho hr hG
    have hP1 := putObj_l (m0 := m0) hG.inv ho hr1 { r with state := .busy }
    refine ⟨_, run_beginRound hr1 hst, ?_⟩
    have hr2 := putObj_rec (o' := .loop { r with state := .busy }) hr1
    refine wpIn_mono (awp_soundIn (n := n) (l := l) hm body hb (a := a1) hP1.inv hq) fun e a2 w2 hl => ?_
    obtain ⟨ax, σ2, M2, B2, rfl, hq2, hd2, hG2⟩ := hl
    have hr3 := rec_kept hP1.inv ho hr2 hG2
    have hend := fun j => run_endRound (P := E.P) j hr3
    have hfin := fun j => (((hG.gl.trans hP1).trans hG2.gl).trans (putObj_l (m0 := m0) hG2.inv ho hr3 { ({ r with state := .busy } : Loop) with state := if Option.isNone j then .ready else .done, pending := j }))
    cases ax with
    | normal => exact ⟨_, _, hend none, hR .normal σ2 M2 B2 a2.tmps _ hq2 (hfin none) (putObj_rec hr3)⟩
    | ret => exact ⟨_, _, hend (some .ret), hR .ret σ2 M2 B2 a2.tmps _ hq2 (hfin (some .ret)) (putObj_rec hr3)⟩
    | exit i => exact ⟨_, _, hend (some (.exit i)), hR (.exit i) σ2 M2 B2 a2.tmps _ hq2 (hfin (some (.exit i))) (putObj_rec hr3)⟩

/-! ### the caller of yield -/
theorem ownS_none {s : Slots} (h : ∀ kp, kp ∈ s → kp.2.own = false) (t : Array Value) (b : Nat) : ownS s t b = 0 := by
  induction s with
  | nil => rfl
  | cons a l ih =>
    obtain ⟨k, p⟩ := a
    rw [ownS, ownV_no (h (k, p) (by simp)), ih fun kp hk => h kp (by simp [hk])]
/-- Another frame over the same objects: what this one holds is out. -/
theorem inv_frame {n n' : Nat} {out : Nat → Nat} {M : Mem} {B : Blk} {σ : ASt} {t tr : Array Value} {w : World} (hI : Inv n M B out σ t w) {sr : Slots} (hsz : tr.size = n') (hs : Srt sr)
    (hsl : ∀ kp, kp ∈ sr → kp.1 < n' ∧ Rep M B kp.2 (tr.getD kp.1 undef) ∧ kp.2.own = false) : Inv n' M B (fun b => out b + ownS σ.s t b) ⟨sr, σ.h⟩ tr w := by
  have h0 : ∀ b, ownS sr tr b = 0 := ownS_none (fun kp hk => (hsl kp hk).2.2) tr
  refine ⟨hsz, hI.mem, hs, fun k p hk => ?_, hI.heap, fun b => ?_, fun b hb => ?_⟩
  · obtain ⟨h1, h2, h3⟩ := hsl _ (sget_mem hk)
    exact ⟨h1, h2, tl_no h3⟩
  · have := hI.cnt b; simp only [fp, h0] at *; omega
  · have := hI.new b hb; simp only [fp, h0] at *; omega
theorem take_pre {B B' : Blk} (h : ∀ (i : Nat) (c : Nat × Nat × TypeId), i < B.length → B[i]? = some c → B'[i]? = some c) : B'.take B.length = B := by
  apply List.ext_getElem?
  intro i
  rw [List.getElem?_take]
  by_cases hi : i < B.length
  · rw [if_pos hi, h i _ hi (List.getElem?_eq_getElem hi), List.getElem?_eq_getElem hi]
  · rw [if_neg hi, List.getElem?_eq_none (by omega)]
/-- Back in the caller's frame. -/
theorem yield_back {l n n' m0 : Nat} {out : Nat → Nat} {M M' : Mem} {B B' : Blk} {σ σr σ' : ASt} {t tr t' : Array Value} {w w' : World} (hI : Inv n M B out σ t w) (ho : 1 ≤ out l)
    (hr : σr.h = σ.h) (hrs : ∀ kp, kp ∈ σr.s → kp.2.own = false) (hm : m0 = σ.h.length)
    (hG : GoodL l n' (fun b => out b + ownS σ.s t b) m0 M B σr tr w M' B' σ' t' w') (hb : blwH m0 (σ'.h.take m0) = true) :
    GoodL l n out m0 M B σ t w M' B { σ with h := σ'.h.take m0 } t w' := by
  have hB : m0 = B.length := by rw [hm]; exact hI.heap.1
  have hgc := gc_good (m0 := m0) (l := []) hG.inv (Nat.le_refl _) (by
    unfold gcOK
    simp only [Bool.and_eq_true, List.all_eq_true]
    exact ⟨fun kp hk => by simp [ASt.gc] at hk, hb⟩)
  have hT : B'.take m0 = B := by
    rw [hB] at hG ⊢
    exact take_pre hG.pre
  rw [hT] at hgc
  have hle : MLe M M' B B := ⟨hG.mem, fun _ _ h => h⟩
  have hfr : ∀ b, fp B σr tr w b = ownH w σ.h B b := fun b => by simp only [fp, hr, ownS_none hrs tr b]; omega
  have hfg : ∀ b, fp B (σ'.gc [] m0) t' w' b = ownH w' (σ'.h.take m0) B b := fun b => by
    simp only [fp, ASt.gc]
    rw [ownS_none (fun kp hk => by simp at hk)]; omega
  have hkeep : ∀ b, 1 ≤ ownS σ.s t b → w'.heap[b]? = w.heap[b]? ∧ ∀ o, M' b o = M b o := fun b h1 => by
    have h2 := hI.cnt b
    simp only [fp] at h2
    refine hG.blk b (ownH_lt hI (by simp only [fp]; omega)) (fun e => by subst e; omega) ?_
    rw [hfr]; omega
  refine ⟨⟨hI.size, hgc.inv.mem, hI.srt, fun k p hk => ?_, hgc.inv.heap, fun b => ?_, fun b hb => ?_⟩, hG.mem, fun _ _ _ h => h, hG.os, hG.tape, hG.output, hG.size, fun b hb hl h0 => ?_, fun b hb => ?_⟩
  · obtain ⟨s1, s2, s3⟩ := hI.slots k p hk
    refine ⟨s1, s2.mono hle, s3.kept fun b hb => hkeep b ?_⟩
    have e1 := ownK_le (s := σ.s) (t := t) (k := k) (b := b)
    simp only [ownK, hk] at e1
    omega
  · have := hgc.inv.cnt b
    rw [hfg] at this
    simp only [fp]; omega
  · have := hgc.inv.new b hb
    rw [hfg] at this
    simp only [fp]; omega
  · simp only [fp] at h0
    exact hG.blk b hb hl (by rw [hfr]; omega)
  · have h1 := hG.own b hb
    have h2 := hgc.own b (Nat.lt_of_lt_of_le hb hG.size)
    rw [hfg] at h2
    rw [hfr] at h1
    simp only [fp]; omega
/-- A call of yield. -/
theorem yield_op {E E' : AE} (hP : E'.P = E.P) (hm : E.P.follows .mixedOrders = true) {o : Oper} {c : Call} (hop : o.op = .call c) {f : Operand} (hf : c.callee = .value f) {n l : Nat} {out : Nat → Nat} {M : Mem} {B : Blk} {σ : ASt} {a : Act} {w : World}
    (hv : a.eval f = .func (.yield l) #[] #[])
    (hI : Inv E.n M B out σ a.tmps w) (ho : 1 ≤ out l) {r : Loop} (hr : w.heap[l]? = some (.loop r)) (hst : r.state = .ready) (ha : noDfC r.assign = true) (hb : noDfC r.body = true)
    (hsz : c.args.size = r.params.size) {sr : Slots} (hs : Srt sr)
    (hn : ((r.params.zip (c.args.map a.eval)).foldl (fun tmps (t, a) => tmps.setIfInBounds t a) r.tmps).size = E'.n)
    (hsl : ∀ kp, kp ∈ sr → kp.1 < E'.n ∧ Rep M B kp.2 (((r.params.zip (c.args.map a.eval)).foldl (fun tmps (t, a) => tmps.setIfInBounds t a) r.tmps).getD kp.1 undef) ∧ kp.2.own = false)
    {Q : AX → ASt → Prop} (h : awp E' σ.h.length r.assign (contA (awp E' σ.h.length r.body Q) fun _ _ => False) ⟨sr, σ.h⟩)
    (hblw : ∀ ax σ', Q ax σ' → blwH σ.h.length (σ'.h.take σ.h.length) = true)
    {K : Act → World → Prop} {QQ : Exit → Act → World → Prop}
    (hK : ∀ ax σ' M' w', Q ax σ' → GoodL l E.n out σ.h.length M B σ a.tmps w M' B { σ with h := σ'.h.take σ.h.length } a.tmps w' →
      w'.heap[l]? = some (.loop { r with state := if ax.jump.isNone then .ready else .done, pending := ax.jump }) → K (a.put o.dst (.bool ax.jump.isNone)) w') :
    o.wpIn Fence.wide n E.P a w K QQ := by
  refine ⟨fun _ _ => trivial, ?_⟩
  rw [show Fence.wide.round = none from rfl, Oper.semAt_none]
  have hrun : (execOp a.eval o).run E.P w = .ok (.round l r.fn ((r.params.zip (c.args.map a.eval)).foldl (fun tmps (t, a) => tmps.setIfInBounds t a) r.tmps) r.assign r.body) w := by
    obtain ⟨callee, cargs, cts⟩ := c
    simp only at hf
    subst hf
    unfold execOp
    rw [hop]
    simp only [resolve, hv, Deferred.ofValue, Sem.run_bind, Sem.run_pure, Result.andThen_ok, invoke]
    rw [run_yield hr (by simpa using hsz)]
    simp
  rw [hrun, Oper.uponIn_round]
  refine ⟨fun h => by simp [Fence.wide] at h, ?_⟩
  rw [← hP]
  refine round_sound (E := E') (m0 := σ.h.length) (by rw [hP]; exact hm) ha hb (inv_frame hI hn hs hsl) (by show 1 ≤ out l + _; omega) hr hst h fun ax σ' M' B' t' w' hq hG hrec => ?_
  exact hK ax σ' M' w' hq (yield_back (σr := ⟨sr, σ.h⟩) hI ho rfl (fun kp hk => (hsl kp hk).2.2) rfl hG (hblw ax _ hq)) hrec

/-! ### a region with a call of yield: what stands ahead of it and behind it -/
theorem opIn_wide {P : Program} {n : Nat} {o : Oper} {a : Act} {w : World} {K : Act → World → Prop} {Q : Exit → Act → World → Prop} (h : o.wp P a w K Q) : o.wpIn Fence.wide n P a w K Q := by
  refine ⟨fun _ _ => trivial, ?_⟩
  rw [show Fence.wide.round = none from rfl, Oper.semAt_none]
  unfold Oper.wp at h
  generalize (execOp a.eval o).run P w = r at *
  cases r with
  | ok x w' =>
    cases x <;> simp only [Oper.upon, Oper.uponIn] at h ⊢ <;>
      first
        | exact h
        | exact h.elim
        | exact ⟨fun h => by simp [Fence.wide] at h, callsIn_wide.2 h⟩
        | exact ⟨fun h => by simp [Fence.wide] at h, fun c cs _ => let ⟨v, w', r, s⟩ := h c cs; ⟨v, w', r, stepsIn_wide.2 s⟩⟩
  | halt x w' => cases x <;> simp only [Oper.upon, Oper.uponIn] at h ⊢ <;> exact h
section
variable {E : AE} {out : Nat → Nat}
theorem awpOps_pre {n : Nat} {ops : Array Oper} {Q : Exit → Act → World → Prop} {rest : List Oper} : ∀ (l : List Oper) {M : Mem} {B : Blk} {σ : ASt} {a : Act} {w : World} {K : ASt → Prop}, Inv E.n M B out σ a.tmps w → awpOps E ops l K σ →
    (∀ σ' M' B' a' w', K σ' → Good E.n out M B σ a.tmps w M' B' σ' a'.tmps w' → a'.defers = a.defers → wpListIn Fence.wide n E.P ops Q rest a' w') → wpListIn Fence.wide n E.P ops Q (l ++ rest) a w
  | [], M, B, σ, a, w, K, hI, h, hQ => hQ σ M B a w h (Good.refl hI) rfl
  | o :: l, M, B, σ, a, w, K, hI, h, hQ => by
    have run : awpOp E o (awpOps E ops l K) σ → o.wpIn Fence.wide n E.P a w (wpListIn Fence.wide n E.P ops Q (l ++ rest)) Q := fun h =>
      opIn_wide (awpOp_sound hI h fun v σ' M' B' w' hK hG => awpOps_pre l hG.inv hK fun σ2 M2 B2 a2 w2 hk hG2 hd => hQ σ2 M2 B2 a2 w2 hk (hG.trans hG2) (by rw [hd, Act.put_defers']))
    have skip : thenPut E o.dst (.tuple []) σ (awpOps E ops l K) → wpListIn Fence.wide n E.P ops Q (l ++ rest) (a.put o.dst undef) w := fun h => by
      unfold thenPut at h
      split at h
      · rename_i σ' hp
        have hG := skip_good hI hp
        exact awpOps_pre l hG.inv h fun σ2 M2 B2 a2 w2 hk hG2 hd => hQ σ2 M2 B2 a2 w2 hk (hG.trans hG2) (by rw [hd, Act.put_defers'])
      · exact h.elim
    rw [awpOps] at h
    rw [List.cons_append]
    unfold wpListIn
    split at h
    · rename_i hg
      rw [if_pos (by simp [Region.wanted, hg])]
      exact run h
    · rename_i j want hg
      split at h
      · rename_i hv
        rw [if_neg (by simp [Region.wanted, hg, gval_yields hI hv])]
        exact ⟨fun _ _ => trivial, skip h⟩
      · rename_i b hv
        by_cases hb : b = want
        · rw [if_pos (by simp [Region.wanted, hg, gval_yields hI hv, hb])]
          exact run (h.1 hb)
        · rw [if_neg (by simp [Region.wanted, hg, gval_yields hI hv, hb])]
          exact ⟨fun _ _ => trivial, skip (h.2 hb)⟩
      · exact h.elim
end
end Go.Proofs.Ytoajpgclgdhhlaa

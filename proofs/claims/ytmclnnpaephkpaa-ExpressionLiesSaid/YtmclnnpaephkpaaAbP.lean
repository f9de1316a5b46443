/-
  The abstract wp of code, sound; a contract from it.
-/
import Derived.Test.YtmclnnpaephkpaaAbR
namespace Go.Proofs.Ytmclnnpaephkpaa
set_option linter.unusedVariables false
set_option linter.unusedSimpArgs false
set_option linter.unnecessarySimpa false
set_option linter.unusedSectionVars false
open Go.RowKit

inductive AX where
  | normal
  | ret
  | exit (id : Nat)
def AX.toExit : AX → Exit
  | .normal => .normal
  | .ret => .ret
  | .exit i => .exit i
def ASt.keep (l : List Nat) (σ : ASt) : ASt := { σ with s := σ.s.filter fun kp => l.contains kp.1 }
def resS (sz : List (Nat × List Nat)) : Slots → Slots
  | [] => []
  | (k, p) :: l => (match sz.lookup k with | some z => (k, p.reszT z) | none => (k, p)) :: resS sz l
/-- The cells of an object: a nil slice in it may be appended to. -/
def ownObj (zs : List Nat) (p : PV) (h : Objs) : Objs := match p with
  | .ptr i 0 => (match h[i]? with | some (some cs) => h.set i (some (own0 zs cs)) | _ => h)
  | _ => h
def ownAll (s : Slots) : List (Nat × List Nat) → Objs → Objs
  | [], h => h
  | (k, zs) :: l, h => ownAll s l (match sget k s with | some p => ownObj zs p h | none => h)
/-- The head of a region: slots that are read later, slices of no elements by their types. -/
def ASt.head (E : AE) (σ : ASt) : ASt := ⟨resS E.sz (σ.keep E.vars).s, ownAll (resS E.sz (σ.keep E.vars).s) E.pt σ.h⟩
def ASt.gc (l : List Nat) (m : Nat) (σ : ASt) : ASt := ⟨σ.s.filter fun kp => l.contains kp.1, σ.h.take m⟩
def gcOK (l : List Nat) (m : Nat) (σ : ASt) : Bool := (σ.gc l m).s.all (fun kp => kp.2.blw m) && blwH m (σ.gc l m).h
def contA (K : ASt → Prop) (Q : AX → ASt → Prop) : AX → ASt → Prop
  | .normal, σ => K σ
  | e, σ => Q e σ
/-- Where ways meet: slots and objects that nobody reads may be dropped. -/
def jA (m0 : Nat) (K : ASt → Prop) (σ : ASt) : Prop := K σ ∨ ∃ l m, m0 ≤ m ∧ gcOK l m σ = true ∧ K (σ.gc l m)
def blockA (id : Nat) (Q : AX → ASt → Prop) : AX → ASt → Prop
  | .exit i, σ => if i = id then Q .normal σ else Q (.exit i) σ
  | e, σ => Q e σ
def roundsA (m0 : Nat) (body : (AX → ASt → Prop) → ASt → Prop) (Q : AX → ASt → Prop) : Nat → ASt → Prop
  | 0, _ => False
  | n + 1, σ => ∃ l m, m0 ≤ m ∧ gcOK l m σ = true ∧ body (contA (roundsA m0 body Q n) Q) (σ.gc l m)
def loopK (m0 : Nat) (body : (AX → ASt → Prop) → ASt → Prop) (Q : AX → ASt → Prop) (σ : ASt) : Prop := ∃ n, roundsA m0 body Q n σ
def awp (E : AE) (m0 : Nat) : Code → (AX → ASt → Prop) → ASt → Prop
  | .skip, Q, σ => Q .normal σ
  | .region _ ops draw, Q, σ => if draw then awpD E ops (Q .normal) (σ.head E) else awpOps E ops ops.toList (Q .normal) (σ.head E)
  | .seq x y, Q, σ => awp E m0 x (contA (jA m0 (awp E m0 y Q)) Q) σ
  | .cond c x y, Q, σ => match σ.rd c with
    | some (.bool b) => (b = true → awp E m0 x Q σ) ∧ (b = false → awp E m0 y Q σ)
    | _ => False
  | .block id x, Q, σ => awp E m0 x (blockA id Q) σ
  | .loop x, Q, σ => loopK m0 (awp E m0 x) Q σ
  | .exit id, Q, σ => Q (.exit id) σ
  | .ret, Q, σ => Q .ret σ
  | .scope x, Q, σ => awp E m0 x Q σ
  | .label _, Q, σ => Q .normal σ
  | .rangeFunc _ _ _ _, _, _ => False
  | .goto _, _, _ => False
  | .refuse _, _, _ => False

structure GoodC (n : Nat) (out : Nat → Nat) (m0 : Nat) (M : Mem) (B : Blk) (σ : ASt) (t : Array Value) (w : World) (M' : Mem) (B' : Blk) (σ' : ASt) (t' : Array Value) (w' : World) : Prop where
  inv : Inv n M' B' out σ' t' w'
  mem : ∀ (b o : Nat) (v : Value), M b o = some v → M' b o = some v
  pre : ∀ (i : Nat) (c : Nat × Nat), i < m0 → B[i]? = some c → B'[i]? = some c
  fr : Fr (fp B σ t w) M w M' w'
  own : ∀ b, b < w.heap.size → fp B' σ' t' w' b ≤ fp B σ t w b
section
variable {n : Nat} {out : Nat → Nat} {m0 : Nat} {M M1 M2 : Mem} {B B1 B2 : Blk} {σ σ1 σ2 : ASt} {t t1 t2 : Array Value} {w w1 w2 : World} {E : AE}
theorem GoodC.trans (h : GoodC n out m0 M B σ t w M1 B1 σ1 t1 w1) (k : GoodC n out m0 M1 B1 σ1 t1 w1 M2 B2 σ2 t2 w2) : GoodC n out m0 M B σ t w M2 B2 σ2 t2 w2 :=
  ⟨k.inv, fun b o v e => k.mem b o v (h.mem b o v e), fun i c hi e => k.pre i c hi (h.pre i c hi e), h.fr.trans k.fr (fun b hb h0 => by have := h.own b hb; omega), fun b hb => Nat.le_trans (k.own b (Nat.lt_of_lt_of_le hb h.fr.size)) (h.own b hb)⟩
theorem Good.c (h : Good n out M B σ t w M1 B1 σ1 t1 w1) : GoodC n out m0 M B σ t w M1 B1 σ1 t1 w1 := ⟨h.inv, h.le.mem, fun i c _ e => h.le.blk i c e, h.fr, h.own⟩
theorem GoodC.refl (h : Inv n M B out σ t w) : GoodC n out m0 M B σ t w M B σ t w := (Good.refl h).c
theorem ownS_filter (f : Nat × PV → Bool) (b : Nat) : ∀ s : Slots, ownS (s.filter f) t b ≤ ownS s t b
  | [] => Nat.le_refl _
  | (k, p) :: l => by
    have := ownS_filter f b l
    rw [List.filter_cons]
    split
    · rw [ownS, ownS]; omega
    · rw [ownS]; omega
theorem sget_filter (f : Nat → Bool) {k : Nat} {p : PV} : ∀ {s : Slots}, sget k (s.filter fun kp => f kp.1) = some p → sget k s = some p
  | [], h => by simp [sget] at h
  | (j, q) :: l, h => by
    rw [List.filter_cons] at h
    split at h
    · rw [sget] at h ⊢
      split at h
      · rename_i e; rw [if_pos e]; exact h
      · rename_i e; rw [if_neg e]; exact sget_filter f h
    · rename_i hf
      have := sget_filter f h
      rw [sget]
      split
      · rename_i e; subst e
        have hm := sget_mem h
        rw [List.mem_filter] at hm
        exact absurd hm.2 hf
      · exact this
theorem ownH_take (m : Nat) (b : Nat) : ∀ (h : Objs) (B : Blk), ownH w (h.take m) (B.take m) b ≤ ownH w h B b := by
  induction m with
  | zero => intro h B; simp [ownH]
  | succ m ih =>
    intro h B
    cases h with
    | nil => simp [ownH]
    | cons x h =>
      cases B with
      | nil => cases x <;> simp [ownH]
      | cons c B =>
        have := ih h B
        cases x <;> simp only [List.take_succ_cons, ownH] <;> omega
theorem keep_good (hI : Inv n M B out σ t w) (l : List Nat) : Good n out M B σ t w M B (σ.keep l) t w := by
  have hle : ∀ b, fp B (σ.keep l) t w b ≤ fp B σ t w b := fun b => by
    have := ownS_filter (t := t) (fun kp => l.contains kp.1) b σ.s
    simp only [fp, ASt.keep]; omega
  exact ⟨⟨hI.size, hI.mem, List.Pairwise.sublist List.filter_sublist hI.srt, fun k p hp => hI.slots k p (sget_filter (fun k => l.contains k) hp), hI.heap, fun b => by have := hle b; have := hI.cnt b; omega, fun b hb => by have := hle b; have := hI.new b hb; omega⟩, MLe.refl _ _, Fr.refl _ _ _, fun b _ => hle b⟩
theorem gc_good (hI : Inv n M B out σ t w) {l : List Nat} {m : Nat} (hm : m0 ≤ m) (hg : gcOK l m σ = true) : GoodC n out m0 M B σ t w M (B.take m) (σ.gc l m) t w := by
  unfold gcOK at hg
  simp only [Bool.and_eq_true, List.all_eq_true] at hg
  obtain ⟨g1, g2⟩ := hg
  have hle : ∀ b, fp (B.take m) (σ.gc l m) t w b ≤ fp B σ t w b := fun b => by
    have h1 := ownS_filter (t := t) (fun kp => l.contains kp.1) b σ.s
    have h2 := ownH_take (w := w) m b σ.h B
    simp only [fp, ASt.gc]; omega
  refine ⟨⟨hI.size, hI.mem, List.Pairwise.sublist List.filter_sublist hI.srt, fun k p hp => ?_, ⟨by simp [ASt.gc, hI.heap.1], fun i cs hi => ?_⟩, fun b => by have := hle b; have := hI.cnt b; omega, fun b hb => by have := hle b; have := hI.new b hb; omega⟩, fun _ _ _ h => h, fun i c hi hc => by rw [List.getElem?_take, if_pos (by omega)]; exact hc, Fr.refl _ _ _, fun b _ => hle b⟩
  · obtain ⟨s1, s2, s3⟩ := hI.slots k p (sget_filter (fun k => l.contains k) hp)
    exact ⟨s1, s2.blw (g1 _ (sget_mem hp)), s3⟩
  · have hi0 := hi
    simp only [ASt.gc] at hi
    rw [List.getElem?_take] at hi
    split at hi
    · rename_i hlt
      obtain ⟨c, hc, vs, ty, o1, o2, o3, o4, o5⟩ := hI.heap.2 i cs hi
      refine ⟨c, by rw [List.getElem?_take, if_pos hlt]; exact hc, vs, ty, o1, o2, o3, fun j p hj => ?_, o5⟩
      obtain ⟨v, a1, a2, a3, a4⟩ := o4 j p hj
      refine ⟨v, a1, a2.blw ?_, a3, a4⟩
      have := List.all_eq_true.1 g2 _ (List.mem_of_getElem? hi0)
      exact blws_iff.1 this p (List.mem_of_getElem? hj)
    · cases hi
/-- What the abstract wp's post says of the model's end. -/
theorem resS_srt (sz : List (Nat × List Nat)) {s : Slots} (h : Srt s) : Srt (resS sz s) := by
  induction s with
  | nil => exact h
  | cons a l ih =>
    obtain ⟨k, p⟩ := a
    obtain ⟨h1, h2⟩ := srt_cons.1 h
    have hm : ∀ (l : Slots) (b : Nat × PV), b ∈ resS sz l → ∃ c, c ∈ l ∧ c.1 = b.1 := by
      intro l
      induction l with
      | nil => intro b hb; simp [resS] at hb
      | cons a l ih =>
        intro b hb
        obtain ⟨k, p⟩ := a
        rw [resS] at hb
        rcases List.mem_cons.1 hb with hb | hb
        · refine ⟨(k, p), by simp, ?_⟩
          rw [hb]; split <;> rfl
        · obtain ⟨c, hc, e⟩ := ih b hb
          exact ⟨c, by simp [hc], e⟩
    rw [resS]
    refine srt_cons.2 ⟨fun b hb => ?_, ih h2⟩
    obtain ⟨c, hc, e⟩ := hm l b hb
    have := h1 c hc
    rw [← e]
    split <;> exact this
theorem sget_resS {sz : List (Nat × List Nat)} {k : Nat} {p : PV} : ∀ {s : Slots}, sget k (resS sz s) = some p → ∃ q, sget k s = some q ∧ (p = q ∨ ∃ z, p = q.reszT z)
  | [], h => by simp [resS, sget] at h
  | (j, q) :: l, h => by
    rw [resS] at h
    by_cases e : j = k
    · refine ⟨q, by rw [sget, if_pos e], ?_⟩
      split at h <;> (rw [sget, if_pos e] at h; injection h with h)
      · exact .inr ⟨_, h.symm⟩
      · exact .inl h.symm
    · have h' : sget k (resS sz l) = some p := by split at h <;> (rw [sget, if_neg e] at h; exact h)
      obtain ⟨r, h1, h2⟩ := sget_resS h'
      exact ⟨r, by rw [sget, if_neg e]; exact h1, h2⟩
theorem ownS_resS {sz : List (Nat × List Nat)} {t : Array Value} {b : Nat} : ∀ {s : Slots}, ownS (resS sz s) t b = ownS s t b
  | [] => rfl
  | (j, q) :: l => by
    rw [resS]
    split <;> simp only [ownS, ownV_reszT, ownS_resS]
theorem res_good (hI : Inv n M B out σ t w) (sz : List (Nat × List Nat)) : Good n out M B σ t w M B { σ with s := resS sz σ.s } t w := by
  have hle : ∀ b, fp B { σ with s := resS sz σ.s } t w b = fp B σ t w b := fun b => by simp only [fp, ownS_resS]
  refine ⟨⟨hI.size, hI.mem, resS_srt _ hI.srt, fun k p hp => ?_, hI.heap, fun b => by have := hle b; have := hI.cnt b; omega, fun b hb => by have := hle b; have := hI.new b hb; omega⟩, MLe.refl _ _, Fr.refl _ _ _, fun b _ => by rw [hle b]; exact Nat.le_refl _⟩
  obtain ⟨q, h1, h2⟩ := sget_resS hp
  obtain ⟨g1, g2, g3⟩ := hI.slots k q h1
  rcases h2 with rfl | ⟨z, rfl⟩
  · exact ⟨g1, g2, g3⟩
  · exact ⟨g1, rep_reszT z g2, tl_reszT z g3⟩
theorem own0_get : ∀ {zs : List Nat} {cs : List PV} {j : Nat} {p : PV}, (own0 zs cs)[j]? = some p → ∃ q, cs[j]? = some q ∧ (p = q ∨ ∃ z, p = q.own1 z)
  | [], cs, j, p, h => by cases cs <;> exact ⟨p, h, .inl rfl⟩
  | z :: zs, [], j, p, h => by simp [own0] at h
  | z :: zs, c :: cs, 0, p, h => by simp [own0] at h; exact ⟨c, rfl, .inr ⟨z, h.symm⟩⟩
  | z :: zs, c :: cs, j + 1, p, h => by rw [own0, List.getElem?_cons_succ] at h; simpa using own0_get h
theorem own0_length : ∀ (zs : List Nat) (cs : List PV), (own0 zs cs).length = cs.length
  | [], cs => by cases cs <;> rfl
  | _ :: _, [] => rfl
  | z :: zs, c :: cs => by simp [own0, own0_length zs cs]
theorem ownC_own0 : ∀ {zs : List Nat} {cs : List PV} {vs : List Value} {b : Nat}, (∀ (j : Nat) p v, cs[j]? = some p → vs[j]? = some v → Rep M B p v) → ownC (own0 zs cs) vs b = ownC cs vs b
  | [], cs, vs, b, _ => by cases cs <;> rfl
  | _ :: _, [], vs, b, _ => rfl
  | z :: zs, c :: cs, [], b, _ => by simp [own0, ownC]
  | z :: zs, c :: cs, v :: vs, b, h => by
    rw [own0, ownC, ownC, ownV_own1 (M := M) (B := B) z (h 0 c v rfl rfl), ownC_own0 fun j p u hp hu => h (j + 1) p u (by simpa using hp) (by simpa using hu)]
theorem obj_good (hI : Inv n M B out σ t w) {i : Nat} {cs : List PV} (hi : σ.h[i]? = some (some cs)) (zs : List Nat) : Good n out M B σ t w M B { σ with h := σ.h.set i (some (own0 zs cs)) } t w := by
  obtain ⟨c, hc, vs, ty, o1, o2, o3, o4, o5⟩ := hI.heap.2 i cs hi
  have hrep : ∀ (j : Nat) p v, cs[j]? = some p → vs.toList[j]? = some v → Rep M B p v := fun j p v hp hv => by
    obtain ⟨u, a1, a2, _⟩ := o4 j p hp
    rw [show vs[j]? = some v by simpa using hv] at a1; injection a1 with a1; subst a1; exact a2
  have hown : ∀ b, ownH w (σ.h.set i (some (own0 zs cs))) B b = ownH w σ.h B b := fun b => by
    have key : ∀ (h : Objs) (B' : Blk) (i : Nat), h[i]? = some (some cs) → B'[i]? = some c → ownH w (h.set i (some (own0 zs cs))) B' b = ownH w h B' b := by
      intro h
      induction h with
      | nil => intro B' i h1; simp at h1
      | cons x h ih =>
        intro B' i h1 h2
        cases B' with
        | nil => simp at h2
        | cons d B' =>
          cases i with
          | zero =>
            simp at h1 h2; subst h1; subst h2
            simp only [List.set_cons_zero, ownH]
            rw [cellsAt_eq o1, ownC_own0 hrep]
          | succ i =>
            simp at h1 h2
            cases x with
            | none => simp only [List.set_cons_succ, ownH]; exact ih B' i h1 h2
            | some ds => simp only [List.set_cons_succ, ownH]; rw [ih B' i h1 h2]
    exact key σ.h B i hi hc
  have hfp : ∀ b, fp B { σ with h := σ.h.set i (some (own0 zs cs)) } t w b = fp B σ t w b := fun b => by simp only [fp, hown]
  refine ⟨⟨hI.size, hI.mem, hI.srt, hI.slots, ⟨by simp [hI.heap.1], fun i' cs' hi' => ?_⟩, fun b => by rw [hfp]; exact hI.cnt b, fun b hb => by rw [hfp]; exact hI.new b hb⟩, MLe.refl _ _, Fr.refl _ _ _, fun b _ => by rw [hfp]; exact Nat.le_refl _⟩
  by_cases hii : i' = i
  · subst hii
    rw [List.getElem?_set_self (List.getElem?_eq_some_iff.1 hi).1] at hi'
    injection hi' with hi'; injection hi' with hi'; subst hi'
    refine ⟨c, hc, vs, ty, o1, o2, by rw [own0_length]; exact o3, fun j p hp => ?_, o5⟩
    obtain ⟨q, hq, h⟩ := own0_get hp
    obtain ⟨u, a1, a2, a3, a4⟩ := o4 j q hq
    rcases h with rfl | ⟨z, rfl⟩
    · exact ⟨u, a1, a2, a3, a4⟩
    · exact ⟨u, a1, rep_own1 z a2, tl_own1 z a2 a3, a4⟩
  · rw [List.getElem?_set_ne (Ne.symm hii)] at hi'
    exact hI.heap.2 i' cs' hi'
theorem ownAll_good (s : Slots) : ∀ (l : List (Nat × List Nat)) {σ : ASt}, Inv n M B out σ t w → Good n out M B σ t w M B { σ with h := ownAll s l σ.h } t w
  | [], σ, hI => Good.refl hI
  | (k, zs) :: l, σ, hI => by
    have h1 : Good n out M B σ t w M B { σ with h := match sget k s with | some p => ownObj zs p σ.h | none => σ.h } t w := by
      split
      · rename_i p hp
        unfold ownObj
        split
        · rename_i i
          split
          · rename_i cs hcs; exact obj_good hI hcs zs
          · exact Good.refl hI
        · exact Good.refl hI
      · exact Good.refl hI
    exact h1.trans (ownAll_good s l h1.inv)
theorem head_good {E : AE} (hI : Inv n M B out σ t w) : Good n out M B σ t w M B (σ.head E) t w := by
  have hk := keep_good hI E.vars
  have h2 := res_good hk.inv E.sz
  exact (hk.trans h2).trans (ownAll_good (resS E.sz (σ.keep E.vars).s) E.pt h2.inv)
def lift (E : AE) (out : Nat → Nat) (m0 : Nat) (M : Mem) (B : Blk) (σ : ASt) (t : Array Value) (w : World) (ds : List Deferred) (Q : AX → ASt → Prop) (e : Exit) (a' : Act) (w' : World) : Prop :=
  ∃ ax σ' M' B', e = ax.toExit ∧ Q ax σ' ∧ a'.defers = ds ∧ GoodC E.n out m0 M B σ t w M' B' σ' a'.tmps w'
theorem lift_trans {ds : List Deferred} {Q : AX → ASt → Prop} (h : GoodC E.n out m0 M B σ t w M1 B1 σ1 t1 w1) {e : Exit} {a' : Act} {w' : World} (k : lift E out m0 M1 B1 σ1 t1 w1 ds Q e a' w') : lift E out m0 M B σ t w ds Q e a' w' := by
  obtain ⟨ax, σ', M', B', h1, h2, h3, h4⟩ := k
  exact ⟨ax, σ', M', B', h1, h2, h3, h.trans h4⟩
theorem awp_sound (hm : E.P.follows .mixedOrders = true) : ∀ (c : Code) {M : Mem} {B : Blk} {σ : ASt} {a : Act} {w : World} {Q : AX → ASt → Prop}, Inv E.n M B out σ a.tmps w → awp E m0 c Q σ → c.wp E.P (lift E out m0 M B σ a.tmps w a.defers Q) a w
  | .skip, M, B, σ, a, w, Q, hI, h => wp_skip ⟨.normal, σ, M, B, rfl, h, rfl, GoodC.refl hI⟩
  | .label l, M, B, σ, a, w, Q, hI, h => wp_label ⟨.normal, σ, M, B, rfl, h, rfl, GoodC.refl hI⟩
  | .exit id, M, B, σ, a, w, Q, hI, h => wp_exit ⟨.exit id, σ, M, B, rfl, h, rfl, GoodC.refl hI⟩
  | .ret, M, B, σ, a, w, Q, hI, h => wp_ret ⟨.ret, σ, M, B, rfl, h, rfl, GoodC.refl hI⟩
  | .region id ops draw, M, B, σ, a, w, Q, hI, h => by
    have hk := head_good (E := E) hI
    rw [awp] at h
    cases draw with
    | false =>
      simp only [Bool.false_eq_true, if_false] at h
      exact wp_region_list (awpOps_sound _ hk.inv h fun σ' M' B' a' w' hq hG hd => ⟨.normal, σ', M', B', rfl, hq, hd, (hk.trans hG).c⟩)
    | true =>
      simp only [if_true] at h
      exact awpD_sound hm hk.inv h fun σ' M' B' a' w' hq hG hd => ⟨.normal, σ', M', B', rfl, hq, hd, (hk.trans hG).c⟩
  | .seq x y, M, B, σ, a, w, Q, hI, h => by
    rw [awp] at h
    refine wp_seq (wp_mono (awp_sound hm x hI h) fun e a' w' hl => ?_)
    obtain ⟨ax, σ', M', B', rfl, hq, hd, hG⟩ := hl
    cases ax with
    | normal =>
      rcases hq with hq | ⟨l, m, hm0, hg, hq⟩
      · exact wp_mono (awp_sound hm y hG.inv hq) fun e a2 w2 hl2 => by rw [hd] at hl2; exact lift_trans hG hl2
      · have hgc := hG.trans (gc_good hG.inv hm0 hg)
        exact wp_mono (awp_sound hm y hgc.inv hq) fun e a2 w2 hl2 => by rw [hd] at hl2; exact lift_trans hgc hl2
    | ret => exact ⟨.ret, σ', M', B', rfl, hq, hd, hG⟩
    | exit i => exact ⟨.exit i, σ', M', B', rfl, hq, hd, hG⟩
  | .cond c x y, M, B, σ, a, w, Q, hI, h => by
    rw [awp] at h
    split at h
    · rename_i b hb
      have he := rep_bool.1 (hI.rd _ _ hb).1
      refine wp_cond_split he (fun hb => awp_sound hm x hI (h.1 hb)) (fun hb => awp_sound hm y hI (h.2 hb))
    · exact h.elim
  | .block id x, M, B, σ, a, w, Q, hI, h => by
    rw [awp] at h
    refine wp_block (wp_mono (awp_sound hm x hI h) fun e a' w' hl => ?_)
    obtain ⟨ax, σ', M', B', rfl, hq, hd, hG⟩ := hl
    cases ax with
    | normal => exact ⟨.normal, σ', M', B', rfl, hq, hd, hG⟩
    | ret => exact ⟨.ret, σ', M', B', rfl, hq, hd, hG⟩
    | exit i =>
      simp only [AX.toExit, Exit.inBlock]
      simp only [blockA] at hq
      split
      · rename_i e; rw [if_pos e] at hq; exact ⟨.normal, σ', M', B', rfl, hq, hd, hG⟩
      · rename_i e; rw [if_neg e] at hq; exact ⟨.exit i, σ', M', B', rfl, hq, hd, hG⟩
  | .scope x, M, B, σ, a, w, Q, hI, h => by
    rw [awp] at h
    refine wp_scope_straight (wp_mono (awp_sound hm x hI h) fun e a' w' hl => ?_)
    obtain ⟨ax, σ', M', B', rfl, hq, hd, hG⟩ := hl
    cases ax <;> exact ⟨_, σ', M', B', rfl, hq, hd, hG⟩
  | .loop x, M, B, σ, a, w, Q, hI, h => by
    rw [awp] at h
    obtain ⟨k, hk⟩ := h
    refine wp_loop_rounds k ?_
    have key : ∀ (k : Nat) (M1 : Mem) (B1 : Blk) (σ1 : ASt) (a1 : Act) (w1 : World), GoodC E.n out m0 M B σ a.tmps w M1 B1 σ1 a1.tmps w1 → a1.defers = a.defers → roundsA m0 (awp E m0 x) Q k σ1 → Code.rounds E.P x (lift E out m0 M B σ a.tmps w a.defers Q) k a1 w1 := by
      intro k
      induction k with
      | zero => intro M1 B1 σ1 a1 w1 _ _ h; exact h.elim
      | succ k ih =>
        intro M1 B1 σ1 a1 w1 hG hd h
        obtain ⟨l, m, hm0, hg, hb⟩ := h
        have hgc := gc_good hG.inv hm0 hg
        rw [rounds_succ]
        refine wp_mono (awp_sound hm x hgc.inv hb) fun e a' w' hl => ?_
        obtain ⟨ax, σ', M', B', rfl, hq, hd', hG'⟩ := hl
        have hG2 := (hG.trans hgc).trans hG'
        cases ax with
        | normal => exact ih M' B' σ' a' w' hG2 (by rw [hd', hd]) hq
        | ret => exact ⟨.ret, σ', M', B', rfl, hq, by rw [hd', hd], hG2⟩
        | exit i => exact ⟨.exit i, σ', M', B', rfl, hq, by rw [hd', hd], hG2⟩
    exact key k M B σ a w (GoodC.refl hI) rfl hk
  | .rangeFunc f ps as b, _, _, _, _, _, _, _, h => by rw [awp] at h; exact h.elim
  | .goto l, _, _, _, _, _, _, _, h => by rw [awp] at h; exact h.elim
  | .refuse l, _, _, _, _, _, _, _, h => by rw [awp] at h; exact h.elim
end

/-! ### a contract -/
def slots0 : Nat → List PV → Slots
  | _, [] => []
  | k, p :: ps => (k, p.un) :: slots0 (k + 1) ps
def resV (P : Program) (σ : ASt) : ResultVar → Option PV
  | .tmp t => sget t σ.s
  | .cell t ty => match ti P ty, sget t σ.s with
    | some I, some q => (loadV false I q σ).map (·.1)
    | _, _ => none
/-- The result of a function; of its objects the first ones are left. -/
def retOK (P : Program) (rs : List ResultVar) (m0 : Nat) (r : PV) (h' : Objs) (σ : ASt) : Prop :=
  m0 ≤ h'.length ∧ σ.h.take h'.length = h' ∧ r.blw h'.length = true ∧ blwH h'.length h' = true ∧
    match rs with
    | [x] => resV P σ x = some r
    | rs => (allSome (rs.map (resV P σ))).map (fun ps => PV.tuple (ps.map PV.un)) = some r
section
variable {n : Nat} {out : Nat → Nat} {m0 : Nat} {M : Mem} {B : Blk} {σ : ASt} {a : Act} {w : World} {P : Program}
def resSem (tmps : Array Value) : ResultVar → Sem Value
  | .tmp t => pure (tmps.getD t undef)
  | .cell a t => do loadVar t (← asAddr (tmps.getD a undef))
theorem results_eq (fn : Func) (tmps : Array Value) : results fn tmps = (do let vs ← fn.results.mapM (resSem tmps); pure (if h : vs.size = 1 then vs[0] else .tuple vs)) := by
  unfold results
  congr 1
theorem resV_run (hI : Inv n M B out σ a.tmps w) {x : ResultVar} {p : PV} (h : resV P σ x = some p) :
    ∃ v, (resSem a.tmps x).run P w = .ok v w ∧ Rep M B p v ∧ Tl M w p v ∧ ∀ b, ownV p v b ≤ ownS σ.s a.tmps b := by
  cases x with
  | tmp t =>
    obtain ⟨h1, h2, h3⟩ := hI.slots t p h
    refine ⟨_, rfl, h2, h3, fun b => ?_⟩
    have := ownK_le (s := σ.s) (t := a.tmps) (k := t) (b := b)
    have h' : sget t σ.s = some p := h
    simpa only [ownK, h'] using this
  | cell c t =>
    simp only [resV] at h
    split at h
    · rename_i I q hI' hq
      cases hl : loadV false I q σ with
      | none => simp [hl] at h
      | some pσ =>
        obtain ⟨p', σ1⟩ := pσ
        simp [hl] at h; subst h
        have hrd : σ.rd (.tmp c) = some q.un := by simp [ASt.rd, ASt.ev, hq]
        have hl' : loadV false I q.un σ = some (p', σ1) := by
          have : loadV false I q.un σ = loadV false I q σ := by cases q <;> rfl
          rw [this, hl]
        obtain ⟨v, h1, h2⟩ := load_sound hI hI' hrd hl'
        have hpure : p'.own = false := by
          unfold loadV at hl
          split at hl
          · split at hl
            · cases hl; exact un_own _
            · cases hl
          · split at hl
            · split at hl
              · split at hl
                · cases hl; rfl
                · cases hl
              · split at hl
                · simp at hl; rw [← hl.1]; exact un_own _
                · cases hl
            · cases hl
          · cases hl
        refine ⟨v, ?_, h2.rep, h2.tl, fun b => by rw [ownV_no hpure]; exact Nat.zero_le _⟩
        show (do loadVar t (← asAddr (a.tmps.getD c undef)) : Sem Value).run P w = _
        have he : a.eval (.tmp c) = a.tmps.getD c undef := rfl
        rw [he] at h1
        have hr := (hI.rd _ _ hrd).1
        rw [he] at hr
        have hptr : ∃ ad, a.tmps.getD c undef = .pointer (some ad) := by
          unfold loadV at hl'
          split at hl'
          · rename_i e hq'; rw [hq'] at hr; obtain ⟨b, off, e1, _⟩ := rep_cst.1 hr; exact ⟨_, e1⟩
          · rename_i i off hq'; rw [hq'] at hr; obtain ⟨cc, _, e1⟩ := rep_ptr.1 hr; exact ⟨_, e1⟩
          · cases hl'
        obtain ⟨ad, had⟩ := hptr
        rw [had] at h1 ⊢
        simpa [Instr.loadAt, Instr.sureAddr, asAddr] using h1
    · cases h
theorem results_run (hI : Inv n M B out σ a.tmps w) : ∀ {rs : List ResultVar} {ps : List PV}, allSome (rs.map (resV P σ)) = some ps →
    ∃ vs, (rs.mapM (resSem a.tmps)).run P w = .ok vs w ∧ Reps M B ps vs
  | [], ps, h => by simp [allSome] at h; subst h; exact ⟨[], by simp, reps_nil.2 rfl⟩
  | x :: rs, ps, h => by
    have h' := allSome_get h
    cases ps with
    | nil => simp at h'
    | cons p ps =>
      simp only [List.map_cons, List.cons.injEq] at h'
      obtain ⟨v, h1, h2, _, _⟩ := resV_run hI h'.1
      have hall : ∀ ps : List PV, allSome (ps.map some) = some ps := by
        intro ps; induction ps with
        | nil => rfl
        | cons a l ih => simp [allSome, ih]
      obtain ⟨vs, h3, h4⟩ := results_run hI (rs := rs) (ps := ps) (by rw [h'.2]; exact hall ps)
      refine ⟨v :: vs, ?_, reps_cons.2 ⟨v, vs, rfl, h2, h4⟩⟩
      rw [List.mapM_cons, Sem.run_bind, h1, Result.andThen_ok, Sem.run_bind, h3]; rfl
theorem ret_run (hI : Inv n M B out σ a.tmps w) {fn : Func} {m0 : Nat} {r : PV} {h' : Objs} (hr : retOK P fn.results.toList m0 r h' σ) :
    ∃ v, (results fn a.tmps).run P w = .ok v w ∧ Rep M B r v ∧ Tl M w r v ∧ ∀ b, ownV r v b ≤ ownS σ.s a.tmps b := by
  obtain ⟨_, _, _, _, hres⟩ := hr
  have hst : ∀ vs : List Value, (fn.results.toList.mapM (resSem a.tmps)).run P w = .ok vs w → (results fn a.tmps).run P w = .ok (if h : vs.toArray.size = 1 then vs.toArray[0] else .tuple vs.toArray) w := fun vs h => by
    rw [results_eq, Array.mapM_eq_mapM_toList, Sem.run_bind, Sem.run_map, h]; rfl
  split at hres
  · rename_i x hx
    obtain ⟨v, h1, h2, h3, h4⟩ := resV_run hI hres
    refine ⟨v, ?_, h2, h3, h4⟩
    rw [hst [v] (by rw [hx, List.mapM_cons, Sem.run_bind, h1]; rfl)]
    rfl
  · rename_i hx
    obtain ⟨ps, hps, rfl⟩ := Option.map_eq_some_iff.1 hres
    obtain ⟨vs, h1, h2⟩ := results_run hI hps
    have hne : vs.length ≠ 1 := by
      have e1 := reps_length h2
      have e2 := congrArg List.length (allSome_get hps)
      simp only [List.length_map] at e2
      intro h
      generalize fn.results.toList = L at *
      match L with
      | [] => simp at e2; omega
      | [x] => exact hx x rfl
      | x :: y :: l => simp at e2; omega
    refine ⟨.tuple vs.toArray, ?_, rep_tuple.2 ⟨_, rfl, by simpa using reps_un h2⟩, tl_no rfl, fun b => by rw [ownV_no rfl]; exact Nat.zero_le _⟩
    rw [hst vs h1, dif_neg (by simpa using hne)]
theorem slots0_get : ∀ {args : List PV} {k j : Nat} {p : PV}, sget j (slots0 k args) = some p → ∃ i q, j = k + i ∧ args[i]? = some q ∧ p = q.un
  | [], _, _, _, h => by simp [slots0, sget] at h
  | q :: qs, k, j, p, h => by
    rw [slots0, sget] at h
    split at h
    · rename_i e; subst e; cases h; exact ⟨0, q, rfl, rfl, rfl⟩
    · obtain ⟨i, q', h1, h2, h3⟩ := slots0_get h
      exact ⟨i + 1, q', by omega, by simpa using h2, h3⟩
theorem slots0_srt : ∀ {args : List PV} {k : Nat}, Srt (slots0 k args) ∧ ∀ x, x ∈ slots0 k args → k ≤ x.1
  | [], k => ⟨by simp [slots0, Srt], by simp [slots0]⟩
  | q :: qs, k => by
    obtain ⟨h1, h2⟩ := slots0_srt (args := qs) (k := k + 1)
    rw [slots0]
    refine ⟨srt_cons.2 ⟨fun x hx => by have := h2 x hx; show k < x.1; omega, h1⟩, fun x hx => ?_⟩
    rcases List.mem_cons.1 hx with rfl | hx
    · exact Nat.le_refl _
    · have := h2 x hx; omega
theorem slots0_own {t : Array Value} {b : Nat} : ∀ {args : List PV} {k : Nat}, ownS (slots0 k args) t b = 0
  | [], _ => rfl
  | q :: qs, k => by rw [slots0, ownS, ownV_un, slots0_own]
/-- What comes back: slices of no elements by their types; the right to append may be given up. -/
def fin1 (p : PV) (z : List Nat × Bool) : PV := match z.2 with | true => p.reszT z.1 | false => (p.reszT z.1).un
def finL : List (List Nat × Bool) → List PV → List PV
  | z :: zs, p :: ps => fin1 p z :: finL zs ps
  | _, ps => ps
def finR (ro : List (List Nat × Bool)) (r : PV) : PV := match ro, r with
  | [], r => r
  | _, .tuple ps => .tuple (finL ro ps)
  | z :: _, r => fin1 r z
theorem fin1_rep {p : PV} {z : List Nat × Bool} {v : Value} (h : Rep M B p v) : Rep M B (fin1 p z) v := by
  unfold fin1; split
  · exact rep_reszT _ h
  · exact rep_un.2 (rep_reszT _ h)
theorem finL_rep : ∀ {zs : List (List Nat × Bool)} {ps : List PV} {vs : List Value}, Reps M B ps vs → Reps M B (finL zs ps) vs
  | [], ps, vs, h => by cases ps <;> exact h
  | z :: zs, [], vs, h => h
  | z :: zs, p :: ps, vs, h => by
    obtain ⟨u, us, rfl, h1, h2⟩ := reps_cons.1 h
    exact reps_cons.2 ⟨u, us, rfl, fin1_rep h1, finL_rep h2⟩
theorem finR_rep {ro : List (List Nat × Bool)} {r : PV} {v : Value} (h : Rep M B r v) : Rep M B (finR ro r) v := by
  unfold finR; split
  · exact h
  · obtain ⟨vs, rfl, hr⟩ := rep_tuple.1 h
    exact rep_tuple.2 ⟨vs, rfl, finL_rep hr⟩
  · exact fin1_rep h
theorem fin1_tl {p : PV} {z : List Nat × Bool} {v : Value} (h : Tl M w p v) : Tl M w (fin1 p z) v := by
  unfold fin1; split
  · exact tl_reszT _ h
  · exact tl_no (un_own _)
theorem finR_tl {ro : List (List Nat × Bool)} {r : PV} {v : Value} (h : Tl M w r v) : Tl M w (finR ro r) v := by
  unfold finR; split
  · exact h
  · exact tl_no rfl
  · exact fin1_tl h
theorem finR_own {ro : List (List Nat × Bool)} {r : PV} {v : Value} {b : Nat} : ownV (finR ro r) v b ≤ ownV r v b := by
  unfold finR; split
  · exact Nat.le_refl _
  · rw [ownV_no rfl]; omega
  · unfold fin1; split
    · rw [ownV_reszT]; exact Nat.le_refl _
    · rw [ownV_un]; omega
theorem Ev.of_awp {g : FuncId} {fn : Func} {c : Code} (hm : P.follows .mixedOrders = true) (hf : P.funcs[g]? = some fn) (hb : fn.body = some c) (hn : (fn.name != "runtime.NumGoroutine") = true) {args : List PV} {h : Objs} {r : PV} {h' : Objs} (vars mv mu : List Nat) (sz jt lt pt : List (Nat × List Nat)) (fz : List Nat) (ro : List (List Nat × Bool)) (hlen : args.length ≤ fn.ntmps)
    (hA : awp ⟨P, fn.ntmps, vars, mv, mu, sz, jt, lt, pt, fz⟩ h.length c (fun e σ' => (match e with | .exit _ => False | _ => True) ∧ ∃ r0, retOK P fn.results.toList h.length r0 h' σ' ∧ finR ro r0 = r) ⟨slots0 0 args, h⟩) : Ev P g args h r h' := by
  refine ⟨by simp [callable, hf, hb]; simpa using hn, fun out M B w vals hmem hheap hcnt hnew hv => ?_⟩
  have hvl := reps_length hv
  simp only [Array.length_toList] at hvl
  have hfp : ∀ t b, fp B ⟨slots0 0 args, h⟩ t w b = ownH w h B b := fun t b => by simp only [fp, slots0_own]; omega
  have hI : Inv fn.ntmps M B out ⟨slots0 0 args, h⟩ (vals ++ Array.replicate (fn.ntmps - vals.size) undef) w := by
    refine ⟨by simp; omega, hmem, slots0_srt.1, fun k p hk => ?_, hheap, fun b => by rw [hfp]; exact hcnt b, fun b hb => by rw [hfp]; exact hnew b hb⟩
    obtain ⟨i, q, rfl, hq, rfl⟩ := slots0_get hk
    obtain ⟨v, hv1, hv2⟩ := reps_get hv hq
    have hi := (List.getElem?_eq_some_iff.1 hq).1
    refine ⟨by omega, ?_, tl_no (un_own _)⟩
    have hvi : vals[i]? = some v := by simpa using hv1
    have : (vals ++ Array.replicate (fn.ntmps - vals.size) undef).getD (0 + i) undef = v := by
      rw [Nat.zero_add, Array.getD_eq_getD_getElem?, Array.getElem?_append_left (by omega), hvi]; rfl
    rw [this]; exact rep_un.2 hv2
  refine calls_of_wp hf hb (wp_mono (awp_sound (E := ⟨P, fn.ntmps, vars, mv, mu, sz, jt, lt, pt, fz⟩) (out := out) (a := { tmps := vals ++ Array.replicate (fn.ntmps - vals.size) undef, defers := [] }) hm c hI hA) fun e a' w' hl => ?_)
  obtain ⟨ax, σ', M', B', rfl, ⟨hax, r0, hret, rfl⟩, hd, hG⟩ := hl
  obtain ⟨v, hrun, hrep, htl, hown⟩ := ret_run hG.inv hret
  obtain ⟨hm0, hht, hb1, hb2, _⟩ := hret
  generalize hm' : h'.length = m at *
  subst hht
  have hpost : Post h B out M w (finR ro r0) (σ'.h.take m) v M' (B'.take m) w' := by
    have hBl : B.length = h.length := hheap.1.symm
    have htake := fun b => ownH_take (w := w') m b σ'.h B'
    have hfin : ∀ b, ownH w' (σ'.h.take m) (B'.take m) b + ownV (finR ro r0) v b ≤ fp B' σ' a'.tmps w' b := fun b => by have := htake b; have := hown b; have := finR_own (ro := ro) (r := r0) (v := v) (b := b); simp only [fp]; omega
    refine ⟨hG.inv.mem, ⟨hG.mem, fun i c hc => ?_⟩, hG.fr.mono fun b hb h0 => by rw [hfp]; exact h0, ⟨by simp [hG.inv.heap.1], fun i cs hi => ?_⟩, finR_rep (hrep.blw hb1), finR_tl htl, fun b hb => ?_, fun b => ?_, fun b hb => ?_⟩
    · have hlt := (List.getElem?_eq_some_iff.1 hc).1
      rw [List.getElem?_take, if_pos (by omega)]
      exact hG.pre i c (by omega) hc
    · have hi0 := hi
      rw [List.getElem?_take] at hi
      split at hi
      · rename_i hlt
        obtain ⟨c, hc, vs, ty, o1, o2, o3, o4, o5⟩ := hG.inv.heap.2 i cs hi
        refine ⟨c, by rw [List.getElem?_take, if_pos hlt]; exact hc, vs, ty, o1, o2, o3, fun j p hj => ?_, o5⟩
        obtain ⟨u, a1, a2, a3, a4⟩ := o4 j p hj
        refine ⟨u, a1, a2.blw ?_, a3, a4⟩
        have := List.all_eq_true.1 hb2 _ (List.mem_of_getElem? hi0)
        exact blws_iff.1 this p (List.mem_of_getElem? hj)
      · cases hi
    · have h1 := hG.own b hb; rw [hfp] at h1; exact Nat.le_trans (hfin b) h1
    · have h1 := hG.inv.cnt b; have := hfin b; omega
    · have h1 := hG.inv.new b hb; have := hfin b; omega
  cases ax with
  | normal => exact ⟨hd, v, hrun, v, M', _, rfl, hpost⟩
  | ret => exact ⟨hd, v, hrun, v, M', _, rfl, hpost⟩
  | exit i => exact hax.elim
end
end Go.Proofs.Ytmclnnpaephkpaa

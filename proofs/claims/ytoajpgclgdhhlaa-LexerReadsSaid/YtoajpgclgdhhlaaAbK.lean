/-
  Code that calls yield: triples over the abstract state. A range over a function.
-/
import Derived.Test.YtoajpgclgdhhlaaAbJ
import Derived.RangeFuncLeaves
namespace Go.Proofs.Ytoajpgclgdhhlaa
set_option linter.unusedVariables false
set_option linter.unusedSimpArgs false
set_option linter.unnecessarySimpa false
set_option linter.unusedSectionVars false
open Go.RowKit

def recOf (rc : Loop) (j : AX) : Loop := { rc with state := if j.jump.isNone then .ready else .done, pending := j.jump }
def liftY (n l : Nat) (rc : Loop) (out : Nat → Nat) (m0 : Nat) (M : Mem) (B : Blk) (σ : ASt) (t : Array Value) (w : World) (ds : List Deferred) (Q : AX → ASt → AX → Prop) (e : Exit) (a' : Act) (w' : World) : Prop :=
  ∃ ax σ' j M' B', e = ax.toExit ∧ Q ax σ' j ∧ a'.defers = ds ∧ GoodL l n out m0 M B σ t w M' B' σ' a'.tmps w' ∧ w'.heap[l]? = some (.loop (recOf rc j))
/-- What the outer frame's slots hold. -/
def OutOK (sO : Slots) (n' m0 : Nat) (tm : Array Value) (M : Mem) (B : Blk) : Prop := ∀ kp, kp ∈ sO → kp.1 < n' ∧ Rep M B kp.2 (tm.getD kp.1 undef) ∧ kp.2.own = false ∧ kp.2.blw m0 = true
theorem OutOK.mono {sO : Slots} {n' m0 : Nat} {tm : Array Value} {M : Mem} {B : Blk} (h : OutOK sO n' m0 tm M B) {M' : Mem} {B' : Blk} (hm : ∀ (b o : Nat) (v : Value), M b o = some v → M' b o = some v)
    (hp : ∀ (i : Nat) (c : Nat × Nat × TypeId), i < m0 → B[i]? = some c → B'[i]? = some c) : OutOK sO n' m0 tm M' B' := fun kp hk => by
  obtain ⟨h1, h2, h3, h4⟩ := h kp hk
  refine ⟨h1, (h2.blw h4).mono ⟨hm, fun i c hc => ?_⟩, h3, h4⟩
  rw [List.getElem?_take] at hc
  split at hc
  · exact hp i c ‹_› hc
  · cases hc
structure YC where
  E : AE
  E' : AE
  l : Nat
  m0 : Nat
  rc : Loop
  out : Nat → Nat
  sO : Slots
structure YC.OK (Y : YC) : Prop where
  hm : Y.E.P.follows .mixedOrders = true
  hP : Y.E'.P = Y.E.P
  ho : 1 ≤ Y.out Y.l
/-- From the state σ, the record being as j says, the code leads to Q. -/
def Tr (Y : YC) (c : Code) (Q : AX → ASt → AX → Prop) (j : AX) (σ : ASt) : Prop :=
  ∀ (n : Nat) (M : Mem) (B : Blk) (a : Act) (w : World), Inv Y.E.n M B Y.out σ a.tmps w → w.heap[Y.l]? = some (.loop (recOf Y.rc j)) → OutOK Y.sO Y.E'.n Y.m0 Y.rc.tmps M B →
    c.wpIn Fence.wide n Y.E.P (liftY Y.E.n Y.l Y.rc Y.out Y.m0 M B σ a.tmps w a.defers Q) a w
def thenY (k : ASt → AX → Prop) (Q : AX → ASt → AX → Prop) : AX → ASt → AX → Prop
  | .normal, σ, j => k σ j
  | e, σ, j => Q e σ j
def blkY (id : Nat) (Q : AX → ASt → AX → Prop) : AX → ASt → AX → Prop
  | .exit i, σ, j => if i = id then Q .normal σ j else Q (.exit i) σ j
  | e, σ, j => Q e σ j
theorem liftY_trans {n l : Nat} {rc : Loop} {out : Nat → Nat} {m0 : Nat} {M M1 : Mem} {B B1 : Blk} {σ σ1 : ASt} {t t1 : Array Value} {w w1 : World} {ds : List Deferred} {Q : AX → ASt → AX → Prop} (h : GoodL l n out m0 M B σ t w M1 B1 σ1 t1 w1) {e : Exit} {a' : Act} {w' : World}
    (k : liftY n l rc out m0 M1 B1 σ1 t1 w1 ds Q e a' w') : liftY n l rc out m0 M B σ t w ds Q e a' w' := by
  obtain ⟨ax, σ', j, M', B', h1, h2, h3, h4, h5⟩ := k
  exact ⟨ax, σ', j, M', B', h1, h2, h3, h.trans h4, h5⟩
section
variable {Y : YC} {c : Code} {Q : AX → ASt → AX → Prop} {j : AX} {σ : ASt}
theorem Tr.mono {Q' : AX → ASt → AX → Prop} (h : Tr Y c Q j σ) (hq : ∀ e σ j, Q e σ j → Q' e σ j) : Tr Y c Q' j σ := fun n M B a w hI hr hO => by
  refine wpIn_mono (h n M B a w hI hr hO) fun e a' w' hl => ?_
  obtain ⟨ax, σ', j', M', B', h1, h2, h3, h4, h5⟩ := hl
  exact ⟨ax, σ', j', M', B', h1, hq _ _ _ h2, h3, h4, h5⟩
theorem Tr.of_awp (hY : Y.OK) {Q' : AX → ASt → Prop} (h : awp Y.E Y.m0 c Q' σ) (hq : ∀ e σ', Q' e σ' → Q e σ' j) : Tr Y c Q j σ := fun n M B a w hI hr hO => by
  refine wpIn_wide.2 (wp_mono (awp_sound (out := Y.out) hY.hm c hI h) fun e a' w' hl => ?_)
  obtain ⟨ax, σ', M', B', rfl, hq', hd, hG⟩ := hl
  exact ⟨ax, σ', j, M', B', rfl, hq _ _ hq', hd, hG.gl, rec_kept hI hY.ho hr hG⟩
theorem Tr.gc {l : List Nat} {m : Nat} (hm : Y.m0 ≤ m) (hg : gcOK l m σ = true) (h : Tr Y c Q j (σ.gc l m)) : Tr Y c Q j σ := fun n M B a w hI hr hO => by
  have hG := gc_good (m0 := Y.m0) hI hm hg
  exact wpIn_mono (h n M _ a w hG.inv hr (hO.mono hG.mem hG.pre)) fun e a' w' hl => liftY_trans hG.gl hl
theorem Tr.seq {x y : Code} (h : Tr Y x (thenY (fun σ' j' => Tr Y y Q j' σ') Q) j σ) : Tr Y (.seq x y) Q j σ := fun n M B a w hI hr hO => by
  refine wpIn_seq (wpIn_mono (h n M B a w hI hr hO) fun e a' w' hl => ?_)
  obtain ⟨ax, σ', j', M', B', rfl, hq, hd, hG, hr'⟩ := hl
  cases ax with
  | normal => exact wpIn_mono (hq n M' B' a' w' hG.inv hr' (hO.mono hG.mem hG.pre)) fun e a2 w2 hl2 => by rw [hd] at hl2; exact liftY_trans hG hl2
  | ret => exact ⟨.ret, σ', j', M', B', rfl, hq, hd, hG, hr'⟩
  | exit i => exact ⟨.exit i, σ', j', M', B', rfl, hq, hd, hG, hr'⟩
theorem Tr.cond {o : Operand} {x y : Code} {b : Bool} (hb : σ.rd o = some (.bool b)) (h1 : b = true → Tr Y x Q j σ) (h2 : b = false → Tr Y y Q j σ) : Tr Y (.cond o x y) Q j σ := fun n M B a w hI hr hO =>
  wpIn_cond_split (rep_bool.1 (hI.rd _ _ hb).1) (fun hb => h1 hb n M B a w hI hr hO) (fun hb => h2 hb n M B a w hI hr hO)
theorem Tr.block {id : Nat} {x : Code} (h : Tr Y x (blkY id Q) j σ) : Tr Y (.block id x) Q j σ := fun n M B a w hI hr hO => by
  refine wpIn_block (wpIn_mono (h n M B a w hI hr hO) fun e a' w' hl => ?_)
  obtain ⟨ax, σ', j', M', B', rfl, hq, hd, hG, hr'⟩ := hl
  cases ax with
  | normal => exact ⟨.normal, σ', j', M', B', rfl, hq, hd, hG, hr'⟩
  | ret => exact ⟨.ret, σ', j', M', B', rfl, hq, hd, hG, hr'⟩
  | exit i =>
    simp only [AX.toExit, Exit.inBlock]
    simp only [blkY] at hq
    split
    · rename_i e; rw [if_pos e] at hq; exact ⟨.normal, σ', j', M', B', rfl, hq, hd, hG, hr'⟩
    · rename_i e; rw [if_neg e] at hq; exact ⟨.exit i, σ', j', M', B', rfl, hq, hd, hG, hr'⟩
theorem Tr.scope {x : Code} (h : Tr Y x Q j σ) : Tr Y (.scope x) Q j σ := fun n M B a w hI hr hO => by
  refine wpIn_wide.2 (wp_scope_straight (wp_mono (wpIn_wide.1 (h n M B a w hI hr hO)) fun e a' w' hl => ?_))
  obtain ⟨ax, σ', j', M', B', rfl, hq, hd, hG, hr'⟩ := hl
  cases ax <;> exact ⟨_, σ', j', M', B', rfl, hq, hd, hG, hr'⟩
theorem Tr.ret (h : Q .ret σ j) : Tr Y .ret Q j σ := fun n M B a w hI hr hO => wpIn_ret ⟨.ret, σ, j, M, B, rfl, h, rfl, (GoodC.refl hI).gl, hr⟩
theorem Tr.exit {i : Nat} (h : Q (.exit i) σ j) : Tr Y (.exit i) Q j σ := fun n M B a w hI hr hO => wpIn_exit ⟨.exit i, σ, j, M, B, rfl, h, rfl, (GoodC.refl hI).gl, hr⟩
theorem Tr.skip (h : Q .normal σ j) : Tr Y .skip Q j σ := fun n M B a w hI hr hO => wpIn_skip ⟨.normal, σ, j, M, B, rfl, h, rfl, (GoodC.refl hI).gl, hr⟩
theorem Tr.label {i : Nat} (h : Q .normal σ j) : Tr Y (.label i) Q j σ := fun n M B a w hI hr hO => wpIn_label ⟨.normal, σ, j, M, B, rfl, h, rfl, (GoodC.refl hI).gl, hr⟩
def TrR (Y : YC) (x : Code) (Q : AX → ASt → AX → Prop) : Nat → AX → ASt → Prop
  | 0, _, _ => False
  | k + 1, j, σ => Tr Y x (thenY (fun σ' j' => TrR Y x Q k j' σ') Q) j σ
theorem Tr.loop {x : Code} {k : Nat} (h : TrR Y x Q k j σ) : Tr Y (.loop x) Q j σ := fun n M B a w hI hr hO => by
  refine wpIn_loop_rounds k ?_
  have key : ∀ (k : Nat) (j1 : AX) (M1 : Mem) (B1 : Blk) (σ1 : ASt) (a1 : Act) (w1 : World), GoodL Y.l Y.E.n Y.out Y.m0 M B σ a.tmps w M1 B1 σ1 a1.tmps w1 → w1.heap[Y.l]? = some (.loop (recOf Y.rc j1)) → a1.defers = a.defers → TrR Y x Q k j1 σ1 →
      Code.roundsIn Fence.wide n Y.E.P x (liftY Y.E.n Y.l Y.rc Y.out Y.m0 M B σ a.tmps w a.defers Q) k a1 w1 := by
    intro k
    induction k with
    | zero => intro j1 M1 B1 σ1 a1 w1 _ _ _ h; exact h.elim
    | succ k ih =>
      intro j1 M1 B1 σ1 a1 w1 hG hr1 hd h
      rw [roundsIn_succ]
      refine wpIn_mono (h n M1 B1 a1 w1 hG.inv hr1 (hO.mono hG.mem hG.pre)) fun e a' w' hl => ?_
      obtain ⟨ax, σ', j', M', B', rfl, hq, hd', hG', hr'⟩ := hl
      have hG2 := hG.trans hG'
      cases ax with
      | normal => exact ih j' M' B' σ' a' w' hG2 hr' (by rw [hd', hd]) hq
      | ret => exact ⟨.ret, σ', j', M', B', rfl, hq, by rw [hd', hd], hG2, hr'⟩
      | exit i => exact ⟨.exit i, σ', j', M', B', rfl, hq, by rw [hd', hd], hG2, hr'⟩
  exact key k j M B σ a w (GoodC.refl hI).gl hr rfl h
theorem GoodL.weak {l n : Nat} {out : Nat → Nat} {m0 m1 : Nat} {M M1 : Mem} {B B1 : Blk} {σ σ1 : ASt} {t t1 : Array Value} {w w1 : World} (h : GoodL l n out m1 M B σ t w M1 B1 σ1 t1 w1) (hm : m0 ≤ m1) : GoodL l n out m0 M B σ t w M1 B1 σ1 t1 w1 :=
  ⟨h.inv, h.mem, fun i c hi e => h.pre i c (by omega) e, h.os, h.tape, h.output, h.size, h.blk, h.own⟩
/-- A region that calls yield, at two parameters. -/
theorem Tr.yield (hY : Y.OK) {id : Nat} {ops : Array Oper} {pre post : List Oper} {o : Oper} (hops : ops.toList = pre ++ o :: post)
    {cl : Call} (hop : o.op = .call cl) (hg : o.guard = none) {f x y : Operand} (hf : cl.callee = .value f) (hargs : cl.args = #[x, y]) {p q : Nat} (hp : Y.rc.params = #[p, q]) (hpq : p < q) (hqn : q < Y.E'.n)
    (hpO : ∀ kp, kp ∈ Y.sO → kp.1 < p) (hsO : Srt Y.sO) (hn : Y.rc.tmps.size = Y.E'.n) (ha : noDfC Y.rc.assign = true) (hb : noDfC Y.rc.body = true)
    (h : awpOps Y.E ops pre (fun σ1 => ∃ px py Q1, σ1.rd f = some (.func (.yield Y.l) [] []) ∧ σ1.rd x = some px ∧ σ1.rd y = some py ∧ Y.m0 ≤ σ1.h.length ∧
      awp Y.E' σ1.h.length Y.rc.assign (contA (awp Y.E' σ1.h.length Y.rc.body Q1) fun _ _ => False) ⟨Y.sO ++ [(p, px), (q, py)], σ1.h⟩ ∧
      ∀ ax σ', Q1 ax σ' → blwH σ1.h.length (σ'.h.take σ1.h.length) = true ∧ thenPut Y.E o.dst (.bool ax.jump.isNone) { σ1 with h := σ'.h.take σ1.h.length } fun σ2 => awpOps Y.E ops post (fun σ3 => Q .normal σ3 ax) σ2) (σ.head Y.E)) :
    Tr Y (.region id ops false) Q .normal σ := fun n M B a w hI hr hO => by
  have hk := head_good (E := Y.E) hI
  refine wpIn_region_list ?_
  rw [hops]
  refine awpOps_pre pre hk.inv h fun σ1 M1 B1 a1 w1 hh hG1 hd1 => ?_
  obtain ⟨px, py, Q1, hfv, hx, hy, hm0, hbody, hafter⟩ := hh
  have hG01 : GoodC Y.E.n Y.out Y.m0 M B σ a.tmps w M1 B1 σ1 a1.tmps w1 := (hk.trans hG1).c
  have hr1 := rec_kept hI hY.ho hr hG01
  have hO1 := hO.mono hG01.mem hG01.pre
  unfold wpListIn
  rw [if_pos (by simp [Region.wanted, hg])]
  have hev : a1.eval f = .func (.yield Y.l) #[] #[] := by
    obtain ⟨f', c', e, h1, h2⟩ := rep_func.1 (hG1.inv.rd _ _ hfv).1
    rw [reps_nil] at h1 h2
    rw [e]; congr 1 <;> (apply Array.ext'; assumption)
  have hrx := hG1.inv.rd _ _ hx
  have hry := hG1.inv.rd _ _ hy
  have htm : ((recOf Y.rc .normal).params.zip (cl.args.map a1.eval)).foldl (fun tmps (t, a) => tmps.setIfInBounds t a) (recOf Y.rc .normal).tmps = (Y.rc.tmps.setIfInBounds p (a1.eval x)).setIfInBounds q (a1.eval y) := by
    show (Y.rc.params.zip (cl.args.map a1.eval)).foldl (fun tmps (t, a) => tmps.setIfInBounds t a) Y.rc.tmps = _
    rw [hp, hargs]; simp
  refine yield_op (E' := Y.E') hY.hP hY.hm hop hf hev hG1.inv hY.ho hr1 rfl ha hb (by show cl.args.size = Y.rc.params.size; rw [hargs, hp]; rfl) (sr := Y.sO ++ [(p, px), (q, py)]) ?_ ?_ (fun kp hk => ?_) (Q := Q1) hbody (fun ax σ' hq => (hafter ax σ' hq).1) fun ax σ' M' w' hq1 hGL hrec => ?_
  · unfold Srt
    rw [List.pairwise_append]
    refine ⟨hsO, by simp [hpq], fun a ha b hb => ?_⟩
    have := hpO a ha
    simp only [List.mem_cons, List.not_mem_nil, or_false] at hb
    rcases hb with rfl | rfl
    · exact this
    · show a.1 < q; omega
  · rw [htm]; simp [hn]
  · rw [htm]
    rcases List.mem_append.1 hk with hk | hk
    · obtain ⟨h1, h2, h3, h4⟩ := hO1 kp hk
      have := hpO kp hk
      refine ⟨h1, ?_, h3⟩
      rw [getD_set_ne' (by omega), getD_set_ne' (by omega)]
      exact h2
    · simp only [List.mem_cons, List.not_mem_nil, or_false] at hk
      rcases hk with rfl | rfl
      · refine ⟨by show p < _; omega, ?_, hrx.2⟩
        show Rep M1 B1 px (((Y.rc.tmps.setIfInBounds p (a1.eval x)).setIfInBounds q (a1.eval y)).getD p undef)
        rw [getD_set_ne' (by omega), getD_set_eq' (by omega)]
        exact hrx.1
      · refine ⟨hqn, ?_, hry.2⟩
        show Rep M1 B1 py (((Y.rc.tmps.setIfInBounds p (a1.eval x)).setIfInBounds q (a1.eval y)).getD q undef)
        rw [getD_set_eq' (by rw [Array.size_setIfInBounds]; omega)]
        exact hry.1
  · obtain ⟨_, hput⟩ := hafter ax σ' hq1
    unfold thenPut at hput
    split at hput
    · rename_i σ2 hp2
      have hPG : Good Y.E.n Y.out M' B1 { σ1 with h := σ'.h.take σ1.h.length } a1.tmps w' M' B1 σ2 (a1.put o.dst (.bool ax.jump.isNone)).tmps w' :=
        (Pre.plain hGL.inv (rep_bool.2 rfl) (fun b => ownV_no rfl _ _) (tl_no rfl)).put hp2
      have hrec' : w'.heap[Y.l]? = some (.loop (recOf Y.rc ax)) := hrec
      have := awpOps_pre (n := n) (Q := liftY Y.E.n Y.l Y.rc Y.out Y.m0 M B σ a.tmps w a.defers Q) (rest := []) post hPG.inv hput fun σ3 M3 B3 a3 w3 hq3 hG3 hd3 => by
        have hGG : GoodC Y.E.n Y.out Y.m0 M' B1 { σ1 with h := σ'.h.take σ1.h.length } a1.tmps w' M3 B3 σ3 a3.tmps w3 := (hPG.trans hG3).c
        show liftY Y.E.n Y.l Y.rc Y.out Y.m0 M B σ a.tmps w a.defers Q .normal a3 w3
        exact ⟨.normal, σ3, ax, M3, B3, rfl, hq3, by rw [hd3, Act.put_defers', hd1], (hG01.gl.trans (hGL.weak hm0)).trans hGG.gl, rec_kept hGL.inv hY.ho hrec' hGG⟩
      rwa [List.append_nil] at this
    · exact hput.elim
end
end Go.Proofs.Ytoajpgclgdhhlaa

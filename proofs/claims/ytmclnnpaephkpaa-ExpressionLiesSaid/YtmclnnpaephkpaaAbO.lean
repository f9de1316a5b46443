/-
  Regions that draw their order: where the operations that are not ordered by the region's edges do not touch each other, the order of the text speaks for all.
-/
import Derived.Test.YtmclnnpaephkpaaAbN
import Derived.Orders
namespace Go.Proofs.Ytmclnnpaephkpaa
set_option linter.unusedVariables false
set_option linter.unusedSimpArgs false
set_option linter.unnecessarySimpa false
set_option linter.unusedSectionVars false
open Go.RowKit

/-! ### what an operation looks at and writes -/
def tmpOf : Operand → Option Nat
  | .tmp t => some t
  | _ => none
def clrT (E : AE) (o : Oper) : Option Nat :=
  match o.op with
  | .move x => if inMv E.mv o.dst then tmpOf x else none
  | .assign x => tmpOf x
  | .store _ _ x => tmpOf x
  | .call c => match c.callee with
    | .builtin .append => (match c.args.toList with | [x, _] => tmpOf x | _ => none)
    | _ => none
  | _ => none
/-- 0: objects are nothing to it; 1: it reads; 3: it reads and takes over a right; 2: it turns them. -/
def hk (E : AE) (o : Oper) : Nat :=
  match o.op with
  | .load _ _ => if inMv E.mv o.dst then 3 else 1
  | .alloc _ => 2
  | .box _ _ => if inMv E.fz o.dst then 0 else 2
  | .store _ _ _ => 2
  | .buildSlice _ _ _ => if inMv E.mu o.dst then 2 else 0
  | _ => 0
def clrS (c : Option Nat) (s : Slots) : Slots :=
  match c with
  | none => s
  | some t => match sget t s with | some p => sput t p.un s | none => s
theorem clr_clrS (σ : ASt) (x : Operand) : (σ.clr x).s = clrS (tmpOf x) σ.s ∧ (σ.clr x).h = σ.h := by
  cases x with
  | tmp t => simp only [ASt.clr, clrS, tmpOf]; cases sget t σ.s <;> exact ⟨rfl, rfl⟩
  | _ => exact ⟨rfl, rfl⟩
/-- The same but for the rights to append. -/
def unH (h : Objs) : Objs := h.map fun o => o.map fun cs => cs.map PV.un
def agree (o : Oper) (s s' : Slots) : Prop := ∀ t, Operand.tmp t ∈ o.op.operands → sget t s' = sget t s
section
variable {E : AE} {o : Oper} {σ σ' : ASt}
theorem ev_agree (h : agree o σ.s σ'.s) {x : Operand} (hx : x ∈ o.op.operands) : σ'.ev x = σ.ev x := by
  cases x with
  | tmp t => exact h t hx
  | _ => rfl
theorem rd_agree (h : agree o σ.s σ'.s) {x : Operand} (hx : x ∈ o.op.operands) : σ'.rd x = σ.rd x := by
  unfold ASt.rd; rw [ev_agree h hx]
theorem allSome_agree {rd rd' : Operand → Option PV} {xs : List Operand} (h : ∀ x, x ∈ xs → rd' x = rd x) : allSome (xs.map rd') = allSome (xs.map rd) := by
  rw [List.map_congr_left h]
theorem parts_agree {rd rd' : Operand → Option PV} : ∀ {xs : List (Nat × Operand)}, (∀ x, x ∈ xs.map (·.2) → rd' x = rd x) → partsPV rd' xs = partsPV rd xs
  | [], _ => rfl
  | (i, x) :: l, h => by
    rw [partsPV, partsPV, h x (by simp), parts_agree (xs := l) (fun y hy => h y (by simp at hy ⊢; exact .inr hy))]
theorem pop_agree {P : Program} {rd rd' : Operand → Option PV} {op : Op} (h : ∀ x, x ∈ op.operands → rd' x = rd x) : pop P rd' op = pop P rd op := by
  cases op with
  | call c =>
    obtain ⟨callee, args, ts⟩ := c
    have ha : ∀ x, x ∈ args.toList → rd' x = rd x := fun x hx => h x (by simp only [Op.operands, Call.operands]; exact Array.mem_append.2 (.inr (by simpa using hx)))
    simp only [pop, popCall]
    split
    · split
      · rename_i x t h1 h2
        rw [ha x (by rw [h1]; simp)]
      · rfl
    · rw [allSome_agree ha]
    · rw [allSome_agree ha]
    · rfl
  | makeFunc fn first caps =>
    have h1 : ∀ x, x ∈ first.toList → rd' x = rd x := fun x hx => h x (by simp only [Op.operands]; exact Array.mem_append.2 (.inl (by simpa using hx)))
    have h2 : ∀ x, x ∈ caps.toList → rd' x = rd x := fun x hx => h x (by simp only [Op.operands]; exact Array.mem_append.2 (.inr (by simpa using hx)))
    simp only [pop, allSome_agree h1, allSome_agree h2]
  | build t ps =>
    have : partsPV rd' ps.toList = partsPV rd ps.toList := parts_agree fun x hx => h x (by simpa [Op.operands] using hx)
    simp only [pop, this]
  | slice t x lo hi mx =>
    cases mx with
    | some m => simp [pop]
    | none =>
      have hx : rd' x = rd x := h x (by simp [Op.operands])
      cases lo with
      | none =>
        cases hi with
        | none => simp only [pop, hx]
        | some b => simp only [pop, hx, h b (by simp [Op.operands])]
      | some a =>
        cases hi with
        | none => simp only [pop, hx, h a (by simp [Op.operands])]
        | some b => simp only [pop, hx, h a (by simp [Op.operands]), h b (by simp [Op.operands])]
  | _ => simp_all [pop, Op.operands]
theorem inMv_load {d : Option Nat} : True := trivial
theorem unH_get {h h' : Objs} (e : unH h' = unH h) {i : Nat} {cs : List PV} (hi : h[i]? = some (some cs)) : ∃ cs', h'[i]? = some (some cs') ∧ cs'.map PV.un = cs.map PV.un := by
  have h1 := congrArg (·[i]?) e
  simp only [unH, List.getElem?_map, hi, Option.map_some] at h1
  cases hh : h'[i]? with
  | none => rw [hh] at h1; simp at h1
  | some x =>
    rw [hh] at h1
    cases x with
    | none => simp at h1
    | some cs' => simp at h1; exact ⟨cs', rfl, h1⟩
theorem loadV_un {I : TI} {q p : PV} {σ1 : ASt} (h : loadV false I q σ = some (p, σ1)) (hh : unH σ'.h = unH σ.h) : σ1 = σ ∧ loadV false I q σ' = some (p, σ') := by
  unfold loadV at *
  cases q with
  | cst e =>
    simp only at h ⊢
    split at h
    · rename_i hc; cases h; exact ⟨rfl, by rw [if_pos hc]⟩
    · cases h
  | ptr i off =>
    simp only at h ⊢
    cases hi : σ.h[i]? with
    | none => simp [hi] at h
    | some x =>
      cases x with
      | none => simp [hi] at h
      | some cs =>
        obtain ⟨cs', h1, h2⟩ := unH_get hh hi
        have hl : cs'.length = cs.length := by have := congrArg List.length h2; simpa using this
        simp only [hi] at h
        simp only [h1, hl]
        split at h
        · rename_i hg
          rw [if_pos hg]
          split at h
          · rename_i hf
            cases h
            refine ⟨rfl, ?_⟩
            rw [if_pos hf]
            congr 3
            rw [List.map_take, List.map_drop, h2, List.map_take, List.map_drop]
          · cases h
        · rename_i hg
          rw [if_neg hg]
          cases hp : cs[off]? with
          | none => simp [hp] at h
          | some p0 =>
            simp [hp] at h
            obtain ⟨rfl, rfl⟩ := h
            have h3 := congrArg (·[off]?) h2
            simp only [List.getElem?_map, hp, Option.map_some] at h3
            cases hp' : cs'[off]? with
            | none => rw [hp'] at h3; simp at h3
            | some p1 => rw [hp'] at h3; simp at h3; exact ⟨rfl, by simp [h3]⟩
  | _ => simp at h
theorem unH_set {h : Objs} {i off : Nat} {cs : List PV} {p0 : PV} (hi : h[i]? = some (some cs)) (hp : cs[off]? = some p0) : unH (h.set i (some (cs.set off p0.un))) = unH h := by
  simp only [unH]
  apply List.ext_getElem?
  intro j
  rw [List.getElem?_map, List.getElem?_map]
  by_cases hj : i = j
  · subst hj
    rw [List.getElem?_set_self (List.getElem?_eq_some_iff.1 hi).1, hi]
    simp only [Option.map_some, Option.some.injEq]
    apply List.ext_getElem?
    intro k
    rw [List.getElem?_map, List.getElem?_map]
    by_cases hkk : off = k
    · subst hkk
      rw [List.getElem?_set_self (List.getElem?_eq_some_iff.1 hp).1, hp]; simp [un_un]
    · rw [List.getElem?_set_ne hkk]
  · rw [List.getElem?_set_ne hj]
theorem loadV_mv {I : TI} {q p : PV} {σ1 : ASt} (h : loadV true I q σ = some (p, σ1)) : σ1.s = σ.s ∧ (∀ σ' : ASt, σ'.h = σ.h → loadV true I q σ' = some (p, ⟨σ'.s, σ1.h⟩)) ∧ unH σ1.h = unH σ.h := by
  have same : ∀ σ' : ASt, σ'.h = σ.h → (⟨σ'.s, σ.h⟩ : ASt) = σ' := fun σ' e => by cases σ'; simp only at e; rw [e]
  unfold loadV at *
  cases q with
  | cst e =>
    simp only at h ⊢
    split at h
    · rename_i hc; cases h; exact ⟨rfl, fun σ' e => by rw [if_pos hc, same σ' e], rfl⟩
    · cases h
  | ptr i off =>
    simp only at h ⊢
    cases hi : σ.h[i]? with
    | none => simp [hi] at h
    | some x =>
      cases x with
      | none => simp [hi] at h
      | some cs =>
        simp only [hi] at h
        split at h
        · rename_i hg
          split at h
          · rename_i hf
            cases h
            exact ⟨rfl, fun σ' e => by simp only [e, hi]; rw [if_pos hg, if_pos hf, same σ' e], rfl⟩
          · cases h
        · rename_i hg
          cases hp : cs[off]? with
          | none => simp [hp] at h
          | some p0 =>
            simp [hp] at h
            obtain ⟨rfl, rfl⟩ := h
            exact ⟨rfl, fun σ' e => by simp only [e, hi]; rw [if_neg hg]; simp [hp], unH_set hi hp⟩
  | _ => simp at h
/-- An operation does the same where its operands are the same, and the objects, where it looks at them. -/
theorem stepV_local {p : PV} {σ1 : ASt} (h : stepV E o σ = some (p, σ1)) (ha : agree o σ.s σ'.s) (hh : hk E o = 0 ∨ σ'.h = σ.h ∨ (hk E o = 1 ∧ unH σ'.h = unH σ.h)) :
    ∃ σ1', stepV E o σ' = some (p, σ1') ∧ σ1.s = clrS (clrT E o) σ.s ∧ σ1'.s = clrS (clrT E o) σ'.s ∧ ((hk E o = 0 ∨ hk E o = 1) → σ1.h = σ.h ∧ σ1'.h = σ'.h) ∧ (σ'.h = σ.h → σ1'.h = σ1.h) ∧ (hk E o = 3 → unH σ1.h = unH σ.h) := by
  obtain ⟨dst, op, type, pos, after, guard⟩ := o
  cases op with
  | move x =>
    have hx : σ'.ev x = σ.ev x := ev_agree ha (by simp [Op.operands])
    simp only [stepV] at h ⊢
    split at h
    · rename_i hm
      cases he : σ.ev x with
      | none => simp [he] at h
      | some q =>
        simp [he] at h; obtain ⟨rfl, rfl⟩ := h
        have c1 := clr_clrS σ x
        have c2 := clr_clrS σ' x
        have ht : clrT E ⟨dst, .move x, type, pos, after, guard⟩ = tmpOf x := by simp [clrT, hm]
        rw [if_pos hm, hx, he, ht]
        exact ⟨_, rfl, c1.1, c2.1, fun _ => ⟨c1.2, c2.2⟩, fun e => by rw [c1.2, c2.2, e], fun e => by simp [hk] at e⟩
    · rename_i hm
      cases he : σ.rd x with
      | none => simp [he] at h
      | some q =>
        simp [he] at h; obtain ⟨rfl, rfl⟩ := h
        have hr : σ'.rd x = σ.rd x := rd_agree ha (by simp [Op.operands])
        have ht : clrT E ⟨dst, .move x, type, pos, after, guard⟩ = none := by simp [clrT, hm]
        rw [if_neg hm, hr, he, ht]
        exact ⟨_, rfl, rfl, rfl, fun _ => ⟨rfl, rfl⟩, fun e => e, fun _ => rfl⟩
  | assign x =>
    have hx : σ'.ev x = σ.ev x := ev_agree ha (by simp [Op.operands])
    simp only [stepV] at h ⊢
    cases he : σ.ev x with
    | none => simp [he] at h
    | some q =>
      simp [he] at h; obtain ⟨rfl, rfl⟩ := h
      have c1 := clr_clrS σ x
      have c2 := clr_clrS σ' x
      have ht : clrT E ⟨dst, .assign x, type, pos, after, guard⟩ = tmpOf x := rfl
      rw [hx, he, ht]
      exact ⟨_, rfl, c1.1, c2.1, fun _ => ⟨c1.2, c2.2⟩, fun e => by rw [c1.2, c2.2, e], fun e => by simp [hk] at e⟩
  | alloc t =>
    simp only [stepV] at h ⊢
    have hh' : σ'.h = σ.h := by rcases hh with h | h | h <;> first | exact h | (simp [hk] at h)
    cases ht : ti E.P t with
    | none => simp [ht] at h
    | some I =>
      simp [ht] at h; obtain ⟨rfl, rfl⟩ := h
      exact ⟨⟨σ'.s, σ'.h ++ [some I.zero]⟩, by simp [hh'], rfl, rfl, fun e => by simp [hk] at e, fun e => by simp [e], fun e => by simp [hk] at e⟩
  | box t x =>
    simp only [stepV] at h ⊢
    have hr : σ'.rd x = σ.rd x := rd_agree ha (by simp [Op.operands])
    split at h
    · rename_i hm
      rw [if_pos hm]
      cases hb : (σ.rd x).bind frzPV with
      | none => simp [hb] at h
      | some e =>
        simp [hb] at h; obtain ⟨rfl, rfl⟩ := h
        exact ⟨σ', by simp [hr, hb], rfl, rfl, fun _ => ⟨rfl, rfl⟩, fun e => e, fun _ => rfl⟩
    · rename_i hm
      rw [if_neg hm]
      have hh' : σ'.h = σ.h := by rcases hh with h | h | h <;> first | exact h | (simp [hk, hm] at h)
      cases hb : (σ.rd x).bind PV.newCells with
      | none => simp [hb] at h
      | some cs =>
        simp [hb] at h; obtain ⟨rfl, rfl⟩ := h
        exact ⟨⟨σ'.s, σ'.h ++ [some cs]⟩, by simp [hr, hb, hh'], rfl, rfl, fun e => by simp [hk, hm] at e, fun e => by simp [e], fun e => by simp [hk, hm] at e⟩
  | load t x =>
    simp only [stepV] at h ⊢
    have hr : σ'.rd x = σ.rd x := rd_agree ha (by simp [Op.operands])
    rw [hr]
    cases hI : ti E.P t with
    | none => simp [hI] at h
    | some I =>
     cases hq : σ.rd x with
     | none => simp [hI, hq] at h
     | some q =>
      simp only [hI, hq] at h ⊢
      cases hm : inMv E.mv dst with
      | false =>
        rw [hm] at h
        have hun : unH σ'.h = unH σ.h := by
          rcases hh with h | h | h
          · simp [hk, hm] at h
          · rw [h]
          · exact h.2
        obtain ⟨rfl, h2⟩ := loadV_un h hun
        exact ⟨σ', h2, rfl, rfl, fun _ => ⟨rfl, rfl⟩, fun e => e, fun e => by simp [hk, hm] at e⟩
      | true =>
        rw [hm] at h
        have hh' : σ'.h = σ.h := by rcases hh with h | h | h <;> first | exact h | (simp [hk, hm] at h)
        obtain ⟨k1, k2, k3⟩ := loadV_mv h
        exact ⟨⟨σ'.s, σ1.h⟩, k2 σ' hh', k1, rfl, fun e => by simp [hk, hm] at e, fun _ => rfl, fun _ => k3⟩
  | store t x y =>
    simp only [stepV] at h ⊢
    have hh' : σ'.h = σ.h := by rcases hh with h | h | h <;> first | exact h | (simp [hk] at h)
    have hr : σ'.rd x = σ.rd x := rd_agree ha (by simp [Op.operands])
    have hy : σ'.ev y = σ.ev y := ev_agree ha (by simp [Op.operands])
    have c1 := clr_clrS σ y
    have c2 := clr_clrS σ' y
    have ht : clrT E ⟨dst, .store t x y, type, pos, after, guard⟩ = tmpOf y := rfl
    rw [hr, hy]
    cases hI : ti E.P t with
    | none => simp [hI] at h
    | some I =>
      cases hq : σ.rd x with
      | none => simp [hI, hq] at h
      | some q =>
        cases hp : σ.ev y with
        | none => simp [hI, hq, hp] at h
        | some p' =>
          cases dst with
          | some d => simp [hI, hq, hp] at h
          | none =>
            simp only [hI, hq, hp] at h ⊢
            have key : ∀ τ : ASt, τ.h = σ.h → ∀ τ1, storeV I q p' τ = some τ1 → τ1.s = τ.s ∧ ∀ τ' : ASt, τ'.h = σ.h → storeV I q p' τ' = some ⟨τ'.s, τ1.h⟩ := by
              intro τ hτ τ1 h1
              unfold storeV at h1 ⊢
              cases q with
              | ptr i off =>
                simp only [hτ] at h1
                split at h1
                · rename_i cs hcs
                  split at h1
                  · split at h1
                    · rename_i hc; cases h1; exact ⟨rfl, fun τ' e => by simp only [e, hcs]; rw [if_pos hc]⟩
                    · cases h1
                  · rename_i hna
                    split at h1
                    · rename_i hc; cases h1
                      refine ⟨rfl, fun τ' e => ?_⟩
                      simp only [e, hcs]
                      cases p' with
                      | agg ds => exact absurd rfl (hna ds)
                      | _ => rw [if_pos hc]
                    · cases h1
                · cases h1
              | _ => simp at h1
            cases hst : storeV I q p' (σ.clr y) with
            | none => simp [hst] at h
            | some τ1 =>
              simp [hst] at h; obtain ⟨rfl, rfl⟩ := h
              obtain ⟨k1, k2⟩ := key (σ.clr y) c1.2 τ1 hst
              have k3 := k2 (σ'.clr y) (by rw [c2.2, hh'])
              refine ⟨⟨(σ'.clr y).s, τ1.h⟩, by rw [k3]; rfl, by rw [k1, ht]; exact c1.1, by rw [ht]; exact c2.1, fun e => by simp [hk] at e, fun _ => rfl, fun e => by simp [hk] at e⟩
  | buildSlice t len ps =>
    have hp : ∀ zs, partsPV (σ'.rdT zs) ps.toList = partsPV (σ.rdT zs) ps.toList := fun zs => parts_agree fun x hx => by unfold ASt.rdT; rw [rd_agree ha (by simpa [Op.operands] using hx)]
    simp only [stepV, hp] at h ⊢
    cases hT : elemTI E.P t with
    | none => simp [hT] at h
    | some I =>
     cases hq : partsPV (σ.rdT (elT E.P t)) ps.toList with
     | none => simp [hT, hq] at h
     | some qs =>
      simp only [hT, hq] at h ⊢
      cases he : elemsPV I.size 0 qs with
      | none => simp [he] at h
      | some es =>
        simp only [he] at h ⊢
        split at h
        · rename_i hc
          rw [if_pos hc]
          split at h
          · rename_i hm
            have hh' : σ'.h = σ.h := by rcases hh with h | h | h <;> first | exact h | (simp [hk, hm] at h)
            cases h
            rw [if_pos hm]
            exact ⟨⟨σ'.s, σ'.h ++ [some (flatPV es)]⟩, by simp [hh'], rfl, rfl, fun e => by simp [hk, hm] at e, fun e => by simp [e], fun e => by simp [hk, hm] at e⟩
          · rename_i hm
            cases h
            rw [if_neg hm]
            exact ⟨σ', rfl, rfl, rfl, fun _ => ⟨rfl, rfl⟩, fun e => e, fun _ => rfl⟩
        · cases h
  | call c =>
    obtain ⟨callee, args, ts⟩ := c
    have hargs : ∀ x, x ∈ args.toList → x ∈ (Op.call ⟨callee, args, ts⟩).operands := fun x hx => by simp only [Op.operands, Call.operands]; exact Array.mem_append.2 (.inr (by simpa using hx))
    simp only [stepV] at h ⊢
    split at h
    · split at h
      · rename_i s x t u h1 h2
        have hs : σ'.ev s = σ.ev s := ev_agree ha (hargs s (by rw [h1]; simp))
        have hx : σ'.rd x = σ.rd x := rd_agree ha (hargs x (by rw [h1]; simp))
        rw [hs, hx]
        split at h
        · rename_i I sz es o' sz' es' hT hs' hx'
          split at h
          · rename_i hc
            cases h
            have c1 := clr_clrS σ s
            have c2 := clr_clrS σ' s
            have ht : clrT E ⟨dst, .call ⟨.builtin .append, args, ts⟩, type, pos, after, guard⟩ = tmpOf s := by simp only [clrT, h1]
            rw [ht]
            refine ⟨σ'.clr s, ?_, c1.1, c2.1, fun _ => ⟨c1.2, c2.2⟩, fun e => by rw [c1.2, c2.2, e], fun e => by simp [hk] at e⟩
            rw [if_pos hc]
          · cases h
        · cases h
      · cases h
    · rename_i hne
      have hpc : popCall E.P σ'.rd ⟨callee, args, ts⟩ = popCall E.P σ.rd ⟨callee, args, ts⟩ := by
        have := pop_agree (P := E.P) (rd := σ.rd) (rd' := σ'.rd) (op := .call ⟨callee, args, ts⟩) fun x hx => rd_agree ha hx
        simpa only [pop] using this
      rw [hpc]
      cases hp : popCall E.P σ.rd ⟨callee, args, ts⟩ with
      | none => simp [hp] at h
      | some q =>
        simp [hp] at h; obtain ⟨rfl, rfl⟩ := h
        have ht : clrT E ⟨dst, .call ⟨callee, args, ts⟩, type, pos, after, guard⟩ = none := by
          simp only [clrT]
        rw [ht]
        exact ⟨σ', rfl, rfl, rfl, fun _ => ⟨rfl, rfl⟩, fun e => e, fun _ => rfl⟩
  | _ =>
    simp only [stepV] at h ⊢
    rw [pop_agree (P := E.P) (rd := σ.rd) (rd' := σ'.rd) fun x hx => rd_agree ha hx]
    generalize pop E.P σ.rd _ = r at h ⊢
    cases r with
    | none => simp at h
    | some q =>
      simp at h; obtain ⟨rfl, rfl⟩ := h
      exact ⟨σ', rfl, rfl, rfl, fun _ => ⟨rfl, rfl⟩, fun e => e, fun _ => rfl⟩
end
end Go.Proofs.Ytmclnnpaephkpaa

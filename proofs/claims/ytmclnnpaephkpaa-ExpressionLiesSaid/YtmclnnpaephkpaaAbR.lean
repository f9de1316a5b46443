/-
  Regions that draw their order, the end.
-/
import Derived.Test.YtmclnnpaephkpaaAbO
namespace Go.Proofs.Ytmclnnpaephkpaa
set_option linter.unusedVariables false
set_option linter.unusedSimpArgs false
set_option linter.unnecessarySimpa false
set_option linter.unusedSectionVars false
open Go.RowKit

theorem srt_ext : ∀ {s s' : Slots}, Srt s → Srt s' → (∀ k, sget k s = sget k s') → s = s'
  | [], [], _, _, _ => rfl
  | [], (j, q) :: l, _, _, h => by have := h j; simp [sget] at this
  | (j, q) :: l, [], _, _, h => by have := h j; simp [sget] at this
  | (j, q) :: l, (j', q') :: l', h1, h2, h => by
    obtain ⟨a1, a2⟩ := srt_cons.1 h1
    obtain ⟨b1, b2⟩ := srt_cons.1 h2
    have hj : j = j' := by
      rcases Nat.lt_trichotomy j j' with hlt | he | hgt
      · have := h j
        rw [sget, if_pos rfl, sget, if_neg (by omega), sget_none (fun a ha => by have := b1 a ha; simp at this; omega)] at this
        cases this
      · exact he
      · have := h j'
        rw [sget, if_neg (by omega), sget_none (fun a ha => by have := a1 a ha; simp at this; omega), sget, if_pos rfl] at this
        cases this
    subst hj
    have hq : q = q' := by have := h j; simpa [sget] using this
    subst hq
    congr 1
    refine srt_ext a2 b2 fun k => ?_
    by_cases e : j = k
    · subst e
      rw [sget_none (fun a ha => by have := a1 a ha; simpa using this), sget_none (fun a ha => by have := b1 a ha; simpa using this)]
    · have := h k
      rwa [sget, if_neg e, sget, if_neg e] at this
def putS (d : Option Nat) (p : PV) (s : Slots) : Slots := match d with | some k => sput k p s | none => s
theorem putS_srt {d : Option Nat} {p : PV} {s : Slots} (h : Srt s) : Srt (putS d p s) := by cases d <;> first | exact h | exact sput_srt h
theorem clrS_srt {c : Option Nat} {s : Slots} (h : Srt s) : Srt (clrS c s) := by
  unfold clrS; split
  · exact h
  · split
    · exact sput_srt h
    · exact h
theorem sget_putS {d : Option Nat} {p : PV} {s : Slots} (h : Srt s) (k : Nat) : sget k (putS d p s) = if d = some k then some p else sget k s := by
  cases d with
  | none => simp [putS]
  | some j => simp only [putS, sget_sput k h, Option.some.injEq]
theorem sget_clrS {c : Option Nat} {s : Slots} (h : Srt s) (k : Nat) : sget k (clrS c s) = if c = some k then (sget k s).map PV.un else sget k s := by
  cases c with
  | none => simp [clrS]
  | some j =>
    simp only [clrS, Option.some.injEq]
    cases hj : sget j s with
    | none => simp only; split
              · rename_i e; subst e; rw [hj]; rfl
              · rfl
    | some q =>
      simp only [sget_sput k h]
      split
      · rename_i e; subst e; rw [hj]; rfl
      · rfl
theorem eff_comm {d1 d2 c1 c2 : Option Nat} {p1 p2 : PV} {s : Slots} (h : Srt s) (e1 : ∀ k, d1 = some k → d2 ≠ some k ∧ c2 ≠ some k) (e2 : ∀ k, c1 = some k → d2 ≠ some k ∧ c2 ≠ some k) :
    putS d1 p1 (clrS c1 (putS d2 p2 (clrS c2 s))) = putS d2 p2 (clrS c2 (putS d1 p1 (clrS c1 s))) := by
  have s1 := clrS_srt (c := c1) h
  have s2 := clrS_srt (c := c2) h
  refine srt_ext (putS_srt (clrS_srt (putS_srt s2))) (putS_srt (clrS_srt (putS_srt s1))) fun k => ?_
  rw [sget_putS (clrS_srt (putS_srt s2)), sget_clrS (putS_srt s2), sget_putS s2, sget_clrS h, sget_putS (clrS_srt (putS_srt s1)), sget_clrS (putS_srt s1), sget_putS s1, sget_clrS h]
  by_cases a1 : d1 = some k
  · obtain ⟨x1, x2⟩ := e1 k a1
    rw [if_pos a1, if_neg x1, if_neg x2, if_pos a1]
  · rw [if_neg a1, if_neg a1]
    by_cases a2 : c1 = some k
    · obtain ⟨x1, x2⟩ := e2 k a2
      rw [if_pos a2, if_neg x1, if_neg x2, if_neg x1, if_neg x2, if_pos a2]
    · rw [if_neg a2, if_neg a2]

def gOK (ops : Array Oper) (σ : ASt) (o : Oper) : Option Bool :=
  match o.guard with
  | none => some true
  | some (j, want) => (gval ops σ j).map fun x => x == some want
def stepD (E : AE) (o : Oper) (σ σ' : ASt) : Prop := ∃ p σ1, stepV E o σ = some (p, σ1) ∧ sideV E o σ ∧ ASt.put E o.dst p σ1 = some σ'
def callD (E : AE) (o : Oper) (f : Operand) (args : List Operand) (σ σ' : ASt) : Prop :=
  ∃ g first caps as r, σ.rd f = some (.func (.func g) first caps) ∧ allSome (args.map σ.rd) = some as ∧ Ev E.P g (first ++ as ++ caps) [] r [] ∧ r.flat = true ∧ PV.flats (first ++ as ++ caps) = true ∧ ASt.put E o.dst r σ = some σ'
abbrev isCall (o : Oper) : Option (Operand × List Operand) :=
  match o.op with
  | .call c => match c.callee with
    | .value f => some (f, c.args.toList)
    | _ => none
  | _ => none
def runD (E : AE) (o : Oper) (σ σ' : ASt) : Prop :=
  match isCall o with
  | some (f, args) => callD E o f args σ σ'
  | none => stepD E o σ σ'
def AStepD (E : AE) (ops : Array Oper) (o : Oper) (σ σ' : ASt) : Prop :=
  (gOK ops σ o = some true ∧ runD E o σ σ') ∨ (gOK ops σ o = some false ∧ ASt.put E o.dst (.tuple []) σ = some σ')
section
variable {E : AE} {ops : Array Oper} {o : Oper} {σ σ' τ : ASt}
theorem put_form {d : Option Nat} {p : PV} (h : ASt.put E d p σ = some σ') : σ'.s = putS d p σ.s ∧ σ'.h = σ.h ∧ ∀ k, d = some k → k < E.n := by
  cases d with
  | none => simp [ASt.put] at h; subst h; exact ⟨rfl, rfl, by simp⟩
  | some k =>
    simp only [ASt.put] at h
    split at h
    · rename_i hk; cases h; exact ⟨rfl, rfl, fun j e => by cases e; exact hk⟩
    · cases h
theorem put_of {d : Option Nat} {p : PV} (h : ∀ k, d = some k → k < E.n) : ASt.put E d p σ = some ⟨putS d p σ.s, σ.h⟩ := by
  cases d with
  | none => rfl
  | some k => simp only [ASt.put, if_pos (h k rfl)]; rfl
theorem looks_ops {t : Nat} (h : Operand.tmp t ∈ o.op.operands) : t ∈ o.looksAt ops := List.mem_append_left _ (List.mem_filterMap.2 ⟨.tmp t, by simpa using h, rfl⟩)
theorem gOK_agree (h : ∀ t, t ∈ o.looksAt ops → sget t τ.s = sget t σ.s) : gOK ops τ o = gOK ops σ o := by
  unfold gOK
  cases hg : o.guard with
  | none => rfl
  | some jw =>
    obtain ⟨j, want⟩ := jw
    have : gval ops τ j = gval ops σ j := by
      unfold gval
      cases hd : (ops[j]?).bind (·.dst) with
      | none => rfl
      | some d => simp only [h d (List.mem_append_right _ (by simp [hg, hd]))]
    simp only [this]
theorem side_agree (h : agree o σ.s τ.s) (hs : sideV E o σ) : sideV E o τ := by
  obtain ⟨dst, op, type, pos, after, guard⟩ := o
  cases op with
  | call c =>
    obtain ⟨callee, args, ts⟩ := c
    have hargs : ∀ x, x ∈ args.toList → x ∈ (Op.call ⟨callee, args, ts⟩).operands := fun x hx => by simp only [Op.operands, Call.operands]; exact Array.mem_append.2 (.inr (by simpa using hx))
    simp only [sideV] at hs ⊢
    split
    · split
      · rename_i s x h1
        rw [ev_agree h (hargs s (by rw [h1]; simp)), rd_agree h (hargs x (by rw [h1]; simp))]
        simpa only [h1] using hs
      · trivial
    · trivial
  | _ => trivial
theorem astep_form (h : AStepD E ops o σ σ') : ∃ c p, (c = none ∨ c = clrT E o) ∧ σ'.s = putS o.dst p (clrS c σ.s) ∧ ((hk E o = 0 ∨ hk E o = 1) → σ'.h = σ.h) ∧ (hk E o = 3 → unH σ'.h = unH σ.h) ∧
    ∀ τ : ASt, (∀ t, t ∈ o.looksAt ops → sget t τ.s = sget t σ.s) → (hk E o = 0 ∨ τ.h = σ.h ∨ (hk E o = 1 ∧ unH τ.h = unH σ.h)) → ∃ τ', AStepD E ops o τ τ' ∧ τ'.s = putS o.dst p (clrS c τ.s) ∧ ((hk E o = 0 ∨ hk E o = 1) → τ'.h = τ.h) ∧ (τ.h = σ.h → τ'.h = σ'.h) := by
  rcases h with ⟨hg, hr⟩ | ⟨hg, hp⟩
  · unfold runD at hr
    cases hc : isCall o with
    | some fa =>
      obtain ⟨f, args⟩ := fa
      rw [hc] at hr
      obtain ⟨g, first, caps, as, r, h1, h2, h3, h4, h5, h6⟩ := hr
      obtain ⟨p1, p2, p3⟩ := put_form h6
      have hop : f ∈ o.op.operands ∧ ∀ x, x ∈ args → x ∈ o.op.operands := by
        obtain ⟨dst, op, type, pos, after, guard⟩ := o
        cases op <;> simp [isCall] at hc
        rename_i c
        obtain ⟨callee, cargs, ts⟩ := c
        cases callee <;> simp at hc
        obtain ⟨rfl, rfl⟩ := hc
        simp only [Op.operands, Call.operands]
        exact ⟨Array.mem_append.2 (.inl (by simp)), fun x hx => Array.mem_append.2 (.inr (by simpa using hx))⟩
      refine ⟨none, r, .inl rfl, p1, fun _ => p2, fun _ => by rw [p2], fun τ ht _ => ⟨⟨putS o.dst r τ.s, τ.h⟩, .inl ⟨by rw [gOK_agree ht]; exact hg, ?_⟩, rfl, fun _ => rfl, fun e => by rw [p2]; exact e⟩⟩
      unfold runD
      rw [hc]
      have hag : agree o σ.s τ.s := fun t h => ht t (looks_ops h)
      exact ⟨g, first, caps, as, r, by rw [rd_agree hag hop.1]; exact h1, by rw [allSome_agree fun x hx => rd_agree hag (hop.2 x hx)]; exact h2, h3, h4, h5, put_of p3⟩
    | none =>
      rw [hc] at hr
      obtain ⟨p, σ1, h1, h2, h3⟩ := hr
      obtain ⟨p1, p2, p3⟩ := put_form h3
      have hself := stepV_local (σ' := σ) h1 (fun _ _ => rfl) (.inr (.inl rfl))
      obtain ⟨_, _, s1, _, s3, _, s5⟩ := hself
      refine ⟨clrT E o, p, .inr rfl, by rw [p1, s1], fun e => by rw [p2]; exact (s3 e).1, fun e => by rw [p2]; exact s5 e, fun τ ht hh => ?_⟩
      have hag : agree o σ.s τ.s := fun t h => ht t (looks_ops h)
      obtain ⟨τ1, l1, l2, l3, l4, l5, _⟩ := stepV_local h1 hag hh
      refine ⟨⟨putS o.dst p τ1.s, τ1.h⟩, .inl ⟨by rw [gOK_agree ht]; exact hg, ?_⟩, by simp only [l3], fun e => (l4 e).2, fun e => by rw [p2]; exact l5 e⟩
      unfold runD
      rw [hc]
      exact ⟨p, τ1, l1, side_agree hag h2, put_of p3⟩
  · obtain ⟨p1, p2, p3⟩ := put_form hp
    exact ⟨none, .tuple [], .inl rfl, p1, fun _ => p2, fun _ => by rw [p2], fun τ ht _ => ⟨⟨putS o.dst (.tuple []) τ.s, τ.h⟩, .inr ⟨by rw [gOK_agree ht]; exact hg, put_of p3⟩, rfl, fun _ => rfl, fun e => by rw [p2]; exact e⟩⟩
theorem AStepD.srt (h : AStepD E ops o σ σ') (hs : Srt σ.s) : Srt σ'.s := by
  obtain ⟨c, p, _, e, _⟩ := astep_form h
  rw [e]; exact putS_srt (clrS_srt hs)

def writes (E : AE) (o : Oper) : List Nat := o.dst.toList ++ (clrT E o).toList
def hkOK (a b : Nat) : Bool := a == 0 || b == 0 || (a == 1 && b == 1) || (a == 1 && b == 3) || (a == 3 && b == 1)
def commD (E : AE) (ops : Array Oper) (x y : Oper) : Bool :=
  (writes E x).all (fun d => !(y.looksAt ops).contains d && !(writes E y).contains d) && (writes E y).all (fun d => !(x.looksAt ops).contains d) && hkOK (hk E x) (hk E y)
theorem diamond {x y : Oper} {σ1 σ2 : ASt} (hs : Srt σ.s) (h1 : AStepD E ops x σ σ1) (h2 : AStepD E ops y σ1 σ2) (hc : commD E ops x y = true) : ∃ τ, AStepD E ops y σ τ ∧ AStepD E ops x τ σ2 := by
  unfold commD at hc
  simp only [Bool.and_eq_true, List.all_eq_true, Bool.not_eq_true', List.contains_eq_mem, decide_eq_false_iff_not] at hc
  obtain ⟨⟨hw1, hw2⟩, hh⟩ := hc
  obtain ⟨c1, p1, k1, e1, a1, b1, t1⟩ := astep_form h1
  obtain ⟨c2, p2, k2, e2, a2, b2, t2⟩ := astep_form h2
  have wr : ∀ {o : Oper} {c : Option Nat} {k : Nat}, (c = none ∨ c = clrT E o) → c = some k → k ∈ writes E o := fun hk e => by
    rcases hk with h | h
    · rw [h] at e; cases e
    · exact List.mem_append_right _ (by rw [← h, e]; simp)
  have wd : ∀ {o : Oper} {k : Nat}, o.dst = some k → k ∈ writes E o := fun e => List.mem_append_left _ (by rw [e]; simp)
  have hsame : ∀ {o : Oper} {c : Option Nat} {p : PV} {s : Slots} {t : Nat}, Srt s → (c = none ∨ c = clrT E o) → t ∉ writes E o → sget t (putS o.dst p (clrS c s)) = sget t s := fun hs hk ht => by
    rw [sget_putS (clrS_srt hs), if_neg (fun e => ht (wd e)), sget_clrS hs, if_neg (fun e => ht (wr hk e))]
  -- y at σ
  have hheap : hk E y = 0 ∨ σ.h = σ1.h ∨ (hk E y = 1 ∧ unH σ.h = unH σ1.h) := by
    unfold hkOK at hh
    simp only [Bool.or_eq_true, Bool.and_eq_true, beq_iff_eq] at hh
    rcases hh with (((h | h) | h) | h) | h
    · exact .inr (.inl (a1 (.inl h)).symm)
    · exact .inl h
    · exact .inr (.inl (a1 (.inr h.1)).symm)
    · exact .inr (.inl (a1 (.inr h.1)).symm)
    · exact .inr (.inr ⟨h.2, (b1 h.1).symm⟩)
  obtain ⟨τ, y1, y2, y3, y4⟩ := t2 σ (fun t ht => by rw [e1, hsame hs k1 fun hw => (hw1 t hw).1 ht]) hheap
  have hy := astep_form y1
  obtain ⟨_, _, _, _, ya, yb, _⟩ := hy
  have hheap2 : hk E x = 0 ∨ τ.h = σ.h ∨ (hk E x = 1 ∧ unH τ.h = unH σ.h) := by
    unfold hkOK at hh
    simp only [Bool.or_eq_true, Bool.and_eq_true, beq_iff_eq] at hh
    rcases hh with (((h | h) | h) | h) | h
    · exact .inl h
    · exact .inr (.inl (ya (.inl h)))
    · exact .inr (.inl (ya (.inr h.2)))
    · exact .inr (.inr ⟨h.1, yb h.2⟩)
    · exact .inr (.inl (ya (.inr h.2)))
  obtain ⟨τ', x1, x2, x3, x4⟩ := t1 τ (fun t ht => by rw [y2, hsame hs k2 fun hw => hw2 t hw ht]) hheap2
  refine ⟨τ, y1, ?_⟩
  have hslots : τ'.s = σ2.s := by
    rw [x2, y2, e2, e1]
    exact eff_comm hs (fun k e => ⟨fun e' => (hw1 k (wd e)).2 (wd e'), fun e' => (hw1 k (wd e)).2 (wr k2 e')⟩) (fun k e => ⟨fun e' => (hw1 k (wr k1 e)).2 (wd e'), fun e' => (hw1 k (wr k1 e)).2 (wr k2 e')⟩)
  have hheaps : τ'.h = σ2.h := by
    unfold hkOK at hh
    simp only [Bool.or_eq_true, Bool.and_eq_true, beq_iff_eq] at hh
    rcases hh with (((h | h) | h) | h) | h
    · rw [x3 (.inl h)]; exact y4 (a1 (.inl h)).symm
    · rw [x4 (ya (.inl h)), a2 (.inl h)]
    · rw [x4 (ya (.inr h.2)), a2 (.inr h.2)]
    · rw [x3 (.inr h.1)]; exact y4 (a1 (.inr h.1)).symm
    · rw [x4 (ya (.inr h.2)), a2 (.inr h.2)]
  have : τ' = σ2 := by cases τ'; cases σ2; simp only at hslots hheaps; rw [hslots, hheaps]
  rw [← this]; exact x1

/-! ### chains -/
def Chain (E : AE) (ops : Array Oper) : List Nat → ASt → ASt → Prop
  | [], σ, σ' => σ = σ'
  | i :: l, σ, σ' => ∃ o, ops[i]? = some o ∧ ∃ σ1, AStepD E ops o σ σ1 ∧ Chain E ops l σ1 σ'
theorem chain_front {i : Nat} {oi : Oper} (hi : ops[i]? = some oi) : ∀ (p q : List Nat) {σ σ' : ASt}, Srt σ.s → Chain E ops (p ++ i :: q) σ σ' → (∀ k, k ∈ p → ∀ ok, ops[k]? = some ok → commD E ops ok oi = true) → ∃ σ1, AStepD E ops oi σ σ1 ∧ Chain E ops (p ++ q) σ1 σ'
  | [], q, σ, σ', hs, h, _ => by
    obtain ⟨o, ho, σ1, h1, h2⟩ := h
    rw [hi] at ho; cases ho
    exact ⟨σ1, h1, h2⟩
  | k :: p, q, σ, σ', hs, h, hc => by
    obtain ⟨o, ho, σ1, h1, h2⟩ := h
    obtain ⟨σ2, h3, h4⟩ := chain_front hi p q (h1.srt hs) h2 fun k hk => hc k (by simp [hk])
    obtain ⟨τ, d1, d2⟩ := diamond hs h1 h3 (hc k (by simp) o ho)
    exact ⟨τ, d1, o, ho, σ2, d2, h4⟩

/-! ### which operations come before -/
def ancOf (acc : List Nat) (o : Oper) : Nat := o.after.toList.foldl (fun s e => if Region.binds .any e then s ||| (2 ^ e.on ||| acc.getD e.on 0) else s) 0
def ancs : List Nat → List Oper → List Nat
  | acc, [] => acc
  | acc, o :: l => ancs (acc ++ [ancOf acc o]) l
def Closed (ops : Array Oper) (L : Nat → Prop) : Prop := ∀ (j : Nat) o, ops[j]? = some o → L j → ∀ e, e ∈ o.after → Region.binds .any e = true → L e.on
theorem ancOf_bits {acc : List Nat} {o : Oper} {k : Nat} (h : (ancOf acc o).testBit k = true) : ∃ e, e ∈ o.after ∧ Region.binds .any e = true ∧ (k = e.on ∨ (acc.getD e.on 0).testBit k = true) := by
  have key : ∀ (l : List Edge) (s : Nat), (l.foldl (fun s e => if Region.binds .any e then s ||| (2 ^ e.on ||| acc.getD e.on 0) else s) s).testBit k = true → s.testBit k = true ∨ ∃ e, e ∈ l ∧ Region.binds .any e = true ∧ (k = e.on ∨ (acc.getD e.on 0).testBit k = true) := by
    intro l
    induction l with
    | nil => intro s h; exact .inl h
    | cons e l ih =>
      intro s h
      rw [List.foldl_cons] at h
      rcases ih _ h with h1 | ⟨e', h1, h2⟩
      · split at h1
        · rename_i hb
          rw [Nat.testBit_or, Nat.testBit_or] at h1
          simp only [Bool.or_eq_true] at h1
          rcases h1 with h1 | h1 | h1
          · exact .inl h1
          · refine .inr ⟨e, by simp, hb, .inl ?_⟩
            rw [Nat.testBit_two_pow] at h1; exact (of_decide_eq_true h1).symm
          · exact .inr ⟨e, by simp, hb, .inr h1⟩
        · exact .inl h1
      · exact .inr ⟨e', by simp [h1], h2⟩
  rcases key o.after.toList 0 h with h1 | ⟨e, h1, h2⟩
  · simp at h1
  · exact ⟨e, by simpa using h1, h2⟩
def AncOK (ops : Array Oper) (acc : List Nat) : Prop := ∀ (j : Nat) o, j < acc.length → ops[j]? = some o → ∀ L, Closed ops L → (∀ e, e ∈ o.after → Region.binds .any e = true → L e.on) → ∀ k, (acc.getD j 0).testBit k = true → L k
theorem ancs_ok {ops : Array Oper} : ∀ (l : List Oper) (acc : List Nat), AncOK ops acc → (∀ j, l[j]? = ops[acc.length + j]?) → AncOK ops (ancs acc l)
  | [], acc, h, _ => h
  | o :: l, acc, h, hl => by
    rw [ancs]
    have ho : ops[acc.length]? = some o := by have := hl 0; simpa using this.symm
    refine ancs_ok l _ (fun j o' hj ho' L hL hd k hk => ?_) (fun j => by have := hl (j + 1); simpa [Nat.add_assoc, Nat.add_comm 1 j] using this)
    rcases Nat.lt_or_ge j acc.length with hlt | hge
    · refine h j o' hlt ho' L hL hd k ?_
      rwa [List.getD_eq_getElem?_getD, List.getElem?_append_left hlt, ← List.getD_eq_getElem?_getD] at hk
    · have hje : j = acc.length := by simp at hj; omega
      subst hje
      rw [ho] at ho'; cases ho'
      rw [List.getD_eq_getElem?_getD, List.getElem?_append_right (Nat.le_refl _)] at hk
      simp at hk
      obtain ⟨e, he, hb, hkk⟩ := ancOf_bits hk
      rcases hkk with rfl | hkk
      · exact hd e he hb
      · have hle := hd e he hb
        rcases Nat.lt_or_ge e.on acc.length with h1 | h1
        · cases hoe : ops[e.on]? with
          | none =>
            have h2 := (Array.getElem?_eq_some_iff.1 ho).1
            rw [Array.getElem?_eq_none_iff] at hoe; omega
          | some oe => exact h e.on oe h1 hoe L hL (hL e.on oe hoe hle) k (by simpa using hkk)
        · rw [List.getD_eq_getElem?_getD, List.getElem?_eq_none h1] at hkk; simp at hkk
def okD (E : AE) (ops : Array Oper) : Bool :=
  let A := ancs [] ops.toList
  (List.range ops.size).all fun j => match ops[j]? with
    | some oj => oj.after.toList.all (fun e => !Region.binds .any e || decide (e.on < j)) && (List.range j).all fun i => match ops[i]? with
      | some oi => (A.getD j 0).testBit i || commD E ops oi oj
      | none => true
    | none => true
theorem okD_spec (h : okD E ops = true) : (∀ (j : Nat) o, ops[j]? = some o → ∀ e, e ∈ o.after → Region.binds .any e = true → e.on < j) ∧
    ∀ (i j : Nat) oi oj, i < j → ops[i]? = some oi → ops[j]? = some oj → ∀ L, Closed ops L → (∀ e, e ∈ oj.after → Region.binds .any e = true → L e.on) → ¬ L i → commD E ops oi oj = true := by
  unfold okD at h
  simp only [List.all_eq_true, List.mem_range] at h
  have hA : AncOK ops (ancs [] ops.toList) := ancs_ok ops.toList [] (fun j o hj => by simp at hj) (fun j => by simp)
  have hlen : ∀ (l : List Oper) (acc : List Nat), (ancs acc l).length = acc.length + l.length := by
    intro l
    induction l with
    | nil => intro acc; simp [ancs]
    | cons o l ih => intro acc; rw [ancs, ih]; simp; omega
  constructor
  · intro j o ho e he hb
    have := h j (Array.getElem?_eq_some_iff.1 ho).1
    simp only [ho, Bool.and_eq_true, List.all_eq_true] at this
    have := this.1 e (by simpa using he)
    simpa [hb] using this
  · intro i j oi oj hij hi hj L hL hd hn
    have hjs := (Array.getElem?_eq_some_iff.1 hj).1
    have := h j hjs
    simp only [hj, Bool.and_eq_true, List.all_eq_true, List.mem_range] at this
    have := this.2 i hij
    simp only [hi, Bool.or_eq_true] at this
    rcases this with h1 | h1
    · exact absurd (hA j oj (by rw [hlen]; simpa using hjs) hj L hL hd i h1) hn
    · exact h1

/-! ### the model's walk over all orders -/
theorem gOK_wanted {n : Nat} {out : Nat → Nat} {M : Mem} {B : Blk} {a : Act} {w : World} (hI : Inv E.n M B out σ a.tmps w) {b : Bool} (h : gOK ops σ o = some b) : Region.wanted o (yielded ops a.tmps) = b := by
  unfold gOK at h
  unfold Region.wanted
  cases hg : o.guard with
  | none => rw [hg] at h; simpa using h
  | some jw =>
    obtain ⟨j, want⟩ := jw
    rw [hg] at h
    cases hv : gval ops σ j with
    | none => simp [hv] at h
    | some x => simp [hv] at h; simp only; rw [gval_yields hI hv]; exact h
theorem wpOp_sound {out : Nat → Nat} {M : Mem} {B : Blk} {a : Act} {w : World} (hI : Inv E.n M B out σ a.tmps w) {i : Nat} (hi : ops[i]? = some o) (h : AStepD E ops o σ σ') {K : Act → World → Prop} {Q : Exit → Act → World → Prop}
    (hK : ∀ v M' B' w', Good E.n out M B σ a.tmps w M' B' σ' (a.put o.dst v).tmps w' → K (a.put o.dst v) w') : wpOp E.P ops Q i K a w := by
  unfold wpOp
  simp only [hi]
  rcases h with ⟨hg, hr⟩ | ⟨hg, hp⟩
  · rw [if_pos (gOK_wanted (n := 0) hI hg)]
    refine .inl ?_
    unfold runD at hr
    cases hc : isCall o with
    | some fa =>
      obtain ⟨f, args⟩ := fa
      rw [hc] at hr
      obtain ⟨g, first, caps, as, r, h1, h2, h3, h4, h5, h6⟩ := hr
      refine awpOp_sound (K := fun τ => τ = σ') hI ?_ fun v τ M' B' w' e hG => by subst e; exact hK v M' B' w' hG
      unfold awpOp
      obtain ⟨dst, op, type, pos, after, guard⟩ := o
      cases op <;> simp [isCall] at hc
      rename_i c
      obtain ⟨callee, cargs, ts⟩ := c
      cases callee <;> simp at hc
      obtain ⟨rfl, rfl⟩ := hc
      simp only [h1, h2]
      refine ⟨r, σ.h, h3.frame' h4 h5 _, ?_⟩
      unfold thenPut
      simp only at h6
      simp only [h6]
    | none =>
      rw [hc] at hr
      obtain ⟨p, σ1, h1, h2, h3⟩ := hr
      refine stepK_sound (K := fun τ => τ = σ') hI ?_ fun v τ M' B' w' e hG => by subst e; exact hK v M' B' w' hG
      unfold stepK
      rw [h1]
      refine ⟨h2, ?_⟩
      unfold thenPut
      rw [h3]
  · rw [if_neg (by rw [gOK_wanted (n := 0) hI hg]; simp)]
    exact hK undef M B w (skip_good hI hp)
def unlisted (n : Nat) (L : Array Bool) : List Nat := (List.range n).filter fun i => !L.getD i true
theorem mem_unlisted {n : Nat} {L : Array Bool} {i : Nat} : i ∈ unlisted n L ↔ i < n ∧ L.getD i true = false := by
  unfold unlisted; rw [List.mem_filter, List.mem_range]; simp
theorem unlisted_set {n : Nat} {L : Array Bool} {i : Nat} (hL : L.size = n) (hi : i < n) (hu : L.getD i true = false) : ∃ p q, unlisted n L = p ++ i :: q ∧ unlisted n (L.setIfInBounds i true) = p ++ q ∧ ∀ k, k ∈ p → k < i := by
  have hr : List.range n = List.range i ++ i :: (List.range' (i + 1) (n - i - 1)) := by
    have : n = i + (n - i - 1 + 1) := by omega
    rw [List.range_eq_range', List.range_eq_range', this, ← List.range'_append_1, List.range'_succ]
    simp
  have hne : ∀ j, j ≠ i → (L.setIfInBounds i true).getD j true = L.getD j true := fun j h => by simp [Array.getElem?_setIfInBounds_ne (Ne.symm h)]
  have heq : (L.setIfInBounds i true).getD i true = true := by simp [hL, hi]
  refine ⟨(List.range i).filter fun i => !L.getD i true, (List.range' (i + 1) (n - i - 1)).filter fun i => !L.getD i true, ?_, ?_, fun k hk => ?_⟩
  · unfold unlisted; rw [hr, List.filter_append, List.filter_cons, hu]; simp
  · unfold unlisted; rw [hr, List.filter_append, List.filter_cons, heq]
    simp only [Bool.not_true, Bool.false_eq_true, if_false]
    congr 1
    · exact List.filter_congr fun j hj => by rw [hne j (by have := List.mem_range.1 hj; omega)]
    · exact List.filter_congr fun j hj => by rw [hne j (by have := (List.mem_range'_1.1 hj).1; omega)]
  · rw [List.mem_filter, List.mem_range] at hk; exact hk.1
theorem any_sound (hok : okD E ops = true) {out : Nat → Nat} {Q : Exit → Act → World → Prop} : ∀ (fuel : Nat) (L : Array Bool) {M : Mem} {B : Blk} {σ : ASt} {a : Act} {w : World} {K : ASt → Prop} {σ' : ASt}, L.size = ops.size → (unlisted ops.size L).length = fuel → Closed ops (fun i => L.getD i false = true) →
    Inv E.n M B out σ a.tmps w → Chain E ops (unlisted ops.size L) σ σ' → K σ' →
    (∀ M' B' a' w', K σ' → Good E.n out M B σ a.tmps w M' B' σ' a'.tmps w' → a'.defers = a.defers → Q .normal a' w') → wpAny E.P .any ops Q fuel L a w := by
  obtain ⟨hback, hcomm⟩ := okD_spec hok
  have hready0 : ∀ (L : Array Bool), L.size = ops.size → Region.ready .any ops L = [] → unlisted ops.size L = [] := by
    intro L hL h
    cases hu : unlisted ops.size L with
    | nil => rfl
    | cons i l =>
      exfalso
      have him : i ∈ unlisted ops.size L := by rw [hu]; simp
      obtain ⟨h1, h2⟩ := mem_unlisted.1 him
      have ho : ops[i]? = some ops[i] := Array.getElem?_eq_getElem h1
      have hmin : ∀ k, k < i → L.getD k true = true := fun k hk => by
        cases hv : L.getD k true with
        | true => rfl
        | false =>
          have hkm : k ∈ unlisted ops.size L := mem_unlisted.2 ⟨by omega, hv⟩
          have hsrt : (unlisted ops.size L).Pairwise (· < ·) := List.Pairwise.sublist List.filter_sublist List.pairwise_lt_range
          rw [hu] at hkm hsrt
          rcases List.mem_cons.1 hkm with e | hk2
          · omega
          · have := (List.pairwise_cons.1 hsrt).1 k hk2; omega
      have : i ∈ Region.ready .any ops L := mem_ready.2 ⟨h2, _, ho, fun e he hb => by
        have hlt := hback i _ ho e he hb
        have := hmin _ hlt
        have hsz : e.on < L.size := by omega
        simpa [hsz] using this⟩
      rw [h] at this; cases this
  intro fuel
  induction fuel with
  | zero =>
    intro L M B σ a w K σ' hL hlen _ hI hc hk hQ
    have hnil : unlisted ops.size L = [] := List.eq_nil_of_length_eq_zero hlen
    rw [hnil] at hc
    have : σ = σ' := hc
    subst this
    refine ⟨?_, hQ M B a w hk (Good.refl hI) rfl⟩
    cases hr : Region.ready .any ops L with
    | nil => rfl
    | cons i l =>
      exfalso
      have hi : i ∈ Region.ready .any ops L := by rw [hr]; simp
      obtain ⟨h1, o, ho, _⟩ := mem_ready.1 hi
      have : i ∈ unlisted ops.size L := mem_unlisted.2 ⟨(Array.getElem?_eq_some_iff.1 ho).1, h1⟩
      rw [hnil] at this; cases this
  | succ fuel ih =>
    intro L M B σ a w K σ' hL hlen hcl hI hc hk hQ
    refine ⟨fun h => by rw [hready0 L hL h] at hlen; simp at hlen, fun i hi => ?_⟩
    obtain ⟨h1, o, ho, hd⟩ := mem_ready.1 hi
    have his := (Array.getElem?_eq_some_iff.1 ho).1
    obtain ⟨p, q, u1, u2, u3⟩ := unlisted_set hL his h1
    rw [u1] at hc
    obtain ⟨σ1, s1, s2⟩ := chain_front ho p q hI.srt hc fun k hkp ok hok' => by
      have hkm : k ∈ unlisted ops.size L := by rw [u1]; exact List.mem_append_left _ hkp
      obtain ⟨k1, k2⟩ := mem_unlisted.1 hkm
      refine hcomm k i ok o (u3 k hkp) hok' ho _ hcl (fun e he hb => hd e he hb) fun hl => ?_
      have : k < L.size := by omega
      simp [this] at k2 hl
      rw [k2] at hl; cases hl
    refine wpOp_sound hI ho s1 fun v M' B' w' hG => ?_
    refine ih (L.setIfInBounds i true) (by simpa using hL) (by rw [u2]; rw [u1] at hlen; simp at hlen ⊢; omega) (fun j oj hj hlj e he hb => ?_) hG.inv (by rw [u2]; exact s2) hk fun M2 B2 a2 w2 hk2 hG2 hd2 => hQ M2 B2 a2 w2 hk2 (hG.trans hG2) (by rw [hd2, Act.put_defers'])
    by_cases hij : i = j
    · subst hij
      rw [ho] at hj; cases hj
      exact getD_set_true (hd e he hb)
    · have hlj' : (L.setIfInBounds i true).getD j false = true := hlj
      rw [getD_set_ne false hij] at hlj'
      exact getD_set_true (hcl j oj hj hlj' e he hb)

/-! ### the abstract wp of a region that draws -/
def callKD (E : AE) (g : FuncId) (args : List PV) (dst : Option Nat) (K : ASt → Prop) (σ : ASt) : Prop := ∃ r, Ev E.P g args [] r [] ∧ r.flat = true ∧ PV.flats args = true ∧ thenPut E dst r σ K
def awpOpD (E : AE) (o : Oper) (K : ASt → Prop) (σ : ASt) : Prop :=
  match isCall o with
  | some (f, args) => (match σ.rd f, allSome (args.map σ.rd) with
    | some (.func (.func g) first caps), some as => callKD E g (first ++ as ++ caps) o.dst K σ
    | _, _ => False)
  | none => stepK E o K σ
def awpOpsD (E : AE) (ops : Array Oper) : List Oper → (ASt → Prop) → ASt → Prop
  | [], Q, σ => Q σ
  | o :: l, Q, σ =>
    match o.guard with
    | none => awpOpD E o (awpOpsD E ops l Q) σ
    | some (j, want) => match gval ops σ j with
      | some none => thenPut E o.dst (.tuple []) σ (awpOpsD E ops l Q)
      | some (some b) => (b = want → awpOpD E o (awpOpsD E ops l Q) σ) ∧ (b ≠ want → thenPut E o.dst (.tuple []) σ (awpOpsD E ops l Q))
      | none => False
def awpD (E : AE) (ops : Array Oper) (K : ASt → Prop) (σ : ASt) : Prop := okD E ops = true ∧ awpOpsD E ops ops.toList K σ
theorem thenPut_ex {d : Option Nat} {p : PV} {K : ASt → Prop} (h : thenPut E d p σ K) : ∃ σ', ASt.put E d p σ = some σ' ∧ K σ' := by
  unfold thenPut at h; split at h
  · rename_i σ' hs; exact ⟨σ', hs, h⟩
  · exact h.elim
theorem awpOpD_ex {K : ASt → Prop} (h : awpOpD E o K σ) : ∃ σ', runD E o σ σ' ∧ K σ' := by
  unfold awpOpD at h
  unfold runD
  split at h
  · rename_i f args hc
    split at h
    · rename_i g first caps as h1 h2
      obtain ⟨r, a1, a2, a3, a4⟩ := h
      obtain ⟨σ', a5, a6⟩ := thenPut_ex a4
      exact ⟨σ', ⟨g, first, caps, as, r, h1, h2, a1, a2, a3, a5⟩, a6⟩
    · exact h.elim
  · rename_i hc
    unfold stepK at h
    split at h
    · rename_i p σ1 hs
      obtain ⟨σ', a5, a6⟩ := thenPut_ex h.2
      exact ⟨σ', ⟨p, σ1, hs, h.1, a5⟩, a6⟩
    · exact h.elim
theorem awpOpsD_chain {K : ASt → Prop} : ∀ (l : List Oper) (k : Nat) {σ : ASt}, (∀ j, l[j]? = ops[k + j]?) → awpOpsD E ops l K σ → ∃ σ', Chain E ops (List.range' k l.length) σ σ' ∧ K σ'
  | [], k, σ, _, h => ⟨σ, rfl, h⟩
  | o :: l, k, σ, hl, h => by
    have ho : ops[k]? = some o := by have := hl 0; simpa using this.symm
    have go : ∀ σ1, AStepD E ops o σ σ1 → awpOpsD E ops l K σ1 → ∃ σ', Chain E ops (List.range' k (o :: l).length) σ σ' ∧ K σ' := fun σ1 h1 h2 => by
      obtain ⟨σ', h3, h4⟩ := awpOpsD_chain l (k + 1) (fun j => by have := hl (j + 1); simpa [Nat.add_assoc, Nat.add_comm 1 j] using this) h2
      exact ⟨σ', by rw [List.length_cons, List.range'_succ]; exact ⟨o, ho, σ1, h1, h3⟩, h4⟩
    have run : gOK ops σ o = some true → awpOpD E o (awpOpsD E ops l K) σ → ∃ σ', Chain E ops (List.range' k (o :: l).length) σ σ' ∧ K σ' := fun hg h => by
      obtain ⟨σ1, h1, h2⟩ := awpOpD_ex h
      exact go σ1 (.inl ⟨hg, h1⟩) h2
    have skip : gOK ops σ o = some false → thenPut E o.dst (.tuple []) σ (awpOpsD E ops l K) → ∃ σ', Chain E ops (List.range' k (o :: l).length) σ σ' ∧ K σ' := fun hg h => by
      obtain ⟨σ1, h1, h2⟩ := thenPut_ex h
      exact go σ1 (.inr ⟨hg, h1⟩) h2
    rw [awpOpsD] at h
    split at h
    · rename_i hg; exact run (by simp [gOK, hg]) h
    · rename_i j want hg
      split at h
      · rename_i hv; exact skip (by simp [gOK, hg, hv]) h
      · rename_i b hv
        by_cases hb : b = want
        · exact run (by simp [gOK, hg, hv, hb]) (h.1 hb)
        · exact skip (by simp [gOK, hg, hv, hb]) (h.2 hb)
      · exact h.elim
theorem awpD_sound (hm : E.P.follows .mixedOrders = true) {out : Nat → Nat} {M : Mem} {B : Blk} {a : Act} {w : World} {id : Nat} {Q : Exit → Act → World → Prop} {K : ASt → Prop} (hI : Inv E.n M B out σ a.tmps w) (h : awpD E ops K σ)
    (hQ : ∀ σ' M' B' a' w', K σ' → Good E.n out M B σ a.tmps w M' B' σ' a'.tmps w' → a'.defers = a.defers → Q .normal a' w') : (Code.region id ops true).wp E.P Q a w := by
  obtain ⟨hok, h⟩ := h
  obtain ⟨σ', hc, hk⟩ := awpOpsD_chain ops.toList 0 (fun j => by simp) h
  have hd := hI.drew
  have hu : unlisted ops.size (Array.replicate ops.size false) = List.range' 0 ops.toList.length := by
    unfold unlisted
    rw [List.filter_eq_self.2 (fun i hi => by have := List.mem_range.1 hi; simp [this]), List.range_eq_range']; simp
  refine wp_region_any hm ?_
  refine any_sound hok ops.size (Array.replicate ops.size false) (K := K) (σ' := σ') (by simp) (by rw [hu]; simp) (fun j o _ h => ?_) hd.1 (by rw [hu]; exact hc) hk fun M' B' a' w' hk' hG hd' => hQ σ' M' B' a' w' hk' (hd.2.trans hG) hd'
  have h' : (Array.replicate ops.size false).getD j false = true := h
  simp [Array.getElem?_replicate] at h'
  split at h' <;> simp at h'
end
end Go.Proofs.Ytmclnnpaephkpaa

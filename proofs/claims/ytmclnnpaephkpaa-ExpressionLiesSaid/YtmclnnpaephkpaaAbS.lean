/-
  Words for proofs over the abstract evaluator: a contract in a greater heap, loops, calls.
-/
import Derived.Test.YtmclnnpaephkpaaAbP
import Derived.IntWalk
namespace Go.Proofs.Ytmclnnpaephkpaa
set_option linter.unusedVariables false
set_option linter.unusedSimpArgs false
set_option linter.unnecessarySimpa false
set_option linter.unusedSectionVars false
open Go.RowKit

theorem Ev.frame {P : Program} {g : FuncId} {args : List PV} {r : PV} (h : Ev P g args [] r []) (hr : r.flat = true) (ha : PV.flats args = true) (hh : Objs) : Ev P g args hh r hh := h.frame' hr ha hh
theorem callK_intro {E : AE} {g : FuncId} {args : List PV} {dst : Option Nat} {K : ASt → Prop} {σ : ASt} {r : PV} {h' : Objs} (h : Ev E.P g args σ.h r h') (hk : thenPut E dst r { σ with h := h' } K) : callK E g args dst K σ := ⟨r, h', h, hk⟩
/-- A pure call. -/
theorem callK_pure {E : AE} {g : FuncId} {args : List PV} {dst : Option Nat} {K : ASt → Prop} {σ : ASt} {r : PV} (h : Ev E.P g args [] r []) (hr : r.flat = true) (ha : PV.flats args = true) (hk : thenPut E dst r σ K) : callK E g args dst K σ := ⟨r, σ.h, h.frame hr ha _, hk⟩
theorem wrap64 {n : Int} (h1 : -9223372036854775808 ≤ n) (h2 : n ≤ 9223372036854775807) : IntKind.i64.wrap n = n := IntWalk.i64_in n ⟨h1, h2⟩
theorem thenPut_mono {E : AE} {dst : Option Nat} {p : PV} {σ : ASt} {K K' : ASt → Prop} (hk : ∀ σ, K σ → K' σ) (h : thenPut E dst p σ K) : thenPut E dst p σ K' := by
  unfold thenPut at *
  split at h
  · exact hk _ h
  · exact h.elim
theorem stepK_mono {E : AE} {o : Oper} {σ : ASt} {K K' : ASt → Prop} (hk : ∀ σ, K σ → K' σ) (h : stepK E o K σ) : stepK E o K' σ := by
  unfold stepK at *
  split at h
  · exact ⟨h.1, thenPut_mono hk h.2⟩
  · exact h.elim
theorem awpOp_mono {E : AE} {o : Oper} {σ : ASt} {K K' : ASt → Prop} (hk : ∀ σ, K σ → K' σ) (h : awpOp E o K σ) : awpOp E o K' σ := by
  unfold awpOp at *
  split
  · rename_i c hc
    simp only [hc] at h
    split
    · rename_i f hf
      simp only [hf] at h
      split at h
      · rename_i h1 h2
        obtain ⟨r, h', a, b⟩ := h
        exact ⟨r, h', a, thenPut_mono hk b⟩
      · exact h.elim
    · rename_i hf
      split at h
      · rename_i f hf'; exact absurd hf' (hf f)
      · exact stepK_mono hk h
  · rename_i hc
    split at h
    · rename_i c hc'; exact absurd hc' (hc c)
    · exact stepK_mono hk h
theorem awpOps_mono {E : AE} {ops : Array Oper} {K K' : ASt → Prop} (hk : ∀ σ, K σ → K' σ) : ∀ (l : List Oper) {σ : ASt}, awpOps E ops l K σ → awpOps E ops l K' σ
  | [], σ, h => hk σ h
  | o :: l, σ, h => by
    rw [awpOps] at h ⊢
    split
    · rename_i hg
      simp only [hg] at h
      exact awpOp_mono (fun σ hσ => awpOps_mono hk l hσ) h
    · rename_i j want hg
      simp only [hg] at h
      split
      · rename_i hv
        rw [hv] at h
        exact thenPut_mono (fun σ hσ => awpOps_mono hk l hσ) h
      · rename_i b hv
        rw [hv] at h
        exact ⟨fun e => awpOp_mono (fun σ hσ => awpOps_mono hk l hσ) (h.1 e), fun e => thenPut_mono (fun σ hσ => awpOps_mono hk l hσ) (h.2 e)⟩
      · rename_i hv
        rw [hv] at h
        exact h.elim
theorem awpOpD_mono {E : AE} {o : Oper} {σ : ASt} {K K' : ASt → Prop} (hk : ∀ σ, K σ → K' σ) (h : awpOpD E o K σ) : awpOpD E o K' σ := by
  unfold awpOpD at *
  split
  · rename_i f args hc
    simp only [hc] at h
    split at h
    · rename_i h1 h2
      obtain ⟨r, a, b, c, d⟩ := h
      exact ⟨r, a, b, c, thenPut_mono hk d⟩
    · exact h.elim
  · rename_i hc
    simp only [hc] at h
    exact stepK_mono hk h
theorem awpOpsD_mono {E : AE} {ops : Array Oper} {K K' : ASt → Prop} (hk : ∀ σ, K σ → K' σ) : ∀ (l : List Oper) {σ : ASt}, awpOpsD E ops l K σ → awpOpsD E ops l K' σ
  | [], σ, h => hk σ h
  | o :: l, σ, h => by
    rw [awpOpsD] at h ⊢
    split
    · rename_i hg
      simp only [hg] at h
      exact awpOpD_mono (fun σ hσ => awpOpsD_mono hk l hσ) h
    · rename_i j want hg
      simp only [hg] at h
      split
      · rename_i hv
        rw [hv] at h
        exact thenPut_mono (fun σ hσ => awpOpsD_mono hk l hσ) h
      · rename_i b hv
        rw [hv] at h
        exact ⟨fun e => awpOpD_mono (fun σ hσ => awpOpsD_mono hk l hσ) (h.1 e), fun e => thenPut_mono (fun σ hσ => awpOpsD_mono hk l hσ) (h.2 e)⟩
      · rename_i hv
        rw [hv] at h
        exact h.elim
theorem awpD_mono {E : AE} {ops : Array Oper} {σ : ASt} {K K' : ASt → Prop} (hk : ∀ σ, K σ → K' σ) (h : awpD E ops K σ) : awpD E ops K' σ := ⟨h.1, awpOpsD_mono hk _ h.2⟩
theorem rounds_mono {m0 : Nat} {b : (AX → ASt → Prop) → ASt → Prop} {Q Q' : AX → ASt → Prop} (hb : ∀ (Q Q' : AX → ASt → Prop) (σ : ASt), (∀ e σ, Q e σ → Q' e σ) → b Q σ → b Q' σ) (hq : ∀ e σ, Q e σ → Q' e σ) : ∀ (k : Nat) (σ : ASt), roundsA m0 b Q k σ → roundsA m0 b Q' k σ
  | 0, _, h => h.elim
  | k + 1, σ, ⟨l, m, h1, h2, h3⟩ => ⟨l, m, h1, h2, hb _ _ _ (fun e σ he => by
      cases e with
      | normal => exact rounds_mono hb hq k σ he
      | ret => exact hq _ _ he
      | exit i => exact hq _ _ he) h3⟩
theorem awp_mono {E : AE} {m0 : Nat} : ∀ (c : Code) {Q Q' : AX → ASt → Prop} {σ : ASt}, (∀ e σ, Q e σ → Q' e σ) → awp E m0 c Q σ → awp E m0 c Q' σ
  | .skip, _, _, _, hq, h => hq _ _ h
  | .label _, _, _, _, hq, h => hq _ _ h
  | .exit _, _, _, _, hq, h => hq _ _ h
  | .ret, _, _, _, hq, h => hq _ _ h
  | .region _ ops draw, _, _, _, hq, h => by
    rw [awp] at h ⊢
    cases draw with
    | false => simp only [Bool.false_eq_true, if_false] at h ⊢; exact awpOps_mono (fun σ => hq _ σ) _ h
    | true => simp only [if_true] at h ⊢; exact awpD_mono (fun σ => hq _ σ) h
  | .seq x y, Q, Q', _, hq, h => by
    rw [awp] at h ⊢
    refine awp_mono x (fun e σ he => ?_) h
    cases e with
    | normal =>
      rcases he with he | ⟨l, m, a1, a2, he⟩
      · exact .inl (awp_mono y hq he)
      · exact .inr ⟨l, m, a1, a2, awp_mono y hq he⟩
    | ret => exact hq _ _ he
    | exit i => exact hq _ _ he
  | .cond c x y, _, _, _, hq, h => by
    rw [awp] at h ⊢
    split
    · rename_i b hb
      rw [hb] at h
      exact ⟨fun e => awp_mono x hq (h.1 e), fun e => awp_mono y hq (h.2 e)⟩
    · rename_i hb
      split at h
      · rename_i b hb'; exact absurd hb' (hb b)
      · exact h
  | .block id x, _, _, _, hq, h => by
    rw [awp] at h ⊢
    refine awp_mono x (fun e σ he => ?_) h
    cases e with
    | normal => exact hq _ _ he
    | ret => exact hq _ _ he
    | exit i =>
      simp only [blockA] at he ⊢
      split
      · rename_i e; rw [if_pos e] at he; exact hq _ _ he
      · rename_i e; rw [if_neg e] at he; exact hq _ _ he
  | .loop x, _, _, _, hq, h => by
    rw [awp] at h ⊢
    obtain ⟨k, hk⟩ := h
    exact ⟨k, rounds_mono (b := awp E m0 x) (fun _ _ _ hq hb => awp_mono x hq hb) hq k _ hk⟩
  | .scope x, _, _, _, hq, h => by rw [awp] at h ⊢; exact awp_mono x hq h
  | .rangeFunc .., _, _, _, _, h => by rw [awp] at h; exact h.elim
  | .goto _, _, _, _, _, h => by rw [awp] at h; exact h.elim
  | .refuse _, _, _, _, _, h => by rw [awp] at h; exact h.elim
theorem loopA {E : AE} {m0 : Nat} {x : Code} {Q : AX → ASt → Prop} {σ : ASt} {α : Type} (S : α → ASt) (C : α → Prop) (μ : α → Nat) (l : List Nat) (m : Nat) (x0 : α) (hm : m0 ≤ m) (h0 : gcOK l m σ = true) (h1 : σ.gc l m = S x0) (h2 : C x0)
    (step : ∀ y, C y → awp E m0 x (contA (fun σ' => gcOK l m σ' = true ∧ ∃ y', μ y' < μ y ∧ C y' ∧ σ'.gc l m = S y') Q) (S y)) : loopK m0 (awp E m0 x) Q σ := by
  have rmono : ∀ (k k' : Nat) (σ : ASt), k ≤ k' → roundsA m0 (awp E m0 x) Q k σ → roundsA m0 (awp E m0 x) Q k' σ := by
    intro k
    induction k with
    | zero => intro k' σ _ h; exact h.elim
    | succ k ih =>
      intro k' σ hk h
      obtain ⟨k2, rfl⟩ : ∃ k2, k' = k2 + 1 := ⟨k' - 1, by omega⟩
      obtain ⟨l, m, a, b, c⟩ := h
      refine ⟨l, m, a, b, awp_mono x (fun e σ he => ?_) c⟩
      cases e with
      | normal => exact ih k2 σ (by omega) he
      | ret => exact he
      | exit i => exact he
  have key : ∀ (k : Nat) (y : α) (σ : ASt), μ y < k → C y → gcOK l m σ = true → σ.gc l m = S y → roundsA m0 (awp E m0 x) Q k σ := by
    intro k
    induction k with
    | zero => intro y σ h; omega
    | succ k ih =>
      intro y σ hk hc hg hs
      refine ⟨l, m, hm, hg, ?_⟩
      rw [hs]
      refine awp_mono x (fun e σ' he => ?_) (step y hc)
      cases e with
      | normal =>
        obtain ⟨g1, y', a, b, c⟩ := he
        exact ih y' σ' (by omega) b g1 c
      | ret => exact he
      | exit i => exact he
  exact ⟨μ x0 + 1, key _ x0 σ (Nat.lt_succ_self _) h2 h0 h1⟩
theorem drawA {E : AE} {ops : Array Oper} {K : ASt → Prop} {σ : ASt} (h : okD E ops = true) (k : awpOpsD E ops ops.toList K σ) : awpD E ops K σ := ⟨h, k⟩
theorem callKD_pure {E : AE} {g : FuncId} {args : List PV} {dst : Option Nat} {K : ASt → Prop} {σ : ASt} {r : PV} (h : Ev E.P g args [] r []) (hr : r.flat = true) (ha : PV.flats args = true) (hk : thenPut E dst r σ K) : callKD E g args dst K σ := ⟨r, h, hr, ha, hk⟩

section
variable {E : AE} {m0 : Nat} {Q : AX → ASt → Prop} {σ : ASt}
theorem seqA {x y : Code} (h : ∀ K : ASt → Prop, (∀ σ, awp E m0 y Q σ → K σ) → awp E m0 x (contA K Q) σ) : awp E m0 (.seq x y) Q σ := h _ fun _ h => .inl h
theorem blkA {id : Nat} {x : Code} (h : awp E m0 x (blockA id Q) σ) : awp E m0 (.block id x) Q σ := h
theorem scpA {x : Code} (h : awp E m0 x Q σ) : awp E m0 (.scope x) Q σ := h
theorem regA {id : Nat} {ops : Array Oper} (h : awpOps E ops ops.toList (Q .normal) (σ.head E)) : awp E m0 (.region id ops false) Q σ := h
theorem regD {id : Nat} {ops : Array Oper} (hok : okD E ops = true) (h : awpOpsD E ops ops.toList (Q .normal) (σ.head E)) : awp E m0 (.region id ops true) Q σ := ⟨hok, h⟩
theorem condA {c : Operand} {x y : Code} {b : Bool} (hb : σ.rd c = some (.bool b)) (h1 : b = true → awp E m0 x Q σ) (h2 : b = false → awp E m0 y Q σ) : awp E m0 (.cond c x y) Q σ := by
  rw [awp, hb]; exact ⟨h1, h2⟩
theorem retA (h : Q .ret σ) : awp E m0 .ret Q σ := h
theorem skpA (h : Q .normal σ) : awp E m0 .skip Q σ := h
theorem loopC {x : Code} {α : Type} (S : α → ASt) (C : α → Prop) (μ : α → Nat) (l : List Nat) (m : Nat) (x0 : α) (hm : m0 ≤ m) (h0 : gcOK l m σ = true) (h1 : σ.gc l m = S x0) (h2 : C x0)
    (step : ∀ y, C y → ∀ K : ASt → Prop, (∀ σ' y', gcOK l m σ' = true → σ'.gc l m = S y' → μ y' < μ y → C y' → K σ') → awp E m0 x (contA K Q) (S y)) : awp E m0 (.loop x) Q σ :=
  loopA S C μ l m x0 hm h0 h1 h2 fun y hy => step y hy _ fun σ' y' a b c d => ⟨a, y', c, d, b⟩
theorem opsA {ops : Array Oper} {o : Oper} {l : List Oper} {K : ASt → Prop} (h : awpOps E ops (o :: l) K σ) : awpOps E ops (o :: l) K σ := h
theorem opsD {ops : Array Oper} {o : Oper} {l : List Oper} {K : ASt → Prop} (h : awpOpsD E ops (o :: l) K σ) : awpOpsD E ops (o :: l) K σ := h
theorem lblA {l : Nat} (h : Q .normal σ) : awp E m0 (.label l) Q σ := h
theorem extA {id : Nat} (h : Q (.exit id) σ) : awp E m0 (.exit id) Q σ := h
theorem loopB {x : Code} (h : loopK m0 (awp E m0 x) Q σ) : awp E m0 (.loop x) Q σ := h
end

section
variable {E : AE} {ops : Array Oper} {l : List Oper} {Q : ASt → Prop} {σ : ASt} {o : Oper}
@[simp] theorem awpOps_nil : awpOps E ops [] Q σ = Q σ := rfl
@[simp] theorem awpOpsD_nil : awpOpsD E ops [] Q σ = Q σ := rfl
theorem awpOp_step (hc : isCall o = none) : awpOp E o Q σ = stepK E o Q σ := by
  unfold isCall at hc
  unfold awpOp
  split
  · rename_i c hop
    simp only [hop] at hc
    split
    · rename_i f hf; simp only [hf] at hc; cases hc
    · rfl
  · rfl
@[simp] theorem awpOps_step (hc : isCall o = none) (hg : o.guard = none) : awpOps E ops (o :: l) Q σ = stepK E o (awpOps E ops l Q) σ := by
  rw [awpOps, hg]; exact awpOp_step hc
def guardK (E : AE) (g : Option (Option Bool)) (want : Bool) (o : Oper) (K : ASt → Prop) (σ : ASt) : Prop :=
  match g with
  | some none => thenPut E o.dst (.tuple []) σ K
  | some (some b) => (b = want → stepK E o K σ) ∧ (b ≠ want → thenPut E o.dst (.tuple []) σ K)
  | none => False
@[simp] theorem awpOps_guard {d : Option Nat} {op : Op} {ty : TypeId} {pos : String} {af : Array Edge} {j : Nat} {want : Bool} (hc : isCall ⟨d, op, ty, pos, af, some (j, want)⟩ = none) : awpOps E ops (⟨d, op, ty, pos, af, some (j, want)⟩ :: l) Q σ = guardK E (gval ops σ j) want ⟨d, op, ty, pos, af, some (j, want)⟩ (awpOps E ops l Q) σ := by
  rw [awpOps]
  simp only [guardK]
  split <;> simp_all [awpOp_step hc]
@[simp] theorem awpOpsD_step (hc : isCall o = none) (hg : o.guard = none) : awpOpsD E ops (o :: l) Q σ = stepK E o (awpOpsD E ops l Q) σ := by
  rw [awpOpsD, hg]; simp only [awpOpD, hc]
@[simp] theorem awpOpsD_guard {d : Option Nat} {op : Op} {ty : TypeId} {pos : String} {af : Array Edge} {j : Nat} {want : Bool} (hc : isCall ⟨d, op, ty, pos, af, some (j, want)⟩ = none) : awpOpsD E ops (⟨d, op, ty, pos, af, some (j, want)⟩ :: l) Q σ = guardK E (gval ops σ j) want ⟨d, op, ty, pos, af, some (j, want)⟩ (awpOpsD E ops l Q) σ := by
  rw [awpOpsD]
  simp only [guardK, awpOpD, hc]
  cases gval ops σ j with
  | none => rfl
  | some x => cases x <;> rfl
theorem callA {f : Operand} {xs : List Operand} {g : FuncId} {first caps as : List PV} (hc : isCall o = some (f, xs)) (hg : o.guard = none) (hf : σ.rd f = some (.func (.func g) first caps)) (ha : allSome (xs.map σ.rd) = some as)
    (h : ∀ K : ASt → Prop, (∀ σ, awpOps E ops l Q σ → K σ) → callK E g (first ++ as ++ caps) o.dst K σ) : awpOps E ops (o :: l) Q σ := by
  rw [awpOps, hg]
  have h' := h _ fun _ h => h
  obtain ⟨dst, op, type, pos, after, guard⟩ := o
  cases op <;> simp [isCall] at hc
  rename_i c
  obtain ⟨callee, cargs, ts⟩ := c
  cases callee <;> simp at hc
  obtain ⟨rfl, rfl⟩ := hc
  simp only [awpOp, hf, ha]
  exact h'
theorem callD' {f : Operand} {xs : List Operand} {g : FuncId} {first caps as : List PV} (hc : isCall o = some (f, xs)) (hg : o.guard = none) (hf : σ.rd f = some (.func (.func g) first caps)) (ha : allSome (xs.map σ.rd) = some as)
    (h : ∀ K : ASt → Prop, (∀ σ, awpOpsD E ops l Q σ → K σ) → callKD E g (first ++ as ++ caps) o.dst K σ) : awpOpsD E ops (o :: l) Q σ := by
  rw [awpOpsD, hg]
  have h' := h _ fun _ h => h
  simp only [awpOpD, hc, hf, ha]
  exact h'
/-- A guarded call. -/
theorem callG {j : Nat} {want b : Bool} {f : Operand} {xs : List Operand} {g : FuncId} {first caps as : List PV} (hc : isCall o = some (f, xs)) (hg : o.guard = some (j, want)) (hv : gval ops σ j = some (some b))
    (h : b = want → awpOps E ops ({ o with guard := none } :: l) Q σ) (hn : b ≠ want → thenPut E o.dst (.tuple []) σ (awpOps E ops l Q)) : awpOps E ops (o :: l) Q σ := by
  rw [awpOps, hg]
  simp only [hv]
  exact ⟨fun e => by have := h e; rw [awpOps] at this; exact this, hn⟩
theorem callGn {j : Nat} {want : Bool} {f : Operand} {xs : List Operand} (hc : isCall o = some (f, xs)) (hg : o.guard = some (j, want)) (hv : gval ops σ j = some none) (hn : thenPut E o.dst (.tuple []) σ (awpOps E ops l Q)) : awpOps E ops (o :: l) Q σ := by
  rw [awpOps, hg]
  simp only [hv]
  exact hn
/-- The guard says: go. -/
theorem callGt {j : Nat} {want : Bool} {f : Operand} {xs : List Operand} (hc : isCall o = some (f, xs)) (hg : o.guard = some (j, want)) (hv : gval ops σ j = some (some want))
    (h : awpOps E ops ({ o with guard := none } :: l) Q σ) : awpOps E ops (o :: l) Q σ := by
  rw [awpOps, hg]
  simp only [hv]
  exact ⟨fun _ => by rw [awpOps] at h; exact h, fun e => absurd rfl e⟩
/-- The guard says: do not. -/
theorem callGf {j : Nat} {want b : Bool} {f : Operand} {xs : List Operand} (hc : isCall o = some (f, xs)) (hg : o.guard = some (j, want)) (hv : gval ops σ j = some (some b)) (hb : b ≠ want)
    (h : thenPut E o.dst (.tuple []) σ (awpOps E ops l Q)) : awpOps E ops (o :: l) Q σ := by
  rw [awpOps, hg]
  simp only [hv]
  exact ⟨fun e => absurd e hb, fun _ => h⟩
theorem callDGt {j : Nat} {want : Bool} {f : Operand} {xs : List Operand} (hc : isCall o = some (f, xs)) (hg : o.guard = some (j, want)) (hv : gval ops σ j = some (some want))
    (h : awpOpsD E ops ({ o with guard := none } :: l) Q σ) : awpOpsD E ops (o :: l) Q σ := by
  rw [awpOpsD, hg]
  simp only [hv]
  exact ⟨fun _ => by rw [awpOpsD] at h; exact h, fun e => absurd rfl e⟩
theorem callDGf {j : Nat} {want b : Bool} {f : Operand} {xs : List Operand} (hc : isCall o = some (f, xs)) (hg : o.guard = some (j, want)) (hv : gval ops σ j = some (some b)) (hb : b ≠ want)
    (h : thenPut E o.dst (.tuple []) σ (awpOpsD E ops l Q)) : awpOpsD E ops (o :: l) Q σ := by
  rw [awpOpsD, hg]
  simp only [hv]
  exact ⟨fun e => absurd e hb, fun _ => h⟩
theorem callDG {j : Nat} {want b : Bool} {f : Operand} {xs : List Operand} (hc : isCall o = some (f, xs)) (hg : o.guard = some (j, want)) (hv : gval ops σ j = some (some b))
    (h : b = want → awpOpsD E ops ({ o with guard := none } :: l) Q σ) (hn : b ≠ want → thenPut E o.dst (.tuple []) σ (awpOpsD E ops l Q)) : awpOpsD E ops (o :: l) Q σ := by
  rw [awpOpsD, hg]
  simp only [hv]
  exact ⟨fun e => by have := h e; rw [awpOpsD] at this; exact this, hn⟩
theorem callDGn {j : Nat} {want : Bool} {f : Operand} {xs : List Operand} (hc : isCall o = some (f, xs)) (hg : o.guard = some (j, want)) (hv : gval ops σ j = some none) (hn : thenPut E o.dst (.tuple []) σ (awpOpsD E ops l Q)) : awpOpsD E ops (o :: l) Q σ := by
  rw [awpOpsD, hg]
  simp only [hv]
  exact hn
end
@[simp] theorem un_int (k : IntKind) (n : Int) : PV.un (.int k n) = .int k n := rfl
@[simp] theorem size_int (k : IntKind) (n : Int) : PV.size (.int k n) = 1 := rfl
@[simp] theorem isAgg_int (k : IntKind) (n : Int) : PV.isAgg (.int k n) = false := rfl
@[simp] theorem one_int (k : IntKind) (n : Int) : PV.one (.int k n) = true := rfl
@[simp] theorem okE_int (k : IntKind) (n : Int) : PV.okE (.int k n) = true := rfl
@[simp] theorem newCells_int (k : IntKind) (n : Int) : PV.newCells (.int k n) = some [.int k n] := rfl
@[simp] theorem blw_int (m : Nat) (k : IntKind) (n : Int) : PV.blw m (.int k n) = true := by simp [PV.blw]
@[simp] theorem flat_int (k : IntKind) (n : Int) : PV.flat (.int k n) = true := by simp [PV.flat]
@[simp] theorem un_bool (b : Bool) : PV.un (.bool b) = .bool b := rfl
@[simp] theorem size_bool (b : Bool) : PV.size (.bool b) = 1 := rfl
@[simp] theorem isAgg_bool (b : Bool) : PV.isAgg (.bool b) = false := rfl
@[simp] theorem one_bool (b : Bool) : PV.one (.bool b) = true := rfl
@[simp] theorem okE_bool (b : Bool) : PV.okE (.bool b) = true := rfl
@[simp] theorem newCells_bool (b : Bool) : PV.newCells (.bool b) = some [.bool b] := rfl
@[simp] theorem blw_bool (m : Nat) (b : Bool) : PV.blw m (.bool b) = true := by simp [PV.blw]
@[simp] theorem flat_bool (b : Bool) : PV.flat (.bool b) = true := by simp [PV.flat]
@[simp] theorem un_str (s : ByteArray) : PV.un (.str s) = .str s := rfl
@[simp] theorem size_str (s : ByteArray) : PV.size (.str s) = 1 := rfl
@[simp] theorem isAgg_str (s : ByteArray) : PV.isAgg (.str s) = false := rfl
@[simp] theorem one_str (s : ByteArray) : PV.one (.str s) = true := rfl
@[simp] theorem okE_str (s : ByteArray) : PV.okE (.str s) = true := rfl
@[simp] theorem newCells_str (s : ByteArray) : PV.newCells (.str s) = some [.str s] := rfl
@[simp] theorem blw_str (m : Nat) (s : ByteArray) : PV.blw m (.str s) = true := by simp [PV.blw]
@[simp] theorem flat_str (s : ByteArray) : PV.flat (.str s) = true := by simp [PV.flat]
@[simp] theorem un_nilp : PV.un (.nilp) = .nilp := rfl
@[simp] theorem size_nilp : PV.size (.nilp) = 1 := rfl
@[simp] theorem isAgg_nilp : PV.isAgg (.nilp) = false := rfl
@[simp] theorem one_nilp : PV.one (.nilp) = true := rfl
@[simp] theorem okE_nilp : PV.okE (.nilp) = true := rfl
@[simp] theorem newCells_nilp : PV.newCells (.nilp) = some [.nilp] := rfl
@[simp] theorem blw_nilp (m : Nat) : PV.blw m (.nilp) = true := by simp [PV.blw]
@[simp] theorem flat_nilp : PV.flat (.nilp) = true := by simp [PV.flat]
@[simp] theorem un_raw (v : Value) : PV.un (.raw v) = .raw v := rfl
@[simp] theorem size_raw (v : Value) : PV.size (.raw v) = 1 := rfl
@[simp] theorem isAgg_raw (v : Value) : PV.isAgg (.raw v) = false := rfl
@[simp] theorem one_raw (v : Value) : PV.one (.raw v) = true := rfl
@[simp] theorem okE_raw (v : Value) : PV.okE (.raw v) = true := rfl
@[simp] theorem newCells_raw (v : Value) : PV.newCells (.raw v) = some [.raw v] := rfl
@[simp] theorem blw_raw (m : Nat) (v : Value) : PV.blw m (.raw v) = true := by simp [PV.blw]
@[simp] theorem flat_raw (v : Value) : PV.flat (.raw v) = true := by simp [PV.flat]
@[simp] theorem un_ptr (i off : Nat) : PV.un (.ptr i off) = .ptr i off := rfl
@[simp] theorem size_ptr (i off : Nat) : PV.size (.ptr i off) = 1 := rfl
@[simp] theorem isAgg_ptr (i off : Nat) : PV.isAgg (.ptr i off) = false := rfl
@[simp] theorem one_ptr (i off : Nat) : PV.one (.ptr i off) = true := rfl
@[simp] theorem okE_ptr (i off : Nat) : PV.okE (.ptr i off) = false := rfl
@[simp] theorem newCells_ptr (i off : Nat) : PV.newCells (.ptr i off) = some [.ptr i off] := rfl
@[simp] theorem blw_ptr (m : Nat) (i off : Nat) : PV.blw m (.ptr i off) = decide (i < m) := by simp [PV.blw]
@[simp] theorem flat_ptr (i off : Nat) : PV.flat (.ptr i off) = false := by simp [PV.flat]
@[simp] theorem un_cst (e : PV) : PV.un (.cst e) = .cst e := rfl
@[simp] theorem size_cst (e : PV) : PV.size (.cst e) = 1 := rfl
@[simp] theorem isAgg_cst (e : PV) : PV.isAgg (.cst e) = false := rfl
@[simp] theorem one_cst (e : PV) : PV.one (.cst e) = true := rfl
@[simp] theorem okE_cst (e : PV) : PV.okE (.cst e) = true := rfl
@[simp] theorem newCells_cst (e : PV) : PV.newCells (.cst e) = some [.cst e] := rfl
@[simp] theorem blw_cst (m : Nat) (e : PV) : PV.blw m (.cst e) = true := by simp [PV.blw]
@[simp] theorem flat_cst (e : PV) : PV.flat (.cst e) = true := by simp [PV.flat]
@[simp] theorem un_sl (o : Bool) (z : Nat) (es : List PV) : PV.un (.sl o z es) = .sl false z es := rfl
@[simp] theorem size_sl (o : Bool) (z : Nat) (es : List PV) : PV.size (.sl o z es) = 1 := rfl
@[simp] theorem isAgg_sl (o : Bool) (z : Nat) (es : List PV) : PV.isAgg (.sl o z es) = false := rfl
@[simp] theorem one_sl (o : Bool) (z : Nat) (es : List PV) : PV.one (.sl o z es) = true := rfl
@[simp] theorem okE_sl (o : Bool) (z : Nat) (es : List PV) : PV.okE (.sl o z es) = true := rfl
@[simp] theorem newCells_sl (o : Bool) (z : Nat) (es : List PV) : PV.newCells (.sl o z es) = some [.sl false z es] := rfl
@[simp] theorem blw_sl (m : Nat) (o : Bool) (z : Nat) (es : List PV) : PV.blw m (.sl o z es) = true := by simp [PV.blw]
@[simp] theorem flat_sl (o : Bool) (z : Nat) (es : List PV) : PV.flat (.sl o z es) = true := by simp [PV.flat]
@[simp] theorem un_slh (i off n z : Nat) : PV.un (.slh i off n z) = .slh i off n z := rfl
@[simp] theorem size_slh (i off n z : Nat) : PV.size (.slh i off n z) = 1 := rfl
@[simp] theorem isAgg_slh (i off n z : Nat) : PV.isAgg (.slh i off n z) = false := rfl
@[simp] theorem one_slh (i off n z : Nat) : PV.one (.slh i off n z) = true := rfl
@[simp] theorem okE_slh (i off n z : Nat) : PV.okE (.slh i off n z) = false := rfl
@[simp] theorem newCells_slh (i off n z : Nat) : PV.newCells (.slh i off n z) = some [.slh i off n z] := rfl
@[simp] theorem blw_slh (m : Nat) (i off n z : Nat) : PV.blw m (.slh i off n z) = decide (i < m) := by simp [PV.blw]
@[simp] theorem flat_slh (i off n z : Nat) : PV.flat (.slh i off n z) = false := by simp [PV.flat]
@[simp] theorem un_func (f : Fn) (a c : List PV) : PV.un (.func f a c) = .func f a c := rfl
@[simp] theorem size_func (f : Fn) (a c : List PV) : PV.size (.func f a c) = 1 := rfl
@[simp] theorem isAgg_func (f : Fn) (a c : List PV) : PV.isAgg (.func f a c) = false := rfl
@[simp] theorem one_func (f : Fn) (a c : List PV) : PV.one (.func f a c) = true := rfl
@[simp] theorem okE_func (f : Fn) (a c : List PV) : PV.okE (.func f a c) = (PV.flats a && PV.flats c) := rfl
@[simp] theorem newCells_func (f : Fn) (a c : List PV) : PV.newCells (.func f a c) = some [.func f a c] := rfl
@[simp] theorem blw_func (m : Nat) (f : Fn) (a c : List PV) : PV.blw m (.func f a c) = (PV.blws m a && PV.blws m c) := by simp [PV.blw]
@[simp] theorem flat_func (f : Fn) (a c : List PV) : PV.flat (.func f a c) = (PV.flats a && PV.flats c) := by simp [PV.flat]
@[simp] theorem un_agg (cs : List PV) : PV.un (.agg cs) = .agg cs := rfl
@[simp] theorem size_agg (cs : List PV) : PV.size (.agg cs) = cs.length := rfl
@[simp] theorem isAgg_agg (cs : List PV) : PV.isAgg (.agg cs) = true := rfl
@[simp] theorem one_agg (cs : List PV) : PV.one (.agg cs) = false := rfl
@[simp] theorem okE_agg (cs : List PV) : PV.okE (.agg cs) = (cs.all PV.one && PV.flats cs) := rfl
@[simp] theorem newCells_agg (cs : List PV) : PV.newCells (.agg cs) = if cs.all PV.one then some (cs.map PV.un) else none := rfl
@[simp] theorem blw_agg (m : Nat) (cs : List PV) : PV.blw m (.agg cs) = PV.blws m cs := by simp [PV.blw]
@[simp] theorem flat_agg (cs : List PV) : PV.flat (.agg cs) = PV.flats cs := by simp [PV.flat]
@[simp] theorem un_tuple (cs : List PV) : PV.un (.tuple cs) = .tuple cs := rfl
@[simp] theorem size_tuple (cs : List PV) : PV.size (.tuple cs) = 1 := rfl
@[simp] theorem isAgg_tuple (cs : List PV) : PV.isAgg (.tuple cs) = false := rfl
@[simp] theorem one_tuple (cs : List PV) : PV.one (.tuple cs) = false := rfl
@[simp] theorem okE_tuple (cs : List PV) : PV.okE (.tuple cs) = false := rfl
@[simp] theorem newCells_tuple (cs : List PV) : PV.newCells (.tuple cs) = none := rfl
@[simp] theorem blw_tuple (m : Nat) (cs : List PV) : PV.blw m (.tuple cs) = PV.blws m cs := by simp [PV.blw]
@[simp] theorem flat_tuple (cs : List PV) : PV.flat (.tuple cs) = PV.flats cs := by simp [PV.flat]
@[simp] theorem blws_nil (m : Nat) : PV.blws m [] = true := rfl
@[simp] theorem blws_cons (m : Nat) (p : PV) (ps : List PV) : PV.blws m (p :: ps) = (p.blw m && PV.blws m ps) := by rw [PV.blws]
@[simp] theorem flats_nil : PV.flats [] = true := rfl
@[simp] theorem flats_cons (p : PV) (ps : List PV) : PV.flats (p :: ps) = (p.flat && PV.flats ps) := by rw [PV.flats]

attribute [simp] ASt.rdT contA blockA ASt.keep stepK guardK stepV ASt.put thenPut sput slots0 sideV partsPV pop popCall ASt.rd ASt.ev sget fillPV elemsPV ofConst zeroPV Value.oneCell' storeV ASt.clr inMv retOK resV loadV subVal subAddr intBin shiftBin strBin boolBin nilBin binPV unPV extPV lenPV convPV minPV maxPV slicePV allSome gcOK ASt.gc blwH isCall gval flatPV
end Go.Proofs.Ytmclnnpaephkpaa

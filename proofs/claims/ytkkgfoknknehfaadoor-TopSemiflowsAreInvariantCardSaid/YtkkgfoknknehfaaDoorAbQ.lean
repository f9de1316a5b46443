/-
  Words for proofs over the abstract evaluator: a contract in a greater heap, loops, calls.
  A contract that knows of some objects only holds where there are more, under other numbers.
-/
import Derived.Test.YtkkgfoknknehfaaDoorAbP
import Derived.IntWalk
namespace Go.Proofs.YtkkgfoknknehfaaDoor
set_option linter.unusedVariables false
set_option linter.unusedSimpArgs false
set_option linter.unnecessarySimpa false
set_option linter.unusedSectionVars false
open Go.RowKit
theorem Ev.frame {P : Program} {g : FuncId} {args : List PV} {r : PV} (h : Ev P g args [] r []) (hr : r.flat = true) (ha : PV.flats args = true) (hh : Objs) : Ev P g args hh r hh := h.frame' hr ha hh
theorem callK_pure {E : AE} {g : FuncId} {args : List PV} {dst : Option Nat} {K : ASt → Prop} {σ : ASt} {r : PV} (h : Ev E.P g args [] r []) (hr : r.flat = true) (ha : PV.flats args = true) (hk : thenPut E dst r σ K) : callK E g args dst K σ := ⟨r, σ.h, h.frame hr ha _, hk⟩
theorem wrap64 {n : Int} (h1 : -9223372036854775808 ≤ n) (h2 : n ≤ 9223372036854775807) : IntKind.i64.wrap n = n := IntWalk.i64_in n ⟨h1, h2⟩
theorem thenPut_mono {E : AE} {dst : Option Nat} {p : PV} {σ : ASt} {K K' : ASt → Prop} (hk : ∀ σ, K σ → K' σ) (h : thenPut E dst p σ K) : thenPut E dst p σ K' := by
 grind [thenPut]
theorem stepK_mono {E : AE} {o : Oper} {σ : ASt} {K K' : ASt → Prop} (hk : ∀ σ, K σ → K' σ) (h : stepK E o K σ) : stepK E o K' σ := by
 grind [stepK, thenPut_mono]
theorem stepN_mono {E : AE} {o : Oper} {σ : ASt} {K K' : ASt → Prop} (hk : ∀ σ, K σ → K' σ) (h : stepN E o K σ) : stepN E o K' σ := by
 rcases h with h | h
 ·exact .inl (stepK_mono hk h)
 ·refine .inr ?_
  unfold nilK at *
  split at h
  ·exact fun b hb => thenPut_mono hk (h b hb)
  omega
theorem awpOp_mono {E : AE} {o : Oper} {σ : ASt} {K K' : ASt → Prop} (hk : ∀ σ, K σ → K' σ) (h : awpOp E o K σ) : awpOp E o K' σ := by
 unfold awpOp at *
 split
 ·rename_i c hc
  simp only [hc] at h
  split
  ·rename_i f hf
   simp only [hf] at h
   split at h
   ·rename_i h1 h2
    obtain ⟨r, h', a, b⟩ := h
    exact ⟨r, h', a, thenPut_mono hk b⟩
   omega
  grind [stepN_mono]
 grind [stepN_mono]
theorem awpOps_mono {E : AE} {ops : Array Oper} {K K' : ASt → Prop} (hk : ∀ σ, K σ → K' σ) : ∀ (l : List Oper) {σ : ASt}, awpOps E ops l K σ → awpOps E ops l K' σ
 | [], σ, h => hk σ h
 | o :: l, σ, h => by
  rw [awpOps] at h ⊢
  split
  ·rename_i hg
   simp only [hg] at h
   exact awpOp_mono (fun σ hσ => awpOps_mono hk l hσ) h
  ·rename_i j want hg
   simp only [hg] at h
   split
   ·rename_i hv
    rw [hv] at h
    exact thenPut_mono (fun σ hσ => awpOps_mono hk l hσ) h
   ·rename_i b hv
    rw [hv] at h
    exact ⟨fun e => awpOp_mono (fun σ hσ => awpOps_mono hk l hσ) (h.1 e), fun e => thenPut_mono (fun σ hσ => awpOps_mono hk l hσ) (h.2 e)⟩
   ·rename_i hv
    rw [hv] at h
    exact h.elim
theorem awpOpD_mono {E : AE} {o : Oper} {σ : ASt} {K K' : ASt → Prop} (hk : ∀ σ, K σ → K' σ) (h : awpOpD E o K σ) : awpOpD E o K' σ := by
 unfold awpOpD at *
 split
 ·rename_i f args hc
  simp only [hc] at h
  split at h
  ·rename_i h1 h2
   rcases h with ⟨r, a, b, c, d⟩ | ⟨hsy, r, h', a, ro, d⟩
   ·exact .inl ⟨r, a, b, c, thenPut_mono hk d⟩
   ·exact .inr ⟨hsy, r, h', a, ro, thenPut_mono hk d⟩
  omega
 grind [stepK_mono]
theorem awpOpsD_mono {E : AE} {ops : Array Oper} {K K' : ASt → Prop} (hk : ∀ σ, K σ → K' σ) : ∀ (l : List Oper) {σ : ASt}, awpOpsD E ops l K σ → awpOpsD E ops l K' σ
 | [], σ, h => hk σ h
 | o :: l, σ, h => by
  rw [awpOpsD] at h ⊢
  split
  ·rename_i hg
   simp only [hg] at h
   exact awpOpD_mono (fun σ hσ => awpOpsD_mono hk l hσ) h
  ·rename_i j want hg
   simp only [hg] at h
   split
   ·rename_i hv
    rw [hv] at h
    exact thenPut_mono (fun σ hσ => awpOpsD_mono hk l hσ) h
   ·rename_i b hv
    rw [hv] at h
    exact ⟨fun e => awpOpD_mono (fun σ hσ => awpOpsD_mono hk l hσ) (h.1 e), fun e => thenPut_mono (fun σ hσ => awpOpsD_mono hk l hσ) (h.2 e)⟩
   ·rename_i hv
    rw [hv] at h
    exact h.elim
theorem awpD_mono {E : AE} {ops : Array Oper} {σ : ASt} {K K' : ASt → Prop} (hk : ∀ σ, K σ → K' σ) (h : awpD E ops K σ) : awpD E ops K' σ := ⟨h.1, awpOpsD_mono hk _ h.2⟩
theorem rounds_mono {m0 : Nat} {b : (AX → ASt → Prop) → ASt → Prop} {Q Q' : AX → ASt → Prop} (hb : ∀ (Q Q' : AX → ASt → Prop) (σ : ASt), (∀ e σ, Q e σ → Q' e σ) → b Q σ → b Q' σ) (hq : ∀ e σ, Q e σ → Q' e σ) : ∀ (k : Nat) (σ : ASt), roundsA m0 b Q k σ → roundsA m0 b Q' k σ
 | 0, _, h => h.elim
 | k + 1, σ, ⟨l, m, h1, h2, h3⟩ => ⟨l, m, h1, h2, hb _ _ _ (fun e σ he => by
  cases e with
  | normal => exact rounds_mono hb hq k σ he
  | ret => exact hq _ _ he
  | exit i => exact hq _ _ he) h3⟩
theorem awp_mono {E : AE} {m0 : Nat} : ∀ (c : Code) {Q Q' : AX → ASt → Prop} {σ : ASt}, (∀ e σ, Q e σ → Q' e σ) → awp E m0 c Q σ → awp E m0 c Q' σ
 | .skip, _, _, _, hq, h => hq _ _ h
 | .label _, _, _, _, hq, h => hq _ _ h
 | .exit _, _, _, _, hq, h => hq _ _ h
 | .ret, _, _, _, hq, h => hq _ _ h
 | .region _ ops draw, _, _, _, hq, h => by
  rw [awp] at h ⊢
  cases draw with
  | false => grind [awpOps_mono]
  | true => simp only [if_true] at h ⊢; exact h.elim (fun h => .inl (awpD_mono (fun σ => hq _ σ) h)) fun h => .inr (AllR_mono (fun σ => hq _ σ) _ h)
 | .seq x y, Q, Q', _, hq, h => by
  rw [awp] at h ⊢
  rcases h with h | h
  rotate_left
  ·exact .inr fun out M B a w hI => wp_mono (h out M B a w hI) fun e a' w' hl => by
    obtain ⟨ax, σ', M', B', h1, h2, h3⟩ := hl
    exact ⟨ax, σ', M', B', h1, hq _ _ h2, h3⟩
  refine .inl (awp_mono x (fun e σ he => ?_) h)
  cases e with
  | normal =>
   obtain ⟨ks, he⟩ := he
   rcases he with he | ⟨l, m, a1, a2, he⟩
   ·exact ⟨ks, .inl (awp_mono y hq he)⟩
   ·exact ⟨ks, .inr ⟨l, m, a1, a2, awp_mono y hq he⟩⟩
  | ret => exact hq _ _ he
  | exit i => exact hq _ _ he
 | .cond c x y, _, _, _, hq, h => by
  rw [awp] at h ⊢
  split
  ·rename_i b hb
   rw [hb] at h
   exact ⟨fun e => awp_mono x hq (h.1 e), fun e => awp_mono y hq (h.2 e)⟩
  ·rename_i hb
   split at h
   ·rename_i b hb'; exact absurd hb' (hb b)
   ·exact h
 | .block id x, _, _, _, hq, h => by
  rw [awp] at h ⊢
  refine awp_mono x (fun e σ he => ?_) h
  cases e with
  | normal => exact hq _ _ he
  | ret => exact hq _ _ he
  | exit i =>
   grind [blockA]
 | .loop x, _, _, _, hq, h => by
  rw [awp] at h ⊢
  obtain ⟨k, hk⟩ := h
  exact ⟨k, rounds_mono (b := awp E m0 x) (fun _ _ _ hq hb => awp_mono x hq hb) hq k _ hk⟩
 | .scope x, _, _, _, hq, h => by rw [awp] at h ⊢; exact awp_mono x hq h
 | .rangeFunc .., _, _, _, _, h => by rw [awp] at h; exact h.elim
 | .goto _, _, _, _, _, h => by rw [awp] at h; exact h.elim
 | .refuse _, _, _, _, _, h => by rw [awp] at h; exact h.elim
theorem callKD_pure {E : AE} {g : FuncId} {args : List PV} {dst : Option Nat} {K : ASt → Prop} {σ : ASt} {r : PV} (h : Ev E.P g args [] r []) (hr : r.flat = true) (ha : PV.flats args = true) (hk : thenPut E dst r σ K) : callKD E g args dst K σ := .inl ⟨r, h, hr, ha, hk⟩
section
variable {E : AE} {m0 : Nat} {Q : AX → ASt → Prop} {σ : ASt}
end
section
variable {E : AE} {ops : Array Oper} {l : List Oper} {Q : ASt → Prop} {σ : ASt} {o : Oper}
@[simp] theorem awpOps_nil : awpOps E ops [] Q σ = Q σ := rfl
@[simp] theorem awpOpsD_nil : awpOpsD E ops [] Q σ = Q σ := rfl
theorem awpOp_step (hc : isCall o = none) : awpOp E o Q σ = stepN E o Q σ := by
 grind [awpOp]
@[simp] theorem awpOpsD_step (hc : isCall o = none) (hg : o.guard = none) : awpOpsD E ops (o :: l) Q σ = stepK E o (awpOpsD E ops l Q) σ := by
 rw [awpOpsD, hg]; simp only [awpOpD, hc]
end
@[simp] theorem un_int (k : IntKind) (n : Int) : PV.un (.int k n) = .int k n := rfl
@[simp] theorem size_int (k : IntKind) (n : Int) : PV.size (.int k n) = 1 := rfl
@[simp] theorem isAgg_int (k : IntKind) (n : Int) : PV.isAgg (.int k n) = false := rfl
@[simp] theorem one_int (k : IntKind) (n : Int) : PV.one (.int k n) = true := rfl
@[simp] theorem okE_int (k : IntKind) (n : Int) : PV.okE (.int k n) = true := rfl
@[simp] theorem newCells_int (k : IntKind) (n : Int) : PV.newCells (.int k n) = some [.int k n] := rfl
@[simp] theorem blw_int (m : Nat) (k : IntKind) (n : Int) : PV.blw m (.int k n) = true := by rfl
@[simp] theorem flat_int (k : IntKind) (n : Int) : PV.flat (.int k n) = true := by rfl
@[simp] theorem un_bool (b : Bool) : PV.un (.bool b) = .bool b := rfl
@[simp] theorem size_bool (b : Bool) : PV.size (.bool b) = 1 := rfl
@[simp] theorem isAgg_bool (b : Bool) : PV.isAgg (.bool b) = false := rfl
@[simp] theorem one_bool (b : Bool) : PV.one (.bool b) = true := rfl
@[simp] theorem okE_bool (b : Bool) : PV.okE (.bool b) = true := rfl
@[simp] theorem newCells_bool (b : Bool) : PV.newCells (.bool b) = some [.bool b] := rfl
@[simp] theorem blw_bool (m : Nat) (b : Bool) : PV.blw m (.bool b) = true := by rfl
@[simp] theorem flat_bool (b : Bool) : PV.flat (.bool b) = true := by rfl
@[simp] theorem un_str (s : ByteArray) : PV.un (.str s) = .str s := rfl
@[simp] theorem size_str (s : ByteArray) : PV.size (.str s) = 1 := rfl
@[simp] theorem isAgg_str (s : ByteArray) : PV.isAgg (.str s) = false := rfl
@[simp] theorem one_str (s : ByteArray) : PV.one (.str s) = true := rfl
@[simp] theorem okE_str (s : ByteArray) : PV.okE (.str s) = true := rfl
@[simp] theorem newCells_str (s : ByteArray) : PV.newCells (.str s) = some [.str s] := rfl
@[simp] theorem blw_str (m : Nat) (s : ByteArray) : PV.blw m (.str s) = true := by rfl
@[simp] theorem flat_str (s : ByteArray) : PV.flat (.str s) = true := by rfl
@[simp] theorem un_nilp : PV.un (.nilp) = .nilp := rfl
@[simp] theorem size_nilp : PV.size (.nilp) = 1 := rfl
@[simp] theorem isAgg_nilp : PV.isAgg (.nilp) = false := rfl
@[simp] theorem one_nilp : PV.one (.nilp) = true := rfl
@[simp] theorem okE_nilp : PV.okE (.nilp) = true := rfl
@[simp] theorem newCells_nilp : PV.newCells (.nilp) = some [.nilp] := rfl
@[simp] theorem blw_nilp (m : Nat) : PV.blw m (.nilp) = true := by rfl
@[simp] theorem flat_nilp : PV.flat (.nilp) = true := by rfl
@[simp] theorem un_raw (v : Value) : PV.un (.raw v) = .raw v := rfl
@[simp] theorem size_raw (v : Value) : PV.size (.raw v) = 1 := rfl
@[simp] theorem isAgg_raw (v : Value) : PV.isAgg (.raw v) = false := rfl
@[simp] theorem one_raw (v : Value) : PV.one (.raw v) = true := rfl
@[simp] theorem okE_raw (v : Value) : PV.okE (.raw v) = true := rfl
@[simp] theorem newCells_raw (v : Value) : PV.newCells (.raw v) = some [.raw v] := rfl
@[simp] theorem blw_raw (m : Nat) (v : Value) : PV.blw m (.raw v) = true := by rfl
@[simp] theorem flat_raw (v : Value) : PV.flat (.raw v) = true := by rfl
@[simp] theorem un_ptr (i off : Nat) : PV.un (.ptr i off) = .ptr i off := rfl
@[simp] theorem size_ptr (i off : Nat) : PV.size (.ptr i off) = 1 := rfl
@[simp] theorem isAgg_ptr (i off : Nat) : PV.isAgg (.ptr i off) = false := rfl
@[simp] theorem one_ptr (i off : Nat) : PV.one (.ptr i off) = true := rfl
@[simp] theorem okE_ptr (i off : Nat) : PV.okE (.ptr i off) = false := rfl
@[simp] theorem newCells_ptr (i off : Nat) : PV.newCells (.ptr i off) = some [.ptr i off] := rfl
@[simp] theorem blw_ptr (m : Nat) (i off : Nat) : PV.blw m (.ptr i off) = decide (i < m) := by rfl
@[simp] theorem flat_ptr (i off : Nat) : PV.flat (.ptr i off) = false := by rfl
@[simp] theorem un_cst (e : PV) : PV.un (.cst e) = .cst e := rfl
@[simp] theorem size_cst (e : PV) : PV.size (.cst e) = 1 := rfl
@[simp] theorem isAgg_cst (e : PV) : PV.isAgg (.cst e) = false := rfl
@[simp] theorem one_cst (e : PV) : PV.one (.cst e) = true := rfl
@[simp] theorem okE_cst (e : PV) : PV.okE (.cst e) = true := rfl
@[simp] theorem newCells_cst (e : PV) : PV.newCells (.cst e) = some [.cst e] := rfl
@[simp] theorem blw_cst (m : Nat) (e : PV) : PV.blw m (.cst e) = true := by rfl
@[simp] theorem flat_cst (e : PV) : PV.flat (.cst e) = true := by rfl
@[simp] theorem un_sl (o : Bool) (z : Nat) (es : List PV) : PV.un (.sl o z es) = .sl false z es := rfl
@[simp] theorem size_sl (o : Bool) (z : Nat) (es : List PV) : PV.size (.sl o z es) = 1 := rfl
@[simp] theorem isAgg_sl (o : Bool) (z : Nat) (es : List PV) : PV.isAgg (.sl o z es) = false := rfl
@[simp] theorem one_sl (o : Bool) (z : Nat) (es : List PV) : PV.one (.sl o z es) = true := rfl
@[simp] theorem okE_sl (o : Bool) (z : Nat) (es : List PV) : PV.okE (.sl o z es) = true := rfl
@[simp] theorem newCells_sl (o : Bool) (z : Nat) (es : List PV) : PV.newCells (.sl o z es) = some [.sl false z es] := rfl
@[simp] theorem blw_sl (m : Nat) (o : Bool) (z : Nat) (es : List PV) : PV.blw m (.sl o z es) = true := by rfl
@[simp] theorem flat_sl (o : Bool) (z : Nat) (es : List PV) : PV.flat (.sl o z es) = true := by rfl
@[simp] theorem un_slh (i off n z : Nat) : PV.un (.slh i off n z) = .slh i off n z := rfl
@[simp] theorem size_slh (i off n z : Nat) : PV.size (.slh i off n z) = 1 := rfl
@[simp] theorem isAgg_slh (i off n z : Nat) : PV.isAgg (.slh i off n z) = false := rfl
@[simp] theorem one_slh (i off n z : Nat) : PV.one (.slh i off n z) = true := rfl
@[simp] theorem okE_slh (i off n z : Nat) : PV.okE (.slh i off n z) = false := rfl
@[simp] theorem newCells_slh (i off n z : Nat) : PV.newCells (.slh i off n z) = some [.slh i off n z] := rfl
@[simp] theorem blw_slh (m : Nat) (i off n z : Nat) : PV.blw m (.slh i off n z) = decide (i < m) := by rfl
@[simp] theorem flat_slh (i off n z : Nat) : PV.flat (.slh i off n z) = false := by rfl
@[simp] theorem un_func (f : Fn) (a c : List PV) : PV.un (.func f a c) = .func f a c := rfl
@[simp] theorem size_func (f : Fn) (a c : List PV) : PV.size (.func f a c) = 1 := rfl
@[simp] theorem isAgg_func (f : Fn) (a c : List PV) : PV.isAgg (.func f a c) = false := rfl
@[simp] theorem one_func (f : Fn) (a c : List PV) : PV.one (.func f a c) = true := rfl
@[simp] theorem okE_func (f : Fn) (a c : List PV) : PV.okE (.func f a c) = (PV.flats a && PV.flats c) := rfl
@[simp] theorem newCells_func (f : Fn) (a c : List PV) : PV.newCells (.func f a c) = some [.func f a c] := rfl
@[simp] theorem blw_func (m : Nat) (f : Fn) (a c : List PV) : PV.blw m (.func f a c) = (PV.blws m a && PV.blws m c) := by rfl
@[simp] theorem flat_func (f : Fn) (a c : List PV) : PV.flat (.func f a c) = (PV.flats a && PV.flats c) := by rfl
@[simp] theorem un_agg (cs : List PV) : PV.un (.agg cs) = .agg cs := rfl
@[simp] theorem size_agg (cs : List PV) : PV.size (.agg cs) = cs.length := rfl
@[simp] theorem isAgg_agg (cs : List PV) : PV.isAgg (.agg cs) = true := rfl
@[simp] theorem one_agg (cs : List PV) : PV.one (.agg cs) = false := rfl
@[simp] theorem okE_agg (cs : List PV) : PV.okE (.agg cs) = (cs.all PV.one && PV.flats cs) := rfl
@[simp] theorem newCells_agg (cs : List PV) : PV.newCells (.agg cs) = if cs.all PV.one then some (cs.map PV.un) else none := rfl
@[simp] theorem blw_agg (m : Nat) (cs : List PV) : PV.blw m (.agg cs) = PV.blws m cs := by rfl
@[simp] theorem flat_agg (cs : List PV) : PV.flat (.agg cs) = PV.flats cs := by rfl
@[simp] theorem un_tuple (cs : List PV) : PV.un (.tuple cs) = .tuple cs := rfl
@[simp] theorem size_tuple (cs : List PV) : PV.size (.tuple cs) = 1 := rfl
@[simp] theorem isAgg_tuple (cs : List PV) : PV.isAgg (.tuple cs) = false := rfl
@[simp] theorem one_tuple (cs : List PV) : PV.one (.tuple cs) = false := rfl
@[simp] theorem okE_tuple (cs : List PV) : PV.okE (.tuple cs) = false := rfl
@[simp] theorem newCells_tuple (cs : List PV) : PV.newCells (.tuple cs) = none := rfl
@[simp] theorem blw_tuple (m : Nat) (cs : List PV) : PV.blw m (.tuple cs) = PV.blws m cs := by rfl
@[simp] theorem flat_tuple (cs : List PV) : PV.flat (.tuple cs) = PV.flats cs := by rfl
@[simp] theorem blws_nil (m : Nat) : PV.blws m [] = true := rfl
@[simp] theorem blws_cons (m : Nat) (p : PV) (ps : List PV) : PV.blws m (p :: ps) = (p.blw m && PV.blws m ps) := by rw [PV.blws]
@[simp] theorem flats_nil : PV.flats [] = true := rfl
@[simp] theorem flats_cons (p : PV) (ps : List PV) : PV.flats (p :: ps) = (p.flat && PV.flats ps) := by rw [PV.flats]
attribute [simp] ASt.rdT contA blockA ASt.keep stepK stepV ASt.put thenPut sput slots0 sideV partsPV pop popCall ASt.rd ASt.ev sget fillPV elemsPV ofConst zeroPV Value.oneCell' storeV ASt.clr inMv retOK resV loadV subVal subAddr intBin shiftBin strBin boolBin nilBin binPV unPV extPV lenPV convPV minPV maxPV slicePV allSome gcOK ASt.gc blwH isCall gval flatPV
end Go.Proofs.YtkkgfoknknehfaaDoor
namespace Go.Proofs.YtkkgfoknknehfaaDoor
set_option linter.unusedVariables false
set_option linter.unusedSimpArgs false
set_option linter.unnecessarySimpa false
set_option linter.unusedSectionVars false
open Go.RowKit
mutual
def renP (f : Nat → Nat) : PV → PV
 | .ptr i o => .ptr (f i) o
 | .bld T i => .bld T (f i)
 | .slh i o n z => .slh (f i) o n z
 | .func fn a c => .func fn (renL f a) (renL f c)
 | .agg cs => .agg (renL f cs)
 | .tuple cs => .tuple (renL f cs)
 | .int k n => .int k n
 | .bool b => .bool b
 | .str s => .str s
 | .nilp => .nilp
 | .raw v => .raw v
 | .cst e => .cst e
 | .slT l => .slT l
 | .slp o n z cs => .slp o n z cs
 | .mp l => .mp l
 | .sl o z es => .sl o z es
def renL (f : Nat → Nat) : List PV → List PV
 | [] => []
 | p :: ps => renP f p :: renL f ps
end
mutual
def PV.allI (D : Nat → Bool) : PV → Bool
 | .ptr i _ => D i
 | .bld _ i => D i
 | .slh i _ _ _ => D i
 | .func _ a c => PV.allIL D a && PV.allIL D c
 | .agg cs => PV.allIL D cs
 | .tuple cs => PV.allIL D cs
 | _ => true
def PV.allIL (D : Nat → Bool) : List PV → Bool
 | [] => true
 | p :: ps => p.allI D && PV.allIL D ps
end
def renO (f : Nat → Nat) : Option (List PV) → Option (List PV)
 | some cs => some (renL f cs)
 | none => none
def posI : List Nat → Nat → Nat
 | [], _ => 0
 | j :: l, i => bif Nat.beq j i then 0 else posI l i + 1
def inI : List Nat → Nat → Bool
 | [], _ => false
 | j :: l, i => Nat.beq j i || inI l i
def backI (ids : List Nat) (n m : Nat) : Nat := match ids[m]? with | some i => i | none => n + (m - ids.length)
def setIds : List Nat → Objs → Objs → Objs
 | i :: is, o :: os, H => setIds is os (H.set i o)
 | _, _, H => H
def nodupB : List Nat → Bool
 | [] => true
 | i :: l => !(inI l i) && nodupB l
def getO (H : Objs) (i : Nat) : Option (List PV) := match H[i]? with | some o => o | none => none
def bigH (ids : List Nat) (H h' : Objs) : Objs := setIds ids ((h'.take ids.length).map (renO (backI ids H.length))) H ++ (h'.drop ids.length).map (renO (backI ids H.length))
theorem inI_iff {l : List Nat} {i : Nat} : inI l i = true ↔ i ∈ l := by
 induction l with
 | nil => simp [inI]
 | cons j l ih =>
  rw [inI, Bool.or_eq_true, ih, List.mem_cons]
  constructor
  grind [Nat.eq_of_beq_eq_true]
  ·rintro (h | h)
   simp_all
   simp_all
theorem posI_get {l : List Nat} {i : Nat} (h : i ∈ l) : l[posI l i]? = some i := by
 induction l with
 | nil => simp at h
 | cons j l ih =>
  rw [posI]
  cases hb : Nat.beq j i with
  | true => have := Nat.eq_of_beq_eq_true hb; simp_all
  | false =>
   have hne : j ≠ i := fun e => by simp_all
   grind
section
variable {M : Mem} {B B' : Blk} {w w' : World}
mutual
theorem rep_ren' {f : Nat → Nat} {D : Nat → Bool} (hf : ∀ i c, D i = true → B[i]? = some c → B'[f i]? = some c) : ∀ p : PV, p.allI D = true → ∀ v, (sem M B p).1 v → (sem M B' (renP f p)).1 v
 | .int _ _, _, v, h => by simpa only [renP, sem] using h
 | .bool _, _, v, h => by simpa only [renP, sem] using h
 | .str _, _, v, h => by simpa only [renP, sem] using h
 | .nilp, _, v, h => by simpa only [renP, sem] using h
 | .raw _, _, v, h => by simpa only [renP, sem] using h
 | .cst _, _, v, h => by simpa only [renP, sem] using h
 | .sl _ _ _, _, v, h => by simpa only [renP, sem] using h
 | .slT _, _, v, h => by simpa only [renP, sem] using h
 | .slp _ _ _ _, _, v, h => by simpa only [renP, sem] using h
 | .mp _, _, v, h => by simpa only [renP, sem] using h
 | .ptr i o, hd, v, h => by
  simp only [sem, liftP] at h
  simp only [renP, sem, liftP]
  obtain ⟨c, hc, e⟩ := h
  exact ⟨c, ⟨hf i c (by simpa only [PV.allI] using hd) hc.1, hc.2⟩, e⟩
 | .bld T i, hd, v, h => by
  simp only [sem, liftP] at h
  simp only [renP, sem, liftP]
  obtain ⟨c, hc, e⟩ := h
  exact ⟨c, hf i c (by simpa only [PV.allI] using hd) hc, e⟩
 | .slh i o n z, hd, v, h => by
  simp only [sem, liftP] at h
  simp only [renP, sem, liftP]
  obtain ⟨c, cap, hc, e⟩ := h
  exact ⟨c, cap, ⟨hf i c (by simpa only [PV.allI] using hd) hc.1, hc.2⟩, e⟩
 | .func fn a c, hd, v, h => by
  simp only [PV.allI, Bool.and_eq_true] at hd
  simp only [sem, liftP] at h
  simp only [renP, sem, liftP]
  obtain ⟨x, y, e, h1, h2⟩ := h
  exact ⟨x, y, e, reps_ren' hf a hd.1 _ h1, reps_ren' hf c hd.2 _ h2⟩
 | .agg cs, hd, v, h => by
  simp only [sem] at h
  simp only [renP, sem]
  obtain ⟨vs, e, h1⟩ := h
  exact ⟨vs, e, reps_ren' hf cs (by simpa only [PV.allI] using hd) _ h1⟩
 | .tuple cs, hd, v, h => by
  simp only [sem] at h
  simp only [renP, sem]
  obtain ⟨vs, e, h1⟩ := h
  exact ⟨vs, e, reps_ren' hf cs (by simpa only [PV.allI] using hd) _ h1⟩
theorem reps_ren' {f : Nat → Nat} {D : Nat → Bool} (hf : ∀ i c, D i = true → B[i]? = some c → B'[f i]? = some c) : ∀ ps : List PV, PV.allIL D ps = true → ∀ vs, AllP (sems M B ps) vs → AllP (sems M B' (renL f ps)) vs
 | [], _, vs, h => by simpa only [renL, sems] using h
 | p :: ps, hd, vs, h => by
  simp only [PV.allIL, Bool.and_eq_true] at hd
  cases vs with
  | nil => simp [sems, AllP] at h
  | cons v vs =>
   simp only [sems, AllP] at h
   simp only [renL, sems, AllP]
   exact ⟨rep_ren' hf p hd.1 v h.1, reps_ren' hf ps hd.2 vs h.2⟩
end
theorem rep_ren {f : Nat → Nat} {D : Nat → Bool} (hf : ∀ i c, D i = true → B[i]? = some c → B'[f i]? = some c) {p : PV} (hd : p.allI D = true) {v : Value} (h : Rep M B p v) : Rep M B' (renP f p) v := rep_ren' hf p hd v h
theorem reps_ren {f : Nat → Nat} {D : Nat → Bool} (hf : ∀ i c, D i = true → B[i]? = some c → B'[f i]? = some c) {ps : List PV} (hd : PV.allIL D ps = true) {vs : List Value} (h : Reps M B ps vs) : Reps M B' (renL f ps) vs := reps_ren' hf ps hd vs h
mutual
theorem allI_true : ∀ p : PV, p.allI (fun _ => true) = true
 | .func _ a c => by simp only [PV.allI, allIL_true a, allIL_true c, Bool.and_self]
 | .agg cs => by simp only [PV.allI, allIL_true cs]
 | .tuple cs => by simp only [PV.allI, allIL_true cs]
 | .ptr _ _ => rfl
 | .bld _ _ => rfl
 | .slh _ _ _ _ => rfl
 | .int _ _ => rfl
 | .bool _ => rfl
 | .str _ => rfl
 | .nilp => rfl
 | .raw _ => rfl
 | .cst _ => rfl
 | .sl _ _ _ => rfl
 | .slT _ => rfl
 | .slp _ _ _ _ => rfl
 | .mp _ => rfl
theorem allIL_true : ∀ ps : List PV, PV.allIL (fun _ => true) ps = true
 | [] => rfl
 | p :: ps => by simp only [PV.allIL, allI_true p, allIL_true ps, Bool.and_self]
end
theorem ren_own (f : Nat → Nat) (p : PV) : (renP f p).own = p.own := by cases p <;> rfl
theorem ownV_ren (f : Nat → Nat) (p : PV) (v : Value) (b : Nat) : ownV (renP f p) v b = ownV p v b := by unfold ownV; rw [ren_own]
theorem tl_ren {f : Nat → Nat} {p : PV} {v : Value} (h : Tl M w p v) : Tl M w (renP f p) v := by
 cases p <;> first | exact h | exact tl_no rfl
theorem renL_get {f : Nat → Nat} : ∀ {ps : List PV} {j : Nat}, (renL f ps)[j]? = (ps[j]?).map (renP f)
 | [], j => by simp [renL]
 | p :: ps, 0 => by simp [renL]
 | p :: ps, j + 1 => by rw [renL, List.getElem?_cons_succ, List.getElem?_cons_succ]; exact renL_get
theorem renL_length {f : Nat → Nat} : ∀ ps : List PV, (renL f ps).length = ps.length
 | [] => rfl
 | p :: ps => by simp [renL, renL_length ps]
theorem ownC_ren {f : Nat → Nat} {b : Nat} : ∀ (cs : List PV) (vs : List Value), ownC (renL f cs) vs b = ownC cs vs b
 | [], _ => by rfl
 | p :: ps, [] => by rfl
 | p :: ps, v :: vs => by rw [renL, ownC, ownC, ownV_ren, ownC_ren ps vs]
theorem ownH_ren {f : Nat → Nat} {b : Nat} : ∀ (h : Objs) (B : Blk), ownH w (h.map (renO f)) B b = ownH w h B b
 | [], _ => by simp [ownH]
 | some cs :: h, [] => by rfl
 | none :: h, [] => by rfl
 | some cs :: h, c :: B => by simp only [List.map_cons, renO, ownH, ownC_ren, ownH_ren h B]
 | none :: h, c :: B => by simp only [List.map_cons, renO, ownH, ownH_ren h B]
def o1 (w : World) (b : Nat) (o : Option (List PV)) (c : Nat × Nat × TypeId) : Nat := match o with | some cs => (if c.1 = b then 1 else 0) + ownC cs (cellsAt w c.1) b | none => 0
theorem ownH_cons (o : Option (List PV)) (h : Objs) (c : Nat × Nat × TypeId) (B : Blk) (b : Nat) : ownH w (o :: h) (c :: B) b = o1 w b o c + ownH w h B b := by
 cases o with
 | none => grind [ownH, o1]
 | some cs => rfl
theorem ownH_set {b : Nat} {o : Option (List PV)} : ∀ {H : Objs} {B : Blk} {i : Nat} {old : Option (List PV)} {c : Nat × Nat × TypeId}, H[i]? = some old → B[i]? = some c → ownH w (H.set i o) B b + o1 w b old c = ownH w H B b + o1 w b o c
 | [], _, _, _, _, h, _ => by simp at h
 | _ :: _, [], _, _, _, _, h => by simp at h
 | x :: H, d :: B, 0, old, c, h1, h2 => by
  grind [ownH_cons]
 | x :: H, d :: B, i + 1, old, c, h1, h2 => by
  have := ownH_set (b := b) (o := o) (H := H) (B := B) (i := i) (by simpa using h1) (by simpa using h2)
  rw [List.set_cons_succ, ownH_cons, ownH_cons]; omega
theorem ownH_app {b : Nat} : ∀ {h k : Objs} {B C : Blk}, h.length = B.length → ownH w (h ++ k) (B ++ C) b = ownH w h B b + ownH w k C b
 | [], k, [], C, _ => by simp [ownH]
 | o :: h, k, c :: B, C, e => by
  rw [List.cons_append, List.cons_append, ownH_cons, ownH_cons, ownH_app (by grind)]; omega
 | [], _, _ :: _, _, e => by simp at e
 | _ :: _, _, [], _, e => by simp at e
theorem setIds_length : ∀ (is : List Nat) (os H : Objs), (setIds is os H).length = H.length
 | [], os, H => by cases os <;> rfl
 | i :: is, [], H => rfl
 | i :: is, o :: os, H => by rw [setIds, setIds_length]; simp
theorem setIds_not {i : Nat} : ∀ {is : List Nat} {os H : Objs}, i ∉ is → (setIds is os H)[i]? = H[i]?
 | [], os, H, _ => by cases os <;> rfl
 | j :: is, [], H, _ => rfl
 | j :: is, o :: os, H, h => by
  rw [setIds, setIds_not (fun e => h (by simp [e])), List.getElem?_set_ne (fun e => h (by simp [e]))]
theorem setIds_in : ∀ {is : List Nat} {os H : Objs} {j i : Nat} {o : Option (List PV)}, is.Nodup → is[j]? = some i → os[j]? = some o → i < H.length → (setIds is os H)[i]? = some o
 | [], _, _, _, _, _, _, h, _, _ => by simp at h
 | _ :: _, [], _, _, _, _, _, _, h, _ => by simp at h
 | k :: is, q :: os, H, 0, i, o, hn, h1, h2, hi => by
  grind [setIds, setIds_not]
 | k :: is, q :: os, H, j + 1, i, o, hn, h1, h2, hi => by
  rw [setIds]; exact setIds_in (List.nodup_cons.1 hn).2 (by simpa using h1) (by simpa using h2) (by simpa using hi)
theorem setIds_own {b : Nat} : ∀ {is : List Nat} {os H : Objs}, is.Nodup → os.length = is.length → (∀ i, i ∈ is → i < H.length ∧ i < B.length) →
 ownH w (setIds is os H) B b + ownH w (is.map (getO H)) (is.map fun i => B.getD i (0, 0, 0)) b = ownH w H B b + ownH w os (is.map fun i => B.getD i (0, 0, 0)) b
 | [], [], H, _, _, _ => by rfl
 | [], _ :: _, _, _, h, _ => by simp at h
 | _ :: _, [], _, _, h, _ => by simp at h
 | i :: is, o :: os, H, hn, hl, hb => by
  obtain ⟨hn1, hn2⟩ := List.nodup_cons.1 hn
  obtain ⟨b1, b2⟩ := hb i (by simp)
  have ih := setIds_own (b := b) (is := is) (os := os) (H := H.set i o) hn2 (by simpa using hl) fun j hj => by simpa using hb j (by simp [hj])
  have e1 : is.map (getO (H.set i o)) = is.map (getO H) := List.map_congr_left fun j hj => by
   unfold getO; rw [List.getElem?_set_ne (fun e => hn1 (by rw [e]; exact hj))]
  rw [e1] at ih
  have hB : B[i]? = some (B.getD i (0, 0, 0)) := by rw [List.getD_eq_getElem?_getD, List.getElem?_eq_getElem b2]; rfl
  have hH : H[i]? = some (getO H i) := by unfold getO; rw [List.getElem?_eq_getElem b1]
  have e2 := ownH_set (w := w) (b := b) (o := o) hH hB
  rw [setIds, List.map_cons, List.map_cons, ownH_cons, ownH_cons]
  omega
theorem nodupB_iff {l : List Nat} (h : nodupB l = true) : l.Nodup := by
 induction l with
 | nil => simp
 | cons i l ih =>
  simp only [nodupB, Bool.and_eq_true, Bool.not_eq_true'] at h
  refine List.nodup_cons.2 ⟨fun hm => ?_, ih h.2⟩
  rw [inI_iff.2 hm] at h; simp_all
theorem getO_some {H : Objs} {i : Nat} {cs : List PV} : getO H i = some cs ↔ H[i]? = some (some cs) := by
 grind [getO]
end
theorem EvG.sub {P : Program} {cp : CP} (hm : CPmono cp) {g : FuncId} {ids : List Nat} {H : Objs} {big : List PV} {r : PV} {h' : Objs}
 (k : EvG P cp g (renL (posI ids) big) ((ids.map (getO H)).map (renO (posI ids))) r h') (hnd : nodupB ids = true) (hlt : ∀ i, i ∈ ids → i < H.length)
 (hbig : PV.allIL (inI ids) big = true) (hcs : ∀ i cs, i ∈ ids → H[i]? = some (some cs) → PV.allIL (inI ids) cs = true) : EvG P cp g big H (renP (backI ids H.length) r) (bigH ids H h') := by
 have hnd := nodupB_iff hnd
 refine ⟨k.1, fun out M B w vals hmem hheap hcnt hnew hv => ?_⟩
 have hBH : H.length = B.length := hheap.1
 let Bs : Blk := ids.map fun i => B.getD i (0, 0, 0)
 let Hc : Objs := setIds ids (ids.map fun _ => none) H
 have hBi : ∀ i, i ∈ ids → B[i]? = some (B.getD i (0, 0, 0)) := fun i hi => by
  rw [List.getD_eq_getElem?_getD, List.getElem?_eq_getElem (by rw [← hBH]; grind)]; rfl
 have hin : ∀ i, i ∈ ids → i < H.length ∧ i < B.length := fun i hi => ⟨hlt i hi, by rw [← hBH]; grind⟩
 have hpos : ∀ i c, inI ids i = true → B[i]? = some c → Bs[posI ids i]? = some c := fun i c hi hc => by
  have hm := inI_iff.1 hi
  grind [posI_get]
 have hnone : ∀ (l : List Nat) (C : Blk) (w : World) b, ownH w (l.map fun _ => (none : Option (List PV))) C b = 0 := by
  intro l
  induction l with
  | nil => grind [ownH]
  | cons i l ih => intro C w b; cases C with
   | nil => simp [ownH]
   | cons c C => rw [List.map_cons, ownH_cons, ih]; simp [o1]
 have hsum : ∀ (w : World) (os : Objs), os.length = ids.length → ∀ b, ownH w (setIds ids os H) B b = ownH w Hc B b + ownH w os Bs b := fun w os hl b => by
  have e1 := setIds_own (w := w) (b := b) (is := ids) (os := os) hnd hl hin
  have e2 := setIds_own (w := w) (b := b) (is := ids) (os := ids.map fun _ => none) hnd (by simp) hin
  rw [hnone] at e2
  grind
 have hs1 : ∀ b, ownH w Hc B b + ownH w ((ids.map (getO H)).map (renO (posI ids))) Bs b = ownH w H B b := fun b => by
  have e2 := setIds_own (w := w) (b := b) (is := ids) (os := ids.map fun _ => none) hnd (by simp) hin
  rw [hnone] at e2
  rw [ownH_ren]
  omega
 have hheapS : HeapOK M Bs w ((ids.map (getO H)).map (renO (posI ids))) := by
  refine ⟨by simp [Bs], fun j cs' hj => ?_⟩
  rw [List.getElem?_map, List.getElem?_map] at hj
  cases hi : ids[j]? with
  | none => simp_all
  | some i =>
   have hm : i ∈ ids := List.mem_of_getElem? hi
   cases ho : getO H i with
   | none => grind [renO]
   | some cs =>
    simp [hi, ho, renO] at hj; subst hj
    have hHi := getO_some.1 ho
    obtain ⟨c, hc, vs, ty, h1, h2, h3, h4, h5⟩ := hheap.2 i cs hHi
    refine ⟨c, by grind, vs, ty, h1, h2, by rw [renL_length]; exact h3, fun l p hp => ?_, h5⟩
    rw [renL_get] at hp
    cases hq : cs[l]? with
    | none => simp_all
    | some q =>
     simp [hq] at hp; subst hp
     obtain ⟨u, a1, a2, a3, a4⟩ := h4 l q hq
     have hd : q.allI (inI ids) = true := by
      have := hcs i cs hm hHi
      have key : ∀ (cs : List PV) (l : Nat), PV.allIL (inI ids) cs = true → cs[l]? = some q → q.allI (inI ids) = true := by
       intro cs
       induction cs with
       | nil => simp
       | cons c cs ih =>
        grind [PV.allIL]
      grind
     grind [rep_ren, tl_ren]
 refine hm (k.2 (fun b => out b + ownH w Hc B b) M Bs w vals hmem hheapS (fun b => by have := hs1 b; have := hcnt b; omega) (fun b hb => by have := hs1 b; have := hnew b hb; omega) (reps_ren hpos hbig hv)) fun e w' he => ?_
 obtain ⟨v, M', Bs', rfl, hP⟩ := he
 have hBsl : Bs.length = ids.length := by simp [Bs]
 have hBs' : ∀ (m : Nat) c, Bs[m]? = some c → Bs'[m]? = some c := hP.le.blk
 have hl' : h'.length = Bs'.length := hP.heap.1
 have hk : ids.length ≤ Bs'.length := by
  rcases Nat.eq_zero_or_pos ids.length with h0 | h0
  ·omega
  ·have : Bs[ids.length - 1]? = some Bs[ids.length - 1] := List.getElem?_eq_getElem (by omega)
   have := (List.getElem?_eq_some_iff.1 (hBs' _ _ this)).1
   omega
 have htake : Bs'.take ids.length = Bs := by
  apply List.ext_getElem?
  grind
 let B' : Blk := B ++ Bs'.drop ids.length
 have hback : ∀ m c, (fun _ => true) m = true → Bs'[m]? = some c → B'[backI ids H.length m]? = some c := fun m c _ hc => by
  unfold backI
  grind
 have hlt' : ∀ b, 1 ≤ ownH w Hc B b → b < w.heap.size ∧ ownH w ((ids.map (getO H)).map (renO (posI ids))) Bs b = 0 := fun b hb => by
  have h1 := hs1 b
  have h2 := hcnt b
  grind
 have hun : ∀ b, 1 ≤ ownH w Hc B b → w'.heap[b]? = w.heap[b]? ∧ ∀ o, M' b o = M b o := fun b hb => hP.fr.blk b (hlt' b hb).1 (hlt' b hb).2
 have hobj : ∀ (i : Nat) cs c, Hc[i]? = some (some cs) → B[i]? = some c → 1 ≤ ownH w Hc B c.1 := fun i cs c h1 h2 => by
  have := ownH_get (w := w) c.1 h1 h2
  grind
 have hHc' : ∀ b, ownH w' Hc B b = ownH w Hc B b := fun b => ownH_congr b fun i cs c h1 h2 => cellsAt_congr (hun c.1 (hobj i cs c h1 h2)).1
 have hle : MLe M M' B B' := ⟨hP.le.mem, fun i c hc => by
  grind⟩
 have hfin : ∀ b, ownH w' (bigH ids H h') B' b = ownH w Hc B b + ownH w' h' Bs' b := fun b => by
  show ownH w' (setIds ids ((h'.take ids.length).map (renO (backI ids H.length))) H ++ (h'.drop ids.length).map (renO (backI ids H.length))) (B ++ Bs'.drop ids.length) b = _
  rw [ownH_app (by rw [setIds_length]; exact hBH), hsum w' _ (by simp; omega), ownH_ren, ownH_ren, hHc']
  grind [List.take_append_drop, ownH_app]
 refine ⟨v, M', B', rfl, hP.mem, hle, hP.fr.mono fun b hb h0 => by have := hs1 b; omega, ⟨?_, fun i cs hi => ?_⟩, rep_ren hback (allI_true r) hP.rep, tl_ren hP.tl, fun b hb => ?_, fun b => ?_, fun b hb => ?_⟩
 ·show (setIds ids _ H ++ (h'.drop ids.length).map _).length = (B ++ Bs'.drop ids.length).length
  grind [setIds_length]
 ·have key : ∀ (m : Nat) (cs0 : List PV), h'[m]? = some (some cs0) → cs = renL (backI ids H.length) cs0 → i = backI ids H.length m → ∃ c, B'[i]? = some c ∧ ObjOK M' B' w' cs c := fun m cs0 hm e1 e2 => by
   obtain ⟨c, hc, vs, ty, h1, h2, h3, h4, h5⟩ := hP.heap.2 m cs0 hm
   refine ⟨c, by rw [e2]; grind, vs, ty, h1, h2, by rw [e1, renL_length]; exact h3, fun l p hp => ?_, h5⟩
   rw [e1, renL_get] at hp
   cases hq : cs0[l]? with
   | none => simp_all
   | some q =>
    simp [hq] at hp; subst hp
    obtain ⟨u, a1, a2, a3, a4⟩ := h4 l q hq
    exact ⟨u, a1, rep_ren hback (allI_true q) a2, tl_ren a3, a4⟩
  have hi0 : (setIds ids ((h'.take ids.length).map (renO (backI ids H.length))) H ++ (h'.drop ids.length).map (renO (backI ids H.length)))[i]? = some (some cs) := hi
  rcases Nat.lt_or_ge i H.length with hlt1 | hge
  ·rw [List.getElem?_append_left (by rw [setIds_length]; exact hlt1)] at hi0
   by_cases hm : i ∈ ids
   ·obtain ⟨j, hj⟩ := List.mem_iff_getElem?.1 hm
    have hjl := (List.getElem?_eq_some_iff.1 hj).1
    have ho : ((h'.take ids.length).map (renO (backI ids H.length)))[j]? = some (renO (backI ids H.length) h'[j]) := by
     rw [List.getElem?_map, List.getElem?_take, if_pos hjl, List.getElem?_eq_getElem (by omega)]; rfl
    rw [setIds_in hnd hj ho hlt1] at hi0
    injection hi0 with hi0
    cases hx : h'[j] with
    | none => rw [hx] at hi0; cases hi0
    | some cs0 =>
     rw [hx] at hi0
     grind [renO, backI]
   ·rw [setIds_not hm] at hi0
    obtain ⟨c, hc, vs, ty, h1, h2, h3, h4, h5⟩ := hheap.2 i cs hi0
    have hHci : Hc[i]? = some (some cs) := by grind [setIds_not]
    have hcb := hun c.1 (hobj i cs c hHci hc)
    refine ⟨c, hle.blk _ _ hc, vs, ty, by rw [rowAt_congr hcb.1, h1], h2, h3, fun j p hj => ?_, fun o => by rw [hcb.2]; exact h5 o⟩
    obtain ⟨u, a1, a2, a3, a4⟩ := h4 j p hj
    refine ⟨u, a1, a2.mono hle, a3.kept fun b ho => hun b ?_, a4⟩
    have e1 := ownH_get (w := w) b hHci hc
    have e2 := ownC_get b hj (by rw [cellsAt_eq h1]; grind : (cellsAt w c.1)[j]? = some u)
    omega
  ·rw [List.getElem?_append_right (by rw [setIds_length]; exact hge), setIds_length, List.getElem?_map, List.getElem?_drop] at hi0
   cases hx : h'[ids.length + (i - H.length)]? with
   | none => simp_all
   | some o =>
    cases o with
    | none => simp [hx, renO] at hi0
    | some cs0 =>
     grind [renO, backI]
 ·have h1 := hP.own b hb; rw [ownV_ren, hfin]; have := hs1 b; omega
 ·have h1 := hP.cnt b; rw [ownV_ren, hfin]; omega
 ·have h1 := hP.new b hb; rw [ownV_ren, hfin]; omega
theorem Ev.sub {P : Program} {g : FuncId} {ids : List Nat} {H : Objs} {big : List PV} {r : PV} {h' : Objs}
 (k : Ev P g (renL (posI ids) big) ((ids.map (getO H)).map (renO (posI ids))) r h') (hnd : nodupB ids = true) (hlt : ∀ i, i ∈ ids → i < H.length)
 (hbig : PV.allIL (inI ids) big = true) (hcs : ∀ i cs, i ∈ ids → H[i]? = some (some cs) → PV.allIL (inI ids) cs = true) : Ev P g big H (renP (backI ids H.length) r) (bigH ids H h') :=
 EvG.sub (calls_cpmono P) k hnd hlt hbig hcs
mutual
def PV.noref : PV → Bool
 | .int _ _ => true
 | .bool _ => true
 | .str _ => true
 | .nilp => true
 | .raw _ => true
 | .agg cs => norefs cs
 | .tuple cs => norefs cs
 | _ => false
def norefs : List PV → Bool
 | [] => true
 | p :: ps => p.noref && norefs ps
end
mutual
theorem rep_noref {M M' : Mem} {B B' : Blk} : ∀ (p : PV) {v : Value}, p.noref = true → Rep M B p v → Rep M' B' p v
 | .int _ _, _, _, h => rep_int.2 (rep_int.1 h)
 | .bool _, _, _, h => rep_bool.2 (rep_bool.1 h)
 | .str _, _, _, h => rep_str.2 (rep_str.1 h)
 | .nilp, _, _, h => rep_nilp.2 (rep_nilp.1 h)
 | .raw _, _, _, h => rep_raw.2 (rep_raw.1 h)
 | .agg cs, _, hn, h => by
  obtain ⟨vs, hv, hr⟩ := rep_agg.1 h
  exact rep_agg.2 ⟨vs, hv, reps_noref cs hn hr⟩
 | .tuple cs, _, hn, h => by
  obtain ⟨vs, hv, hr⟩ := rep_tuple.1 h
  exact rep_tuple.2 ⟨vs, hv, reps_noref cs hn hr⟩
 | .ptr _ _, _, hn, _ => by simp [PV.noref] at hn
 | .bld _ _, _, hn, _ => by simp [PV.noref] at hn
 | .cst _, _, hn, _ => by simp [PV.noref] at hn
 | .sl _ _ _, _, hn, _ => by simp [PV.noref] at hn
 | .slh _ _ _ _, _, hn, _ => by simp [PV.noref] at hn
 | .func _ _ _, _, hn, _ => by simp [PV.noref] at hn
theorem reps_noref {M M' : Mem} {B B' : Blk} : ∀ (ps : List PV) {vs : List Value}, norefs ps = true → Reps M B ps vs → Reps M' B' ps vs
 | [], _, _, h => by rw [reps_nil] at h ⊢; exact h
 | p :: ps, _, hn, h => by
  simp only [norefs, Bool.and_eq_true] at hn
  obtain ⟨u, us, rfl, h1, h2⟩ := reps_cons.1 h
  exact reps_cons.2 ⟨u, us, rfl, rep_noref p hn.1 h1, reps_noref ps hn.2 h2⟩
end
theorem noref_own {p : PV} (h : p.noref = true) : p.own = false := by cases p <;> first | rfl | (simp [PV.noref] at h)
def plainC (p : PV) : Bool := p.one && p.noref
theorem plain_one {p : PV} (h : plainC p = true) : p.isAgg = false ∧ (∀ ds, p ≠ .tuple ds) ∧ p.noref = true ∧ p.size = 1 := by
 unfold plainC at h
 simp only [Bool.and_eq_true] at h
 obtain ⟨h1, h2⟩ := h
 cases p <;> first | (simp [PV.one] at h1; done) | exact ⟨rfl, (fun ds h => by cases h), h2, rfl⟩
def lendP (h : Objs) (p : PV) : PV := match p with
 | .slh i 0 n 1 => (match h[i]? with | some (some cs) => .sl false 1 (cs.take n) | _ => p)
 | .slh i 0 n sz => (match h[i]? with | some (some cs) => .sl false sz (chunkP sz cs n) | _ => p)
 | _ => p
def lendC (h : Objs) (p : PV) : Bool := match p with
 | .slh i 0 n 1 => (match h[i]? with | some (some cs) => decide (n ≤ cs.length) && cs.all plainC | _ => false)
 | .slh i 0 n sz => (match h[i]? with | some (some cs) => decide (n * sz ≤ cs.length) && decide (0 < sz) && cs.all plainC | _ => false)
 | p => p.flat
def lendL (h : Objs) : List PV → List PV
 | [] => []
 | p :: ps => lendP h p :: lendL h ps
def lendCL (h : Objs) : List PV → Bool
 | [] => true
 | p :: ps => lendC h p && lendCL h ps
section
variable {M : Mem} {B : Blk} {w : World} {h : Objs}
def lentB (h : Objs) (B : Blk) (b : Nat) : Prop := ∃ (i : Nat) (cs : List PV) (c : Nat × Nat × TypeId), h[i]? = some (some cs) ∧ (B[i]? = some c ∧ c.2.2 ≠ 0) ∧ c.1 = b ∧ cs.all plainC = true
open Classical in
noncomputable def lentM (M : Mem) (h : Objs) (B : Blk) (w : World) : Mem := mkM M.m fun b o => if ∃ (i : Nat) (cs : List PV) (c : Nat × Nat × TypeId), h[i]? = some (some cs) ∧ (B[i]? = some c ∧ c.2.2 ≠ 0) ∧ c.1 = b ∧ cs.all plainC = true ∧ o < cs.length then w.cell? ⟨b, o, none⟩ else M b o
theorem lent_none (hh : HeapOK M B w h) {i : Nat} {cs : List PV} {c : Nat × Nat × TypeId} (hi : h[i]? = some (some cs)) (hc : B[i]? = some c ∧ c.2.2 ≠ 0) (o : Nat) : M c.1 o = none := by
 obtain ⟨c', hc', _, _, _, _, _, _, h5⟩ := hh.2 i cs hi
 rw [hc.1] at hc'; simp_all
theorem lent_cell (hh : HeapOK M B w h) {i : Nat} {cs : List PV} {c : Nat × Nat × TypeId} (hi : h[i]? = some (some cs)) (hc : B[i]? = some c ∧ c.2.2 ≠ 0) {o : Nat} {p : PV} (ho : cs[o]? = some p) : ∃ v, w.cell? ⟨c.1, o, none⟩ = some v ∧ Rep M B p v ∧ v.oneCell' = true := by
 obtain ⟨c', hc', vs, ty, r1, h2, h3, h4, h5⟩ := hh.2 i cs hi
 rw [hc.1] at hc'; grind [rowAt_inv, World.cell?]
open Classical in
theorem lentM_eq (hh : HeapOK M B w h) (b o : Nat) : lentM M h B w b o = if ∃ (i : Nat) (cs : List PV) (c : Nat × Nat × TypeId), h[i]? = some (some cs) ∧ (B[i]? = some c ∧ c.2.2 ≠ 0) ∧ c.1 = b ∧ cs.all plainC = true ∧ o < cs.length then w.cell? ⟨b, o, none⟩ else M b o := by
 unfold lentM
 refine mkM_of (fun b o v e => ?_) b o
 split
 ·rename_i hx
  obtain ⟨i, cs, c, h1, h2, rfl, _⟩ := hx
  have := M.g _ _ _ e
  rw [lent_none hh h1 h2] at this; cases this
 ·exact M.g _ _ _ e
theorem lentM_le (hh : HeapOK M B w h) : MLe M (lentM M h B w) B B := ⟨fun b o v e => by
 rw [lentM_eq hh]
 grind [lent_none], fun _ _ e => e⟩
theorem lentM_ok (hm : memOK M w) (hh : HeapOK M B w h) : memOK (lentM M h B w) w := fun b o v e => by
 rw [lentM_eq hh] at e
 split at e
 ·rename_i hx
  obtain ⟨i, cs, c, h1, h2, rfl, _, ho⟩ := hx
  obtain ⟨v', q1, _, q3⟩ := lent_cell hh h1 h2 (List.getElem?_eq_getElem ho)
  rw [q1] at e; simp_all
 ·exact hm b o v e
theorem lend_rep (hh : HeapOK M B w h) {p : PV} {v : Value} (hr : Rep M B p v) (hc : lendC h p = true) : Rep (lentM M h B w) [] (lendP h p) v := by
 have hflat : p.flat = true → lendP h p = p → Rep (lentM M h B w) [] (lendP h p) v := fun h1 h2 => by rw [h2]; exact Rep.flat [] h1 (hr.mono (lentM_le hh))
 unfold lendC at hc
 split at hc
 ·rename_i i n
  split at hc
  ·rename_i cs hi
   simp only [Bool.and_eq_true, decide_eq_true_eq] at hc
   obtain ⟨hn, hp⟩ := hc
   have e : lendP h (.slh i 0 n 1) = .sl false 1 (cs.take n) := by simp only [lendP, hi]
   rw [e]
   obtain ⟨c, cap, hB, hv, hle, hcap⟩ := rep_slh.1 hr
   have hpl := fun p hp' => plain_one (List.all_eq_true.1 hp p hp')
   refine rep_sl.2 ⟨some ⟨c.1, 0, none⟩, cap, by rw [hv, List.length_take, Nat.min_eq_left hn], by rw [List.length_take]; omega, fun e he => (hpl e (List.mem_of_mem_take he)).2.2.2, (fun h => by cases h), fun _ => ⟨c.1, 0, rfl, locs_of fun j p hj => ?_⟩⟩
   rw [List.getElem?_take] at hj
   split at hj
   ·have hjl := (List.getElem?_eq_some_iff.1 hj).1
    obtain ⟨a1, a2, a3, a4⟩ := hpl p (List.mem_of_getElem? hj)
    obtain ⟨u, q1, q2, _⟩ := lent_cell hh hi hB hj
    rw [loc_one a1 a2]
    refine ⟨u, ?_, rep_noref p a3 q2⟩
    rw [lentM_eq hh, if_pos ⟨i, cs, c, hi, hB, rfl, hp, by omega⟩, show 0 + j * 1 = j by omega]; exact q1
   ·cases hj
  ·cases hc
 ·rename_i i n sz hne1
  split at hc
  ·rename_i cs hi
   simp only [Bool.and_eq_true, decide_eq_true_eq] at hc
   obtain ⟨⟨hn, h0⟩, hp⟩ := hc
   have e : lendP h (.slh i 0 n sz) = .sl false sz (chunkP sz cs n) := by
    grind [lendP]
   rw [e]
   obtain ⟨c, cap, hB, hv, hle, hcap⟩ := rep_slh.1 hr
   have hpl := fun p hp' => plain_one (List.all_eq_true.1 hp p hp')
   obtain ⟨k1, k2, k3⟩ := chunk_spec h0 hn fun p hp' => by
    have := List.all_eq_true.1 hp p hp'
    grind [plainC]
   refine rep_sl.2 ⟨some ⟨c.1, 0, none⟩, cap, by rw [hv, k1], by rw [k1]; exact hle, k2, (fun h => by omega), fun _ => ⟨c.1, 0, rfl, k3 _ c.1 fun j p hj hlt => ?_⟩⟩
   have hjl := (List.getElem?_eq_some_iff.1 hj).1
   obtain ⟨a1, a2, a3, a4⟩ := hpl p (List.mem_of_getElem? hj)
   obtain ⟨u, q1, q2, _⟩ := lent_cell hh hi hB hj
   rw [loc_one a1 a2]
   refine ⟨u, ?_, rep_noref p a3 q2⟩
   rw [lentM_eq hh, if_pos ⟨i, cs, c, hi, hB, rfl, hp, hjl⟩]; exact q1
  ·cases hc
 grind [lendP]
theorem lend_reps (hh : HeapOK M B w h) : ∀ {ps : List PV} {vs : List Value}, Reps M B ps vs → lendCL h ps = true → Reps (lentM M h B w) [] (lendL h ps) vs
 | [], _, hr, _ => by rw [reps_nil] at hr; subst hr; exact reps_nil.2 rfl
 | p :: ps, _, hr, hc => by
  obtain ⟨u, us, rfl, h1, h2⟩ := reps_cons.1 hr
  simp only [lendCL, Bool.and_eq_true] at hc
  exact reps_cons.2 ⟨u, us, rfl, lend_rep hh h1 hc.1, lend_reps hh h2 hc.2⟩
end
theorem Ev.lend {P : Program} {g : FuncId} {args : List PV} {r : PV} {h : Objs} (h0 : Ev P g (lendL h args) [] r []) (hr : r.noref = true) (hc : lendCL h args = true) : Ev P g args h r h := by
 classical
 refine ⟨h0.1, fun out M B w vals hmem hheap hcnt hnew hv => ?_⟩
 have hz : ∀ w b, ownH w [] [] b = 0 := fun w b => by simp [ownH]
 refine (h0.2 (fun b => out b + ownH w h B b) (lentM M h B w) [] w vals (lentM_ok hmem hheap) ⟨rfl, fun i cs hi => by simp at hi⟩ (fun b => by rw [hz]; have := hcnt b; omega) (fun b hb => by rw [hz]; have := hnew b hb; omega) (lend_reps hheap hv hc)).mono fun e w' he => ?_
 obtain ⟨v, M1, B1, rfl, hP⟩ := he
 have hB1 : B1 = [] := List.eq_nil_of_length_eq_zero (by have := hP.heap.1; simp_all)
 subst hB1
 have hobj : ∀ (i : Nat) cs c, h[i]? = some (some cs) → B[i]? = some c → 1 ≤ ownH w h B c.1 := fun i cs c h1 h2 => by
  have := ownH_get (w := w) c.1 h1 h2
  grind
 have hlt : ∀ b, 1 ≤ ownH w h B b → b < w.heap.size := fun b hb => by
  grind
 have hun : ∀ b, b < w.heap.size → w'.heap[b]? = w.heap[b]? ∧ ∀ o, M1 b o = lentM M h B w b o := fun b hb => hP.fr.blk b hb (hz w b)
 obtain ⟨M', hM'⟩ : ∃ M' : Mem, ∀ b o, M' b o = if lentB h B b then none else M1 b o := ⟨mkM _ _, mkM_of fun b o v e => by
  rw [if_neg (fun ⟨i, cs, c, h1, h2, h3, _⟩ => by subst h3; have := M.g _ _ _ e; rw [lent_none hheap h1 h2] at this; cases this)]; exact hP.le.mem _ _ _ ((lentM M h B w).g _ _ _ e)⟩
 have hL : ∀ b o, lentB h B b → M' b o = none := fun b o hl => by rw [hM']; simp_all
 have hN : ∀ b o, ¬ lentB h B b → M' b o = M1 b o := fun b o hl => by rw [hM']; simp_all
 have hLn : ∀ b o, lentB h B b → M b o = none := fun b o ⟨i, cs, c, h1, h2, h3, _⟩ => by grind [lent_none]
 have hNM : ∀ b o, ¬ lentB h B b → lentM M h B w b o = M b o := fun b o hl => by
  rw [lentM_eq hheap, if_neg (fun ⟨i, cs, c, h1, h2, h3, h4, _⟩ => hl ⟨i, cs, c, h1, h2, h3, h4⟩)]
 have heq : ∀ b o, b < w.heap.size → M' b o = M b o := fun b o hb => by
  simp_all
 have hle : MLe M M' B B := ⟨fun b o v e => by
  have := World.block_lt_of_cell? _ _ (hmem b o v e).1
  rw [heq b o this]; exact e, fun _ _ h => h⟩
 have hfp : ∀ b, ownH w' h B b = ownH w h B b := fun b => ownH_congr b fun i cs c h1 h2 => cellsAt_congr (hun c.1 (hlt _ (hobj i cs c h1 h2))).1
 refine ⟨v, M', B, rfl, fun b o u e => ?_, hle, ⟨hP.fr.os, hP.fr.tape, hP.fr.output, hP.fr.size, fun b hb _ => ⟨(hun b hb).1, fun o => heq b o hb⟩⟩, ⟨hheap.1, fun i cs hi => ?_⟩, rep_noref r hr hP.rep, tl_no (noref_own hr), fun b _ => ?_, fun b => ?_, fun b hb => ?_⟩
 ·by_cases hl : lentB h B b
  simp_all
  ·rw [hN b o hl] at e; exact hP.mem b o u e
 ·obtain ⟨c, hc', vs, ty, h1, h2, h3, h4, h5⟩ := hheap.2 i cs hi
  have hcl := hlt _ (hobj i cs c hi hc')
  refine ⟨c, hc', vs, ty, by rw [rowAt_congr (hun c.1 hcl).1, h1], h2, h3, fun j p hj => ?_, fun o => by rw [heq c.1 o hcl]; exact h5 o⟩
  obtain ⟨u, hu, hur, hT, hone⟩ := h4 j p hj
  refine ⟨u, hu, hur.mono hle, hT.kept fun b ho => ?_, hone⟩
  have e1 := ownH_get (w := w) b hi hc'
  have e2 := ownC_get b hj (by rw [cellsAt_eq h1]; grind : (cellsAt w c.1)[j]? = some u)
  have hbl := hlt b (by omega)
  simp_all
 grind [ownV_no, noref_own]
 grind [ownV_no, noref_own]
 grind [ownV_no, noref_own]
theorem Ev.thaw0 {P : Program} {g : FuncId} {args : List PV} {es : List PV} (h0 : Ev P g args [] (.sl true 1 es) []) (hpos : 0 < es.length) (hpl : es.all plainC = true) : Ev P g args [] (.slh 0 0 es.length 1) [some es] := by
 refine ⟨h0.1, fun out M B w vals hmem hheap hcnt hnew hv => ?_⟩
 have hz : ∀ w b, ownH w [] B b = 0 := fun w b => by simp [ownH]
 refine (h0.2 out M B w vals hmem hheap hcnt hnew hv).mono fun e w' he => ?_
 obtain ⟨v, M1, B1, rfl, hP⟩ := he
 have hB1 : B1 = [] := List.eq_nil_of_length_eq_zero (by have := hP.heap.1; simp_all)
 have hB0 : B = [] := List.eq_nil_of_length_eq_zero (by have := hheap.1; simp_all)
 subst hB1
 subst hB0
 have hz' : ∀ w b, ownH w [] [] b = 0 := fun w b => by simp [ownH]
 obtain ⟨A, cap, hv1, hle, hs, _, hA⟩ := rep_sl.1 hP.rep
 obtain ⟨b, off, rfl, hL⟩ := hA (fun e => by rw [e] at hpos; simp at hpos)
 obtain ⟨_, _, ht⟩ := hP.tl.s 1 es _ _ _ rfl hv1
 obtain ⟨cs, ty, t1, t2, t3, _, t4⟩ := ht _ rfl
 simp only at t1 t2 t3 t4
 subst t4
 have hown : ∀ b', ownV (.sl true 1 es) v b' = if b = b' then 1 else 0 := fun b' => by rw [hv1]; rfl
 have hnb : w.heap.size ≤ b := by
  rcases Nat.lt_or_ge b w.heap.size with h | h
  ·have := hP.own b h
   rw [hz', hz', hown, if_pos rfl] at this
   omega
  ·exact h
 have hpl' := fun p hp => plain_one (List.all_eq_true.1 hpl p hp)
 have hown0 : ∀ (vs : List Value) b', ownC es vs b' = 0 := by
  intro vs b'
  have : ∀ (l : List PV) (vs : List Value), (∀ p, p ∈ l → p.own = false) → ownC l vs b' = 0 := by
   intro l
   induction l with
   | nil => intro vs _; cases vs <;> rfl
   | cons p l ih =>
    intro vs hl
    cases vs with
    | nil => rfl
    | cons u vs => rw [ownC, ownV_no (hl p (by simp)), ih vs fun q hq => hl q (by simp [hq])]
  grind [noref_own]
 have hH : ∀ b', ownH w' [some es] [(b, cs.size, ty + 1)] b' = if b = b' then 1 else 0 := fun b' => by grind [ownH]
 obtain ⟨M2, hM2⟩ : ∃ M2 : Mem, ∀ b' o, M2 b' o = if b' = b then none else M1 b' o := ⟨mkM _ _, mkM_of fun b' o u e => by
  have := World.block_lt_of_cell? _ _ (hmem b' o u (M.g _ _ _ e)).1
  simp only at this
  rw [if_neg (by omega)]; exact hP.le.mem _ _ _ (M.g _ _ _ e)⟩
 refine ⟨v, M2, [(b, cs.size, ty + 1)], rfl, fun b' o u e => ?_, ⟨fun b' o u e => ?_, fun i c e => by simp at e⟩, ⟨hP.fr.os, hP.fr.tape, hP.fr.output, hP.fr.size, fun b' hb' _ => ?_⟩, ⟨rfl, fun i cs' hi => ?_⟩, rep_slh.2 ⟨(b, cs.size, ty + 1), cap, ⟨rfl, by simp⟩, hv1, hle, by omega⟩, tl_no rfl, fun b' hb' => ?_, fun b' => ?_, fun b' hb' => ?_⟩
 ·rw [hM2] at e
  split at e
  ·cases e
  ·exact hP.mem b' o u e
 ·have := World.block_lt_of_cell? _ _ (hmem b' o u e).1
  simp only at this
  rw [hM2, if_neg (by omega)]; exact hP.le.mem b' o u e
 ·have h1 := hP.fr.blk b' hb' (hz' w b')
  grind
 ·cases i with
  | succ i => simp at hi
  | zero =>
   simp at hi
   subst hi
   refine ⟨(b, cs.size, ty + 1), rfl, cs, ty + 1, rowAt_of t1, ⟨rfl, rfl⟩, by omega, fun j p hj => ?_, fun o => by rw [hM2, if_pos rfl]⟩
   obtain ⟨a1, a2, a3, a4⟩ := hpl' p (List.mem_of_getElem? hj)
   obtain ⟨u, hu, hr⟩ := (loc_one a1 a2).1 (locs_get hL hj)
   have hc := (hP.mem _ _ _ hu)
   grind [rep_noref, tl_no, noref_own, World.cell?]
 ·rw [hH, hz', if_neg (by omega), ownV_no rfl]; omega
 ·have := hP.cnt b'
  rw [hz', hown] at this
  rw [hH, ownV_no rfl]; omega
 ·have := hP.new b' hb'
  rw [hz', hown] at this
  rw [hH, ownV_no rfl]; omega
def plainE (sz : Nat) (e : PV) : Bool := match e with
 | .agg ds => Nat.beq ds.length sz && ds.all plainC
 | _ => false
theorem flatPV_len {sz : Nat} : ∀ {es : List PV}, es.all (plainE sz) = true → (flatPV es).length = es.length * sz
 | [], _ => by simp [flatPV]
 | e :: es, h => by
  simp only [List.all_cons, Bool.and_eq_true] at h
  cases e with
  | agg ds =>
   have := Nat.eq_of_beq_eq_true (by have := h.1; simp only [plainE, Bool.and_eq_true] at this; exact this.1)
   rw [flatPV, List.length_append, flatPV_len h.2, List.length_map, this, List.length_cons, Nat.succ_mul]; omega
  | _ => simp [plainE] at h
theorem flatPV_plain {sz : Nat} : ∀ {es : List PV}, es.all (plainE sz) = true → (flatPV es).all plainC = true
 | [], _ => rfl
 | e :: es, h => by
  simp only [List.all_cons, Bool.and_eq_true] at h
  cases e with
  | agg ds =>
   have h1 := h.1
   simp only [plainE, Bool.and_eq_true] at h1
   rw [flatPV, List.all_append, flatPV_plain h.2, Bool.and_true, List.all_map]
   refine List.all_eq_true.2 fun p hp => ?_
   have := List.all_eq_true.1 h1.2 p hp
   obtain ⟨a1, a2, a3, a4⟩ := plain_one this
   show plainC p.un = true
   cases p <;> first | exact this | (simp [PV.noref] at a3; done)
  | _ => simp [plainE] at h
theorem locs_flat {M : Mem} {B : Blk} {sz b : Nat} : ∀ {es : List PV} {o : Nat}, Locs M B sz es b o → es.all (plainE sz) = true → ∀ {q : Nat} {p : PV}, (flatPV es)[q]? = some p → ∃ u, M b (o + q) = some u ∧ Rep M B p u
 | [], _, _, _, q, p, h => by simp_all
 | e :: es, o, hl, ha, q, p, h => by
  simp only [List.all_cons, Bool.and_eq_true] at ha
  obtain ⟨h1, h2⟩ := locs_cons.1 hl
  cases e with
  | agg ds =>
   have hp := ha.1
   simp only [plainE, Bool.and_eq_true] at hp
   have hd := Nat.eq_of_beq_eq_true hp.1
   rw [flatPV] at h
   rcases Nat.lt_or_ge q ds.length with hq | hq
   ·rw [List.getElem?_append_left (by simpa using hq), List.getElem?_map] at h
    cases hx : ds[q]? with
    | none => simp [hx] at h
    | some x =>
     rw [hx] at h; injection h with h; subst h
     obtain ⟨u, hu, hr⟩ := cells_get (loc_agg.1 h1) hx
     exact ⟨u, hu, rep_un.2 hr⟩
   ·rw [List.getElem?_append_right (by simpa using hq)] at h
    simp only [List.length_map] at h
    obtain ⟨u, hu, hr⟩ := locs_flat h2 ha.2 h
    exact ⟨u, by rw [← hu]; congr 1; omega, hr⟩
  | _ => have := ha.1; simp [plainE] at this
theorem Ev.thawG0 {P : Program} {g : FuncId} {args : List PV} {sz : Nat} {es : List PV} (h0 : Ev P g args [] (.sl true sz es) []) (hpos : 0 < es.length) (hpl : es.all (plainE sz) = true) : Ev P g args [] (.slh 0 0 es.length sz) [some (flatPV es)] := by
 refine ⟨h0.1, fun out M B w vals hmem hheap hcnt hnew hv => ?_⟩
 have hz : ∀ w b, ownH w [] B b = 0 := fun w b => by simp [ownH]
 refine (h0.2 out M B w vals hmem hheap hcnt hnew hv).mono fun e w' he => ?_
 obtain ⟨v, M1, B1, rfl, hP⟩ := he
 have hB1 : B1 = [] := List.eq_nil_of_length_eq_zero (by have := hP.heap.1; simp_all)
 have hB0 : B = [] := List.eq_nil_of_length_eq_zero (by have := hheap.1; simp_all)
 subst hB1
 subst hB0
 have hz' : ∀ w b, ownH w [] [] b = 0 := fun w b => by simp [ownH]
 obtain ⟨A, cap, hv1, hle, hs, _, hA⟩ := rep_sl.1 hP.rep
 obtain ⟨b, off, rfl, hL⟩ := hA (fun e => by rw [e] at hpos; simp at hpos)
 obtain ⟨_, _, ht⟩ := hP.tl.s sz es _ _ _ rfl hv1
 obtain ⟨cs, ty, t1, t2, t3, _, t4⟩ := ht _ rfl
 simp only at t1 t2 t3 t4
 subst t4
 have hown : ∀ b', ownV (.sl true sz es) v b' = if b = b' then 1 else 0 := fun b' => by rw [hv1]; rfl
 have hnb : w.heap.size ≤ b := by
  rcases Nat.lt_or_ge b w.heap.size with h | h
  ·have := hP.own b h
   rw [hz', hz', hown, if_pos rfl] at this
   omega
  ·exact h
 have hfl := flatPV_len hpl
 have hpl' := fun p hp => plain_one (List.all_eq_true.1 (flatPV_plain hpl) p hp)
 have hown0 : ∀ (vs : List Value) b', ownC (flatPV es) vs b' = 0 := by
  intro vs b'
  have : ∀ (l : List PV) (vs : List Value), (∀ p, p ∈ l → p.own = false) → ownC l vs b' = 0 := by
   intro l
   induction l with
   | nil => intro vs _; cases vs <;> rfl
   | cons p l ih =>
    intro vs hl
    cases vs with
    | nil => rfl
    | cons u vs => rw [ownC, ownV_no (hl p (by simp)), ih vs fun q hq => hl q (by simp [hq])]
  grind [noref_own]
 have hH : ∀ b', ownH w' [some (flatPV es)] [(b, cs.size, ty + 1)] b' = if b = b' then 1 else 0 := fun b' => by grind [ownH]
 have hcap : es.length * sz ≤ cs.size := Nat.le_trans (Nat.mul_le_mul_right _ hle) (by omega)
 obtain ⟨M2, hM2⟩ : ∃ M2 : Mem, ∀ b' o, M2 b' o = if b' = b then none else M1 b' o := ⟨mkM _ _, mkM_of fun b' o u e => by
  have := World.block_lt_of_cell? _ _ (hmem b' o u (M.g _ _ _ e)).1
  simp only at this
  rw [if_neg (by omega)]; exact hP.le.mem _ _ _ (M.g _ _ _ e)⟩
 refine ⟨v, M2, [(b, cs.size, ty + 1)], rfl, fun b' o u e => ?_, ⟨fun b' o u e => ?_, fun i c e => by simp at e⟩, ⟨hP.fr.os, hP.fr.tape, hP.fr.output, hP.fr.size, fun b' hb' _ => ?_⟩, ⟨rfl, fun i cs' hi => ?_⟩, rep_slh.2 ⟨(b, cs.size, ty + 1), cap, ⟨rfl, by simp⟩, hv1, hle, by omega⟩, tl_no rfl, fun b' hb' => ?_, fun b' => ?_, fun b' hb' => ?_⟩
 ·rw [hM2] at e
  split at e
  ·cases e
  ·exact hP.mem b' o u e
 ·have := World.block_lt_of_cell? _ _ (hmem b' o u e).1
  simp only at this
  rw [hM2, if_neg (by omega)]; exact hP.le.mem b' o u e
 ·have h1 := hP.fr.blk b' hb' (hz' w b')
  grind
 ·cases i with
  | succ i => simp at hi
  | zero =>
   simp at hi
   subst hi
   refine ⟨(b, cs.size, ty + 1), rfl, cs, ty + 1, rowAt_of t1, ⟨rfl, rfl⟩, by rw [hfl]; exact hcap, fun j p hj => ?_, fun o => by rw [hM2, if_pos rfl]⟩
   obtain ⟨a1, a2, a3, a4⟩ := hpl' p (List.mem_of_getElem? hj)
   obtain ⟨u, hu, hr⟩ := locs_flat hL hpl hj
   rw [Nat.zero_add] at hu
   have hc := (hP.mem _ _ _ hu)
   grind [rep_noref, tl_no, noref_own, World.cell?]
 ·rw [hH, hz', if_neg (by omega), ownV_no rfl]; omega
 ·have := hP.cnt b'
  rw [hz', hown] at this
  rw [hH, ownV_no rfl]; omega
 ·have := hP.new b' hb'
  rw [hz', hown] at this
  rw [hH, ownV_no rfl]; omega
theorem renP_noref (f : Nat → Nat) : ∀ {p : PV}, plainC p = true → renP f p = p := fun {p} h => by
 obtain ⟨h1, h2, h3, _⟩ := plain_one h
 cases p <;> first | rfl | (simp [PV.noref] at h3; done) | simp_all | simp_all
theorem renL_plain (f : Nat → Nat) : ∀ {ps : List PV}, ps.all plainC = true → renL f ps = ps
 | [], _ => rfl
 | p :: ps, h => by
  simp only [List.all_cons, Bool.and_eq_true] at h
  rw [renL, renP_noref f h.1, renL_plain f h.2]
mutual
theorem renP_flat (f : Nat → Nat) : ∀ p : PV, p.flat = true → renP f p = p
 | .func _ a c, h => by simp only [PV.flat, Bool.and_eq_true] at h; simp only [renP, renL_flat f a h.1, renL_flat f c h.2]
 | .agg cs, h => by simp only [PV.flat] at h; simp only [renP, renL_flat f cs h]
 | .tuple cs, h => by simp only [PV.flat] at h; simp only [renP, renL_flat f cs h]
 | .ptr _ _, h => by simp [PV.flat] at h
 | .bld _ _, h => by simp [PV.flat] at h
 | .slh _ _ _ _, h => by simp [PV.flat] at h
 | .int _ _, _ => rfl
 | .bool _, _ => rfl
 | .str _, _ => rfl
 | .nilp, _ => rfl
 | .raw _, _ => rfl
 | .cst _, _ => rfl
 | .sl _ _ _, _ => rfl
 | .slT _, _ => rfl
 | .slp _ _ _ _, _ => rfl
 | .mp _, _ => rfl
theorem renL_flat (f : Nat → Nat) : ∀ ps : List PV, PV.flats ps = true → renL f ps = ps
 | [], _ => rfl
 | p :: ps, h => by
  simp only [PV.flats, Bool.and_eq_true] at h
  rw [renL, renP_flat f p h.1, renL_flat f ps h.2]
end
mutual
theorem allI_flat {D : Nat → Bool} : ∀ p : PV, p.flat = true → p.allI D = true
 | .func _ a c, h => by simp only [PV.flat, Bool.and_eq_true] at h; simp only [PV.allI, allIL_flat a h.1, allIL_flat c h.2, Bool.and_self]
 | .agg cs, h => by simp only [PV.flat] at h; simp only [PV.allI, allIL_flat cs h]
 | .tuple cs, h => by simp only [PV.flat] at h; simp only [PV.allI, allIL_flat cs h]
 | .ptr _ _, h => by simp [PV.flat] at h
 | .bld _ _, h => by simp [PV.flat] at h
 | .slh _ _ _ _, h => by simp [PV.flat] at h
 | .int _ _, _ => rfl
 | .bool _, _ => rfl
 | .str _, _ => rfl
 | .nilp, _ => rfl
 | .raw _, _ => rfl
 | .cst _, _ => rfl
 | .sl _ _ _, _ => rfl
 | .slT _, _ => rfl
 | .slp _ _ _ _, _ => rfl
 | .mp _, _ => rfl
theorem allIL_flat {D : Nat → Bool} : ∀ ps : List PV, PV.flats ps = true → PV.allIL D ps = true
 | [], _ => rfl
 | p :: ps, h => by
  simp only [PV.flats, Bool.and_eq_true] at h
  simp only [PV.allIL, allI_flat p h.1, allIL_flat ps h.2, Bool.and_self]
end
theorem Ev.thaw {P : Program} {g : FuncId} {args : List PV} {es : List PV} {H : Objs} (h0 : Ev P g args [] (.sl true 1 es) []) (ha : PV.flats args = true) (hpos : 0 < es.length) (hpl : es.all plainC = true) : Ev P g args H (.slh H.length 0 es.length 1) (H ++ [some es]) := by
 have h1 := Ev.thaw0 h0 hpos hpl
 have e1 : renL (posI []) args = args := renL_flat _ _ ha
 have h2 := Ev.sub (ids := []) (H := H) (big := args) (r := .slh 0 0 es.length 1) (h' := [some es]) (by rw [e1]; exact h1) rfl (fun i hi => by simp at hi) (by
  have : ∀ ps : List PV, PV.flats ps = true → PV.allIL (inI []) ps = true := fun ps h => allIL_flat ps h
  simp_all) (fun i cs hi => by simp at hi)
 grind [bigH, renO, setIds, renL_plain, renP, backI]
theorem Ev.thawG {P : Program} {g : FuncId} {args : List PV} {sz : Nat} {es : List PV} {H : Objs} (h0 : Ev P g args [] (.sl true sz es) []) (ha : PV.flats args = true) (hpos : 0 < es.length) (hpl : es.all (plainE sz) = true) : Ev P g args H (.slh H.length 0 es.length sz) (H ++ [some (flatPV es)]) := by
 have h1 := Ev.thawG0 h0 hpos hpl
 have e1 : renL (posI []) args = args := renL_flat _ _ ha
 have h2 := Ev.sub (ids := []) (H := H) (big := args) (r := .slh 0 0 es.length sz) (h' := [some (flatPV es)]) (by rw [e1]; exact h1) rfl (fun i hi => by simp at hi) (by
  have : ∀ ps : List PV, PV.flats ps = true → PV.allIL (inI []) ps = true := fun ps h => allIL_flat ps h
  simp_all) (fun i cs hi => by simp at hi)
 grind [bigH, renO, setIds, renL_plain, flatPV_plain, renP, backI]
end Go.Proofs.YtkkgfoknknehfaaDoor

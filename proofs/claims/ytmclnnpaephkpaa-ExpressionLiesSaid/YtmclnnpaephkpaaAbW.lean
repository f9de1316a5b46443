/-
  The evaluator that computes: what hangs on symbolic data is left to combinators with names, so that the kernel unfolds a function's code to a plain expression.
-/
import Derived.Test.YtmclnnpaephkpaaAbQ
namespace Go.Proofs.Ytmclnnpaephkpaa
set_option linter.unusedVariables false
set_option linter.unusedSimpArgs false
set_option linter.unnecessarySimpa false
set_option linter.unusedSectionVars false
open Go.RowKit

abbrev R := Option (PV × Objs)
abbrev Cal := FuncId → List PV → Objs → R
def bsel (b : Bool) (A B : R) : R := match b with | true => A | false => B
def chk (b : Bool) (A : R) : R := match b with | true => A | false => none
def lgetX (es : List PV) (n : Int) (K : PV → R) : R := if 0 ≤ n then (match es[n.toNat]? with | some e => K e | none => none) else none
def byteX (s : ByteArray) (n : Int) (K : Int → R) : R := if 0 ≤ n then (match s[n.toNat]? with | some b => K b.toNat | none => none) else none
def clX (C : Cal) (g : FuncId) (args : List PV) (K : PV → R) : R := match C g args [] with | some (r, []) => K r | _ => none
def clH (C : Cal) (g : FuncId) (args : List PV) (h : Objs) (K : PV → Objs → R) : R := match C g args h with | some (r, h') => K r h' | none => none
structure XE where
  E : AE
  C : Cal
  V : TypeId → PV → (PV → R) → R
  W : FuncId → Objs → PV → Objs → (PV → Objs → R) → R
  L : List Nat → Nat → Code → (AX → ASt → R) → ASt → R
  m0 : Nat
def slit (d : Nat) (v : Bool) : Slots → Slots
  | [] => []
  | (j, q) :: l => bif Nat.beq j d then (j, .bool v) :: l else (j, q) :: slit d v l
def ASt.lit (d : Nat) (v : Bool) (σ : ASt) : ASt := { σ with s := slit d v σ.s }
theorem slit_eq {d : Nat} {v : Bool} : ∀ {s : Slots}, sget d s = some (.bool v) → slit d v s = s
  | [], h => by simp [sget] at h
  | (j, q) :: l, h => by
    rw [sget] at h
    rw [slit]
    by_cases e : j = d
    · rw [if_pos e] at h; injection h with h; subst h; subst e
      rw [show Nat.beq j j = true by simp]; rfl
    · rw [if_neg e] at h
      have hb : Nat.beq j d = false := by
        cases h : Nat.beq j d
        · rfl
        · exact absurd (Nat.eq_of_beq_eq_true h) e
      rw [hb, slit_eq h]; rfl
def putX (E : AE) (dst : Option Nat) (p : PV) (K : ASt → R) (σ : ASt) : R := match ASt.put E dst p σ with | some σ' => K σ' | none => none
def putO (E : AE) (dst : Option Nat) (p : Option PV) (K : ASt → R) (σ : ASt) : R := match p with | some p => putX E dst p K σ | none => none
def exGen (X : XE) (o : Oper) (K : ASt → R) (σ : ASt) : R := match stepV X.E o σ with | some (p, σ1) => putX X.E o.dst p K σ1 | none => none
def exSliceL (X : XE) (dst : Option Nat) (sz : Nat) (es : List PV) (lo hi : Option Operand) (K : ASt → R) (σ : ASt) : R :=
  match lo, hi with
  | none, none => putX X.E dst (.sl false sz es) K σ
  | some l, none => (match σ.rd l with | some (.int _ a) => chk (decide (0 ≤ a) && decide (a ≤ es.length)) (putX X.E dst (.sl false sz (es.drop a.toNat)) K σ) | _ => none)
  | none, some h => (match σ.rd h with | some (.int _ b) => chk (decide (0 ≤ b) && decide (b ≤ es.length)) (putX X.E dst (.sl false sz (es.take b.toNat)) K σ) | _ => none)
  | some l, some h => (match σ.rd l, σ.rd h with | some (.int _ a), some (.int _ b) => chk (decide (0 ≤ a) && decide (a ≤ b) && decide (b ≤ es.length)) (putX X.E dst (.sl false sz ((es.take b.toNat).drop a.toNat)) K σ) | _, _ => none)
def exSliceS (X : XE) (dst : Option Nat) (s : ByteArray) (lo hi : Option Operand) (K : ASt → R) (σ : ASt) : R :=
  match lo, hi with
  | none, none => putX X.E dst (.str (s.extract 0 s.size)) K σ
  | some l, none => (match σ.rd l with | some (.int _ a) => chk (decide (0 ≤ a) && decide (a ≤ s.size)) (putX X.E dst (.str (s.extract a.toNat s.size)) K σ) | _ => none)
  | none, some h => (match σ.rd h with | some (.int _ b) => chk (decide (0 ≤ b) && decide (b ≤ s.size)) (putX X.E dst (.str (s.extract 0 b.toNat)) K σ) | _ => none)
  | some l, some h => (match σ.rd l, σ.rd h with | some (.int _ a), some (.int _ b) => chk (decide (0 ≤ a) && decide (a ≤ b) && decide (b ≤ s.size)) (putX X.E dst (.str (s.extract a.toNat b.toNat)) K σ) | _, _ => none)
def exIdx (X : XE) (dst : Option Nat) (t : TypeId) (sz : Nat) (es : List PV) (n : Int) (K : ASt → R) (σ : ASt) : R :=
  match elemOf' X.E.P t, elemTI X.E.P t with
  | some e, some I => if I.size = sz then lgetX es n fun p => X.V e p fun q => putX X.E dst (.cst q) K σ else none
  | _, _ => none
def exDiv (X : XE) (dst : Option Nat) (k k' : IntKind) (b : Int) (r : Int) (K : ASt → R) (σ : ASt) : R := if k = k' then chk (!(b == 0)) (putX X.E dst (.int k r) K σ) else none
def exSh (X : XE) (dst : Option Nat) (k : IntKind) (b : Int) (r : Int) (K : ASt → R) (σ : ASt) : R := chk (decide (0 ≤ b)) (putX X.E dst (.int k r) K σ)
/-- An array type whose elements are single cells: its length, its elements' type. -/
def arrOne (P : Program) (t : TypeId) : Option (Nat × TypeId) := match P.underlying t with
  | some (.array m e) => (match ti P e with | some I => (match Nat.beq I.size 1 && !I.agg with | true => some (m, e) | false => none) | none => none)
  | _ => none
/-- An operation that calls no function. -/
def exOp (X : XE) (o : Oper) (K : ASt → R) (σ : ASt) : R :=
  match o.op with
  | .convert s d x => (match σ.rd x with
    | some (.sl _ _ es) => (match isBytesT X.E.P s && isStrT X.E.P d with | true => chk (bytesP es) (putX X.E o.dst (.str (strOf es)) K σ) | false => none)
    | _ => exGen X o K σ)
  | .indexAddr t x i => (match σ.rd x, σ.rd i with
    | some (.sl _ sz es), some (.int _ n) => exIdx X o.dst t sz es n K σ
    | some (.cst (.agg cs)), some (.int _ n) => (match arrOne X.E.P t with
      | some (m, e) => chk (decide (n < (m : Int))) (lgetX cs n fun p => X.V e p fun q => (match q.one with | true => putX X.E o.dst (.cst q.un) K σ | false => none))
      | none => exGen X o K σ)
    | _, _ => exGen X o K σ)
  | .index t x i => (match σ.rd x, σ.rd i with
    | some (.str s), some (.int _ n) => (match isStrT X.E.P t with | true => byteX s n fun b => putX X.E o.dst (.int .u8 b) K σ | false => none)
    | _, _ => exGen X o K σ)
  | .pick c a b => (match σ.rd c with
    | some (.bool v) => bsel v (putO X.E o.dst (σ.rd a) K σ) (putO X.E o.dst (σ.rd b) K σ)
    | _ => none)
  | .slice t x lo hi none => (match σ.rd x with
    | some (.sl _ sz es) => (match elemTI X.E.P t with | some I => if I.size = sz then exSliceL X o.dst sz es lo hi K σ else none | none => none)
    | some (.str s) => (match isStrT X.E.P t with | true => exSliceS X o.dst s lo hi K σ | false => none)
    | _ => exGen X o K σ)
  | .binOp op _ x y _ => (match op, σ.rd x, σ.rd y with
    | .quo, some (.int k a), some (.int k' b) => exDiv X o.dst k k' b (k.wrap (a.tdiv b)) K σ
    | .rem, some (.int k a), some (.int k' b) => exDiv X o.dst k k' b (a.tmod b) K σ
    | .shl, some (.int k a), some (.int _ b) => exSh X o.dst k b (k.wrap (a * 2 ^ min b.toNat k.bits)) K σ
    | .shr, some (.int k a), some (.int _ b) => exSh X o.dst k b (a.fdiv (2 ^ min b.toNat k.bits)) K σ
    | .add, some (.str a), some (.str b) => chk (decide (a.size + b.size ≤ LIM)) (putX X.E o.dst (.str (a ++ b)) K σ)
    | _, _, _ => exGen X o K σ)
  | .call c => (match c.callee with
    | .builtin .append => (match c.args.toList with
      | [s, x] => (match σ.ev s, σ.rd x with
        | some (.sl _ _ es), some (.sl _ _ es') => chk (decide (es.length + es'.length ≤ LIM)) (exGen X o K σ)
        | _, _ => none)
      | _ => none)
    | .builtin _ => exGen X o K σ
    | _ => none)
  | _ => exGen X o K σ
def argT (P : Program) : List TypeId → List PV → List PV
  | t :: ts, p :: ps => p.reszT (cellSz P 8 t) :: argT P ts ps
  | _, ps => ps
def callTs (o : Oper) : List TypeId := match o.op with | .call c => c.argTypes.toList | _ => []
mutual
def PV.ids : PV → List Nat
  | .ptr i _ => [i]
  | .slh i _ _ _ => [i]
  | .func _ a c => PV.idsL a ++ PV.idsL c
  | .agg cs => PV.idsL cs
  | .tuple cs => PV.idsL cs
  | _ => []
def PV.idsL : List PV → List Nat
  | [] => []
  | p :: ps => p.ids ++ PV.idsL ps
end
def addI (l : List Nat) : List Nat → List Nat
  | [] => l
  | i :: is => addI (match inI l i with | true => l | false => l ++ [i]) is
def cellIds (H : Objs) : List Nat → List Nat
  | [] => []
  | i :: l => (match getO H i with | some cs => PV.idsL cs | none => []) ++ cellIds H l
def closeI (H : Objs) : Nat → List Nat → List Nat
  | 0, l => l
  | n + 1, l => closeI H n (addI l (cellIds H l))
def subOK (ids : List Nat) (H : Objs) (full : List PV) : Bool :=
  nodupB ids && (ids.all (fun i => Nat.blt i H.length) && (PV.allIL (inI ids) full && ids.all fun i => match getO H i with | some cs => PV.allIL (inI ids) cs | none => true))
/-- A call that hands over objects. -/
def exCallH (X : XE) (dst : Option Nat) (g : FuncId) (full : List PV) (ids : List Nat) (K : ASt → R) (σ : ASt) : R :=
  match subOK ids σ.h full with
  | true => clH X.C g (renL (posI ids) full) ((ids.map (getO σ.h)).map (renO (posI ids))) fun r h' => X.W g ((ids.map (getO σ.h)).map (renO (posI ids))) r h' fun r' h'' => putX X.E dst (renP (backI ids σ.h.length) r') K ⟨σ.s, bigH ids σ.h h''⟩
  | false => none
def exCall (X : XE) (draw : Bool) (o : Oper) (f : Operand) (args : List Operand) (K : ASt → R) (σ : ASt) : R :=
  match σ.rd f, allSome (args.map σ.rd) with
  | some (.func (.func g) first caps), some as => (match PV.flats (first ++ argT X.E.P (callTs o) as ++ caps) with
    | true => clX X.C g (first ++ argT X.E.P (callTs o) as ++ caps) fun r => X.W g [] r [] fun r' _ => (match PV.flat r' with | true => putX X.E o.dst r' K σ | false => none)
    | false => (match draw with
      | true => none
      | false => exCallH X o.dst g (first ++ argT X.E.P (callTs o) as ++ caps) (closeI σ.h 3 (addI [] (PV.idsL (first ++ argT X.E.P (callTs o) as ++ caps)))) K σ))
  | _, _ => none
def ex1 (X : XE) (draw : Bool) (o : Oper) (K : ASt → R) (σ : ASt) : R :=
  match isCall o with
  | some (f, args) => exCall X draw o f args K σ
  | none => exOp X o K σ
def exGd (X : XE) (draw : Bool) (o : Oper) (d : Nat) (want v : Bool) (K : ASt → R) (σ : ASt) : R :=
  match v == want with
  | true => ex1 X draw o K (σ.lit d v)
  | false => putX X.E o.dst (.tuple []) K (σ.lit d v)
def exOps (X : XE) (draw : Bool) (ops : Array Oper) : List Oper → (ASt → R) → ASt → R
  | [], K, σ => K σ
  | o :: l, K, σ => match o.guard with
    | none => ex1 X draw o (exOps X draw ops l K) σ
    | some (j, want) => match (ops[j]?).bind (·.dst) with
      | none => putX X.E o.dst (.tuple []) (exOps X draw ops l K) σ
      | some d => match sget d σ.s with
        | some (.bool b) => bsel b (exGd X draw o d want true (exOps X draw ops l K) σ) (exGd X draw o d want false (exOps X draw ops l K) σ)
        | some (.tuple []) => putX X.E o.dst (.tuple []) (exOps X draw ops l K) σ
        | _ => none
def thenK (k : ASt → R) (K : AX → ASt → R) : AX → ASt → R
  | .normal, σ => k σ
  | .ret, σ => K .ret σ
  | .exit i, σ => K (.exit i) σ
def blkK (id : Nat) (K : AX → ASt → R) : AX → ASt → R
  | .exit i, σ => if i = id then K .normal σ else K (.exit i) σ
  | .normal, σ => K .normal σ
  | .ret, σ => K .ret σ
def ASt.keys (E : AE) (σ : ASt) : List Nat := (σ.keep E.vars).s.map (·.1)
/-- The first region of a piece of code (its number and one). -/
def rid : Code → Nat
  | .region id _ _ => id + 1
  | .seq .skip y => rid y
  | .seq (.label _) y => rid y
  | .seq x _ => rid x
  | .block _ x => rid x
  | .scope x => rid x
  | .loop x => rid x
  | _ => 0
mutual
/-- One more than the greatest number of an object that a value names. -/
def PV.tops : PV → Nat
  | .ptr i _ => i + 1
  | .slh i _ _ _ => i + 1
  | .func _ f c => Nat.max (PV.topsL f) (PV.topsL c)
  | .agg cs => PV.topsL cs
  | .tuple cs => PV.topsL cs
  | _ => 0
def PV.topsL : List PV → Nat
  | [] => 0
  | p :: ps => Nat.max p.tops (PV.topsL ps)
end
def topsS : Slots → Nat
  | [] => 0
  | (_, p) :: l => Nat.max p.tops (topsS l)
def topsH : Nat → Objs → Nat
  | 0, _ => 0
  | _, [] => 0
  | n + 1, o :: h => Nat.max (match o with | some cs => PV.topsL cs | none => 0) (topsH n h)
/-- How many objects are still named, if these slots are kept. -/
def needM (m0 : Nat) (l : List Nat) (σ : ASt) : Nat :=
  let a := Nat.max m0 (topsS (σ.keep l).s)
  let b := Nat.max a (topsH a σ.h)
  Nat.max b (topsH b σ.h)
def joinX (E : AE) (m0 : Nat) (y : Code) (k : ASt → R) (σ : ASt) : R := match E.jt.lookup (rid y) with
  | some l => (match decide (m0 ≤ needM m0 l σ) && gcOK l (needM m0 l σ) σ with | true => k (σ.gc l (needM m0 l σ)) | false => none)
  | none => k σ
def loopP (E : AE) (m0 : Nat) (x : Code) (σ : ASt) : List Nat × Nat := match E.lt.lookup (rid x) with
  | some l => (l, needM m0 l σ)
  | none => (σ.keys E, σ.h.length)
def exK (X : XE) : Code → (AX → ASt → R) → ASt → R
  | .skip, K, σ => K .normal σ
  | .label _, K, σ => K .normal σ
  | .exit id, K, σ => K (.exit id) σ
  | .ret, K, σ => K .ret σ
  | .region _ ops draw, K, σ => (match draw with
    | true => (match okD X.E ops with | true => exOps X true ops ops.toList (K .normal) (σ.head X.E) | false => none)
    | false => exOps X false ops ops.toList (K .normal) (σ.head X.E))
  | .seq x y, K, σ => exK X x (thenK (joinX X.E X.m0 y (exK X y K)) K) σ
  | .cond c x y, K, σ => (match σ.rd c with
    | some (.bool b) => (match c with
      | .tmp d => bsel b (exK X x K (σ.lit d true)) (exK X y K (σ.lit d false))
      | _ => bsel b (exK X x K σ) (exK X y K σ))
    | _ => none)
  | .block id x, K, σ => exK X x (blkK id K) σ
  | .scope x, K, σ => exK X x K σ
  | .loop x, K, σ => X.L (loopP X.E X.m0 x σ).1 (loopP X.E X.m0 x σ).2 x K (σ.gc (loopP X.E X.m0 x σ).1 (loopP X.E X.m0 x σ).2)
  | _, _, _ => none

/-! ### families of evaluations -/
section
variable {ι : Type} (Good : (ι → R) → Prop)
structure Fam : Prop where
  const : ∀ c : R, Good fun _ => c
  bind : ∀ (c : ι → R) (k : ι → PV → Objs → R), Good c → (∀ r h, Good fun i => k i r h) → Good fun i => match c i with | some (r, h) => k i r h | none => none
variable {Good} (F : Fam Good)
theorem Fam.no (F : Fam Good) : Good fun _ => none := F.const none
include F
theorem good_chk {b : Bool} {A : ι → R} (h : Good A) : Good fun i => chk b (A i) := by
  cases b
  · exact F.no
  · exact h
theorem good_bsel {b : Bool} {A B : ι → R} (h : Good A) (h' : Good B) : Good fun i => bsel b (A i) (B i) := by
  cases b
  · exact h'
  · exact h
theorem good_putX {E : AE} {dst : Option Nat} {p : PV} {K : ι → ASt → R} {σ : ASt} (h : ∀ σ, Good fun i => K i σ) : Good fun i => putX E dst p (K i) σ := by
  unfold putX; split
  · exact h _
  · exact F.no
theorem good_putO {E : AE} {dst : Option Nat} {p : Option PV} {K : ι → ASt → R} {σ : ASt} (h : ∀ σ, Good fun i => K i σ) : Good fun i => putO E dst p (K i) σ := by
  cases p
  · exact F.no
  · exact good_putX F h
theorem good_lgetX {es : List PV} {n : Int} {K : ι → PV → R} (h : ∀ p, Good fun i => K i p) : Good fun i => lgetX es n (K i) := by
  unfold lgetX; split
  · split
    · exact h _
    · exact F.no
  · exact F.no
theorem good_byteX {s : ByteArray} {n : Int} {K : ι → Int → R} (h : ∀ p, Good fun i => K i p) : Good fun i => byteX s n (K i) := by
  unfold byteX; split
  · split
    · exact h _
    · exact F.no
  · exact F.no
theorem good_clX {C : ι → Cal} {g : FuncId} {args : List PV} {K : ι → PV → R} (hC : ∀ g args h, Good fun i => C i g args h) (h : ∀ p, Good fun i => K i p) : Good fun i => clX (C i) g args (K i) := by
  have := F.bind (fun i => C i g args []) (fun i r h => match h with | [] => K i r | _ => none) (hC _ _ _) (fun r hh => by
    cases hh
    · exact h r
    · exact F.no)
  refine cast (congrArg Good (funext fun i => ?_)) this
  unfold clX
  cases C i g args [] with
  | none => rfl
  | some x => obtain ⟨r, hh⟩ := x; cases hh <;> rfl
theorem good_clH {C : ι → Cal} {g : FuncId} {args : List PV} {hh : Objs} {K : ι → PV → Objs → R} (hC : ∀ g args h, Good fun i => C i g args h) (h : ∀ p q, Good fun i => K i p q) : Good fun i => clH (C i) g args hh (K i) :=
  F.bind (fun i => C i g args hh) K (hC _ _ _) h
def XE.up (X : XE) (C : Cal) (L : List Nat → Nat → Code → (AX → ASt → R) → ASt → R) : XE := { X with C := C, L := L }
/-- A view hands on what it sees, or fails. -/
def viewOK (V : TypeId → PV → (PV → R) → R) : Prop := ∀ t p, (∀ K, V t p K = K p) ∨ (∀ K, V t p K = none)
def outOK (W : FuncId → Objs → PV → Objs → (PV → Objs → R) → R) : Prop := ∀ g h r h', (∀ K, W g h r h' K = K r h') ∨ (∀ K, W g h r h' K = none)
variable {X : XE} {C : ι → Cal} {L : ι → List Nat → Nat → Code → (AX → ASt → R) → ASt → R} (hV : viewOK X.V) (hW : outOK X.W) (hC : ∀ g args h, Good fun i => C i g args h)
  (hL : ∀ (l : List Nat) (m : Nat) (x : Code) (K : ι → AX → ASt → R) (σ : ASt), (∀ e σ, Good fun i => K i e σ) → Good fun i => L i l m x (K i) σ)
theorem good_exGen {o : Oper} {K : ι → ASt → R} {σ : ASt} (h : ∀ σ, Good fun i => K i σ) : Good fun i => exGen (X.up (C i) (L i)) o (K i) σ := by
  unfold exGen
  show Good fun i => match stepV X.E o σ with | some (p, σ1) => putX X.E o.dst p (K i) σ1 | none => none
  split
  · exact good_putX F h
  · exact F.no
include hV in
theorem good_V {t : TypeId} {p : PV} {K : ι → PV → R} (h : ∀ p, Good fun i => K i p) : Good fun i => X.V t p (K i) := by
  rcases hV t p with e | e
  · simp only [e]; exact h p
  · simp only [e]; exact F.no
include hW in
theorem good_W {g : FuncId} {hh h' : Objs} {r : PV} {K : ι → PV → Objs → R} (h : ∀ p q, Good fun i => K i p q) : Good fun i => X.W g hh r h' (K i) := by
  rcases hW g hh r h' with e | e
  · simp only [e]; exact h _ _
  · simp only [e]; exact F.no
theorem good_sliceL {dst : Option Nat} {sz : Nat} {es : List PV} {lo hi : Option Operand} {K : ι → ASt → R} {σ : ASt} (h : ∀ σ, Good fun i => K i σ) : Good fun i => exSliceL (X.up (C i) (L i)) dst sz es lo hi (K i) σ := by
  cases lo <;> cases hi <;> simp only [exSliceL, XE.up]
  · exact good_putX F h
  all_goals
    split
    · exact good_chk F (good_putX F h)
    · exact F.no
theorem good_sliceS {dst : Option Nat} {s : ByteArray} {lo hi : Option Operand} {K : ι → ASt → R} {σ : ASt} (h : ∀ σ, Good fun i => K i σ) : Good fun i => exSliceS (X.up (C i) (L i)) dst s lo hi (K i) σ := by
  cases lo <;> cases hi <;> simp only [exSliceS, XE.up]
  · exact good_putX F h
  all_goals
    split
    · exact good_chk F (good_putX F h)
    · exact F.no
include hV in
theorem good_exOp {o : Oper} {K : ι → ASt → R} {σ : ASt} (h : ∀ σ, Good fun i => K i σ) : Good fun i => exOp (X.up (C i) (L i)) o (K i) σ := by
  have hg := fun {σ : ASt} => good_exGen F (X := X) (C := C) (L := L) (o := o) (σ := σ) h
  unfold exOp
  simp only [XE.up]
  split
  · split
    · split
      · exact good_chk F (good_putX F h)
      · exact F.no
    · exact hg
  · split
    · simp only [exIdx]
      split
      · split
        · exact good_lgetX F fun p => good_V F hV fun q => good_putX F h
        · exact F.no
      · exact F.no
    · split
      · refine good_chk F (good_lgetX F fun p => good_V F hV fun q => ?_)
        split
        · exact good_putX F h
        · exact F.no
      · exact hg
    · exact hg
  · split
    · split
      · exact good_byteX F fun p => good_putX F h
      · exact F.no
    · exact hg
  · split
    · exact good_bsel F (good_putO F h) (good_putO F h)
    · exact F.no
  · split
    · split
      · split
        · exact good_sliceL F h
        · exact F.no
      · exact F.no
    · split
      · exact good_sliceS F h
      · exact F.no
    · exact hg
  · split
    · simp only [exDiv]; split
      · exact good_chk F (good_putX F h)
      · exact F.no
    · simp only [exDiv]; split
      · exact good_chk F (good_putX F h)
      · exact F.no
    · exact good_chk F (good_putX F h)
    · exact good_chk F (good_putX F h)
    · exact good_chk F (good_putX F h)
    · exact hg
  · split
    · split
      · split
        · exact good_chk F hg
        · exact F.no
      · exact F.no
    · exact hg
    · exact F.no
  · exact hg
include hW hC in
theorem good_exCall {draw : Bool} {o : Oper} {f : Operand} {args : List Operand} {K : ι → ASt → R} {σ : ASt} (h : ∀ σ, Good fun i => K i σ) : Good fun i => exCall (X.up (C i) (L i)) draw o f args (K i) σ := by
  unfold exCall
  simp only [XE.up]
  split
  · split
    · refine good_clX F hC fun r => good_W F hW fun p q => ?_
      cases PV.flat p
      · exact F.no
      · exact good_putX F h
    · cases draw
      · simp only [exCallH]
        split
        · exact good_clH F hC fun r h' => good_W F hW fun p q => good_putX F h
        · exact F.no
      · exact F.no
  · exact F.no
include hV hW hC in
theorem good_ex1 {draw : Bool} {o : Oper} {K : ι → ASt → R} {σ : ASt} (h : ∀ σ, Good fun i => K i σ) : Good fun i => ex1 (X.up (C i) (L i)) draw o (K i) σ := by
  unfold ex1
  split
  · exact good_exCall F hW hC h
  · exact good_exOp F hV h
include hV hW hC in
theorem good_exOps {draw : Bool} {ops : Array Oper} : ∀ (l : List Oper) {K : ι → ASt → R} {σ : ASt}, (∀ σ, Good fun i => K i σ) → Good fun i => exOps (X.up (C i) (L i)) draw ops l (K i) σ
  | [], K, σ, h => h σ
  | o :: l, K, σ, h => by
    have ih : ∀ σ, Good fun i => exOps (X.up (C i) (L i)) draw ops l (K i) σ := fun σ => good_exOps l h
    have hp : ∀ {p : PV} {σ : ASt}, Good fun i => putX X.E o.dst p (exOps (X.up (C i) (L i)) draw ops l (K i)) σ := good_putX F ih
    have hgd : ∀ (d : Nat) (want v : Bool), Good fun i => exGd (X.up (C i) (L i)) draw o d want v (exOps (X.up (C i) (L i)) draw ops l (K i)) σ := fun d want v => by
      unfold exGd
      split
      · exact good_ex1 F hV hW hC ih
      · exact hp
    simp only [exOps]
    split
    · exact good_ex1 F hV hW hC ih
    · split
      · exact hp
      · split
        · exact good_bsel F (hgd _ _ _) (hgd _ _ _)
        · exact hp
        · exact F.no
omit F in
theorem good_thenK {k : ι → ASt → R} {K : ι → AX → ASt → R} (h : ∀ σ, Good fun i => k i σ) (h' : ∀ e σ, Good fun i => K i e σ) (e : AX) (σ : ASt) : Good fun i => thenK (k i) (K i) e σ := by
  cases e
  · exact h σ
  · exact h' _ _
  · exact h' _ _
omit F in
theorem good_blkK {id : Nat} {K : ι → AX → ASt → R} (h' : ∀ e σ, Good fun i => K i e σ) (e : AX) (σ : ASt) : Good fun i => blkK id (K i) e σ := by
  cases e with
  | normal => exact h' _ _
  | ret => exact h' _ _
  | exit j =>
    simp only [blkK]; split
    · exact h' _ _
    · exact h' _ _
include hV hW hC hL in
theorem good_exK : ∀ (c : Code) {K : ι → AX → ASt → R} {σ : ASt}, (∀ e σ, Good fun i => K i e σ) → Good fun i => exK (X.up (C i) (L i)) c (K i) σ
  | .skip, K, σ, h => h _ _
  | .label _, K, σ, h => h _ _
  | .exit _, K, σ, h => h _ _
  | .ret, K, σ, h => h _ _
  | .region _ ops draw, K, σ, h => by
    simp only [exK]
    cases draw
    · exact good_exOps F hV hW hC ops.toList (σ := σ.head X.E) fun σ => h .normal σ
    · show Good fun i => match okD X.E ops with | true => exOps (X.up (C i) (L i)) true ops ops.toList (K i .normal) (σ.head X.E) | false => none
      split
      · exact good_exOps F hV hW hC ops.toList (σ := σ.head X.E) fun σ => h .normal σ
      · exact F.no
  | .seq x y, K, σ, h => by
    simp only [exK]
    refine good_exK x fun e σ => good_thenK (fun σ => ?_) h e σ
    show Good fun i => joinX X.E X.m0 y (exK (X.up (C i) (L i)) y (K i)) σ
    unfold joinX
    split
    · split
      · exact good_exK y h
      · exact F.no
    · exact good_exK y h
  | .cond c x y, K, σ, h => by
    simp only [exK]
    split
    · split
      · exact good_bsel F (good_exK x h) (good_exK y h)
      · exact good_bsel F (good_exK x h) (good_exK y h)
    · exact F.no
  | .block id x, K, σ, h => by simp only [exK]; exact good_exK x fun e σ => good_blkK h e σ
  | .scope x, K, σ, h => by simp only [exK]; exact good_exK x h
  | .loop x, K, σ, h => hL (loopP X.E X.m0 x σ).1 (loopP X.E X.m0 x σ).2 x K (σ.gc (loopP X.E X.m0 x σ).1 (loopP X.E X.m0 x σ).2) h
  | .rangeFunc _ _ _ _, K, σ, h => F.no
  | .goto _, K, σ, h => F.no
  | .refuse _, K, σ, h => F.no
end
end Go.Proofs.Ytmclnnpaephkpaa

/-
  The evaluator that computes: what hangs on symbolic data is left to combinators with names, so that the kernel unfolds a function's code to a plain expression.
  What the evaluator that computes says holds of the abstract wp.
  The least meaning of calls and loops: what some number of unfoldings yields; it is what one unfolding makes of itself, and what it says holds.
-/
import Derived.Test.YtmclnnpaephkpaaAbQ
namespace Go.Proofs.Ytmclnnpaephkpaa
set_option linter.unusedVariables false
set_option linter.unusedSimpArgs false
set_option linter.unnecessarySimpa false
set_option linter.unusedSectionVars false
open Go.RowKit

abbrev R := Option (PV × Objs)
abbrev Cal := FuncId → List PV → Objs → R
def bsel (b : Bool) (A B : R) : R := match b with | true => A | false => B
def chk (b : Bool) (A : R) : R := match b with | true => A | false => none
def lgetX (es : List PV) (n : Int) (K : PV → R) : R := if 0 ≤ n then (match es[n.toNat]? with | some e => K e | none => none) else none
def byteX (s : ByteArray) (n : Int) (K : Int → R) : R := if 0 ≤ n then (match s[n.toNat]? with | some b => K b.toNat | none => none) else none
/-- Results that agree. -/
noncomputable def eqR (a b : PV × Objs) : R := open Classical in if a = b then some a else none
/-- A slice held against nil: where it has no elements, either answer may come. -/
noncomputable def nilX (es : List PV) (K : Bool → R) : R := match K false with
  | some (r, h) => (match es.isEmpty with | false => some (r, h) | true => match K true with | some (r', h') => eqR (r, h) (r', h') | none => none)
  | none => none
def ngetX (es : List PV) (n : Nat) (K : PV → R) : R := match es[n]? with | some e => K e | none => none
def clX (C : Cal) (g : FuncId) (args : List PV) (K : PV → R) : R := match C g args [] with | some (r, []) => K r | _ => none
def clH (C : Cal) (g : FuncId) (args : List PV) (h : Objs) (K : PV → Objs → R) : R := match C g args h with | some (r, h') => K r h' | none => none
/-- A function value held against nil. -/
def fnX (p : PV) (K : Bool → R) : R := match p with | .func _ _ _ => K false | .raw .nilFunc => K true | _ => none
/-- A function value, taken apart. -/
def fvX (p : PV) (K : FuncId → List PV → List PV → R) : R := match p with | .func (.func g) first caps => K g first caps | _ => none
/-- An element of an array of values: one way for each. -/
def arrB : List PV → Nat → Int → (PV → R) → R
  | [], _, _, _ => none
  | p :: r, k, n, K => bsel (n == (k : Int)) (K p) (arrB r (k + 1) n K)
/-- What a map holds at a key: two ways. -/
def mapX (s : Option IntKind) (L : List PV) (q : PV) (A : PV → R) (B : R) : R := match mapGet s L q with
  | some (some p) => A p
  | some none => B
  | none => none
structure XE where
  E : AE
  C : Cal
  V : TypeId → PV → (PV → R) → R
  W : FuncId → Objs → PV → Objs → (PV → Objs → R) → R
  L : List Nat → Nat → Code → (AX → ASt → R) → ASt → R
  m0 : Nat
def slit (d : Nat) (v : Bool) : Slots → Slots
  | [] => []
  | (j, q) :: l => bif Nat.beq j d then (j, .bool v) :: l else (j, q) :: slit d v l
def ASt.lit (d : Nat) (v : Bool) (σ : ASt) : ASt := { σ with s := slit d v σ.s }
theorem slit_eq {d : Nat} {v : Bool} : ∀ {s : Slots}, sget d s = some (.bool v) → slit d v s = s
  | [], h => by simp [sget] at h
  | (j, q) :: l, h => by
    rw [sget] at h
    rw [slit]
    by_cases e : j = d
    · rw [if_pos e] at h; injection h with h; subst h; subst e
      rw [show Nat.beq j j = true by simp]; rfl
    · rw [if_neg e] at h
      have hb : Nat.beq j d = false := by
        cases h : Nat.beq j d
        · rfl
        · exact absurd (Nat.eq_of_beq_eq_true h) e
      rw [hb, slit_eq h]; rfl
def putX (E : AE) (dst : Option Nat) (p : PV) (K : ASt → R) (σ : ASt) : R := match ASt.put E dst p σ with | some σ' => K σ' | none => none
def putO (E : AE) (dst : Option Nat) (p : Option PV) (K : ASt → R) (σ : ASt) : R := match p with | some p => putX E dst p K σ | none => none
def exGen (X : XE) (o : Oper) (K : ASt → R) (σ : ASt) : R := match stepV X.E o σ with | some (p, σ1) => putX X.E o.dst p K σ1 | none => none
def exSliceL (X : XE) (dst : Option Nat) (sz : Nat) (es : List PV) (lo hi : Option Operand) (K : ASt → R) (σ : ASt) : R :=
  match lo, hi with
  | none, none => putX X.E dst (.sl false sz es) K σ
  | some l, none => (match σ.rd l with | some (.int _ a) => chk (decide (0 ≤ a) && decide (a ≤ es.length)) (putX X.E dst (.sl false sz (es.drop a.toNat)) K σ) | _ => none)
  | none, some h => (match σ.rd h with | some (.int _ b) => chk (decide (0 ≤ b) && decide (b ≤ es.length)) (putX X.E dst (.sl false sz (es.take b.toNat)) K σ) | _ => none)
  | some l, some h => (match σ.rd l, σ.rd h with | some (.int _ a), some (.int _ b) => chk (decide (0 ≤ a) && decide (a ≤ b) && decide (b ≤ es.length)) (putX X.E dst (.sl false sz ((es.take b.toNat).drop a.toNat)) K σ) | _, _ => none)
def exSliceS (X : XE) (dst : Option Nat) (s : ByteArray) (lo hi : Option Operand) (K : ASt → R) (σ : ASt) : R :=
  match lo, hi with
  | none, none => putX X.E dst (.str (s.extract 0 s.size)) K σ
  | some l, none => (match σ.rd l with | some (.int _ a) => chk (decide (0 ≤ a) && decide (a ≤ s.size)) (putX X.E dst (.str (s.extract a.toNat s.size)) K σ) | _ => none)
  | none, some h => (match σ.rd h with | some (.int _ b) => chk (decide (0 ≤ b) && decide (b ≤ s.size)) (putX X.E dst (.str (s.extract 0 b.toNat)) K σ) | _ => none)
  | some l, some h => (match σ.rd l, σ.rd h with | some (.int _ a), some (.int _ b) => chk (decide (0 ≤ a) && decide (a ≤ b) && decide (b ≤ s.size)) (putX X.E dst (.str (s.extract a.toNat b.toNat)) K σ) | _, _ => none)
def exIdx (X : XE) (dst : Option Nat) (t : TypeId) (sz : Nat) (es : List PV) (n : Int) (K : ASt → R) (σ : ASt) : R :=
  match elemOf' X.E.P t, elemTI X.E.P t with
  | some e, some I => if I.size = sz then lgetX es n fun p => X.V e p fun q => putX X.E dst (.cst q) K σ else none
  | _, _ => none
def exDiv (X : XE) (dst : Option Nat) (k k' : IntKind) (b : Int) (r : Int) (K : ASt → R) (σ : ASt) : R := if k = k' then chk (!(b == 0)) (putX X.E dst (.int k r) K σ) else none
def exSh (X : XE) (dst : Option Nat) (k : IntKind) (b : Int) (r : Int) (K : ASt → R) (σ : ASt) : R := chk (decide (0 ≤ b)) (putX X.E dst (.int k r) K σ)
/-- An array type whose elements are single cells: its length, its elements' type. -/
def arrOne (P : Program) (t : TypeId) : Option (Nat × TypeId) := match P.underlying t with
  | some (.array m e) => (match ti P e with | some I => (match Nat.beq I.size 1 && !I.agg with | true => some (m, e) | false => none) | none => none)
  | _ => none
def isSy (E : AE) : Operand → Bool
  | .tmp t => inI E.sy t
  | _ => false
/-- A slice of a slice over an object. -/
def exSliceH (X : XE) (dst : Option Nat) (t : TypeId) (i off n sz : Nat) (lo hi : Option Operand) (K : ASt → R) (σ : ASt) : R :=
  match elemTI X.E.P t with
  | some I => (match Nat.beq I.size sz && Nat.blt 0 sz with
    | true => (match lo, hi with
      | none, some h => (match σ.rd h with | some (.int _ b) => chk (decide (0 ≤ b) && decide (b ≤ (n : Int)) && decide (0 < n)) (putX X.E dst (.slh i off b.toNat sz) K σ) | _ => none)
      | some l, none => (match σ.rd l with | some (.int _ a) => chk (decide (0 ≤ a) && decide (a ≤ (n : Int))) (bsel (decide (a < (n : Int))) (putX X.E dst (.slh i (off + a.toNat * sz) (n - a.toNat) sz) K σ) (putX X.E dst (.sl false sz []) K σ)) | _ => none)
      | _, _ => none)
    | false => none)
  | none => none
def exMake (X : XE) (dst : Option Nat) (t : TypeId) (l c : Operand) (K : ASt → R) (σ : ASt) : R :=
  match elemTI X.E.P t, σ.rd l, σ.rd c with
  | some I, some (.int _ n), some (.int _ n') => (match Nat.blt 0 I.size && Nat.ble I.bytes 1024 with
    | true => chk (decide (n = n') && decide (0 ≤ n) && decide (n ≤ 1073741824)) (match inMv X.E.mu dst with
      | true => putX X.E dst (.slh σ.h.length 0 n.toNat I.size) K ⟨σ.s, σ.h ++ [some (zeroCs n.toNat I)]⟩
      | false => (match Nat.beq (zeroTI I).size I.size && (zeroTI I).okE with | true => putX X.E dst (.sl true I.size (List.replicate n.toNat (zeroTI I))) K σ | false => none))
    | false => none)
  | _, _, _ => none
/-- copy. -/
def exCopy (X : XE) (dst : Option Nat) (t : TypeId) (x y : Operand) (K : ASt → R) (σ : ASt) : R :=
  match elemTI X.E.P t, σ.rd x, σ.rd y with
  | some I, some (.slh i off n sz), some (.sl _ sz' es) => (match σ.h[i]? with
    | some (some cs) => (match Nat.beq I.size sz && (Nat.blt 0 sz && (Nat.beq sz' sz || Nat.beq sz' 0)) with
      | true => chk (decide (off + n * sz ≤ cs.length)) (putX X.E dst (.int .i64 ((Nat.min es.length n : Nat) : Int)) K { σ with h := σ.h.set i (some (cs.take off ++ (flatPV es).take (Nat.min es.length n * sz) ++ cs.drop (off + Nat.min es.length n * sz))) })
      | false => none)
    | _ => none)
  | some I, some (.slh i off n sz), some (.slh j off2 m sz') => (match σ.h[i]?, σ.h[j]? with
    | some (some cs), some (some cs2) => (match Nat.beq I.size sz && (Nat.blt 0 sz && Nat.beq sz' sz) with
      | true => chk (decide (off + n * sz ≤ cs.length) && decide (off2 + m * sz ≤ cs2.length)) (putX X.E dst (.int .i64 ((Nat.min m n : Nat) : Int)) K { σ with h := σ.h.set i (some (cs.take off ++ (((cs2.drop off2).take (m * sz)).map PV.un).take (Nat.min m n * sz) ++ cs.drop (off + Nat.min m n * sz))) })
      | false => none)
    | _, _ => none)
  | _, _, _ => none
def exClear (X : XE) (dst : Option Nat) (t : TypeId) (x : Operand) (K : ASt → R) (σ : ASt) : R :=
  match elemTI X.E.P t, σ.rd x, dst with
  | some I, some (.slh i off n sz), none => (match σ.h[i]? with
    | some (some cs) => (match Nat.beq I.size sz with
      | true => chk (decide (off + n * sz ≤ cs.length)) (K { σ with h := σ.h.set i (some (cs.take off ++ (zeroCs n I).map PV.un ++ cs.drop (off + n * sz))) })
      | false => none)
    | _ => none)
  | some _, some (.sl _ _ []), none => K σ
  | _, _, _ => none
def exFn (X : XE) (dst : Option Nat) (t : TypeId) (p : PV) (pos : Bool) (K : ASt → R) (σ : ASt) : R := match isFuncT X.E.P t with
  | true => fnX p fun b => putX X.E dst (.bool (b == pos)) K σ
  | false => none
/-- Appended to a slice that nobody else knows. -/
def exAppP (X : XE) (dst : Option Nat) (ts : List TypeId) (s : Operand) (n sz : Nat) (cs : List PV) (sz' : Nat) (es' : List PV) (K : ASt → R) (σ : ASt) : R := match ts with
  | [t, u] => (match elemTI X.E.P t with
    | some I => (match Nat.beq t u && (Nat.blt 0 I.size && (Nat.ble I.bytes 1024 && (Nat.beq sz I.size && (Nat.beq sz' I.size || Nat.beq sz' 0)))) with
      | true => chk (decide (n + es'.length ≤ LIM) && (flatPV es').all PV.lit) (putX X.E dst (.slp true (n + es'.length) sz (cs ++ flatPV es')) K (σ.clr s))
      | false => none)
    | none => none)
  | _ => none
/-- An element's place in an object (b: the slice's place is not known). -/
def offX (b : Bool) (off : Nat) (n : Int) (sz : Nat) : Nat := match b with
  | true => off + n.toNat * sz
  | false => (match off, sz with | 0, 1 => n.toNat | _, _ => off + n.toNat * sz)
theorem offX_eq (b : Bool) (off : Nat) (n : Int) (sz : Nat) : offX b off n sz = off + n.toNat * sz := by
  unfold offX
  split
  · rfl
  · split
    · omega
    · rfl
/-- The elements' type of a map type. -/
def mapEl (P : Program) (t : TypeId) : TypeId := match P.underlying t with | some (.map _ e) => e | _ => 0
def exLook (X : XE) (dst : Option Nat) (t : TypeId) (ok : Bool) (m q : PV) (K : ASt → R) (σ : ASt) : R :=
  match mapTI X.E.P t, m with
  | some (s, z), .bld 0 i => (match σ.h[i]? with
    | some (some cs) => (match mapIn cs with
      | some (_, L) => (match isKeyK s q with
        | true => mapX s L q (fun p => X.V (mapEl X.E.P t) p fun p' => putX X.E dst (lookR ok z (some p')) K σ) (putX X.E dst (lookR ok z none) K σ)
        | false => none)
      | none => none)
    | _ => none)
  | _, _ => none
def exUpd (X : XE) (dst : Option Nat) (t : TypeId) (m q x : PV) (K : ASt → R) (σ : ASt) : R :=
  match mapTI X.E.P t, m, dst with
  | some (s, _), .bld 0 i, none => (match σ.h[i]? with
    | some (some cs) => (match mapIn cs with
      | some (b, L) => (match isKeyK s q with
        | true => chk (mapOK s L q && (!b || x.flat)) (K { σ with h := σ.h.set i (some [mapC b (mapPut s L q x)]) })
        | false => none)
      | none => none)
    | _ => none)
  | _, _, _ => none
/-- The next place of a string's iterator: two ways. -/
def exNext (X : XE) (dst : Option Nat) (b : Bool) (q : Option PV) (K : ASt → R) (σ : ASt) : R := match b, q with
  | true, some (.bld T i) => (match σ.h[i]? with
    | some (some cs) => (match iterIn cs with
      | some (s, p) => (match Nat.beq T ITT with
        | true => chk (decide (0 ≤ p)) (bsel (decide (p < (s.size : Int))) (putX X.E dst (.tuple [.bool true, .int .i64 p, .int .i32 (iterRn s p)]) K { σ with h := σ.h.set i (some [iterC s (iterNx s p)]) }) (putX X.E dst (.tuple [.bool false]) K σ))
        | false => none)
      | none => none)
    | _ => none)
  | _, _ => none
/-- An operation that calls no function. -/
def exOp (X : XE) (o : Oper) (K : ASt → R) (σ : ASt) : R :=
  match o.op with
  | .convert s d x => (match σ.rd x with
    | some (.sl _ _ es) => (match isBytesT X.E.P s && isStrT X.E.P d with | true => chk (bytesP es) (putX X.E o.dst (.str (strOf es)) K σ) | false => none)
    | _ => exGen X o K σ)
  | .indexAddr t x i => (match σ.rd x, σ.rd i with
    | some (.sl _ sz es), some (.int _ n) => exIdx X o.dst t sz es n K σ
    | some (.slh i off m sz), some (.int _ n) => (match inMv X.E.sy o.dst with
      | true => (match elemTI X.E.P t with
        | some I => (match Nat.beq I.size sz with | true => chk (decide (0 ≤ n) && decide (n < (m : Int))) (putX X.E o.dst (.ptr i (offX (inMv X.E.sy (o.dst.map (8000000 + ·))) off n sz)) K σ) | false => none)
        | none => none)
      | false => exGen X o K σ)
    | some (.ptr i off), some (.int _ n) => (match inMv X.E.sy o.dst with
      | true => (match arrTI X.E.P t with
        | some (m, I) => chk (decide (0 ≤ n) && decide (n < (m : Int))) (putX X.E o.dst (.ptr i (off + n.toNat * I.size)) K σ)
        | none => none)
      | false => exGen X o K σ)
    | some (.cst (.agg cs)), some (.int _ n) => (match arrOne X.E.P t with
      | some (m, e) => chk (decide (n < (m : Int))) (lgetX cs n fun p => X.V e p fun q => (match q.one with | true => putX X.E o.dst (.cst q.un) K σ | false => none))
      | none => exGen X o K σ)
    | _, _ => exGen X o K σ)
  | .load t a => (match isSy X.E a && !inMv X.E.ln o.dst with
    | true => (match ti X.E.P t, σ.rd a with
      | some I, some (.ptr i off) => (match σ.h[i]? with
        | some (some cs) => (match I.agg with
          | true => chk (decide (off + I.size ≤ cs.length)) (X.V t (.agg (((cs.drop off).take I.size).map PV.un)) fun q => putX X.E o.dst q K σ)
          | false => (match !inMv X.E.mv o.dst with | true => ngetX cs off fun p => X.V t p fun q => putX X.E o.dst q.un K σ | false => none))
        | _ => none)
      | _, _ => none)
    | false => (match σ.rd a, ti X.E.P t with
      | some (.cst e), some I => chk (decide (e.isAgg = I.agg) && decide (e.size = I.size)) (putX X.E o.dst e.un K σ)
      | _, _ => exGen X o K σ))
  | .store t a x => (match isSy X.E a && !inMv X.E.mu (opT a) with
    | true => (match ti X.E.P t, σ.rd a, σ.ev x, o.dst with
      | some I, some (.ptr i off), some p, none => (match σ.h[i]? with
        | some (some cs) => (match p with
          | .agg ds => (match Nat.beq ds.length I.size && ds.all PV.one with | true => chk (decide (off + I.size ≤ cs.length)) (K { σ.clr x with h := (σ.clr x).h.set i (some (cs.take off ++ ds.map PV.un ++ cs.drop (off + I.size))) }) | false => none)
          | p => (match p.one && Nat.beq I.size 1 with | true => chk (decide (off < cs.length)) (K { σ.clr x with h := (σ.clr x).h.set i (some (cs.set off p)) }) | false => none))
        | _ => none)
      | _, _, _, _ => none)
    | false => (match σ.ev x with
      | some (.agg ds) => (match ti X.E.P t, σ.rd a, o.dst with
        | some I, some (.ptr i off), none => (match σ.h[i]? with
          | some (some cs) => (match stOK X.E.mu X.E.ln (opT a) (σ.rd a) && (Nat.beq ds.length I.size && Nat.ble (off + I.size) cs.length) with
            | true => chk (ds.all PV.one) (K { σ.clr x with h := (σ.clr x).h.set i (some (cs.take off ++ ds.map PV.un ++ cs.drop (off + I.size))) })
            | false => none)
          | _ => none)
        | _, _, _ => none)
      | _ => exGen X o K σ))
  | .index t x i => (match σ.rd x, σ.rd i with
    | some (.str s), some (.int _ n) => (match isStrT X.E.P t with | true => byteX s n fun b => putX X.E o.dst (.int .u8 b) K σ | false => none)
    | some (.agg cs), some (.int _ n) => (match inMv X.E.sy o.dst with
      | true => (match arrOne X.E.P t with
        | some (m, _) => chk (decide (0 ≤ n) && decide (n < (m : Int))) (arrB cs 0 n fun p => (match p.one with | true => putX X.E o.dst p.un K σ | false => none))
        | none => none)
      | false => exGen X o K σ)
    | _, _ => exGen X o K σ)
  | .pick c a b => (match σ.rd c with
    | some (.bool v) => bsel v (putO X.E o.dst (σ.rd a) K σ) (putO X.E o.dst (σ.rd b) K σ)
    | _ => none)
  | .slice t x lo hi none => (match σ.rd x with
    | some (.sl _ sz es) => (match elemTI X.E.P t with | some I => if I.size = sz then exSliceL X o.dst sz es lo hi K σ else none | none => none)
    | some (.str s) => (match isStrT X.E.P t with | true => exSliceS X o.dst s lo hi K σ | false => none)
    | some (.slh i off n sz) => exSliceH X o.dst t i off n sz lo hi K σ
    | _ => exGen X o K σ)
  | .slice t x (some l) (some u) (some m) => (match σ.rd x, σ.rd l, σ.rd u, σ.rd m with
    | some (.sl _ sz es), some (.int _ a), some (.int _ b), some (.int _ c) => (match elemTI X.E.P t with
      | some I => (match Nat.beq I.size sz with | true => chk (decide (0 ≤ a) && decide (a ≤ b) && decide (b ≤ c) && decide (c ≤ (es.length : Int))) (putX X.E o.dst (.sl false sz ((es.take b.toNat).drop a.toNat)) K σ) | false => none)
      | none => none)
    | _, _, _, _ => none)
  | .makeSlice t l c => exMake X o.dst t l c K σ
  | .lookup t m k ok => (match σ.rd m, σ.rd k with
    | some pm, some q => exLook X o.dst t ok pm q K σ
    | _, _ => none)
  | .mapUpdate t m k x => (match σ.rd m, σ.rd k, σ.rd x with
    | some pm, some q, some y => exUpd X o.dst t pm q y K σ
    | _, _, _ => none)
  | .next x b => exNext X o.dst b (σ.rd x) K σ
  | .fieldAddr s x f => (match σ.rd x, fieldsOf X.E.P s with
    | some (.cst (.agg cs)), some fs => (match fs[f]? with
      | some (off, z, false) => (match Nat.beq z 0, cs[off]? with
        | false, some p => chk p.one (putX X.E o.dst (.cst p.un) K σ)
        | _, _ => none)
      | _ => exGen X o K σ)
    | _, _ => exGen X o K σ)
  | .box t x => (match inMv X.E.fz o.dst, σ.rd x with
    | true, some (.agg ds) => chk (ds.all PV.one && PV.flats ds) (putX X.E o.dst (.cst (.agg (ds.map PV.un))) K σ)
    | _, _ => exGen X o K σ)
  | .binOp op t x y _ => (match op, σ.rd x, σ.rd y with
    | .quo, some (.int k a), some (.int k' b) => exDiv X o.dst k k' b (k.wrap (a.tdiv b)) K σ
    | .rem, some (.int k a), some (.int k' b) => exDiv X o.dst k k' b (a.tmod b) K σ
    | .shl, some (.int k a), some (.int _ b) => exSh X o.dst k b (k.wrap (a * 2 ^ min b.toNat k.bits)) K σ
    | .shr, some (.int k a), some (.int _ b) => exSh X o.dst k b (a.fdiv (2 ^ min b.toNat k.bits)) K σ
    | .add, some (.str a), some (.str b) => chk (decide (a.size + b.size ≤ LIM)) (putX X.E o.dst (.str (a ++ b)) K σ)
    | .eql, some p, some (.raw .nilFunc) => exFn X o.dst t p true K σ
    | .neq, some p, some (.raw .nilFunc) => exFn X o.dst t p false K σ
    | _, _, _ => exGen X o K σ)
  | .call c => (match c.callee with
    | .builtin .clear => (match c.args.toList, c.argTypes.toList with
      | [x], [t] => exClear X o.dst t x K σ
      | _, _ => none)
    | .builtin .copy => (match c.args.toList, c.argTypes.toList with
      | [x, y], [t, _] => exCopy X o.dst t x y K σ
      | _, _ => none)
    | .builtin .append => (match c.args.toList with
      | [s, x] => (match σ.ev s, σ.rd x with
        | some (.sl _ _ es), some (.sl _ _ es') => chk (decide (es.length + es'.length ≤ LIM)) (exGen X o K σ)
        | some (.sl _ _ es), some (.str b) => chk (decide (es.length + b.size ≤ LIM)) (exGen X o K σ)
        | some (.slp true n sz cs), some (.sl _ sz' es') => exAppP X o.dst c.argTypes.toList s n sz cs sz' es' K σ
        | some (.slT l), some (.str b) => chk (decide (l.length + b.size ≤ LIM)) (exGen X o K σ)
        | some (.slT l), some (.sl _ _ es') => (match oneB es' with
          | some c => chk (decide (l.length + 1 ≤ LIM) && decide (0 ≤ c) && decide (c < 256)) (exGen X o K σ)
          | none => none)
        | _, _ => none)
      | _ => none)
    | .builtin _ => exGen X o K σ
    | _ => none)
  | _ => exGen X o K σ
def rszA (zs : List Nat) (p : PV) : PV := match zs.all (Nat.beq · 0) with | true => p | false => p.reszT zs
def argT (P : Program) : List TypeId → List PV → List PV
  | t :: ts, p :: ps => rszA (cellSz P 8 t) p :: argT P ts ps
  | _, ps => ps
def callTs (E : AE) (o : Oper) : List TypeId := match inMv E.sy (o.dst.map (9000000 + ·)) with | true => [] | false => (match o.op with | .call c => c.argTypes.toList | _ => [])
mutual
def PV.ids : PV → List Nat
  | .ptr i _ => [i]
  | .bld _ i => [i]
  | .slh i _ _ _ => [i]
  | .func _ a c => PV.idsL a ++ PV.idsL c
  | .agg cs => PV.idsL cs
  | .tuple cs => PV.idsL cs
  | _ => []
def PV.idsL : List PV → List Nat
  | [] => []
  | p :: ps => p.ids ++ PV.idsL ps
end
def addI (l : List Nat) : List Nat → List Nat
  | [] => l
  | i :: is => addI (match inI l i with | true => l | false => l ++ [i]) is
def cellIds (H : Objs) : List Nat → List Nat
  | [] => []
  | i :: l => (match getO H i with | some cs => PV.idsL cs | none => []) ++ cellIds H l
def closeI (H : Objs) : Nat → List Nat → List Nat
  | 0, l => l
  | n + 1, l => closeI H n (addI l (cellIds H l))
def subOK (ids : List Nat) (H : Objs) (full : List PV) : Bool :=
  nodupB ids && (ids.all (fun i => Nat.blt i H.length) && (PV.allIL (inI ids) full && ids.all fun i => match getO H i with | some cs => PV.allIL (inI ids) cs | none => true))
/-- A call that hands over objects. -/
def exCallH (X : XE) (dst : Option Nat) (g : FuncId) (full : List PV) (ids : List Nat) (K : ASt → R) (σ : ASt) : R :=
  match subOK ids σ.h full with
  | true => clH X.C g (renL (posI ids) full) ((ids.map (getO σ.h)).map (renO (posI ids))) fun r h' => X.W g ((ids.map (getO σ.h)).map (renO (posI ids))) r h' fun r' h'' => putX X.E dst (renP (backI ids σ.h.length) r') K ⟨σ.s, bigH ids σ.h h''⟩
  | false => none
def plainOb : Option (List PV) → Bool
  | some cs => cs.all plainC
  | none => true
def setP (ids : List Nat) (H h' : Objs) : Objs := setIds ids (h'.take ids.length) H ++ h'.drop ids.length
/-- A call that hands over objects whose cells are plain, whatever they are. -/
def exCallP (X : XE) (dst : Option Nat) (g : FuncId) (full : List PV) (ids : List Nat) (K : ASt → R) (σ : ASt) : R :=
  match nodupB ids && (ids.all (fun i => Nat.blt i σ.h.length) && PV.allIL (inI ids) full) with
  | true => chk ((ids.map (getO σ.h)).all plainOb) (clH X.C g (renL (posI ids) full) (ids.map (getO σ.h)) fun r h' => X.W g (ids.map (getO σ.h)) r h' fun r' h'' => chk (h''.all plainOb) (putX X.E dst (renP (backI ids σ.h.length) r') K ⟨σ.s, setP ids σ.h h''⟩))
  | false => none
/-- A result that is a slice of its own, taken as what is written. -/
def exThaw (X : XE) (dst : Option Nat) (r : PV) (K : ASt → R) (σ : ASt) : R := match r with
  | .sl true 1 es => chk (decide (0 < es.length) && es.all plainC) (putX X.E dst (.slh σ.h.length 0 es.length 1) K ⟨σ.s, σ.h ++ [some es]⟩)
  | .sl true sz es => bsel (decide (0 < es.length)) (chk (es.all (plainE sz)) (putX X.E dst (.slh σ.h.length 0 es.length sz) K ⟨σ.s, σ.h ++ [some (flatPV es)]⟩)) (putX X.E dst (.sl true sz []) K σ)
  | _ => none
/-- A call that is lent what is written. -/
def exLend (X : XE) (dst : Option Nat) (g : FuncId) (full : List PV) (K : ASt → R) (σ : ASt) : R :=
  chk (lendCL σ.h full) (clX X.C g (lendL σ.h full) fun r => X.W g [] r [] fun r' _ => (match r'.noref with | true => putX X.E dst r' K σ | false => none))
/-- The listed objects are not handed over. -/
def roOK (l ids : List Nat) (n : Nat) : Bool := l.all fun k => match Nat.ble 1000000 k with
  | true => Nat.blt (k - 1000000) n && !inI ids (k - 1000000)
  | false => true
def exCall (X : XE) (draw : Bool) (o : Oper) (f : Operand) (args : List Operand) (K : ASt → R) (σ : ASt) : R :=
  match σ.rd f, allSome (args.map σ.rd) with
  | some (.func (.func g) first caps), some as => (match !draw && (inMv X.E.ln o.dst && inMv X.E.sy o.dst) with
   | true => (match inMv X.E.sy (o.dst.map (6000000 + ·)) with
     | true => exCallP X o.dst g (first ++ argT X.E.P (callTs X.E o) as ++ caps) (addI [] (PV.idsL (first ++ argT X.E.P (callTs X.E o) as ++ caps))) K σ
     | false => exCallH X o.dst g (first ++ argT X.E.P (callTs X.E o) as ++ caps) (closeI σ.h 3 (addI [] (PV.idsL (first ++ argT X.E.P (callTs X.E o) as ++ caps)))) K σ)
   | false => match PV.flats (first ++ argT X.E.P (callTs X.E o) as ++ caps) with
    | true => clX X.C g (first ++ argT X.E.P (callTs X.E o) as ++ caps) fun r => X.W g [] r [] fun r' _ => (match !draw && inMv X.E.mu o.dst with
      | true => exThaw X o.dst r' K σ
      | false => (match PV.flat r' with | true => putX X.E o.dst r' K σ | false => none))
    | false => (match draw with
      | true => match inMv X.E.sy o.dst && roOK X.E.ln (closeI σ.h 3 (addI [] (PV.idsL (first ++ argT X.E.P (callTs X.E o) as ++ caps)))) σ.h.length with
       | true => exCallH X o.dst g (first ++ argT X.E.P (callTs X.E o) as ++ caps) (closeI σ.h 3 (addI [] (PV.idsL (first ++ argT X.E.P (callTs X.E o) as ++ caps)))) K σ
       | false => none
      | false => match inMv X.E.ln o.dst with
       | true => exLend X o.dst g (first ++ argT X.E.P (callTs X.E o) as ++ caps) K σ
       | false => match inMv X.E.sy o.dst with
       | true => exCallP X o.dst g (first ++ argT X.E.P (callTs X.E o) as ++ caps) (addI [] (PV.idsL (first ++ argT X.E.P (callTs X.E o) as ++ caps))) K σ
       | false => exCallH X o.dst g (first ++ argT X.E.P (callTs X.E o) as ++ caps) (closeI σ.h 3 (addI [] (PV.idsL (first ++ argT X.E.P (callTs X.E o) as ++ caps)))) K σ))
  | _, _ => none
/-- A call of a function value that is not known: pure. -/
def exCallF (X : XE) (o : Oper) (f : Operand) (args : List Operand) (K : ASt → R) (σ : ASt) : R :=
  match σ.rd f, allSome (args.map σ.rd) with
  | some p, some as => fvX p fun g first caps => chk (PV.flats (first ++ argT X.E.P (callTs X.E o) as ++ caps)) (clX X.C g (first ++ argT X.E.P (callTs X.E o) as ++ caps) fun r => X.V o.type r fun r' => (match PV.flat r' with | true => putX X.E o.dst r' K σ | false => none))
  | _, _ => none
noncomputable def ex1 (X : XE) (draw : Bool) (o : Oper) (K : ASt → R) (σ : ASt) : R :=
  match isCall o with
  | some (f, args) => (match inMv X.E.sy (o.dst.map (2000000 + ·)) with | true => exCallF X o f args K σ | false => exCall X draw o f args K σ)
  | none => match draw with
    | true => exOp X o K σ
    | false => match nilCmp X.E o σ with
      | some (es, pos) => nilX es fun b => putX X.E o.dst (.bool (b == pos)) K σ
      | none => exOp X o K σ
noncomputable def exGd (X : XE) (draw : Bool) (o : Oper) (d : Nat) (want v : Bool) (K : ASt → R) (σ : ASt) : R :=
  match v == want with
  | true => ex1 X draw o K (σ.lit d v)
  | false => putX X.E o.dst (.tuple []) K (σ.lit d v)
noncomputable def exOps (X : XE) (draw : Bool) (ops : Array Oper) : List Oper → (ASt → R) → ASt → R
  | [], K, σ => K σ
  | o :: l, K, σ => match o.guard with
    | none => ex1 X draw o (exOps X draw ops l K) σ
    | some (j, want) => match (ops[j]?).bind (·.dst) with
      | none => putX X.E o.dst (.tuple []) (exOps X draw ops l K) σ
      | some d => match sget d σ.s with
        | some (.bool b) => bsel b (exGd X draw o d want true (exOps X draw ops l K) σ) (exGd X draw o d want false (exOps X draw ops l K) σ)
        | some (.tuple []) => putX X.E o.dst (.tuple []) (exOps X draw ops l K) σ
        | _ => none
def thenK (k : ASt → R) (K : AX → ASt → R) : AX → ASt → R
  | .normal, σ => k σ
  | .ret, σ => K .ret σ
  | .exit i, σ => K (.exit i) σ
def blkK (id : Nat) (K : AX → ASt → R) : AX → ASt → R
  | .exit i, σ => if i = id then K .normal σ else K (.exit i) σ
  | .normal, σ => K .normal σ
  | .ret, σ => K .ret σ
def ASt.keys (E : AE) (σ : ASt) : List Nat := (σ.keep E.vars).s.map (·.1)
/-- The first region of a piece of code (its number and one). -/
def rid : Code → Nat
  | .region id _ _ => id + 1
  | .seq .skip y => rid y
  | .seq (.label _) y => rid y
  | .seq x _ => rid x
  | .block _ x => rid x
  | .scope x => rid x
  | .loop x => rid x
  | _ => 0
mutual
/-- One more than the greatest number of an object that a value names. -/
def PV.tops : PV → Nat
  | .ptr i _ => i + 1
  | .bld _ i => i + 1
  | .slh i _ _ _ => i + 1
  | .func _ f c => Nat.max (PV.topsL f) (PV.topsL c)
  | .agg cs => PV.topsL cs
  | .tuple cs => PV.topsL cs
  | _ => 0
def PV.topsL : List PV → Nat
  | [] => 0
  | p :: ps => Nat.max p.tops (PV.topsL ps)
end
def topsS : Slots → Nat
  | [] => 0
  | (_, p) :: l => Nat.max p.tops (topsS l)
def topsH : Nat → Objs → Nat
  | 0, _ => 0
  | _, [] => 0
  | n + 1, o :: h => Nat.max (match o with | some cs => PV.topsL cs | none => 0) (topsH n h)
/-- The objects that slices over them name: their cells need not be written out. -/
def slhOf : PV → List Nat
  | .slh i _ _ _ => [i]
  | _ => []
def flagL : List PV → List Nat
  | [] => []
  | p :: ps => addI (slhOf p) (flagL ps)
/-- Objects that are listed by their numbers. -/
def objF : List Nat → List Nat
  | [] => []
  | k :: l => (match Nat.ble 8500000 k with | true => (k - 8500000) :: objF l | false => objF l)
def flagS (l : List Nat) : Slots → List Nat
  | [] => objF l
  | (k, p) :: s => (match inI l k with | true => addI (match inI l (7000000 + k) with | true => p.ids | false => slhOf p) (flagS l s) | false => flagS l s)
def skipO (fl : List Nat) : Nat → Objs → Objs
  | _, [] => []
  | j, o :: h => (match inI fl j with | true => none | false => o) :: skipO fl (j + 1) h
/-- One cell, no object named. -/
def flC (p : PV) : Bool := p.one && p.flat
def plainO (h : Objs) : List Nat → Bool
  | [] => true
  | i :: is => (match h[i]? with | some (some cs) => cs.all flC | _ => true) && plainO h is
/-- How many objects are still named, if these slots are kept. -/
def needM (m0 : Nat) (l : List Nat) (σ : ASt) : Nat :=
  let h := skipO (flagS l σ.s) 0 σ.h
  let a := Nat.max m0 (topsS (σ.keep l).s)
  let b := Nat.max a (topsH a h)
  Nat.max b (topsH b h)
def plainG (l : List Nat) (m : Nat) (σ : ASt) : Bool := plainO (σ.gc l m).h (flagS l (σ.gc l m).s)
def gcOKf (l : List Nat) (m : Nat) (σ : ASt) : Bool := (σ.gc l m).s.all (fun kp => kp.2.blw m) && blwH m (skipO (flagS l (σ.gc l m).s) 0 (σ.gc l m).h)
theorem skipO_get (fl : List Nat) : ∀ (h : Objs) (j k : Nat) (o : Option (List PV)), h[k]? = some o → (skipO fl j h)[k]? = some (match inI fl (j + k) with | true => none | false => o)
  | [], _, _, _, h => by simp at h
  | a :: h, j, 0, o, e => by simp at e; subst e; simp [skipO]
  | a :: h, j, k + 1, o, e => by
    rw [skipO, List.getElem?_cons_succ, skipO_get fl h (j + 1) k o (by simpa using e), show j + 1 + k = j + (k + 1) by omega]
theorem plainO_mem {h : Objs} : ∀ {fl : List Nat} {i : Nat} {cs : List PV}, plainO h fl = true → i ∈ fl → h[i]? = some (some cs) → cs.all flC = true
  | a :: fl, i, cs, hp, hi, e => by
    simp only [plainO, Bool.and_eq_true] at hp
    rcases List.mem_cons.1 hi with rfl | hi
    · have := hp.1; rw [e] at this; exact this
    · exact plainO_mem hp.2 hi e
theorem plain_blws (m : Nat) : ∀ {cs : List PV}, cs.all flC = true → PV.blws m cs = true
  | [], _ => rfl
  | p :: cs, h => by
    simp only [List.all_cons, Bool.and_eq_true, flC] at h
    simp only [PV.blws, flat_blw m p h.1.2, plain_blws m h.2, Bool.and_self]
theorem blw_plain {m : Nat} {h : Objs} {fl : List Nat} (hp : plainO h fl = true) (hb : blwH m (skipO fl 0 h) = true) : blwH m h = true := by
  unfold blwH at hb ⊢
  rw [List.all_eq_true] at hb ⊢
  intro o ho
  obtain ⟨k, hk⟩ := List.mem_iff_getElem?.1 ho
  have h1 := skipO_get fl h 0 k o hk
  rw [Nat.zero_add] at h1
  cases hi : inI fl k with
  | true =>
    cases o with
    | none => rfl
    | some cs => exact plain_blws m (plainO_mem hp (inI_iff.1 hi) hk)
  | false =>
    rw [hi] at h1
    exact hb o (List.mem_of_getElem? h1)
theorem gcOK_of {l : List Nat} {m : Nat} {σ : ASt} (hp : plainG l m σ = true) (hg : gcOKf l m σ = true) : gcOK l m σ = true := by
  unfold gcOKf at hg
  unfold gcOK
  rw [Bool.and_eq_true] at hg ⊢
  exact ⟨hg.1, blw_plain hp hg.2⟩
def joinY (E : AE) (m0 : Nat) (y : Code) (k : ASt → R) (σ : ASt) : R := match E.jt.lookup (rid y) with
  | some l => chk (plainG l (needM m0 l σ) σ) (match decide (m0 ≤ needM m0 l σ) && gcOKf l (needM m0 l σ) σ with | true => k (σ.gc l (needM m0 l σ)) | false => none)
  | none => k σ
/-- Slices over the beginning of objects become slices of what they hold. -/
def frzX (k : ASt → R) : List Nat → ASt → R
  | [], σ => k σ
  | d :: ds, σ => match Nat.ble 5000000 d with
   | true => (match sget ((d - 5000000) / 100) σ.s with
    | some (.ptr i2 0) => (match σ.h[i2]? with
      | some (some cs0) => (match cs0[(d - 5000000) % 100]? with
        | some (.slh i 0 n sz) => (match σ.h[i]? with
          | some (some cs) => chk (decide (n * sz ≤ cs.length) && decide (0 < sz) && cs.all (fun p => p.one && p.flat) && !Nat.beq i i2) (frzX k ds ⟨σ.s, (σ.h.set i none).set i2 (some (cs0.set ((d - 5000000) % 100) (.sl false sz (chunkP sz cs n))))⟩)
          | _ => frzX k ds σ)
        | _ => frzX k ds σ)
      | _ => frzX k ds σ)
    | _ => frzX k ds σ)
   | false => match Nat.ble 4000000 d with
   | true => (match sget ((d - 4000000) / 100) σ.s with
    | some (.ptr i 0) => (match σ.h[i]? with
      | some (some cs0) => (match cs0[(d - 4000000) % 100]? with
        | some (.slp true n sz cs) => bsel (Nat.ble 1 n) (frzX k ds ⟨σ.s, σ.h.set i (some (cs0.set ((d - 4000000) % 100) (.slh σ.h.length 0 n sz))) ++ [some cs]⟩) (frzX k ds ⟨σ.s, σ.h.set i (some (cs0.set ((d - 4000000) % 100) (.sl false sz [])))⟩)
        | _ => frzX k ds σ)
      | _ => frzX k ds σ)
    | _ => frzX k ds σ)
   | false => match Nat.ble 3000000 d with
   | true => (match sget ((d - 3000000) % 500000) σ.s with
    | some (.slp true n sz cs) => (match Nat.ble 3500000 d with
      | true => chk (Nat.ble 1 n) (frzX k ds ⟨sput ((d - 3000000) % 500000) (.slh σ.h.length 0 n sz) σ.s, σ.h ++ [some cs]⟩)
      | false => bsel (Nat.ble 1 n) (frzX k ds ⟨sput ((d - 3000000) % 500000) (.slh σ.h.length 0 n sz) σ.s, σ.h ++ [some cs]⟩) (frzX k ds ⟨sput ((d - 3000000) % 500000) (.sl false sz []) σ.s, σ.h⟩))
    | _ => frzX k ds σ)
   | false => match Nat.ble 1000000 d with
    | true => (match sget (d - 1000000) σ.s with
      | some (.slh i 0 n sz) => (match σ.h[i]? with
        | some (some cs) => chk (decide (n * sz ≤ cs.length) && decide (0 < sz) && cs.all fun p => p.one && p.flat) (frzX k ds ⟨sput (d - 1000000) (.sl false sz (chunkP sz cs n)) σ.s, σ.h.set i none⟩)
        | _ => frzX k ds σ)
      | _ => frzX k ds σ)
    | false => frzX k ds (frz1 d σ)
def joinX (E : AE) (m0 : Nat) (y : Code) (k : ASt → R) (σ : ASt) : R := match E.ft.lookup (rid y) with
  | some ks => frzX (joinY E m0 y k) ks σ
  | none => joinY E m0 y k σ
def loopP (E : AE) (m0 : Nat) (x : Code) (σ : ASt) : List Nat × Nat := match E.lt.lookup (rid x) with
  | some l => (l, needM m0 l σ)
  | none => (σ.keys E, σ.h.length)
open Classical in
/-- Both ways end alike. -/
noncomputable def agR (a b : R) : R := match a with
  | some (r, h) => (match b with | some (r', h') => if r = r' ∧ h = h' then some (r, h) else none | none => none)
  | none => none
theorem agR_self (a : R) : agR a a = a := by
  unfold agR
  cases a with
  | none => rfl
  | some v => obtain ⟨r, h⟩ := v; simp
theorem agR_some {a b : R} {v : PV × Objs} (h : agR a b = some v) : a = some v ∧ b = some v := by
  unfold agR at h
  split at h
  · split at h
    · split at h
      · rename_i r h1 r' h2 hc; obtain ⟨rfl, rfl⟩ := hc; exact ⟨h, h⟩
      · cases h
    · cases h
  · cases h
noncomputable def agAll : List R → R
  | [] => none
  | x :: l => match l with | [] => x | _ :: _ => agR x (agAll l)
/-- Every order taken, up to those that commute by their looks: if all end alike, that. -/
noncomputable def exOrd (X : XE) (ops : Array Oper) (K : ASt → R) : Nat → Array Bool → ASt → R
  | 0, L, σ => (match Region.ready .any ops L with | [] => K σ | _ :: _ => none)
  | fuel + 1, L, σ => (match Region.ready .any ops L with
    | [] => K σ
    | i :: is => agAll ((match frontO X.E ops L (i :: is) with | some j => [j] | none => i :: is).map fun i => match ops[i]? with
      | none => none
      | some o => exOps X true ops [o] (exOrd X ops K fuel (L.setIfInBounds i true)) σ))
noncomputable def exAll (X : XE) (ops : Array Oper) (K : ASt → R) (σ : ASt) : R := exOrd X ops K ops.size (Array.replicate ops.size false) σ
theorem agAll_some {v : PV × Objs} : ∀ {l : List R}, agAll l = some v → ∀ x, x ∈ l → x = some v
  | [], _, x, hx => by cases hx
  | y :: l, h, x, hx => by
    unfold agAll at h
    cases l with
    | nil => rw [List.mem_singleton] at hx; subst hx; exact h
    | cons z l' =>
      obtain ⟨h1, h2⟩ := agR_some h
      rcases List.mem_cons.1 hx with hx | hx
      · subst hx; exact h1
      · exact agAll_some h2 x hx
noncomputable def exK (X : XE) : Code → (AX → ASt → R) → ASt → R
  | .skip, K, σ => K .normal σ
  | .label _, K, σ => K .normal σ
  | .exit id, K, σ => K (.exit id) σ
  | .ret, K, σ => K .ret σ
  | .region _ ops draw, K, σ => (match draw with
    | true => (match okD X.E ops with | true => exOps X true ops ops.toList (K .normal) (σ.head X.E) | false => exAll X ops (K .normal) (σ.head X.E))
    | false => exOps X false ops ops.toList (K .normal) (σ.head X.E))
  | .seq x y, K, σ => exK X x (thenK (joinX X.E X.m0 y (exK X y K)) K) σ
  | .cond c x y, K, σ => (match σ.rd c with
    | some (.bool b) => (match c with
      | .tmp d => bsel b (exK X x K (σ.lit d true)) (exK X y K (σ.lit d false))
      | _ => bsel b (exK X x K σ) (exK X y K σ))
    | _ => none)
  | .block id x, K, σ => exK X x (blkK id K) σ
  | .scope x, K, σ => exK X x K σ
  | .loop x, K, σ => X.L (loopP X.E X.m0 x σ).1 (loopP X.E X.m0 x σ).2 x K (σ.gc (loopP X.E X.m0 x σ).1 (loopP X.E X.m0 x σ).2)
  | _, _, _ => none

/-! ### families of evaluations -/
section
variable {ι : Type} (Good : (ι → R) → Prop)
structure Fam : Prop where
  const : ∀ c : R, Good fun _ => c
  bind : ∀ (c : ι → R) (k : ι → PV → Objs → R), Good c → (∀ r h, Good fun i => k i r h) → Good fun i => match c i with | some (r, h) => k i r h | none => none
variable {Good} (F : Fam Good)
theorem Fam.no (F : Fam Good) : Good fun _ => none := F.const none
include F
theorem good_chk {b : Bool} {A : ι → R} (h : Good A) : Good fun i => chk b (A i) := by
  cases b
  · exact F.no
  · exact h
theorem good_bsel {b : Bool} {A B : ι → R} (h : Good A) (h' : Good B) : Good fun i => bsel b (A i) (B i) := by
  cases b
  · exact h'
  · exact h
open Classical in
theorem good_agR {A B : ι → R} (h : Good A) (h' : Good B) : Good fun i => agR (A i) (B i) :=
  F.bind A (fun i r h1 => match B i with | some (r', h') => if r = r' ∧ h1 = h' then some (r, h1) else none | none => none) h
    (fun r h1 => F.bind B (fun _ r' h' => if r = r' ∧ h1 = h' then some (r, h1) else none) h' fun r' h' => F.const _)
theorem good_agAll {α : Type} {f : ι → α → R} (h : ∀ a, Good fun i => f i a) : ∀ l : List α, Good fun i => agAll (l.map (f i))
  | [] => F.no
  | x :: l => by
    cases l with
    | nil => exact h x
    | cons y l => exact good_agR F (h x) (good_agAll h (y :: l))
theorem good_putX {E : AE} {dst : Option Nat} {p : PV} {K : ι → ASt → R} {σ : ASt} (h : ∀ σ, Good fun i => K i σ) : Good fun i => putX E dst p (K i) σ := by
  unfold putX; split
  · exact h _
  · exact F.no
theorem good_putO {E : AE} {dst : Option Nat} {p : Option PV} {K : ι → ASt → R} {σ : ASt} (h : ∀ σ, Good fun i => K i σ) : Good fun i => putO E dst p (K i) σ := by
  cases p
  · exact F.no
  · exact good_putX F h
theorem good_lgetX {es : List PV} {n : Int} {K : ι → PV → R} (h : ∀ p, Good fun i => K i p) : Good fun i => lgetX es n (K i) := by
  unfold lgetX; split
  · split
    · exact h _
    · exact F.no
  · exact F.no
theorem good_ngetX {es : List PV} {n : Nat} {K : ι → PV → R} (h : ∀ p, Good fun i => K i p) : Good fun i => ngetX es n (K i) := by
  unfold ngetX; split
  · exact h _
  · exact F.no
theorem good_mapX {s : Option IntKind} {l : List PV} {q : PV} {A : ι → PV → R} {B : ι → R} (h : ∀ p, Good fun i => A i p) (h' : Good B) : Good fun i => mapX s l q (A i) (B i) := by
  unfold mapX; split
  · exact h _
  · exact h'
  · exact F.no
theorem good_nilX {es : List PV} {K : ι → Bool → R} (h : ∀ b, Good fun i => K i b) : Good fun i => nilX es (K i) := by
  have := F.bind (fun i => K i false) (fun i r hh => match es.isEmpty with | false => some (r, hh) | true => match K i true with | some (r', h') => eqR (r, hh) (r', h') | none => none) (h false) (fun r hh => by
    cases es.isEmpty
    · exact F.const _
    · exact F.bind (fun i => K i true) (fun _ r' h' => eqR (r, hh) (r', h')) (h true) fun r' h' => F.const _)
  exact this
theorem good_byteX {s : ByteArray} {n : Int} {K : ι → Int → R} (h : ∀ p, Good fun i => K i p) : Good fun i => byteX s n (K i) := by
  unfold byteX; split
  · split
    · exact h _
    · exact F.no
  · exact F.no
theorem good_clX {C : ι → Cal} {g : FuncId} {args : List PV} {K : ι → PV → R} (hC : ∀ g args h, Good fun i => C i g args h) (h : ∀ p, Good fun i => K i p) : Good fun i => clX (C i) g args (K i) := by
  have := F.bind (fun i => C i g args []) (fun i r h => match h with | [] => K i r | _ => none) (hC _ _ _) (fun r hh => by
    cases hh
    · exact h r
    · exact F.no)
  refine cast (congrArg Good (funext fun i => ?_)) this
  unfold clX
  cases C i g args [] with
  | none => rfl
  | some x => obtain ⟨r, hh⟩ := x; cases hh <;> rfl
theorem good_clH {C : ι → Cal} {g : FuncId} {args : List PV} {hh : Objs} {K : ι → PV → Objs → R} (hC : ∀ g args h, Good fun i => C i g args h) (h : ∀ p q, Good fun i => K i p q) : Good fun i => clH (C i) g args hh (K i) :=
  F.bind (fun i => C i g args hh) K (hC _ _ _) h
def XE.up (X : XE) (C : Cal) (L : List Nat → Nat → Code → (AX → ASt → R) → ASt → R) : XE := { X with C := C, L := L }
/-- A view hands on what it sees, or fails. -/
def viewOK (V : TypeId → PV → (PV → R) → R) : Prop := ∀ t p, (∀ K, V t p K = K p) ∨ (∀ K, V t p K = none)
def outOK (W : FuncId → Objs → PV → Objs → (PV → Objs → R) → R) : Prop := ∀ g h r h', (∀ K, W g h r h' K = K r h') ∨ (∀ K, W g h r h' K = none)
variable {X : XE} {C : ι → Cal} {L : ι → List Nat → Nat → Code → (AX → ASt → R) → ASt → R} (hV : viewOK X.V) (hW : outOK X.W) (hC : ∀ g args h, Good fun i => C i g args h)
  (hL : ∀ (l : List Nat) (m : Nat) (x : Code) (K : ι → AX → ASt → R) (σ : ASt), (∀ e σ, Good fun i => K i e σ) → Good fun i => L i l m x (K i) σ)
theorem good_fnX {p : PV} {K : ι → Bool → R} (h : ∀ b, Good fun i => K i b) : Good fun i => fnX p (K i) := by
  unfold fnX
  split
  · exact h _
  · exact h _
  · exact F.no
theorem good_fvX {p : PV} {K : ι → FuncId → List PV → List PV → R} (h : ∀ g a b, Good fun i => K i g a b) : Good fun i => fvX p (K i) := by
  unfold fvX
  split
  · exact h _ _ _
  · exact F.no
theorem good_arrB {n : Int} {K : ι → PV → R} (h : ∀ p, Good fun i => K i p) : ∀ (cs : List PV) (k : Nat), Good fun i => arrB cs k n (K i)
  | [], _ => F.no
  | p :: r, k => good_bsel F (h p) (good_arrB h r (k + 1))
theorem good_exGen {o : Oper} {K : ι → ASt → R} {σ : ASt} (h : ∀ σ, Good fun i => K i σ) : Good fun i => exGen (X.up (C i) (L i)) o (K i) σ := by
  unfold exGen
  show Good fun i => match stepV X.E o σ with | some (p, σ1) => putX X.E o.dst p (K i) σ1 | none => none
  split
  · exact good_putX F h
  · exact F.no
include hV in
theorem good_V {t : TypeId} {p : PV} {K : ι → PV → R} (h : ∀ p, Good fun i => K i p) : Good fun i => X.V t p (K i) := by
  rcases hV t p with e | e
  · simp only [e]; exact h p
  · simp only [e]; exact F.no
include hW in
theorem good_W {g : FuncId} {hh h' : Objs} {r : PV} {K : ι → PV → Objs → R} (h : ∀ p q, Good fun i => K i p q) : Good fun i => X.W g hh r h' (K i) := by
  rcases hW g hh r h' with e | e
  · simp only [e]; exact h _ _
  · simp only [e]; exact F.no
theorem good_sliceL {dst : Option Nat} {sz : Nat} {es : List PV} {lo hi : Option Operand} {K : ι → ASt → R} {σ : ASt} (h : ∀ σ, Good fun i => K i σ) : Good fun i => exSliceL (X.up (C i) (L i)) dst sz es lo hi (K i) σ := by
  cases lo <;> cases hi <;> simp only [exSliceL, XE.up]
  · exact good_putX F h
  all_goals
    split
    · exact good_chk F (good_putX F h)
    · exact F.no
theorem good_sliceS {dst : Option Nat} {s : ByteArray} {lo hi : Option Operand} {K : ι → ASt → R} {σ : ASt} (h : ∀ σ, Good fun i => K i σ) : Good fun i => exSliceS (X.up (C i) (L i)) dst s lo hi (K i) σ := by
  cases lo <;> cases hi <;> simp only [exSliceS, XE.up]
  · exact good_putX F h
  all_goals
    split
    · exact good_chk F (good_putX F h)
    · exact F.no
theorem good_sliceH {dst : Option Nat} {t : TypeId} {i off n sz : Nat} {lo hi : Option Operand} {K : ι → ASt → R} {σ : ASt} (h : ∀ σ, Good fun i => K i σ) : Good fun j => exSliceH (X.up (C j) (L j)) dst t i off n sz lo hi (K j) σ := by
  simp only [exSliceH, XE.up]
  split
  · split
    · split
      · split
        · exact good_chk F (good_putX F h)
        · exact F.no
      · split
        · exact good_chk F (good_bsel F (good_putX F h) (good_putX F h))
        · exact F.no
      · exact F.no
    · exact F.no
  · exact F.no
theorem good_make {dst : Option Nat} {t : TypeId} {l c : Operand} {K : ι → ASt → R} {σ : ASt} (h : ∀ σ, Good fun i => K i σ) : Good fun j => exMake (X.up (C j) (L j)) dst t l c (K j) σ := by
  simp only [exMake, XE.up]
  split
  · split
    · refine good_chk F ?_
      split
      · exact good_putX F h
      · split
        · exact good_putX F h
        · exact F.no
    · exact F.no
  · exact F.no
theorem good_clear {dst : Option Nat} {t : TypeId} {x : Operand} {K : ι → ASt → R} {σ : ASt} (h : ∀ σ, Good fun i => K i σ) : Good fun j => exClear (X.up (C j) (L j)) dst t x (K j) σ := by
  simp only [exClear, XE.up]
  split
  · split
    · split
      · exact good_chk F (h _)
      · exact F.no
    · exact F.no
  · exact h _
  · exact F.no
theorem good_upd {dst : Option Nat} {t : TypeId} {m q x : PV} {K : ι → ASt → R} {σ : ASt} (h : ∀ σ, Good fun i => K i σ) : Good fun j => exUpd (X.up (C j) (L j)) dst t m q x (K j) σ := by
  simp only [exUpd, XE.up]
  split
  · split
    · split
      · split
        · exact good_chk F (h _)
        · exact F.no
      · exact F.no
    · exact F.no
  · exact F.no
theorem good_next {dst : Option Nat} {b : Bool} {q : Option PV} {K : ι → ASt → R} {σ : ASt} (h : ∀ σ, Good fun i => K i σ) : Good fun j => exNext (X.up (C j) (L j)) dst b q (K j) σ := by
  simp only [exNext, XE.up]
  split
  · split
    · split
      · split
        · exact good_chk F (good_bsel F (good_putX F h) (good_putX F h))
        · exact F.no
      · exact F.no
    · exact F.no
  · exact F.no
include hV in
theorem good_look {dst : Option Nat} {t : TypeId} {ok : Bool} {m q : PV} {K : ι → ASt → R} {σ : ASt} (h : ∀ σ, Good fun i => K i σ) : Good fun j => exLook (X.up (C j) (L j)) dst t ok m q (K j) σ := by
  simp only [exLook, XE.up]
  split
  · split
    · split
      · split
        · exact good_mapX F (fun p => good_V F hV fun q => good_putX F h) (good_putX F h)
        · exact F.no
      · exact F.no
    · exact F.no
  · exact F.no
include hV in
theorem good_exOp {o : Oper} {K : ι → ASt → R} {σ : ASt} (h : ∀ σ, Good fun i => K i σ) : Good fun i => exOp (X.up (C i) (L i)) o (K i) σ := by
  have hg := fun {σ : ASt} => good_exGen F (X := X) (C := C) (L := L) (o := o) (σ := σ) h
  unfold exOp
  simp only [XE.up]
  split
  · split
    · split
      · exact good_chk F (good_putX F h)
      · exact F.no
    · exact hg
  · split
    · simp only [exIdx]
      split
      · split
        · exact good_lgetX F fun p => good_V F hV fun q => good_putX F h
        · exact F.no
      · exact F.no
    · split
      · split
        · split
          · exact good_chk F (good_putX F h)
          · exact F.no
        · exact F.no
      · exact hg
    · split
      · split
        · exact good_chk F (good_putX F h)
        · exact F.no
      · exact hg
    · split
      · refine good_chk F (good_lgetX F fun p => good_V F hV fun q => ?_)
        split
        · exact good_putX F h
        · exact F.no
      · exact hg
    · exact hg
  · split
    · split
      · split
        · split
          · exact good_chk F (good_V F hV fun q => good_putX F h)
          · split
            · exact good_ngetX F fun p => good_V F hV fun q => good_putX F h
            · exact F.no
        · exact F.no
      · exact F.no
    · split
      · exact good_chk F (good_putX F h)
      · exact hg
  · split
    · split
      · split
        · split
          · split
            · exact good_chk F (h _)
            · exact F.no
          · split
            · exact good_chk F (h _)
            · exact F.no
        · exact F.no
      · exact F.no
    · split
      · split
        · split
          · split
            · exact good_chk F (h _)
            · exact F.no
          · exact F.no
        · exact F.no
      · exact hg
  · split
    · split
      · exact good_byteX F fun p => good_putX F h
      · exact F.no
    · split
      · split
        · refine good_chk F (good_arrB F (fun p => ?_) _ _)
          split
          · exact good_putX F h
          · exact F.no
        · exact F.no
      · exact hg
    · exact hg
  · split
    · exact good_bsel F (good_putO F h) (good_putO F h)
    · exact F.no
  · split
    · split
      · split
        · exact good_sliceL F h
        · exact F.no
      · exact F.no
    · split
      · exact good_sliceS F h
      · exact F.no
    · exact good_sliceH F h
    · exact hg
  · split
    · split
      · split
        · exact good_chk F (good_putX F h)
        · exact F.no
      · exact F.no
    · exact F.no
  · exact good_make F h
  · split
    · exact good_look F hV h
    · exact F.no
  · split
    · exact good_upd F h
    · exact F.no
  · exact good_next F h
  · split
    · split
      · split
        · exact good_chk F (good_putX F h)
        · exact F.no
      · exact hg
    · exact hg
  · split
    · exact good_chk F (good_putX F h)
    · exact hg
  · split
    · simp only [exDiv]; split
      · exact good_chk F (good_putX F h)
      · exact F.no
    · simp only [exDiv]; split
      · exact good_chk F (good_putX F h)
      · exact F.no
    · exact good_chk F (good_putX F h)
    · exact good_chk F (good_putX F h)
    · exact good_chk F (good_putX F h)
    · simp only [exFn]; split
      · exact good_fnX F fun b => good_putX F h
      · exact F.no
    · simp only [exFn]; split
      · exact good_fnX F fun b => good_putX F h
      · exact F.no
    · exact hg
  · split
    · split
      · exact good_clear F h
      · exact F.no
    · split
      · simp only [exCopy]
        split
        · split
          · split
            · exact good_chk F (good_putX F h)
            · exact F.no
          · exact F.no
        · split
          · split
            · exact good_chk F (good_putX F h)
            · exact F.no
          · exact F.no
        · exact F.no
      · exact F.no
    · split
      · split
        · exact good_chk F hg
        · exact good_chk F hg
        · simp only [exAppP]
          split
          · split
            · split
              · exact good_chk F (good_putX F h)
              · exact F.no
            · exact F.no
          · exact F.no
        · exact good_chk F hg
        · split
          · exact good_chk F hg
          · exact F.no
        · exact F.no
      · exact F.no
    · exact hg
    · exact F.no
  · exact hg
include hW hC in
theorem good_exCall {draw : Bool} {o : Oper} {f : Operand} {args : List Operand} {K : ι → ASt → R} {σ : ASt} (h : ∀ σ, Good fun i => K i σ) : Good fun i => exCall (X.up (C i) (L i)) draw o f args (K i) σ := by
  have hH : ∀ {dst : Option Nat} {g : FuncId} {full : List PV} {ids : List Nat}, Good fun i => exCallH (X.up (C i) (L i)) dst g full ids (K i) σ := fun {dst g full ids} => by
    simp only [exCallH]
    split
    · exact good_clH F hC fun r h' => good_W F hW fun p q => good_putX F h
    · exact F.no
  unfold exCall
  simp only [XE.up] at hH ⊢
  have hP : ∀ {dst : Option Nat} {g : FuncId} {full : List PV} {ids : List Nat}, Good fun i => exCallP (X.up (C i) (L i)) dst g full ids (K i) σ := fun {dst g full ids} => by
    simp only [exCallP]
    split
    · exact good_chk F (good_clH F hC fun r h' => good_W F hW fun p q => good_chk F (good_putX F h))
    · exact F.no
  simp only [XE.up] at hP
  split
  · split
    · split
      · exact hP
      · exact hH
    split
    · refine good_clX F hC fun r => good_W F hW fun p q => ?_
      cases (!draw && inMv X.E.mu o.dst)
      · cases PV.flat p
        · exact F.no
        · exact good_putX F h
      · simp only [exThaw]
        split
        · exact good_chk F (good_putX F h)
        · exact good_bsel F (good_chk F (good_putX F h)) (good_putX F h)
        · exact F.no
    · cases draw
      · cases inMv X.E.ln o.dst
        · cases inMv X.E.sy o.dst
          · exact hH
          · simp only [exCallP]
            split
            · exact good_chk F (good_clH F hC fun r h' => good_W F hW fun p q => good_chk F (good_putX F h))
            · exact F.no
        · simp only [exLend]
          refine good_chk F (good_clX F hC fun r => good_W F hW fun p q => ?_)
          cases PV.noref p
          · exact F.no
          · exact good_putX F h
      · dsimp only
        split
        · exact hH
        · exact F.no
  · exact F.no
include hV hW hC in
theorem good_ex1 {draw : Bool} {o : Oper} {K : ι → ASt → R} {σ : ASt} (h : ∀ σ, Good fun i => K i σ) : Good fun i => ex1 (X.up (C i) (L i)) draw o (K i) σ := by
  unfold ex1
  split
  · simp only [XE.up]
    split
    · simp only [exCallF]
      split
      · refine good_fvX F fun g a b => good_chk F (good_clX F hC fun r => good_V F hV fun r' => ?_)
        split
        · exact good_putX F h
        · exact F.no
      · exact F.no
    · exact good_exCall F hW hC h
  · cases draw
    · simp only [XE.up]
      split
      · exact good_nilX F fun b => good_putX F h
      · exact good_exOp F hV h
    · exact good_exOp F hV h
include hV hW hC in
theorem good_exOps {draw : Bool} {ops : Array Oper} : ∀ (l : List Oper) {K : ι → ASt → R} {σ : ASt}, (∀ σ, Good fun i => K i σ) → Good fun i => exOps (X.up (C i) (L i)) draw ops l (K i) σ
  | [], K, σ, h => h σ
  | o :: l, K, σ, h => by
    have ih : ∀ σ, Good fun i => exOps (X.up (C i) (L i)) draw ops l (K i) σ := fun σ => good_exOps l h
    have hp : ∀ {p : PV} {σ : ASt}, Good fun i => putX X.E o.dst p (exOps (X.up (C i) (L i)) draw ops l (K i)) σ := good_putX F ih
    have hgd : ∀ (d : Nat) (want v : Bool), Good fun i => exGd (X.up (C i) (L i)) draw o d want v (exOps (X.up (C i) (L i)) draw ops l (K i)) σ := fun d want v => by
      unfold exGd
      split
      · exact good_ex1 F hV hW hC ih
      · exact hp
    simp only [exOps]
    split
    · exact good_ex1 F hV hW hC ih
    · split
      · exact hp
      · split
        · exact good_bsel F (hgd _ _ _) (hgd _ _ _)
        · exact hp
        · exact F.no
omit F in
theorem good_thenK {k : ι → ASt → R} {K : ι → AX → ASt → R} (h : ∀ σ, Good fun i => k i σ) (h' : ∀ e σ, Good fun i => K i e σ) (e : AX) (σ : ASt) : Good fun i => thenK (k i) (K i) e σ := by
  cases e
  · exact h σ
  · exact h' _ _
  · exact h' _ _
omit F in
theorem good_blkK {id : Nat} {K : ι → AX → ASt → R} (h' : ∀ e σ, Good fun i => K i e σ) (e : AX) (σ : ASt) : Good fun i => blkK id (K i) e σ := by
  cases e with
  | normal => exact h' _ _
  | ret => exact h' _ _
  | exit j =>
    simp only [blkK]; split
    · exact h' _ _
    · exact h' _ _
theorem good_frzX {k : ι → ASt → R} (h : ∀ σ, Good fun i => k i σ) : ∀ (ks : List Nat) {σ : ASt}, Good fun i => frzX (k i) ks σ
  | [], σ => h σ
  | d :: ds, σ => by
    simp only [frzX]
    split
    · split
      · split
        · split
          · split
            · exact good_chk F (good_frzX h ds)
            · exact good_frzX h ds
          · exact good_frzX h ds
        · exact good_frzX h ds
      · exact good_frzX h ds
    split
    · split
      · split
        · split
          · exact good_bsel F (good_frzX h ds) (good_frzX h ds)
          · exact good_frzX h ds
        · exact good_frzX h ds
      · exact good_frzX h ds
    split
    · split
      · split
        · exact good_chk F (good_frzX h ds)
        · exact good_bsel F (good_frzX h ds) (good_frzX h ds)
      · exact good_frzX h ds
    split
    · split
      · split
        · exact good_chk F (good_frzX h ds)
        · exact good_frzX h ds
      · exact good_frzX h ds
    · exact good_frzX h ds
include hV hW hC in
theorem good_exOrd {ops : Array Oper} {K : ι → ASt → R} (h : ∀ σ, Good fun i => K i σ) : ∀ (fuel : Nat) (B : Array Bool) (σ : ASt), Good fun i => exOrd (X.up (C i) (L i)) ops (K i) fuel B σ
  | 0, B, σ => by
    unfold exOrd
    cases Region.ready .any ops B with
    | nil => exact h σ
    | cons _ _ => exact F.no
  | fuel + 1, B, σ => by
    unfold exOrd
    cases Region.ready .any ops B with
    | nil => exact h σ
    | cons j js =>
      refine good_agAll F (f := fun i k => match ops[k]? with
        | none => none
        | some o => exOps (X.up (C i) (L i)) true ops [o] (exOrd (X.up (C i) (L i)) ops (K i) fuel (B.setIfInBounds k true)) σ) (fun k => ?_) (match frontO X.E ops B (j :: js) with | some j => [j] | none => j :: js)
      cases ops[k]? with
      | none => exact F.no
      | some o => exact good_exOps F hV hW hC [o] fun σ => good_exOrd h fuel _ σ
include hV hW hC hL in
theorem good_exK : ∀ (c : Code) {K : ι → AX → ASt → R} {σ : ASt}, (∀ e σ, Good fun i => K i e σ) → Good fun i => exK (X.up (C i) (L i)) c (K i) σ
  | .skip, K, σ, h => h _ _
  | .label _, K, σ, h => h _ _
  | .exit _, K, σ, h => h _ _
  | .ret, K, σ, h => h _ _
  | .region _ ops draw, K, σ, h => by
    simp only [exK]
    cases draw
    · exact good_exOps F hV hW hC ops.toList (σ := σ.head X.E) fun σ => h .normal σ
    · show Good fun i => match okD X.E ops with | true => exOps (X.up (C i) (L i)) true ops ops.toList (K i .normal) (σ.head X.E) | false => exAll (X.up (C i) (L i)) ops (K i .normal) (σ.head X.E)
      split
      · exact good_exOps F hV hW hC ops.toList (σ := σ.head X.E) fun σ => h .normal σ
      · exact good_exOrd F hV hW hC (fun σ => h .normal σ) _ _ _
  | .seq x y, K, σ, h => by
    simp only [exK]
    refine good_exK x fun e σ => good_thenK (fun σ => ?_) h e σ
    show Good fun i => joinX X.E X.m0 y (exK (X.up (C i) (L i)) y (K i)) σ
    have hj : ∀ σ, Good fun i => joinY X.E X.m0 y (exK (X.up (C i) (L i)) y (K i)) σ := fun σ => by
      unfold joinY
      split
      · refine good_chk F ?_
        split
        · exact good_exK y h
        · exact F.no
      · exact good_exK y h
    unfold joinX
    split
    · exact good_frzX F hj _
    · exact hj _
  | .cond c x y, K, σ, h => by
    simp only [exK]
    split
    · split
      · exact good_bsel F (good_exK x h) (good_exK y h)
      · exact good_bsel F (good_exK x h) (good_exK y h)
    · exact F.no
  | .block id x, K, σ, h => by simp only [exK]; exact good_exK x fun e σ => good_blkK h e σ
  | .scope x, K, σ, h => by simp only [exK]; exact good_exK x h
  | .loop x, K, σ, h => hL (loopP X.E X.m0 x σ).1 (loopP X.E X.m0 x σ).2 x K (σ.gc (loopP X.E X.m0 x σ).1 (loopP X.E X.m0 x σ).2) h
  | .rangeFunc _ _ _ _, K, σ, h => F.no
  | .goto _, K, σ, h => F.no
  | .refuse _, K, σ, h => F.no
end
end Go.Proofs.Ytmclnnpaephkpaa
namespace Go.Proofs.Ytmclnnpaephkpaa
set_option linter.unusedVariables false
set_option linter.unusedSimpArgs false
set_option linter.unnecessarySimpa false
set_option linter.unusedSectionVars false
open Go.RowKit

section
variable {X : XE} {K : ASt → R} {σ : ASt} {v : PV × Objs} {o : Oper} {ops : Array Oper}
theorem putX_sound {E : AE} {dst : Option Nat} {p : PV} (h : putX E dst p K σ = some v) : thenPut E dst p σ fun σ' => K σ' = some v := by
  unfold putX at h; unfold thenPut
  split at h
  · rename_i e; rw [e]; exact h
  · cases h
theorem chk_some {b : Bool} {A : R} (h : chk b A = some v) : b = true ∧ A = some v := by
  cases b
  · cases h
  · exact ⟨rfl, h⟩
theorem stepK_of {E : AE} {p : PV} {σ1 : ASt} (h : stepV E o σ = some (p, σ1)) (hs : sideV E o σ) (hp : putX E o.dst p K σ1 = some v) : stepK E o (fun σ' => K σ' = some v) σ := by
  unfold stepK; rw [h]; exact ⟨hs, putX_sound hp⟩
theorem exGen_sound (hs : sideV X.E o σ) (h : exGen X o K σ = some v) : stepK X.E o (fun σ' => K σ' = some v) σ := by
  unfold exGen at h
  split at h
  · rename_i p σ1 e; exact stepK_of e hs h
  · cases h
theorem rd_bool {d : Nat} {b : Bool} (h : σ.rd (.tmp d) = some (.bool b)) : σ.lit d b = σ := by
  have : sget d σ.s = some (.bool b) := by
    simp only [ASt.rd, ASt.ev] at h
    cases hp : sget d σ.s with
    | none => rw [hp] at h; cases h
    | some p =>
      rw [hp] at h
      cases p <;> simp [PV.un] at h
      rw [h]
  unfold ASt.lit; rw [slit_eq this]
theorem viewOK_some {V : TypeId → PV → (PV → R) → R} (hV : viewOK V) {t : TypeId} {p : PV} {K : PV → R} (h : V t p K = some v) : K p = some v := by
  rcases hV t p with e | e
  · rw [e K] at h; exact h
  · rw [e K] at h; cases h
theorem outOK_some {W : FuncId → Objs → PV → Objs → (PV → Objs → R) → R} (hW : outOK W) {g : FuncId} {hh h' : Objs} {r : PV} {K : PV → Objs → R} (h : W g hh r h' K = some v) : K r h' = some v := by
  rcases hW g hh r h' with e | e
  · rw [e K] at h; exact h
  · rw [e K] at h; cases h
theorem lgetX_some {es : List PV} {n : Int} {K : PV → R} (h : lgetX es n K = some v) : 0 ≤ n ∧ ∃ e, es[n.toNat]? = some e ∧ K e = some v := by
  unfold lgetX at h
  split at h
  · rename_i hn
    split at h
    · rename_i e he; exact ⟨hn, e, he, h⟩
    · cases h
  · cases h
theorem ngetX_some {es : List PV} {n : Nat} {K : PV → R} (h : ngetX es n K = some v) : ∃ e, es[n]? = some e ∧ K e = some v := by
  unfold ngetX at h
  split at h
  · rename_i e he; exact ⟨e, he, h⟩
  · cases h
theorem nilX_some {es : List PV} {K : Bool → R} (h : nilX es K = some v) : K false = some v ∧ (es = [] → K true = some v) := by
  unfold nilX at h
  split at h
  · rename_i r hh h0
    split at h
    · rename_i he
      cases h
      exact ⟨h0, fun e => by subst e; simp at he⟩
    · split at h
      · rename_i r' h' h1
        unfold eqR at h
        split at h
        · rename_i e
          cases h
          exact ⟨h0, fun _ => by rw [h1, e]⟩
        · cases h
      · cases h
  · cases h
theorem fnX_some {p : PV} {K : Bool → R} (h : fnX p K = some v) : ∃ b, K b = some v ∧ ((b = false ∧ ∃ f a c, p = .func f a c) ∨ (b = true ∧ p = .raw .nilFunc)) := by
  unfold fnX at h
  split at h
  · exact ⟨_, h, .inl ⟨rfl, _, _, _, rfl⟩⟩
  · exact ⟨_, h, .inr ⟨rfl, rfl⟩⟩
  · cases h
theorem fvX_some {p : PV} {K : FuncId → List PV → List PV → R} (h : fvX p K = some v) : ∃ g a c, p = .func (.func g) a c ∧ K g a c = some v := by
  unfold fvX at h
  split at h
  · exact ⟨_, _, _, rfl, h⟩
  · cases h
theorem arrB_some {n : Int} {K : PV → R} : ∀ {cs : List PV} {k : Nat}, arrB cs k n K = some v → ∃ j p, n = ((k + j : Nat) : Int) ∧ cs[j]? = some p ∧ K p = some v
  | [], _, h => by cases h
  | p :: r, k, h => by
    rw [arrB] at h
    cases hb : n == (k : Int) with
    | true => rw [hb] at h; exact ⟨0, p, by simpa using hb, rfl, h⟩
    | false =>
      rw [hb] at h
      obtain ⟨j, q, e1, e2, e3⟩ := arrB_some (cs := r) (k := k + 1) h
      exact ⟨j + 1, q, by rw [e1]; congr 1; omega, by simpa using e2, e3⟩
theorem fn_bin {t : TypeId} {p : PV} {P : Program} (ht : isFuncT P t = true) {b : Bool} (hp : (b = false ∧ ∃ f a c, p = .func f a c) ∨ (b = true ∧ p = .raw .nilFunc)) (pos : Bool) : binPV P (match pos with | true => .eql | false => .neq) t p (.raw .nilFunc) = some (.bool (b == pos)) := by
  rcases hp with ⟨rfl, f, a, c, rfl⟩ | ⟨rfl, rfl⟩ <;> cases pos <;> simp [binPV, ht, nilBin]
theorem byteX_some {s : ByteArray} {n : Int} {K : Int → R} (h : byteX s n K = some v) : 0 ≤ n ∧ ∃ b, s[n.toNat]? = some b ∧ K b.toNat = some v := by
  unfold byteX at h
  split at h
  · rename_i hn
    split at h
    · rename_i e he; exact ⟨hn, e, he, h⟩
    · cases h
  · cases h
theorem side_no (hc : ∀ c, o.op ≠ .call c) (E : AE) : sideV E o σ := by
  obtain ⟨dst, op, ty, pos, af, g⟩ := o
  cases op <;> first | trivial | (exfalso; exact hc _ rfl)
theorem sliceL_sound {t : TypeId} {dst : Option Nat} {sz : Nat} {es : List PV} {ow : Bool} {lo hi : Option Operand} {x : Operand} {I : TI} (ht : elemTI X.E.P t = some I) (hI : I.size = sz) (hx : σ.rd x = some (.sl ow sz es)) (h : exSliceL X dst sz es lo hi K σ = some v) :
    ∃ p, pop X.E.P σ.rd (.slice t x lo hi none) = some p ∧ putX X.E dst p K σ = some v := by
  have hsz : (elemTI X.E.P t).map TI.size = some sz := by rw [ht]; simp [hI]
  cases lo with
  | none =>
    cases hi with
    | none => exact ⟨_, by simp only [pop, hx, slicePV]; rw [if_pos ⟨hsz, by omega, by omega, by omega⟩]; simp, h⟩
    | some b =>
      simp only [exSliceL] at h
      split at h
      · rename_i k n hb
        obtain ⟨h1, h2⟩ := chk_some h
        simp only [Bool.and_eq_true, decide_eq_true_eq] at h1
        exact ⟨_, by simp only [pop, hx, hb, Option.bind_some, slicePV]; rw [if_pos ⟨hsz, by omega, by omega, by omega⟩]; simp, h2⟩
      · cases h
  | some a =>
    cases hi with
    | none =>
      simp only [exSliceL] at h
      split at h
      · rename_i k n hb
        obtain ⟨h1, h2⟩ := chk_some h
        simp only [Bool.and_eq_true, decide_eq_true_eq] at h1
        exact ⟨_, by simp only [pop, hx, hb, Option.bind_some, slicePV]; rw [if_pos ⟨hsz, by omega, by omega, by omega⟩]; simp, h2⟩
      · cases h
    | some b =>
      simp only [exSliceL] at h
      split at h
      · rename_i k n k' n' ha hb
        obtain ⟨h1, h2⟩ := chk_some h
        simp only [Bool.and_eq_true, decide_eq_true_eq] at h1
        exact ⟨_, by simp only [pop, hx, ha, hb, Option.bind_some, slicePV]; rw [if_pos ⟨hsz, by omega, by omega, by omega⟩], h2⟩
      · cases h
theorem sliceS_sound {t : TypeId} {dst : Option Nat} {s : ByteArray} {lo hi : Option Operand} {x : Operand} (ht : isStrT X.E.P t = true) (hx : σ.rd x = some (.str s)) (h : exSliceS X dst s lo hi K σ = some v) :
    ∃ p, pop X.E.P σ.rd (.slice t x lo hi none) = some p ∧ putX X.E dst p K σ = some v := by
  cases lo with
  | none =>
    cases hi with
    | none => exact ⟨_, by simp only [pop, hx, slicePV]; rw [if_pos ⟨ht, by omega, by omega, by omega⟩]; rfl, h⟩
    | some b =>
      simp only [exSliceS] at h
      split at h
      · rename_i k n hb
        obtain ⟨h1, h2⟩ := chk_some h
        simp only [Bool.and_eq_true, decide_eq_true_eq] at h1
        exact ⟨_, by simp only [pop, hx, hb, Option.bind_some, slicePV]; rw [if_pos ⟨ht, by omega, by omega, by omega⟩]; rfl, h2⟩
      · cases h
  | some a =>
    cases hi with
    | none =>
      simp only [exSliceS] at h
      split at h
      · rename_i k n hb
        obtain ⟨h1, h2⟩ := chk_some h
        simp only [Bool.and_eq_true, decide_eq_true_eq] at h1
        exact ⟨_, by simp only [pop, hx, hb, Option.bind_some, slicePV]; rw [if_pos ⟨ht, by omega, by omega, by omega⟩]; rfl, h2⟩
      · cases h
    | some b =>
      simp only [exSliceS] at h
      split at h
      · rename_i k n k' n' ha hb
        obtain ⟨h1, h2⟩ := chk_some h
        simp only [Bool.and_eq_true, decide_eq_true_eq] at h1
        exact ⟨_, by simp only [pop, hx, ha, hb, Option.bind_some, slicePV]; rw [if_pos ⟨ht, by omega, by omega, by omega⟩], h2⟩
      · cases h
theorem sliceH_sound {t : TypeId} {dst : Option Nat} {i off n sz : Nat} {lo hi : Option Operand} {x : Operand} (hx : σ.rd x = some (.slh i off n sz)) (h : exSliceH X dst t i off n sz lo hi K σ = some v) :
    ∃ p, pop X.E.P σ.rd (.slice t x lo hi none) = some p ∧ putX X.E dst p K σ = some v := by
  unfold exSliceH at h
  split at h
  · rename_i I hT
    split at h
    · rename_i hz
      simp only [Bool.and_eq_true, Nat.blt_eq] at hz
      have hsz := Nat.eq_of_beq_eq_true hz.1
      have hm : (elemTI X.E.P t).map TI.size = some sz := by rw [hT]; simp [hsz]
      split at h
      · rename_i hh
        split at h
        · rename_i k b hb
          obtain ⟨h1, h2⟩ := chk_some h
          simp only [Bool.and_eq_true, decide_eq_true_eq] at h1
          refine ⟨_, ?_, h2⟩
          simp only [pop, hx, hb, Option.bind_some, slicePV, obound]
          rw [if_pos ⟨hm, Int.le_refl _, h1.1.1, h1.1.2, hz.2⟩, if_pos (by omega)]
          simp
        · cases h
      · rename_i l
        split at h
        · rename_i k a ha
          obtain ⟨h1, h2⟩ := chk_some h
          simp only [Bool.and_eq_true, decide_eq_true_eq] at h1
          simp only [pop, hx, ha, Option.bind_some, slicePV, obound]
          rw [if_pos ⟨hm, h1.1, h1.2, Int.le_refl _, hz.2⟩]
          by_cases hl : a < (n : Int)
          · rw [decide_eq_true hl] at h2
            exact ⟨_, by rw [if_pos hl]; simp, h2⟩
          · rw [decide_eq_false hl] at h2
            exact ⟨_, by rw [if_neg hl], h2⟩
        · cases h
      · cases h
    · cases h
  · cases h
theorem arrOne_spec {P : Program} {t : TypeId} {m : Nat} {e : TypeId} (h : arrOne P t = some (m, e)) : ∃ I, arrTI P t = some (m, I) ∧ I.size = 1 ∧ I.agg = false := by
  unfold arrOne at h
  split at h
  · rename_i m' e' hu
    split at h
    · rename_i I hI
      split at h
      · rename_i hc
        cases h
        simp only [Bool.and_eq_true, Bool.not_eq_true'] at hc
        exact ⟨I, by simp [arrTI, hu, hI], Nat.eq_of_beq_eq_true hc.1, hc.2⟩
      · cases h
    · cases h
  · cases h
theorem exOp_sound (hV : viewOK X.V) (hc : isCall o = none) (h : exOp X o K σ = some v) : stepK X.E o (fun σ' => K σ' = some v) σ := by
  obtain ⟨dst, op, ty, pos, af, g⟩ := o
  unfold exOp at h
  simp only at h
  split at h
  · rename_i s d x
    have hs : sideV X.E ⟨dst, .convert s d x, ty, pos, af, g⟩ σ := trivial
    split at h
    · rename_i ow sz es hx
      split at h
      · rename_i ht
        simp only [Bool.and_eq_true] at ht
        obtain ⟨h1, h2⟩ := chk_some h
        exact stepK_of (by simp only [stepV, pop, hx, Option.bind_some, convPV]; rw [if_pos ⟨ht.1, ht.2, h1⟩]; rfl) hs h2
      · cases h
    · exact exGen_sound hs h
  · rename_i t x i
    have hs : sideV X.E ⟨dst, .indexAddr t x i, ty, pos, af, g⟩ σ := trivial
    split at h
    · rename_i ow sz es k n hx hi
      unfold exIdx at h
      split at h
      · rename_i e I h1 h2
        split at h
        · rename_i hI
          obtain ⟨hn, p, hp, h⟩ := lgetX_some h
          have h := viewOK_some hV h
          exact stepK_of (by simp only [stepV, pop, hx, hi, h2, Option.map_some]; rw [if_pos ⟨by rw [hI], hn⟩, hp]; try rfl) hs h
        · cases h
      · cases h
    · rename_i i0 off m sz k n hx hi
      split at h
      · split at h
        · rename_i I hI
          split at h
          · rename_i hz
            rw [offX_eq] at h
            obtain ⟨h1, h2⟩ := chk_some h
            simp only [Bool.and_eq_true, decide_eq_true_eq] at h1
            exact stepK_of (p := .ptr i0 (off + n.toNat * sz)) (by simp only [stepV, pop, hx, hi]; rw [if_pos ⟨by rw [hI]; simp [Nat.eq_of_beq_eq_true hz], h1.1, h1.2⟩]; simp) hs h2
          · cases h
        · cases h
      · exact exGen_sound hs h
    · rename_i i0 off k n hx hi
      split at h
      · split at h
        · rename_i m I hI
          obtain ⟨h1, h2⟩ := chk_some h
          simp only [Bool.and_eq_true, decide_eq_true_eq] at h1
          exact stepK_of (p := .ptr i0 (off + n.toNat * I.size)) (by simp only [stepV, pop, hx, hi, hI]; rw [if_pos ⟨h1.1, h1.2⟩]; simp) hs h2
        · cases h
      · exact exGen_sound hs h
    · rename_i cs k n hx hi
      split at h
      · rename_i m e ht
        obtain ⟨h1, h2⟩ := chk_some h
        obtain ⟨hn, p, hp, h⟩ := lgetX_some h2
        have h := viewOK_some hV h
        obtain ⟨I, hI, hsz, hag⟩ := arrOne_spec ht
        split at h
        · rename_i ho
          refine stepK_of (p := .cst p.un) (by
            simp only [stepV, pop, hx, hi, hI]
            rw [if_pos ⟨hn, by simpa using h1⟩]
            simp only [subVal, hsz, hag, Nat.mul_one, hp, Bool.false_eq_true, if_false, Option.bind_some, ho, if_true, Option.map_some]) hs h
        · cases h
      · exact exGen_sound hs h
    · exact exGen_sound hs h
  · rename_i t a
    have hs : sideV X.E ⟨dst, .load t a, ty, pos, af, g⟩ σ := trivial
    split at h
    · rename_i hsy
      have hln : inMv X.E.ln dst = false := by
        simp only [Bool.and_eq_true, Bool.not_eq_true'] at hsy
        exact hsy.2
      split at h
      · rename_i I i0 off hI ha
        split at h
        · rename_i cs hcs
          split at h
          · rename_i hag
            obtain ⟨h1, h2⟩ := chk_some h
            have h := viewOK_some hV h2
            exact stepK_of (σ1 := σ) (by simp only [stepV, hI, ha, hln, Bool.false_and, loadV, hcs, hag, if_true]; rw [if_pos (of_decide_eq_true h1)]) hs h
          · rename_i hag
            split at h
            · rename_i hc
              simp only [Bool.not_eq_true'] at hc
              obtain ⟨q, hq, h⟩ := ngetX_some h
              have h := viewOK_some hV h
              exact stepK_of (p := q.un) (σ1 := σ) (by simp only [stepV, hI, ha, hln, Bool.false_and, loadV, hcs, hag, hc, hq, Bool.false_eq_true, if_false]) hs h
            · cases h
        · cases h
      · cases h
    · split at h
      · rename_i e I ha hI
        obtain ⟨h1, h2⟩ := chk_some h
        simp only [Bool.and_eq_true, decide_eq_true_eq] at h1
        refine stepK_of (p := e.un) (σ1 := σ) ?_ hs h2
        simp only [stepV, hI, ha, okLd, loadV]
        split <;> simp [h1.1, h1.2]
      · exact exGen_sound hs h
  · rename_i t a x
    have hs : sideV X.E ⟨dst, .store t a x, ty, pos, af, g⟩ σ := trivial
    split at h
    · rename_i hsy
      have hso : ∀ r, stOK X.E.mu X.E.ln (opT a) r = true := fun r => by
        simp only [Bool.and_eq_true, Bool.not_eq_true'] at hsy
        unfold stOK
        rw [hsy.2]
      split at h
      · rename_i I i0 off q hI ha hx
        split at h
        · rename_i cs hcs
          have hcl : (σ.clr x).h = σ.h := by cases x <;> simp only [ASt.clr] <;> split <;> rfl
          split at h
          · rename_i ds
            split at h
            · rename_i hc
              simp only [Bool.and_eq_true] at hc
              obtain ⟨h1, h2⟩ := chk_some h
              have hsv : storeV I (.ptr i0 off) (.agg ds) (σ.clr x) = some { σ.clr x with h := (σ.clr x).h.set i0 (some (cs.take off ++ ds.map PV.un ++ cs.drop (off + I.size))) } := by
                simp only [storeV, hcl, hcs]
                rw [if_pos ⟨Nat.eq_of_beq_eq_true hc.1, of_decide_eq_true h1, hc.2⟩]
              exact stepK_of (p := .tuple []) (σ1 := { σ.clr x with h := (σ.clr x).h.set i0 (some (cs.take off ++ ds.map PV.un ++ cs.drop (off + I.size))) }) (by simp only [stepV, hso, hI, ha, hx, hsv, Option.map_some]) hs (by unfold putX; simp only [ASt.put]; exact h2)
            · cases h
          · rename_i q' hna
            split at h
            · rename_i hc
              simp only [Bool.and_eq_true] at hc
              obtain ⟨h1, h2⟩ := chk_some h
              have hsv : storeV I (.ptr i0 off) q (σ.clr x) = some { σ.clr x with h := (σ.clr x).h.set i0 (some (cs.set off q)) } := by
                simp only [storeV, hcl, hcs]
                have hlt : off < cs.length := by simpa using h1
                cases q <;> first | exact (hna _ rfl).elim | (simp [PV.one] at hc; done) | (simp [PV.one, Nat.eq_of_beq_eq_true hc.2, hlt])
              exact stepK_of (p := .tuple []) (σ1 := { σ.clr x with h := (σ.clr x).h.set i0 (some (cs.set off q)) }) (by simp only [stepV, hso, hI, ha, hx, hsv, Option.map_some]) hs (by unfold putX; simp only [ASt.put]; exact h2)
            · cases h
        · cases h
      · cases h
    · split at h
      · rename_i ds hx
        split at h
        · rename_i I i0 off hI ha
          split at h
          · rename_i cs hcs
            split at h
            · rename_i hc
              simp only [Bool.and_eq_true, Nat.ble_eq] at hc
              obtain ⟨hso, hc1, hc2⟩ := hc
              obtain ⟨h1, h2⟩ := chk_some h
              have hcl : (σ.clr x).h = σ.h := by cases x <;> simp only [ASt.clr] <;> split <;> rfl
              have hsv : storeV I (.ptr i0 off) (.agg ds) (σ.clr x) = some { σ.clr x with h := (σ.clr x).h.set i0 (some (cs.take off ++ ds.map PV.un ++ cs.drop (off + I.size))) } := by
                simp only [storeV, hcl, hcs]
                rw [if_pos ⟨Nat.eq_of_beq_eq_true hc1, hc2, h1⟩]
              exact stepK_of (p := .tuple []) (σ1 := { σ.clr x with h := (σ.clr x).h.set i0 (some (cs.take off ++ ds.map PV.un ++ cs.drop (off + I.size))) }) (by simp only [stepV]; rw [hso]; simp only [hI, ha, hx, hsv, Option.map_some]) hs (by unfold putX; simp only [ASt.put]; exact h2)
            · cases h
          · cases h
        · cases h
      · exact exGen_sound hs h
  · rename_i t x i
    have hs : sideV X.E ⟨dst, .index t x i, ty, pos, af, g⟩ σ := trivial
    split at h
    · rename_i s k n hx hi
      split at h
      · rename_i ht
        obtain ⟨hn, b, hb, h⟩ := byteX_some h
        exact stepK_of (by simp only [stepV, pop, hx, hi]; rw [if_pos ⟨ht, hn⟩, hb]; try rfl) hs h
      · cases h
    · rename_i cs k n hx hi
      split at h
      · split at h
        · rename_i m e hm
          obtain ⟨c1, h⟩ := chk_some h
          simp only [Bool.and_eq_true, decide_eq_true_eq] at c1
          obtain ⟨I, h1, h2, h3⟩ := arrOne_spec hm
          obtain ⟨j, p, e1, e2, h⟩ := arrB_some h
          split at h
          · rename_i ho
            have ej : n.toNat = j := by omega
            exact stepK_of (p := p.un) (σ1 := σ) (by simp only [stepV, pop, hx, hi, h1]; rw [if_pos c1, h2, h3, subVal, Nat.mul_one, ej, e2]; simp [ho]) hs h
          · cases h
        · cases h
      · exact exGen_sound hs h
    · exact exGen_sound hs h
  · rename_i c a b
    have hs : sideV X.E ⟨dst, .pick c a b, ty, pos, af, g⟩ σ := trivial
    split at h
    · rename_i w hw
      cases w with
      | true =>
        have h : putO X.E dst (σ.rd a) K σ = some v := h
        cases ha : σ.rd a with
        | none => rw [ha] at h; cases h
        | some p =>
          rw [ha] at h
          exact stepK_of (by simp only [stepV, pop, hw, ha]; try rfl) hs h
      | false =>
        have h : putO X.E dst (σ.rd b) K σ = some v := h
        cases ha : σ.rd b with
        | none => rw [ha] at h; cases h
        | some p =>
          rw [ha] at h
          exact stepK_of (by simp only [stepV, pop, hw, ha]; try rfl) hs h
    · cases h
  · rename_i t x lo hi
    have hs : sideV X.E ⟨dst, .slice t x lo hi none, ty, pos, af, g⟩ σ := trivial
    split at h
    · rename_i ow sz es hx
      split at h
      · rename_i I hI
        split at h
        · rename_i hz
          obtain ⟨p, h1, h2⟩ := sliceL_sound hI hz hx h
          exact stepK_of (by simp only [stepV, h1, Option.map_some]; try rfl) hs h2
        · cases h
      · cases h
    · rename_i s hx
      split at h
      · rename_i ht
        obtain ⟨p, h1, h2⟩ := sliceS_sound ht hx h
        exact stepK_of (by simp only [stepV, h1, Option.map_some]; try rfl) hs h2
      · cases h
    · rename_i i0 off m sz hx
      obtain ⟨p, h1, h2⟩ := sliceH_sound hx h
      exact stepK_of (by simp only [stepV, h1, Option.map_some]; try rfl) hs h2
    · exact exGen_sound hs h
  · rename_i t x l u m
    have hs : sideV X.E ⟨dst, .slice t x (some l) (some u) (some m), ty, pos, af, g⟩ σ := trivial
    split at h
    · rename_i ow sz es k1 a k2 b k3 c hx hl hu hm
      split at h
      · rename_i I hI
        split at h
        · rename_i hz
          obtain ⟨h1, h2⟩ := chk_some h
          simp only [Bool.and_eq_true, decide_eq_true_eq] at h1
          obtain ⟨⟨⟨b1, b2⟩, b3⟩, b4⟩ := h1
          exact stepK_of (σ1 := σ) (by simp only [stepV, pop, hx, hl, hu, hm, slice3PV]; rw [if_pos ⟨by rw [hI, Option.map_some, Nat.eq_of_beq_eq_true hz], b1, b2, b3, b4⟩]; rfl) hs h2
        · cases h
      · cases h
    · cases h
  · rename_i t l c
    have hs : sideV X.E ⟨dst, .makeSlice t l c, ty, pos, af, g⟩ σ := trivial
    unfold exMake at h
    split at h
    · rename_i I k n k' n' hT hl hc
      split at h
      · rename_i hz
        simp only [Bool.and_eq_true, Nat.blt_eq, Nat.ble_eq] at hz
        obtain ⟨h1, h2⟩ := chk_some h
        simp only [Bool.and_eq_true, decide_eq_true_eq] at h1
        have hcond : n = n' ∧ 0 ≤ n ∧ n ≤ 1073741824 ∧ 0 < I.size ∧ I.bytes ≤ 1024 := ⟨h1.1.1, h1.1.2, h1.2, hz.1, hz.2⟩
        split at h2
        · rename_i hm
          exact stepK_of (σ1 := ⟨σ.s, σ.h ++ [some (zeroCs n.toNat I)]⟩) (by simp only [stepV, hT, hl, hc]; rw [if_pos hcond, if_pos hm]) hs h2
        · rename_i hm
          split at h2
          · rename_i hze
            simp only [Bool.and_eq_true] at hze
            exact stepK_of (σ1 := σ) (by simp only [stepV, hT, hl, hc]; rw [if_pos hcond, if_neg (by rw [hm]; simp), if_pos ⟨Nat.eq_of_beq_eq_true hze.1, hze.2⟩]) hs h2
          · cases h2
      · cases h
    · cases h
  · rename_i t m k ok
    have hs : sideV X.E ⟨dst, .lookup t m k ok, ty, pos, af, g⟩ σ := trivial
    split at h
    · rename_i pm q hm hq
      unfold exLook at h
      split at h
      · rename_i s z i ht
        split at h
        · rename_i cs hcs
          split at h
          · rename_i b L hin
            split at h
            · rename_i hik
              unfold mapX at h
              split at h
              · rename_i p hg
                have h := viewOK_some hV h
                exact stepK_of (σ1 := σ) (p := lookR ok z (some p)) (by simp only [stepV, ht, hm, hq, hcs, hin, hik, hg]) hs h
              · rename_i hg
                exact stepK_of (σ1 := σ) (p := lookR ok z none) (by simp only [stepV, ht, hm, hq, hcs, hin, hik, hg]) hs h
              · cases h
            · cases h
          · cases h
        · cases h
      · cases h
    · cases h
  · rename_i t m k x
    have hs : sideV X.E ⟨dst, .mapUpdate t m k x, ty, pos, af, g⟩ σ := trivial
    split at h
    · rename_i pm q y hm hq hy
      unfold exUpd at h
      split at h
      · rename_i s z i ht
        split at h
        · rename_i cs hcs
          split at h
          · rename_i b L hin
            split at h
            · rename_i hik
              obtain ⟨h1, h2⟩ := chk_some h
              exact stepK_of (p := .tuple []) (σ1 := { σ with h := σ.h.set i (some [mapC b (mapPut s L q y)]) }) (by simp only [stepV, ht, hm, hq, hy, hcs, hin, hik, h1, Bool.and_self]) hs (by simpa [putX, ASt.put] using h2)
            · cases h
          · cases h
        · cases h
      · cases h
    · cases h
  · rename_i x b
    have hs : sideV X.E ⟨dst, .next x b, ty, pos, af, g⟩ σ := trivial
    unfold exNext at h
    split at h
    · rename_i T i hx
      split at h
      · rename_i cs hcs
        split at h
        · rename_i s p hin
          split at h
          · rename_i hT
            obtain ⟨h1, h2⟩ := chk_some h
            cases hp : decide (p < (s.size : Int)) with
            | true =>
              rw [hp] at h2
              exact stepK_of (p := .tuple [.bool true, .int .i64 p, .int .i32 (iterRn s p)]) (σ1 := { σ with h := σ.h.set i (some [iterC s (iterNx s p)]) }) (by simp only [stepV, hx, hcs, hin, hT, h1, hp, Bool.and_self]) hs h2
            | false =>
              rw [hp] at h2
              exact stepK_of (p := .tuple [.bool false]) (σ1 := σ) (by simp only [stepV, hx, hcs, hin, hT, h1, hp, Bool.and_self]) hs h2
          · cases h
        · cases h
      · cases h
    · cases h
  · rename_i s x f
    have hs : sideV X.E ⟨dst, .fieldAddr s x f, ty, pos, af, g⟩ σ := trivial
    split at h
    · rename_i cs fs hx hfs
      split at h
      · rename_i off z hf
        split at h
        · rename_i p hz hp
          obtain ⟨h1, h2⟩ := chk_some h
          have hz : z ≠ 0 := fun e => by subst e; exact absurd hz (by decide)
          exact stepK_of (p := .cst p.un) (σ1 := σ) (by simp only [stepV, pop, hfs, hx, hf, Option.bind_some, if_neg hz, subAddr, subVal, hp, h1, if_true, Bool.false_eq_true, if_false, Option.map_some]) hs h2
        · cases h
      · exact exGen_sound hs h
    · exact exGen_sound hs h
  · rename_i t x
    have hs : sideV X.E ⟨dst, .box t x, ty, pos, af, g⟩ σ := trivial
    split at h
    · rename_i ds hf hx
      obtain ⟨h1, h2⟩ := chk_some h
      rw [Bool.and_eq_true] at h1
      exact stepK_of (p := .cst (.agg (ds.map PV.un))) (σ1 := σ) (by simp only [stepV, hf, hx, Option.bind_some, if_true]; rw [show frzPV (.agg ds) = some (.agg (ds.map PV.un)) by simp only [frzPV, PV.newCells, h1.1, if_true, PV.flat, h1.2]]; rfl) hs h2
    · exact exGen_sound hs h
  · rename_i bop t x y t'
    have hs : sideV X.E ⟨dst, .binOp bop t x y t', ty, pos, af, g⟩ σ := trivial
    split at h
    · rename_i k a k' b hx hy
      unfold exDiv at h
      split at h
      · rename_i e
        obtain ⟨h1, h2⟩ := chk_some h
        have h1 : b ≠ 0 := by simpa using h1
        exact stepK_of (by simp only [stepV, pop, hx, hy, binPV, if_pos e, intBin, if_neg h1]; try rfl) hs h2
      · cases h
    · rename_i k a k' b hx hy
      unfold exDiv at h
      split at h
      · rename_i e
        obtain ⟨h1, h2⟩ := chk_some h
        have h1 : b ≠ 0 := by simpa using h1
        exact stepK_of (by simp only [stepV, pop, hx, hy, binPV, if_pos e, intBin, if_neg h1]; try rfl) hs h2
      · cases h
    · rename_i k a k' b hx hy
      obtain ⟨h1, h2⟩ := chk_some h
      have h1 : ¬ b < 0 := by simpa using h1
      exact stepK_of (by simp only [stepV, pop, hx, hy, binPV, shiftBin, if_neg h1]; try rfl) hs h2
    · rename_i k a k' b hx hy
      obtain ⟨h1, h2⟩ := chk_some h
      have h1 : ¬ b < 0 := by simpa using h1
      exact stepK_of (by simp only [stepV, pop, hx, hy, binPV, shiftBin, if_neg h1]; try rfl) hs h2
    · rename_i a b hx hy
      obtain ⟨h1, h2⟩ := chk_some h
      have h1 := of_decide_eq_true h1
      exact stepK_of (by simp only [stepV, pop, hx, hy, binPV, strBin, if_pos h1]; try rfl) hs h2
    · rename_i p hx hy
      unfold exFn at h
      split at h
      · rename_i ht
        obtain ⟨b, h1, h2⟩ := fnX_some h
        exact stepK_of (σ1 := σ) (by simp only [stepV, pop, hx, hy]; rw [fn_bin ht h2 true]; rfl) hs h1
      · cases h
    · rename_i p hx hy
      unfold exFn at h
      split at h
      · rename_i ht
        obtain ⟨b, h1, h2⟩ := fnX_some h
        exact stepK_of (σ1 := σ) (by simp only [stepV, pop, hx, hy]; rw [fn_bin ht h2 false]; rfl) hs h1
      · cases h
    · exact exGen_sound hs h
  · rename_i c
    split at h
    · rename_i hca
      split at h
      · rename_i x t h1 h2
        have hs : sideV X.E ⟨dst, .call c, ty, pos, af, g⟩ σ := by simp only [sideV, hca]
        unfold exClear at h
        split at h
        · rename_i I i0 off m sz hT hx
          split at h
          · rename_i cs hcs
            split at h
            · rename_i hz
              obtain ⟨c1, c2⟩ := chk_some h
              exact stepK_of (p := .tuple []) (σ1 := { σ with h := σ.h.set i0 (some (cs.take off ++ (zeroCs m I).map PV.un ++ cs.drop (off + m * sz))) }) (by simp only [stepV, hca, h1, h2, hT, hx, hcs]; rw [if_pos ⟨Nat.eq_of_beq_eq_true hz, of_decide_eq_true c1⟩]) hs (by unfold putX; simp only [ASt.put]; exact c2)
            · cases h
          · cases h
        · rename_i I o' z' hT hx
          exact stepK_of (p := .tuple []) (σ1 := σ) (by simp only [stepV, hca, h1, h2, hT, hx]) hs (by unfold putX; simp only [ASt.put]; exact h)
        · cases h
      · cases h
    · rename_i hca
      split at h
      · rename_i x y t u h1 h2
        have hs : sideV X.E ⟨dst, .call c, ty, pos, af, g⟩ σ := by simp only [sideV, hca]
        unfold exCopy at h
        split at h
        · rename_i I i0 off n sz o' sz' es hT hx hy
          split at h
          · rename_i cs hcs
            split at h
            · rename_i hz
              simp only [Bool.and_eq_true, Nat.blt_eq] at hz
              obtain ⟨z1, z2, z3⟩ := hz
              obtain ⟨c1, c2⟩ := chk_some h
              exact stepK_of (p := .int .i64 ((Nat.min es.length n : Nat) : Int)) (σ1 := { σ with h := σ.h.set i0 (some (cs.take off ++ (flatPV es).take (Nat.min es.length n * sz) ++ cs.drop (off + Nat.min es.length n * sz))) }) (by simp only [stepV, hca, h1, h2, hT, hx, hy, hcs, copySrc, z3]; rw [if_pos ⟨Nat.eq_of_beq_eq_true z1, z2, of_decide_eq_true c1⟩]) hs c2
            · cases h
          · cases h
        · rename_i I i0 off n sz j0 off2 m sz' hT hx hy
          split at h
          · rename_i cs cs2 hcs hcs2
            split at h
            · rename_i hz
              simp only [Bool.and_eq_true, Nat.blt_eq] at hz
              obtain ⟨z1, z2, z3⟩ := hz
              have z3 := Nat.eq_of_beq_eq_true z3
              subst z3
              obtain ⟨c1, c2⟩ := chk_some h
              simp only [Bool.and_eq_true, decide_eq_true_eq] at c1
              exact stepK_of (p := .int .i64 ((Nat.min m n : Nat) : Int)) (σ1 := { σ with h := σ.h.set i0 (some (cs.take off ++ (((cs2.drop off2).take (m * sz')).map PV.un).take (Nat.min m n * sz') ++ cs.drop (off + Nat.min m n * sz'))) }) (by
                have e1 : copySrc σ sz' (.slh j0 off2 m sz') = some (m, ((cs2.drop off2).take (m * sz')).map PV.un) := by simp only [copySrc, hcs2]; rw [if_pos ⟨trivial, c1.2⟩]
                simp only [stepV, hca, h1, h2, hT, hx, hy, hcs, e1]; rw [if_pos ⟨Nat.eq_of_beq_eq_true z1, z2, c1.1⟩]) hs c2
            · cases h
          · cases h
        · cases h
      · cases h
    · rename_i hca
      split at h
      · rename_i s x hxs
        split at h
        · rename_i o1 z1 es o2 z2 es' he hx
          obtain ⟨h1, h2⟩ := chk_some h
          exact exGen_sound (by simp only [sideV, hca, hxs, he, hx]; exact of_decide_eq_true h1) h2
        · rename_i o1 z1 es b he hx
          obtain ⟨h1, h2⟩ := chk_some h
          exact exGen_sound (by simp only [sideV, hca, hxs, he, hx]; exact of_decide_eq_true h1) h2
        · rename_i n1 z1 cs o2 z2 es' he hx
          unfold exAppP at h
          split at h
          · rename_i t u hts
            split at h
            · rename_i I hT
              split at h
              · rename_i hc
                simp only [Bool.and_eq_true, Bool.or_eq_true, Nat.blt_eq, Nat.ble_eq] at hc
                obtain ⟨c1, c2, c3, c4, c5⟩ := hc
                obtain ⟨h1, h2⟩ := chk_some h
                simp only [Bool.and_eq_true] at h1
                have c1 := Nat.eq_of_beq_eq_true c1
                have c4 := Nat.eq_of_beq_eq_true c4
                have c5 : z2 = I.size ∨ z2 = 0 := c5.imp (fun e => Nat.eq_of_beq_eq_true e) fun e => Nat.eq_of_beq_eq_true e
                subst c1; subst c4
                exact stepK_of (σ1 := σ.clr s) (by simp only [stepV, hca, hxs, hts, hT, he, hx]; rw [if_pos ⟨trivial, c2, c3, trivial, c5, h1.2⟩]) (by simp only [sideV, hca, hxs, he, hx]; exact of_decide_eq_true h1.1) h2
              · cases h
            · cases h
          · cases h
        · rename_i l b he hx
          obtain ⟨h1, h2⟩ := chk_some h
          exact exGen_sound (by simp only [sideV, hca, hxs, he, hx]; exact of_decide_eq_true h1) h2
        · rename_i l o2 z2 es' he hx
          split at h
          · rename_i c hob
            obtain ⟨h1, h2⟩ := chk_some h
            simp only [Bool.and_eq_true, decide_eq_true_eq] at h1
            exact exGen_sound (by simp only [sideV, hca, hxs, he, hx, hob]; exact ⟨h1.1.1, h1.1.2, h1.2⟩) h2
          · cases h
        · cases h
      · cases h
    · rename_i hnot hca
      refine exGen_sound ?_ h
      simp only [sideV, hca]
      split
      · rename_i e; injection e with e; exact absurd e hnot
      · trivial
    · cases h
  · refine exGen_sound (side_no (fun c e => ?_) _) h
    rename_i hnc
    exact hnc c e
/-- The calls say what is so. -/
def calOK (P : Program) (C : Cal) : Prop := ∀ g args h r h', C g args h = some (r, h') → Ev P g args h r h'
theorem argT_reps {M : Mem} {B : Blk} {P : Program} : ∀ {ts : List TypeId} {ps : List PV} {vs : List Value}, Reps M B ps vs → Reps M B (argT P ts ps) vs
  | [], ps, vs, h => by cases ps <;> exact h
  | t :: ts, [], vs, h => h
  | t :: ts, p :: ps, vs, h => by
    obtain ⟨u, us, rfl, h1, h2⟩ := reps_cons.1 h
    exact reps_cons.2 ⟨u, us, rfl, by unfold rszA; split <;> first | exact h1 | exact rep_reszT _ h1, argT_reps h2⟩
theorem reps_split {M : Mem} {B : Blk} : ∀ {ps qs : List PV} {vs : List Value}, Reps M B (ps ++ qs) vs → ∃ us ws, vs = us ++ ws ∧ Reps M B ps us ∧ Reps M B qs ws
  | [], qs, vs, h => ⟨[], vs, rfl, reps_nil.2 rfl, h⟩
  | p :: ps, qs, vs, h => by
    obtain ⟨u, us, rfl, h1, h2⟩ := reps_cons.1 h
    obtain ⟨a, b, rfl, h3, h4⟩ := reps_split h2
    exact ⟨u :: a, b, rfl, reps_cons.2 ⟨u, a, rfl, h1, h3⟩, h4⟩
/-- A contract serves for all arguments that are seen so. -/
theorem Ev.args {P : Program} {g : FuncId} {as as' : List PV} {h : Objs} {r : PV} {h' : Objs} (k : Ev P g as' h r h') (hr : ∀ (M : Mem) (B : Blk) (vs : List Value), Reps M B as vs → Reps M B as' vs) : Ev P g as h r h' :=
  ⟨k.1, fun out M B w vals h1 h2 h3 h4 h5 => k.2 out M B w vals h1 h2 h3 h4 (hr _ _ _ h5)⟩
theorem argT_flat {P : Program} : ∀ {ts : List TypeId} {ps : List PV}, PV.flats (argT P ts ps) = PV.flats ps
  | [], ps => by cases ps <;> rfl
  | t :: ts, [] => rfl
  | t :: ts, p :: ps => by
    have h1 : ∀ z (p : PV), (p.resz z).flat = p.flat := fun z p => by
      cases p with
      | sl o s es => rw [PV.resz]; split
                     · unfold nilP; split <;> rfl
                     · rfl
      | _ => rfl
    have h2 : ∀ zs (cs : List PV), PV.flats (reszC zs cs) = PV.flats cs := by
      intro zs
      induction zs with
      | nil => intro cs; cases cs <;> rfl
      | cons z zs ih =>
        intro cs
        cases cs with
        | nil => rfl
        | cons c cs => rw [reszC, PV.flats, PV.flats, h1, ih]
    have h3 : (p.reszT (cellSz P 8 t)).flat = p.flat := by
      cases p with
      | agg cs => simp only [PV.reszT, PV.flat, h2]
      | _ => simp only [PV.reszT, h1]
    have h4 : (rszA (cellSz P 8 t) p).flat = p.flat := by unfold rszA; split <;> first | rfl | exact h3
    rw [argT, PV.flats, PV.flats, h4, argT_flat]
theorem flats_app : ∀ {a b : List PV}, PV.flats (a ++ b) = (PV.flats a && PV.flats b)
  | [], b => by simp [PV.flats]
  | p :: a, b => by simp [PV.flats, flats_app (a := a), Bool.and_assoc]
theorem exCallH_some (hW : outOK X.W) (hC : calOK X.E.P X.C) {dst : Option Nat} {g : FuncId} {full full' : List PV} {ids : List Nat} (hconv : ∀ (M : Mem) (B : Blk) (vs : List Value), Reps M B full' vs → Reps M B full vs) (h : exCallH X dst g full ids K σ = some v) :
    ∃ r h', Ev X.E.P g full' σ.h r (bigH ids σ.h h') ∧ thenPut X.E dst r { σ with h := bigH ids σ.h h' } (fun σ' => K σ' = some v) := by
  simp only [exCallH] at h
  split at h
  · rename_i hok
    unfold clH at h
    split at h
    · rename_i r h' hr
      have h := outOK_some hW h
      simp only [subOK, Bool.and_eq_true] at hok
      obtain ⟨k1, k2, k3, k4⟩ := hok
      have he := (Ev.sub (hC _ _ _ _ _ hr) k1 (fun i hi => by
        have := List.all_eq_true.1 k2 i hi
        simpa [Nat.blt_eq] using this) k3 (fun i cs hi hcs => by
        have := List.all_eq_true.1 k4 i hi
        rw [getO_some.2 hcs] at this; exact this)).args (as := full') hconv
      exact ⟨_, _, he, putX_sound h⟩
    · cases h
  · cases h
theorem exCallH_sound (hW : outOK X.W) (hC : calOK X.E.P X.C) {dst : Option Nat} {g : FuncId} {full full' : List PV} {ids : List Nat} (hconv : ∀ (M : Mem) (B : Blk) (vs : List Value), Reps M B full' vs → Reps M B full vs) (h : exCallH X dst g full ids K σ = some v) :
    callK X.E g full' dst (fun σ' => K σ' = some v) σ := by
  obtain ⟨r, h', h1, h2⟩ := exCallH_some hW hC hconv h
  exact ⟨r, _, h1, h2⟩
theorem roOK_eq {E : AE} {ids : List Nat} {H : Objs} (h : roOK E.ln ids H.length = true) (h' : Objs) : roEq E (bigH ids H h') H := by
  intro i hi
  have hm : 1000000 + i ∈ E.ln := by simpa [inMv] using hi
  have := List.all_eq_true.1 h _ hm
  rw [show Nat.ble 1000000 (1000000 + i) = true by rw [Nat.ble_eq]; omega, Nat.add_sub_cancel_left] at this
  simp only [Bool.and_eq_true, Bool.not_eq_true'] at this
  obtain ⟨h1, h2⟩ := this
  have hlt : i < H.length := by simpa [Nat.blt_eq] using h1
  have hni : i ∉ ids := fun hc => by rw [inI_iff.2 hc] at h2; cases h2
  unfold bigH
  rw [List.getElem?_append_left (by rw [setIds_length]; exact hlt), setIds_not hni]
theorem exCall_some (hW : outOK X.W) (hC : calOK X.E.P X.C) {f : Operand} {args : List Operand} (h : exCall X true o f args K σ = some v) :
    ∃ g first caps as, σ.rd f = some (.func (.func g) first caps) ∧ allSome (args.map σ.rd) = some as ∧ callKD X.E g (first ++ as ++ caps) o.dst (fun σ' => K σ' = some v) σ := by
  unfold exCall at h
  split at h
  · rename_i g first caps as hf ha
    try simp only [Bool.not_true, Bool.false_and] at h
    have hconv : ∀ (M : Mem) (B : Blk) (vs : List Value), Reps M B (first ++ as ++ caps) vs → Reps M B (first ++ argT X.E.P (callTs X.E o) as ++ caps) vs := fun M B vs hv => by
      obtain ⟨a1, a2, rfl, h1, h2⟩ := reps_split hv
      obtain ⟨a3, a4, rfl, h3, h4⟩ := reps_split h1
      exact reps_append (reps_append h3 (argT_reps h4)) h2
    split at h
    · rename_i hfl
      unfold clX at h
      split at h
      · rename_i r hr
        have h := outOK_some hW h
        try simp only [Bool.not_true, Bool.false_and] at h
        split at h
        · rename_i hrf
          exact ⟨g, first, caps, as, hf, ha, callKD_pure ((hC _ _ _ _ _ hr).args hconv) hrf (by rw [flats_app, flats_app, argT_flat] at hfl; rw [flats_app, flats_app]; exact hfl) (putX_sound h)⟩
        · cases h
      · cases h
    · split at h
      · rename_i hsy
        rw [Bool.and_eq_true] at hsy
        obtain ⟨r, h', h1, h2⟩ := exCallH_some hW hC hconv h
        exact ⟨g, first, caps, as, hf, ha, .inr ⟨hsy.1, r, _, h1, roOK_eq hsy.2 h', h2⟩⟩
      · cases h
  · cases h
theorem ren_plainC {p : PV} (h : plainC p = true) (f : Nat → Nat) : renP f p = p := by
  unfold plainC at h
  rw [Bool.and_eq_true] at h
  obtain ⟨h1, h2⟩ := h
  cases p <;> first | rfl | (simp [PV.one] at h1; done) | (simp [PV.noref] at h2; done) | simp [renP]
theorem ren_plain (f : Nat → Nat) : ∀ {cs : List PV}, cs.all plainC = true → renL f cs = cs
  | [], _ => by simp [renL]
  | p :: cs, h => by
    rw [List.all_cons, Bool.and_eq_true] at h
    rw [renL, ren_plainC h.1, ren_plain f h.2]
theorem renO_plain (f : Nat → Nat) {o : Option (List PV)} (h : plainOb o = true) : renO f o = o := by
  cases o with
  | none => rfl
  | some cs => simp only [renO]; rw [ren_plain f h]
theorem renOs_plain (f : Nat → Nat) : ∀ {h : Objs}, h.all plainOb = true → h.map (renO f) = h
  | [], _ => rfl
  | o :: h, e => by
    rw [List.all_cons, Bool.and_eq_true] at e
    rw [List.map_cons, renO_plain f e.1, renOs_plain f e.2]
theorem allI_plainC {p : PV} (h : plainC p = true) (D : Nat → Bool) : p.allI D = true := by
  unfold plainC at h
  rw [Bool.and_eq_true] at h
  obtain ⟨h1, h2⟩ := h
  cases p <;> first | (simp [PV.one] at h1; done) | (simp [PV.noref] at h2; done) | simp [PV.allI]
theorem allIL_plain (D : Nat → Bool) : ∀ {cs : List PV}, cs.all plainC = true → PV.allIL D cs = true
  | [], _ => by simp [PV.allIL]
  | p :: cs, h => by
    rw [List.all_cons, Bool.and_eq_true] at h
    rw [PV.allIL, allI_plainC h.1, allIL_plain D h.2]; rfl
theorem bigH_plain (ids : List Nat) (H : Objs) {h' : Objs} (e : h'.all plainOb = true) : bigH ids H h' = setP ids H h' := by
  unfold bigH setP
  have e1 : (h'.take ids.length).all plainOb = true := List.all_eq_true.2 fun x hx => List.all_eq_true.1 e x (List.mem_of_mem_take hx)
  have e2 : (h'.drop ids.length).all plainOb = true := List.all_eq_true.2 fun x hx => List.all_eq_true.1 e x (List.mem_of_mem_drop hx)
  rw [renOs_plain _ e1, renOs_plain _ e2]
theorem exCallP_sound (hW : outOK X.W) (hC : calOK X.E.P X.C) {dst : Option Nat} {g : FuncId} {full full' : List PV} {ids : List Nat} (hconv : ∀ (M : Mem) (B : Blk) (vs : List Value), Reps M B full' vs → Reps M B full vs) (h : exCallP X dst g full ids K σ = some v) : callK X.E g full' dst (fun σ' => K σ' = some v) σ := by
  simp only [exCallP] at h
  split at h
  · rename_i hok
    obtain ⟨c1, h⟩ := chk_some h
    unfold clH at h
    split at h
    · rename_i r h' hr
      have h := outOK_some hW h
      obtain ⟨c2, h⟩ := chk_some h
      simp only [Bool.and_eq_true] at hok
      obtain ⟨k1, k2, k3⟩ := hok
      rw [← renOs_plain (posI _) c1] at hr
      have he := (Ev.sub (hC _ _ _ _ _ hr) k1 (fun i hi => by
        have := List.all_eq_true.1 k2 i hi
        simpa [Nat.blt_eq] using this) k3 (fun i cs hi hcs => by
        have := List.all_eq_true.1 c1 (getO σ.h i) (List.mem_map_of_mem hi)
        rw [getO_some.2 hcs] at this
        exact allIL_plain _ this)).args (as := full') hconv
      rw [bigH_plain _ _ c2] at he
      exact ⟨_, _, he, putX_sound h⟩
    · cases h
  · cases h
theorem exCall_any (hW : outOK X.W) (hC : calOK X.E.P X.C) {f : Operand} {args : List Operand} (h : exCall X false o f args K σ = some v) :
    ∃ g first caps as, σ.rd f = some (.func (.func g) first caps) ∧ allSome (args.map σ.rd) = some as ∧ callK X.E g (first ++ as ++ caps) o.dst (fun σ' => K σ' = some v) σ := by
  unfold exCall at h
  split at h
  · rename_i g first caps as hf ha
    have hconv : ∀ (M : Mem) (B : Blk) (vs : List Value), Reps M B (first ++ as ++ caps) vs → Reps M B (first ++ argT X.E.P (callTs X.E o) as ++ caps) vs := fun M B vs hv => by
      obtain ⟨a1, a2, rfl, h1, h2⟩ := reps_split hv
      obtain ⟨a3, a4, rfl, h3, h4⟩ := reps_split h1
      exact reps_append (reps_append h3 (argT_reps h4)) h2
    split at h
    · split at h
      · exact ⟨g, first, caps, as, hf, ha, exCallP_sound hW hC hconv h⟩
      · exact ⟨g, first, caps, as, hf, ha, exCallH_sound hW hC hconv h⟩
    split at h
    · rename_i hfl
      unfold clX at h
      split at h
      · rename_i r hr
        have h := outOK_some hW h
        split at h
        · unfold exThaw at h
          split at h
          · rename_i es
            obtain ⟨h1, h2⟩ := chk_some h
            simp only [Bool.and_eq_true, decide_eq_true_eq] at h1
            exact ⟨g, first, caps, as, hf, ha, _, _, (Ev.thaw (H := σ.h) (hC _ _ _ _ _ hr) hfl h1.1 h1.2).args hconv, putX_sound h2⟩
          · rename_i sz es _ _
            by_cases hpos : 0 < es.length
            · rw [decide_eq_true hpos] at h
              obtain ⟨h1, h2⟩ := chk_some h
              exact ⟨g, first, caps, as, hf, ha, _, _, (Ev.thawG (H := σ.h) (hC _ _ _ _ _ hr) hfl hpos h1).args hconv, putX_sound h2⟩
            · rw [decide_eq_false hpos] at h
              have e0 : es = [] := List.eq_nil_of_length_eq_zero (by omega)
              subst e0
              exact ⟨g, first, caps, as, hf, ha, callK_pure ((hC _ _ _ _ _ hr).args hconv) rfl (by rw [flats_app, flats_app, argT_flat] at hfl; rw [flats_app, flats_app]; exact hfl) (putX_sound h)⟩
          · cases h
        · split at h
          · rename_i hrf
            exact ⟨g, first, caps, as, hf, ha, callK_pure ((hC _ _ _ _ _ hr).args hconv) hrf (by rw [flats_app, flats_app, argT_flat] at hfl; rw [flats_app, flats_app]; exact hfl) (putX_sound h)⟩
          · cases h
      · cases h
    · split at h
      · rename_i e; cases e
      · split at h
        · unfold exLend at h
          obtain ⟨h1, h2⟩ := chk_some h
          unfold clX at h2
          split at h2
          · rename_i r hr
            have h2 := outOK_some hW h2
            split at h2
            · rename_i hrn
              exact ⟨g, first, caps, as, hf, ha, _, _, (Ev.lend (hC _ _ _ _ _ hr) hrn h1).args hconv, putX_sound h2⟩
            · cases h2
          · cases h2
        · split at h
          · exact ⟨g, first, caps, as, hf, ha, exCallP_sound hW hC hconv h⟩
          exact ⟨g, first, caps, as, hf, ha, exCallH_sound hW hC hconv h⟩
  · cases h
theorem exCallF_some (hV : viewOK X.V) (hC : calOK X.E.P X.C) {f : Operand} {args : List Operand} (h : exCallF X o f args K σ = some v) :
    ∃ g first caps as r, σ.rd f = some (.func (.func g) first caps) ∧ allSome (args.map σ.rd) = some as ∧ Ev X.E.P g (first ++ as ++ caps) [] r [] ∧ r.flat = true ∧ PV.flats (first ++ as ++ caps) = true ∧ thenPut X.E o.dst r σ (fun σ' => K σ' = some v) := by
  unfold exCallF at h
  split at h
  · rename_i p as hf ha
    obtain ⟨g, first, caps, rfl, h⟩ := fvX_some h
    obtain ⟨hfl, h⟩ := chk_some h
    have hconv : ∀ (M : Mem) (B : Blk) (vs : List Value), Reps M B (first ++ as ++ caps) vs → Reps M B (first ++ argT X.E.P (callTs X.E o) as ++ caps) vs := fun M B vs hv => by
      obtain ⟨a1, a2, rfl, h1, h2⟩ := reps_split hv
      obtain ⟨a3, a4, rfl, h3, h4⟩ := reps_split h1
      exact reps_append (reps_append h3 (argT_reps h4)) h2
    unfold clX at h
    split at h
    · rename_i r hr
      have h := viewOK_some hV h
      split at h
      · rename_i hrf
        exact ⟨g, first, caps, as, r, hf, ha, (hC _ _ _ _ _ hr).args hconv, hrf, by rw [flats_app, flats_app, argT_flat] at hfl; rw [flats_app, flats_app]; exact hfl, putX_sound h⟩
      · cases h
    · cases h
  · cases h
theorem ex1_sound (hV : viewOK X.V) (hW : outOK X.W) (hC : calOK X.E.P X.C) (h : ex1 X false o K σ = some v) : awpOp X.E o (fun σ' => K σ' = some v) σ := by
  unfold ex1 at h
  split at h
  · rename_i f args hc
    obtain ⟨g, first, caps, as, hf, ha, h2⟩ : ∃ g first caps as, σ.rd f = some (.func (.func g) first caps) ∧ allSome (args.map σ.rd) = some as ∧ callK X.E g (first ++ as ++ caps) o.dst (fun σ' => K σ' = some v) σ := by
      split at h
      · obtain ⟨g, first, caps, as, r, h1, h2, h3, h4, h5, h6⟩ := exCallF_some hV hC h
        exact ⟨g, first, caps, as, h1, h2, callK_pure h3 h4 h5 h6⟩
      · exact exCall_any hW hC h
    clear h
    obtain ⟨dst, op, type, pos, after, guard⟩ := o
    cases op <;> simp [isCall] at hc
    rename_i c
    obtain ⟨callee, cargs, ts⟩ := c
    cases callee <;> simp at hc
    obtain ⟨rfl, rfl⟩ := hc
    simp only [awpOp, hf, ha]
    exact h2
  · rename_i hc
    rw [awpOp_step hc]
    split at h
    · exact .inl (exOp_sound hV hc h)
    · split at h
      · rename_i es pos hn
        refine .inr ?_
        unfold nilK
        rw [hn]
        intro b hb
        obtain ⟨h1, h2⟩ := nilX_some h
        cases b
        · exact putX_sound h1
        · exact putX_sound (h2 (hb rfl))
      · exact .inl (exOp_sound hV hc h)
theorem ex1_soundD (hV : viewOK X.V) (hW : outOK X.W) (hC : calOK X.E.P X.C) (h : ex1 X true o K σ = some v) : awpOpD X.E o (fun σ' => K σ' = some v) σ := by
  unfold ex1 at h
  unfold awpOpD
  split at h
  · rename_i f args hc
    obtain ⟨g, first, caps, as, hf, ha, h⟩ : ∃ g first caps as, σ.rd f = some (.func (.func g) first caps) ∧ allSome (args.map σ.rd) = some as ∧ callKD X.E g (first ++ as ++ caps) o.dst (fun σ' => K σ' = some v) σ := by
      split at h
      · obtain ⟨g, first, caps, as, r, h1, h2, h3, h4, h5, h6⟩ := exCallF_some hV hC h
        exact ⟨g, first, caps, as, h1, h2, callKD_pure h3 h4 h5 h6⟩
      · exact exCall_some hW hC h
    simp only [hc, hf, ha]
    exact h
  · rename_i hc
    simp only [hc]
    exact exOp_sound hV hc h
theorem lit_get {d : Nat} {b : Bool} (h : sget d σ.s = some (.bool b)) : σ.lit d b = σ := by unfold ASt.lit; rw [slit_eq h]
theorem exOps_sound (hV : viewOK X.V) (hW : outOK X.W) (hC : calOK X.E.P X.C) : ∀ (l : List Oper) {K : ASt → R} {σ : ASt}, exOps X false ops l K σ = some v → awpOps X.E ops l (fun σ' => K σ' = some v) σ
  | [], K, σ, h => h
  | o :: l, K, σ, h => by
    have ih : ∀ σ, exOps X false ops l K σ = some v → awpOps X.E ops l (fun σ' => K σ' = some v) σ := fun σ h => exOps_sound hV hW hC l h
    rw [exOps] at h
    rw [awpOps]
    split at h
    · rename_i hg
      simp only [hg]
      exact awpOp_mono ih (ex1_sound hV hW hC h)
    · rename_i j want hg
      simp only [hg, gval]
      split at h
      · rename_i hd
        simp only [hd]
        exact thenPut_mono ih (putX_sound h)
      · rename_i d hd
        simp only [hd]
        split at h
        · rename_i b hb
          simp only [hb]
          have key : exGd X false o d want b (exOps X false ops l K) σ = some v := by
            cases b
            · exact h
            · exact h
          unfold exGd at key
          split at key
          · rename_i e
            have e : b = want := by simpa using e
            rw [lit_get hb] at key
            exact ⟨fun _ => awpOp_mono ih (ex1_sound hV hW hC key), fun h => absurd e h⟩
          · rename_i e
            have e : b ≠ want := by simpa using e
            rw [lit_get hb] at key
            exact ⟨fun h => absurd h e, fun _ => thenPut_mono ih (putX_sound key)⟩
        · rename_i hb
          simp only [hb]
          exact thenPut_mono ih (putX_sound h)
        · cases h
theorem exOps_soundD (hV : viewOK X.V) (hW : outOK X.W) (hC : calOK X.E.P X.C) : ∀ (l : List Oper) {K : ASt → R} {σ : ASt}, exOps X true ops l K σ = some v → awpOpsD X.E ops l (fun σ' => K σ' = some v) σ
  | [], K, σ, h => h
  | o :: l, K, σ, h => by
    have ih : ∀ σ, exOps X true ops l K σ = some v → awpOpsD X.E ops l (fun σ' => K σ' = some v) σ := fun σ h => exOps_soundD hV hW hC l h
    rw [exOps] at h
    rw [awpOpsD]
    split at h
    · rename_i hg
      simp only [hg]
      exact awpOpD_mono ih (ex1_soundD hV hW hC h)
    · rename_i j want hg
      simp only [hg, gval]
      split at h
      · rename_i hd
        simp only [hd]
        exact thenPut_mono ih (putX_sound h)
      · rename_i d hd
        simp only [hd]
        split at h
        · rename_i b hb
          simp only [hb]
          have key : exGd X true o d want b (exOps X true ops l K) σ = some v := by
            cases b
            · exact h
            · exact h
          unfold exGd at key
          split at key
          · rename_i e
            have e : b = want := by simpa using e
            rw [lit_get hb] at key
            exact ⟨fun _ => awpOpD_mono ih (ex1_soundD hV hW hC key), fun h => absurd e h⟩
          · rename_i e
            have e : b ≠ want := by simpa using e
            rw [lit_get hb] at key
            exact ⟨fun h => absurd h e, fun _ => thenPut_mono ih (putX_sound key)⟩
        · rename_i hb
          simp only [hb]
          exact thenPut_mono ih (putX_sound h)
        · cases h
/-- The loops end after some rounds. -/
def lopOK (X : XE) : Prop := ∀ l m x (K : AX → ASt → R) σ v, X.L l m x K (σ.gc l m) = some v → loopK X.m0 (awp X.E X.m0 x) (fun e σ' => K e σ' = some v) σ
theorem exOrd_sound (hV : viewOK X.V) (hW : outOK X.W) (hC : calOK X.E.P X.C) {K : ASt → R} : ∀ (fuel : Nat) {L : Array Bool} {σ : ASt}, exOrd X ops K fuel L σ = some v → AllR X.E ops (fun σ' => K σ' = some v) fuel L σ
  | 0, L, σ, h => by
    unfold exOrd at h
    split at h
    · rename_i hr; exact ⟨hr, h⟩
    · cases h
  | fuel + 1, L, σ, h => by
    unfold exOrd at h
    split at h
    · rename_i hr; exact ⟨fun _ => h, fun i hi => by rw [hr] at hi; simp [frontO] at hi⟩
    · rename_i a l hr
      refine ⟨fun e => (by rw [hr] at e; cases e), fun i hi => ?_⟩
      rw [hr] at hi
      have h1 := agAll_some h _ (List.mem_map.2 ⟨i, hi, rfl⟩)
      cases ho : ops[i]? with
      | none => rw [ho] at h1; cases h1
      | some o =>
        rw [ho] at h1
        obtain ⟨σ', h2, h3⟩ := awpOpsD_one (exOps_soundD hV hW hC [o] h1)
        exact ⟨o, rfl, σ', h2, exOrd_sound hV hW hC fuel h3⟩

theorem frzX_some {k : ASt → R} : ∀ (ks : List Nat) {σ : ASt} {v : PV × Objs}, frzX k ks σ = some v → ∃ ks', k (frzL ks' σ) = some v
  | [], σ, v, h => ⟨[], h⟩
  | d :: ds, σ, v, h => by
    unfold frzX at h
    split at h
    · rename_i hd
      split at h
      · rename_i i2 hs
        split at h
        · rename_i cs0 hc
          split at h
          · rename_i i n sz hj
            split at h
            · rename_i cs hi
              obtain ⟨h1, h2⟩ := chk_some h
              obtain ⟨ks', h3⟩ := frzX_some ds h2
              refine ⟨d :: ks', ?_⟩
              have : frz1 d σ = ⟨σ.s, (σ.h.set i none).set i2 (some (cs0.set ((d - 5000000) % 100) (.sl false sz (chunkP sz cs n))))⟩ := by
                simp only [frz1, hd, frzC, hs, hc, hj, hi, h1]
              rw [frzL, this]; exact h3
            · exact frzX_some ds h
          · exact frzX_some ds h
        · exact frzX_some ds h
      · exact frzX_some ds h
    rename_i hd5
    split at h
    · rename_i hd
      split at h
      · rename_i i hs
        split at h
        · rename_i cs0 hc
          split at h
          · rename_i n sz cs hj
            cases hn : Nat.ble 1 n with
            | true =>
              rw [hn, bsel] at h
              obtain ⟨ks', h3⟩ := frzX_some ds h
              refine ⟨d :: ks', ?_⟩
              rw [frzL]
              simp only [frz1, hd5, hd, thwC, hs, hc, hj, hn]
              exact h3
            | false =>
              rw [hn, bsel] at h
              obtain ⟨ks', h3⟩ := frzX_some ds h
              refine ⟨d :: ks', ?_⟩
              rw [frzL]
              simp only [frz1, hd5, hd, thwC, hs, hc, hj, hn]
              exact h3
          · exact frzX_some ds h
        · exact frzX_some ds h
      · exact frzX_some ds h
    rename_i hd4
    split at h
    · rename_i hd
      split at h
      · rename_i n sz cs hs
        split at h
        · obtain ⟨hn, h⟩ := chk_some h
          obtain ⟨ks', h3⟩ := frzX_some ds h
          refine ⟨d :: ks', ?_⟩
          rw [frzL]
          simp only [frz1, hd5, hd4, hd, thw, hs, hn]
          exact h3
        cases hn : Nat.ble 1 n with
        | true =>
          rw [hn, bsel] at h
          obtain ⟨ks', h3⟩ := frzX_some ds h
          refine ⟨d :: ks', ?_⟩
          rw [frzL]
          simp only [frz1, hd5, hd4, hd, thw, hs, hn]
          exact h3
        | false =>
          rw [hn, bsel] at h
          obtain ⟨ks', h3⟩ := frzX_some ds h
          refine ⟨d :: ks', ?_⟩
          rw [frzL]
          simp only [frz1, hd5, hd4, hd, thw, hs, hn]
          exact h3
      · exact frzX_some ds h
    rename_i hd3
    split at h
    · rename_i hd
      split at h
      · rename_i i n sz hs
        split at h
        · rename_i cs hc
          obtain ⟨h1, h2⟩ := chk_some h
          obtain ⟨ks', h3⟩ := frzX_some ds h2
          refine ⟨d :: ks', ?_⟩
          have : frz1 d σ = ⟨sput (d - 1000000) (.sl false sz (chunkP sz cs n)) σ.s, σ.h.set i none⟩ := by
            simp only [frz1, hd5, hd4, hd3, hd, frzg, hs, hc, h1]
          rw [frzL, this]; exact h3
        · exact frzX_some ds h
      · exact frzX_some ds h
    · obtain ⟨ks', h3⟩ := frzX_some ds h
      exact ⟨d :: ks', h3⟩
theorem exK_sound (hV : viewOK X.V) (hW : outOK X.W) (hC : calOK X.E.P X.C) (hL : lopOK X) : ∀ (c : Code) {K : AX → ASt → R} {σ : ASt}, exK X c K σ = some v → awp X.E X.m0 c (fun e σ' => K e σ' = some v) σ
  | .skip, K, σ, h => h
  | .label _, K, σ, h => h
  | .exit _, K, σ, h => h
  | .ret, K, σ, h => h
  | .region _ ops draw, K, σ, h => by
    simp only [exK] at h
    rw [awp]
    cases draw with
    | false => exact exOps_sound hV hW hC _ h
    | true =>
      cases hok : okD X.E ops with
      | true =>
        simp only [hok] at h
        exact .inl ⟨hok, exOps_soundD hV hW hC _ h⟩
      | false =>
        simp only [hok] at h
        exact .inr (exOrd_sound hV hW hC _ h)
  | .seq x y, K, σ, h => by
    simp only [exK] at h
    rw [awp]
    refine awp_mono x (fun e σ' he => ?_) (exK_sound hV hW hC hL x h)
    cases e with
    | normal =>
      have he : joinX X.E X.m0 y (exK X y K) σ' = some v := he
      have hj : ∀ σ', joinY X.E X.m0 y (exK X y K) σ' = some v → awp X.E X.m0 y (fun e σ => K e σ = some v) σ' ∨ ∃ l m, X.m0 ≤ m ∧ gcOK l m σ' = true ∧ awp X.E X.m0 y (fun e σ => K e σ = some v) (σ'.gc l m) := fun σ' he => by
        unfold joinY at he
        cases hl : X.E.jt.lookup (rid y) with
        | none => rw [hl] at he; exact .inl (exK_sound hV hW hC hL y he)
        | some l =>
          rw [hl] at he
          simp only at he
          obtain ⟨hpl, he⟩ := chk_some he
          split at he
          · rename_i hg
            simp only [Bool.and_eq_true, decide_eq_true_eq] at hg
            exact .inr ⟨l, _, hg.1, gcOK_of hpl hg.2, exK_sound hV hW hC hL y he⟩
          · cases he
      unfold joinX at he
      split at he
      · obtain ⟨ks, he⟩ := frzX_some _ he
        exact ⟨ks, hj _ he⟩
      · exact ⟨[], hj _ he⟩
    | ret => exact he
    | exit i => exact he
  | .cond c x y, K, σ, h => by
    simp only [exK] at h
    rw [awp]
    split at h
    · rename_i b hb
      simp only [hb]
      split at h
      · rename_i d
        cases b with
        | true =>
          have h : exK X x K (σ.lit d true) = some v := h
          rw [rd_bool hb] at h
          exact ⟨fun _ => exK_sound hV hW hC hL x h, fun e => by cases e⟩
        | false =>
          have h : exK X y K (σ.lit d false) = some v := h
          rw [rd_bool hb] at h
          exact ⟨fun e => (by cases e), fun _ => exK_sound hV hW hC hL y h⟩
      · cases b with
        | true => exact ⟨fun _ => exK_sound hV hW hC hL x h, fun e => by cases e⟩
        | false => exact ⟨fun e => (by cases e), fun _ => exK_sound hV hW hC hL y h⟩
    · cases h
  | .block id x, K, σ, h => by
    simp only [exK] at h
    rw [awp]
    refine awp_mono x (fun e σ' he => ?_) (exK_sound hV hW hC hL x h)
    cases e with
    | normal => exact he
    | ret => exact he
    | exit i =>
      simp only [blkK] at he
      simp only [blockA]
      split at he
      · rename_i e; rw [if_pos e]; exact he
      · rename_i e; rw [if_neg e]; exact he
  | .scope x, K, σ, h => by
    simp only [exK] at h
    rw [awp]
    exact exK_sound hV hW hC hL x h
  | .loop x, K, σ, h => by
    simp only [exK] at h
    rw [awp]
    exact hL _ _ _ _ _ _ h
  | .rangeFunc _ _ _ _, K, σ, h => by simp [exK] at h
  | .goto _, K, σ, h => by simp [exK] at h
  | .refuse _, K, σ, h => by simp [exK] at h
end
end Go.Proofs.Ytmclnnpaephkpaa
namespace Go.Proofs.Ytmclnnpaephkpaa
set_option linter.unusedVariables false
set_option linter.unusedSimpArgs false
set_option linter.unnecessarySimpa false
set_option linter.unusedSectionVars false
open Go.RowKit

structure Prm where
  vars : List Nat
  mv : List Nat
  mu : List Nat
  sz : List (Nat × List Nat)
  jt : List (Nat × List Nat)
  lt : List (Nat × List Nat)
  pt : List (Nat × List Nat)
  fz : List Nat
  ro : List (List Nat × Bool)
  ft : List (Nat × List Nat) := []
  sy : List Nat := []
  ln : List Nat := []
abbrev Lop := AE → Nat → List Nat → Nat → Code → (AX → ASt → R) → ASt → R
structure SE where
  P : Program
  prm : FuncId → Prm
  V : TypeId → PV → (PV → R) → R
  W : FuncId → Objs → PV → Objs → (PV → Objs → R) → R
  C0 : Cal
def SE.ae (S : SE) (g : FuncId) (n : Nat) : AE := ⟨S.P, n, (S.prm g).vars, (S.prm g).mv, (S.prm g).mu, (S.prm g).sz, (S.prm g).jt, (S.prm g).lt, (S.prm g).pt, (S.prm g).fz, (S.prm g).ft, (S.prm g).sy, (S.prm g).ln⟩
def SE.xe (S : SE) (C : Cal) (L : Lop) (E : AE) (m0 : Nat) : XE := ⟨E, C, S.V, S.W, L E m0, m0⟩
def topPtr : PV → Nat
  | .ptr i _ => i + 1
  | .tuple ps => PV.topsL ps
  | _ => 0
def retR (P : Program) (rs : List ResultVar) (σ : ASt) : Option PV := match rs with
  | [x] => resV P σ x
  | rs => (allSome (rs.map (resV P σ))).map fun ps => PV.tuple (ps.map PV.un)
/-- The slices over objects in a result. -/
def slhT : PV → List Nat
  | .tuple ps => flagL ps
  | _ => []
def retV (P : Program) (rs : List ResultVar) (ro : List (List Nat × Bool)) (m0 : Nat) (fl : List Nat) (σ : ASt) : R := match retR P rs σ with
  | some r => chk (plainO (σ.h.take (Nat.max m0 (topPtr r))) (addI fl (slhT r))) (match decide (Nat.max m0 (topPtr r) ≤ σ.h.length) && (r.blw (Nat.max m0 (topPtr r)) && blwH (Nat.max m0 (topPtr r)) (skipO (addI fl (slhT r)) 0 (σ.h.take (Nat.max m0 (topPtr r))))) with
    | true => some (finR ro r, σ.h.take (Nat.max m0 (topPtr r)))
    | false => none)
  | none => none
def retK (P : Program) (rs : List ResultVar) (ro : List (List Nat × Bool)) (m0 : Nat) (fl : List Nat) : AX → ASt → R
  | .normal, σ => retV P rs ro m0 fl σ
  | .ret, σ => retV P rs ro m0 fl σ
  | .exit _, _ => none
noncomputable def SE.run (S : SE) (C : Cal) (L : Lop) (g : FuncId) (args : List PV) (h : Objs) : R := match S.P.funcs[g]? with
  | some fn => (match fn.body with
    | some c => (match decide (args.length ≤ fn.ntmps) && (fn.name != "runtime.NumGoroutine") with
      | true => exK (S.xe C L (S.ae g fn.ntmps) h.length) c (retK S.P fn.results.toList (S.prm g).ro h.length (flagL args)) ⟨slots0 0 args, h⟩
      | false => none)
    | none => none)
  | none => none
def SE.wp (S : SE) (E : AE) : AE := { E with P := S.P }
noncomputable def SE.turn (S : SE) (C : Cal) (L : Lop) : Lop := fun E m0 l m x K σ =>
  chk (plainG l m σ) (match decide (m0 ≤ m) && gcOKf l m σ with
  | true => exK (S.xe C L (S.wp E) m0) x (thenK (fun σ' => L E m0 l m x K (σ'.gc l m)) K) (σ.gc l m)
  | false => none)
def orR (a b : R) : R := match a with | some x => some x | none => b
noncomputable def SE.sem (S : SE) : Nat → Cal × Lop
  | 0 => (S.C0, fun _ _ _ _ _ _ _ => none)
  | n + 1 => (fun g args h => orR (S.C0 g args h) (S.run (S.sem n).1 (S.sem n).2 g args h), S.turn (S.sem n).1 (S.sem n).2)
open Classical in
noncomputable def lim (f : Nat → R) : R := if h : ∃ n v, f n = some v then some (Classical.choose (Classical.choose_spec h)) else none
noncomputable def SE.CC (S : SE) : Cal := fun g args h => lim fun n => (S.sem n).1 g args h
noncomputable def SE.LL (S : SE) : Lop := fun E m0 l m x K σ => lim fun n => (S.sem n).2 E m0 l m x K σ
structure SE.OK (S : SE) : Prop where
  V : viewOK S.V
  W : outOK S.W

section
variable {S : SE}
theorem gc_gc (l : List Nat) (m : Nat) (σ : ASt) : (σ.gc l m).gc l m = σ.gc l m := by
  simp only [ASt.gc, List.filter_filter, Bool.and_self, List.take_take, Nat.min_self]
theorem gcOK_gc (l : List Nat) (m : Nat) (σ : ASt) : gcOKf l m (σ.gc l m) = gcOKf l m σ := by unfold gcOKf; rw [gc_gc]
theorem plainG_gc (l : List Nat) (m : Nat) (σ : ASt) : plainG l m (σ.gc l m) = plainG l m σ := by unfold plainG; rw [gc_gc]
theorem turn_gc (C : Cal) (L : Lop) (E : AE) (m0 : Nat) (l : List Nat) (m : Nat) (x : Code) (K : AX → ASt → R) (σ : ASt) : S.turn C L E m0 l m x K (σ.gc l m) = S.turn C L E m0 l m x K σ := by
  unfold SE.turn; rw [gcOK_gc, plainG_gc, gc_gc]
theorem up_mk {C : Cal} {L : Lop} {E : AE} {m0 : Nat} (X : XE) (h : X = S.xe C L E m0) (C' : Cal) (L' : Lop) : X.up C' (L' E m0) = S.xe C' L' E m0 := by subst h; rfl
/-! ### families -/
variable {ι : Type} {Good : (ι → R) → Prop} (F : Fam Good) (hS : S.OK) {C : ι → Cal} {L : ι → Lop} (hC : ∀ g args h, Good fun i => C i g args h)
  (hL : ∀ (E : AE) (m0 : Nat) (l : List Nat) (m : Nat) (x : Code) (K : ι → AX → ASt → R) (σ : ASt), (∀ e σ, Good fun i => K i e σ) → Good fun i => L i E m0 l m x (K i) σ)
include F hS hC hL in
theorem good_mk {E : AE} {m0 : Nat} (c : Code) {K : ι → AX → ASt → R} {σ : ASt} (h : ∀ e σ, Good fun i => K i e σ) : Good fun i => exK (S.xe (C i) (L i) E m0) c (K i) σ :=
  good_exK F (X := S.xe (fun _ _ _ => none) (fun _ _ _ _ _ _ _ => none) E m0) (C := C) (L := fun i => L i E m0) hS.V hS.W hC (fun l m x K σ h => hL E m0 l m x K σ h) c h
include F hS hC hL in
theorem good_run {g : FuncId} {args : List PV} {h : Objs} : Good fun i => S.run (C i) (L i) g args h := by
  unfold SE.run
  split
  · split
    · split
      · exact good_mk F hS hC hL _ fun e σ => F.const _
      · exact F.no
    · exact F.no
  · exact F.no
include F hS hC hL in
theorem good_turn {E : AE} {m0 : Nat} {l : List Nat} {m : Nat} {x : Code} {K : ι → AX → ASt → R} {σ : ASt} (h : ∀ e σ, Good fun i => K i e σ) : Good fun i => S.turn (C i) (L i) E m0 l m x (K i) σ := by
  unfold SE.turn
  refine good_chk F ?_
  split
  · exact good_mk F hS hC hL _ fun e σ => good_thenK (fun σ => hL _ _ _ _ _ _ _ h) h e σ
  · exact F.no
include F in
theorem good_or {a : R} {f : ι → R} (h : Good f) : Good fun i => orR a (f i) := by
  cases a
  · exact h
  · exact F.const _
/-- With a fixed number of unfoldings, only what follows turns. -/
theorem good_semL (F : Fam Good) (hS : S.OK) : ∀ (n : Nat) (E : AE) (m0 : Nat) (l : List Nat) (m : Nat) (x : Code) (K : ι → AX → ASt → R) (σ : ASt), (∀ e σ, Good fun i => K i e σ) → Good fun i => (S.sem n).2 E m0 l m x (K i) σ
  | 0, _, _, _, _, _, _, _, _ => F.no
  | n + 1, _, _, _, _, _, _, _, h => good_turn F hS (C := fun _ => (S.sem n).1) (L := fun _ => (S.sem n).2) (fun _ _ _ => F.const _) (good_semL F hS n) h

/-! more unfoldings say no less -/
def GoodLe (F : Bool → R) : Prop := ∀ v, F false = some v → F true = some v
theorem famLe : Fam GoodLe := ⟨fun _ _ h => h, fun c k hc hk v h => by
  have h : (match c false with | some (r, h) => k false r h | none => none) = some v := h
  show (match c true with | some (r, h) => k true r h | none => none) = some v
  cases hf : c false with
  | none => rw [hf] at h; cases h
  | some x =>
    obtain ⟨r, hh⟩ := x
    rw [hf] at h
    rw [hc _ hf]
    exact hk r hh v h⟩
theorem semn_mono (hS : S.OK) : ∀ n, (∀ g args h v, (S.sem n).1 g args h = some v → (S.sem (n + 1)).1 g args h = some v) ∧
    (∀ E m0 l m x (K K' : AX → ASt → R) σ v, (∀ e σ v, K e σ = some v → K' e σ = some v) → (S.sem n).2 E m0 l m x K σ = some v → (S.sem (n + 1)).2 E m0 l m x K' σ = some v)
  | 0 => ⟨fun g args h v hv => by show orR (S.C0 g args h) _ = some v; rw [show S.C0 g args h = some v from hv]; rfl, fun _ _ _ _ _ _ _ _ _ _ h => by cases h⟩
  | n + 1 => by
    obtain ⟨ih1, ih2⟩ := semn_mono hS n
    have hC : ∀ g args h, GoodLe fun i => (bif i then (S.sem (n + 1)).1 else (S.sem n).1) g args h := fun g args h v hv => ih1 g args h v hv
    have hL : ∀ (E : AE) (m0 : Nat) (l : List Nat) (m : Nat) (x : Code) (K : Bool → AX → ASt → R) (σ : ASt), (∀ e σ, GoodLe fun i => K i e σ) → GoodLe fun i => (bif i then (S.sem (n + 1)).2 else (S.sem n).2) E m0 l m x (K i) σ :=
      fun E m0 l m x K σ hK v hv => ih2 E m0 l m x _ _ σ v (fun e σ v h => hK e σ v h) hv
    refine ⟨fun g args h v hv => ?_, fun E m0 l m x K K' σ v hK hv => ?_⟩
    · exact good_or famLe (good_run famLe hS hC hL) v hv
    · exact good_turn famLe hS hC hL (K := fun i => bif i then K' else K) (fun e σ v h => hK e σ v h) v hv
theorem cal_le (hS : S.OK) {g : FuncId} {args : List PV} {h : Objs} {v : PV × Objs} {n k : Nat} (hk : n ≤ k) (hv : (S.sem n).1 g args h = some v) : (S.sem k).1 g args h = some v := by
  induction hk with
  | refl => exact hv
  | step _ ih => exact (semn_mono hS _).1 _ _ _ _ ih
theorem lop_le (hS : S.OK) {E : AE} {m0 : Nat} {l : List Nat} {m : Nat} {x : Code} {K : AX → ASt → R} {σ : ASt} {v : PV × Objs} {n k : Nat} (hk : n ≤ k) (hv : (S.sem n).2 E m0 l m x K σ = some v) : (S.sem k).2 E m0 l m x K σ = some v := by
  induction hk with
  | refl => exact hv
  | step _ ih => exact (semn_mono hS _).2 _ _ _ _ _ _ _ _ _ (fun _ _ _ h => h) ih
theorem lop_leK (hS : S.OK) (n : Nat) {E : AE} {m0 : Nat} {l : List Nat} {m : Nat} {x : Code} {K K' : AX → ASt → R} {σ : ASt} {v : PV × Objs} (hK : ∀ e σ v, K e σ = some v → K' e σ = some v) (hv : (S.sem n).2 E m0 l m x K σ = some v) : (S.sem n).2 E m0 l m x K' σ = some v :=
  good_semL famLe hS n E m0 l m x (fun i => bif i then K' else K) σ (fun e σ v h => hK e σ v h) v hv
/-! the limit -/
theorem lim_some {f : Nat → R} (hm : ∀ n v, f n = some v → f (n + 1) = some v) {v : PV × Objs} : lim f = some v ↔ ∃ n, f n = some v := by
  have hle : ∀ {n k : Nat} {v : PV × Objs}, n ≤ k → f n = some v → f k = some v := fun hk hv => by
    induction hk with
    | refl => exact hv
    | step _ ih => exact hm _ _ ih
  have hu : ∀ {n k : Nat} {v u : PV × Objs}, f n = some v → f k = some u → v = u := fun {n k v u} h1 h2 => by
    have a := hle (Nat.le_max_left n k) h1
    have b := hle (Nat.le_max_right n k) h2
    rw [a] at b; injection b
  unfold lim
  constructor
  · intro h
    split at h
    · rename_i hx
      injection h with h
      exact ⟨_, by rw [← h]; exact Classical.choose_spec (Classical.choose_spec hx)⟩
    · cases h
  · intro ⟨n, hn⟩
    have hx : ∃ n v, f n = some v := ⟨n, v, hn⟩
    rw [dif_pos hx]
    exact congrArg some (hu (Classical.choose_spec (Classical.choose_spec hx)) hn)
structure GoodLim (F : Option Nat → R) : Prop where
  mono : ∀ n v, F (some n) = some v → F (some (n + 1)) = some v
  lim : ∀ v, F none = some v ↔ ∃ n, F (some n) = some v
theorem GoodLim.le {F : Option Nat → R} (h : GoodLim F) {n k : Nat} {v : PV × Objs} (hk : n ≤ k) (hv : F (some n) = some v) : F (some k) = some v := by
  induction hk with
  | refl => exact hv
  | step _ ih => exact h.mono _ _ ih
theorem famLim : Fam GoodLim := ⟨fun c => ⟨fun _ _ h => h, fun v => ⟨fun h => ⟨0, h⟩, fun ⟨_, h⟩ => h⟩⟩, fun c k hc hk => by
  refine ⟨fun n v h => ?_, fun v => ⟨fun h => ?_, fun ⟨n, h⟩ => ?_⟩⟩
  · cases hf : c (some n) with
    | none => rw [hf] at h; cases h
    | some x =>
      obtain ⟨r, hh⟩ := x
      rw [hf] at h
      rw [hc.mono _ _ hf]
      exact (hk r hh).mono _ _ h
  · cases hf : c none with
    | none => rw [hf] at h; cases h
    | some x =>
      obtain ⟨r, hh⟩ := x
      rw [hf] at h
      obtain ⟨n1, h1⟩ := (hc.lim _).1 hf
      obtain ⟨n2, h2⟩ := ((hk r hh).lim v).1 h
      refine ⟨max n1 n2, ?_⟩
      rw [hc.le (Nat.le_max_left n1 n2) h1]
      exact (hk r hh).le (Nat.le_max_right n1 n2) h2
  · cases hf : c (some n) with
    | none => rw [hf] at h; cases h
    | some x =>
      obtain ⟨r, hh⟩ := x
      rw [hf] at h
      rw [(hc.lim _).2 ⟨n, hf⟩]
      exact ((hk r hh).lim v).2 ⟨n, h⟩⟩
noncomputable def SE.cals (S : SE) : Option Nat → Cal | none => S.CC | some n => (S.sem n).1
noncomputable def SE.lops (S : SE) : Option Nat → Lop | none => S.LL | some n => (S.sem n).2
theorem cals_good (hS : S.OK) (g : FuncId) (args : List PV) (h : Objs) : GoodLim fun i => S.cals i g args h :=
  ⟨fun n v hv => (semn_mono hS n).1 g args h v hv, fun _ => lim_some fun n v hv => (semn_mono hS n).1 g args h v hv⟩
theorem lops_good (hS : S.OK) (E : AE) (m0 : Nat) (l : List Nat) (m : Nat) (x : Code) (K : Option Nat → AX → ASt → R) (σ : ASt) (hK : ∀ e σ, GoodLim fun i => K i e σ) : GoodLim fun i => S.lops i E m0 l m x (K i) σ := by
  have hl : ∀ v, S.LL E m0 l m x (K none) σ = some v ↔ ∃ n, (S.sem n).2 E m0 l m x (K none) σ = some v := fun v => lim_some fun n v hv => (semn_mono hS n).2 _ _ _ _ _ _ _ _ _ (fun _ _ _ h => h) hv
  refine ⟨fun n v hv => (semn_mono hS n).2 _ _ _ _ _ _ _ _ _ (fun e σ v h => (hK e σ).mono n v h) hv, fun v => ⟨fun h => ?_, fun ⟨n, h⟩ => ?_⟩⟩
  · obtain ⟨n, hn⟩ := (hl v).1 h
    obtain ⟨k, hk⟩ := ((good_semL famLim hS n E m0 l m x K σ hK).lim v).1 hn
    refine ⟨max n k, ?_⟩
    exact lop_le hS (Nat.le_max_left n k) (lop_leK hS n (fun e σ v h => (hK e σ).le (Nat.le_max_right n k) h) hk)
  · exact (hl v).2 ⟨n, lop_leK hS n (fun e σ v h => ((hK e σ).lim v).2 ⟨n, h⟩) h⟩
/-- A call is one unfolding of itself. -/
theorem CC_eq (hS : S.OK) (g : FuncId) (args : List PV) (h : Objs) : S.CC g args h = orR (S.C0 g args h) (S.run S.CC S.LL g args h) := by
  have hg := good_or famLim (a := S.C0 g args h) (good_run famLim hS (cals_good hS) (lops_good hS) (g := g) (args := args) (h := h))
  refine Option.ext fun v => ?_
  have h1 : S.CC g args h = some v ↔ ∃ n, (S.sem n).1 g args h = some v := (cals_good hS g args h).lim v
  have h2 : orR (S.C0 g args h) (S.run S.CC S.LL g args h) = some v ↔ ∃ n, (S.sem (n + 1)).1 g args h = some v := hg.lim v
  rw [h1, h2]
  exact ⟨fun ⟨n, hn⟩ => ⟨n, (semn_mono hS n).1 _ _ _ _ hn⟩, fun ⟨n, hn⟩ => ⟨n + 1, hn⟩⟩
theorem LL_turn (hS : S.OK) (E : AE) (m0 : Nat) (l : List Nat) (m : Nat) (x : Code) (K : AX → ASt → R) (σ : ASt) : S.LL E m0 l m x K σ = S.turn S.CC S.LL E m0 l m x K σ := by
  have hg := good_turn famLim hS (cals_good hS) (lops_good hS) (E := E) (m0 := m0) (l := l) (m := m) (x := x) (K := fun _ => K) (σ := σ) fun e σ => famLim.const _
  refine Option.ext fun v => ?_
  have h1 : S.LL E m0 l m x K σ = some v ↔ ∃ n, (S.sem n).2 E m0 l m x K σ = some v := (lops_good hS E m0 l m x (fun _ => K) σ fun e σ => famLim.const _).lim v
  have h2 : S.turn S.CC S.LL E m0 l m x K σ = some v ↔ ∃ n, (S.sem (n + 1)).2 E m0 l m x K σ = some v := hg.lim v
  rw [h1, h2]
  exact ⟨fun ⟨n, hn⟩ => ⟨n, (semn_mono hS n).2 _ _ _ _ _ _ _ _ _ (fun _ _ _ h => h) hn⟩, fun ⟨n, hn⟩ => ⟨n + 1, hn⟩⟩
/-- A loop is one round and itself. -/
theorem LL_eq (hS : S.OK) {E : AE} {m0 : Nat} {l : List Nat} {m : Nat} {x : Code} {K : AX → ASt → R} {σ : ASt} (hm : m0 ≤ m) (hg : gcOKf l m σ = true) (hP : S.wp E = E) :
    S.LL E m0 l m x K σ = chk (plainG l m σ) (exK (S.xe S.CC S.LL E m0) x (thenK (fun σ' => S.LL E m0 l m x K (σ'.gc l m)) K) (σ.gc l m)) := by
  rw [LL_turn hS]; unfold SE.turn; rw [decide_eq_true hm, hg, hP]; rfl
/-- A call of a function of the program. -/
theorem CC_run (hS : S.OK) {g : FuncId} {args : List PV} {h : Objs} (h0 : S.C0 g args h = none) : S.CC g args h = S.run S.CC S.LL g args h := by
  rw [CC_eq hS, h0]; rfl

/-! what it says holds -/
theorem ret_ok {P : Program} {rs : List ResultVar} {ro : List (List Nat × Bool)} {m0 : Nat} {fl : List Nat} {σ : ASt} {r : PV} {h' : Objs} (h : retV P rs ro m0 fl σ = some (r, h')) : ∃ r0, retOK P rs m0 r0 h' σ ∧ finR ro r0 = r := by
  unfold retV at h
  split at h
  · rename_i q hq
    obtain ⟨hpl, h⟩ := chk_some h
    split at h
    · rename_i hb
      injection h with h
      injection h with h1 h2
      subst h1
      simp only [Bool.and_eq_true, decide_eq_true_eq] at hb
      obtain ⟨b1, b2, b3⟩ := hb
      have hlen : h'.length = Nat.max m0 (topPtr q) := by rw [← h2, List.length_take]; omega
      refine ⟨q, ⟨by rw [hlen]; exact Nat.le_max_left _ _, by rw [hlen]; exact h2, by rw [hlen]; exact b2, by rw [hlen, ← h2]; exact blw_plain hpl b3, ?_⟩, rfl⟩
      unfold retR at hq
      split at hq
      · exact hq
      · rename_i hne
        split
        · rename_i x; exact absurd rfl (hne x)
        · exact hq
    · cases h
  · cases h
theorem sem_sound (hm : S.P.follows .mixedOrders = true) (hS : S.OK) (h0 : calOK S.P S.C0) : ∀ n, calOK S.P (S.sem n).1 ∧
    ∀ E m0 l m x (K : AX → ASt → R) σ v, S.wp E = E → (S.sem n).2 E m0 l m x K (σ.gc l m) = some v → roundsA m0 (awp E m0 x) (fun e σ' => K e σ' = some v) n σ
  | 0 => ⟨h0, fun _ _ _ _ _ _ _ _ _ h => by cases h⟩
  | n + 1 => by
    obtain ⟨ih1, ih2⟩ := sem_sound hm hS h0 n
    have hlop : ∀ E m0, S.wp E = E → lopOK (S.xe (S.sem n).1 (S.sem n).2 E m0) := fun E m0 hE l m x K σ v hv => by
      refine ⟨n, ?_⟩
      exact ih2 E m0 l m x K σ v hE hv
    refine ⟨fun g args h r h' hv => ?_, fun E m0 l m x K σ v hE hv => ?_⟩
    · have hv : orR (S.C0 g args h) (S.run (S.sem n).1 (S.sem n).2 g args h) = some (r, h') := hv
      cases hc : S.C0 g args h with
      | some x => rw [hc] at hv; injection hv with hv; subst hv; exact h0 _ _ _ _ _ hc
      | none =>
        rw [hc] at hv
        have hv : S.run (S.sem n).1 (S.sem n).2 g args h = some (r, h') := hv
        unfold SE.run at hv
        split at hv
        · rename_i fn hf
          split at hv
          · rename_i c hb
            split at hv
            · rename_i hd
              simp only [Bool.and_eq_true, decide_eq_true_eq] at hd
              have key := exK_sound (X := S.xe (S.sem n).1 (S.sem n).2 (S.ae g fn.ntmps) h.length) hS.V hS.W ih1 (hlop _ _ rfl) c hv
              refine Ev.of_awp hm hf hb hd.2 (S.prm g).vars (S.prm g).mv (S.prm g).mu (S.prm g).sz (S.prm g).jt (S.prm g).lt (S.prm g).pt (S.prm g).fz (S.prm g).ro (S.prm g).ft (S.prm g).sy (S.prm g).ln hd.1 (awp_mono c (fun e σ' he => ?_) key)
              cases e with
              | normal => exact ⟨trivial, ret_ok he⟩
              | ret => exact ⟨trivial, ret_ok he⟩
              | exit i => cases he
            · cases hv
          · cases hv
        · cases hv
    · have hv : S.turn (S.sem n).1 (S.sem n).2 E m0 l m x K (σ.gc l m) = some v := hv
      rw [turn_gc] at hv
      unfold SE.turn at hv
      obtain ⟨hpl, hv⟩ := chk_some hv
      split at hv
      · rename_i hc
        simp only [Bool.and_eq_true, decide_eq_true_eq] at hc
        rw [hE] at hv
        refine ⟨l, m, hc.1, gcOK_of hpl hc.2, awp_mono x (fun e σ' he => ?_) (exK_sound (X := S.xe (S.sem n).1 (S.sem n).2 E m0) hS.V hS.W (by rw [← hE]; exact ih1) (hlop _ _ hE) x hv)⟩
        cases e with
        | normal => exact ih2 E m0 l m x K σ' v hE he
        | ret => exact he
        | exit i => exact he
      · cases hv
theorem CC_of_sem (hS : S.OK) (n : Nat) {g : FuncId} {args : List PV} {h : Objs} {v : PV × Objs} (e : (S.sem n).1 g args h = some v) : S.CC g args h = some v := ((cals_good hS g args h).lim v).2 ⟨n, e⟩
theorem CC_sound (hm : S.P.follows .mixedOrders = true) (hS : S.OK) (h0 : calOK S.P S.C0) : calOK S.P S.CC := fun g args h r h' hv => by
  obtain ⟨n, hn⟩ := ((cals_good hS g args h).lim _).1 hv
  exact (sem_sound hm hS h0 n).1 g args h r h' hn
end
end Go.Proofs.Ytmclnnpaephkpaa

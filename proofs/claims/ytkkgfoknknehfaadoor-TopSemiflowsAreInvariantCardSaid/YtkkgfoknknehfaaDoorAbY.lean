/-
  The evaluator that computes: what hangs on symbolic data is left to combinators with names, so that the kernel unfolds a function's code to a plain expression.
  What the evaluator that computes says holds of the abstract wp.
  The least meaning of calls and loops: what some number of unfoldings yields; it is what one unfolding makes of itself, and what it says holds.
-/
import Derived.Test.YtkkgfoknknehfaaDoorAbQ
import Derived.Test.YtkkgfoknknehfaaDoorAbV
namespace Go.Proofs.YtkkgfoknknehfaaDoor
set_option linter.unusedVariables false
set_option linter.unusedSimpArgs false
set_option linter.unnecessarySimpa false
set_option linter.unusedSectionVars false
open Go.RowKit
abbrev R := Option (PV × Objs)
abbrev Cal := FuncId → List PV → Objs → R
def bsel (b : Bool) (A B : R) : R := match b with | true => A | false => B
def chk (b : Bool) (A : R) : R := match b with | true => A | false => none
def lgetX (es : List PV) (n : Int) (K : PV → R) : R := if 0 ≤ n then (match es[n.toNat]? with | some e => K e | none => none) else none
def byteX (s : ByteArray) (n : Int) (K : Int → R) : R := if 0 ≤ n then (match s[n.toNat]? with | some b => K b.toNat | none => none) else none
mutual
def PV.eqb : PV → PV → Bool
 | .int k n, q => (match q with | .int k' n' => decide (k = k') && decide (n = n') | _ => false)
 | .bool b, q => (match q with | .bool b' => b == b' | _ => false)
 | .str s, q => (match q with | .str s' => s.data.toList == s'.data.toList | _ => false)
 | .nilp, q => (match q with | .nilp => true | _ => false)
 | .raw v, q => (match v, q with | .nilFunc, .raw .nilFunc => true | .nilIface, .raw .nilIface => true | _, _ => false)
 | .ptr i o, q => (match q with | .ptr i' o' => Nat.beq i i' && Nat.beq o o' | _ => false)
 | .bld i o, q => (match q with | .bld i' o' => Nat.beq i i' && Nat.beq o o' | _ => false)
 | .cst e, q => (match q with | .cst e' => PV.eqb e e' | _ => false)
 | .sl o z l, q => (match q with | .sl o' z' l' => (o == o' && Nat.beq z z') && PV.eqbL l l' | _ => false)
 | .slh i o n z, q => (match q with | .slh i' o' n' z' => (Nat.beq i i' && Nat.beq o o') && (Nat.beq n n' && Nat.beq z z') | _ => false)
 | .slT l, q => (match q with | .slT l' => l == l' | _ => false)
 | .slp o n z l, q => (match q with | .slp o' n' z' l' => ((o == o' && Nat.beq n n') && Nat.beq z z') && PV.eqbL l l' | _ => false)
 | .mp l, q => (match q with | .mp l' => PV.eqbL l l' | _ => false)
 | .func f a c, q => (match q with | .func f' a' c' => (match f, f' with | .func g, .func g' => Nat.beq g g' | .yield g, .yield g' => Nat.beq g g' | _, _ => false) && (PV.eqbL a a' && PV.eqbL c c') | _ => false)
 | .agg l, q => (match q with | .agg l' => PV.eqbL l l' | _ => false)
 | .tuple l, q => (match q with | .tuple l' => PV.eqbL l l' | _ => false)
def PV.eqbL : List PV → List PV → Bool
 | [], l => (match l with | [] => true | _ :: _ => false)
 | p :: ps, l => (match l with | [] => false | q :: qs => PV.eqb p q && PV.eqbL ps qs)
end
mutual
theorem PV.eqb_eq : ∀ {p q : PV}, PV.eqb p q = true → p = q
 | .int k n, q, h => by cases q <;> simp [PV.eqb] at h; rw [h.1, h.2]
 | .bool b, q, h => by cases q <;> simp [PV.eqb] at h; rw [h]
 | .str s, q, h => by
  cases q <;> simp [PV.eqb] at h
  rename_i s'
  cases s; cases s'; simp only at h; rw [h]
 | .nilp, q, h => by cases q <;> simp [PV.eqb] at h; rfl
 | .raw v, q, h => by
  unfold PV.eqb at h
  split at h
  ·rfl
  ·rfl
  ·cases h
 | .ptr i o, q, h => by cases q <;> simp [PV.eqb] at h; rw [h.1, h.2]
 | .bld i o, q, h => by cases q <;> simp [PV.eqb] at h; rw [h.1, h.2]
 | .cst e, q, h => by cases q <;> simp [PV.eqb] at h; rw [PV.eqb_eq h]
 | .sl o z l, q, h => by cases q <;> simp [PV.eqb] at h; rw [h.1.1, h.1.2, PV.eqbL_eq h.2]
 | .slh i o n z, q, h => by cases q <;> simp [PV.eqb] at h; rw [h.1.1, h.1.2, h.2.1, h.2.2]
 | .slT l, q, h => by cases q <;> simp [PV.eqb] at h; rw [h]
 | .slp o n z l, q, h => by cases q <;> simp [PV.eqb] at h; rw [h.1.1.1, h.1.1.2, h.1.2, PV.eqbL_eq h.2]
 | .mp l, q, h => by cases q <;> simp [PV.eqb] at h; rw [PV.eqbL_eq h]
 | .func f a c, q, h => by
  cases q <;> simp [PV.eqb] at h
  obtain ⟨h1, h2, h3⟩ := h
  rw [PV.eqbL_eq h2, PV.eqbL_eq h3]
  split at h1
  ·simp at h1; rw [h1]
  ·simp at h1; rw [h1]
  ·cases h1
 | .agg l, q, h => by cases q <;> simp [PV.eqb] at h; rw [PV.eqbL_eq h]
 | .tuple l, q, h => by cases q <;> simp [PV.eqb] at h; rw [PV.eqbL_eq h]
theorem PV.eqbL_eq : ∀ {l l' : List PV}, PV.eqbL l l' = true → l = l'
 | [], l', h => by cases l' <;> simp [PV.eqbL] at h; rfl
 | p :: ps, l', h => by
  cases l' <;> simp [PV.eqbL] at h
  rw [PV.eqb_eq h.1, PV.eqbL_eq h.2]
end
def eqbO : Objs → Objs → Bool
 | [], l => (match l with | [] => true | _ :: _ => false)
 | o :: os, l => (match l with
  | [] => false
  | o' :: os' => (match o, o' with | none, none => true | some a, some b => PV.eqbL a b | _, _ => false) && eqbO os os')
theorem eqbO_eq : ∀ {l l' : Objs}, eqbO l l' = true → l = l'
 | [], l', h => by cases l' <;> simp [eqbO] at h; rfl
 | o :: os, l', h => by
  cases l' with
  | nil => simp [eqbO] at h
  | cons o' os' =>
   simp only [eqbO, Bool.and_eq_true] at h
   rw [eqbO_eq h.2]
   have h1 := h.1
   split at h1
   ·rfl
   ·rw [PV.eqbL_eq h1]
   ·cases h1
noncomputable def eqR (a b : PV × Objs) : R := open Classical in match PV.eqb a.1 b.1 && eqbO a.2 b.2 with | true => some a | false => if a = b then some a else none
theorem eqR_self (a : PV × Objs) : eqR a a = some a := by
 grind [eqR]
theorem eqR_some {a b v : PV × Objs} (h : eqR a b = some v) : a = v ∧ a = b := by
 grind [eqR, PV.eqb_eq, eqbO_eq]
noncomputable def nilX (es : List PV) (K : Bool → R) : R := match K false with
 | some (r, h) => (match es.isEmpty with | false => some (r, h) | true => match K true with | some (r', h') => eqR (r, h) (r', h') | none => none)
 | none => none
def ngetX (es : List PV) (n : Nat) (K : PV → R) : R := match es[n]? with | some e => K e | none => none
def clX (C : Cal) (g : FuncId) (args : List PV) (K : PV → R) : R := match C g args [] with | some (r, []) => K r | _ => none
def clH (C : Cal) (g : FuncId) (args : List PV) (h : Objs) (K : PV → Objs → R) : R := match C g args h with | some (r, h') => K r h' | none => none
def fnX (p : PV) (K : Bool → R) : R := match p with | .func _ _ _ => K false | .raw .nilFunc => K true | _ => none
def fvX (p : PV) (K : FuncId → List PV → List PV → R) : R := match p with | .func (.func g) first caps => K g first caps | _ => none
def arrB : List PV → Nat → Int → (PV → R) → R
 | [], _, _, _ => none
 | p :: r, k, n, K => bsel (n == (k : Int)) (K p) (arrB r (k + 1) n K)
def nbrB : List PV → Nat → Nat → (PV → R) → R
 | [], _, _, _ => none
 | p :: r, k, n, K => bsel (Nat.beq n k) (K p) (nbrB r (k + 1) n K)
def mapX (s : Option IntKind) (L : List PV) (q : PV) (A : PV → R) (B : R) : R := match mapGet s L q with
 | some (some p) => A p
 | some none => B
 | none => none
def mapBr (s : Option IntKind) : List PV → PV → (PV → R) → R → R
 | k :: v :: L, q, A, B => (match eqK s q k with | some b => bsel b (A v) (mapBr s L q A B) | none => none)
 | [], _, _, B => B
 | [_], _, _, _ => none
structure XE where
 E : AE
 C : Cal
 V : TypeId → PV → (PV → R) → R
 W : FuncId → Objs → PV → Objs → (PV → Objs → R) → R
 L : List Nat → Nat → Code → (AX → ASt → R) → ASt → R
 m0 : Nat
def slit (d : Nat) (v : Bool) : Slots → Slots
 | [] => []
 | (j, q) :: l => bif Nat.beq j d then (j, .bool v) :: l else (j, q) :: slit d v l
def ASt.lit (d : Nat) (v : Bool) (σ : ASt) : ASt := { σ with s := slit d v σ.s }
theorem slit_eq {d : Nat} {v : Bool} : ∀ {s : Slots}, sget d s = some (.bool v) → slit d v s = s
 | [], h => by rfl
 | (j, q) :: l, h => by
  rw [sget] at h
  rw [slit]
  by_cases e : j = d
  simp_all
  ·rw [if_neg e] at h
   have hb : Nat.beq j d = false := by
    cases h : Nat.beq j d
    ·rfl
    ·exact absurd (Nat.eq_of_beq_eq_true h) e
   rw [hb, slit_eq h]; rfl
def putX (E : AE) (dst : Option Nat) (p : PV) (K : ASt → R) (σ : ASt) : R := match ASt.put E dst p σ with | some σ' => K σ' | none => none
def putO (E : AE) (dst : Option Nat) (p : Option PV) (K : ASt → R) (σ : ASt) : R := match p with | some p => putX E dst p K σ | none => none
def exGen (X : XE) (o : Oper) (K : ASt → R) (σ : ASt) : R := match stepV X.E o σ with | some (p, σ1) => putX X.E o.dst p K σ1 | none => none
def exSliceL (X : XE) (dst : Option Nat) (sz : Nat) (es : List PV) (lo hi : Option Operand) (K : ASt → R) (σ : ASt) : R :=
 match lo, hi with
 | none, none => putX X.E dst (.sl false sz es) K σ
 | some l, none => (match σ.rd l with | some (.int _ a) => chk (decide (0 ≤ a) && decide (a ≤ es.length)) (putX X.E dst (.sl false sz (es.drop a.toNat)) K σ) | _ => none)
 | none, some h => (match σ.rd h with | some (.int _ b) => chk (decide (0 ≤ b) && decide (b ≤ es.length)) (putX X.E dst (.sl false sz (es.take b.toNat)) K σ) | _ => none)
 | some l, some h => (match σ.rd l, σ.rd h with | some (.int _ a), some (.int _ b) => chk (decide (0 ≤ a) && decide (a ≤ b) && decide (b ≤ es.length)) (putX X.E dst (.sl false sz ((es.take b.toNat).drop a.toNat)) K σ) | _, _ => none)
def exSliceS (X : XE) (dst : Option Nat) (s : ByteArray) (lo hi : Option Operand) (K : ASt → R) (σ : ASt) : R :=
 match lo, hi with
 | none, none => putX X.E dst (.str (s.extract 0 s.size)) K σ
 | some l, none => (match σ.rd l with | some (.int _ a) => chk (decide (0 ≤ a) && decide (a ≤ s.size)) (putX X.E dst (.str (s.extract a.toNat s.size)) K σ) | _ => none)
 | none, some h => (match σ.rd h with | some (.int _ b) => chk (decide (0 ≤ b) && decide (b ≤ s.size)) (putX X.E dst (.str (s.extract 0 b.toNat)) K σ) | _ => none)
 | some l, some h => (match σ.rd l, σ.rd h with | some (.int _ a), some (.int _ b) => chk (decide (0 ≤ a) && decide (a ≤ b) && decide (b ≤ s.size)) (putX X.E dst (.str (s.extract a.toNat b.toNat)) K σ) | _, _ => none)
def exIdx (X : XE) (dst : Option Nat) (t : TypeId) (sz : Nat) (es : List PV) (n : Int) (K : ASt → R) (σ : ASt) : R :=
 match elemOf' X.E.P t, elemTI X.E.P t with
 | some e, some I => if I.size = sz then lgetX es n fun p => X.V e p fun q => putX X.E dst (.cst q) K σ else none
 | _, _ => none
def exDiv (X : XE) (dst : Option Nat) (k k' : IntKind) (b : Int) (r : Int) (K : ASt → R) (σ : ASt) : R := if k = k' then chk (!(b == 0)) (putX X.E dst (.int k r) K σ) else none
def exSh (X : XE) (dst : Option Nat) (k : IntKind) (b : Int) (r : Int) (K : ASt → R) (σ : ASt) : R := chk (decide (0 ≤ b)) (putX X.E dst (.int k r) K σ)
def arrOne (P : Program) (t : TypeId) : Option (Nat × TypeId) := match P.underlying t with
 | some (.array m e) => (match ti P e with | some I => (match Nat.beq I.size 1 && !I.agg with | true => some (m, e) | false => none) | none => none)
 | _ => none
def isSy (E : AE) : Operand → Bool
 | .tmp t => inI E.sy t
 | _ => false
def exSliceH (X : XE) (dst : Option Nat) (t : TypeId) (i off n sz : Nat) (lo hi : Option Operand) (K : ASt → R) (σ : ASt) : R :=
 match elemTI X.E.P t with
 | some I => (match Nat.beq I.size sz && Nat.blt 0 sz with
  | true => (match lo, hi with
   | none, some h => (match σ.rd h with | some (.int _ b) => chk (decide (0 ≤ b) && decide (b ≤ (n : Int)) && decide (0 < n)) (putX X.E dst (.slh i off b.toNat sz) K σ) | _ => none)
   | some l, none => (match σ.rd l with | some (.int _ a) => chk (decide (0 ≤ a) && decide (a ≤ (n : Int))) (bsel (decide (a < (n : Int))) (putX X.E dst (.slh i (off + a.toNat * sz) (n - a.toNat) sz) K σ) (putX X.E dst (.sl false sz []) K σ)) | _ => none)
   | _, _ => none)
  | false => none)
 | none => none
def exMake (X : XE) (dst : Option Nat) (t : TypeId) (l c : Operand) (K : ASt → R) (σ : ASt) : R :=
 match elemTI X.E.P t, σ.rd l, σ.rd c with
 | some I, some (.int _ n), some (.int _ n') => (match Nat.blt 0 I.size && Nat.ble I.bytes 1024 with
  | true => (match inPv X.E.mu dst with
   | true => (match I.zero.all PV.lit with | true => chk (decide (0 ≤ n) && decide (n ≤ n') && decide (n' ≤ 1073741824)) (putX X.E dst (.slp true n.toNat I.size (zeroCs n.toNat I)) K σ) | false => none)
   | false => chk (decide (n = n') && decide (0 ≤ n) && decide (n ≤ 1073741824)) (match inMv X.E.mu dst with
    | true => putX X.E dst (.slh σ.h.length 0 n.toNat I.size) K ⟨σ.s, σ.h ++ [some (zeroCs n.toNat I)]⟩
    | false => (match Nat.beq (zeroTI I).size I.size && (zeroTI I).okE with | true => putX X.E dst (.sl true I.size (List.replicate n.toNat (zeroTI I))) K σ | false => none)))
  | false => none)
 | _, _, _ => none
def exCopy (X : XE) (dst : Option Nat) (t : TypeId) (x y : Operand) (K : ASt → R) (σ : ASt) : R :=
 match elemTI X.E.P t, σ.rd x, σ.rd y with
 | some I, some (.slh i off n sz), some (.sl _ sz' es) => (match σ.h[i]? with
  | some (some cs) => (match Nat.beq I.size sz && (Nat.blt 0 sz && (Nat.beq sz' sz || Nat.beq sz' 0)) with
   | true => chk (decide (off + n * sz ≤ cs.length)) (putX X.E dst (.int .i64 ((Nat.min es.length n : Nat) : Int)) K { σ with h := σ.h.set i (some (cs.take off ++ (flatPV es).take (Nat.min es.length n * sz) ++ cs.drop (off + Nat.min es.length n * sz))) })
   | false => none)
  | _ => none)
 | some I, some (.slh i off n sz), some (.slh j off2 m sz') => (match σ.h[i]?, σ.h[j]? with
  | some (some cs), some (some cs2) => (match Nat.beq I.size sz && (Nat.blt 0 sz && Nat.beq sz' sz) with
   | true => chk (decide (off + n * sz ≤ cs.length) && decide (off2 + m * sz ≤ cs2.length)) (putX X.E dst (.int .i64 ((Nat.min m n : Nat) : Int)) K { σ with h := σ.h.set i (some (cs.take off ++ (((cs2.drop off2).take (m * sz)).map PV.un).take (Nat.min m n * sz) ++ cs.drop (off + Nat.min m n * sz))) })
   | false => none)
  | _, _ => none)
 | _, _, _ => none
def exClear (X : XE) (dst : Option Nat) (t : TypeId) (x : Operand) (K : ASt → R) (σ : ASt) : R :=
 match elemTI X.E.P t, σ.rd x, dst with
 | some I, some (.slh i off n sz), none => (match σ.h[i]? with
  | some (some cs) => (match Nat.beq I.size sz with
   | true => chk (decide (off + n * sz ≤ cs.length)) (K { σ with h := σ.h.set i (some (cs.take off ++ (zeroCs n I).map PV.un ++ cs.drop (off + n * sz))) })
   | false => none)
  | _ => none)
 | some _, some (.sl _ _ []), none => K σ
 | _, _, _ => none
def exFn (X : XE) (dst : Option Nat) (t : TypeId) (p : PV) (pos : Bool) (K : ASt → R) (σ : ASt) : R := match isFuncT X.E.P t with
 | true => fnX p fun b => putX X.E dst (.bool (b == pos)) K σ
 | false => none
def exAppP (X : XE) (dst : Option Nat) (ts : List TypeId) (s : Operand) (n sz : Nat) (cs : List PV) (sz' : Nat) (es' : List PV) (K : ASt → R) (σ : ASt) : R := match ts with
 | [t, u] => (match elemTI X.E.P t with
  | some I => (match Nat.beq t u && (Nat.blt 0 I.size && (Nat.ble I.bytes 1024 && (Nat.beq sz I.size && (Nat.beq sz' I.size || Nat.beq sz' 0)))) with
   | true => chk (decide (n + es'.length ≤ LIM) && (flatPV es').all PV.lit) (putX X.E dst (.slp true (n + es'.length) sz (cs ++ flatPV es')) K (σ.clr s))
   | false => none)
  | none => none)
 | _ => none
def offX (b : Bool) (off : Nat) (n : Int) (sz : Nat) : Nat := match b with
 | true => off + n.toNat * sz
 | false => (match off, sz with | 0, 1 => n.toNat | _, _ => off + n.toNat * sz)
theorem offX_eq (b : Bool) (off : Nat) (n : Int) (sz : Nat) : offX b off n sz = off + n.toNat * sz := by
 unfold offX
 grind
def mapEl (P : Program) (t : TypeId) : TypeId := match P.underlying t with | some (.map _ e) => e | _ => 0
def exLook (X : XE) (dst : Option Nat) (t : TypeId) (ok : Bool) (m q : PV) (K : ASt → R) (σ : ASt) : R :=
 match mapTI X.E.P t, m with
 | some (s, z), .bld 0 i => (match σ.h[i]? with
  | some (some cs) => (match mapIn cs with
   | some (_, L) => (match isKeyK s q with
    | true => (match inMv X.E.sy dst with
     | true => mapBr s L q (fun p => putX X.E dst (lookR ok z (some p)) K σ) (putX X.E dst (lookR ok z none) K σ)
     | false => mapX s L q (fun p => X.V (mapEl X.E.P t) p fun p' => putX X.E dst (lookR ok z (some p')) K σ) (putX X.E dst (lookR ok z none) K σ))
    | false => none)
   | none => none)
  | _ => none)
 | _, _ => none
def exUpd (X : XE) (dst : Option Nat) (t : TypeId) (m q x : PV) (K : ASt → R) (σ : ASt) : R :=
 match mapTI X.E.P t, m, dst with
 | some (s, _), .bld 0 i, none => (match σ.h[i]? with
  | some (some cs) => (match mapIn cs with
   | some (b, L) => (match isKeyK s q with
    | true => chk (mapOK s L q && (!b || x.flat)) (K { σ with h := σ.h.set i (some [mapC b (mapPut s L q x)]) })
    | false => none)
   | none => none)
  | _ => none)
 | _, _, _ => none
def exNext (X : XE) (dst : Option Nat) (b : Bool) (q : Option PV) (K : ASt → R) (σ : ASt) : R := match b, q with
 | true, some (.bld T i) => (match σ.h[i]? with
  | some (some cs) => (match iterIn cs with
   | some (s, p) => (match Nat.beq T ITT with
    | true => chk (decide (0 ≤ p)) (bsel (decide (p < (s.size : Int))) (putX X.E dst (.tuple [.bool true, .int .i64 p, .int .i32 (iterRn s p)]) K { σ with h := σ.h.set i (some [iterC s (iterNx s p)]) }) (putX X.E dst (.tuple [.bool false]) K σ))
    | false => none)
   | none => none)
  | _ => none)
 | _, _ => none
def exOp (X : XE) (o : Oper) (K : ASt → R) (σ : ASt) : R :=
 match o.op with
 | .convert s d x => (match σ.rd x with
  | some (.sl _ _ es) => (match isBytesT X.E.P s && isStrT X.E.P d with | true => chk (bytesP es) (putX X.E o.dst (.str (strOf es)) K σ) | false => none)
  | _ => exGen X o K σ)
 | .indexAddr t x i => (match σ.rd x, σ.rd i with
  | some (.sl _ sz es), some (.int _ n) => exIdx X o.dst t sz es n K σ
  | some (.slh i off m sz), some (.int _ n) => (match inMv X.E.sy o.dst with
   | true => (match elemTI X.E.P t with
    | some I => (match Nat.beq I.size sz with | true => chk (decide (0 ≤ n) && decide (n < (m : Int))) (putX X.E o.dst (.ptr i (offX (inMv X.E.sy (o.dst.map (8000000 + ·))) off n sz)) K σ) | false => none)
    | none => none)
   | false => exGen X o K σ)
  | some (.ptr i off), some (.int _ n) => (match inMv X.E.sy o.dst with
   | true => (match arrTI X.E.P t with
    | some (m, I) => chk (decide (0 ≤ n) && decide (n < (m : Int))) (putX X.E o.dst (.ptr i (off + n.toNat * I.size)) K σ)
    | none => none)
   | false => exGen X o K σ)
  | some (.cst (.agg cs)), some (.int _ n) => (match arrOne X.E.P t with
   | some (m, e) => chk (decide (n < (m : Int))) (lgetX cs n fun p => X.V e p fun q => (match q.one with | true => putX X.E o.dst (.cst q.un) K σ | false => none))
   | none => exGen X o K σ)
  | _, _ => exGen X o K σ)
 | .load t a => (match isSy X.E a && !inMv X.E.ln o.dst with
  | true => (match ti X.E.P t, σ.rd a with
   | some I, some (.ptr i off) => (match σ.h[i]? with
    | some (some cs) => (match I.agg with
     | true => chk (decide (off + I.size ≤ cs.length)) (X.V t (.agg (((cs.drop off).take I.size).map PV.un)) fun q => putX X.E o.dst q K σ)
     | false => (match inMv X.E.sy (o.dst.map (8500000 + ·)) with
      | true => (match !inMv X.E.mv o.dst with | true => nbrB cs 0 off fun p => putX X.E o.dst p.un K σ | false => none)
      | false => (match !inMv X.E.mv o.dst with | true => ngetX cs off fun p => X.V t p fun q => putX X.E o.dst q.un K σ | false => none)))
    | _ => none)
   | some I, some (.cst e) => chk (decide (e.isAgg = I.agg) && decide (e.size = I.size)) (putX X.E o.dst e.un K σ)
   | _, _ => none)
  | false => (match σ.rd a, ti X.E.P t with
   | some (.cst e), some I => chk (decide (e.isAgg = I.agg) && decide (e.size = I.size)) (putX X.E o.dst e.un K σ)
   | some (.ptr i off), some I => (match isSy X.E a && (inMv X.E.ln o.dst && (I.agg && inMv X.E.ln (some (1000000 + i)))) with
    | true => (match σ.h[i]? with
     | some (some cs) => chk (decide (off + I.size ≤ cs.length)) (X.V t (.agg (((cs.drop off).take I.size).map PV.un)) fun q => putX X.E o.dst q K σ)
     | _ => none)
    | false => exGen X o K σ)
   | _, _ => exGen X o K σ))
 | .store t a x => (match isSy X.E a && !inMv X.E.mu (opT a) with
  | true => (match ti X.E.P t, σ.rd a, σ.ev x, o.dst with
   | some I, some (.ptr i off), some p, none => (match σ.h[i]? with
    | some (some cs) => (match p with
     | .agg ds => (match Nat.beq ds.length I.size && ds.all PV.one with | true => chk (decide (off + I.size ≤ cs.length)) (K { σ.clr x with h := (σ.clr x).h.set i (some (cs.take off ++ ds.map PV.un ++ cs.drop (off + I.size))) }) | false => none)
     | p => (match p.one && Nat.beq I.size 1 with | true => chk (decide (off < cs.length)) (K { σ.clr x with h := (σ.clr x).h.set i (some (cs.set off p)) }) | false => none))
    | _ => none)
   | _, _, _, _ => none)
  | false => (match σ.ev x with
   | some (.agg ds) => (match ti X.E.P t, σ.rd a, o.dst with
    | some I, some (.ptr i off), none => (match σ.h[i]? with
     | some (some cs) => (match stOK X.E.mu X.E.ln (opT a) (σ.rd a) && (Nat.beq ds.length I.size && Nat.ble (off + I.size) cs.length) with
      | true => chk (ds.all PV.one) (K { σ.clr x with h := (σ.clr x).h.set i (some (cs.take off ++ ds.map PV.un ++ cs.drop (off + I.size))) })
      | false => none)
     | _ => none)
    | _, _, _ => none)
   | _ => exGen X o K σ))
 | .index t x i => (match σ.rd x, σ.rd i with
  | some (.str s), some (.int _ n) => (match isStrT X.E.P t with | true => byteX s n fun b => putX X.E o.dst (.int .u8 b) K σ | false => none)
  | some (.agg cs), some (.int _ n) => (match inMv X.E.sy o.dst with
   | true => (match arrOne X.E.P t with
    | some (m, _) => chk (decide (0 ≤ n) && decide (n < (m : Int))) (arrB cs 0 n fun p => (match p.one with | true => putX X.E o.dst p.un K σ | false => none))
    | none => none)
   | false => exGen X o K σ)
  | _, _ => exGen X o K σ)
 | .pick c a b => (match σ.rd c with
  | some (.bool v) => bsel v (putO X.E o.dst (σ.rd a) K σ) (putO X.E o.dst (σ.rd b) K σ)
  | _ => none)
 | .slice t x lo hi none => (match σ.rd x with
  | some (.sl _ sz es) => (match elemTI X.E.P t with | some I => if I.size = sz then exSliceL X o.dst sz es lo hi K σ else none | none => none)
  | some (.str s) => (match isStrT X.E.P t with | true => exSliceS X o.dst s lo hi K σ | false => none)
  | some (.slh i off n sz) => exSliceH X o.dst t i off n sz lo hi K σ
  | _ => exGen X o K σ)
 | .slice t x (some l) (some u) (some m) => (match σ.rd x, σ.rd l, σ.rd u, σ.rd m with
  | some (.sl _ sz es), some (.int _ a), some (.int _ b), some (.int _ c) => (match elemTI X.E.P t with
   | some I => (match Nat.beq I.size sz with | true => chk (decide (0 ≤ a) && decide (a ≤ b) && decide (b ≤ c) && decide (c ≤ (es.length : Int))) (putX X.E o.dst (.sl false sz ((es.take b.toNat).drop a.toNat)) K σ) | false => none)
   | none => none)
  | _, _, _, _ => none)
 | .makeSlice t l c => exMake X o.dst t l c K σ
 | .lookup t m k ok => (match σ.rd m, σ.rd k with
  | some pm, some q => exLook X o.dst t ok pm q K σ
  | _, _ => none)
 | .mapUpdate t m k x => (match σ.rd m, σ.rd k, σ.rd x with
  | some pm, some q, some y => exUpd X o.dst t pm q y K σ
  | _, _, _ => none)
 | .insert t m k x => (match stOKm X.E.mu X.E.ln (opT m) (σ.rd m) with
  | false => none
  | true => (match σ.rd m, σ.rd k, σ.rd x with
   | some pm, some q, some y => exUpd X o.dst t pm q y K σ
   | _, _, _ => none))
 | .next x b => exNext X o.dst b (σ.rd x) K σ
 | .fieldAddr s x f => (match σ.rd x, fieldsOf X.E.P s with
  | some (.cst (.agg cs)), some fs => (match fs[f]? with
   | some (off, z, false) => (match Nat.beq z 0, cs[off]? with
    | false, some p => chk p.one (putX X.E o.dst (.cst p.un) K σ)
    | _, _ => none)
   | _ => exGen X o K σ)
  | _, _ => exGen X o K σ)
 | .box t x => (match inMv X.E.fz o.dst, σ.rd x with
  | true, some (.agg ds) => chk (ds.all PV.one && PV.flats ds) (putX X.E o.dst (.cst (.agg (ds.map PV.un))) K σ)
  | _, _ => exGen X o K σ)
 | .binOp op t x y _ => (match op, σ.rd x, σ.rd y with
  | .quo, some (.int k a), some (.int k' b) => exDiv X o.dst k k' b (k.wrap (a.tdiv b)) K σ
  | .rem, some (.int k a), some (.int k' b) => exDiv X o.dst k k' b (a.tmod b) K σ
  | .shl, some (.int k a), some (.int _ b) => exSh X o.dst k b (k.wrap (a * 2 ^ min b.toNat k.bits)) K σ
  | .shr, some (.int k a), some (.int _ b) => exSh X o.dst k b (a.fdiv (2 ^ min b.toNat k.bits)) K σ
  | .add, some (.str a), some (.str b) => chk (decide (a.size + b.size ≤ LIM)) (putX X.E o.dst (.str (a ++ b)) K σ)
  | .eql, some p, some (.raw .nilFunc) => exFn X o.dst t p true K σ
  | .neq, some p, some (.raw .nilFunc) => exFn X o.dst t p false K σ
  | _, _, _ => exGen X o K σ)
 | .call c => (match c.callee with
  | .builtin .clear => (match c.args.toList, c.argTypes.toList with
   | [x], [t] => exClear X o.dst t x K σ
   | _, _ => none)
  | .builtin .copy => (match c.args.toList, c.argTypes.toList with
   | [x, y], [t, _] => exCopy X o.dst t x y K σ
   | _, _ => none)
  | .builtin .append => (match c.args.toList with
   | [s, x] => (match σ.ev s, σ.rd x with
    | some (.sl _ _ es), some (.sl _ _ es') => chk (decide (es.length + es'.length ≤ LIM)) (exGen X o K σ)
    | some (.sl _ _ es), some (.str b) => chk (decide (es.length + b.size ≤ LIM)) (exGen X o K σ)
    | some (.slp true n sz cs), some (.sl _ sz' es') => exAppP X o.dst c.argTypes.toList s n sz cs sz' es' K σ
    | some (.slT l), some (.str b) => chk (decide (l.length + b.size ≤ LIM)) (exGen X o K σ)
    | some (.slT l), some (.sl _ _ es') => (match oneB es' with
     | some c => chk (decide (l.length + 1 ≤ LIM) && decide (0 ≤ c) && decide (c < 256)) (exGen X o K σ)
     | none => none)
    | _, _ => none)
   | _ => none)
  | .builtin _ => exGen X o K σ
  | _ => none)
 | _ => exGen X o K σ
def rszA (zs : List Nat) (p : PV) : PV := match zs.all (Nat.beq · 0) with | true => p | false => p.reszT zs
def argT (P : Program) : List TypeId → List PV → List PV
 | t :: ts, p :: ps => rszA (cellSz P 8 t) p :: argT P ts ps
 | _, ps => ps
def callTs (E : AE) (o : Oper) : List TypeId := match inMv E.sy (o.dst.map (9000000 + ·)) with | true => [] | false => (match o.op with | .call c => c.argTypes.toList | _ => [])
mutual
def PV.ids : PV → List Nat
 | .ptr i _ => [i]
 | .bld _ i => [i]
 | .slh i _ _ _ => [i]
 | .func _ a c => PV.idsL a ++ PV.idsL c
 | .agg cs => PV.idsL cs
 | .tuple cs => PV.idsL cs
 | _ => []
def PV.idsL : List PV → List Nat
 | [] => []
 | p :: ps => p.ids ++ PV.idsL ps
end
def addI (l : List Nat) : List Nat → List Nat
 | [] => l
 | i :: is => addI (match inI l i with | true => l | false => l ++ [i]) is
def cellIds (H : Objs) : List Nat → List Nat
 | [] => []
 | i :: l => (match getO H i with | some cs => PV.idsL cs | none => []) ++ cellIds H l
def closeI (H : Objs) : Nat → List Nat → List Nat
 | 0, l => l
 | n + 1, l => closeI H n (addI l (cellIds H l))
def subOK (ids : List Nat) (H : Objs) (full : List PV) : Bool :=
 nodupB ids && (ids.all (fun i => Nat.blt i H.length) && (PV.allIL (inI ids) full && ids.all fun i => match getO H i with | some cs => PV.allIL (inI ids) cs | none => true))
def exCallH (X : XE) (dst : Option Nat) (g : FuncId) (full : List PV) (ids : List Nat) (K : ASt → R) (σ : ASt) : R :=
 match subOK ids σ.h full with
 | true => clH X.C g (renL (posI ids) full) ((ids.map (getO σ.h)).map (renO (posI ids))) fun r h' => X.W g ((ids.map (getO σ.h)).map (renO (posI ids))) r h' fun r' h'' => putX X.E dst (renP (backI ids σ.h.length) r') K ⟨σ.s, bigH ids σ.h h''⟩
 | false => none
def flC (p : PV) : Bool := p.one && p.flat
def plainOb : Option (List PV) → Bool
 | some cs => cs.all flC
 | none => true
def setP (ids : List Nat) (H h' : Objs) : Objs := setIds ids (h'.take ids.length) H ++ h'.drop ids.length
def exCallP (X : XE) (dst : Option Nat) (g : FuncId) (full : List PV) (ids : List Nat) (K : ASt → R) (σ : ASt) : R :=
 match nodupB ids && (ids.all (fun i => Nat.blt i σ.h.length) && PV.allIL (inI ids) full) with
 | true => chk ((ids.map (getO σ.h)).all plainOb) (clH X.C g (renL (posI ids) full) (ids.map (getO σ.h)) fun r h' => X.W g (ids.map (getO σ.h)) r h' fun r' h'' => chk (h''.all plainOb) (putX X.E dst (renP (backI ids σ.h.length) r') K ⟨σ.s, setP ids σ.h h''⟩))
 | false => none
def exThaw (X : XE) (dst : Option Nat) (r : PV) (K : ASt → R) (σ : ASt) : R := match r with
 | .sl true 1 es => chk (decide (0 < es.length) && es.all plainC) (putX X.E dst (.slh σ.h.length 0 es.length 1) K ⟨σ.s, σ.h ++ [some es]⟩)
 | .sl true sz es => bsel (decide (0 < es.length)) (chk (es.all (plainE sz)) (putX X.E dst (.slh σ.h.length 0 es.length sz) K ⟨σ.s, σ.h ++ [some (flatPV es)]⟩)) (putX X.E dst (.sl true sz []) K σ)
 | _ => none
def exLend (X : XE) (dst : Option Nat) (g : FuncId) (full : List PV) (K : ASt → R) (σ : ASt) : R :=
 chk (lendCL σ.h full) (clX X.C g (lendL σ.h full) fun r => X.W g [] r [] fun r' _ => (match r'.noref with | true => putX X.E dst r' K σ | false => none))
def exCallW (X : XE) (dst : Option Nat) (g : FuncId) (full : List PV) (K : ASt → R) (σ : ASt) : R :=
 clH X.C g full σ.h fun r h' => X.W g σ.h r h' fun r' h'' => putX X.E dst r' K ⟨σ.s, h''⟩
def roOK (l ids : List Nat) (n : Nat) : Bool := l.all fun k => match Nat.ble 1000000 k with
 | true => Nat.blt (k - 1000000) n && !inI ids (k - 1000000)
 | false => true
def exCall (X : XE) (draw : Bool) (o : Oper) (f : Operand) (args : List Operand) (K : ASt → R) (σ : ASt) : R :=
 match σ.rd f, allSome (args.map σ.rd) with
 | some (.func (.func g) first caps), some as => (match !draw && (inMv X.E.ln o.dst && inMv X.E.sy o.dst) with
  | true => (match inMv X.E.sy (o.dst.map (6000000 + ·)) with
   | true => exCallP X o.dst g (first ++ argT X.E.P (callTs X.E o) as ++ caps) (addI [] (PV.idsL (first ++ argT X.E.P (callTs X.E o) as ++ caps))) K σ
   | false => (match inMv X.E.sy (o.dst.map (7000000 + ·)) with
    | true => exCallW X o.dst g (first ++ argT X.E.P (callTs X.E o) as ++ caps) K σ
    | false => exCallH X o.dst g (first ++ argT X.E.P (callTs X.E o) as ++ caps) (closeI σ.h 3 (addI [] (PV.idsL (first ++ argT X.E.P (callTs X.E o) as ++ caps)))) K σ))
  | false => match PV.flats (first ++ argT X.E.P (callTs X.E o) as ++ caps) with
   | true => clX X.C g (first ++ argT X.E.P (callTs X.E o) as ++ caps) fun r => X.W g [] r [] fun r' _ => (match !draw && inMv X.E.mu o.dst with
    | true => exThaw X o.dst r' K σ
    | false => (match PV.flat r' with | true => putX X.E o.dst r' K σ | false => none))
   | false => (match draw with
    | true => match inMv X.E.sy o.dst && roOK X.E.ln (closeI σ.h 3 (addI [] (PV.idsL (first ++ argT X.E.P (callTs X.E o) as ++ caps)))) σ.h.length with
     | true => exCallH X o.dst g (first ++ argT X.E.P (callTs X.E o) as ++ caps) (closeI σ.h 3 (addI [] (PV.idsL (first ++ argT X.E.P (callTs X.E o) as ++ caps)))) K σ
     | false => none
    | false => match inMv X.E.ln o.dst with
     | true => exLend X o.dst g (first ++ argT X.E.P (callTs X.E o) as ++ caps) K σ
     | false => match inMv X.E.sy o.dst with
     | true => exCallP X o.dst g (first ++ argT X.E.P (callTs X.E o) as ++ caps) (addI [] (PV.idsL (first ++ argT X.E.P (callTs X.E o) as ++ caps))) K σ
     | false => exCallH X o.dst g (first ++ argT X.E.P (callTs X.E o) as ++ caps) (closeI σ.h 3 (addI [] (PV.idsL (first ++ argT X.E.P (callTs X.E o) as ++ caps)))) K σ))
 | _, _ => none
def exCallF (X : XE) (o : Oper) (f : Operand) (args : List Operand) (K : ASt → R) (σ : ASt) : R :=
 match σ.rd f, allSome (args.map σ.rd) with
 | some p, some as => fvX p fun g first caps => chk (PV.flats (first ++ argT X.E.P (callTs X.E o) as ++ caps)) (clX X.C g (first ++ argT X.E.P (callTs X.E o) as ++ caps) fun r => X.V o.type r fun r' => (match PV.flat r' with | true => putX X.E o.dst r' K σ | false => none))
 | _, _ => none
noncomputable def ex1 (X : XE) (draw : Bool) (o : Oper) (K : ASt → R) (σ : ASt) : R :=
 match isCall o with
 | some (f, args) => (match inMv X.E.sy (o.dst.map (2000000 + ·)) with | true => exCallF X o f args K σ | false => exCall X draw o f args K σ)
 | none => match draw with
  | true => exOp X o K σ
  | false => match nilCmp X.E o σ with
   | some (es, pos) => nilX es fun b => putX X.E o.dst (.bool (b == pos)) K σ
   | none => exOp X o K σ
noncomputable def exGd (X : XE) (draw : Bool) (o : Oper) (d : Nat) (want v : Bool) (K : ASt → R) (σ : ASt) : R :=
 match v == want with
 | true => ex1 X draw o K (σ.lit d v)
 | false => putX X.E o.dst (.tuple []) K (σ.lit d v)
noncomputable def exOps (X : XE) (draw : Bool) (ops : Array Oper) : List Oper → (ASt → R) → ASt → R
 | [], K, σ => K σ
 | o :: l, K, σ => match o.guard with
  | none => ex1 X draw o (exOps X draw ops l K) σ
  | some (j, want) => match (ops[j]?).bind (·.dst) with
   | none => putX X.E o.dst (.tuple []) (exOps X draw ops l K) σ
   | some d => match sget d σ.s with
    | some (.bool b) => bsel b (exGd X draw o d want true (exOps X draw ops l K) σ) (exGd X draw o d want false (exOps X draw ops l K) σ)
    | some (.tuple []) => putX X.E o.dst (.tuple []) (exOps X draw ops l K) σ
    | _ => none
def thenK (k : ASt → R) (K : AX → ASt → R) : AX → ASt → R
 | .normal, σ => k σ
 | .ret, σ => K .ret σ
 | .exit i, σ => K (.exit i) σ
def blkK (id : Nat) (K : AX → ASt → R) : AX → ASt → R
 | .exit i, σ => if i = id then K .normal σ else K (.exit i) σ
 | .normal, σ => K .normal σ
 | .ret, σ => K .ret σ
def ASt.keys (E : AE) (σ : ASt) : List Nat := (σ.keep E.vars).s.map (·.1)
def rid : Code → Nat
 | .region id _ _ => id + 1
 | .seq .skip y => rid y
 | .seq (.label _) y => rid y
 | .seq x _ => rid x
 | .block _ x => rid x
 | .scope x => rid x
 | .loop x => rid x
 | _ => 0
mutual
def PV.tops : PV → Nat
 | .ptr i _ => i + 1
 | .bld _ i => i + 1
 | .slh i _ _ _ => i + 1
 | .func _ f c => Nat.max (PV.topsL f) (PV.topsL c)
 | .agg cs => PV.topsL cs
 | .tuple cs => PV.topsL cs
 | _ => 0
def PV.topsL : List PV → Nat
 | [] => 0
 | p :: ps => Nat.max p.tops (PV.topsL ps)
end
def topsS : Slots → Nat
 | [] => 0
 | (_, p) :: l => Nat.max p.tops (topsS l)
def topsH : Nat → Objs → Nat
 | 0, _ => 0
 | _, [] => 0
 | n + 1, o :: h => Nat.max (match o with | some cs => PV.topsL cs | none => 0) (topsH n h)
def slhOf : PV → List Nat
 | .slh i _ _ _ => [i]
 | _ => []
def flagL : List PV → List Nat
 | [] => []
 | p :: ps => addI (slhOf p) (flagL ps)
def objF : List Nat → List Nat
 | [] => []
 | k :: l => (match Nat.ble 8500000 k with | true => (k - 8500000) :: objF l | false => objF l)
def flagS (l : List Nat) : Slots → List Nat
 | [] => objF l
 | (k, p) :: s => (match inI l k with | true => addI (match inI l (7000000 + k) with | true => p.ids | false => (match inI l (6500000 + k) with | true => [] | false => slhOf p)) (flagS l s) | false => flagS l s)
def cellF (H : Objs) (l : List Nat) : Slots → List Nat
 | [] => []
 | (k, p) :: s => (match inI l k && inI l (7500000 + k) with | true => addI (cellIds H p.ids) (cellF H l s) | false => cellF H l s)
def slotF (l : List Nat) : Slots → List Nat
 | [] => []
 | (k, p) :: s => (match inI l k with | true => p.ids ++ slotF l s | false => slotF l s)
def othF (H : Objs) (l : List Nat) (s : Slots) : List Nat := match inI l 8200000 with | true => (List.range H.length).filter (fun i => !inI (slotF l s) i) | false => []
def flagA (l : List Nat) (σ : ASt) : List Nat := addI (othF σ.h l σ.s) (addI (cellF σ.h l σ.s) (flagS l σ.s))
def skipO (fl : List Nat) : Nat → Objs → Objs
 | _, [] => []
 | j, o :: h => (match inI fl j with | true => none | false => o) :: skipO fl (j + 1) h
def plainO (h : Objs) : List Nat → Bool
 | [] => true
 | i :: is => (match h[i]? with | some (some cs) => cs.all flC | _ => true) && plainO h is
def capM : List Nat → Nat
 | [] => 0
 | k :: l => (match Nat.ble 6400000 k && Nat.ble k 6499999 with | true => Nat.max (k - 6400000) (capM l) | false => capM l)
def needM (m0 : Nat) (l : List Nat) (σ : ASt) : Nat :=
 let h := skipO (flagA l σ) 0 σ.h
 let a := Nat.max m0 (topsS (σ.keep l).s)
 let b := Nat.max a (topsH a h)
 Nat.max (Nat.max b (topsH b h)) (capM l)
def plainG (l : List Nat) (m : Nat) (σ : ASt) : Bool := plainO (σ.gc l m).h (flagA l (σ.gc l m))
def gcOKf (l : List Nat) (m : Nat) (σ : ASt) : Bool := (σ.gc l m).s.all (fun kp => kp.2.blw m) && blwH m (skipO (flagA l (σ.gc l m)) 0 (σ.gc l m).h)
theorem skipO_get (fl : List Nat) : ∀ (h : Objs) (j k : Nat) (o : Option (List PV)), h[k]? = some o → (skipO fl j h)[k]? = some (match inI fl (j + k) with | true => none | false => o)
 | [], _, _, _, h => by simp at h
 | a :: h, j, 0, o, e => by grind [skipO]
 | a :: h, j, k + 1, o, e => by
  rw [skipO, List.getElem?_cons_succ, skipO_get fl h (j + 1) k o (by grind), show j + 1 + k = j + (k + 1) by omega]
theorem plainO_mem {h : Objs} : ∀ {fl : List Nat} {i : Nat} {cs : List PV}, plainO h fl = true → i ∈ fl → h[i]? = some (some cs) → cs.all flC = true
 | a :: fl, i, cs, hp, hi, e => by
  simp only [plainO, Bool.and_eq_true] at hp
  rcases List.mem_cons.1 hi with rfl | hi
  ·have := hp.1; rw [e] at this; exact this
  ·exact plainO_mem hp.2 hi e
theorem plain_blws (m : Nat) : ∀ {cs : List PV}, cs.all flC = true → PV.blws m cs = true
 | [], _ => rfl
 | p :: cs, h => by
  simp only [List.all_cons, Bool.and_eq_true, flC] at h
  simp only [PV.blws, flat_blw m p h.1.2, plain_blws m h.2, Bool.and_self]
theorem blw_plain {m : Nat} {h : Objs} {fl : List Nat} (hp : plainO h fl = true) (hb : blwH m (skipO fl 0 h) = true) : blwH m h = true := by
 unfold blwH at hb ⊢
 rw [List.all_eq_true] at hb ⊢
 intro o ho
 obtain ⟨k, hk⟩ := List.mem_iff_getElem?.1 ho
 have h1 := skipO_get fl h 0 k o hk
 cases hi : inI fl k with
 | true =>
  cases o with
  | none => rfl
  | some cs => exact plain_blws m (plainO_mem hp (inI_iff.1 hi) hk)
 | false =>
  grind
theorem gcOK_of {l : List Nat} {m : Nat} {σ : ASt} (hp : plainG l m σ = true) (hg : gcOKf l m σ = true) : gcOK l m σ = true := by
 unfold gcOKf at hg
 unfold gcOK
 rw [Bool.and_eq_true] at hg ⊢
 exact ⟨hg.1, blw_plain hp hg.2⟩
def joinY (E : AE) (m0 : Nat) (y : Code) (k : ASt → R) (σ : ASt) : R := match E.jt.lookup (rid y) with
 | some l => chk (plainG l (needM m0 l σ) σ) (match decide (m0 ≤ needM m0 l σ) && gcOKf l (needM m0 l σ) σ with | true => k (σ.gc l (needM m0 l σ)) | false => none)
 | none => k σ
def frzX (k : ASt → R) : List Nat → ASt → R
 | [], σ => k σ
 | d :: ds, σ => match Nat.ble 9000000 d with
  | true => (match sget (d - 9000000) σ.s with
   | some (.ptr i 0) => (match σ.h[i]? with
    | some (some cs) => chk (decide (0 < cs.length) && cs.all fun p => p.one && p.flat) (frzX k ds ⟨sput (d - 9000000) (.cst ((chunkP cs.length cs 1).headD .nilp)) σ.s, σ.h.set i none⟩)
    | _ => frzX k ds σ)
   | _ => frzX k ds σ)
  | false => match Nat.ble 5000000 d with
  | true => (match objAt (sget ((d - 5000000) / 100) σ.s) with
   | some i2 => (match σ.h[i2]? with
    | some (some cs0) => (match cs0[(d - 5000000) % 100]? with
     | some (.slh i 0 n sz) => (match σ.h[i]? with
      | some (some cs) => chk (decide (n * sz ≤ cs.length) && decide (0 < sz) && cs.all (fun p => p.one && p.flat) && !Nat.beq i i2) (frzX k ds ⟨σ.s, (σ.h.set i none).set i2 (some (cs0.set ((d - 5000000) % 100) (.sl false sz (chunkP sz cs n))))⟩)
      | _ => frzX k ds σ)
     | _ => frzX k ds σ)
    | _ => frzX k ds σ)
   | _ => frzX k ds σ)
  | false => match Nat.ble 4000000 d with
  | true => (match sget ((d - 4000000) / 100) σ.s with
   | some (.ptr i 0) => (match σ.h[i]? with
    | some (some cs0) => (match cs0[(d - 4000000) % 100]? with
     | some (.slp true n sz cs) => bsel (Nat.ble 1 n) (frzX k ds ⟨σ.s, σ.h.set i (some (cs0.set ((d - 4000000) % 100) (.slh σ.h.length 0 n sz))) ++ [some cs]⟩) (frzX k ds ⟨σ.s, σ.h.set i (some (cs0.set ((d - 4000000) % 100) (.sl false sz [])))⟩)
     | _ => frzX k ds σ)
    | _ => frzX k ds σ)
   | _ => frzX k ds σ)
  | false => match Nat.ble 3000000 d with
  | true => (match sget ((d - 3000000) % 500000) σ.s with
   | some (.slp true n sz cs) => (match Nat.ble 3500000 d with
    | true => chk (Nat.ble 1 n) (frzX k ds ⟨sput ((d - 3000000) % 500000) (.slh σ.h.length 0 n sz) σ.s, σ.h ++ [some cs]⟩)
    | false => bsel (Nat.ble 1 n) (frzX k ds ⟨sput ((d - 3000000) % 500000) (.slh σ.h.length 0 n sz) σ.s, σ.h ++ [some cs]⟩) (frzX k ds ⟨sput ((d - 3000000) % 500000) (.sl false sz []) σ.s, σ.h⟩))
   | _ => frzX k ds σ)
  | false => match Nat.ble 1000000 d with
   | true => (match sget (d - 1000000) σ.s with
    | some (.slh i 0 n sz) => (match σ.h[i]? with
     | some (some cs) => chk (decide (n * sz ≤ cs.length) && decide (0 < sz) && cs.all fun p => p.one && p.flat) (frzX k ds ⟨sput (d - 1000000) (.sl false sz (chunkP sz cs n)) σ.s, σ.h.set i none⟩)
     | _ => frzX k ds σ)
    | _ => frzX k ds σ)
   | false => frzX k ds (frz1 d σ)
def joinX (E : AE) (m0 : Nat) (y : Code) (k : ASt → R) (σ : ASt) : R := match E.ft.lookup (rid y) with
 | some ks => frzX (joinY E m0 y k) ks σ
 | none => joinY E m0 y k σ
def loopP (E : AE) (m0 : Nat) (x : Code) (σ : ASt) : List Nat × Nat := match E.lt.lookup (rid x) with
 | some l => (l, needM m0 l σ)
 | none => (σ.keys E, σ.h.length)
open Classical in
noncomputable def agR (a b : R) : R := match a with
 | some (r, h) => (match b with | some (r', h') => (match PV.eqb r r' && eqbO h h' with | true => some (r, h) | false => if r = r' ∧ h = h' then some (r, h) else none) | none => none)
 | none => none
theorem agR_self (a : R) : agR a a = a := by
 unfold agR
 grind
theorem agR_some {a b : R} {v : PV × Objs} (h : agR a b = some v) : a = some v ∧ b = some v := by
 unfold agR at h
 grind [PV.eqb_eq, eqbO_eq]
noncomputable def agAll : List R → R
 | [] => none
 | x :: l => match l with | [] => x | _ :: _ => agR x (agAll l)
noncomputable def exOrd (X : XE) (ops : Array Oper) (K : ASt → R) : Nat → Array Bool → ASt → R
 | 0, L, σ => (match Region.ready .any ops L with | [] => K σ | _ :: _ => none)
 | fuel + 1, L, σ => (match Region.ready .any ops L with
  | [] => K σ
  | i :: is => agAll ((match frontO X.E ops L (i :: is) with | some j => [j] | none => i :: is).map fun i => match ops[i]? with
   | none => none
   | some o => exOps X true ops [o] (exOrd X ops K fuel (L.setIfInBounds i true)) σ))
noncomputable def exAll (X : XE) (ops : Array Oper) (K : ASt → R) (σ : ASt) : R := exOrd X ops K ops.size (Array.replicate ops.size false) σ
theorem agAll_some {v : PV × Objs} : ∀ {l : List R}, agAll l = some v → ∀ x, x ∈ l → x = some v
 | [], _, x, hx => by cases hx
 | y :: l, h, x, hx => by
  cases l with
  | nil => rw [List.mem_singleton] at hx; subst hx; exact h
  | cons z l' =>
   obtain ⟨h1, h2⟩ := agR_some h
   rcases List.mem_cons.1 hx with hx | hx
   ·subst hx; exact h1
   ·exact agAll_some h2 x hx
def rngX (kd : IntKind) (f : Int → Option Bool) (L : List PV) (A B : R) : R := match anyK kd f L with | some r => bsel r A B | none => none
noncomputable def mrK (E : AE) (c : MRc) (K : AX → ASt → R) (σ1 : ASt) : R := match σ1.rd (.tmp c.q.m) with
 | some (.bld 0 i) => (match σ1.h[i]? with
  | some (some cs) => (match mapIn cs with
   | some (_, L) => (match E.P.underlying c.q.t with
    | some (.map k _) => (match intT E.P k with
     | some kd => (match c.q.all.all (fun k => (sget k σ1.s).isNone) with
      | true => rngX kd (testA E c.q σ1 kd) L (K .ret σ1) (K .normal σ1)
      | false => none)
     | none => none)
    | _ => none)
   | none => none)
  | _ => none)
 | _ => none
noncomputable def mrX (X : XE) (c : MRc) (K : AX → ASt → R) (σ : ASt) : R := match c.q.all.all (fun k => Nat.blt k X.E.n) && !inI c.q.ds c.q.it with
 | true => exOps X false c.opsR [c.o1] (mrK X.E c K) (σ.head X.E)
 | false => none
noncomputable def exK (X : XE) : Code → (AX → ASt → R) → ASt → R
 | .skip, K, σ => K .normal σ
 | .label _, K, σ => K .normal σ
 | .exit id, K, σ => K (.exit id) σ
 | .ret, K, σ => K .ret σ
 | .region _ ops draw, K, σ => (match draw with
  | true => (match okD X.E ops with | true => exOps X true ops ops.toList (K .normal) (σ.head X.E) | false => exAll X ops (K .normal) (σ.head X.E))
  | false => exOps X false ops ops.toList (K .normal) (σ.head X.E))
 | .seq x y, K, σ => (match mrQ x y with
  | some c => mrX X c K σ
  | none => exK X x (thenK (joinX X.E X.m0 y (exK X y K)) K) σ)
 | .cond c x y, K, σ => (match σ.rd c with
  | some (.bool b) => (match c with
   | .tmp d => bsel b (exK X x K (σ.lit d true)) (exK X y K (σ.lit d false))
   | _ => bsel b (exK X x K σ) (exK X y K σ))
  | _ => none)
 | .block id x, K, σ => exK X x (blkK id K) σ
 | .scope x, K, σ => exK X x K σ
 | .loop x, K, σ => X.L (loopP X.E X.m0 x σ).1 (loopP X.E X.m0 x σ).2 x K (σ.gc (loopP X.E X.m0 x σ).1 (loopP X.E X.m0 x σ).2)
 | _, _, _ => none
section
variable {ι : Type} (Good : (ι → R) → Prop)
structure Fam : Prop where
 const : ∀ c : R, Good fun _ => c
 bind : ∀ (c : ι → R) (k : ι → PV → Objs → R), Good c → (∀ r h, Good fun i => k i r h) → Good fun i => match c i with | some (r, h) => k i r h | none => none
variable {Good} (F : Fam Good)
theorem Fam.no (F : Fam Good) : Good fun _ => none := F.const none
include F
theorem good_chk {b : Bool} {A : ι → R} (h : Good A) : Good fun i => chk b (A i) := by
 cases b
 ·exact F.no
 ·exact h
theorem good_bsel {b : Bool} {A B : ι → R} (h : Good A) (h' : Good B) : Good fun i => bsel b (A i) (B i) := by
 cases b
 ·exact h'
 ·exact h
open Classical in
theorem good_agR {A B : ι → R} (h : Good A) (h' : Good B) : Good fun i => agR (A i) (B i) :=
 F.bind A (fun i r h1 => match B i with | some (r', h') => (match PV.eqb r r' && eqbO h1 h' with | true => some (r, h1) | false => if r = r' ∧ h1 = h' then some (r, h1) else none) | none => none) h
  (fun r h1 => F.bind B (fun _ r' h' => (match PV.eqb r r' && eqbO h1 h' with | true => some (r, h1) | false => if r = r' ∧ h1 = h' then some (r, h1) else none)) h' fun r' h' => F.const _)
theorem good_agAll {α : Type} {f : ι → α → R} (h : ∀ a, Good fun i => f i a) : ∀ l : List α, Good fun i => agAll (l.map (f i))
 | [] => F.no
 | x :: l => by
  cases l with
  | nil => exact h x
  | cons y l => exact good_agR F (h x) (good_agAll h (y :: l))
theorem good_putX {E : AE} {dst : Option Nat} {p : PV} {K : ι → ASt → R} {σ : ASt} (h : ∀ σ, Good fun i => K i σ) : Good fun i => putX E dst p (K i) σ := by
 unfold putX; split
 ·exact h _
 ·exact F.no
theorem good_putO {E : AE} {dst : Option Nat} {p : Option PV} {K : ι → ASt → R} {σ : ASt} (h : ∀ σ, Good fun i => K i σ) : Good fun i => putO E dst p (K i) σ := by
 cases p
 ·exact F.no
 ·exact good_putX F h
theorem good_lgetX {es : List PV} {n : Int} {K : ι → PV → R} (h : ∀ p, Good fun i => K i p) : Good fun i => lgetX es n (K i) := by
 unfold lgetX; split
 ·split
  ·exact h _
  ·exact F.no
 ·exact F.no
include F in
theorem good_nbrB {n : Nat} {K : ι → PV → R} (h : ∀ p, Good fun i => K i p) : ∀ (cs : List PV) (k : Nat), Good fun i => nbrB cs k n (K i)
 | [], _ => F.no
 | p :: r, k => good_bsel F (h p) (good_nbrB h r (k + 1))
theorem good_ngetX {es : List PV} {n : Nat} {K : ι → PV → R} (h : ∀ p, Good fun i => K i p) : Good fun i => ngetX es n (K i) := by
 unfold ngetX; split
 ·exact h _
 ·exact F.no
theorem good_mapX {s : Option IntKind} {l : List PV} {q : PV} {A : ι → PV → R} {B : ι → R} (h : ∀ p, Good fun i => A i p) (h' : Good B) : Good fun i => mapX s l q (A i) (B i) := by
 unfold mapX; split
 ·exact h _
 ·exact h'
 ·exact F.no
theorem good_mapBr {s : Option IntKind} {q : PV} {A : ι → PV → R} {B : ι → R} (h : ∀ p, Good fun i => A i p) (h' : Good B) : ∀ (l : List PV), Good fun i => mapBr s l q (A i) (B i)
 | k :: v :: L => by
  simp only [mapBr]
  split
  ·exact good_bsel F (h _) (good_mapBr h h' L)
  ·exact F.no
 | [] => h'
 | [_] => F.no
theorem good_nilX {es : List PV} {K : ι → Bool → R} (h : ∀ b, Good fun i => K i b) : Good fun i => nilX es (K i) := by
 have := F.bind (fun i => K i false) (fun i r hh => match es.isEmpty with | false => some (r, hh) | true => match K i true with | some (r', h') => eqR (r, hh) (r', h') | none => none) (h false) (fun r hh => by
  cases es.isEmpty
  ·exact F.const _
  ·exact F.bind (fun i => K i true) (fun _ r' h' => eqR (r, hh) (r', h')) (h true) fun r' h' => F.const _)
 exact this
theorem good_byteX {s : ByteArray} {n : Int} {K : ι → Int → R} (h : ∀ p, Good fun i => K i p) : Good fun i => byteX s n (K i) := by
 unfold byteX; split
 ·split
  ·exact h _
  ·exact F.no
 ·exact F.no
theorem good_clX {C : ι → Cal} {g : FuncId} {args : List PV} {K : ι → PV → R} (hC : ∀ g args h, Good fun i => C i g args h) (h : ∀ p, Good fun i => K i p) : Good fun i => clX (C i) g args (K i) := by
 have := F.bind (fun i => C i g args []) (fun i r h => match h with | [] => K i r | _ => none) (hC _ _ _) (fun r hh => by
  cases hh
  ·exact h r
  ·exact F.no)
 grind [clX]
theorem good_clH {C : ι → Cal} {g : FuncId} {args : List PV} {hh : Objs} {K : ι → PV → Objs → R} (hC : ∀ g args h, Good fun i => C i g args h) (h : ∀ p q, Good fun i => K i p q) : Good fun i => clH (C i) g args hh (K i) :=
 F.bind (fun i => C i g args hh) K (hC _ _ _) h
def XE.up (X : XE) (C : Cal) (L : List Nat → Nat → Code → (AX → ASt → R) → ASt → R) : XE := { X with C := C, L := L }
def viewOK (V : TypeId → PV → (PV → R) → R) : Prop := ∀ t p, (∀ K, V t p K = K p) ∨ (∀ K, V t p K = none)
def outOK (W : FuncId → Objs → PV → Objs → (PV → Objs → R) → R) : Prop := ∀ g h r h', (∀ K, W g h r h' K = K r h') ∨ (∀ K, W g h r h' K = none)
variable {X : XE} {C : ι → Cal} {L : ι → List Nat → Nat → Code → (AX → ASt → R) → ASt → R} (hV : viewOK X.V) (hW : outOK X.W) (hC : ∀ g args h, Good fun i => C i g args h)
 (hL : ∀ (l : List Nat) (m : Nat) (x : Code) (K : ι → AX → ASt → R) (σ : ASt), (∀ e σ, Good fun i => K i e σ) → Good fun i => L i l m x (K i) σ)
theorem good_fnX {p : PV} {K : ι → Bool → R} (h : ∀ b, Good fun i => K i b) : Good fun i => fnX p (K i) := by
 unfold fnX
 split
 ·exact h _
 ·exact h _
 ·exact F.no
theorem good_fvX {p : PV} {K : ι → FuncId → List PV → List PV → R} (h : ∀ g a b, Good fun i => K i g a b) : Good fun i => fvX p (K i) := by
 unfold fvX
 split
 simp_all
 ·exact F.no
theorem good_arrB {n : Int} {K : ι → PV → R} (h : ∀ p, Good fun i => K i p) : ∀ (cs : List PV) (k : Nat), Good fun i => arrB cs k n (K i)
 | [], _ => F.no
 | p :: r, k => good_bsel F (h p) (good_arrB h r (k + 1))
theorem good_exGen {o : Oper} {K : ι → ASt → R} {σ : ASt} (h : ∀ σ, Good fun i => K i σ) : Good fun i => exGen (X.up (C i) (L i)) o (K i) σ := by
 show Good fun i => match stepV X.E o σ with | some (p, σ1) => putX X.E o.dst p (K i) σ1 | none => none
 split
 ·exact good_putX F h
 ·exact F.no
include hV in
theorem good_V {t : TypeId} {p : PV} {K : ι → PV → R} (h : ∀ p, Good fun i => K i p) : Good fun i => X.V t p (K i) := by
 rcases hV t p with e | e
 ·simp only [e]; exact h p
 ·simp only [e]; exact F.no
include hW in
theorem good_W {g : FuncId} {hh h' : Objs} {r : PV} {K : ι → PV → Objs → R} (h : ∀ p q, Good fun i => K i p q) : Good fun i => X.W g hh r h' (K i) := by
 rcases hW g hh r h' with e | e
 ·simp only [e]; exact h _ _
 ·simp only [e]; exact F.no
theorem good_sliceL {dst : Option Nat} {sz : Nat} {es : List PV} {lo hi : Option Operand} {K : ι → ASt → R} {σ : ASt} (h : ∀ σ, Good fun i => K i σ) : Good fun i => exSliceL (X.up (C i) (L i)) dst sz es lo hi (K i) σ := by
 cases lo <;> cases hi <;> simp only [exSliceL]
 ·exact good_putX F h
 all_goals
  split
  ·exact good_chk F (good_putX F h)
  ·exact F.no
theorem good_sliceS {dst : Option Nat} {s : ByteArray} {lo hi : Option Operand} {K : ι → ASt → R} {σ : ASt} (h : ∀ σ, Good fun i => K i σ) : Good fun i => exSliceS (X.up (C i) (L i)) dst s lo hi (K i) σ := by
 cases lo <;> cases hi <;> simp only [exSliceS]
 ·exact good_putX F h
 all_goals
  split
  ·exact good_chk F (good_putX F h)
  ·exact F.no
theorem good_sliceH {dst : Option Nat} {t : TypeId} {i off n sz : Nat} {lo hi : Option Operand} {K : ι → ASt → R} {σ : ASt} (h : ∀ σ, Good fun i => K i σ) : Good fun j => exSliceH (X.up (C j) (L j)) dst t i off n sz lo hi (K j) σ := by
 simp only [exSliceH, XE.up]
 split
 ·split
  ·split
   ·split
    ·exact good_chk F (good_putX F h)
    ·exact F.no
   ·split
    ·exact good_chk F (good_bsel F (good_putX F h) (good_putX F h))
    ·exact F.no
   ·exact F.no
  ·exact F.no
 ·exact F.no
theorem good_make {dst : Option Nat} {t : TypeId} {l c : Operand} {K : ι → ASt → R} {σ : ASt} (h : ∀ σ, Good fun i => K i σ) : Good fun j => exMake (X.up (C j) (L j)) dst t l c (K j) σ := by
 simp only [exMake, XE.up]
 split
 ·split
  ·split
   ·split
    ·exact good_chk F (good_putX F h)
    ·exact F.no
   ·refine good_chk F ?_
    split
    ·exact good_putX F h
    ·split
     ·exact good_putX F h
     ·exact F.no
  ·exact F.no
 ·exact F.no
theorem good_clear {dst : Option Nat} {t : TypeId} {x : Operand} {K : ι → ASt → R} {σ : ASt} (h : ∀ σ, Good fun i => K i σ) : Good fun j => exClear (X.up (C j) (L j)) dst t x (K j) σ := by
 simp only [exClear, XE.up]
 split
 ·split
  ·split
   ·exact good_chk F (h _)
   ·exact F.no
  ·exact F.no
 ·exact h _
 ·exact F.no
theorem good_upd {dst : Option Nat} {t : TypeId} {m q x : PV} {K : ι → ASt → R} {σ : ASt} (h : ∀ σ, Good fun i => K i σ) : Good fun j => exUpd (X.up (C j) (L j)) dst t m q x (K j) σ := by
 simp only [exUpd, XE.up]
 split
 ·split
  ·split
   ·split
    ·exact good_chk F (h _)
    ·exact F.no
   ·exact F.no
  ·exact F.no
 ·exact F.no
theorem good_next {dst : Option Nat} {b : Bool} {q : Option PV} {K : ι → ASt → R} {σ : ASt} (h : ∀ σ, Good fun i => K i σ) : Good fun j => exNext (X.up (C j) (L j)) dst b q (K j) σ := by
 simp only [exNext]
 split
 ·split
  ·split
   ·split
    ·exact good_chk F (good_bsel F (good_putX F h) (good_putX F h))
    ·exact F.no
   ·exact F.no
  ·exact F.no
 ·exact F.no
include hV in
theorem good_look {dst : Option Nat} {t : TypeId} {ok : Bool} {m q : PV} {K : ι → ASt → R} {σ : ASt} (h : ∀ σ, Good fun i => K i σ) : Good fun j => exLook (X.up (C j) (L j)) dst t ok m q (K j) σ := by
 simp only [exLook, XE.up]
 split
 ·split
  ·split
   ·split
    ·split
     ·exact good_mapBr F (fun p => good_putX F h) (good_putX F h) _
     ·exact good_mapX F (fun p => good_V F hV fun q => good_putX F h) (good_putX F h)
    ·exact F.no
   ·exact F.no
  ·exact F.no
 ·exact F.no
include hV in
theorem good_exOp {o : Oper} {K : ι → ASt → R} {σ : ASt} (h : ∀ σ, Good fun i => K i σ) : Good fun i => exOp (X.up (C i) (L i)) o (K i) σ := by
 have hg := fun {σ : ASt} => good_exGen F (X := X) (C := C) (L := L) (o := o) (σ := σ) h
 unfold exOp
 simp only [XE.up]
 split
 ·split
  ·split
   ·exact good_chk F (good_putX F h)
   ·exact F.no
  ·exact hg
 ·split
  ·simp only [exIdx]
   split
   ·split
    ·exact good_lgetX F fun p => good_V F hV fun q => good_putX F h
    ·exact F.no
   ·exact F.no
  ·split
   ·split
    ·split
     ·exact good_chk F (good_putX F h)
     ·exact F.no
    ·exact F.no
   ·exact hg
  ·split
   ·split
    ·exact good_chk F (good_putX F h)
    ·exact F.no
   ·exact hg
  ·split
   ·refine good_chk F (good_lgetX F fun p => good_V F hV fun q => ?_)
    split
    ·exact good_putX F h
    ·exact F.no
   ·exact hg
  ·exact hg
 ·split
  ·split
   ·split
    ·split
     ·exact good_chk F (good_V F hV fun q => good_putX F h)
     ·split
      ·split
       ·exact good_nbrB F (fun p => good_putX F h) _ _
       ·exact F.no
      ·split
       ·exact good_ngetX F fun p => good_V F hV fun q => good_putX F h
       ·exact F.no
    ·exact F.no
   ·exact good_chk F (good_putX F h)
   ·exact F.no
  ·split
   ·exact good_chk F (good_putX F h)
   ·split
    ·split
     ·exact good_chk F (good_V F hV fun q => good_putX F h)
     ·exact F.no
    ·exact hg
   ·exact hg
 ·split
  ·split
   ·split
    ·split
     ·split
      ·exact good_chk F (h _)
      ·exact F.no
     ·split
      ·exact good_chk F (h _)
      ·exact F.no
    ·exact F.no
   ·exact F.no
  ·split
   ·split
    ·split
     ·split
      ·exact good_chk F (h _)
      ·exact F.no
     ·exact F.no
    ·exact F.no
   ·exact hg
 ·split
  ·split
   ·exact good_byteX F fun p => good_putX F h
   ·exact F.no
  ·split
   ·split
    ·refine good_chk F (good_arrB F (fun p => ?_) _ _)
     split
     ·exact good_putX F h
     ·exact F.no
    ·exact F.no
   ·exact hg
  ·exact hg
 ·split
  ·exact good_bsel F (good_putO F h) (good_putO F h)
  ·exact F.no
 ·split
  ·split
   ·split
    ·exact good_sliceL F h
    ·exact F.no
   ·exact F.no
  ·split
   ·exact good_sliceS F h
   ·exact F.no
  ·exact good_sliceH F h
  ·exact hg
 ·split
  ·split
   ·split
    ·exact good_chk F (good_putX F h)
    ·exact F.no
   ·exact F.no
  ·exact F.no
 ·exact good_make F h
 ·split
  ·exact good_look F hV h
  ·exact F.no
 ·split
  ·exact good_upd F h
  ·exact F.no
 ·split
  ·exact F.no
  ·split
   ·exact good_upd F h
   ·exact F.no
 ·exact good_next F h
 ·split
  ·split
   ·split
    ·exact good_chk F (good_putX F h)
    ·exact F.no
   ·exact hg
  ·exact hg
 ·split
  ·exact good_chk F (good_putX F h)
  ·exact hg
 ·split
  ·simp only [exDiv]; split
   ·exact good_chk F (good_putX F h)
   ·exact F.no
  ·simp only [exDiv]; split
   ·exact good_chk F (good_putX F h)
   ·exact F.no
  ·exact good_chk F (good_putX F h)
  ·exact good_chk F (good_putX F h)
  ·exact good_chk F (good_putX F h)
  ·simp only [exFn]; split
   ·exact good_fnX F fun b => good_putX F h
   ·exact F.no
  ·simp only [exFn]; split
   ·exact good_fnX F fun b => good_putX F h
   ·exact F.no
  ·exact hg
 ·split
  ·split
   ·exact good_clear F h
   ·exact F.no
  ·split
   ·simp only [exCopy]
    split
    ·split
     ·split
      ·exact good_chk F (good_putX F h)
      ·exact F.no
     ·exact F.no
    ·split
     ·split
      ·exact good_chk F (good_putX F h)
      ·exact F.no
     ·exact F.no
    ·exact F.no
   ·exact F.no
  ·split
   ·split
    ·exact good_chk F hg
    ·exact good_chk F hg
    ·simp only [exAppP]
     split
     ·split
      ·split
       ·exact good_chk F (good_putX F h)
       ·exact F.no
      ·exact F.no
     ·exact F.no
    ·exact good_chk F hg
    ·split
     ·exact good_chk F hg
     ·exact F.no
    ·exact F.no
   ·exact F.no
  ·exact hg
  ·exact F.no
 ·exact hg
include hW hC in
theorem good_exCall {draw : Bool} {o : Oper} {f : Operand} {args : List Operand} {K : ι → ASt → R} {σ : ASt} (h : ∀ σ, Good fun i => K i σ) : Good fun i => exCall (X.up (C i) (L i)) draw o f args (K i) σ := by
 have hH : ∀ {dst : Option Nat} {g : FuncId} {full : List PV} {ids : List Nat}, Good fun i => exCallH (X.up (C i) (L i)) dst g full ids (K i) σ := fun {dst g full ids} => by
  simp only [exCallH]
  split
  ·exact good_clH F hC fun r h' => good_W F hW fun p q => good_putX F h
  ·exact F.no
 unfold exCall
 simp only [XE.up] at hH ⊢
 have hP : ∀ {dst : Option Nat} {g : FuncId} {full : List PV} {ids : List Nat}, Good fun i => exCallP (X.up (C i) (L i)) dst g full ids (K i) σ := fun {dst g full ids} => by
  simp only [exCallP]
  split
  ·exact good_chk F (good_clH F hC fun r h' => good_W F hW fun p q => good_chk F (good_putX F h))
  ·exact F.no
 simp only [XE.up] at hP
 split
 ·split
  ·split
   ·exact hP
   ·first | exact hH | (split <;> first | exact hH | (simp only [exCallW]; exact good_clH F hC fun r h' => good_W F hW fun p q => good_putX F h))
  split
  ·refine good_clX F hC fun r => good_W F hW fun p q => ?_
   cases (!draw && inMv X.E.mu o.dst)
   ·cases PV.flat p
    ·exact F.no
    ·exact good_putX F h
   ·simp only [exThaw]
    split
    ·exact good_chk F (good_putX F h)
    ·exact good_bsel F (good_chk F (good_putX F h)) (good_putX F h)
    ·exact F.no
  ·cases draw
   ·cases inMv X.E.ln o.dst
    ·cases inMv X.E.sy o.dst
     ·exact hH
     ·simp only [exCallP]
      split
      ·exact good_chk F (good_clH F hC fun r h' => good_W F hW fun p q => good_chk F (good_putX F h))
      ·exact F.no
    ·simp only [exLend]
     refine good_chk F (good_clX F hC fun r => good_W F hW fun p q => ?_)
     cases PV.noref p
     ·exact F.no
     ·exact good_putX F h
   ·dsimp only
    split
    ·exact hH
    ·exact F.no
 ·exact F.no
include hV hW hC in
theorem good_ex1 {draw : Bool} {o : Oper} {K : ι → ASt → R} {σ : ASt} (h : ∀ σ, Good fun i => K i σ) : Good fun i => ex1 (X.up (C i) (L i)) draw o (K i) σ := by
 unfold ex1
 split
 ·simp only [XE.up]
  split
  ·simp only [exCallF]
   split
   ·refine good_fvX F fun g a b => good_chk F (good_clX F hC fun r => good_V F hV fun r' => ?_)
    split
    ·exact good_putX F h
    ·exact F.no
   ·exact F.no
  ·exact good_exCall F hW hC h
 ·cases draw
  ·simp only [XE.up]
   split
   ·exact good_nilX F fun b => good_putX F h
   ·exact good_exOp F hV h
  ·exact good_exOp F hV h
include hV hW hC in
theorem good_exOps {draw : Bool} {ops : Array Oper} : ∀ (l : List Oper) {K : ι → ASt → R} {σ : ASt}, (∀ σ, Good fun i => K i σ) → Good fun i => exOps (X.up (C i) (L i)) draw ops l (K i) σ
 | [], K, σ, h => h σ
 | o :: l, K, σ, h => by
  have ih : ∀ σ, Good fun i => exOps (X.up (C i) (L i)) draw ops l (K i) σ := fun σ => good_exOps l h
  have hp : ∀ {p : PV} {σ : ASt}, Good fun i => putX X.E o.dst p (exOps (X.up (C i) (L i)) draw ops l (K i)) σ := good_putX F ih
  have hgd : ∀ (d : Nat) (want v : Bool), Good fun i => exGd (X.up (C i) (L i)) draw o d want v (exOps (X.up (C i) (L i)) draw ops l (K i)) σ := fun d want v => by
   unfold exGd
   split
   ·exact good_ex1 F hV hW hC ih
   ·exact hp
  simp only [exOps]
  split
  ·exact good_ex1 F hV hW hC ih
  ·split
   ·exact hp
   ·split
    ·exact good_bsel F (hgd _ _ _) (hgd _ _ _)
    ·exact hp
    ·exact F.no
omit F in
theorem good_thenK {k : ι → ASt → R} {K : ι → AX → ASt → R} (h : ∀ σ, Good fun i => k i σ) (h' : ∀ e σ, Good fun i => K i e σ) (e : AX) (σ : ASt) : Good fun i => thenK (k i) (K i) e σ := by
 cases e
 ·exact h σ
 ·exact h' _ _
 ·exact h' _ _
omit F in
theorem good_blkK {id : Nat} {K : ι → AX → ASt → R} (h' : ∀ e σ, Good fun i => K i e σ) (e : AX) (σ : ASt) : Good fun i => blkK id (K i) e σ := by
 cases e with
 | normal => exact h' _ _
 | ret => exact h' _ _
 | exit j =>
  simp only [blkK]; split
  ·exact h' _ _
  ·exact h' _ _
theorem good_frzX {k : ι → ASt → R} (h : ∀ σ, Good fun i => k i σ) : ∀ (ks : List Nat) {σ : ASt}, Good fun i => frzX (k i) ks σ
 | [], σ => h σ
 | d :: ds, σ => by
  simp only [frzX]
  split
  ·split
   ·split
    ·exact good_chk F (good_frzX h ds)
    ·exact good_frzX h ds
   ·exact good_frzX h ds
  split
  ·split
   ·split
    ·split
     ·split
      ·exact good_chk F (good_frzX h ds)
      ·exact good_frzX h ds
     ·exact good_frzX h ds
    ·exact good_frzX h ds
   ·exact good_frzX h ds
  split
  ·split
   ·split
    ·split
     ·exact good_bsel F (good_frzX h ds) (good_frzX h ds)
     ·exact good_frzX h ds
    ·exact good_frzX h ds
   ·exact good_frzX h ds
  split
  ·split
   ·split
    ·exact good_chk F (good_frzX h ds)
    ·exact good_bsel F (good_frzX h ds) (good_frzX h ds)
   ·exact good_frzX h ds
  split
  ·split
   ·split
    ·exact good_chk F (good_frzX h ds)
    ·exact good_frzX h ds
   ·exact good_frzX h ds
  ·exact good_frzX h ds
include hV hW hC in
theorem good_exOrd {ops : Array Oper} {K : ι → ASt → R} (h : ∀ σ, Good fun i => K i σ) : ∀ (fuel : Nat) (B : Array Bool) (σ : ASt), Good fun i => exOrd (X.up (C i) (L i)) ops (K i) fuel B σ
 | 0, B, σ => by
  unfold exOrd
  cases Region.ready .any ops B with
  | nil => exact h σ
  | cons _ _ => exact F.no
 | fuel + 1, B, σ => by
  unfold exOrd
  cases Region.ready .any ops B with
  | nil => exact h σ
  | cons j js =>
   refine good_agAll F (f := fun i k => match ops[k]? with
    | none => none
    | some o => exOps (X.up (C i) (L i)) true ops [o] (exOrd (X.up (C i) (L i)) ops (K i) fuel (B.setIfInBounds k true)) σ) (fun k => ?_) (match frontO X.E ops B (j :: js) with | some j => [j] | none => j :: js)
   cases ops[k]? with
   | none => exact F.no
   | some o => exact good_exOps F hV hW hC [o] fun σ => good_exOrd h fuel _ σ
include F in
theorem good_mrK {E : AE} {c : MRc} {K : ι → AX → ASt → R} {σ : ASt} (h : ∀ e σ, Good fun i => K i e σ) : Good fun i => mrK E c (K i) σ := by
 unfold mrK
 split
 ·split
  ·split
   ·split
    ·split
     ·split
      ·unfold rngX
       split
       ·exact good_bsel F (h _ _) (h _ _)
       ·exact F.no
      ·exact F.no
     ·exact F.no
    ·exact F.no
   ·exact F.no
  ·exact F.no
 ·exact F.no
include F hV hW hC in
theorem good_mrX {c : MRc} {K : ι → AX → ASt → R} {σ : ASt} (h : ∀ e σ, Good fun i => K i e σ) : Good fun i => mrX (X.up (C i) (L i)) c (K i) σ := by
 show Good fun i => match c.q.all.all (fun k => Nat.blt k X.E.n) && !inI c.q.ds c.q.it with | true => exOps (X.up (C i) (L i)) false c.opsR [c.o1] (mrK X.E c (K i)) (σ.head X.E) | false => none
 split
 ·exact good_exOps F hV hW hC _ fun σ1 => good_mrK F h
 ·exact F.no
include hV hW hC hL in
theorem good_exK : ∀ (c : Code) {K : ι → AX → ASt → R} {σ : ASt}, (∀ e σ, Good fun i => K i e σ) → Good fun i => exK (X.up (C i) (L i)) c (K i) σ
 | .skip, K, σ, h => h _ _
 | .label _, K, σ, h => h _ _
 | .exit _, K, σ, h => h _ _
 | .ret, K, σ, h => h _ _
 | .region _ ops draw, K, σ, h => by
  simp only [exK]
  cases draw
  ·exact good_exOps F hV hW hC ops.toList (σ := σ.head X.E) fun σ => h .normal σ
  ·show Good fun i => match okD X.E ops with | true => exOps (X.up (C i) (L i)) true ops ops.toList (K i .normal) (σ.head X.E) | false => exAll (X.up (C i) (L i)) ops (K i .normal) (σ.head X.E)
   split
   ·exact good_exOps F hV hW hC ops.toList (σ := σ.head X.E) fun σ => h .normal σ
   ·exact good_exOrd F hV hW hC (fun σ => h .normal σ) _ _ _
 | .seq x y, K, σ, h => by
  simp only [exK]
  split
  ·exact good_mrX F hV hW hC h
  refine good_exK x fun e σ => good_thenK (fun σ => ?_) h e σ
  show Good fun i => joinX X.E X.m0 y (exK (X.up (C i) (L i)) y (K i)) σ
  have hj : ∀ σ, Good fun i => joinY X.E X.m0 y (exK (X.up (C i) (L i)) y (K i)) σ := fun σ => by
   unfold joinY
   split
   ·refine good_chk F ?_
    split
    ·exact good_exK y h
    ·exact F.no
   ·exact good_exK y h
  unfold joinX
  split
  ·exact good_frzX F hj _
  ·exact hj _
 | .cond c x y, K, σ, h => by
  simp only [exK]
  split
  ·split
   ·exact good_bsel F (good_exK x h) (good_exK y h)
   ·exact good_bsel F (good_exK x h) (good_exK y h)
  ·exact F.no
 | .block id x, K, σ, h => by simp only [exK]; exact good_exK x fun e σ => good_blkK h e σ
 | .scope x, K, σ, h => by simp only [exK]; exact good_exK x h
 | .loop x, K, σ, h => hL (loopP X.E X.m0 x σ).1 (loopP X.E X.m0 x σ).2 x K (σ.gc (loopP X.E X.m0 x σ).1 (loopP X.E X.m0 x σ).2) h
 | .rangeFunc _ _ _ _, K, σ, h => F.no
 | .goto _, K, σ, h => F.no
 | .refuse _, K, σ, h => F.no
end
end Go.Proofs.YtkkgfoknknehfaaDoor
namespace Go.Proofs.YtkkgfoknknehfaaDoor
set_option linter.unusedVariables false
set_option linter.unusedSimpArgs false
set_option linter.unnecessarySimpa false
set_option linter.unusedSectionVars false
open Go.RowKit
section
variable {X : XE} {K : ASt → R} {σ : ASt} {v : PV × Objs} {o : Oper} {ops : Array Oper}
theorem putX_sound {E : AE} {dst : Option Nat} {p : PV} (h : putX E dst p K σ = some v) : thenPut E dst p σ fun σ' => K σ' = some v := by
 grind [putX, thenPut]
theorem chk_some {b : Bool} {A : R} (h : chk b A = some v) : b = true ∧ A = some v := by
 cases b
 ·cases h
 ·exact ⟨rfl, h⟩
theorem stepK_of {E : AE} {p : PV} {σ1 : ASt} (h : stepV E o σ = some (p, σ1)) (hs : sideV E o σ) (hp : putX E o.dst p K σ1 = some v) : stepK E o (fun σ' => K σ' = some v) σ := by
 grind [stepK, putX_sound]
theorem exGen_sound (hs : sideV X.E o σ) (h : exGen X o K σ = some v) : stepK X.E o (fun σ' => K σ' = some v) σ := by
 grind [exGen, stepK_of]
theorem rd_bool {d : Nat} {b : Bool} (h : σ.rd (.tmp d) = some (.bool b)) : σ.lit d b = σ := by
 have : sget d σ.s = some (.bool b) := by
  simp only [ASt.rd, ASt.ev] at h
  cases hp : sget d σ.s with
  | none => rw [hp] at h; cases h
  | some p =>
   rw [hp] at h
   cases p <;> simp [PV.un] at h
   rw [h]
 unfold ASt.lit; rw [slit_eq this]
theorem viewOK_some {V : TypeId → PV → (PV → R) → R} (hV : viewOK V) {t : TypeId} {p : PV} {K : PV → R} (h : V t p K = some v) : K p = some v := by
 rcases hV t p with e | e
 simp_all
 simp_all
theorem outOK_some {W : FuncId → Objs → PV → Objs → (PV → Objs → R) → R} (hW : outOK W) {g : FuncId} {hh h' : Objs} {r : PV} {K : PV → Objs → R} (h : W g hh r h' K = some v) : K r h' = some v := by
 rcases hW g hh r h' with e | e
 simp_all
 simp_all
theorem lgetX_some {es : List PV} {n : Int} {K : PV → R} (h : lgetX es n K = some v) : 0 ≤ n ∧ ∃ e, es[n.toNat]? = some e ∧ K e = some v := by
 grind [lgetX]
theorem nbrB_some {n : Nat} {K : PV → R} : ∀ {cs : List PV} {k : Nat}, nbrB cs k n K = some v → ∃ e, (k ≤ n ∧ cs[n - k]? = some e) ∧ K e = some v
 | [], _, h => by cases h
 | p :: r, k, h => by
  rw [nbrB] at h
  cases hb : Nat.beq n k with
  | true =>
   rw [hb] at h
   have := Nat.eq_of_beq_eq_true hb
   exact ⟨p, ⟨by omega, by subst this; simp⟩, h⟩
  | false =>
   rw [hb] at h
   obtain ⟨e, ⟨h1, h2⟩, h3⟩ := nbrB_some h
   exact ⟨e, ⟨by omega, by rw [show n - k = (n - (k + 1)) + 1 by omega]; simpa using h2⟩, h3⟩
theorem ngetX_some {es : List PV} {n : Nat} {K : PV → R} (h : ngetX es n K = some v) : ∃ e, es[n]? = some e ∧ K e = some v := by
 grind [ngetX]
theorem nilX_some {es : List PV} {K : Bool → R} (h : nilX es K = some v) : K false = some v ∧ (es = [] → K true = some v) := by
 grind [nilX, eqR_some]
theorem fnX_some {p : PV} {K : Bool → R} (h : fnX p K = some v) : ∃ b, K b = some v ∧ ((b = false ∧ ∃ f a c, p = .func f a c) ∨ (b = true ∧ p = .raw .nilFunc)) := by
 unfold fnX at h
 grind
theorem fvX_some {p : PV} {K : FuncId → List PV → List PV → R} (h : fvX p K = some v) : ∃ g a c, p = .func (.func g) a c ∧ K g a c = some v := by
 unfold fvX at h
 grind
theorem arrB_some {n : Int} {K : PV → R} : ∀ {cs : List PV} {k : Nat}, arrB cs k n K = some v → ∃ j p, n = ((k + j : Nat) : Int) ∧ cs[j]? = some p ∧ K p = some v
 | [], _, h => by cases h
 | p :: r, k, h => by
  rw [arrB] at h
  cases hb : n == (k : Int) with
  | true => rw [hb] at h; exact ⟨0, p, by grind, rfl, h⟩
  | false =>
   rw [hb] at h
   obtain ⟨j, q, e1, e2, e3⟩ := arrB_some h
   exact ⟨j + 1, q, by omega, by grind, e3⟩
theorem fn_bin {t : TypeId} {p : PV} {P : Program} (ht : isFuncT P t = true) {b : Bool} (hp : (b = false ∧ ∃ f a c, p = .func f a c) ∨ (b = true ∧ p = .raw .nilFunc)) (pos : Bool) : binPV P (match pos with | true => .eql | false => .neq) t p (.raw .nilFunc) = some (.bool (b == pos)) := by
 rcases hp with ⟨rfl, f, a, c, rfl⟩ | ⟨rfl, rfl⟩ <;> cases pos <;> simp [ht]
theorem byteX_some {s : ByteArray} {n : Int} {K : Int → R} (h : byteX s n K = some v) : 0 ≤ n ∧ ∃ b, s[n.toNat]? = some b ∧ K b.toNat = some v := by
 grind [byteX]
theorem mapBr_some {s : Option IntKind} {q : PV} {A : PV → R} {B : R} {v : PV × Objs} : ∀ {L : List PV}, mapBr s L q A B = some v → (∃ p, mapGet s L q = some (some p) ∧ A p = some v) ∨ (mapGet s L q = some none ∧ B = some v)
 | k :: x :: L, h => by
  simp only [mapBr] at h
  split at h
  ·rename_i b hb
   cases b with
   | true => exact .inl ⟨x, by simp only [mapGet, hb], h⟩
   | false =>
    rcases mapBr_some h with ⟨p, h1, h2⟩ | ⟨h1, h2⟩
    ·exact .inl ⟨p, by simp only [mapGet, hb]; exact h1, h2⟩
    ·exact .inr ⟨by simp only [mapGet, hb]; exact h1, h2⟩
  ·cases h
 | [], h => .inr ⟨rfl, h⟩
 | [_], h => by cases h
theorem side_no (hc : ∀ c, o.op ≠ .call c) (E : AE) : sideV E o σ := by
 simp
theorem sliceL_sound {t : TypeId} {dst : Option Nat} {sz : Nat} {es : List PV} {ow : Bool} {lo hi : Option Operand} {x : Operand} {I : TI} (ht : elemTI X.E.P t = some I) (hI : I.size = sz) (hx : σ.rd x = some (.sl ow sz es)) (h : exSliceL X dst sz es lo hi K σ = some v) :
 ∃ p, pop X.E.P σ.rd (.slice t x lo hi none) = some p ∧ putX X.E dst p K σ = some v := by
 have hsz : (elemTI X.E.P t).map TI.size = some sz := by rw [ht]; simp [hI]
 cases lo with
 | none =>
  cases hi with
  | none => exact ⟨_, by simp only [pop, hx, slicePV]; rw [if_pos ⟨hsz, by omega, by omega, by omega⟩]; simp, h⟩
  | some b =>
   grind [exSliceL, chk_some, pop, slicePV]
 | some a =>
  cases hi with
  | none =>
   simp only [exSliceL] at h
   split at h
   ·rename_i k n hb
    obtain ⟨h1, h2⟩ := chk_some h
    simp only [Bool.and_eq_true, decide_eq_true_eq] at h1
    exact ⟨_, by simp only [pop, hx, hb, Option.bind_some, slicePV]; rw [if_pos ⟨hsz, by omega, by omega, by omega⟩]; simp, h2⟩
   ·cases h
  | some b =>
   grind [exSliceL, chk_some, pop, slicePV]
theorem sliceS_sound {t : TypeId} {dst : Option Nat} {s : ByteArray} {lo hi : Option Operand} {x : Operand} (ht : isStrT X.E.P t = true) (hx : σ.rd x = some (.str s)) (h : exSliceS X dst s lo hi K σ = some v) :
 ∃ p, pop X.E.P σ.rd (.slice t x lo hi none) = some p ∧ putX X.E dst p K σ = some v := by
 cases lo with
 | none =>
  grind [pop, slicePV, exSliceS, chk_some]
 | some a =>
  cases hi with
  | none =>
   grind [exSliceS, chk_some, pop, slicePV]
  | some b =>
   grind [exSliceS, chk_some, pop, slicePV]
theorem sliceH_sound {t : TypeId} {dst : Option Nat} {i off n sz : Nat} {lo hi : Option Operand} {x : Operand} (hx : σ.rd x = some (.slh i off n sz)) (h : exSliceH X dst t i off n sz lo hi K σ = some v) :
 ∃ p, pop X.E.P σ.rd (.slice t x lo hi none) = some p ∧ putX X.E dst p K σ = some v := by
 unfold exSliceH at h
 split at h
 ·rename_i I hT
  split at h
  ·rename_i hz
   simp only [Bool.and_eq_true, Nat.blt_eq] at hz
   have hsz := Nat.eq_of_beq_eq_true hz.1
   have hm : (elemTI X.E.P t).map TI.size = some sz := by rw [hT]; simp [hsz]
   split at h
   grind [chk_some, pop, slicePV]
   ·split at h
    ·rename_i k a ha
     obtain ⟨h1, h2⟩ := chk_some h
     simp only [Bool.and_eq_true, decide_eq_true_eq] at h1
     simp only [pop, hx, ha, Option.bind_some, slicePV]
     rw [if_pos ⟨hm, h1.1, h1.2, Int.le_refl _, hz.2⟩]
     by_cases hl : a < (n : Int)
     ·rw [decide_eq_true hl] at h2
      exact ⟨_, by rw [if_pos hl]; simp, h2⟩
     ·rw [decide_eq_false hl] at h2
      exact ⟨_, by rw [if_neg hl], h2⟩
    ·cases h
   ·cases h
  ·cases h
 ·cases h
theorem arrOne_spec {P : Program} {t : TypeId} {m : Nat} {e : TypeId} (h : arrOne P t = some (m, e)) : ∃ I, arrTI P t = some (m, I) ∧ I.size = 1 ∧ I.agg = false := by
 unfold arrOne at h
 grind [arrTI, Nat.eq_of_beq_eq_true]
theorem exOp_sound (hV : viewOK X.V) (hc : isCall o = none) (h : exOp X o K σ = some v) : stepK X.E o (fun σ' => K σ' = some v) σ := by
 obtain ⟨dst, op, ty, pos, af, g⟩ := o
 unfold exOp at h
 simp only at h
 split at h
 ·rename_i s d x
  have hs : sideV X.E ⟨dst, .convert s d x, ty, pos, af, g⟩ σ := trivial
  split at h
  ·rename_i ow sz es hx
   split at h
   ·rename_i ht
    simp only [Bool.and_eq_true] at ht
    obtain ⟨h1, h2⟩ := chk_some h
    exact stepK_of (by grind [stepV, pop, convPV]) hs h2
   ·cases h
  ·exact exGen_sound hs h
 ·rename_i t x i
  have hs : sideV X.E ⟨dst, .indexAddr t x i, ty, pos, af, g⟩ σ := trivial
  split at h
  ·rename_i ow sz es k n hx hi
   unfold exIdx at h
   split at h
   ·rename_i e I h1 h2
    split at h
    ·rename_i hI
     obtain ⟨hn, p, hp, h⟩ := lgetX_some h
     have h := viewOK_some hV h
     exact stepK_of (by grind [stepV, pop]) hs h
    ·cases h
   ·cases h
  ·rename_i i0 off m sz k n hx hi
   split at h
   ·split at h
    ·rename_i I hI
     split at h
     ·rename_i hz
      rw [offX_eq] at h
      obtain ⟨h1, h2⟩ := chk_some h
      simp only [Bool.and_eq_true, decide_eq_true_eq] at h1
      exact stepK_of (p := .ptr i0 (off + n.toNat * sz)) (by grind [stepV, pop, Nat.eq_of_beq_eq_true]) hs h2
     ·cases h
    ·cases h
   ·exact exGen_sound hs h
  ·rename_i i0 off k n hx hi
   split at h
   ·split at h
    ·rename_i m I hI
     obtain ⟨h1, h2⟩ := chk_some h
     simp only [Bool.and_eq_true, decide_eq_true_eq] at h1
     exact stepK_of (p := .ptr i0 (off + n.toNat * I.size)) (by grind [stepV, pop]) hs h2
    ·cases h
   ·exact exGen_sound hs h
  ·rename_i cs k n hx hi
   split at h
   ·rename_i m e ht
    obtain ⟨h1, h2⟩ := chk_some h
    obtain ⟨hn, p, hp, h⟩ := lgetX_some h2
    have h := viewOK_some hV h
    obtain ⟨I, hI, hsz, hag⟩ := arrOne_spec ht
    split at h
    ·rename_i ho
     refine stepK_of (p := .cst p.un) (by
      simp only [stepV, pop, hx, hi, hI]
      rw [if_pos ⟨hn, by grind⟩]
      simp_all) hs h
    ·cases h
   ·exact exGen_sound hs h
  ·exact exGen_sound hs h
 ·rename_i t a
  have hs : sideV X.E ⟨dst, .load t a, ty, pos, af, g⟩ σ := trivial
  split at h
  ·rename_i hsy
   have hln : inMv X.E.ln dst = false := by
    simp_all
   split at h
   ·rename_i I i0 off hI ha
    split at h
    ·rename_i cs hcs
     split at h
     ·rename_i hag
      obtain ⟨h1, h2⟩ := chk_some h
      have h := viewOK_some hV h2
      exact stepK_of (σ1 := σ) (by grind [stepV, loadV]) hs h
     ·rename_i hag
      split at h
      ·split at h
       ·rename_i hc
        simp only [Bool.not_eq_true'] at hc
        obtain ⟨q, hq, h⟩ := nbrB_some h
        have hq := hq.2
        rw [Nat.sub_zero] at hq
        exact stepK_of (p := q.un) (σ1 := σ) (by grind [stepV, loadV]) hs h
       ·cases h
      split at h
      ·rename_i hc
       simp only [Bool.not_eq_true'] at hc
       obtain ⟨q, hq, h⟩ := ngetX_some h
       have h := viewOK_some hV h
       exact stepK_of (p := q.un) (σ1 := σ) (by grind [stepV, loadV]) hs h
      ·cases h
    ·cases h
   ·rename_i I e hI ha
    obtain ⟨h1, h2⟩ := chk_some h
    simp only [Bool.and_eq_true, decide_eq_true_eq] at h1
    refine stepK_of (p := e.un) (σ1 := σ) ?_ hs h2
    grind [stepV, okLd, loadV]
   ·cases h
  ·split at h
   ·rename_i e I ha hI
    obtain ⟨h1, h2⟩ := chk_some h
    simp only [Bool.and_eq_true, decide_eq_true_eq] at h1
    refine stepK_of (p := e.un) (σ1 := σ) ?_ hs h2
    grind [stepV, okLd, loadV]
   ·split at h
    ·rename_i hc
     simp only [Bool.and_eq_true] at hc
     split at h
     ·obtain ⟨h1, h2⟩ := chk_some h
      have h := viewOK_some hV h2
      exact stepK_of (σ1 := σ) (by grind [stepV, okLd, loadV]) hs h
     ·cases h
    ·exact exGen_sound hs h
   ·exact exGen_sound hs h
 ·rename_i t a x
  have hs : sideV X.E ⟨dst, .store t a x, ty, pos, af, g⟩ σ := trivial
  split at h
  ·rename_i hsy
   have hso : ∀ r, stOK X.E.mu X.E.ln (opT a) r = true := fun r => by
    simp only [Bool.and_eq_true, Bool.not_eq_true'] at hsy
    unfold stOK
    rw [hsy.2]
   split at h
   ·rename_i I i0 off q hI ha hx
    split at h
    ·rename_i cs hcs
     have hcl : (σ.clr x).h = σ.h := by cases x <;> simp only [ASt.clr] <;> split <;> rfl
     split at h
     ·rename_i ds
      split at h
      ·rename_i hc
       simp only [Bool.and_eq_true] at hc
       obtain ⟨h1, h2⟩ := chk_some h
       have hsv : storeV I (.ptr i0 off) (.agg ds) (σ.clr x) = some { σ.clr x with h := (σ.clr x).h.set i0 (some (cs.take off ++ ds.map PV.un ++ cs.drop (off + I.size))) } := by
        simp_all
       exact stepK_of (p := .tuple []) (σ1 := { σ.clr x with h := (σ.clr x).h.set i0 (some (cs.take off ++ ds.map PV.un ++ cs.drop (off + I.size))) }) (by grind [stepV]) hs (by grind [putX, ASt.put])
      ·cases h
     ·rename_i q' hna
      split at h
      ·rename_i hc
       simp only [Bool.and_eq_true] at hc
       obtain ⟨h1, h2⟩ := chk_some h
       have hsv : storeV I (.ptr i0 off) q (σ.clr x) = some { σ.clr x with h := (σ.clr x).h.set i0 (some (cs.set off q)) } := by
        simp_all
       exact stepK_of (p := .tuple []) (σ1 := { σ.clr x with h := (σ.clr x).h.set i0 (some (cs.set off q)) }) (by grind [stepV]) hs (by grind [putX, ASt.put])
      ·cases h
    ·cases h
   ·cases h
  ·split at h
   ·rename_i ds hx
    split at h
    ·rename_i I i0 off hI ha
     split at h
     ·rename_i cs hcs
      split at h
      ·rename_i hc
       simp only [Bool.and_eq_true, Nat.ble_eq] at hc
       obtain ⟨hso, hc1, hc2⟩ := hc
       obtain ⟨h1, h2⟩ := chk_some h
       have hcl : (σ.clr x).h = σ.h := by cases x <;> simp only [ASt.clr] <;> split <;> rfl
       have hsv : storeV I (.ptr i0 off) (.agg ds) (σ.clr x) = some { σ.clr x with h := (σ.clr x).h.set i0 (some (cs.take off ++ ds.map PV.un ++ cs.drop (off + I.size))) } := by
        simp_all
       exact stepK_of (p := .tuple []) (σ1 := { σ.clr x with h := (σ.clr x).h.set i0 (some (cs.take off ++ ds.map PV.un ++ cs.drop (off + I.size))) }) (by grind [stepV]) hs (by grind [putX, ASt.put])
      ·cases h
     ·cases h
    ·cases h
   ·exact exGen_sound hs h
 ·rename_i t x i
  have hs : sideV X.E ⟨dst, .index t x i, ty, pos, af, g⟩ σ := trivial
  split at h
  ·rename_i s k n hx hi
   split at h
   ·rename_i ht
    obtain ⟨hn, b, hb, h⟩ := byteX_some h
    exact stepK_of (by grind [stepV, pop]) hs h
   ·cases h
  ·rename_i cs k n hx hi
   split at h
   ·split at h
    ·rename_i m e hm
     obtain ⟨c1, h⟩ := chk_some h
     simp only [Bool.and_eq_true, decide_eq_true_eq] at c1
     obtain ⟨I, h1, h2, h3⟩ := arrOne_spec hm
     obtain ⟨j, p, e1, e2, h⟩ := arrB_some h
     split at h
     ·rename_i ho
      have ej : n.toNat = j := by omega
      exact stepK_of (p := p.un) (σ1 := σ) (by grind [stepV, pop, subVal]) hs h
     ·cases h
    ·cases h
   ·exact exGen_sound hs h
  ·exact exGen_sound hs h
 ·rename_i c a b
  have hs : sideV X.E ⟨dst, .pick c a b, ty, pos, af, g⟩ σ := trivial
  split at h
  ·rename_i w hw
   cases w with
   | true =>
    have h : putO X.E dst (σ.rd a) K σ = some v := h
    cases ha : σ.rd a with
    | none => rw [ha] at h; cases h
    | some p =>
     rw [ha] at h
     exact stepK_of (by grind [stepV, pop]) hs h
   | false =>
    have h : putO X.E dst (σ.rd b) K σ = some v := h
    cases ha : σ.rd b with
    | none => rw [ha] at h; cases h
    | some p =>
     rw [ha] at h
     exact stepK_of (by grind [stepV, pop]) hs h
  ·cases h
 ·rename_i t x lo hi
  have hs : sideV X.E ⟨dst, .slice t x lo hi none, ty, pos, af, g⟩ σ := trivial
  split at h
  ·rename_i ow sz es hx
   split at h
   ·rename_i I hI
    split at h
    ·rename_i hz
     obtain ⟨p, h1, h2⟩ := sliceL_sound hI hz hx h
     exact stepK_of (by grind [stepV]) hs h2
    ·cases h
   ·cases h
  ·rename_i s hx
   split at h
   ·rename_i ht
    obtain ⟨p, h1, h2⟩ := sliceS_sound ht hx h
    exact stepK_of (by grind [stepV]) hs h2
   ·cases h
  ·rename_i i0 off m sz hx
   obtain ⟨p, h1, h2⟩ := sliceH_sound hx h
   exact stepK_of (by grind [stepV]) hs h2
  ·exact exGen_sound hs h
 ·rename_i t x l u m
  have hs : sideV X.E ⟨dst, .slice t x (some l) (some u) (some m), ty, pos, af, g⟩ σ := trivial
  split at h
  ·rename_i ow sz es k1 a k2 b k3 c hx hl hu hm
   split at h
   ·rename_i I hI
    split at h
    ·rename_i hz
     obtain ⟨h1, h2⟩ := chk_some h
     simp only [Bool.and_eq_true, decide_eq_true_eq] at h1
     obtain ⟨⟨⟨b1, b2⟩, b3⟩, b4⟩ := h1
     exact stepK_of (σ1 := σ) (by grind [stepV, pop, slice3PV, Nat.eq_of_beq_eq_true]) hs h2
    ·cases h
   ·cases h
  ·cases h
 ·rename_i t l c
  have hs : sideV X.E ⟨dst, .makeSlice t l c, ty, pos, af, g⟩ σ := trivial
  unfold exMake at h
  split at h
  ·rename_i I k n k' n' hT hl hc
   split at h
   ·rename_i hz
    simp only [Bool.and_eq_true, Nat.blt_eq, Nat.ble_eq] at hz
    split at h
    ·rename_i hp
     split at h
     ·rename_i hlit
      obtain ⟨h1, h2⟩ := chk_some h
      simp only [Bool.and_eq_true, decide_eq_true_eq] at h1
      have hcond : 0 ≤ n ∧ n ≤ n' ∧ n' ≤ 1073741824 ∧ 0 < I.size ∧ I.bytes ≤ 1024 ∧ I.zero.all PV.lit = true := ⟨h1.1.1, h1.1.2, h1.2, hz.1, hz.2, hlit⟩
      exact stepK_of (σ1 := σ) (by simp only [stepV, hT, hl, hc, hp]; rw [if_pos hcond]) hs h2
     ·cases h
    ·rename_i hp
     obtain ⟨h1, h2⟩ := chk_some h
     simp only [Bool.and_eq_true, decide_eq_true_eq] at h1
     have hcond : n = n' ∧ 0 ≤ n ∧ n ≤ 1073741824 ∧ 0 < I.size ∧ I.bytes ≤ 1024 := ⟨h1.1.1, h1.1.2, h1.2, hz.1, hz.2⟩
     split at h2
     ·rename_i hm
      exact stepK_of (σ1 := ⟨σ.s, σ.h ++ [some (zeroCs n.toNat I)]⟩) (by grind [stepV]) hs h2
     ·rename_i hm
      split at h2
      ·rename_i hze
       simp only [Bool.and_eq_true] at hze
       exact stepK_of (σ1 := σ) (by grind [stepV, Nat.eq_of_beq_eq_true]) hs h2
      ·cases h2
   ·cases h
  ·cases h
 ·rename_i t m k ok
  have hs : sideV X.E ⟨dst, .lookup t m k ok, ty, pos, af, g⟩ σ := trivial
  split at h
  ·rename_i pm q hm hq
   unfold exLook at h
   split at h
   ·rename_i s z i ht
    split at h
    ·rename_i cs hcs
     split at h
     ·rename_i b L hin
      split at h
      ·rename_i hik
       split at h
       ·rcases mapBr_some h with ⟨p, hg, h⟩ | ⟨hg, h⟩
        ·exact stepK_of (σ1 := σ) (p := lookR ok z (some p)) (by grind [stepV]) hs h
        ·exact stepK_of (σ1 := σ) (p := lookR ok z none) (by grind [stepV]) hs h
       ·unfold mapX at h
        split at h
        ·rename_i p hg
         have h := viewOK_some hV h
         exact stepK_of (σ1 := σ) (p := lookR ok z (some p)) (by grind [stepV]) hs h
        ·rename_i hg
         exact stepK_of (σ1 := σ) (p := lookR ok z none) (by grind [stepV]) hs h
        ·cases h
      ·cases h
     ·cases h
    ·cases h
   ·cases h
  ·cases h
 ·rename_i t m k x
  have hs : sideV X.E ⟨dst, .mapUpdate t m k x, ty, pos, af, g⟩ σ := trivial
  split at h
  ·rename_i pm q y hm hq hy
   unfold exUpd at h
   split at h
   ·rename_i s z i ht
    split at h
    ·rename_i cs hcs
     split at h
     ·rename_i b L hin
      split at h
      ·rename_i hik
       obtain ⟨h1, h2⟩ := chk_some h
       exact stepK_of (p := .tuple []) (σ1 := { σ with h := σ.h.set i (some [mapC b (mapPut s L q y)]) }) (by grind [stepV]) hs (by grind [putX, ASt.put])
      ·cases h
     ·cases h
    ·cases h
   ·cases h
  ·cases h
 ·rename_i t m k x
  have hs : sideV X.E ⟨dst, .insert t m k x, ty, pos, af, g⟩ σ := trivial
  split at h
  ·cases h
  rename_i hso
  split at h
  ·rename_i pm q y hm hq hy
   unfold exUpd at h
   split at h
   ·rename_i s z i ht
    split at h
    ·rename_i cs hcs
     split at h
     ·rename_i b L hin
      split at h
      ·rename_i hik
       obtain ⟨h1, h2⟩ := chk_some h
       exact stepK_of (p := .tuple []) (σ1 := { σ with h := σ.h.set i (some [mapC b (mapPut s L q y)]) }) (by rw [hm] at hso; grind [stepV]) hs (by grind [putX, ASt.put])
      ·cases h
     ·cases h
    ·cases h
   ·cases h
  ·cases h
 ·rename_i x b
  have hs : sideV X.E ⟨dst, .next x b, ty, pos, af, g⟩ σ := trivial
  unfold exNext at h
  split at h
  ·rename_i T i hx
   split at h
   ·rename_i cs hcs
    split at h
    ·rename_i s p hin
     split at h
     ·rename_i hT
      obtain ⟨h1, h2⟩ := chk_some h
      cases hp : decide (p < (s.size : Int)) with
      | true =>
       rw [hp] at h2
       exact stepK_of (p := .tuple [.bool true, .int .i64 p, .int .i32 (iterRn s p)]) (σ1 := { σ with h := σ.h.set i (some [iterC s (iterNx s p)]) }) (by grind [stepV]) hs h2
      | false =>
       rw [hp] at h2
       exact stepK_of (p := .tuple [.bool false]) (σ1 := σ) (by grind [stepV]) hs h2
     ·cases h
    ·cases h
   ·cases h
  ·cases h
 ·rename_i s x f
  have hs : sideV X.E ⟨dst, .fieldAddr s x f, ty, pos, af, g⟩ σ := trivial
  split at h
  ·rename_i cs fs hx hfs
   split at h
   ·rename_i off z hf
    split at h
    ·rename_i p hz hp
     obtain ⟨h1, h2⟩ := chk_some h
     have hz : z ≠ 0 := fun e => by simp_all
     exact stepK_of (p := .cst p.un) (σ1 := σ) (by simp only [stepV, pop, hfs, hx, hf, Option.bind_some, if_neg hz, subAddr, subVal, hp, h1, if_true, Bool.false_eq_true, if_false, Option.map_some]) hs h2
    ·cases h
   ·exact exGen_sound hs h
  ·exact exGen_sound hs h
 ·rename_i t x
  have hs : sideV X.E ⟨dst, .box t x, ty, pos, af, g⟩ σ := trivial
  split at h
  ·rename_i ds hf hx
   obtain ⟨h1, h2⟩ := chk_some h
   rw [Bool.and_eq_true] at h1
   exact stepK_of (p := .cst (.agg (ds.map PV.un))) (σ1 := σ) (by simp only [stepV, hf, hx, Option.bind_some, if_true]; rw [show frzPV (.agg ds) = some (.agg (ds.map PV.un)) by grind [frzPV, PV.newCells, PV.flat]]; rfl) hs h2
  ·exact exGen_sound hs h
 ·rename_i bop t x y t'
  have hs : sideV X.E ⟨dst, .binOp bop t x y t', ty, pos, af, g⟩ σ := trivial
  split at h
  ·rename_i k a k' b hx hy
   unfold exDiv at h
   split at h
   ·rename_i e
    obtain ⟨h1, h2⟩ := chk_some h
    have h1 : b ≠ 0 := by grind
    exact stepK_of (by grind [stepV, pop, binPV, intBin]) hs h2
   ·cases h
  ·rename_i k a k' b hx hy
   unfold exDiv at h
   split at h
   ·rename_i e
    obtain ⟨h1, h2⟩ := chk_some h
    have h1 : b ≠ 0 := by grind
    exact stepK_of (by grind [stepV, pop, binPV, intBin]) hs h2
   ·cases h
  ·rename_i k a k' b hx hy
   obtain ⟨h1, h2⟩ := chk_some h
   have h1 : ¬ b < 0 := by grind
   exact stepK_of (by grind [stepV, pop, binPV, shiftBin]) hs h2
  ·rename_i k a k' b hx hy
   obtain ⟨h1, h2⟩ := chk_some h
   have h1 : ¬ b < 0 := by grind
   exact stepK_of (by grind [stepV, pop, binPV, shiftBin]) hs h2
  ·rename_i a b hx hy
   obtain ⟨h1, h2⟩ := chk_some h
   have h1 := of_decide_eq_true h1
   exact stepK_of (by grind [stepV, pop, binPV, strBin]) hs h2
  ·rename_i p hx hy
   unfold exFn at h
   split at h
   ·rename_i ht
    obtain ⟨b, h1, h2⟩ := fnX_some h
    exact stepK_of (σ1 := σ) (by simp only [stepV, pop, hx, hy]; rw [fn_bin ht h2 true]; rfl) hs h1
   ·cases h
  ·rename_i p hx hy
   unfold exFn at h
   split at h
   ·rename_i ht
    obtain ⟨b, h1, h2⟩ := fnX_some h
    exact stepK_of (σ1 := σ) (by simp only [stepV, pop, hx, hy]; rw [fn_bin ht h2 false]; rfl) hs h1
   ·cases h
  ·exact exGen_sound hs h
 ·rename_i c
  split at h
  ·rename_i hca
   split at h
   ·rename_i x t h1 h2
    have hs : sideV X.E ⟨dst, .call c, ty, pos, af, g⟩ σ := by simp_all
    unfold exClear at h
    split at h
    ·rename_i I i0 off m sz hT hx
     split at h
     ·rename_i cs hcs
      split at h
      ·rename_i hz
       obtain ⟨c1, c2⟩ := chk_some h
       exact stepK_of (p := .tuple []) (σ1 := { σ with h := σ.h.set i0 (some (cs.take off ++ (zeroCs m I).map PV.un ++ cs.drop (off + m * sz))) }) (by grind [stepV, Nat.eq_of_beq_eq_true]) hs (by grind [putX, ASt.put])
      ·cases h
     ·cases h
    ·rename_i I o' z' hT hx
     exact stepK_of (p := .tuple []) (σ1 := σ) (by grind [stepV]) hs (by grind [putX, ASt.put])
    ·cases h
   ·cases h
  ·rename_i hca
   split at h
   ·rename_i x y t u h1 h2
    have hs : sideV X.E ⟨dst, .call c, ty, pos, af, g⟩ σ := by simp_all
    unfold exCopy at h
    split at h
    ·rename_i I i0 off n sz o' sz' es hT hx hy
     split at h
     ·rename_i cs hcs
      split at h
      ·rename_i hz
       simp only [Bool.and_eq_true, Nat.blt_eq] at hz
       obtain ⟨z1, z2, z3⟩ := hz
       obtain ⟨c1, c2⟩ := chk_some h
       exact stepK_of (p := .int .i64 ((Nat.min es.length n : Nat) : Int)) (σ1 := { σ with h := σ.h.set i0 (some (cs.take off ++ (flatPV es).take (Nat.min es.length n * sz) ++ cs.drop (off + Nat.min es.length n * sz))) }) (by grind [stepV, copySrc, Nat.eq_of_beq_eq_true]) hs c2
      ·cases h
     ·cases h
    ·rename_i I i0 off n sz j0 off2 m sz' hT hx hy
     split at h
     ·rename_i cs cs2 hcs hcs2
      split at h
      ·rename_i hz
       simp only [Bool.and_eq_true, Nat.blt_eq] at hz
       obtain ⟨z1, z2, z3⟩ := hz
       have z3 := Nat.eq_of_beq_eq_true z3
       subst z3
       obtain ⟨c1, c2⟩ := chk_some h
       simp only [Bool.and_eq_true, decide_eq_true_eq] at c1
       exact stepK_of (p := .int .i64 ((Nat.min m n : Nat) : Int)) (σ1 := { σ with h := σ.h.set i0 (some (cs.take off ++ (((cs2.drop off2).take (m * sz')).map PV.un).take (Nat.min m n * sz') ++ cs.drop (off + Nat.min m n * sz'))) }) (by
        grind [copySrc, stepV, Nat.eq_of_beq_eq_true]) hs c2
      ·cases h
     ·cases h
    ·cases h
   ·cases h
  ·rename_i hca
   split at h
   ·rename_i s x hxs
    split at h
    grind [chk_some, exGen_sound, sideV]
    grind [chk_some, exGen_sound, sideV]
    ·rename_i n1 z1 cs o2 z2 es' he hx
     unfold exAppP at h
     split at h
     ·rename_i t u hts
      split at h
      ·rename_i I hT
       split at h
       ·rename_i hc
        simp only [Bool.and_eq_true, Bool.or_eq_true, Nat.blt_eq, Nat.ble_eq] at hc
        obtain ⟨c1, c2, c3, c4, c5⟩ := hc
        obtain ⟨h1, h2⟩ := chk_some h
        simp only [Bool.and_eq_true] at h1
        have c1 := Nat.eq_of_beq_eq_true c1
        have c4 := Nat.eq_of_beq_eq_true c4
        have c5 : z2 = I.size ∨ z2 = 0 := c5.imp (fun e => Nat.eq_of_beq_eq_true e) fun e => Nat.eq_of_beq_eq_true e
        subst c1; subst c4
        exact stepK_of (σ1 := σ.clr s) (by grind [stepV]) (by grind [sideV]) h2
       ·cases h
      ·cases h
     ·cases h
    grind [chk_some, exGen_sound, sideV]
    grind [chk_some, exGen_sound, sideV]
    ·cases h
   ·cases h
  grind [exGen_sound, sideV]
  ·cases h
 grind [exGen_sound, side_no]
def calOK (P : Program) (C : Cal) : Prop := ∀ g args h r h', C g args h = some (r, h') → Ev P g args h r h'
theorem argT_reps {M : Mem} {B : Blk} {P : Program} : ∀ {ts : List TypeId} {ps : List PV} {vs : List Value}, Reps M B ps vs → Reps M B (argT P ts ps) vs
 | [], ps, vs, h => by cases ps <;> exact h
 | t :: ts, [], vs, h => h
 | t :: ts, p :: ps, vs, h => by
  obtain ⟨u, us, rfl, h1, h2⟩ := reps_cons.1 h
  exact reps_cons.2 ⟨u, us, rfl, by unfold rszA; split <;> first | exact h1 | exact rep_reszT _ h1, argT_reps h2⟩
theorem reps_split {M : Mem} {B : Blk} : ∀ {ps qs : List PV} {vs : List Value}, Reps M B (ps ++ qs) vs → ∃ us ws, vs = us ++ ws ∧ Reps M B ps us ∧ Reps M B qs ws
 | [], qs, vs, h => ⟨[], vs, rfl, reps_nil.2 rfl, h⟩
 | p :: ps, qs, vs, h => by
  obtain ⟨u, us, rfl, h1, h2⟩ := reps_cons.1 h
  obtain ⟨a, b, rfl, h3, h4⟩ := reps_split h2
  exact ⟨u :: a, b, rfl, reps_cons.2 ⟨u, a, rfl, h1, h3⟩, h4⟩
theorem EvG.args {P : Program} {cp : CP} {g : FuncId} {as as' : List PV} {h : Objs} {r : PV} {h' : Objs} (k : EvG P cp g as' h r h') (hr : ∀ (M : Mem) (B : Blk) (vs : List Value), Reps M B as vs → Reps M B as' vs) : EvG P cp g as h r h' :=
 ⟨k.1, fun out M B w vals h1 h2 h3 h4 h5 => k.2 out M B w vals h1 h2 h3 h4 (hr _ _ _ h5)⟩
theorem Ev.args {P : Program} {g : FuncId} {as as' : List PV} {h : Objs} {r : PV} {h' : Objs} (k : Ev P g as' h r h') (hr : ∀ (M : Mem) (B : Blk) (vs : List Value), Reps M B as vs → Reps M B as' vs) : Ev P g as h r h' := EvG.args k hr
theorem argT_flat {P : Program} : ∀ {ts : List TypeId} {ps : List PV}, PV.flats (argT P ts ps) = PV.flats ps
 | [], ps => by cases ps <;> rfl
 | t :: ts, [] => rfl
 | t :: ts, p :: ps => by
  have h1 : ∀ z (p : PV), (p.resz z).flat = p.flat := fun z p => by
   cases p with
   | sl o s es =>
    rw [PV.resz]
    split
    ·unfold nilP; split <;> rfl
    ·rfl
   | _ => rfl
  have h2 : ∀ zs (cs : List PV), PV.flats (reszC zs cs) = PV.flats cs := by
   intro zs
   induction zs with
   | nil => intro cs; cases cs <;> rfl
   | cons z zs ih =>
    intro cs
    cases cs with
    | nil => rfl
    | cons c cs => rw [reszC, PV.flats, PV.flats, h1, ih]
  have h3 : (p.reszT (cellSz P 8 t)).flat = p.flat := by
   cases p with
   | agg cs => simp only [PV.reszT, PV.flat, h2]
   | _ => simp only [PV.reszT, h1]
  have h4 : (rszA (cellSz P 8 t) p).flat = p.flat := by unfold rszA; split <;> first | rfl | exact h3
  rw [argT, PV.flats, PV.flats, h4, argT_flat]
theorem flats_app : ∀ {a b : List PV}, PV.flats (a ++ b) = (PV.flats a && PV.flats b)
 | [], b => by rfl
 | p :: a, b => by simp [flats_app, Bool.and_assoc]
theorem exCallH_someG {cp : CP} (hcm : CPmono cp) (hW : outOK X.W) (hC : ∀ g args h r h', X.C g args h = some (r, h') → EvG X.E.P cp g args h r h') {dst : Option Nat} {g : FuncId} {full full' : List PV} {ids : List Nat} (hconv : ∀ (M : Mem) (B : Blk) (vs : List Value), Reps M B full' vs → Reps M B full vs) (h : exCallH X dst g full ids K σ = some v) :
 ∃ r h', EvG X.E.P cp g full' σ.h r (bigH ids σ.h h') ∧ thenPut X.E dst r { σ with h := bigH ids σ.h h' } (fun σ' => K σ' = some v) := by
 simp only [exCallH] at h
 split at h
 ·rename_i hok
  unfold clH at h
  split at h
  ·rename_i r h' hr
   have h := outOK_some hW h
   simp only [subOK, Bool.and_eq_true] at hok
   obtain ⟨k1, k2, k3, k4⟩ := hok
   have he := (EvG.sub hcm (hC _ _ _ _ _ hr) k1 (fun i hi => by
    simp_all) k3 (fun i cs hi hcs => by
    have := List.all_eq_true.1 k4 i hi
    rw [getO_some.2 hcs] at this; exact this)).args hconv
   grind [putX_sound]
  ·cases h
 ·cases h
theorem exCallH_some (hW : outOK X.W) (hC : calOK X.E.P X.C) {dst : Option Nat} {g : FuncId} {full full' : List PV} {ids : List Nat} (hconv : ∀ (M : Mem) (B : Blk) (vs : List Value), Reps M B full' vs → Reps M B full vs) (h : exCallH X dst g full ids K σ = some v) :
 ∃ r h', Ev X.E.P g full' σ.h r (bigH ids σ.h h') ∧ thenPut X.E dst r { σ with h := bigH ids σ.h h' } (fun σ' => K σ' = some v) := exCallH_someG (calls_cpmono _) hW hC hconv h
theorem exCallH_sound (hW : outOK X.W) (hC : calOK X.E.P X.C) {dst : Option Nat} {g : FuncId} {full full' : List PV} {ids : List Nat} (hconv : ∀ (M : Mem) (B : Blk) (vs : List Value), Reps M B full' vs → Reps M B full vs) (h : exCallH X dst g full ids K σ = some v) :
 callK X.E g full' dst (fun σ' => K σ' = some v) σ := by
 obtain ⟨r, h', h1, h2⟩ := exCallH_some hW hC hconv h
 exact ⟨r, _, h1, h2⟩
theorem roOK_eq {E : AE} {ids : List Nat} {H : Objs} (h : roOK E.ln ids H.length = true) (h' : Objs) : roEq E (bigH ids H h') H := by
 intro i hi
 have hm : 1000000 + i ∈ E.ln := by simp_all
 have := List.all_eq_true.1 h _ hm
 rw [show Nat.ble 1000000 (1000000 + i) = true by rw [Nat.ble_eq]; omega, Nat.add_sub_cancel_left] at this
 simp only [Bool.and_eq_true] at this
 obtain ⟨h1, h2⟩ := this
 have hlt : i < H.length := by simp_all
 have hni : i ∉ ids := fun hc => by rw [inI_iff.2 hc] at h2; cases h2
 grind [bigH, setIds_length, setIds_not]
theorem exCall_some (hW : outOK X.W) (hC : calOK X.E.P X.C) {f : Operand} {args : List Operand} (h : exCall X true o f args K σ = some v) :
 ∃ g first caps as, σ.rd f = some (.func (.func g) first caps) ∧ allSome (args.map σ.rd) = some as ∧ callKD X.E g (first ++ as ++ caps) o.dst (fun σ' => K σ' = some v) σ := by
 unfold exCall at h
 split at h
 ·rename_i g first caps as hf ha
  try simp only [Bool.not_true, Bool.false_and] at h
  have hconv : ∀ (M : Mem) (B : Blk) (vs : List Value), Reps M B (first ++ as ++ caps) vs → Reps M B (first ++ argT X.E.P (callTs X.E o) as ++ caps) vs := fun M B vs hv => by
   grind [reps_split, reps_append, argT_reps]
  split at h
  ·rename_i hfl
   unfold clX at h
   split at h
   ·rename_i r hr
    have h := outOK_some hW h
    split at h
    ·rename_i hrf
     exact ⟨g, first, caps, as, hf, ha, callKD_pure ((hC _ _ _ _ _ hr).args hconv) hrf (by rw [flats_app, flats_app, argT_flat] at hfl; rw [flats_app, flats_app]; exact hfl) (putX_sound h)⟩
    ·cases h
   ·cases h
  ·split at h
   ·rename_i hsy
    rw [Bool.and_eq_true] at hsy
    obtain ⟨r, h', h1, h2⟩ := exCallH_some hW hC hconv h
    exact ⟨g, first, caps, as, hf, ha, .inr ⟨hsy.1, r, _, h1, roOK_eq hsy.2 h', h2⟩⟩
   ·cases h
 ·cases h
theorem ren_plain (f : Nat → Nat) : ∀ {cs : List PV}, cs.all flC = true → renL f cs = cs
 | [], _ => by simp [renL]
 | p :: cs, h => by
  rw [List.all_cons, Bool.and_eq_true] at h
  have h1 := h.1
  unfold flC at h1
  rw [Bool.and_eq_true] at h1
  rw [renL, renP_flat f p h1.2, ren_plain f h.2]
theorem renO_plain (f : Nat → Nat) {o : Option (List PV)} (h : plainOb o = true) : renO f o = o := by
 cases o with
 | none => rfl
 | some cs => simp only [renO]; rw [ren_plain f h]
theorem renOs_plain (f : Nat → Nat) : ∀ {h : Objs}, h.all plainOb = true → h.map (renO f) = h
 | [], _ => rfl
 | o :: h, e => by
  rw [List.all_cons, Bool.and_eq_true] at e
  rw [List.map_cons, renO_plain f e.1, renOs_plain f e.2]
theorem allIL_plain (D : Nat → Bool) : ∀ {cs : List PV}, cs.all flC = true → PV.allIL D cs = true
 | [], _ => by rfl
 | p :: cs, h => by
  rw [List.all_cons, Bool.and_eq_true] at h
  have h1 := h.1
  unfold flC at h1
  rw [Bool.and_eq_true] at h1
  rw [PV.allIL, allI_flat p h1.2, allIL_plain D h.2]; rfl
theorem bigH_plain (ids : List Nat) (H : Objs) {h' : Objs} (e : h'.all plainOb = true) : bigH ids H h' = setP ids H h' := by
 unfold bigH setP
 have e1 : (h'.take ids.length).all plainOb = true := List.all_eq_true.2 fun x hx => List.all_eq_true.1 e x (List.mem_of_mem_take hx)
 have e2 : (h'.drop ids.length).all plainOb = true := List.all_eq_true.2 fun x hx => List.all_eq_true.1 e x (List.mem_of_mem_drop hx)
 rw [renOs_plain _ e1, renOs_plain _ e2]
theorem exCallP_sound (hW : outOK X.W) (hC : calOK X.E.P X.C) {dst : Option Nat} {g : FuncId} {full full' : List PV} {ids : List Nat} (hconv : ∀ (M : Mem) (B : Blk) (vs : List Value), Reps M B full' vs → Reps M B full vs) (h : exCallP X dst g full ids K σ = some v) : callK X.E g full' dst (fun σ' => K σ' = some v) σ := by
 simp only [exCallP] at h
 split at h
 ·rename_i hok
  obtain ⟨c1, h⟩ := chk_some h
  unfold clH at h
  split at h
  ·rename_i r h' hr
   have h := outOK_some hW h
   obtain ⟨c2, h⟩ := chk_some h
   simp only [Bool.and_eq_true] at hok
   obtain ⟨k1, k2, k3⟩ := hok
   rw [← renOs_plain (posI _) c1] at hr
   have he := (Ev.sub (hC _ _ _ _ _ hr) k1 (fun i hi => by
    simp_all) k3 (fun i cs hi hcs => by
    have := List.all_eq_true.1 c1 (getO σ.h i) (List.mem_map_of_mem hi)
    rw [getO_some.2 hcs] at this
    exact allIL_plain _ this)).args hconv
   rw [bigH_plain _ _ c2] at he
   exact ⟨_, _, he, putX_sound h⟩
  ·cases h
 ·cases h
theorem exCallW_sound (hW : outOK X.W) (hC : calOK X.E.P X.C) {dst : Option Nat} {g : FuncId} {full full' : List PV} (hconv : ∀ (M : Mem) (B : Blk) (vs : List Value), Reps M B full' vs → Reps M B full vs) (h : exCallW X dst g full K σ = some v) :
 callK X.E g full' dst (fun σ' => K σ' = some v) σ := by
 unfold exCallW clH at h
 split at h
 ·rename_i r h' hr
  exact ⟨r, h', (hC _ _ _ _ _ hr).args hconv, putX_sound (outOK_some hW h)⟩
 ·cases h
theorem exCall_any (hW : outOK X.W) (hC : calOK X.E.P X.C) {f : Operand} {args : List Operand} (h : exCall X false o f args K σ = some v) :
 ∃ g first caps as, σ.rd f = some (.func (.func g) first caps) ∧ allSome (args.map σ.rd) = some as ∧ callK X.E g (first ++ as ++ caps) o.dst (fun σ' => K σ' = some v) σ := by
 unfold exCall at h
 split at h
 ·rename_i g first caps as hf ha
  have hconv : ∀ (M : Mem) (B : Blk) (vs : List Value), Reps M B (first ++ as ++ caps) vs → Reps M B (first ++ argT X.E.P (callTs X.E o) as ++ caps) vs := fun M B vs hv => by
   grind [reps_split, reps_append, argT_reps]
  split at h
  grind [exCallP_sound, exCallH_sound, exCallW_sound]
  split at h
  ·rename_i hfl
   unfold clX at h
   split at h
   ·rename_i r hr
    have h := outOK_some hW h
    split at h
    ·unfold exThaw at h
     split at h
     ·obtain ⟨h1, h2⟩ := chk_some h
      simp only [Bool.and_eq_true, decide_eq_true_eq] at h1
      exact ⟨g, first, caps, as, hf, ha, _, _, (Ev.thaw (hC _ _ _ _ _ hr) hfl h1.1 h1.2).args hconv, putX_sound h2⟩
     ·rename_i sz es _ _
      by_cases hpos : 0 < es.length
      ·rw [decide_eq_true hpos] at h
       obtain ⟨h1, h2⟩ := chk_some h
       exact ⟨g, first, caps, as, hf, ha, _, _, (Ev.thawG (hC _ _ _ _ _ hr) hfl hpos h1).args hconv, putX_sound h2⟩
      ·have e0 : es = [] := List.eq_nil_of_length_eq_zero (by omega)
       subst e0
       exact ⟨g, first, caps, as, hf, ha, callK_pure ((hC _ _ _ _ _ hr).args hconv) rfl (by rw [flats_app, flats_app, argT_flat] at hfl; rw [flats_app, flats_app]; exact hfl) (putX_sound h)⟩
     ·cases h
    ·split at h
     ·rename_i hrf
      exact ⟨g, first, caps, as, hf, ha, callK_pure ((hC _ _ _ _ _ hr).args hconv) hrf (by rw [flats_app, flats_app, argT_flat] at hfl; rw [flats_app, flats_app]; exact hfl) (putX_sound h)⟩
     ·cases h
   ·cases h
  ·split at h
   simp_all
   ·split at h
    ·obtain ⟨h1, h2⟩ := chk_some h
     unfold clX at h2
     split at h2
     ·rename_i r hr
      have h2 := outOK_some hW h2
      split at h2
      ·rename_i hrn
       exact ⟨g, first, caps, as, hf, ha, _, _, (Ev.lend (hC _ _ _ _ _ hr) hrn h1).args hconv, putX_sound h2⟩
      ·cases h2
     ·cases h2
    grind [exCallP_sound, exCallH_sound]
 ·cases h
theorem exCallF_some (hV : viewOK X.V) (hC : calOK X.E.P X.C) {f : Operand} {args : List Operand} (h : exCallF X o f args K σ = some v) :
 ∃ g first caps as r, σ.rd f = some (.func (.func g) first caps) ∧ allSome (args.map σ.rd) = some as ∧ Ev X.E.P g (first ++ as ++ caps) [] r [] ∧ r.flat = true ∧ PV.flats (first ++ as ++ caps) = true ∧ thenPut X.E o.dst r σ (fun σ' => K σ' = some v) := by
 unfold exCallF at h
 split at h
 ·rename_i p as hf ha
  obtain ⟨g, first, caps, rfl, h⟩ := fvX_some h
  obtain ⟨hfl, h⟩ := chk_some h
  have hconv : ∀ (M : Mem) (B : Blk) (vs : List Value), Reps M B (first ++ as ++ caps) vs → Reps M B (first ++ argT X.E.P (callTs X.E o) as ++ caps) vs := fun M B vs hv => by
   grind [reps_split, reps_append, argT_reps]
  unfold clX at h
  split at h
  ·rename_i r hr
   have h := viewOK_some hV h
   split at h
   ·rename_i hrf
    exact ⟨g, first, caps, as, r, hf, ha, (hC _ _ _ _ _ hr).args hconv, hrf, by rw [flats_app, flats_app, argT_flat] at hfl; rw [flats_app, flats_app]; exact hfl, putX_sound h⟩
   ·cases h
  ·cases h
 ·cases h
theorem ex1_sound (hV : viewOK X.V) (hW : outOK X.W) (hC : calOK X.E.P X.C) (h : ex1 X false o K σ = some v) : awpOp X.E o (fun σ' => K σ' = some v) σ := by
 unfold ex1 at h
 split at h
 grind [exCallF_some, callK_pure, exCall_any, awpOp]
 ·rename_i hc
  rw [awpOp_step hc]
  simp_all
  ·split at h
   ·rename_i es pos hn
    refine .inr ?_
    unfold nilK
    rw [hn]
    intro b hb
    obtain ⟨h1, h2⟩ := nilX_some h
    cases b
    ·exact putX_sound h1
    grind [putX_sound]
   ·exact .inl (exOp_sound hV hc h)
theorem ex1_soundD (hV : viewOK X.V) (hW : outOK X.W) (hC : calOK X.E.P X.C) (h : ex1 X true o K σ = some v) : awpOpD X.E o (fun σ' => K σ' = some v) σ := by
 grind [ex1, awpOpD, exCallF_some, callKD_pure, exCall_some, exOp_sound]
theorem lit_get {d : Nat} {b : Bool} (h : sget d σ.s = some (.bool b)) : σ.lit d b = σ := by unfold ASt.lit; rw [slit_eq h]
theorem exOps_sound (hV : viewOK X.V) (hW : outOK X.W) (hC : calOK X.E.P X.C) : ∀ (l : List Oper) {K : ASt → R} {σ : ASt}, exOps X false ops l K σ = some v → awpOps X.E ops l (fun σ' => K σ' = some v) σ
 | [], K, σ, h => h
 | o :: l, K, σ, h => by
  have ih : ∀ σ, exOps X false ops l K σ = some v → awpOps X.E ops l (fun σ' => K σ' = some v) σ := fun σ h => exOps_sound hV hW hC l h
  rw [exOps] at h
  rw [awpOps]
  split at h
  grind [awpOp_mono, ex1_sound]
  ·rename_i j want hg
   simp only [gval]
   split at h
   grind [thenPut_mono, putX_sound]
   ·rename_i d hd
    split at h
    ·rename_i b hb
     have key : exGd X false o d want b (exOps X false ops l K) σ = some v := by
      cases b
      ·exact h
      ·exact h
     grind [exGd, lit_get, awpOp_mono, ex1_sound, thenPut_mono, putX_sound]
    grind [thenPut_mono, putX_sound]
    ·cases h
theorem exOps_soundD (hV : viewOK X.V) (hW : outOK X.W) (hC : calOK X.E.P X.C) : ∀ (l : List Oper) {K : ASt → R} {σ : ASt}, exOps X true ops l K σ = some v → awpOpsD X.E ops l (fun σ' => K σ' = some v) σ
 | [], K, σ, h => h
 | o :: l, K, σ, h => by
  have ih : ∀ σ, exOps X true ops l K σ = some v → awpOpsD X.E ops l (fun σ' => K σ' = some v) σ := fun σ h => exOps_soundD hV hW hC l h
  rw [exOps] at h
  rw [awpOpsD]
  split at h
  grind [awpOpD_mono, ex1_soundD]
  ·rename_i j want hg
   simp only [gval]
   split at h
   grind [thenPut_mono, putX_sound]
   ·rename_i d hd
    split at h
    ·rename_i b hb
     have key : exGd X true o d want b (exOps X true ops l K) σ = some v := by
      cases b
      ·exact h
      ·exact h
     grind [exGd, lit_get, awpOpD_mono, ex1_soundD, thenPut_mono, putX_sound]
    grind [thenPut_mono, putX_sound]
    ·cases h
def lopOK (X : XE) : Prop := ∀ l m x (K : AX → ASt → R) σ v, X.L l m x K (σ.gc l m) = some v → loopK X.m0 (awp X.E X.m0 x) (fun e σ' => K e σ' = some v) σ
theorem exOrd_sound (hV : viewOK X.V) (hW : outOK X.W) (hC : calOK X.E.P X.C) {K : ASt → R} : ∀ (fuel : Nat) {L : Array Bool} {σ : ASt}, exOrd X ops K fuel L σ = some v → AllR X.E ops (fun σ' => K σ' = some v) fuel L σ
 | 0, L, σ, h => by
  unfold exOrd at h
  split at h
  ·rename_i hr; exact ⟨hr, h⟩
  ·cases h
 | fuel + 1, L, σ, h => by
  unfold exOrd at h
  split at h
  ·rename_i hr; exact ⟨fun _ => h, fun i hi => by rw [hr] at hi; simp [frontO] at hi⟩
  ·rename_i a l hr
   refine ⟨fun e => (by rw [hr] at e; cases e), fun i hi => ?_⟩
   rw [hr] at hi
   have h1 := agAll_some h _ (List.mem_map.2 ⟨i, hi, rfl⟩)
   cases ho : ops[i]? with
   | none => rw [ho] at h1; cases h1
   | some o =>
    rw [ho] at h1
    obtain ⟨σ', h2, h3⟩ := awpOpsD_one (exOps_soundD hV hW hC [o] h1)
    exact ⟨o, rfl, σ', h2, exOrd_sound hV hW hC fuel h3⟩
theorem frzX_some {k : ASt → R} : ∀ (ks : List Nat) {σ : ASt} {v : PV × Objs}, frzX k ks σ = some v → ∃ ks', k (frzL ks' σ) = some v
 | [], σ, v, h => ⟨[], h⟩
 | d :: ds, σ, v, h => by
  unfold frzX at h
  split at h
  ·rename_i hd
   split at h
   ·rename_i i hs
    split at h
    ·rename_i p hc
     obtain ⟨h1, h2⟩ := chk_some h
     obtain ⟨ks', h3⟩ := frzX_some ds h2
     refine ⟨d :: ks', ?_⟩
     have : frz1 d σ = ⟨sput (d - 9000000) (.cst ((chunkP p.length p 1).headD .nilp)) σ.s, σ.h.set i none⟩ := by
      simp only [frz1, hd, frzQ, hs, hc, h1]
     rw [frzL, this]; exact h3
    ·exact frzX_some ds h
   ·exact frzX_some ds h
  rename_i hd9
  split at h
  ·rename_i hd
   split at h
   ·rename_i i2 hs
    split at h
    ·rename_i cs0 hc
     split at h
     ·rename_i i n sz hj
      split at h
      ·rename_i cs hi
       obtain ⟨h1, h2⟩ := chk_some h
       obtain ⟨ks', h3⟩ := frzX_some ds h2
       refine ⟨d :: ks', ?_⟩
       have : frz1 d σ = ⟨σ.s, (σ.h.set i none).set i2 (some (cs0.set ((d - 5000000) % 100) (.sl false sz (chunkP sz cs n))))⟩ := by
        simp only [frz1, hd9, hd, frzC, hs, hc, hj, hi, h1]
       rw [frzL, this]; exact h3
      ·exact frzX_some ds h
     ·exact frzX_some ds h
    ·exact frzX_some ds h
   ·exact frzX_some ds h
  rename_i hd5
  split at h
  ·rename_i hd
   split at h
   ·rename_i i hs
    split at h
    ·rename_i cs0 hc
     split at h
     ·rename_i n sz cs hj
      cases hn : Nat.ble 1 n with
      | true =>
       rw [hn] at h
       obtain ⟨ks', h3⟩ := frzX_some ds h
       refine ⟨d :: ks', ?_⟩
       rw [frzL]
       simp only [frz1, hd9, hd5, hd, thwC, hs, hc, hj, hn]
       exact h3
      | false =>
       rw [hn] at h
       obtain ⟨ks', h3⟩ := frzX_some ds h
       refine ⟨d :: ks', ?_⟩
       rw [frzL]
       simp only [frz1, hd9, hd5, hd, thwC, hs, hc, hj, hn]
       exact h3
     ·exact frzX_some ds h
    ·exact frzX_some ds h
   ·exact frzX_some ds h
  rename_i hd4
  split at h
  ·rename_i hd
   split at h
   ·rename_i n sz cs hs
    split at h
    ·obtain ⟨hn, h⟩ := chk_some h
     obtain ⟨ks', h3⟩ := frzX_some ds h
     refine ⟨d :: ks', ?_⟩
     rw [frzL]
     simp only [frz1, hd9, hd5, hd4, hd, thw, hs, hn]
     exact h3
    cases hn : Nat.ble 1 n with
    | true =>
     rw [hn] at h
     obtain ⟨ks', h3⟩ := frzX_some ds h
     refine ⟨d :: ks', ?_⟩
     rw [frzL]
     simp only [frz1, hd9, hd5, hd4, hd, thw, hs, hn]
     exact h3
    | false =>
     rw [hn] at h
     obtain ⟨ks', h3⟩ := frzX_some ds h
     refine ⟨d :: ks', ?_⟩
     rw [frzL]
     simp only [frz1, hd9, hd5, hd4, hd, thw, hs, hn]
     exact h3
   ·exact frzX_some ds h
  rename_i hd3
  split at h
  ·rename_i hd
   split at h
   ·rename_i i n sz hs
    split at h
    ·rename_i cs hc
     obtain ⟨h1, h2⟩ := chk_some h
     obtain ⟨ks', h3⟩ := frzX_some ds h2
     refine ⟨d :: ks', ?_⟩
     have : frz1 d σ = ⟨sput (d - 1000000) (.sl false sz (chunkP sz cs n)) σ.s, σ.h.set i none⟩ := by
      simp only [frz1, hd9, hd5, hd4, hd3, hd, frzg, hs, hc, h1]
     rw [frzL, this]; exact h3
    ·exact frzX_some ds h
   ·exact frzX_some ds h
  ·obtain ⟨ks', h3⟩ := frzX_some ds h
   exact ⟨d :: ks', h3⟩
theorem mrX_sound (hV : viewOK X.V) (hW : outOK X.W) (hC : calOK X.E.P X.C) {c : MRc} {x y : Code} (hc : mrQ x y = some c) {K : AX → ASt → R} {σ : ASt} (h : mrX X c K σ = some v) : MR X.E X.m0 x y (fun e σ => K e σ = some v) σ := by
 unfold mrX at h
 split at h
 ·rename_i hg
  simp only [Bool.and_eq_true, List.all_eq_true, Nat.blt_eq, Bool.not_eq_true'] at hg
  refine mrQ_sound hc (fun k hk => hg.1 k hk) (fun hm => by have := inI_iff.2 hm; rw [hg.2] at this; cases this) (awpOps_mono (fun σ1 h1 => ?_) _ (exOps_sound hV hW hC _ h))
  unfold mrK at h1
  split at h1
  ·rename_i i hrd
   split at h1
   ·rename_i cs hcs
    split at h1
    ·rename_i bb L hin
     split at h1
     ·rename_i k e hu
      split at h1
      ·rename_i kd hkd
       split at h1
       ·rename_i hfree
        simp only [List.all_eq_true, Option.isNone_iff_eq_none] at hfree
        unfold rngX at h1
        split at h1
        ·rename_i r hr
         refine ⟨i, cs, bb, L, kd, r, k, e, hrd, hcs, hin, hu, hfree, hr, fun e => ?_, fun e => ?_⟩
         ·subst e; exact h1
         ·subst e; exact h1
        ·cases h1
       ·cases h1
      ·cases h1
     ·cases h1
    ·cases h1
   ·cases h1
  ·cases h1
 ·cases h
theorem exK_sound (hV : viewOK X.V) (hW : outOK X.W) (hC : calOK X.E.P X.C) (hL : lopOK X) : ∀ (c : Code) {K : AX → ASt → R} {σ : ASt}, exK X c K σ = some v → awp X.E X.m0 c (fun e σ' => K e σ' = some v) σ
 | .skip, K, σ, h => h
 | .label _, K, σ, h => h
 | .exit _, K, σ, h => h
 | .ret, K, σ, h => h
 | .region _ ops draw, K, σ, h => by
  simp only [exK] at h
  rw [awp]
  cases draw with
  | false => grind [exOps_sound]
  | true =>
   cases hok : okD X.E ops with
   | true =>
    simp only [hok] at h
    exact .inl ⟨hok, exOps_soundD hV hW hC _ h⟩
   | false =>
    simp only [hok] at h
    exact .inr (exOrd_sound hV hW hC _ h)
 | .seq x y, K, σ, h => by
  simp only [exK] at h
  split at h
  ·rename_i c hc
   rw [awp]
   exact .inr (mrX_sound hV hW hC hc h)
  rw [awp]
  refine .inl (awp_mono x (fun e σ' he => ?_) (exK_sound hV hW hC hL x h))
  cases e with
  | normal =>
   have hj : ∀ σ', joinY X.E X.m0 y (exK X y K) σ' = some v → awp X.E X.m0 y (fun e σ => K e σ = some v) σ' ∨ ∃ l m, X.m0 ≤ m ∧ gcOK l m σ' = true ∧ awp X.E X.m0 y (fun e σ => K e σ = some v) (σ'.gc l m) := fun σ' he => by
    unfold joinY at he
    cases hl : X.E.jt.lookup (rid y) with
    | none => rw [hl] at he; exact .inl (exK_sound hV hW hC hL y he)
    | some l =>
     rw [hl] at he
     obtain ⟨hpl, he⟩ := chk_some he
     split at he
     ·rename_i hg
      simp only [Bool.and_eq_true, decide_eq_true_eq] at hg
      exact .inr ⟨l, _, hg.1, gcOK_of hpl hg.2, exK_sound hV hW hC hL y he⟩
     ·cases he
   unfold joinX at he
   split at he
   ·obtain ⟨ks, he⟩ := frzX_some _ he
    exact ⟨ks, hj _ he⟩
   ·exact ⟨[], hj _ he⟩
  | ret => exact he
  | exit i => exact he
 | .cond c x y, K, σ, h => by
  simp only [exK] at h
  rw [awp]
  split at h
  ·rename_i b hb
   try simp only [hb]
   split at h
   ·cases b with
    | true =>
     rw [rd_bool hb] at h
     exact ⟨fun _ => exK_sound hV hW hC hL x h, fun e => by cases e⟩
    | false =>
     rw [rd_bool hb] at h
     exact ⟨fun e => (by cases e), fun _ => exK_sound hV hW hC hL y h⟩
   ·cases b with
    | true => exact ⟨fun _ => exK_sound hV hW hC hL x h, fun e => by cases e⟩
    | false => exact ⟨fun e => (by cases e), fun _ => exK_sound hV hW hC hL y h⟩
  ·cases h
 | .block id x, K, σ, h => by
  refine awp_mono x (fun e σ' he => ?_) (exK_sound hV hW hC hL x h)
  cases e with
  | normal => exact he
  | ret => exact he
  | exit i =>
   simp only [blkK] at he
   simp only [blockA]
   split at he
   ·rename_i e; rw [if_pos e]; exact he
   ·rename_i e; rw [if_neg e]; exact he
 | .scope x, K, σ, h => by
  exact exK_sound hV hW hC hL x h
 | .loop x, K, σ, h => by
  exact hL _ _ _ _ _ _ h
 | .rangeFunc _ _ _ _, K, σ, h => by simp [exK] at h
 | .goto _, K, σ, h => by simp [exK] at h
 | .refuse _, K, σ, h => by simp [exK] at h
end
end Go.Proofs.YtkkgfoknknehfaaDoor
namespace Go.Proofs.YtkkgfoknknehfaaDoor
set_option linter.unusedVariables false
set_option linter.unusedSimpArgs false
set_option linter.unnecessarySimpa false
set_option linter.unusedSectionVars false
open Go.RowKit
structure Prm where
 vars : List Nat
 mv : List Nat
 mu : List Nat
 sz : List (Nat × List Nat)
 jt : List (Nat × List Nat)
 lt : List (Nat × List Nat)
 pt : List (Nat × List Nat)
 fz : List Nat
 ro : List (List Nat × Bool)
 ft : List (Nat × List Nat) := []
 sy : List Nat := []
 ln : List Nat := []
 df : Bool := false
abbrev Lop := AE → Nat → List Nat → Nat → Code → (AX → ASt → R) → ASt → R
structure SE where
 P : Program
 prm : FuncId → Prm
 V : TypeId → PV → (PV → R) → R
 W : FuncId → Objs → PV → Objs → (PV → Objs → R) → R
 C0 : Cal
def SE.ae (S : SE) (g : FuncId) (n : Nat) : AE := ⟨S.P, n, (S.prm g).vars, (S.prm g).mv, (S.prm g).mu, (S.prm g).sz, (S.prm g).jt, (S.prm g).lt, (S.prm g).pt, (S.prm g).fz, (S.prm g).ft, (S.prm g).sy, (S.prm g).ln⟩
def SE.xe (S : SE) (C : Cal) (L : Lop) (E : AE) (m0 : Nat) : XE := ⟨E, C, S.V, S.W, L E m0, m0⟩
def topPtr : PV → Nat
 | .ptr i _ => i + 1
 | .tuple ps => PV.topsL ps
 | _ => 0
def retR (P : Program) (rs : List ResultVar) (σ : ASt) : Option PV := match rs with
 | [x] => resV P σ x
 | rs => (allSome (rs.map (resV P σ))).map fun ps => PV.tuple (ps.map PV.un)
def slhT : PV → List Nat
 | .tuple ps => flagL ps
 | _ => []
def retV (P : Program) (rs : List ResultVar) (ro : List (List Nat × Bool)) (m0 : Nat) (fl : List Nat) (σ : ASt) : R := match retR P rs σ with
 | some r => chk (plainO (σ.h.take (Nat.max m0 (topPtr r))) (addI fl (slhT r))) (match decide (Nat.max m0 (topPtr r) ≤ σ.h.length) && (r.blw (Nat.max m0 (topPtr r)) && blwH (Nat.max m0 (topPtr r)) (skipO (addI fl (slhT r)) 0 (σ.h.take (Nat.max m0 (topPtr r))))) with
  | true => some (finR ro r, σ.h.take (Nat.max m0 (topPtr r)))
  | false => none)
 | none => none
def retK (P : Program) (rs : List ResultVar) (ro : List (List Nat × Bool)) (m0 : Nat) (fl : List Nat) : AX → ASt → R
 | .normal, σ => retV P rs ro m0 fl σ
 | .ret, σ => retV P rs ro m0 fl σ
 | .exit _, _ => none
def isDef (o : Oper) : Bool := match o.op with | .defer _ => true | _ => false
def hasD : Code → Bool
 | .region _ ops draw => !draw && ops.toList.any isDef
 | .seq x y => hasD x || hasD y
 | .cond _ x y => hasD x || hasD y
 | .block _ x => hasD x
 | _ => false
def splitD : List Oper → Option (List Oper × Oper × Call × List Oper)
 | [] => none
 | o :: l => match o.op with
  | .defer c => some ([], o, c, l)
  | _ => (match splitD l with | some (a, o', c, b) => some (o :: a, o', c, b) | none => none)
abbrev KDT := Nat → FuncId → List PV → AX → ASt → R
def defX (m0 : Nat) (o : Oper) (c : Call) (K : Nat → FuncId → List PV → ASt → R) (σ : ASt) : R := match o.guard, o.dst, c.callee with
 | none, none, .value f => (match σ.rd f, allSome (c.args.toList.map σ.rd) with
  | some (.func (.func g) first caps), some as => (match PV.blws (Nat.max m0 (PV.topsL (first ++ as ++ caps))) (first ++ as ++ caps) with
   | true => K (Nat.max m0 (PV.topsL (first ++ as ++ caps))) g (first ++ as ++ caps) σ
   | false => none)
  | _, _ => none)
 | _, _, _ => none
noncomputable def SE.exD (S : SE) (C : Cal) (L : Lop) (E : AE) (m0 : Nat) : Code → (AX → ASt → R) → KDT → ASt → R
 | .seq x y, K0, KD, σ => (match hasD x with
  | true => S.exD C L E m0 x (thenK (joinX E m0 y (exK (S.xe C L E m0) y K0)) K0) (fun m g ps => thenK (joinX E m y (exK (S.xe C L E m) y (KD m g ps))) (KD m g ps)) σ
  | false => exK (S.xe C L E m0) x (thenK (S.exD C L E m0 y K0 KD) K0) σ)
 | .cond c x y, K0, KD, σ => (match σ.rd c with
  | some (.bool b) => (match c with
   | .tmp d => bsel b (match hasD x with | true => S.exD C L E m0 x K0 KD (σ.lit d true) | false => exK (S.xe C L E m0) x K0 (σ.lit d true)) (match hasD y with | true => S.exD C L E m0 y K0 KD (σ.lit d false) | false => exK (S.xe C L E m0) y K0 (σ.lit d false))
   | _ => none)
  | _ => none)
 | .block id x, K0, KD, σ => S.exD C L E m0 x (blkK id K0) (fun m g ps => blkK id (KD m g ps)) σ
 | .region _ ops draw, _, KD, σ => (match draw with
  | true => none
  | false => (match splitD ops.toList with
   | some (pre, o, c, post) => exOps (S.xe C L E m0) false ops pre (defX m0 o c fun m g ps => exOps (S.xe C L E m0) false ops post (KD m g ps .normal)) (σ.head E)
   | none => none))
 | _, _, _, _ => none
def SE.CD (S : SE) (C : Cal) : Cal := fun g args h => match S.C0 g args h with
 | some _ => none
 | none => (match (S.prm g).df with | true => none | false => C g args h)
noncomputable def SE.retD (S : SE) (C : Cal) (L : Lop) (E : AE) (rs : List ResultVar) (ro : List (List Nat × Bool)) (m0 : Nat) (fl : List Nat) : KDT := fun _ g ps e σ => match e with
 | .exit _ => none
 | _ => exCallH (S.xe (S.CD C) L E m0) none g ps (closeI σ.h 3 (addI [] (PV.idsL ps))) (retV S.P rs ro m0 fl) σ
noncomputable def SE.run (S : SE) (C : Cal) (L : Lop) (g : FuncId) (args : List PV) (h : Objs) : R := match S.P.funcs[g]? with
 | some fn => (match fn.body with
  | some c => (match decide (args.length ≤ fn.ntmps) && (fn.name != "runtime.NumGoroutine") with
   | true => (match (S.prm g).df with
    | false => exK (S.xe C L (S.ae g fn.ntmps) h.length) c (retK S.P fn.results.toList (S.prm g).ro h.length (flagL args)) ⟨slots0 0 args, h⟩
    | true => S.exD C L (S.ae g fn.ntmps) h.length c (retK S.P fn.results.toList (S.prm g).ro h.length (flagL args)) (S.retD C L (S.ae g fn.ntmps) fn.results.toList (S.prm g).ro h.length (flagL args)) ⟨slots0 0 args, h⟩)
   | false => none)
  | none => none)
 | none => none
def SE.wp (S : SE) (E : AE) : AE := { E with P := S.P }
noncomputable def SE.turn (S : SE) (C : Cal) (L : Lop) : Lop := fun E m0 l m x K σ =>
 chk (plainG l m σ) (match decide (m0 ≤ m) && gcOKf l m σ with
 | true => exK (S.xe C L (S.wp E) m0) x (thenK (fun σ' => L E m0 l m x K (σ'.gc l m)) K) (σ.gc l m)
 | false => none)
def orR (a b : R) : R := match a with | some x => some x | none => b
noncomputable def SE.sem (S : SE) : Nat → Cal × Lop
 | 0 => (S.C0, fun _ _ _ _ _ _ _ => none)
 | n + 1 => (fun g args h => orR (S.C0 g args h) (S.run (S.sem n).1 (S.sem n).2 g args h), S.turn (S.sem n).1 (S.sem n).2)
open Classical in
noncomputable def lim (f : Nat → R) : R := if h : ∃ n v, f n = some v then some (Classical.choose (Classical.choose_spec h)) else none
noncomputable def SE.CC (S : SE) : Cal := fun g args h => lim fun n => (S.sem n).1 g args h
noncomputable def SE.LL (S : SE) : Lop := fun E m0 l m x K σ => lim fun n => (S.sem n).2 E m0 l m x K σ
structure SE.OK (S : SE) : Prop where
 V : viewOK S.V
 W : outOK S.W
section
variable {S : SE}
theorem gc_gc (l : List Nat) (m : Nat) (σ : ASt) : (σ.gc l m).gc l m = σ.gc l m := by
 grind [ASt.gc, List.filter_filter]
theorem gcOK_gc (l : List Nat) (m : Nat) (σ : ASt) : gcOKf l m (σ.gc l m) = gcOKf l m σ := by unfold gcOKf; rw [gc_gc]
theorem plainG_gc (l : List Nat) (m : Nat) (σ : ASt) : plainG l m (σ.gc l m) = plainG l m σ := by unfold plainG; rw [gc_gc]
theorem turn_gc (C : Cal) (L : Lop) (E : AE) (m0 : Nat) (l : List Nat) (m : Nat) (x : Code) (K : AX → ASt → R) (σ : ASt) : S.turn C L E m0 l m x K (σ.gc l m) = S.turn C L E m0 l m x K σ := by
 unfold SE.turn; rw [gcOK_gc, plainG_gc, gc_gc]
variable {ι : Type} {Good : (ι → R) → Prop} (F : Fam Good) (hS : S.OK) {C : ι → Cal} {L : ι → Lop} (hC : ∀ g args h, Good fun i => C i g args h)
 (hL : ∀ (E : AE) (m0 : Nat) (l : List Nat) (m : Nat) (x : Code) (K : ι → AX → ASt → R) (σ : ASt), (∀ e σ, Good fun i => K i e σ) → Good fun i => L i E m0 l m x (K i) σ)
include F hS hC hL in
theorem good_mk {E : AE} {m0 : Nat} (c : Code) {K : ι → AX → ASt → R} {σ : ASt} (h : ∀ e σ, Good fun i => K i e σ) : Good fun i => exK (S.xe (C i) (L i) E m0) c (K i) σ :=
 good_exK F (X := S.xe (fun _ _ _ => none) (fun _ _ _ _ _ _ _ => none) E m0) (C := C) (L := fun i => L i E m0) hS.V hS.W hC (fun l m x K σ h => hL E m0 l m x K σ h) c h
include F hS hC hL in
theorem good_opsD {E : AE} {m0 : Nat} {ops : Array Oper} (l : List Oper) {K : ι → ASt → R} {σ : ASt} (h : ∀ σ, Good fun i => K i σ) : Good fun i => exOps (S.xe (C i) (L i) E m0) false ops l (K i) σ :=
 good_exOps F (X := S.xe (fun _ _ _ => none) (fun _ _ _ _ _ _ _ => none) E m0) (C := C) (L := fun i => L i E m0) hS.V hS.W hC l h
include F hS hC hL in
theorem good_joinD {E : AE} {m0 : Nat} {y : Code} {K : ι → AX → ASt → R} {σ : ASt} (h : ∀ e σ, Good fun i => K i e σ) : Good fun i => joinX E m0 y (exK (S.xe (C i) (L i) E m0) y (K i)) σ := by
 have hj : ∀ σ, Good fun i => joinY E m0 y (exK (S.xe (C i) (L i) E m0) y (K i)) σ := fun σ => by
  unfold joinY
  split
  ·refine good_chk F ?_
   split
   ·exact good_mk F hS hC hL y h
   ·exact F.no
  ·exact good_mk F hS hC hL y h
 unfold joinX
 split
 ·exact good_frzX F hj _
 ·exact hj _
include F in
theorem good_defX {m0 : Nat} {o : Oper} {c : Call} {K : ι → Nat → FuncId → List PV → ASt → R} {σ : ASt} (h : ∀ m g ps σ, Good fun i => K i m g ps σ) : Good fun i => defX m0 o c (K i) σ := by
 unfold defX
 split
 ·split
  ·split
   ·exact h _ _ _ _
   ·exact F.no
  ·exact F.no
 ·exact F.no
include F hS hC hL in
theorem good_exD {E : AE} {m0 : Nat} : ∀ (c : Code) {K0 : ι → AX → ASt → R} {KD : ι → KDT} {σ : ASt}, (∀ e σ, Good fun i => K0 i e σ) → (∀ m g ps e σ, Good fun i => KD i m g ps e σ) → Good fun i => S.exD (C i) (L i) E m0 c (K0 i) (KD i) σ
 | .seq x y, K0, KD, σ, h, h' => by
  simp only [SE.exD]
  split
  ·exact good_exD x (fun e σ => good_thenK (fun σ => good_joinD F hS hC hL h) h e σ) (fun m g ps e σ => good_thenK (fun σ => good_joinD F hS hC hL (h' m g ps)) (h' m g ps) e σ)
  ·exact good_mk F hS hC hL x fun e σ => good_thenK (fun σ => good_exD y h h') h e σ
 | .cond c x y, K0, KD, σ, h, h' => by
  simp only [SE.exD]
  split
  ·split
   ·refine good_bsel F ?_ ?_
    ·split
     ·exact good_exD x h h'
     ·exact good_mk F hS hC hL x h
    ·split
     ·exact good_exD y h h'
     ·exact good_mk F hS hC hL y h
   ·exact F.no
  ·exact F.no
 | .block id x, K0, KD, σ, h, h' => by
  simp only [SE.exD]
  exact good_exD x (fun e σ => good_blkK h e σ) (fun m g ps e σ => good_blkK (h' m g ps) e σ)
 | .region _ ops draw, K0, KD, σ, h, h' => by
  simp only [SE.exD]
  split
  ·exact F.no
  ·split
   ·exact good_opsD F hS hC hL _ fun σ => good_defX F fun m g ps σ => good_opsD F hS hC hL _ fun σ => h' m g ps .normal σ
   ·exact F.no
 | .skip, K0, KD, σ, h, h' => F.no
 | .label _, K0, KD, σ, h, h' => F.no
 | .exit _, K0, KD, σ, h, h' => F.no
 | .ret, K0, KD, σ, h, h' => F.no
 | .scope _, K0, KD, σ, h, h' => F.no
 | .loop _, K0, KD, σ, h, h' => F.no
 | .rangeFunc _ _ _ _, K0, KD, σ, h, h' => F.no
 | .goto _, K0, KD, σ, h, h' => F.no
 | .refuse _, K0, KD, σ, h, h' => F.no
include F hS hC in
theorem good_retD {E : AE} {rs : List ResultVar} {ro : List (List Nat × Bool)} {m0 : Nat} {fl : List Nat} (m : Nat) (g : FuncId) (ps : List PV) (e : AX) (σ : ASt) : Good fun i => S.retD (C i) (L i) E rs ro m0 fl m g ps e σ := by
 have hC' : ∀ g args h, Good fun i => S.CD (C i) g args h := fun g args h => by
  unfold SE.CD
  split
  ·exact F.no
  ·split
   ·exact F.no
   ·exact hC _ _ _
 have hH : Good fun i => exCallH (S.xe (S.CD (C i)) (L i) E m0) none g ps (closeI σ.h 3 (addI [] (PV.idsL ps))) (retV S.P rs ro m0 fl) σ := by
  simp only [exCallH]
  split
  ·exact good_clH F hC' fun r h' => good_W (X := S.xe (fun _ _ _ => none) (fun _ _ _ _ _ _ _ => none) E m0) F hS.W fun p q => good_putX F fun σ => F.const _
  ·exact F.no
 unfold SE.retD
 cases e
 ·exact hH
 ·exact hH
 ·exact F.no
include F hS hC hL in
theorem good_run {g : FuncId} {args : List PV} {h : Objs} : Good fun i => S.run (C i) (L i) g args h := by
 unfold SE.run
 split
 ·split
  ·split
   ·split
    ·exact good_mk F hS hC hL _ fun e σ => F.const _
    ·exact good_exD F hS hC hL _ (fun e σ => F.const _) fun m g ps e σ => good_retD F hS hC m g ps e σ
   ·exact F.no
  ·exact F.no
 ·exact F.no
include F hS hC hL in
theorem good_turn {E : AE} {m0 : Nat} {l : List Nat} {m : Nat} {x : Code} {K : ι → AX → ASt → R} {σ : ASt} (h : ∀ e σ, Good fun i => K i e σ) : Good fun i => S.turn (C i) (L i) E m0 l m x (K i) σ := by
 unfold SE.turn
 refine good_chk F ?_
 split
 ·exact good_mk F hS hC hL _ fun e σ => good_thenK (fun σ => hL _ _ _ _ _ _ _ h) h e σ
 ·exact F.no
include F in
theorem good_or {a : R} {f : ι → R} (h : Good f) : Good fun i => orR a (f i) := by
 cases a
 ·exact h
 ·exact F.const _
theorem good_semL (F : Fam Good) (hS : S.OK) : ∀ (n : Nat) (E : AE) (m0 : Nat) (l : List Nat) (m : Nat) (x : Code) (K : ι → AX → ASt → R) (σ : ASt), (∀ e σ, Good fun i => K i e σ) → Good fun i => (S.sem n).2 E m0 l m x (K i) σ
 | 0, _, _, _, _, _, _, _, _ => F.no
 | n + 1, _, _, _, _, _, _, _, h => good_turn F hS (C := fun _ => (S.sem n).1) (fun _ _ _ => F.const _) (good_semL F hS n) h
def GoodLe (F : Bool → R) : Prop := ∀ v, F false = some v → F true = some v
theorem famLe : Fam GoodLe := ⟨fun _ _ h => h, fun c k hc hk v h => by
 have h : (match c false with | some (r, h) => k false r h | none => none) = some v := h
 show (match c true with | some (r, h) => k true r h | none => none) = some v
 cases hf : c false with
 | none => rw [hf] at h; cases h
 | some x =>
  obtain ⟨r, hh⟩ := x
  rw [hf] at h
  rw [hc _ hf]
  exact hk r hh v h⟩
theorem semn_mono (hS : S.OK) : ∀ n, (∀ g args h v, (S.sem n).1 g args h = some v → (S.sem (n + 1)).1 g args h = some v) ∧
 (∀ E m0 l m x (K K' : AX → ASt → R) σ v, (∀ e σ v, K e σ = some v → K' e σ = some v) → (S.sem n).2 E m0 l m x K σ = some v → (S.sem (n + 1)).2 E m0 l m x K' σ = some v)
 | 0 => ⟨fun g args h v hv => by show orR (S.C0 g args h) _ = some v; rw [show S.C0 g args h = some v from hv]; rfl, fun _ _ _ _ _ _ _ _ _ _ h => by cases h⟩
 | n + 1 => by
  obtain ⟨ih1, ih2⟩ := semn_mono hS n
  have hC : ∀ g args h, GoodLe fun i => (bif i then (S.sem (n + 1)).1 else (S.sem n).1) g args h := fun g args h v hv => ih1 g args h v hv
  have hL : ∀ (E : AE) (m0 : Nat) (l : List Nat) (m : Nat) (x : Code) (K : Bool → AX → ASt → R) (σ : ASt), (∀ e σ, GoodLe fun i => K i e σ) → GoodLe fun i => (bif i then (S.sem (n + 1)).2 else (S.sem n).2) E m0 l m x (K i) σ :=
   fun E m0 l m x K σ hK v hv => ih2 E m0 l m x _ _ σ v (fun e σ v h => hK e σ v h) hv
  refine ⟨fun g args h v hv => ?_, fun E m0 l m x K K' σ v hK hv => ?_⟩
  ·exact good_or famLe (good_run famLe hS hC hL) v hv
  ·exact good_turn famLe hS hC hL (K := fun i => bif i then K' else K) (fun e σ v h => hK e σ v h) v hv
theorem lop_le (hS : S.OK) {E : AE} {m0 : Nat} {l : List Nat} {m : Nat} {x : Code} {K : AX → ASt → R} {σ : ASt} {v : PV × Objs} {n k : Nat} (hk : n ≤ k) (hv : (S.sem n).2 E m0 l m x K σ = some v) : (S.sem k).2 E m0 l m x K σ = some v := by
 induction hk with
 | refl => exact hv
 | step _ ih => exact (semn_mono hS _).2 _ _ _ _ _ _ _ _ _ (fun _ _ _ h => h) ih
theorem lop_leK (hS : S.OK) (n : Nat) {E : AE} {m0 : Nat} {l : List Nat} {m : Nat} {x : Code} {K K' : AX → ASt → R} {σ : ASt} {v : PV × Objs} (hK : ∀ e σ v, K e σ = some v → K' e σ = some v) (hv : (S.sem n).2 E m0 l m x K σ = some v) : (S.sem n).2 E m0 l m x K' σ = some v :=
 good_semL famLe hS n E m0 l m x (fun i => bif i then K' else K) σ (fun e σ v h => hK e σ v h) v hv
theorem lim_some {f : Nat → R} (hm : ∀ n v, f n = some v → f (n + 1) = some v) {v : PV × Objs} : lim f = some v ↔ ∃ n, f n = some v := by
 have hle : ∀ {n k : Nat} {v : PV × Objs}, n ≤ k → f n = some v → f k = some v := fun hk hv => by
  induction hk with
  | refl => exact hv
  | step _ ih => grind
 unfold lim
 constructor
 ·intro h
  split at h
  grind
  ·cases h
 ·intro ⟨n, hn⟩
  have hx : ∃ n v, f n = some v := ⟨n, v, hn⟩
  grind
structure GoodLim (F : Option Nat → R) : Prop where
 mono : ∀ n v, F (some n) = some v → F (some (n + 1)) = some v
 lim : ∀ v, F none = some v ↔ ∃ n, F (some n) = some v
theorem GoodLim.le {F : Option Nat → R} (h : GoodLim F) {n k : Nat} {v : PV × Objs} (hk : n ≤ k) (hv : F (some n) = some v) : F (some k) = some v := by
 induction hk with
 | refl => exact hv
 | step _ ih => exact h.mono _ _ ih
theorem famLim : Fam GoodLim := ⟨fun c => ⟨fun _ _ h => h, fun v => ⟨fun h => ⟨0, h⟩, fun ⟨_, h⟩ => h⟩⟩, fun c k hc hk => by
 refine ⟨fun n v h => ?_, fun v => ⟨fun h => ?_, fun ⟨n, h⟩ => ?_⟩⟩
 ·cases hf : c (some n) with
  | none => rw [hf] at h; cases h
  | some x =>
   obtain ⟨r, hh⟩ := x
   rw [hf] at h
   rw [hc.mono _ _ hf]
   exact (hk r hh).mono _ _ h
 ·cases hf : c none with
  | none => rw [hf] at h; cases h
  | some x =>
   obtain ⟨r, hh⟩ := x
   rw [hf] at h
   obtain ⟨n1, h1⟩ := (hc.lim _).1 hf
   obtain ⟨n2, h2⟩ := ((hk r hh).lim v).1 h
   refine ⟨max n1 n2, ?_⟩
   rw [hc.le (Nat.le_max_left n1 n2) h1]
   exact (hk r hh).le (Nat.le_max_right n1 n2) h2
 ·cases hf : c (some n) with
  | none => rw [hf] at h; cases h
  | some x =>
   obtain ⟨r, hh⟩ := x
   rw [hf] at h
   rw [(hc.lim _).2 ⟨n, hf⟩]
   exact ((hk r hh).lim v).2 ⟨n, h⟩⟩
noncomputable def SE.cals (S : SE) : Option Nat → Cal | none => S.CC | some n => (S.sem n).1
noncomputable def SE.lops (S : SE) : Option Nat → Lop | none => S.LL | some n => (S.sem n).2
theorem cals_good (hS : S.OK) (g : FuncId) (args : List PV) (h : Objs) : GoodLim fun i => S.cals i g args h :=
 ⟨fun n v hv => (semn_mono hS n).1 g args h v hv, fun _ => lim_some fun n v hv => (semn_mono hS n).1 g args h v hv⟩
theorem lops_good (hS : S.OK) (E : AE) (m0 : Nat) (l : List Nat) (m : Nat) (x : Code) (K : Option Nat → AX → ASt → R) (σ : ASt) (hK : ∀ e σ, GoodLim fun i => K i e σ) : GoodLim fun i => S.lops i E m0 l m x (K i) σ := by
 have hl : ∀ v, S.LL E m0 l m x (K none) σ = some v ↔ ∃ n, (S.sem n).2 E m0 l m x (K none) σ = some v := fun v => lim_some fun n v hv => (semn_mono hS n).2 _ _ _ _ _ _ _ _ _ (fun _ _ _ h => h) hv
 refine ⟨fun n v hv => (semn_mono hS n).2 _ _ _ _ _ _ _ _ _ (fun e σ v h => (hK e σ).mono n v h) hv, fun v => ⟨fun h => ?_, fun ⟨n, h⟩ => ?_⟩⟩
 ·obtain ⟨n, hn⟩ := (hl v).1 h
  obtain ⟨k, hk⟩ := ((good_semL famLim hS n E m0 l m x K σ hK).lim v).1 hn
  refine ⟨max n k, ?_⟩
  exact lop_le hS (Nat.le_max_left n k) (lop_leK hS n (fun e σ v h => (hK e σ).le (Nat.le_max_right n k) h) hk)
 ·exact (hl v).2 ⟨n, lop_leK hS n (fun e σ v h => ((hK e σ).lim v).2 ⟨n, h⟩) h⟩
theorem CC_eq (hS : S.OK) (g : FuncId) (args : List PV) (h : Objs) : S.CC g args h = orR (S.C0 g args h) (S.run S.CC S.LL g args h) := by
 have hg := good_or famLim (a := S.C0 g args h) (good_run famLim hS (cals_good hS) (lops_good hS) (g := g) (args := args) (h := h))
 refine Option.ext fun v => ?_
 have h1 : S.CC g args h = some v ↔ ∃ n, (S.sem n).1 g args h = some v := (cals_good hS g args h).lim v
 have h2 : orR (S.C0 g args h) (S.run S.CC S.LL g args h) = some v ↔ ∃ n, (S.sem (n + 1)).1 g args h = some v := hg.lim v
 rw [h1, h2]
 exact ⟨fun ⟨n, hn⟩ => ⟨n, (semn_mono hS n).1 _ _ _ _ hn⟩, fun ⟨n, hn⟩ => ⟨n + 1, hn⟩⟩
theorem LL_turn (hS : S.OK) (E : AE) (m0 : Nat) (l : List Nat) (m : Nat) (x : Code) (K : AX → ASt → R) (σ : ASt) : S.LL E m0 l m x K σ = S.turn S.CC S.LL E m0 l m x K σ := by
 have hg := good_turn famLim hS (cals_good hS) (lops_good hS) (E := E) (m0 := m0) (l := l) (m := m) (x := x) (K := fun _ => K) (σ := σ) fun e σ => famLim.const _
 refine Option.ext fun v => ?_
 have h1 : S.LL E m0 l m x K σ = some v ↔ ∃ n, (S.sem n).2 E m0 l m x K σ = some v := (lops_good hS E m0 l m x (fun _ => K) σ fun e σ => famLim.const _).lim v
 have h2 : S.turn S.CC S.LL E m0 l m x K σ = some v ↔ ∃ n, (S.sem (n + 1)).2 E m0 l m x K σ = some v := hg.lim v
 rw [h1, h2]
 exact ⟨fun ⟨n, hn⟩ => ⟨n, (semn_mono hS n).2 _ _ _ _ _ _ _ _ _ (fun _ _ _ h => h) hn⟩, fun ⟨n, hn⟩ => ⟨n + 1, hn⟩⟩
theorem LL_eq (hS : S.OK) {E : AE} {m0 : Nat} {l : List Nat} {m : Nat} {x : Code} {K : AX → ASt → R} {σ : ASt} (hm : m0 ≤ m) (hg : gcOKf l m σ = true) (hP : S.wp E = E) :
 S.LL E m0 l m x K σ = chk (plainG l m σ) (exK (S.xe S.CC S.LL E m0) x (thenK (fun σ' => S.LL E m0 l m x K (σ'.gc l m)) K) (σ.gc l m)) := by
 rw [LL_turn hS]; grind [SE.turn]
theorem CC_run (hS : S.OK) {g : FuncId} {args : List PV} {h : Objs} (h0 : S.C0 g args h = none) : S.CC g args h = S.run S.CC S.LL g args h := by
 rw [CC_eq hS, h0]; rfl
theorem ret_ok {P : Program} {rs : List ResultVar} {ro : List (List Nat × Bool)} {m0 : Nat} {fl : List Nat} {σ : ASt} {r : PV} {h' : Objs} (h : retV P rs ro m0 fl σ = some (r, h')) : ∃ r0, retOK P rs m0 r0 h' σ ∧ finR ro r0 = r := by
 unfold retV at h
 split at h
 ·rename_i q hq
  obtain ⟨hpl, h⟩ := chk_some h
  split at h
  ·rename_i hb
   injection h with h
   injection h with h1 h2
   subst h1
   simp only [Bool.and_eq_true, decide_eq_true_eq] at hb
   obtain ⟨b1, b2, b3⟩ := hb
   have hlen : h'.length = Nat.max m0 (topPtr q) := by rw [← h2, List.length_take]; omega
   refine ⟨q, ⟨by grind, by rw [hlen]; exact h2, by rw [hlen]; exact b2, by rw [hlen, ← h2]; exact blw_plain hpl b3, ?_⟩, rfl⟩
   grind [retR]
  ·cases h
 ·cases h
theorem splitD_eq : ∀ {l : List Oper} {a : List Oper} {o : Oper} {c : Call} {b : List Oper}, splitD l = some (a, o, c, b) → l = a ++ o :: b ∧ o.op = .defer c
 | [], _, _, _, _, h => by cases h
 | x :: l, a, o, c, b, h => by
  unfold splitD at h
  split at h
  ·rename_i hx; cases h; exact ⟨rfl, hx⟩
  ·split at h
   ·rename_i a' o' c' b' hs
    cases h
    obtain ⟨h1, h2⟩ := splitD_eq hs
    exact ⟨by rw [h1]; rfl, h2⟩
   ·cases h
def DRep (M : Mem) (B : Blk) (m : Nat) (g : FuncId) (ps : List PV) (d : Deferred) : Prop := ∃ cap vals, d.target = .fn (.func g) cap ∧ d.args ++ cap = vals ∧ Reps M (B.take m) ps vals.toList
section
variable {n : Nat} {out : Nat → Nat} {m m0 : Nat} {M M' : Mem} {B B' : Blk} {σ σ' : ASt} {t t' : Array Value} {w w' : World} {g : FuncId} {ps : List PV} {d : Deferred}
theorem DRep.mono (h : DRep M B m g ps d) (hG : GoodC n out m M B σ t w M' B' σ' t' w') : DRep M' B' m g ps d := by
 obtain ⟨cap, vals, h1, h2, h3⟩ := h
 refine ⟨cap, vals, h1, h2, h3.mono ⟨hG.mem, fun i c hi => ?_⟩⟩
 rw [List.getElem?_take] at hi ⊢
 split at hi
 ·rename_i hlt; rw [if_pos hlt]; exact hG.pre i c hlt hi
 ·cases hi
theorem GoodC.lessM (h : GoodC n out m M B σ t w M' B' σ' t' w') (hm : m0 ≤ m) : GoodC n out m0 M B σ t w M' B' σ' t' w' := ⟨h.inv, h.mem, fun i c hi e => h.pre i c (Nat.lt_of_lt_of_le hi hm) e, h.fr, h.own⟩
end
def liftD (E : AE) (out : Nat → Nat) (m0 : Nat) (M : Mem) (B : Blk) (σ : ASt) (t : Array Value) (w : World) (v : PV × Objs) (K0 : AX → ASt → R) (KD : KDT) (e : Exit) (a' : Act) (w' : World) : Prop :=
 ∃ ax σ' M' B', e = ax.toExit ∧ GoodC E.n out m0 M B σ t w M' B' σ' a'.tmps w' ∧ ((K0 ax σ' = some v ∧ a'.defers = []) ∨ ∃ m g ps d, m0 ≤ m ∧ a'.defers = [d] ∧ DRep M' B' m g ps d ∧ KD m g ps ax σ' = some v)
theorem liftD_trans {E : AE} {out : Nat → Nat} {m0 : Nat} {M M1 : Mem} {B B1 : Blk} {σ σ1 : ASt} {t t1 : Array Value} {w w1 : World} {v : PV × Objs} {K0 : AX → ASt → R} {KD : KDT} (h : GoodC E.n out m0 M B σ t w M1 B1 σ1 t1 w1) {e : Exit} {a' : Act} {w' : World} (k : liftD E out m0 M1 B1 σ1 t1 w1 v K0 KD e a' w') : liftD E out m0 M B σ t w v K0 KD e a' w' := by
 obtain ⟨ax, σ', M', B', h1, h2, h3⟩ := k
 exact ⟨ax, σ', M', B', h1, h.trans h2, h3⟩
theorem joinX_good {E : AE} {n : Nat} {out : Nat → Nat} {m0 : Nat} {M : Mem} {B : Blk} {σ : ASt} {t : Array Value} {w : World} {y : Code} {k : ASt → R} {v : PV × Objs} (hI : Inv n M B out σ t w) (h : joinX E m0 y k σ = some v) :
 ∃ M2 B2 σ2, GoodC n out m0 M B σ t w M2 B2 σ2 t w ∧ k σ2 = some v := by
 have hj : ∀ {M1 : Mem} {B1 : Blk} {σ1 : ASt}, GoodC n out m0 M B σ t w M1 B1 σ1 t w → joinY E m0 y k σ1 = some v → ∃ M2 B2 σ2, GoodC n out m0 M B σ t w M2 B2 σ2 t w ∧ k σ2 = some v := fun {M1 B1 σ1} hG he => by
  unfold joinY at he
  cases hl : E.jt.lookup (rid y) with
  | none => grind
  | some l =>
   rw [hl] at he
   obtain ⟨hpl, he⟩ := chk_some he
   split at he
   ·rename_i hg
    simp only [Bool.and_eq_true, decide_eq_true_eq] at hg
    exact ⟨_, _, _, hG.trans (gc_good hG.inv hg.1 (gcOK_of hpl hg.2)), he⟩
   ·cases he
 unfold joinX at h
 split at h
 ·obtain ⟨ks, he⟩ := frzX_some _ h
  obtain ⟨M2, B2, hz⟩ := frzL_good (m0 := m0) ks hI
  grind
 ·exact hj (GoodC.refl hI) h
theorem exD_sound {C : Cal} {L : Lop} {E : AE} {out : Nat → Nat} {m0 : Nat} {v : PV × Objs} (hm : E.P.follows .mixedOrders = true) (hS : S.OK) (hC : calOK E.P C) (hL : ∀ m, lopOK (S.xe C L E m)) : ∀ (c : Code) {K0 : AX → ASt → R} {KD : KDT} {M : Mem} {B : Blk} {σ : ASt} {a : Act} {w : World},
 S.exD C L E m0 c K0 KD σ = some v → Inv E.n M B out σ a.tmps w → a.defers = [] → c.wp E.P (liftD E out m0 M B σ a.tmps w v K0 KD) a w
 | .seq x y, K0, KD, M, B, σ, a, w, h, hI, hd0 => by
  simp only [SE.exD] at h
  split at h
  ·refine wp_seq (wp_mono (exD_sound hm hS hC hL x h hI hd0) fun e a' w' hl => ?_)
   obtain ⟨ax, σ', M', B', rfl, hG, hl⟩ := hl
   rcases hl with ⟨hq, hd⟩ | ⟨m, g, ps, d, hm0, hd, hD, hq⟩
   ·cases ax with
    | normal =>
     obtain ⟨M2, B2, σ2, hj, hk⟩ := joinX_good hG.inv hq
     refine wp_mono (awp_sound hm y hj.inv (exK_sound hS.V hS.W hC (hL m0) y hk)) fun e a2 w2 hl2 => ?_
     obtain ⟨ax2, σ3, M3, B3, rfl, hq3, hd3, hG3⟩ := hl2
     exact ⟨ax2, σ3, M3, B3, rfl, (hG.trans hj).trans hG3, .inl ⟨hq3, by rw [hd3, hd]⟩⟩
    | ret => exact ⟨.ret, σ', M', B', rfl, hG, .inl ⟨hq, hd⟩⟩
    | exit i => exact ⟨.exit i, σ', M', B', rfl, hG, .inl ⟨hq, hd⟩⟩
   ·cases ax with
    | normal =>
     obtain ⟨M2, B2, σ2, hj, hk⟩ := joinX_good hG.inv hq
     refine wp_mono (awp_sound hm y hj.inv (exK_sound hS.V hS.W hC (hL m) y hk)) fun e a2 w2 hl2 => ?_
     obtain ⟨ax2, σ3, M3, B3, rfl, hq3, hd3, hG3⟩ := hl2
     exact ⟨ax2, σ3, M3, B3, rfl, hG.trans ((hj.trans hG3).lessM hm0), .inr ⟨m, g, ps, d, hm0, by rw [hd3, hd], hD.mono (hj.trans hG3), hq3⟩⟩
    | ret => exact ⟨.ret, σ', M', B', rfl, hG, .inr ⟨m, g, ps, d, hm0, hd, hD, hq⟩⟩
    | exit i => exact ⟨.exit i, σ', M', B', rfl, hG, .inr ⟨m, g, ps, d, hm0, hd, hD, hq⟩⟩
  ·refine wp_seq (wp_mono (awp_sound hm x hI (exK_sound hS.V hS.W hC (hL m0) x h)) fun e a' w' hl => ?_)
   obtain ⟨ax, σ', M', B', rfl, hq, hd, hG⟩ := hl
   cases ax with
   | normal => exact wp_mono (exD_sound hm hS hC hL y hq hG.inv (by rw [hd, hd0])) fun e a2 w2 hl2 => liftD_trans hG hl2
   | ret => exact ⟨.ret, σ', M', B', rfl, hG, .inl ⟨hq, by rw [hd, hd0]⟩⟩
   | exit i => exact ⟨.exit i, σ', M', B', rfl, hG, .inl ⟨hq, by rw [hd, hd0]⟩⟩
 | .cond c x y, K0, KD, M, B, σ, a, w, h, hI, hd0 => by
  have hx : ∀ (x : Code), (∀ {σ1 : ASt}, S.exD C L E m0 x K0 KD σ1 = some v → Inv E.n M B out σ1 a.tmps w → x.wp E.P (liftD E out m0 M B σ1 a.tmps w v K0 KD) a w) → (match hasD x with | true => S.exD C L E m0 x K0 KD σ | false => exK (S.xe C L E m0) x K0 σ) = some v → x.wp E.P (liftD E out m0 M B σ a.tmps w v K0 KD) a w := fun x ih hh => by
   cases hd : hasD x with
   | true => grind
   | false =>
    rw [hd] at hh
    refine wp_mono (awp_sound hm x hI (exK_sound hS.V hS.W hC (hL m0) x hh)) fun e a2 w2 hl2 => ?_
    obtain ⟨ax2, σ3, M3, B3, rfl, hq3, hd3, hG3⟩ := hl2
    exact ⟨ax2, σ3, M3, B3, rfl, hG3, .inl ⟨hq3, by rw [hd3, hd0]⟩⟩
  simp only [SE.exD] at h
  split at h
  ·rename_i b hb
   have he := rep_bool.1 (hI.rd _ _ hb).1
   split at h
   ·cases b with
    | true =>
     simp only [rd_bool hb] at h
     exact wp_cond_split he (fun _ => hx x (fun k1 k2 => exD_sound hm hS hC hL x k1 k2 hd0) h) (fun e => by cases e)
    | false =>
     simp only [rd_bool hb] at h
     exact wp_cond_split he (fun e => by cases e) (fun _ => hx y (fun k1 k2 => exD_sound hm hS hC hL y k1 k2 hd0) h)
   ·cases h
  ·cases h
 | .block id x, K0, KD, M, B, σ, a, w, h, hI, hd0 => by
  refine wp_block (wp_mono (exD_sound hm hS hC hL x h hI hd0) fun e a' w' hl => ?_)
  obtain ⟨ax, σ', M', B', rfl, hG, hl⟩ := hl
  cases ax with
  | normal => exact ⟨.normal, σ', M', B', rfl, hG, hl⟩
  | ret => exact ⟨.ret, σ', M', B', rfl, hG, hl⟩
  | exit i =>
   simp only [AX.toExit, Exit.inBlock]
   simp only [blkK] at hl
   split
   ·rename_i e; simp only [if_pos e] at hl; exact ⟨.normal, σ', M', B', rfl, hG, hl⟩
   ·rename_i e; simp only [if_neg e] at hl; exact ⟨.exit i, σ', M', B', rfl, hG, hl⟩
 | .region id ops draw, K0, KD, M, B, σ, a, w, h, hI, hd0 => by
  simp only [SE.exD] at h
  split at h
  ·cases h
  ·split at h
   ·rename_i pre o c post hs
    obtain ⟨hl, ho⟩ := splitD_eq hs
    have hk := head_good (E := E) hI
    refine wp_region_list ?_
    rw [hl]
    refine awpOps_then pre hk.inv (exOps_sound hS.V hS.W hC pre h) fun σ1 M1 B1 a1 w1 hq hG hd => ?_
    unfold defX at hq
    split at hq
    ·rename_i f hg hdst hcal
     split at hq
     ·rename_i g first caps as hf has
      split at hq
      ·rename_i hbl
       obtain ⟨f', c', e1, r1, r2⟩ := rep_func.1 (hG.inv.rd _ _ hf).1
       obtain ⟨ra, _⟩ := reps_all hG.inv.rd has
       unfold wpList
       rw [if_pos (by simp [Region.wanted, hg])]
       refine .inl ?_
       unfold Oper.wp
       have hrun : (execOp a1.eval o).run E.P w1 = .ok (.defer { target := .fn (.func g) c', args := f' ++ c.args.map a1.eval }) w1 := by
        grind [execOp, resolve, Deferred.ofValue, Sem.run_pure]
       rw [hrun, Oper.upon_defer]
       have hput : ∀ (a : Act) (u : Value), a.put o.dst u = a := fun a u => by rw [hdst]; rfl
       rw [hput]
       refine awpOps_sound post hG.inv (exOps_sound hS.V hS.W hC post hq) fun σ2 M2 B2 a2 w2 hq2 hG2 hd2 => ?_
       refine ⟨.normal, σ2, M2, B2, rfl, ((hk.trans hG).trans hG2).c, .inr ⟨_, g, _, { target := .fn (.func g) c', args := f' ++ c.args.map a1.eval }, Nat.le_max_left _ _, by simp_all, DRep.mono ?_ hG2.c, hq2⟩⟩
       refine ⟨c', _, rfl, rfl, ?_⟩
       have hr : Reps M1 B1 (first ++ as ++ caps) (f' ++ c.args.map a1.eval ++ c').toList := by simpa using reps_append (reps_append r1 ra) r2
       exact hr.blw hbl
      ·cases hq
     ·cases hq
    ·cases hq
   ·cases h
 | .skip, _, _, _, _, _, _, _, h, _, _ => by cases h
 | .label _, _, _, _, _, _, _, _, h, _, _ => by cases h
 | .exit _, _, _, _, _, _, _, _, h, _, _ => by cases h
 | .ret, _, _, _, _, _, _, _, h, _, _ => by cases h
 | .scope _, _, _, _, _, _, _, _, h, _, _ => by cases h
 | .loop _, _, _, _, _, _, _, _, h, _, _ => by cases h
 | .rangeFunc _ _ _ _, _, _, _, _, _, _, _, h, _, _ => by cases h
 | .goto _, _, _, _, _, _, _, _, h, _, _ => by cases h
 | .refuse _, _, _, _, _, _, _, _, h, _, _ => by cases h
theorem Ev.of_exD {C : Cal} {L : Lop} {g : FuncId} {fn : Func} {c : Code} (hm : S.P.follows .mixedOrders = true) (hS : S.OK) (hC : calOK S.P C) (hCD : ∀ g args h r h', S.CD C g args h = some (r, h') → EvG S.P (CD S.P) g args h r h') (hL : ∀ m, lopOK (S.xe C L (S.ae g fn.ntmps) m))
 (hf : S.P.funcs[g]? = some fn) (hb : fn.body = some c) (hn : (fn.name != "runtime.NumGoroutine") = true) {args : List PV} {h : Objs} {r : PV} {h' : Objs} (hlen : args.length ≤ fn.ntmps)
 (hA : S.exD C L (S.ae g fn.ntmps) h.length c (retK S.P fn.results.toList (S.prm g).ro h.length (flagL args)) (S.retD C L (S.ae g fn.ntmps) fn.results.toList (S.prm g).ro h.length (flagL args)) ⟨slots0 0 args, h⟩ = some (r, h')) : Ev S.P g args h r h' := by
 refine ⟨by grind [callable], fun out M B w vals hmem hheap hcnt hnew hv => ?_⟩
 have hI := inv_enter hlen hmem hheap hcnt hnew hv
 refine calls_of_wp_defers hf hb (wp_mono (exD_sound hm hS hC hL c hA hI rfl) fun e a' w' hl => ?_)
 obtain ⟨ax, σ', M', B', rfl, hG, hl⟩ := hl
 have fin : ∀ {M2 B2 σ2 w2}, GoodC fn.ntmps out h.length M B ⟨slots0 0 args, h⟩ (vals ++ Array.replicate (fn.ntmps - vals.size) undef) w M2 B2 σ2 a'.tmps w2 → retV S.P fn.results.toList (S.prm g).ro h.length (flagL args) σ2 = some (r, h') → ∃ v, (results fn a'.tmps).run S.P w2 = .ok v w2 ∧ ∃ v' M' B', Ending.returned v = .returned v' ∧ Post h B out M w r h' v' M' B' w2 := fun {M2 B2 σ2 w2} hG2 hk => by
  obtain ⟨r0, hret, rfl⟩ := ret_ok hk
  obtain ⟨v, hrun, M'', B'', hpost⟩ := fin_post (ro := (S.prm g).ro) hheap hG2 hret
  grind
 rcases hl with ⟨hk, hd⟩ | ⟨m, g2, ps, d, hm0, hd, hD, hk⟩
 ·have key : retV S.P fn.results.toList (S.prm g).ro h.length (flagL args) σ' = some (r, h') → Leaves S.P fn a'.tmps (fun e w' => ∃ v M' B', e = .returned v ∧ Post h B out M w r h' v M' B' w') a'.defers .returning w' := fun hk => by
   rw [hd]; exact fin hG hk
  cases ax with
  | normal => exact key hk
  | ret => exact key hk
  | exit i => cases hk
 ·have key : exCallH (S.xe (S.CD C) L (S.ae g fn.ntmps) h.length) none g2 ps (closeI σ'.h 3 (addI [] (PV.idsL ps))) (retV S.P fn.results.toList (S.prm g).ro h.length (flagL args)) σ' = some (r, h') → Leaves S.P fn a'.tmps (fun e w' => ∃ v M' B', e = .returned v ∧ Post h B out M w r h' v M' B' w') a'.defers .returning w' := fun hk => by
   obtain ⟨r1, h1, hE, hp⟩ := exCallH_someG (cd_cpmono S.P) hS.W hCD (fun _ _ _ x => x) hk
   unfold thenPut at hp
   split at hp
   ·rename_i σ2 hput
    obtain ⟨cap, vs, htar, hvals, hreps⟩ := hD
    have hreps : Reps M' B' ps vs.toList := hreps.mono ⟨fun _ _ _ x => x, fun i c hi => by
     rw [List.getElem?_take] at hi
     simp_all⟩
    have hcall := hE.1
    unfold callable at hcall
    split at hcall
    ·rename_i fn2 hfn2
     have hinv : (invoke d.target d.args).run S.P w' = .ok (.enter g2 vs) w' := by
      rw [htar]
      have hfn2' : S.P.funcs[g2]? = some fn2 := hfn2
      simp only [invoke, callFunc, run_program, Sem.run_bind, Result.andThen_ok]
      have hnb : fn2.body.isNone = false := by cases hb : fn2.body <;> simp [hb] at hcall ⊢
      grind [Sem.run_pure]
     rw [hd]
     refine ⟨by simp, _, cap, g2, vs, htar, hinv, ?_⟩
     refine CallsD.mono (call_soundG (cd_cpmono S.P) hG.inv hreps hE hput (R := fun e w2 => ∃ v, e = .returned v ∧ ∃ v2, (results fn a'.tmps).run S.P w2 = .ok v2 w2 ∧ ∃ v' M' B', Ending.returned v2 = .returned v' ∧ Post h B out M w r h' v' M' B' w2) fun v M2 B2 w2 hG2 => ?_) fun e u' w2 hh => ?_
     ·exact ⟨v, rfl, fin (hG.trans hG2.c) hp⟩
     ·obtain ⟨rfl, v, rfl, hh⟩ := hh
      exact hh
    grind
   simp_all
  cases ax with
  | normal => exact key hk
  | ret => exact key hk
  | exit i => cases hk
theorem sem_sound (hm : S.P.follows .mixedOrders = true) (hS : S.OK) (h0 : calOK S.P S.C0) : ∀ n, (calOK S.P (S.sem n).1 ∧ ∀ g args h r h', S.CD (S.sem n).1 g args h = some (r, h') → EvG S.P (CD S.P) g args h r h') ∧
 ∀ E m0 l m x (K : AX → ASt → R) σ v, S.wp E = E → (S.sem n).2 E m0 l m x K (σ.gc l m) = some v → roundsA m0 (awp E m0 x) (fun e σ' => K e σ' = some v) n σ
 | 0 => by
  refine ⟨⟨h0, fun g args h r h' hv => ?_⟩, fun _ _ _ _ _ _ _ _ _ h => by cases h⟩
  unfold SE.CD at hv
  split at hv
  ·cases hv
  ·rename_i hc
   split at hv
   ·cases hv
   ·rw [show (S.sem 0).1 g args h = S.C0 g args h from rfl, hc] at hv; cases hv
 | n + 1 => by
  obtain ⟨⟨ih1, ihD⟩, ih2⟩ := sem_sound hm hS h0 n
  have hlop : ∀ E m0, S.wp E = E → lopOK (S.xe (S.sem n).1 (S.sem n).2 E m0) := fun E m0 hE l m x K σ v hv => by
   refine ⟨n, ?_⟩
   exact ih2 E m0 l m x K σ v hE hv
  have body : ∀ {cp : CP} (g : FuncId) (args : List PV) (h : Objs) (r : PV) (h' : Objs), (∀ (fn : Func) (c : Code), S.P.funcs[g]? = some fn → fn.body = some c → ∀ (vals : Array Value) (w : World) (R : Ending → World → Prop), c.wp S.P (bodyPost S.P fn R) { tmps := vals ++ Array.replicate (fn.ntmps - vals.size) undef, defers := [] } w → cp g vals w R) →
   (S.prm g).df = false → S.run (S.sem n).1 (S.sem n).2 g args h = some (r, h') → EvG S.P cp g args h r h' := fun {cp} g args h r h' hcp hdf hv => by
   unfold SE.run at hv
   split at hv
   ·rename_i fn hf
    split at hv
    ·rename_i c hb
     split at hv
     ·rename_i hd
      rw [hdf] at hv
      simp only [Bool.and_eq_true, decide_eq_true_eq] at hd
      have key := exK_sound hS.V hS.W ih1 (hlop _ _ rfl) c hv
      refine EvG.of_awp (fun k => hcp _ _ hf hb _ _ _ k) hm hf hb hd.2 (S.prm g).vars (S.prm g).mv (S.prm g).mu (S.prm g).sz (S.prm g).jt (S.prm g).lt (S.prm g).pt (S.prm g).fz (S.prm g).ro (S.prm g).ft (S.prm g).sy (S.prm g).ln hd.1 (awp_mono c (fun e σ' he => ?_) key)
      cases e with
      | normal => exact ⟨trivial, ret_ok he⟩
      | ret => exact ⟨trivial, ret_ok he⟩
      | exit i => cases he
     ·cases hv
    ·cases hv
   ·cases hv
  refine ⟨⟨fun g args h r h' hv => ?_, fun g args h r h' hv => ?_⟩, fun E m0 l m x K σ v hE hv => ?_⟩
  ·have hv : orR (S.C0 g args h) (S.run (S.sem n).1 (S.sem n).2 g args h) = some (r, h') := hv
   cases hc : S.C0 g args h with
   | some x => rw [hc] at hv; injection hv with hv; subst hv; exact h0 _ _ _ _ _ hc
   | none =>
    rw [hc] at hv
    cases hdf : (S.prm g).df with
    | false => exact body g args h r h' (fun _ _ hf hb _ _ _ k => calls_of_wp hf hb k) hdf hv
    | true =>
     unfold SE.run at hv
     split at hv
     ·rename_i fn hf
      split at hv
      ·rename_i c hb
       split at hv
       ·rename_i hd
        rw [hdf] at hv
        simp only [Bool.and_eq_true, decide_eq_true_eq] at hd
        exact Ev.of_exD hm hS ih1 ihD (fun m => hlop _ _ rfl) hf hb hd.2 hd.1 hv
       ·cases hv
      ·cases hv
     ·cases hv
  ·unfold SE.CD at hv
   split at hv
   ·cases hv
   ·rename_i hc
    split at hv
    ·cases hv
    ·rename_i hdf
     have hv : orR (S.C0 g args h) (S.run (S.sem n).1 (S.sem n).2 g args h) = some (r, h') := hv
     rw [hc] at hv
     exact body g args h r h' (fun _ _ hf hb _ _ _ k => callsD_of_wp hf hb k) hdf hv
  ·have hv : S.turn (S.sem n).1 (S.sem n).2 E m0 l m x K (σ.gc l m) = some v := hv
   rw [turn_gc] at hv
   obtain ⟨hpl, hv⟩ := chk_some hv
   split at hv
   ·rename_i hc
    simp only [Bool.and_eq_true, decide_eq_true_eq] at hc
    rw [hE] at hv
    refine ⟨l, m, hc.1, gcOK_of hpl hc.2, awp_mono x (fun e σ' he => ?_) (exK_sound hS.V hS.W (by rw [← hE]; exact ih1) (hlop _ _ hE) x hv)⟩
    cases e with
    | normal => exact ih2 E m0 l m x K σ' v hE he
    | ret => exact he
    | exit i => exact he
   ·cases hv
theorem CC_of_sem (hS : S.OK) (n : Nat) {g : FuncId} {args : List PV} {h : Objs} {v : PV × Objs} (e : (S.sem n).1 g args h = some v) : S.CC g args h = some v := ((cals_good hS g args h).lim v).2 ⟨n, e⟩
theorem CC_sound (hm : S.P.follows .mixedOrders = true) (hS : S.OK) (h0 : calOK S.P S.C0) : calOK S.P S.CC := fun g args h r h' hv => by
 obtain ⟨n, hn⟩ := ((cals_good hS g args h).lim _).1 hv
 exact (sem_sound hm hS h0 n).1.1 g args h r h' hn
end
end Go.Proofs.YtkkgfoknknehfaaDoor

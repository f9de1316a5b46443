/-
  The operations that make, read or write memory, abstractly, and that the model does what is said.
  Stores, slice literals, append.
  Slice literals and append.
  Slice literals and append, the whole step.
  Append.
  The whole step of an operation; what a call of a function does ('Ev'); the abstract wp of code.
-/
import Derived.Test.YtkkgfoknknehfaaDoorAbG
import Derived.Lib.AppendStr
import Derived.Laws.MakeOwn
import Derived.WideMake
import Derived.Lib.OthersKept
namespace Go.Proofs.YtkkgfoknknehfaaDoor
set_option linter.unusedVariables false
set_option linter.unusedSimpArgs false
set_option linter.unnecessarySimpa false
set_option linter.unusedSectionVars false
open Go.RowKit
structure AE where
 P : Program
 n : Nat
 vars : List Nat
 mv : List Nat
 mu : List Nat
 sz : List (Nat × List Nat) := []
 jt : List (Nat × List Nat) := []
 lt : List (Nat × List Nat) := []
 pt : List (Nat × List Nat) := []
 fz : List Nat := []
 ft : List (Nat × List Nat) := []
 sy : List Nat := []
 ln : List Nat := []
def ASt.ev (σ : ASt) : Operand → Option PV
 | .tmp t => sget t σ.s
 | .const v => ofConst v
 | .func f => some (.func (.func f) [] [])
 | .global _ => none
def ASt.rd (σ : ASt) (x : Operand) : Option PV := (σ.ev x).map PV.un
def ASt.rdT (zs : List Nat) (σ : ASt) (x : Operand) : Option PV := (σ.rd x).map (PV.reszT zs)
def elT (P : Program) (t : TypeId) : List Nat := match elemOf' P t with | some e => cellSz P 8 e | none => []
def ASt.clr (σ : ASt) : Operand → ASt
 | .tmp t => match sget t σ.s with
  | some p => { σ with s := sput t p.un σ.s }
  | none => σ
 | _ => σ
def ASt.put (E : AE) (dst : Option Nat) (p : PV) (σ : ASt) : Option ASt :=
 match dst with
 | none => some σ
 | some d => if d < E.n then some { σ with s := sput d p σ.s } else none
def inMv (l : List Nat) : Option Nat → Bool
 | some d => l.contains d
 | none => false
def loadV (mv : Bool) (I : TI) (q : PV) (σ : ASt) : Option (PV × ASt) :=
 match q with
 | .cst e => if e.isAgg = I.agg ∧ e.size = I.size then some (e.un, σ) else none
 | .ptr i off => match σ.h[i]? with
  | some (some cs) =>
   if I.agg then (if off + I.size ≤ cs.length then some (.agg (((cs.drop off).take I.size).map PV.un), σ) else none)
   else match cs[off]? with
    | some p => if mv then some (p, { σ with h := σ.h.set i (some (cs.set off p.un)) }) else some (p.un, σ)
    | none => none
  | _ => none
 | _ => none
def storeV (I : TI) (a x : PV) (σ : ASt) : Option ASt :=
 match a with
 | .ptr i off => match σ.h[i]? with
  | some (some cs) => match x with
   | .agg ds => if ds.length = I.size ∧ off + I.size ≤ cs.length ∧ ds.all PV.one then some { σ with h := σ.h.set i (some (cs.take off ++ ds.map PV.un ++ cs.drop (off + I.size))) } else none
   | p => if p.one ∧ I.size = 1 ∧ off < cs.length then some { σ with h := σ.h.set i (some (cs.set off p)) } else none
  | _ => none
 | _ => none
def PV.okE : PV → Bool
 | .agg ds => ds.all PV.one && PV.flats ds
 | p => p.one && p.flat
theorem okE_flat {p : PV} (h : p.okE = true) : p.flat = true := by
 cases p with
 | agg ds => simp only [PV.okE, Bool.and_eq_true] at h; exact h.2
 | _ => first | (simp only [PV.okE, Bool.and_eq_true] at h; exact h.2) | (simp [PV.okE] at h)
def elemsPV (sz : Nat) : Nat → List (Nat × PV) → Option (List PV)
 | _, [] => some []
 | k, (i, p) :: ps => if i = k ∧ p.size = sz ∧ p.okE then (elemsPV sz (k + 1) ps).map (p.un :: ·) else none
def flatPV : List PV → List PV
 | [] => []
 | .agg ds :: ps => ds.map PV.un ++ flatPV ps
 | p :: ps => p.un :: flatPV ps
def frzPV (q : PV) : Option PV := match q.newCells with
 | some cs => if q.flat = true then some (match q with | .agg _ => .agg cs | _ => q) else none
 | none => none
def bldZ (b : Bool) (t : Nat) (i : Nat) (cs : List PV) : List PV := match b, cs with
 | true, [.nilp, .sl true 0 []] => (match Nat.beq t 0 || Nat.beq t ITT with | true => cs | false => [.bld t i, .slT []])
 | _, cs => cs
theorem bldZ_length (b : Bool) (t : TypeId) (i : Nat) (cs : List PV) : (bldZ b t i cs).length = cs.length := by
 unfold bldZ; grind
theorem bldZ_get {b : Bool} {t : TypeId} {i : Nat} {cs : List PV} {j : Nat} {p : PV} (h : (bldZ b t i cs)[j]? = some p) : cs[j]? = some p ∨ (j = 0 ∧ p = .bld t i ∧ cs[0]? = some .nilp ∧ cs.length = 2 ∧ (t ≠ 0 ∧ Nat.beq t ITT = false)) ∨ (j = 1 ∧ p = .slT [] ∧ cs[1]? = some (.sl true 0 [])) := by
 unfold bldZ at h
 split at h
 ·split at h
  simp_all
  ·rename_i ht
   rw [Bool.or_eq_false_iff] at ht
   match j with
   | 0 => simp at h; exact .inr (.inl ⟨rfl, h.symm, rfl, rfl, fun e => by simp_all, ht.2⟩)
   | 1 => simp_all
   | j + 2 => simp at h
 simp_all
def zeroTI (I : TI) : PV := match I.agg with
 | true => .agg (I.zero.map PV.un)
 | false => match I.zero with | [p] => p.un | _ => .nilp
def zeroCs (n : Nat) (I : TI) : List PV := match I.zero with
 | [p] => List.replicate n p
 | zs => (List.replicate n zs).flatten
theorem zeroCs_eq (n : Nat) (I : TI) : zeroCs n I = (List.replicate n I.zero).flatten := by
 unfold zeroCs
 split
 simp_all
 ·rfl
def strPVs (b : ByteArray) : List PV := b.data.toList.map fun x => .int .u8 x.toNat
theorem strPVs_length (b : ByteArray) : (strPVs b).length = b.size := by rw [strPVs, List.length_map]; rfl
theorem strPVs_bytes (b : ByteArray) : strPVs b = bytesPV b.data.toList := rfl
theorem bytesPV_append (a b : List UInt8) : bytesPV (a ++ b) = bytesPV a ++ bytesPV b := List.map_append
theorem bytesPV_length (a : List UInt8) : (bytesPV a).length = a.length := List.length_map _
def okLd (l : List Nat) : PV → Bool
 | .cst _ => true
 | .ptr i _ => inMv l (some (1000000 + i))
 | _ => false
def opT : Operand → Option Nat
 | .tmp t => some t
 | _ => none
def stOK (mu ln : List Nat) (d : Option Nat) (q : Option PV) : Bool := match inMv mu d with
 | true => (match q with | some (.ptr i _) => !inMv ln (some (1000000 + i)) | _ => false)
 | false => true
def oneB : List PV → Option Int
 | [.int .u8 c] => some c
 | _ => none
theorem oneB_spec {es : List PV} {c : Int} (h : oneB es = some c) : es = [.int .u8 c] := by
 unfold oneB at h; grind
theorem oneB_bytes {c : Int} (h0 : 0 ≤ c) (h1 : c < 256) : bytesPV [UInt8.ofNat c.toNat] = [.int .u8 c] := by
 have : (UInt8.ofNat c.toNat).toNat = c.toNat := UInt8.toNat_ofNat_of_lt' (by simp_all)
 grind [bytesPV]
def copySrc (σ : ASt) (sz : Nat) : PV → Option (Nat × List PV)
 | .sl _ sz' es => (match Nat.beq sz' sz || Nat.beq sz' 0 with | true => some (es.length, flatPV es) | false => none)
 | .slh j off m sz' => (match σ.h[j]? with
  | some (some cs) => if sz' = sz ∧ off + m * sz ≤ cs.length then some (m, ((cs.drop off).take (m * sz)).map PV.un) else none
  | _ => none)
 | _ => none
def keyK (P : Program) (k : TypeId) : Option (Option IntKind) := match P.underlying k with
 | some .string => some none
 | some (.int kd) => some (some kd)
 | _ => none
def zeroOf : Value → PV
 | .agg cs => .agg ((cs.toList.map zeroPV).map PV.un)
 | v => (zeroPV v).un
def zeroOK : Value → Bool
 | .agg cs => cs.toList.all (·.oneCell')
 | v => v.oneCell'
def mapTI (P : Program) (t : TypeId) : Option (Option IntKind × PV) := match P.underlying t with
 | some (.map k e) => (match keyK P k, (P.info? e).bind (·.zero) with
  | some s, some z => (match zeroOK z with | true => some (s, zeroOf z) | false => none)
  | _, _ => none)
 | _ => none
def eqK (s : Option IntKind) (a b : PV) : Option Bool := match s, a, b with
 | some kd, .int k x, .int k' y => (match decide (k = kd) && decide (k' = kd) with | true => some (x == y) | false => none)
 | none, .str x, .str y => some (x.data.toList == y.data.toList)
 | _, _, _ => none
def mapGet (s : Option IntKind) : List PV → PV → Option (Option PV)
 | k :: v :: L, q => (match eqK s q k with
  | some true => some (some v)
  | some false => mapGet s L q
  | none => none)
 | [], _ => some none
 | [_], _ => none
def mapOK (s : Option IntKind) : List PV → PV → Bool
 | k :: _ :: L, q => (match eqK s q k with | some _ => true | none => false) && mapOK s L q
 | [], _ => true
 | [_], _ => false
def mapHas (s : Option IntKind) : List PV → PV → Bool
 | k :: _ :: L, q => (match eqK s q k with | some true => true | _ => mapHas s L q)
 | _, _ => false
def mapMod (s : Option IntKind) : List PV → PV → PV → List PV
 | k :: v :: L, q, x => (match eqK s q k with | some true => q :: x :: L | _ => k :: v :: mapMod s L q x)
 | L, _, _ => L
def ltP : PV → PV → Bool
 | .str a, .str b => bltL a.data.toList b.data.toList
 | _, _ => false
def mapIns : List PV → PV → PV → List PV
 | k :: v :: L, q, x => (match ltP q k with | true => q :: x :: k :: v :: L | false => k :: v :: mapIns L q x)
 | _, q, x => [q, x]
def mapPut (s : Option IntKind) (L : List PV) (q x : PV) : List PV := match mapHas s L q with
 | true => mapMod s L q x
 | false => mapIns L q x
def mapC (b : Bool) (L : List PV) : PV := match b with | true => .mp L | false => .func (.yield MAPN) L []
def mapIn : List PV → Option (Bool × List PV)
 | [.func (.yield n) L []] => (match Nat.beq n MAPN with | true => some (false, L) | false => none)
 | [.mp L] => some (true, L)
 | _ => none
theorem mapIn_spec {cs L : List PV} {b : Bool} (h : mapIn cs = some (b, L)) : cs = [mapC b L] := by
 unfold mapIn at h
 split at h
 ·split at h
  ·rename_i hn; cases h; rw [Nat.eq_of_beq_eq_true hn]; rfl
  ·cases h
 ·cases h; rfl
 ·cases h
def iterC (s : ByteArray) (p : Int) : PV := .func (.yield ITN) [.str s, .int .i64 p] []
def iterIn : List PV → Option (ByteArray × Int)
 | [.func (.yield n) [.str s, .int .i64 p] []] => (match Nat.beq n ITN with | true => some (s, p) | false => none)
 | _ => none
theorem iterIn_spec {cs : List PV} {s : ByteArray} {p : Int} (h : iterIn cs = some (s, p)) : cs = [iterC s p] := by
 unfold iterIn at h
 split at h
 ·split at h
  ·rename_i hn; cases h; rw [Nat.eq_of_beq_eq_true hn]; rfl
  ·cases h
 ·cases h
def iterNx (s : ByteArray) (p : Int) : Int := p + ((Utf8.decode s p.toNat).2 : Int)
def iterRn (s : ByteArray) (p : Int) : Int := ((Utf8.decode s p.toNat).1 : Int)
def mapB (b : Bool) (B : Blk) : Blk := match b with | true => [] | false => B
theorem rep_mapC {M : Mem} {B : Blk} {b : Bool} {L : List PV} {v : Value} : Rep M B (mapC b L) v ↔ ∃ f, v = .func (.yield MAPN) f #[] ∧ Reps M (mapB b B) L f.toList := by
 cases b with
 | true => exact rep_mp
 | false =>
  refine rep_func.trans ⟨?_, ?_⟩
  ·rintro ⟨f, c, rfl, h1, h2⟩
   rw [reps_nil] at h2
   have : c = #[] := by rw [← Array.toList_inj]; exact h2
   subst this
   exact ⟨f, rfl, h1⟩
  ·rintro ⟨f, rfl, h1⟩
   exact ⟨f, #[], rfl, h1, reps_nil.2 rfl⟩
theorem mapC_own (b : Bool) (L : List PV) : (mapC b L).own = false := by cases b <;> rfl
def isKeyK (s : Option IntKind) (q : PV) : Bool := match s, q with
 | some kd, .int k _ => decide (k = kd)
 | none, .str _ => true
 | _, _ => false
def lookR (ok : Bool) (z : PV) : Option PV → PV
 | some p => (match ok with | true => .tuple [p.un, .bool true] | false => p.un)
 | none => (match ok with | true => .tuple [z, .bool false] | false => z)
def inPv (mu : List Nat) (d : Option Nat) : Bool := inMv mu (d.map (5000000 + ·))
def roLen (l : List Nat) (n : Nat) : Bool := l.all fun k => match Nat.ble 1000000 k with | true => Nat.blt (k - 1000000) n | false => true
def stOKm (mu ln : List Nat) (d : Option Nat) (q : Option PV) : Bool := match inMv mu (d.map (6000000 + ·)) with
 | true => (match q with | some (.bld _ i) => !inMv ln (some (1000000 + i)) | _ => false)
 | false => true
def stepV (E : AE) (o : Oper) (σ : ASt) : Option (PV × ASt) :=
 match o.op with
 | .move x => if inMv E.mv o.dst then (σ.ev x).map fun p => (p, σ.clr x) else (σ.rd x).map fun p => (p, σ)
 | .assign x => (σ.ev x).map fun p => (p, σ.clr x)
 | .alloc t => match inMv E.ln o.dst && !roLen E.ln σ.h.length with
  | true => none
  | false => (ti E.P t).map fun I => (.ptr σ.h.length 0, { σ with h := σ.h ++ [some (bldZ (inMv E.mu o.dst) t σ.h.length I.zero)] })
 | .box _ x => if inMv E.fz o.dst then ((σ.rd x).bind frzPV).map fun e => (.cst e, σ) else ((σ.rd x).bind PV.newCells).map fun cs => (.ptr σ.h.length 0, { σ with h := σ.h ++ [some cs] })
 | .load t a => match ti E.P t, σ.rd a with
  | some I, some q => (match inMv E.ln o.dst with | true => (match okLd E.ln q with | true => loadV false I q σ | false => none) | false => loadV (inMv E.mv o.dst) I q σ)
  | _, _ => none
 | .store t a x => match stOK E.mu E.ln (opT a) (σ.rd a) with
  | false => none
  | true => match ti E.P t, σ.rd a, σ.ev x, o.dst with
   | some I, some q, some p, none => (storeV I q p (σ.clr x)).map fun σ' => (.tuple [], σ')
   | _, _, _, _ => none
 | .buildSlice t len ps => match elemTI E.P t, partsPV (σ.rdT (elT E.P t)) ps.toList with
  | some I, some qs => match elemsPV I.size 0 qs with
   | some es => if es.length = len ∧ 0 < I.size ∧ len * I.size ≤ 16777216 then
    (if inMv E.mu o.dst then some (.slh σ.h.length 0 len I.size, { σ with h := σ.h ++ [some (flatPV es)] }) else (match inPv E.mu o.dst with
     | true => (match (flatPV es).all PV.lit with | true => some (.slp true len I.size (flatPV es), σ) | false => none)
     | false => some (.sl true I.size es, σ))) else none
   | none => none
  | _, _ => none
 | .makeSlice t l c => match elemTI E.P t, σ.rd l, σ.rd c with
  | some I, some (.int _ n), some (.int _ n') => (match inPv E.mu o.dst with
   | true => if 0 ≤ n ∧ n ≤ n' ∧ n' ≤ 1073741824 ∧ 0 < I.size ∧ I.bytes ≤ 1024 ∧ I.zero.all PV.lit = true then some (.slp true n.toNat I.size (zeroCs n.toNat I), σ) else none
   | false => if n = n' ∧ 0 ≤ n ∧ n ≤ 1073741824 ∧ 0 < I.size ∧ I.bytes ≤ 1024 then
    (if inMv E.mu o.dst then some (.slh σ.h.length 0 n.toNat I.size, { σ with h := σ.h ++ [some (zeroCs n.toNat I)] }) else if (zeroTI I).size = I.size ∧ (zeroTI I).okE = true then some (.sl true I.size (List.replicate n.toNat (zeroTI I)), σ) else none) else none)
  | _, _, _ => none
 | .makeMap t r => match inMv E.ln o.dst && !roLen E.ln σ.h.length with
  | true => none
  | false => (match mapTI E.P t, r with
   | some _, none => some (.bld 0 σ.h.length, { σ with h := σ.h ++ [some [mapC (inMv E.mu o.dst) []]] })
   | _, _ => none)
 | .lookup t m k ok => match mapTI E.P t, σ.rd m, σ.rd k with
  | some (s, z), some (.bld 0 i), some q => (match σ.h[i]? with
   | some (some cs) => (match mapIn cs with
    | some (_, L) => (match isKeyK s q, mapGet s L q with
     | true, some r => some (lookR ok z r, σ)
     | _, _ => none)
    | none => none)
   | _ => none)
  | _, _, _ => none
 | .mapUpdate t m k v => match mapTI E.P t, σ.rd m, σ.rd k, σ.rd v, o.dst with
  | some (s, _), some (.bld 0 i), some q, some x, none => (match σ.h[i]? with
   | some (some cs) => (match mapIn cs with
    | some (b, L) => (match isKeyK s q && (mapOK s L q && (!b || x.flat)) with
     | true => some (.tuple [], { σ with h := σ.h.set i (some [mapC b (mapPut s L q x)]) })
     | false => none)
    | none => none)
   | _ => none)
  | _, _, _, _, _ => none
 | .insert t m k v => match stOKm E.mu E.ln (opT m) (σ.rd m) with
  | false => none
  | true => match mapTI E.P t, σ.rd m, σ.rd k, σ.rd v, o.dst with
   | some (s, _), some (.bld 0 i), some q, some x, none => (match σ.h[i]? with
    | some (some cs) => (match mapIn cs with
     | some (b, L) => (match isKeyK s q && (mapOK s L q && (!b || x.flat)) with
      | true => some (.tuple [], { σ with h := σ.h.set i (some [mapC b (mapPut s L q x)]) })
      | false => none)
     | none => none)
    | _ => none)
   | _, _, _, _, _ => none
 | .range t x => match isStrT E.P t, σ.rd x with
  | true, some (.str s) => some (.bld ITT σ.h.length, { σ with h := σ.h ++ [some [iterC s 0]] })
  | _, _ => none
 | .next x b => match b, σ.rd x with
  | true, some (.bld T i) => (match σ.h[i]? with
   | some (some cs) => (match iterIn cs with
    | some (s, p) => (match Nat.beq T ITT && decide (0 ≤ p) with
     | true => (match decide (p < (s.size : Int)) with
      | true => some (.tuple [.bool true, .int .i64 p, .int .i32 (iterRn s p)], { σ with h := σ.h.set i (some [iterC s (iterNx s p)]) })
      | false => some (.tuple [.bool false], σ))
     | false => none)
    | none => none)
   | _ => none)
  | _, _ => none
 | .call c => match c.callee with
  | .builtin .copy => (match c.args.toList, c.argTypes.toList with
   | [x, y], [t, _] => (match elemTI E.P t, σ.rd x, σ.rd y with
    | some I, some (.slh i off n sz), some q => (match σ.h[i]?, copySrc σ sz q with
     | some (some cs), some (m, cells) => if I.size = sz ∧ 0 < sz ∧ off + n * sz ≤ cs.length then some (.int .i64 ((Nat.min m n : Nat) : Int), { σ with h := σ.h.set i (some (cs.take off ++ cells.take (Nat.min m n * sz) ++ cs.drop (off + Nat.min m n * sz))) }) else none
     | _, _ => none)
    | _, _, _ => none)
   | _, _ => none)
  | .builtin .clear => (match c.args.toList, c.argTypes.toList, o.dst with
   | [x], [t], none => (match elemTI E.P t, σ.rd x with
    | some I, some (.slh i off n sz) => (match σ.h[i]? with
     | some (some cs) => if I.size = sz ∧ off + n * sz ≤ cs.length then some (.tuple [], { σ with h := σ.h.set i (some (cs.take off ++ (zeroCs n I).map PV.un ++ cs.drop (off + n * sz))) }) else none
     | _ => none)
    | some _, some (.sl _ _ []) => some (.tuple [], σ)
    | _, _ => none)
   | _, _, _ => none)
  | .builtin .append => (match c.args.toList, c.argTypes.toList with
   | [s, x], [t, u] => (match elemTI E.P t, σ.ev s, σ.rd x with
    | some I, some (.sl ow sz es), some (.sl _ sz' es') => if (ow = true ∨ sz = 0) ∧ t = u ∧ 0 < I.size ∧ I.bytes ≤ 1024 ∧ (sz = I.size ∨ sz = 0) ∧ (sz' = I.size ∨ sz' = 0) then some (.sl true I.size (es ++ es'), σ.clr s) else none
    | some I, some (.sl ow sz es), some (.str b) => if (ow = true ∨ sz = 0) ∧ isBytesT E.P t = true ∧ isStrT E.P u = true ∧ I.size = 1 ∧ I.bytes ≤ 1024 ∧ (sz = I.size ∨ sz = 0) then some (.sl true I.size (es ++ strPVs b), σ.clr s) else none
    | some I, some (.slp true k sz cs), some (.sl _ sz' es') => if t = u ∧ 0 < I.size ∧ I.bytes ≤ 1024 ∧ sz = I.size ∧ (sz' = I.size ∨ sz' = 0) ∧ (flatPV es').all PV.lit = true then some (.slp true (k + es'.length) I.size (cs ++ flatPV es'), σ.clr s) else none
    | some I, some (.slT l), some (.str b) => if elemOf' E.P t = some byteT ∧ isStrT E.P u = true ∧ I.size = 1 ∧ I.bytes ≤ 1024 then some (.slT (l ++ b.data.toList), σ.clr s) else none
    | some I, some (.slT l), some (.sl _ sz' es') => (match oneB es' with
     | some c => if elemOf' E.P t = some byteT ∧ t = u ∧ I.size = 1 ∧ I.bytes ≤ 1024 ∧ sz' = 1 then some (.slT (l ++ [UInt8.ofNat c.toNat]), σ.clr s) else none
     | none => none)
    | _, _, _ => none)
   | _, _ => none)
  | _ => (popCall E.P σ.rd c).map fun p => (p, σ)
 | op => (pop E.P σ.rd op).map fun p => (p, σ)
def sideV (E : AE) (o : Oper) (σ : ASt) : Prop :=
 match o.op with
 | .call c => match c.callee with
  | .builtin .append => (match c.args.toList with
   | [s, x] => (match σ.ev s, σ.rd x with
    | some (.sl _ _ es), some (.sl _ _ es') => es.length + es'.length ≤ LIM
    | some (.sl _ _ es), some (.str b) => es.length + b.size ≤ LIM
    | some (.slp _ k _ _), some (.sl _ _ es') => k + es'.length ≤ LIM
    | some (.slT l), some (.str b) => l.length + b.size ≤ LIM
    | some (.slT l), some (.sl _ _ es') => (match oneB es' with | some c => l.length + 1 ≤ LIM ∧ 0 ≤ c ∧ c < 256 | none => True)
    | _, _ => True)
   | _ => True)
  | _ => True
 | _ => True
section
variable {n : Nat} {out : Nat → Nat} {M : Mem} {B : Blk} {σ : ASt} {a : Act} {w : World} {E : AE}
theorem Inv.ev (hI : Inv n M B out σ a.tmps w) {x : Operand} {p : PV} (h : σ.ev x = some p) : Rep M B p (a.eval x) ∧ Tl M w p (a.eval x) := by
 cases x with
 | tmp t => exact (hI.slots t p h).2
 | const v => obtain ⟨h1, _, h3⟩ := ofConst_rep h; exact ⟨h1, h3 w⟩
 | func f => cases h; exact ⟨rep_func.2 ⟨_, _, rfl, reps_nil.2 rfl, reps_nil.2 rfl⟩, tl_no rfl⟩
 | global g => cases h
theorem Inv.rd (hI : Inv n M B out σ a.tmps w) (x : Operand) (q : PV) (h : σ.rd x = some q) : Rep M B q (a.eval x) ∧ q.own = false := by
 unfold ASt.rd at h
 cases he : σ.ev x with
 | none => grind
 | some p => simp [he] at h; subst h; exact ⟨rep_un.2 (hI.ev he).1, un_own p⟩
theorem Inv.rdT (hI : Inv n M B out σ a.tmps w) (zs : List Nat) (x : Operand) (q : PV) (h : σ.rdT zs x = some q) : Rep M B q (a.eval x) ∧ q.own = false := by
 unfold ASt.rdT at h
 cases he : σ.rd x with
 | none => grind
 | some p => obtain ⟨h1, h2⟩ := hI.rd x p he; grind [rep_reszT, reszT_own]
theorem Inv.clrO (hI : Inv n M B out σ a.tmps w) {x : Operand} {p : PV} (h : σ.ev x = some p) : Inv n M B out (σ.clr x) a.tmps w ∧ (∀ b, fp B (σ.clr x) a.tmps w b + ownV p (a.eval x) b = fp B σ a.tmps w b) ∧ (σ.clr x).h = σ.h := by
 cases x with
 | tmp t =>
  have h' : sget t σ.s = some p := h
  have := hI.clr h'
  simp only [ASt.clr, h']
  exact ⟨this.1, this.2, trivial⟩
 | const v => exact ⟨hI, fun b => by rw [show a.eval (.const v) = v from rfl, (ofConst_rep (M := M) (B := B) h).2.1]; rfl, rfl⟩
 | func f => cases h; exact ⟨hI, fun b => by rfl, rfl⟩
 | global g => cases h
structure Pre (n : Nat) (out : Nat → Nat) (M : Mem) (B : Blk) (σ : ASt) (t : Array Value) (w : World) (M' : Mem) (B' : Blk) (σ' : ASt) (w' : World) (p : PV) (v : Value) : Prop where
 inv : Inv n M' B' out σ' t w'
 le : MLe M M' B B'
 fr : Fr (fp B σ t w) M w M' w'
 own : ∀ b, b < w.heap.size → fp B' σ' t w' b + ownV p v b ≤ fp B σ t w b
 rep : Rep M' B' p v
 tl : Tl M' w' p v
 cnt : ∀ b, fp B' σ' t w' b + ownV p v b + out b ≤ 1
 new : ∀ b, w'.heap.size ≤ b → ownV p v b = 0
theorem Pre.put {M' : Mem} {B' : Blk} {σ1 σ' : ASt} {w' : World} {p : PV} {v : Value} (h : Pre E.n out M B σ a.tmps w M' B' σ1 w' p v) {dst : Option Nat} (hp : ASt.put E dst p σ1 = some σ') :
 Good E.n out M B σ a.tmps w M' B' σ' (a.put dst v).tmps w' := by
 cases dst with
 | none =>
  cases hp
  exact ⟨h.inv, h.le, h.fr, fun b hb => by have := h.own b hb; show fp B' σ1 a.tmps w' b ≤ _; omega⟩
 | some d =>
  simp only [ASt.put] at hp
  split at hp
  ·rename_i hd
   cases hp
   obtain ⟨h1, h2⟩ := h.inv.putOwn hd h.rep h.tl h.cnt h.new
   exact ⟨h1, h.le, h.fr, fun b hb => Nat.le_trans (h2 b) (h.own b hb)⟩
  ·cases hp
theorem Pre.plain (hI : Inv n M B out σ a.tmps w) {p : PV} {v : Value} (hr : Rep M B p v) (ho : ∀ b, ownV p v b = 0) (hT : Tl M w p v) : Pre n out M B σ a.tmps w M B σ w p v :=
 ⟨hI, MLe.refl _ _, Fr.refl _ _ _, fun b _ => by rw [ho]; omega, hr, hT, fun b => by rw [ho]; exact hI.cnt b, fun b _ => ho b⟩
theorem Pre.ofGood {M' : Mem} {B' : Blk} {σ' : ASt} {w' : World} (h : Good n out M B σ a.tmps w M' B' σ' a.tmps w') {p : PV} {v : Value} (hr : Rep M' B' p v) (ho : p.own = false) : Pre n out M B σ a.tmps w M' B' σ' w' p v :=
 ⟨h.inv, h.le, h.fr, fun b hb => by rw [ownV_no ho]; exact h.own b hb, hr, tl_no ho, fun b => by rw [ownV_no ho]; exact h.inv.cnt b, fun b _ => ownV_no ho v b⟩
theorem Pre.moved (hI : Inv n M B out σ a.tmps w) {x : Operand} {p : PV} (h : σ.ev x = some p) : Pre n out M B σ a.tmps w M B (σ.clr x) w p (a.eval x) := by
 obtain ⟨h1, h2, h3⟩ := hI.clrO h
 obtain ⟨r1, r2⟩ := hI.ev h
 exact ⟨h1, MLe.refl _ _, Fr.refl _ _ _, fun b _ => by rw [h2]; omega, r1, r2, fun b => by rw [h2]; exact hI.cnt b, fun b hb => by have := h2 b; have := hI.new b hb; omega⟩
theorem alloc_run {P : Program} {t : TypeId} {I : TI} (h : ti P t = some I) (w : World) : ∃ vs : Array Value, (Instr.alloc t true (.tuple #[])).run P w = .ok (.pointer (some ⟨w.heap.size, 0, none⟩)) (w.alloc (.cells vs t)) ∧ vs.size = I.size ∧ I.zero = vs.toList.map zeroPV ∧ ∀ v, v ∈ vs → v.oneCell' = true := by
 obtain ⟨i, z, d, hT⟩ := ti_spec h
 refine ⟨z.cells, ?_, by rw [hT.zsize, hT.size], hT.izero, hT.one⟩
 simp only [Instr.alloc, Sem.run_bind, hT.run_zeroValue w, newRow]
 rfl
theorem cells_vals : ∀ {ps : List PV} {b o : Nat}, Cells M B ps b o → ∃ vs : List Value, Reps M B ps vs ∧ ∀ (j : Nat) v, vs[j]? = some v → M b (o + j) = some v
 | [], _, _, _ => ⟨[], reps_nil.2 rfl, by simp⟩
 | p :: ps, b, o, h => by
  obtain ⟨⟨u, hu, hr⟩, h2⟩ := cells_cons.1 h
  obtain ⟨vs, h3, h4⟩ := cells_vals h2
  refine ⟨u :: vs, reps_cons.2 ⟨u, vs, rfl, hr, h3⟩, fun j v hv => ?_⟩
  cases j with
  | zero => simp at hv; subst hv; exact hu
  | succ j => have := h4 j v (by simpa using hv); rwa [show o + (j + 1) = o + 1 + j by omega]
theorem loadVar_run {P : Program} {t : TypeId} {I : TI} (h : ti P t = some I) {b off : Nat} {w : World} :
 (I.agg = true → ∀ vs : List Value, vs.length = I.size → (∀ (j : Nat) v, vs[j]? = some v → w.cell? ⟨b, off + j, none⟩ = some v) → (Instr.loadAt t (.pointer (some ⟨b, off, none⟩))).run P w = .ok (.agg vs.toArray) w) ∧
 (I.agg = false → ∀ v, w.cell? ⟨b, off, none⟩ = some v → (Instr.loadAt t (.pointer (some ⟨b, off, none⟩))).run P w = .ok v w) := by
 obtain ⟨i, z, d, hT⟩ := ti_spec h
 constructor
 ·intro hg vs hl hv
  have := run_loadCells_list (P := P) w ⟨b, off, none⟩ vs (fun j v hj => by rw [add_lit]; simp_all)
  rw [hl] at this
  simp [Instr.loadAt, Instr.sureAddr, loadVar, hT.run_isAgg w, hg, hT.run_sizeOf w, this]
 ·intro hg v hv
  simp [Instr.loadAt, Instr.sureAddr, loadVar, hT.run_isAgg w, hg, hv]
theorem load_sound (hI : Inv n M B out σ a.tmps w) {P : Program} {t : TypeId} {I : TI} (h : ti P t = some I) {x : Operand} {q : PV} (hq : σ.rd x = some q) {mv : Bool} {p : PV} {σ1 : ASt} (hl : loadV mv I q σ = some (p, σ1)) :
 ∃ v, (Instr.loadAt t (a.eval x)).run P w = .ok v w ∧ Pre n out M B σ a.tmps w M B σ1 w p v := by
 have hr := (hI.rd x q hq).1
 unfold loadV at hl
 split at hl
 ·rename_i e
  split at hl
  ·rename_i hc
   cases hl
   obtain ⟨b, off, e1, hloc⟩ := rep_cst.1 hr
   have hloc := hloc.mono (MLe.zero M B)
   rw [e1]
   cases hg : I.agg with
   | true =>
    rw [hg] at hc
    cases e <;> simp [PV.isAgg] at hc
    obtain ⟨vs, h1, h2⟩ := cells_vals (loc_agg.1 hloc)
    have hlen := reps_length h1
    refine ⟨_, (loadVar_run h).1 hg vs (by grind [PV.size]) (fun j v hv => (hI.mem _ _ _ (h2 j v hv)).1), Pre.plain hI (rep_agg.2 ⟨_, rfl, by omega⟩) (fun b => ownV_no rfl _ _) (tl_no rfl)⟩
   | false =>
    rw [hg] at hc
    have h1 : e.isAgg = false := hc.1
    have h2 : ∀ cs, e ≠ .tuple cs := fun cs e' => by subst e'; exact loc_tuple.1 hloc
    obtain ⟨u, hu, hru⟩ := (loc_one h1 h2).1 hloc
    exact ⟨u, (loadVar_run h).2 hg u (hI.mem _ _ _ hu).1, Pre.plain hI (rep_un.2 hru) (fun b => ownV_un _ _ _) (tl_no (un_own _))⟩
  ·cases hl
 ·rename_i i off
  obtain ⟨c, ⟨hc, hcm⟩, e1⟩ := rep_ptr.1 hr
  rw [e1]
  split at hl
  ·rename_i cs hcs
   obtain ⟨vs, ty, r1, o2, o3, o4, o5⟩ := hI.heap.at hcs hc
   obtain ⟨ty, rfl, o1⟩ := rowAt_inv r1 (by rw [o2.2]; exact hcm)
   have hcell : ∀ (j : Nat) v, vs[j]? = some v → w.cell? ⟨c.1, j, none⟩ = some v := fun j v hv => by simp [World.cell?, o1, hv]
   split at hl
   ·rename_i hg
    split at hl
    ·cases hl
     have hreps : Reps M B (((cs.drop off).take I.size).map PV.un) ((vs.toList.drop off).take I.size) := by
      grind [reps_un, reps_of]
     refine ⟨_, (loadVar_run h).1 hg ((vs.toList.drop off).take I.size) (by simp; omega) (fun j v hv => ?_), Pre.plain hI (rep_agg.2 ⟨_, rfl, by omega⟩) (fun b => ownV_no rfl _ _) (tl_no rfl)⟩
     rw [List.getElem?_take] at hv
     simp_all
    ·cases hl
   ·have hg' : I.agg = false := by grind
    cases hp : cs[off]? with
    | none => simp_all
    | some p0 =>
     simp only [hp] at hl
     obtain ⟨v, hv, hrv, hTv, hone⟩ := o4 off p0 hp
     have hrun := (loadVar_run h).2 hg' v (hcell _ _ hv)
     cases mv with
     | false =>
      obtain ⟨rfl, rfl⟩ := hl
      exact ⟨v, hrun, Pre.plain hI (rep_un.2 hrv) (fun b => ownV_un _ _ _) (tl_no (un_own _))⟩
     | true =>
      simp at hl
      obtain ⟨rfl, rfl⟩ := hl
      have hlt := (List.getElem?_eq_some_iff.1 hp).1
      have hset : w.setCell ⟨c.1, off, none⟩ v = w := by
       have := setCell_eq_setRow w c.1 off vs ty (0, 0) v o1
       have e2 : vs.setIfInBounds off v = vs := by
        grind
       grind [setRow_self]
      have hcu : ∀ b, ownV p0.un v b = 0 := fun b => ownV_un _ _ _
      obtain ⟨s1, s2, s3, _, _⟩ := hI.setCell hcs hc hcm hlt (rep_un.2 hrv) (tl_no (un_own _)) hone (fun b => by rw [hcu]; exact hI.cnt b) (fun b _ => hcu b)
      rw [hset] at s1 s2 s3
      have hfp : ∀ b, fp B { σ with h := σ.h.set i (some (cs.set off p0.un)) } a.tmps w b + ownV p0 v b ≤ fp B σ a.tmps w b := fun b => by
       have key : ∀ (cs : List PV) (us : List Value) (j : Nat), cs[j]? = some p0 → us[j]? = some v → ownC (cs.set j p0.un) us b + ownV p0 v b = ownC cs us b := by
        intro cs
        induction cs with
        | nil => simp
        | cons q qs ih =>
         intro us j h1 h2
         cases us with
         | nil => simp at h2
         | cons u us =>
          cases j with
          | zero => grind [ownC]
          | succ j => grind [ownC]
       have key2 : ∀ (h : Objs) (B : Blk) (i : Nat), h[i]? = some (some cs) → B[i]? = some c → ownH w (h.set i (some (cs.set off p0.un))) B b + ownV p0 v b = ownH w h B b := by
        intro h
        induction h with
        | nil => simp
        | cons x h ih =>
         intro B i h1 h2
         cases B with
         | nil => simp at h2
         | cons d B =>
          cases i with
          | zero =>
           grind [cellsAt, ownH]
          | succ i =>
           have := ih B i h1 h2
           cases x <;> simp only [List.set_cons_succ, ownH] <;> omega
       have := key2 σ.h B i hcs hc
       simp only [fp]; omega
      exact ⟨v, hrun, s1, MLe.refl _ _, Fr.refl _ _ _, fun b _ => hfp b, hrv, hTv, fun b => by have := hfp b; have := hI.cnt b; omega, fun b hb => by have := hfp b; have := hI.new b hb; omega⟩
  ·cases hl
 ·cases hl
end
end Go.Proofs.YtkkgfoknknehfaaDoor
namespace Go.Proofs.YtkkgfoknknehfaaDoor
set_option linter.unusedVariables false
set_option linter.unusedSimpArgs false
set_option linter.unnecessarySimpa false
set_option linter.unusedSectionVars false
open Go.RowKit
section
variable {n : Nat} {out : Nat → Nat} {M : Mem} {B : Blk} {σ : ASt} {a : Act} {w : World} {t : Array Value}
theorem storeCells_sound {P : Program} {i : Nat} {c : Nat × Nat × TypeId} (hc : B[i]? = some c) (hcm : c.2.2 ≠ 0) {off : Nat} : ∀ (ds : List PV) (us : List Value) (k : Nat) (cs : List PV) (σ : ASt) (w : World), Inv n M B out σ t w → σ.h[i]? = some (some cs) →
 Reps M B ds us → (∀ d, d ∈ ds → d.own = false) → (∀ u, u ∈ us → u.oneCell' = true) → off + k + ds.length ≤ cs.length →
 ∃ w', (storeCells ⟨c.1, off, none⟩ us k).run P w = .ok () w' ∧ Good n out M B σ t w M B { σ with h := σ.h.set i (some (cs.take (off + k) ++ ds ++ cs.drop (off + k + ds.length))) } t w'
 | [], us, k, cs, σ, w, hI, hi, hr, _, _, _ => by
  rw [reps_nil] at hr; subst hr
  refine ⟨w, rfl, ?_⟩
  have : σ.h.set i (some (cs.take (off + k) ++ [] ++ cs.drop (off + k + ([] : List PV).length))) = σ.h := by
   simp only [List.append_nil, List.length_nil, Nat.add_zero, List.take_append_drop]
   apply List.ext_getElem?
   grind
  rw [this]; exact Good.refl hI
 | d :: ds, us, k, cs, σ, w, hI, hi, hr, hown, hone, hfit => by
  obtain ⟨u, us, rfl, h1, h2⟩ := reps_cons.1 hr
  have ho := hown d (by simp)
  have hu1 := hone u (by simp)
  simp only [List.length_cons] at hfit
  obtain ⟨s1, s2, s3, s4, s5⟩ := hI.setCell hi hc hcm (by omega : off + k < cs.length) h1 (tl_no ho) hu1 (fun b => by rw [ownV_no ho]; exact hI.cnt b) (fun b _ => ownV_no ho _ _)
  have hst : (store ((⟨c.1, off, none⟩ : Addr).add k) u).run P w = .ok () (w.setCell ⟨c.1, off + k, none⟩ u) := by
   rw [add_lit, run_store P w _ u _ hu1]
   grind
  have hi' : ({ σ with h := σ.h.set i (some (cs.set (off + k) d)) } : ASt).h[i]? = some (some (cs.set (off + k) d)) := List.getElem?_set_self (List.getElem?_eq_some_iff.1 hi).1
  obtain ⟨w', hw, hG⟩ := storeCells_sound (P := P) (off := off) hc hcm ds us (k + 1) (cs.set (off + k) d) _ _ s1 hi' h2 (fun e he => hown e (by simp [he])) (fun v hv => hone v (by simp [hv])) (by rw [List.length_set]; omega)
  refine ⟨w', by grind [storeCells, Sem.run_bind, Result.andThen_ok], ?_⟩
  have hG1 : Good n out M B σ t w M B { σ with h := σ.h.set i (some (cs.set (off + k) d)) } t (w.setCell ⟨c.1, off + k, none⟩ u) :=
   ⟨s1, MLe.refl _ _, s3, fun b _ => by have := s2 b; rw [ownV_no ho] at this; exact this⟩
  have := hG1.trans hG
  have e : (cs.set (off + k) d).take (off + (k + 1)) ++ ds ++ (cs.set (off + k) d).drop (off + (k + 1) + ds.length) = cs.take (off + k) ++ (d :: ds) ++ cs.drop (off + k + (d :: ds).length) := by
   have e1 : (cs.set (off + k) d).take (off + (k + 1)) = cs.take (off + k) ++ [d] := by
    apply List.ext_getElem?
    grind
   have e2 : (cs.set (off + k) d).drop (off + (k + 1) + ds.length) = cs.drop (off + k + (d :: ds).length) := by
    rw [List.drop_set_of_lt (by omega)]
    simp; omega
   rw [e1, e2]; simp
  rw [List.set_set, e] at this
  exact this
theorem reps_one {ds : List PV} {us : List Value} (h : Reps M B ds us) (ho : ∀ d, d ∈ ds → d.one = true) : ∀ u, u ∈ us → u.oneCell' = true := by
 intro u hu
 obtain ⟨j, hj⟩ := List.mem_iff_getElem?.1 hu
 have hl := reps_length h
 have hjl := (List.getElem?_eq_some_iff.1 hj).1
 have hd : ds[j]? = some ds[j] := List.getElem?_eq_getElem (by omega)
 obtain ⟨u', e, hr⟩ := reps_get h hd
 rw [e] at hj; cases hj
 exact (one_cells (ho _ (List.getElem_mem _)) hr).2
theorem store_sound (hI : Inv n M B out σ a.tmps w) {P : Program} {ty : TypeId} {I : TI} (h : ti P ty = some I) {x y : Operand} {q p : PV} (hq : σ.rd x = some q) (hp : σ.ev y = some p) {σ1 : ASt} (hs : storeV I q p (σ.clr y) = some σ1) :
 ∃ w' M' B', (Instr.storeAt ty (a.eval x) (a.eval y)).run P w = .ok () w' ∧ Pre n out M B σ a.tmps w M' B' σ1 w' (.tuple []) undef := by
 have hr := (hI.rd x q hq).1
 obtain ⟨hpr, hpT⟩ := hI.ev hp
 obtain ⟨i', z, d, hT⟩ := ti_spec h
 obtain ⟨c1, c2, c3⟩ := hI.clrO hp
 have hundef : Rep M B (.tuple []) undef := rep_tuple.2 ⟨#[], rfl, reps_nil.2 rfl⟩
 unfold storeV at hs
 split at hs
 ·rename_i i off
  obtain ⟨c, ⟨hc, hcm⟩, e1⟩ := rep_ptr.1 hr
  rw [e1]
  split at hs
  ·rename_i cs hcs
   split at hs
   ·rename_i ds
    split at hs
    ·rename_i hlen
     cases hs
     obtain ⟨vs, e2, hv⟩ := rep_agg.1 hpr
     have hvs : vs.size = I.size := by have := reps_length hv; simp_all
     have hone : ∀ d, d ∈ ds → d.one = true := fun d hd => List.all_eq_true.1 hlen.2.2 d hd
     ·obtain ⟨w', hw, hG⟩ := storeCells_sound hc hcm (off := off) (ds.map PV.un) vs.toList 0 cs _ _ c1 hcs (reps_un hv) (fun d hd => by grind [un_own]) (reps_one hv hone) (by simp; omega)
      refine ⟨w', M, B, ?_, ?_⟩
      ·rw [e2]
       have hsz : (Value.agg vs).cells.size = I.size := hvs
       simp only [Instr.storeAt, Instr.sureAddr, Sem.run_bind, Sem.run_pure, Result.andThen_ok, storeVar, hT.run_sizeOf w]
       rw [if_neg (by rw [hsz]; simp)]
       exact hw
      ·have hfp : ∀ b, fp B (σ.clr y) a.tmps w b = fp B σ a.tmps w b := fun b => by have := c2 b; exact this
       have e3 : ({ σ.clr y with h := (σ.clr y).h.set i (some (cs.take (off + 0) ++ ds.map PV.un ++ cs.drop (off + 0 + (ds.map PV.un).length))) } : ASt) = { σ.clr y with h := (σ.clr y).h.set i (some (cs.take off ++ ds.map PV.un ++ cs.drop (off + I.size))) } := by
        simp_all
       rw [e3] at hG
       exact ⟨hG.inv, hG.le, hG.fr.mono fun b _ h0 => by rw [hfp]; exact h0, fun b hb => by have := hG.own b hb; rw [hfp] at this; simpa [ownV, PV.own] using this, hundef, tl_no rfl, fun b => by have := hG.inv.cnt b; simpa [ownV, PV.own] using this, fun b _ => by rfl⟩
    ·cases hs
   ·split at hs
    ·rename_i p hnagg hcond
     cases hs
     obtain ⟨h1, h2, h3⟩ := hcond
     obtain ⟨k1, k2⟩ := one_cells h1 hpr
     obtain ⟨s1, s2, s3, s4, s5⟩ := c1.setCell hcs hc hcm h3 hpr hpT k2 (fun b => by rw [c2]; exact hI.cnt b) (fun b hb => by have := c2 b; have := hI.new b hb; omega)
     refine ⟨_, M, B, ?_, s1, MLe.refl _ _, s3.mono fun b _ h0 => by have := c2 b; omega, fun b _ => by have := s2 b; have := c2 b; simp only [ownV, PV.own]; simp; omega, hundef, tl_no rfl, fun b => by have := s1.cnt b; simpa [ownV, PV.own] using this, fun b _ => by rfl⟩
     have hst : (store ((⟨c.1, off, none⟩ : Addr).add 0) (a.eval y)).run P w = .ok () (w.setCell ⟨c.1, off, none⟩ (a.eval y)) := by
      rw [add_lit, run_store P w _ _ _ k2]
      grind
     simp only [Instr.storeAt, Instr.sureAddr, Sem.run_bind, Sem.run_pure, Result.andThen_ok, storeVar, hT.run_sizeOf w]
     grind [Sem.run_bind, Sem.run_pure, Result.andThen_ok, storeCells]
    ·cases hs
  ·cases hs
 ·cases hs
end
end Go.Proofs.YtkkgfoknknehfaaDoor
namespace Go.Proofs.YtkkgfoknknehfaaDoor
set_option linter.unusedVariables false
set_option linter.unusedSimpArgs false
set_option linter.unnecessarySimpa false
set_option linter.unusedSectionVars false
open Go.RowKit
section
variable {n : Nat} {out : Nat → Nat} {M M' : Mem} {B : Blk} {σ : ASt} {a : Act} {w : World} {t : Array Value}
theorem fill_seq (sz : Nat) : ∀ (vs : List (Nat × Value)) (k : Nat) (done rest : List Value), (∀ (j : Nat) v, vs[j]? = some v → v.1 = k + j ∧ v.2.cells.size = sz) → done.length = k * sz → rest.length = vs.length * sz →
 Instr.fill (fun i => some (i * sz, sz)) (done ++ rest).toArray vs = some (done ++ vs.flatMap fun v => v.2.cells.toList).toArray
 | [], k, done, rest, _, _, hr => by
  have : rest = [] := List.eq_nil_of_length_eq_zero (by grind)
  grind [Instr.fill]
 | v :: vs, k, done, rest, h, hd, hr => by
  obtain ⟨e1, e2⟩ := h 0 v rfl
  obtain ⟨i, v⟩ := v
  subst e1
  have hfold := fold_seg (i * sz) v.cells.toList 0 (done ++ rest).toArray (by simp [hd, e2]; rw [hr]; simp [Nat.add_mul])
  have ha : (v.cells.zipIdx.foldl (fun cs (c, j) => cs.setIfInBounds (i * sz + j) c) (done ++ rest).toArray) = ((v.cells.toList.zipIdx 0).foldl (fun (cs : Array Value) (cj : Value × Nat) => cs.setIfInBounds (i * sz + cj.2) cj.1) (done ++ rest).toArray) := by
   rw [← Array.foldl_toList, Array.toList_zipIdx]
  have hl : v.cells.toList.length = sz := by simpa using e2
  simp only [Nat.add_zero, hl, ← hd] at hfold
  rw [List.take_left, ← List.drop_drop, List.drop_left] at hfold
  rw [Instr.fill]
  simp only
  rw [if_neg (by simp [e2, hd, hr, Nat.add_mul]), ha]
  have harr : (v.cells.toList.zipIdx 0).foldl (fun (cs : Array Value) (cj : Value × Nat) => cs.setIfInBounds (i * sz + cj.2) cj.1) (done ++ rest).toArray = ((done ++ v.cells.toList) ++ rest.drop sz).toArray := by
   rw [← Array.toList_inj, ← hd, hfold]
  rw [harr, fill_seq sz vs (i + 1) (done ++ v.cells.toList) (rest.drop sz) (fun j x hx => by
   obtain ⟨a1, a2⟩ := h (j + 1) x (by simpa using hx)
   exact ⟨by omega, a2⟩) (by simp [hd, hl, Nat.add_mul]) (by simp [hr, Nat.add_mul])]
  simp
theorem loc_copy {p : PV} {b o b' o' : Nat} (h : Loc M B p b o) (hle : ∀ (b o : Nat) (v : Value), M b o = some v → M' b o = some v) (hc : ∀ j, j < p.size → ∀ v, M b (o + j) = some v → M' b' (o' + j) = some v) : Loc M' B p b' o' := by
 have hm : MLe M M' B B := ⟨hle, fun _ _ h => h⟩
 by_cases ha : p.isAgg = true
 ·cases p <;> simp [PV.isAgg] at ha
  refine loc_agg.2 (cells_of fun j q hq => ?_)
  obtain ⟨u, hu, hr⟩ := cells_get (loc_agg.1 h) hq
  exact ⟨u, hc j (List.getElem?_eq_some_iff.1 hq).1 u hu, hr.mono hm⟩
 ·have ha' : p.isAgg = false := by grind
  have ht : ∀ cs, p ≠ .tuple cs := fun cs e => by subst e; exact loc_tuple.1 h
  obtain ⟨u, hu, hr⟩ := (loc_one ha' ht).1 h
  have hsz : p.size = 1 := by cases p <;> first | rfl | (simp [PV.isAgg] at ha')
  refine (loc_one ha' ht).2 ⟨u, ?_, hr.mono hm⟩
  have := hc 0 (by omega) u (by omega)
  omega
theorem locs_copy {ps : List PV} {sz b o b' o' : Nat} (h : Locs M B sz ps b o) (hs : ∀ p, p ∈ ps → p.size = sz) (hle : ∀ (b o : Nat) (v : Value), M b o = some v → M' b o = some v) (hc : ∀ j, j < ps.length * sz → ∀ v, M b (o + j) = some v → M' b' (o' + j) = some v) : Locs M' B sz ps b' o' :=
 locs_of fun j p hp => loc_copy (locs_get h hp) hle fun i hi v hv => by
  have hj := (List.getElem?_eq_some_iff.1 hp).1
  have hsz := hs p (List.mem_of_getElem? hp)
  have : j * sz + i < ps.length * sz := by
   have : (j + 1) * sz ≤ ps.length * sz := Nat.mul_le_mul_right _ hj
   rw [Nat.add_mul] at this; omega
  have := hc (j * sz + i) this v (by rwa [show o + (j * sz + i) = o + j * sz + i by omega])
  rwa [show o' + (j * sz + i) = o' + j * sz + i by omega] at this
theorem loc_vals {p : PV} {b o : Nat} (h : Loc M B p b o) : ∃ vs : List Value, vs.length = p.size ∧ ∀ (j : Nat) v, vs[j]? = some v → M b (o + j) = some v := by
 by_cases ha : p.isAgg = true
 ·cases p <;> simp [PV.isAgg] at ha
  obtain ⟨vs, h1, h2⟩ := cells_vals (loc_agg.1 h)
  exact ⟨vs, (reps_length h1).symm, h2⟩
 ·have ha' : p.isAgg = false := by grind
  have ht : ∀ cs, p ≠ .tuple cs := fun cs e => by subst e; exact loc_tuple.1 h
  obtain ⟨u, hu, hr⟩ := (loc_one ha' ht).1 h
  have hsz : p.size = 1 := by cases p <;> first | rfl | (simp [PV.isAgg] at ha')
  refine ⟨[u], by simp [hsz], fun j v hv => ?_⟩
  grind
theorem locs_vals : ∀ {ps : List PV} {sz b o : Nat}, Locs M B sz ps b o → (∀ p, p ∈ ps → p.size = sz) → ∃ vs : List Value, vs.length = ps.length * sz ∧ ∀ (j : Nat) v, vs[j]? = some v → M b (o + j) = some v
 | [], _, _, _, _, _ => ⟨[], by simp, by simp⟩
 | p :: ps, sz, b, o, h, hs => by
  obtain ⟨h1, h2⟩ := locs_cons.1 h
  obtain ⟨us, u1, u2⟩ := loc_vals h1
  obtain ⟨vs, v1, v2⟩ := locs_vals h2 fun q hq => hs q (by simp [hq])
  have hp := hs p (by simp)
  refine ⟨us ++ vs, by simp [Nat.add_mul]; omega, fun j v hv => ?_⟩
  rcases Nat.lt_or_ge j us.length with hj | hj
  ·exact u2 j v (by rwa [List.getElem?_append_left hj] at hv)
  ·have := v2 (j - us.length) v (by rwa [List.getElem?_append_right hj] at hv)
   rwa [show o + sz + (j - us.length) = o + j by omega] at this
theorem elems_spec {sz : Nat} : ∀ {qs : List (Nat × PV)} {k : Nat} {es : List PV}, elemsPV sz k qs = some es → es.length = qs.length ∧ ∀ (j : Nat) q, qs[j]? = some q → q.1 = k + j ∧ q.2.size = sz ∧ q.2.okE = true ∧ es[j]? = some q.2.un
 | [], k, es, h => by grind [elemsPV]
 | (i, p) :: qs, k, es, h => by
  rw [elemsPV] at h
  split at h
  ·rename_i hc
   cases he : elemsPV sz (k + 1) qs with
   | none => grind
   | some es' =>
    simp [he] at h; subst h
    obtain ⟨h1, h2⟩ := elems_spec he
    refine ⟨by simp [h1], fun j q hq => ?_⟩
    cases j with
    | zero => simp at hq; subst hq; exact ⟨hc.1, hc.2.1, hc.2.2, rfl⟩
    | succ j =>
     obtain ⟨a1, a2, a3, a4⟩ := h2 j q (by simpa using hq)
     exact ⟨by omega, a2, a3, by simpa using a4⟩
  ·cases h
theorem flatMap_get {vs : List (Nat × Value)} {sz : Nat} (hs : ∀ (j : Nat) v, vs[j]? = some v → v.2.cells.size = sz) : ∀ {j : Nat} {v : Nat × Value}, vs[j]? = some v → ∀ i, i < sz → (vs.flatMap fun v => v.2.cells.toList)[j * sz + i]? = v.2.cells.toList[i]? := by
 induction vs with
 | nil => simp
 | cons u us ih =>
  intro j v h i hi
  have hu : u.2.cells.toList.length = sz := by simpa using hs 0 u rfl
  rw [List.flatMap_cons]
  cases j with
  | zero => grind
  | succ j =>
   rw [List.getElem?_append_right (by rw [Nat.add_mul]; omega), hu, show (j + 1) * sz + i - sz = j * sz + i by rw [Nat.add_mul]; omega]
   exact ih (fun j v h => hs (j + 1) v (by grind)) (by grind) i hi
theorem flatMap_len {vs : List (Nat × Value)} {sz : Nat} (hs : ∀ (j : Nat) v, vs[j]? = some v → v.2.cells.size = sz) : (vs.flatMap fun v => v.2.cells.toList).length = vs.length * sz := by
 induction vs with
 | nil => simp
 | cons u us ih =>
  rw [List.flatMap_cons, List.length_append, ih (fun j v h => hs (j + 1) v (by grind))]
  have hu : u.2.cells.toList.length = sz := by simpa using hs 0 u rfl
  grind
theorem literal_run {P : Program} {ty : TypeId} {I : TI} (hI' : elemTI P ty = some I) {len : Nat} {parts : Array (Nat × Value)} (hl : parts.size = len) (hs : ∀ (j : Nat) v, parts.toList[j]? = some v → v.1 = j ∧ v.2.cells.size = I.size) (hpos : 0 < I.size) (hsm : len * I.size ≤ 16777216) (w : World) :
 ∃ e, (Instr.buildSlice ty len parts).run P w = .ok (.slice (some ⟨w.heap.size, 0, none⟩) len len) (w.alloc (.cells (parts.toList.flatMap fun v => v.2.cells.toList).toArray e)) := by
 obtain ⟨e, i, z, d, hu, hT⟩ := elem_spec hI'
 refine ⟨e, ?_⟩
 have hsz := hT.size
 by_cases h0 : len = 0
 ·have hp : parts = #[] := by simp_all
  subst hp
  simp [Instr.buildSlice, run_underlying hu, hT.run_sizeOf w, Instr.fill, newRow]
  grind
 ·refine run_buildSlice w ty e len parts _ i z hu hT.info hT.zero (by rw [← hsz]; omega) (by grind [Nat.mul_ne_zero]) ?_
  have := fill_seq i.size parts.toList 0 [] ((List.range (len * i.size)).map (z.cells[· % z.cells.size]!)) (fun j v hv => by grind) (by simp) (by grind)
  have e : (Array.range (len * i.size)).map (z.cells[· % z.cells.size]!) = ([] ++ (List.range (len * i.size)).map (z.cells[· % z.cells.size]!)).toArray := by
   grind
  rw [e, this]; rfl
theorem build_parts {rd : Operand → Option PV} {ρ : Operand → Value} (hrd : ∀ x q, rd x = some q → Rep M B q (ρ x) ∧ q.own = false) {ps : Array (Nat × Operand)} {qs : List (Nat × PV)} (hq : partsPV rd ps.toList = some qs) {sz : Nat} {es : List PV} (he : elemsPV sz 0 qs = some es) :
 (∀ (j : Nat) v, (ps.map fun (i, x) => (i, ρ x)).toList[j]? = some v → v.1 = j ∧ v.2.cells.size = sz ∧ ∃ q : Nat × PV, qs[j]? = some q ∧ es[j]? = some q.2.un ∧ q.2.size = sz ∧ Rep M B q.2 v.2 ∧ q.2.okE = true) ∧ (ps.map fun (i, x) => (i, ρ x)).size = es.length := by
 obtain ⟨p1, p2⟩ := parts_rep hrd hq
 obtain ⟨e1, e2⟩ := elems_spec he
 have hps : (ps.map fun (i, x) => (i, ρ x)).toList = ps.toList.map fun ix => (ix.1, ρ ix.2) := by simp
 refine ⟨fun j v hv => ?_, by rw [e1, p1]; simp⟩
 rw [hps] at hv
 have hj := (List.getElem?_eq_some_iff.1 hv).1
 have hq' : qs[j]? = some (qs[j]'(by rw [p1]; exact hj)) := List.getElem?_eq_getElem _
 obtain ⟨a1, a2⟩ := p2 j _ v hq' hv
 obtain ⟨b1, b2, b3, b4⟩ := e2 j _ hq'
 refine ⟨by omega, ?_, _, hq', b4, b2, a2, b3⟩
 generalize qs[j]'(by rw [p1]; exact hj) = q at *
 cases hq2 : q.2 with
 | agg cs =>
  rw [hq2] at a2 b2
  obtain ⟨vs, hv2, hr⟩ := rep_agg.1 a2
  have := reps_length hr
  rw [hv2]
  simp [PV.size] at b2
  simp at this
  show vs.size = sz
  omega
 | tuple cs => rw [hq2] at b3; simp [PV.okE, PV.one] at b3
 | _ =>
  rw [(one_cells (by rw [hq2]; rfl) a2).1, ← b2, hq2]; rfl
theorem rep_cells_one {p : PV} {v : Value} (h : Rep M B p v) (hg : p.okE = true) : ∀ u, u ∈ v.cells.toList → u.oneCell' = true := by
 have key : p.one = true → ∀ u, u ∈ v.cells.toList → u.oneCell' = true := fun ho u hu => by
  rw [(one_cells ho h).1] at hu
  have : u = v := by grind
  subst this; exact (one_cells ho h).2
 cases p with
 | agg cs =>
  obtain ⟨vs, rfl, hr⟩ := rep_agg.1 h
  simp only [PV.okE, Bool.and_eq_true] at hg
  exact reps_one hr (List.all_eq_true.1 hg.1)
 | tuple cs => grind [PV.okE]
 | _ => exact key rfl
end
end Go.Proofs.YtkkgfoknknehfaaDoor
namespace Go.Proofs.YtkkgfoknknehfaaDoor
set_option linter.unusedVariables false
set_option linter.unusedSimpArgs false
set_option linter.unnecessarySimpa false
set_option linter.unusedSectionVars false
open Go.RowKit
section
variable {n : Nat} {out : Nat → Nat} {M : Mem} {B : Blk} {σ : ASt} {a : Act} {w : World} {E : AE}
theorem ownV_new {p : PV} {b0 off m c : Nat} {b : Nat} : ownV p (.slice (some ⟨b0, off, none⟩) m c) b ≤ if b0 = b then 1 else 0 := by
 grind [ownV]
theorem Pre.newRow (hI : Inv n M B out σ a.tmps w) {vs : Array Value} {ty : TypeId} {sz k : Nat} {es : List PV} {cap : Nat} (hpos : 0 < sz) (h1 : ∀ v, v ∈ vs → v.oneCell' = true) (hk : k = es.length * sz) (hcap : es.length ≤ cap) (hcap2 : cap * sz ≤ vs.size)
 (hs : ∀ e, e ∈ es → e.size = sz) (hl : Locs (laid M w.heap.size (vs.toList.take k)) [] sz es w.heap.size 0) :
 Pre n out M B σ a.tmps w (laid M w.heap.size (vs.toList.take k)) B σ (w.alloc (.cells vs ty)) (.sl true sz es) (.slice (some ⟨w.heap.size, 0, none⟩) es.length cap) := by
 obtain ⟨hG, hfp⟩ := hI.lay vs ty k h1
 have h0 := fun b (hb : w.heap.size ≤ b) => hI.new b hb
 refine ⟨hG.inv, hG.le, hG.fr, fun b hb => ?_, rep_sl.2 ⟨_, cap, rfl, hcap, hs, fun h => absurd h (by omega), fun _ => ⟨_, _, rfl, hl⟩⟩, ?_, fun b => ?_, fun b hb => ?_⟩
 grind [ownV_new]
 ·refine tl_mk (fun l h => by cases h) ?_
  intro sz' es' x n' cap' e ev
  grind [heap_alloc_new, laid_at, laid_new]
 ·have := ownV_new (p := .sl true sz es) (b0 := w.heap.size) (off := 0) (m := es.length) (c := cap) (b := b)
  have := hI.cnt b
  grind
 ·have := ownV_new (p := .sl true sz es) (b0 := w.heap.size) (off := 0) (m := es.length) (c := cap) (b := b)
  simp at hb
  rw [if_neg (by omega)] at this; omega
theorem lit_rep {M : Mem} {B : Blk} {p : PV} {u : Value} (h : p.lit = true) (hr : Rep M B p u) : Rep noM [] p u := by
 cases p with
 | int k n => exact rep_int.2 (rep_int.1 hr)
 | bool b => exact rep_bool.2 (rep_bool.1 hr)
 | str s => exact rep_str.2 (rep_str.1 hr)
 | _ => simp [PV.lit] at h
theorem lit_any {M : Mem} {B : Blk} {p : PV} {u : Value} (h : p.lit = true) (hr : Rep noM [] p u) : Rep M B p u := by
 cases p with
 | int k n => exact rep_int.2 (rep_int.1 hr)
 | bool b => exact rep_bool.2 (rep_bool.1 hr)
 | str s => exact rep_str.2 (rep_str.1 hr)
 | _ => simp [PV.lit] at h
theorem locs_cells {M : Mem} {sz b : Nat} : ∀ {es : List PV} {o : Nat}, Locs M [] sz es b o → (∀ e, e ∈ es → e.size = sz) → ∀ {j : Nat} {p : PV}, (flatPV es)[j]? = some p → ∃ u, M b (o + j) = some u ∧ Rep M [] p u
 | [], _, _, _, j, p, h => by simp [flatPV] at h
 | e :: es, o, hl, hs, j, p, h => by
  obtain ⟨h1, h2⟩ := locs_cons.1 hl
  have ih := fun {j : Nat} {p : PV} => locs_cells h2 (fun e he => hs e (by simp [he])) (j := j) (p := p)
  have hz := hs e (by simp)
  cases e with
  | agg ds =>
   rw [flatPV] at h
   simp only [PV.size] at hz
   rcases Nat.lt_or_ge j ds.length with hj | hj
   ·rw [List.getElem?_append_left (by grind)] at h
    cases hd : ds[j]? with
    | none => grind
    | some q =>
     simp [hd] at h; subst h
     obtain ⟨u, hu, hr⟩ := cells_get (loc_agg.1 h1) hd
     exact ⟨u, hu, rep_un.2 hr⟩
   grind
  | tuple ds => exact (loc_tuple.1 h1).elim
  | _ =>
   rw [flatPV] at h
   ·simp only [PV.size] at hz
    cases j with
    | zero =>
     simp at h; subst h
     obtain ⟨u, hu, hr⟩ := (loc_of_one rfl).1 h1
     exact ⟨u, hu, rep_un.2 hr⟩
    | succ j =>
     obtain ⟨u, hu, hr⟩ := ih h
     exact ⟨u, by rw [← hu]; congr 1; omega, hr⟩
   ·simp
theorem flat_len {sz : Nat} : ∀ {es : List PV}, (∀ e, e ∈ es → e.size = sz) → (flatPV es).length = es.length * sz
 | [], _ => by simp [flatPV]
 | e :: es, hs => by
  have ih := flat_len (es := es) fun e he => hs e (by simp [he])
  have hz := hs e (by simp)
  rw [List.length_cons, Nat.succ_mul]
  cases e with
  | agg ds => grind [PV.size, flatPV]
  | _ => simp only [PV.size] at hz; rw [flatPV, List.length_cons, ih, hz]; simp
theorem Pre.newRowP (hI : Inv n M B out σ a.tmps w) {vs : Array Value} {ty : TypeId} {sz k : Nat} {cs : List PV} {cap : Nat} (hpos : 0 < sz) (h1 : ∀ v, v ∈ vs → v.oneCell' = true) (hk : cs.length = k * sz) (hcap : k ≤ cap) (hcap2 : cap * sz ≤ vs.size)
 (hc : ∀ (j : Nat) p, cs[j]? = some p → p.lit = true ∧ ∃ u, vs[j]? = some u ∧ Rep noM [] p u ∧ u.oneCell' = true) :
 Pre n out M B σ a.tmps w (laid M w.heap.size (vs.toList.take 0)) B σ (w.alloc (.cells vs ty)) (.slp true k sz cs) (.slice (some ⟨w.heap.size, 0, none⟩) k cap) := by
 obtain ⟨hG, hfp⟩ := hI.lay vs ty 0 h1
 have h0 := fun b (hb : w.heap.size ≤ b) => hI.new b hb
 refine ⟨hG.inv, hG.le, hG.fr, fun b hb => ?_, rep_slp.2 ⟨_, cap, rfl, hcap⟩, ?_, fun b => ?_, fun b hb => ?_⟩
 grind [ownV_new]
 ·refine tl_mkp ?_
  intro k' sz' cs' x m' cap' e ev
  grind [heap_alloc_new, laid_at, laid_new]
 ·have := ownV_new (p := .slp true k sz cs) (b0 := w.heap.size) (off := 0) (m := k) (c := cap) (b := b)
  have := hI.cnt b
  grind
 ·have := ownV_new (p := .slp true k sz cs) (b0 := w.heap.size) (off := 0) (m := k) (c := cap) (b := b)
  simp at hb
  rw [if_neg (by omega)] at this; omega
theorem flat_get : ∀ {es : List PV} {p : PV}, p ∈ flatPV es → p.own = false
 | [], p, h => by simp [flatPV] at h
 | e :: es, p, h => by
  cases e with
  | agg ds =>
   rcases List.mem_append.1 h with h | h
   ·obtain ⟨x, _, rfl⟩ := List.mem_map.1 h; exact un_own x
   ·exact flat_get h
  | _ =>
   rw [flatPV] at h
   ·rcases List.mem_cons.1 h with rfl | h
    ·exact un_own _
    ·exact flat_get h
   ·simp
theorem flat_reps : ∀ {es : List PV} {vs : List (Nat × Value)}, es.length = vs.length → (∀ (j : Nat) e v, es[j]? = some e → vs[j]? = some v → Rep M B e v.2 ∧ e.okE = true) → Reps M B (flatPV es) (vs.flatMap fun v => v.2.cells.toList)
 | [], [], _, _ => reps_nil.2 rfl
 | [], _ :: _, h, _ => by simp at h
 | _ :: _, [], h, _ => by simp at h
 | e :: es, v :: vs, hl, h => by
  obtain ⟨h1, h2⟩ := h 0 e v rfl rfl
  have ih := flat_reps (by simpa using hl) fun j e v a b => h (j + 1) e v (by simpa using a) (by simpa using b)
  rw [List.flatMap_cons]
  cases e with
  | agg ds =>
   obtain ⟨us, e1, hr⟩ := rep_agg.1 h1
   rw [e1]
   exact reps_append (reps_un hr) ih
  | tuple ds => simp [PV.okE, PV.one] at h2
  | _ =>
   rw [flatPV]
   ·rw [(one_cells rfl h1).1]
    exact reps_cons.2 ⟨_, _, rfl, rep_un.2 h1, ih⟩
   ·simp
theorem un_okE (p : PV) : p.un.okE = p.okE := by cases p <;> rfl
theorem literal_sound (hI : Inv n M B out σ a.tmps w) {zs : List Nat} {P : Program} {ty : TypeId} {I : TI} (hT : elemTI P ty = some I) {ps : Array (Nat × Operand)} {qs : List (Nat × PV)} (hq : partsPV (σ.rdT zs) ps.toList = some qs) {es : List PV} (he : elemsPV I.size 0 qs = some es) {len : Nat} (hlen : es.length = len) (hpos : 0 < I.size) (hsm : len * I.size ≤ 16777216) :
 (∃ v w' M' B', (Instr.buildSlice ty len (ps.map fun (i, x) => (i, a.eval x))).run P w = .ok v w' ∧ Pre n out M B σ a.tmps w M' B' σ w' (.sl true I.size es) v) ∧
 (∃ v w' M' B', (Instr.buildSlice ty len (ps.map fun (i, x) => (i, a.eval x))).run P w = .ok v w' ∧ Pre n out M B σ a.tmps w M' B' { σ with h := σ.h ++ [some (flatPV es)] } w' (.slh σ.h.length 0 len I.size) v)
 ∧
 ((flatPV es).all PV.lit = true → ∃ v w' M' B', (Instr.buildSlice ty len (ps.map fun (i, x) => (i, a.eval x))).run P w = .ok v w' ∧ Pre n out M B σ a.tmps w M' B' σ w' (.slp true len I.size (flatPV es)) v)
 := by
 subst hlen
 obtain ⟨hp, hsz⟩ := build_parts (M := M) (B := B) (hI.rdT zs) hq he
 obtain ⟨e, hrun⟩ := literal_run hT hsz (fun j v hv => by grind) hpos hsm w
 generalize hps : (ps.map fun (i, x) => (i, a.eval x)) = parts at *
 have hfl := flatMap_len (vs := parts.toList) (sz := I.size) fun j v hv => (hp j v hv).2.1
 have hpl : parts.toList.length = es.length := by omega
 rw [hpl] at hfl
 have hes : ∀ (j : Nat) e v, es[j]? = some e → parts.toList[j]? = some v → Rep M B e v.2 ∧ e.okE = true ∧ e.size = I.size := fun j e v h1 h2 => by
  obtain ⟨_, _, q, _, h3, h4, h5, h6⟩ := hp j v h2
  rw [h1] at h3; cases h3
  exact ⟨rep_un.2 h5, by rw [un_okE]; exact h6, by rw [un_size]; exact h4⟩
 have hone : ∀ v, v ∈ (parts.toList.flatMap fun v => v.2.cells.toList) → v.oneCell' = true := by
  intro u hu
  obtain ⟨v, hv, hu⟩ := List.mem_flatMap.1 hu
  obtain ⟨j, hj⟩ := List.mem_iff_getElem?.1 hv
  grind [rep_cells_one]
 refine ⟨?_, ?_, ?_⟩
 ·refine ⟨_, _, _, _, hrun, Pre.newRow hI (k := es.length * I.size) hpos (by grind) rfl (Nat.le_refl _) (by simp [hfl]) (fun e he => ?_) (locs_of fun j p hj => ?_)⟩
  ·obtain ⟨j, hj⟩ := List.mem_iff_getElem?.1 he
   have hlt := (List.getElem?_eq_some_iff.1 hj).1
   exact (hes j e _ hj (List.getElem?_eq_getElem (by omega))).2.2
  ·have hlt := (List.getElem?_eq_some_iff.1 hj).1
   have hv : parts.toList[j]? = some (parts.toList[j]'(by omega)) := List.getElem?_eq_getElem (by omega)
   generalize parts.toList[j]'(by omega) = v at hv
   obtain ⟨r1, r2, r3⟩ := hes j p v hj hv
   have r1 := r1.flat [] (okE_flat r2)
   have hm := (laid_le hI ((parts.toList.flatMap fun v => v.2.cells.toList).toArray.toList.take (es.length * I.size))).none
   have hcell : ∀ i, i < I.size → ∀ u, v.2.cells.toList[i]? = some u → laid M w.heap.size ((parts.toList.flatMap fun v => v.2.cells.toList).toArray.toList.take (es.length * I.size)) w.heap.size (0 + j * I.size + i) = some u := fun i hi u hu => by
    rw [laid_at (laid_new hI), if_pos rfl, List.getElem?_take, if_pos (by
     have : (j + 1) * I.size ≤ es.length * I.size := Nat.mul_le_mul_right _ hlt
     rw [Nat.add_mul] at this; omega)]
    grind [flatMap_get]
   cases p with
   | agg ds =>
    obtain ⟨us, e1, hr⟩ := rep_agg.1 r1
    refine loc_agg.2 (cells_of fun i q hq => ?_)
    obtain ⟨u, hu, hru⟩ := reps_get hr hq
    have hi := (List.getElem?_eq_some_iff.1 hq).1
    simp [PV.size] at r3
    exact ⟨u, hcell i (by omega) u (by rw [e1]; exact hu), hru.mono hm⟩
   | tuple ds => simp [PV.okE, PV.one] at r2
   | _ =>
    refine (loc_of_one rfl).2 ⟨v.2, ?_, r1.mono hm⟩
    have := hcell 0 (by simp [PV.size] at r3; omega) v.2 (by rw [(one_cells rfl r1).1]; rfl)
    simpa using this
 ·have hfr : Reps M B (flatPV es) (parts.toList.flatMap fun v => v.2.cells.toList) := flat_reps hpl.symm fun j e v h1 h2 => ⟨(hes j e v h1 h2).1, (hes j e v h1 h2).2.1⟩
  have hG := hI.newObj (parts.toList.flatMap fun v => v.2.cells.toList).toArray e (flatPV es) (by have := reps_length hfr; simp_all) (fun j p hj => by
   grind [reps_get, flat_get, tl_no, ownV_no])
  refine ⟨_, _, _, _, hrun, Pre.ofGood hG (rep_slh.2 ⟨(w.heap.size, (parts.toList.flatMap fun v => v.2.cells.toList).toArray.size, e + 1), es.length, ⟨by rw [hI.heap.1]; simp, by simp⟩, rfl, Nat.le_refl _, by simp [hfl]⟩) rfl⟩
 ·intro hlit
  have hfr : Reps M B (flatPV es) (parts.toList.flatMap fun v => v.2.cells.toList) := flat_reps hpl.symm fun j e v h1 h2 => ⟨(hes j e v h1 h2).1, (hes j e v h1 h2).2.1⟩
  refine ⟨_, _, _, _, hrun, Pre.newRowP hI (k := es.length) hpos (by grind) (by have := reps_length hfr; omega) (Nat.le_refl _) (by simp [hfl]) fun j p hj => ?_⟩
  grind [reps_get, lit_rep]
end
end Go.Proofs.YtkkgfoknknehfaaDoor
namespace Go.Proofs.YtkkgfoknknehfaaDoor
set_option linter.unusedVariables false
set_option linter.unusedSimpArgs false
set_option linter.unnecessarySimpa false
set_option linter.unusedSectionVars false
open Go.RowKit
section
variable {n : Nat} {out : Nat → Nat} {M : Mem} {B : Blk} {σ : ASt} {a : Act} {w : World}
theorem append_run_grow {P : Program} {t ty e : TypeId} {i : TypeInfo} {z : Value} (ht : P.underlying t = some (.slice e)) (hi : P.info? e = some i) (hz : i.zero = some z) {base A' : Option Addr} {sLen sCap m c : Nat} {olds news : List Value}
 (hfo : (Builtin.firstCells i.size sLen (.slice base sLen sCap)).run P w.drew = .ok olds.toArray w.drew) (hfn : (Builtin.firstCells i.size m (.slice A' m c)).run P w.drew = .ok news.toArray w.drew)
 (hg : sCap < sLen + m) (h63 : sLen + m ≤ LIM) (hb : i.bytes ≤ 1024) :
 (Builtin.append_ #[t, t] ty #[.slice base sLen sCap, .slice A' m c]).run P w =
  .ok (.slice (some ⟨w.heap.size, 0, none⟩) (sLen + m) (grownCap w (sLen + m) sCap e)) (w.drew.alloc (.cells (olds.toArray ++ news.toArray ++ Builtin.zeroCells z.cells (grownCap w (sLen + m) sCap e - (sLen + m))) e)) := by
 unfold LIM at h63
 have hn : ¬ (sLen + m ≤ sCap) := by omega
 have h63' : ¬ (9223372036854775807 < ((sLen : Int) + (m : Int))) := by omega
 have hb2 : (sLen + m) * i.bytes ≤ 140737488355328 := Nat.le_trans (Nat.mul_le_mul h63 hb) (by decide)
 have h48' : ¬ (281474976710656 < Builtin.nextslicecap (sLen + m) sCap * i.bytes) := by have := growslice_fits hg hb2; omega
 simp [Builtin.append_, run_underlying ht, sizeOf, typeInfo, zeroValue, hi, hz, Builtin.lenOf, hn, h63', h48', Question.forced, hfo, hfn, newRow, grownCap]
 grind
theorem append_run_room {P : Program} {t ty e : TypeId} {i : TypeInfo} (ht : P.underlying t = some (.slice e)) (hi : P.info? e = some i) {g off : Nat} {A' : Option Addr} {sLen sCap m c : Nat} {news : List Value}
 (hfn : (Builtin.firstCells i.size m (.slice A' m c)).run P w = .ok news.toArray w) {cur : Array Value} {ty' : TypeId} (hh : w.heap[g]? = some (.cells cur ty' (0, 0))) (hroom : sLen + m ≤ sCap) (h1 : ∀ u, u ∈ news → u.oneCell' = true) (hfit : off + sLen * i.size + news.length ≤ cur.size) :
 (Builtin.append_ #[t, t] ty #[.slice (some ⟨g, off, none⟩) sLen sCap, .slice A' m c]).run P w =
  .ok (.slice (some ⟨g, off, none⟩) (sLen + m) sCap) (w.setRow g (cur.toList.take (off + sLen * i.size) ++ news ++ cur.toList.drop (off + sLen * i.size + news.length)).toArray) := by
 have hst := run_storeCells_at P g (off + sLen * i.size) ty' news 0 cur w hh (by omega) h1
 simp only [Nat.add_zero] at hst
 simp [Builtin.append_, run_underlying ht, sizeOf, typeInfo, hi, Builtin.lenOf, hroom, hfn, add_lit, hst]
theorem append_run_none {P : Program} {t ty e : TypeId} {i : TypeInfo} (ht : P.underlying t = some (.slice e)) (hi : P.info? e = some i) {A' : Option Addr} {c : Nat} {news : List Value}
 (hfn : (Builtin.firstCells i.size 0 (.slice A' 0 c)).run P w = .ok news.toArray w) :
 (Builtin.append_ #[t, t] ty #[.slice none 0 0, .slice A' 0 c]).run P w = .ok (.slice none 0 0) w := by
 simp [Builtin.append_, run_underlying ht, sizeOf, typeInfo, hi, Builtin.lenOf, hfn]
theorem fp_drew {t : Array Value} {b : Nat} : fp B σ t w.drew b = fp B σ t w b := by
 simp only [fp]; rw [ownH_congr (w' := w.drew) (w := w) b (fun _ _ _ _ _ => rfl)]
theorem first_cells {P : Program} {sz : Nat} {es : List PV} {A : Option Addr} {cap : Nat} (hs : ∀ e, e ∈ es → e.size = sz) (hle : es.length ≤ cap) (hA : es ≠ [] → ∃ b off, A = some ⟨b, off, none⟩ ∧ Locs M [] sz es b off) (hmem : ∀ (b o : Nat) (v : Value), M b o = some v → w.cell? ⟨b, o, none⟩ = some v ∧ v.oneCell' = true) :
 ∃ vs : List Value, vs.length = es.length * sz ∧ (∀ w', (∀ (b o : Nat) (v : Value), M b o = some v → w'.cell? ⟨b, o, none⟩ = some v) → (Builtin.firstCells sz es.length (.slice A es.length cap)).run P w' = .ok vs.toArray w') ∧ (∀ u, u ∈ vs → u.oneCell' = true) ∧
  ∀ (M' : Mem) (b' o' : Nat), (∀ (b o : Nat) (v : Value), M b o = some v → M' b o = some v) → (∀ (j : Nat) v, vs[j]? = some v → M' b' (o' + j) = some v) → Locs M' [] sz es b' o' := by
 cases A with
 | none =>
  have : es = [] := by
   simp_all
  subst this
  exact ⟨[], by simp, fun w' _ => by rfl, by simp, fun _ _ _ _ _ => locs_nil⟩
 | some x =>
  by_cases hcc : es = []
  ·subst hcc
   exact ⟨[], by simp, fun w' _ => run_firstCells_some (P := P) w' sz 0 x 0 cap [] (by simp) (fun j v hv => by simp at hv), by simp, fun _ _ _ _ _ => locs_nil⟩
  obtain ⟨b, off, hx, hl⟩ := hA hcc
  cases hx
  obtain ⟨vs, h1, h2⟩ := locs_vals hl hs
  refine ⟨vs, h1, fun w' hw => run_firstCells_some (P := P) w' sz es.length ⟨b, off, none⟩ es.length cap vs h1 (fun j v hv => by rw [add_lit]; simp_all), fun u hu => ?_, fun M' b' o' hM hc => locs_copy hl hs hM fun j hj v hv => ?_⟩
  ·obtain ⟨j, hj⟩ := List.mem_iff_getElem?.1 hu
   grind
  simp_all
theorem rep_own_any {M : Mem} {B : Blk} {o o' : Bool} {sz : Nat} {es : List PV} {v : Value} : Rep M B (.sl o sz es) v ↔ Rep M B (.sl o' sz es) v := by rw [rep_sl, rep_sl]
theorem sl_row {ow : Bool} {sz : Nat} {es : List PV} {v : Value} (how : ow = true ∨ sz = 0) (hr : Rep M B (.sl ow sz es) v) (hTl : Tl M w (.sl ow sz es) v) : ∀ A cap, v = .slice A es.length cap → (A = none → cap = 0) ∧ (sz = 0 → A = none) ∧ ∀ a, A = some a → (PV.sl ow sz es).own = true ∧ ∃ cs ty, w.heap[a.block]? = some (.cells cs ty (0, 0)) ∧ a.off + cap * sz ≤ cs.size ∧ (∀ o, a.off + es.length * sz ≤ o → M a.block o = none) ∧ a.spot = none ∧ a.off = 0 := fun A cap e1 => by
 obtain ⟨A', cap', e2, _, _, hzz, _⟩ := rep_sl.1 hr
 rw [e1] at e2; injection e2 with e3 _ e4; subst e3; subst e4
 by_cases h0 : sz = 0
 simp_all
 ·have := how.resolve_right h0
  subst this
  obtain ⟨h1, h2, h3⟩ := hTl.s sz es _ _ _ rfl e1
  exact ⟨h1, h2, fun a ha => ⟨rfl, h3 a ha⟩⟩
def RowF (w w' : World) (e : TypeId) (size : Nat) (v0 v : Value) : Prop := ∀ A n cap, v = .slice (some A) n cap → ∃ cs ty, w'.heap[A.block]? = some (.cells cs ty (0, 0)) ∧ ((ty = e ∧ cs.size = cap * size ∧ cap ≤ maxLen) ∨ ∃ A0 n0 cs0, v0 = .slice (some A0) n0 cap ∧ w.heap[A0.block]? = some (.cells cs0 ty (0, 0)) ∧ cs.size = cs0.size)
theorem append_sound0 (hI : Inv n M B out σ a.tmps w) {P : Program} {t u ty e : TypeId} {I : TI} {i : TypeInfo} {z : Value} {d : TypeDesc} (hTI : TIs P e I i z d) {s : Operand} {X : Value} {sz : Nat} {es es' : List PV} {p0 : PV} (hs : σ.ev s = some p0) (hr : Rep M B (.sl true sz es) (a.eval s))
 (hrow : ∀ A cap, a.eval s = .slice A es.length cap → (A = none → cap = 0) ∧ (sz = 0 → A = none) ∧ ∀ a, A = some a → p0.own = true ∧ ∃ cs ty, w.heap[a.block]? = some (.cells cs ty (0, 0)) ∧ a.off + cap * sz ≤ cs.size ∧ (∀ o, a.off + es.length * sz ≤ o → M a.block o = none) ∧ a.spot = none ∧ a.off = 0)
 (hpos : 0 < I.size) (hby : I.bytes ≤ 1024) (hsz0 : sz = I.size ∨ sz = 0) (hs2 : ∀ p, p ∈ es' → p.size = I.size) (hlim : es.length + es'.length ≤ LIM)
 {news : List Value} (n1 : news.length = es'.length * I.size) (n3 : ∀ u, u ∈ news → u.oneCell' = true)
 (n4 : ∀ (M' : Mem) (b' o' : Nat), (∀ (b o : Nat) (v : Value), M b o = some v → M' b o = some v) → (∀ (j : Nat) v, news[j]? = some v → M' b' (o' + j) = some v) → Locs M' [] I.size es' b' o')
 (rnone : es' = [] → (Builtin.append_ #[t, u] ty #[.slice none 0 0, X]).run P w = .ok (.slice none 0 0) w)
 (rroom : ∀ {g off sLen sCap : Nat} {cur : Array Value} {ty' : TypeId}, w.heap[g]? = some (.cells cur ty' (0, 0)) → sLen + es'.length ≤ sCap → off + sLen * i.size + news.length ≤ cur.size →
  (Builtin.append_ #[t, u] ty #[.slice (some ⟨g, off, none⟩) sLen sCap, X]).run P w = .ok (.slice (some ⟨g, off, none⟩) (sLen + es'.length) sCap) (w.setRow g (cur.toList.take (off + sLen * i.size) ++ news ++ cur.toList.drop (off + sLen * i.size + news.length)).toArray))
 (rgrow : ∀ {base : Option Addr} {sLen sCap : Nat} {olds : List Value}, (Builtin.firstCells i.size sLen (.slice base sLen sCap)).run P w.drew = .ok olds.toArray w.drew → sCap < sLen + es'.length → sLen + es'.length ≤ LIM →
  (Builtin.append_ #[t, u] ty #[.slice base sLen sCap, X]).run P w = .ok (.slice (some ⟨w.heap.size, 0, none⟩) (sLen + es'.length) (grownCap w (sLen + es'.length) sCap e)) (w.drew.alloc (.cells (olds.toArray ++ news.toArray ++ Builtin.zeroCells z.cells (grownCap w (sLen + es'.length) sCap e - (sLen + es'.length))) e))) :
 ∃ v w' M' B', (Builtin.append_ #[t, u] ty #[a.eval s, X]).run P w = .ok v w' ∧ Pre n out M B σ a.tmps w M' B' (σ.clr s) w' (.sl true I.size (es ++ es')) v ∧ RowF w w' e i.size (a.eval s) v := by
 have hsi := hTI.size
 have hbi := hTI.bytes
 obtain ⟨c1, c2, c3⟩ := hI.clrO hs
 obtain ⟨A, cap, e1, hle, hss, hzz, hA⟩ := rep_sl.1 hr
 obtain ⟨hn, hz, hTl⟩ := hrow A cap e1
 have hsz : sz = I.size ∨ es = [] := hsz0.imp id fun h => (hzz h).1
 have hs1 : ∀ p, p ∈ es → p.size = I.size := fun p hp => by
  grind
 have hA1 : es ≠ [] → ∃ b off, A = some ⟨b, off, none⟩ ∧ Locs M [] I.size es b off := fun hc => by
  simp_all
 obtain ⟨olds, o1, o2, o3, o4⟩ := first_cells (P := P) hs1 hle hA1 hI.mem
 have hsall : ∀ p, p ∈ es ++ es' → p.size = I.size := fun p hp => by
  grind
 rw [e1]
 by_cases hroom : es.length + es'.length ≤ cap
 ·cases A with
  | none =>
   have hc0 := hn rfl
   have h1 : es = [] := List.eq_nil_of_length_eq_zero (by omega)
   have h2 : es' = [] := List.eq_nil_of_length_eq_zero (by omega)
   subst h1; subst h2; subst hc0
   refine ⟨.slice none 0 0, w, M, B, rnone rfl, ⟨c1, MLe.refl _ _, Fr.refl _ _ _, fun b _ => ?_, rep_sl.2 ⟨none, 0, rfl, Nat.le_refl _, by simp, fun _ => ⟨rfl, rfl, rfl⟩, by simp⟩, tl_mk (fun l h => by cases h) fun _ _ _ _ _ _ e => by grind, fun b => ?_, fun b _ => by simp [ownV]⟩, fun A n cap e => by cases e⟩
   ·have := c2 b; simp [ownV] at *; omega
   ·have := c2 b; have := hI.cnt b; simp [ownV] at *; omega
  | some ad =>
   obtain ⟨g, off, rfl, hloc⟩ : ∃ b off, ad = ⟨b, off, none⟩ ∧ Locs M [] I.size es b off := by
    by_cases hc : es = []
    ·obtain ⟨_, _, _, _, _, _, hsp⟩ := hTl ad rfl
     have hsp := hsp.1
     exact ⟨ad.block, ad.off, by cases ad; simp_all, by rw [hc]; exact locs_nil⟩
    simp_all
   obtain ⟨hpo, cur, ty', t1, t2, t3, _, hoff0⟩ := hTl _ rfl
   simp only at t1 t2 t3 hoff0
   have hown : ∀ b, ownV p0 (a.eval s) b = if g = b then 1 else 0 := fun b => by rw [e1]; simp [ownV, hpo]
   have hg1 : fp B σ a.tmps w g = 1 ∧ out g = 0 ∧ fp B (σ.clr s) a.tmps w g = 0 := by
    have := hI.cnt g; have := c2 g; rw [hown, if_pos rfl] at this; omega
   have hfree : ∀ o, off + es.length * I.size ≤ o → M g o = none := fun o ho => t3 o (by
    simp_all)
   have hszI : sz = I.size := hsz0.resolve_right fun h => by have := hz h; cases this
   rw [hszI] at t2
   have hfit : off + es.length * I.size + news.length ≤ cur.size := by
    rw [n1]
    have : (es.length + es'.length) * I.size ≤ cap * I.size := Nat.mul_le_mul_right _ hroom
    rw [Nat.add_mul] at this; omega
   have hrun := rroom (g := g) (off := off) (sLen := es.length) (sCap := cap) t1 hroom (by rw [← hsi]; exact hfit)
   rw [← hsi] at hrun
   generalize hk : off + es.length * I.size = k at *
   have hlt : g < w.heap.size := (Array.getElem?_eq_some_iff.1 t1).1
   generalize hcur : (cur.toList.take k ++ news ++ cur.toList.drop (k + news.length)).toArray = cur' at *
   have hsz2 : cur'.size = cur.size := by rw [← hcur]; simp; omega
   have hnew : ∀ j, j < news.length → cur'[k + j]? = news[j]? := fun j hj => by
    rw [← hcur]
    rw [List.getElem?_toArray]
    have hl : (cur.toList.take k).length = k := by simp; omega
    rw [List.append_assoc, List.getElem?_append_right (by omega), hl, Nat.add_sub_cancel_left, List.getElem?_append_left hj]
   have hold : ∀ o, o < k → cur'[o]? = cur[o]? := fun o ho => by
    rw [← hcur]
    rw [List.getElem?_toArray]
    have hl : (cur.toList.take k).length = k := by simp; omega
    rw [List.append_assoc, List.getElem?_append_left (by omega), List.getElem?_take, if_pos ho]; simp
   have hM : ∀ (b o : Nat) (v : Value), M b o = some v → (if b = g ∧ k ≤ o ∧ o < k + news.length then news[o - k]? else M b o) = some v := fun b o v h => by
    by_cases hc : b = g ∧ k ≤ o ∧ o < k + news.length
    simp_all
    ·rw [if_neg hc]; exact h
   have hheap : (w.setRow g cur').heap[g]? = some (.cells cur' ty' (0, 0)) := setRow_heap w g cur _ ty' (0, 0) t1
   have hoth : ∀ b, b ≠ g → (w.setRow g cur').heap[b]? = w.heap[b]? := fun b hb => setRow_other w g b _ hb
   obtain ⟨M2, hM2⟩ : ∃ M2 : Mem, ∀ b o, M2 b o = if b = g ∧ k ≤ o ∧ o < k + news.length then news[o - k]? else M b o := ⟨mkM _ _, mkM_of fun b o v h => hM b o v (M.g _ _ _ h)⟩
   have hle2 : MLe M M2 B B := ⟨fun b o v h => by rw [hM2]; grind, fun _ _ h => h⟩
   obtain ⟨f1, f2⟩ := c1.ext (w' := w.setRow g cur') hle2 (fun b o v h => by
    by_cases hb : b = g
    ·subst hb
     have hcell : (w.setRow b cur').cell? ⟨b, o, none⟩ = cur'[o]? := by simp [World.cell?, hheap]
     rw [hcell]
     by_cases hc : k ≤ o ∧ o < k + news.length
     ·rw [hM2, if_pos ⟨rfl, hc⟩] at h
      have := hnew (o - k) (by omega)
      rw [show k + (o - k) = o by omega] at this
      grind
     ·rw [hM2, if_neg (fun x => hc x.2)] at h
      have hm := hI.mem b o v h
      have : o < k := by
       grind
      have h3 : w.cell? ⟨b, o, none⟩ = cur[o]? := by simp [World.cell?, t1]
      grind
    ·rw [hM2, if_neg (fun x => hb x.1)] at h
     have hm := hI.mem b o v h
     grind [World.cell?_of_block]) (fun b hb => by
    have hbg : b ≠ g := fun e => by grind
    grind) (by simp [World.setRow])
   have hcnt2 : ∀ b, ownV (.sl true I.size (es ++ es')) (.slice (some ⟨g, off, none⟩) (es.length + es'.length) cap) b = if g = b then 1 else 0 := fun b => by rfl
   refine ⟨_, _, _, _, hrun, ⟨f1, hle2, ⟨rfl, rfl, rfl, by simp [World.setRow], fun b hb h0 => ?_⟩, fun b hb => ?_, rep_sl.2 ⟨_, cap, by rw [List.length_append], by rw [List.length_append]; exact hroom, hsall, fun h => absurd h (by omega), fun _ => ?_⟩, ?_, fun b => ?_, fun b hb => ?_⟩, fun A2 n2' cap2 e2 => by
    grind⟩
   ·have hbg : b ≠ g := fun e => by grind
    grind
   grind
   ·refine ⟨g, off, rfl, locs_append (hloc.mono hle2.none) ?_⟩
    rw [hk]
    refine n4 _ _ _ hle2.mem fun j v hv => ?_
    have hj := (List.getElem?_eq_some_iff.1 hv).1
    rw [hM2, if_pos ⟨rfl, by omega, by omega⟩, Nat.add_sub_cancel_left]; exact hv
   ·refine tl_mk (fun l h => by cases h) ?_
    intro sz2 es2 x2 n2' cap2 e3 e4
    cases e3; cases e4
    refine ⟨by simp, fun h => absurd h (by omega), fun x hx => ?_⟩
    cases hx
    refine ⟨cur', ty', hheap, by rw [hsz2]; exact t2, fun o ho => ?_, rfl, hoff0⟩
    simp only at ho
    have hkk : off + (es ++ es').length * I.size = k + news.length := by rw [List.length_append, Nat.add_mul, n1]; omega
    grind
   ·rw [f2, hcnt2]; have := c2 b; rw [hown] at this; have := hI.cnt b; omega
   ·rw [hcnt2, if_neg]
    grind
 ·have hrun := rgrow (base := A) (sLen := es.length) (sCap := cap) (olds := olds) (by rw [← hsi]; exact o2 w.drew fun b o v h => (hI.mem b o v h).1) (by omega) hlim
  obtain ⟨d1, d2⟩ := c1.drew
  have hge := grownCap_ge w (es.length + es'.length) cap e
  have hlen : (es ++ es').length * I.size = olds.length + news.length := by rw [o1, n1, List.length_append, Nat.add_mul]
  have htake : ((olds.toArray ++ news.toArray ++ Builtin.zeroCells z.cells (grownCap w (es.length + es'.length) cap e - (es.length + es'.length))).toList.take ((es ++ es').length * I.size)) = olds ++ news := by
   rw [hlen]
   grind [List.take_left]
  have hone : ∀ v, v ∈ (olds.toArray ++ news.toArray ++ Builtin.zeroCells z.cells (grownCap w (es.length + es'.length) cap e - (es.length + es'.length))) → v.oneCell' = true := fun v hv => by
   rcases Array.mem_append.1 hv with hv | hv
   grind
   ·unfold Builtin.zeroCells at hv
    obtain ⟨j, hj, rfl⟩ := Array.mem_map.1 hv
    by_cases h0 : z.cells.size = 0
    ·rw [h0] at hj; simp at hj
    ·have : j % z.cells.size < z.cells.size := Nat.mod_lt _ (by omega)
     rw [getElem!_pos z.cells _ this]
     exact hTI.one _ (Array.getElem_mem _)
  have hmem := d1.mem
  have hpre := Pre.newRow (a := a) d1 (ty := e) (sz := I.size) (k := (es ++ es').length * I.size) (es := es ++ es') (cap := grownCap w (es.length + es'.length) cap e) hpos hone rfl (by rw [List.length_append]; exact hge) (by
   simp only [Array.size_append, List.size_toArray, size_zeroCells, hTI.zsize, ← hsi, o1, n1]
   rw [← Nat.add_mul, ← Nat.add_mul]
   exact Nat.mul_le_mul_right _ (by omega)) hsall (by
   rw [htake]
   have hle := laid_le d1 (olds ++ news)
   refine locs_append (o4 _ _ _ hle.mem fun j v hv => ?_) (n4 _ _ _ hle.mem fun j v hv => ?_)
   ·show laid M w.drew.heap.size (olds ++ news) w.drew.heap.size (0 + j) = some v
    rw [laid_at (laid_new d1), if_pos rfl, Nat.zero_add, List.getElem?_append_left (List.getElem?_eq_some_iff.1 hv).1]; exact hv
   ·show laid M w.drew.heap.size (olds ++ news) w.drew.heap.size (0 + es.length * I.size + j) = some v
    rw [laid_at (laid_new d1), if_pos rfl, Nat.zero_add, ← o1, List.getElem?_append_right (Nat.le_add_right _ _), Nat.add_sub_cancel_left]; exact hv)
  rw [List.length_append] at hpre
  refine ⟨_, _, _, _, hrun, ⟨hpre.inv, hpre.le, ?_, fun b hb => ?_, hpre.rep, hpre.tl, hpre.cnt, hpre.new⟩, fun A2 n2' cap2 e2 => by
   cases e2
   refine ⟨_, e, heap_alloc_new w.drew _, .inl ⟨rfl, ?_, grownCap_le_maxLen w _ cap e (by unfold LIM at hlim; unfold maxLen; omega)⟩⟩
   simp only [Array.size_append, List.size_toArray, size_zeroCells, hTI.zsize, o1, n1, hsi]
   rw [← Nat.add_mul, ← Nat.add_mul]
   congr 1
   omega⟩
  ·refine (Fr.trans (f := fp B σ a.tmps w) (g := fp B (σ.clr s) a.tmps w.drew) (M' := M) (w' := w.drew) ⟨rfl, rfl, rfl, Nat.le_refl _, fun _ _ _ => ⟨rfl, fun _ => rfl⟩⟩ hpre.fr fun b hb h0 => ?_)
   have := c2 b
   rw [fp_drew]
   omega
  ·have h1 := hpre.own b hb
   have h2 := c2 b
   rw [fp_drew] at h1
   exact Nat.le_trans h1 (by omega)
def RowH (M : Mem) (w : World) (p0 : PV) (sz : Nat) (es : List PV) (v : Value) : Prop := ∀ A cap, v = .slice A es.length cap → (A = none → cap = 0) ∧ (sz = 0 → A = none) ∧ ∀ a, A = some a → p0.own = true ∧ ∃ cs ty, w.heap[a.block]? = some (.cells cs ty (0, 0)) ∧ a.off + cap * sz ≤ cs.size ∧ (∀ o, a.off + es.length * sz ≤ o → M a.block o = none) ∧ a.spot = none ∧ a.off = 0
theorem map3 {α : Type} {p : α → World → Prop} {q : α → World → Mem → Blk → Prop} {r r' : α → World → Prop} (hm : ∀ v w', r v w' → r' v w') (h : ∃ v w' M' B', p v w' ∧ q v w' M' B' ∧ r v w') : ∃ v w' M' B', p v w' ∧ q v w' M' B' ∧ r' v w' := let ⟨v, w', M', B', h1, h2, h3⟩ := h; ⟨v, w', M', B', h1, h2, hm v w' h3⟩
theorem drop3 {α : Type} {p : α → World → Prop} {q : α → World → Mem → Blk → Prop} {r : α → World → Prop} (h : ∃ v w' M' B', p v w' ∧ q v w' M' B' ∧ r v w') : ∃ v w' M' B', p v w' ∧ q v w' M' B' := let ⟨v, w', M', B', h1, h2, _⟩ := h; ⟨v, w', M', B', h1, h2⟩
theorem append_soundR (hI : Inv n M B out σ a.tmps w) {P : Program} {t ty : TypeId} {I : TI} (hT : elemTI P t = some I) {s x : Operand} {sz sz' : Nat} {es es' : List PV} {o : Bool} {p0 : PV} (hs : σ.ev s = some p0) (hrs : Rep M B (.sl true sz es) (a.eval s)) (hrow : RowH M w p0 sz es (a.eval s)) (hx : σ.rd x = some (.sl o sz' es'))
 (hpos : 0 < I.size) (hby : I.bytes ≤ 1024) (hsz0 : sz = I.size ∨ sz = 0) (hsz0' : sz' = I.size ∨ sz' = 0) (hlim : es.length + es'.length ≤ LIM) :
 ∃ v w' M' B', (Builtin.append_ #[t, t] ty #[a.eval s, a.eval x]).run P w = .ok v w' ∧ Pre n out M B σ a.tmps w M' B' (σ.clr s) w' (.sl true I.size (es ++ es')) v ∧ ∃ e, P.underlying t = some (.slice e) ∧ RowF w w' e I.size (a.eval s) v := by
 obtain ⟨e, i, z, d, hu, hTI⟩ := elem_spec hT
 have hsi := hTI.size
 have hbi := hTI.bytes
 have hr' := (hI.rd x _ hx).1
 obtain ⟨A', cap', e2, hle', hss', hz', hA'⟩ := rep_sl.1 hr'
 have hsz' : sz' = I.size ∨ es' = [] := hsz0'.imp id fun h => (hz' h).1
 have hs2 : ∀ p, p ∈ es' → p.size = I.size := fun p hp => by
  grind
 have hA2 : es' ≠ [] → ∃ b off, A' = some ⟨b, off, none⟩ ∧ Locs M [] I.size es' b off := fun hc => by
  simp_all
 obtain ⟨news, n1, n2, n3, n4⟩ := first_cells (P := P) hs2 hle' hA2 hI.mem
 rw [e2]
 refine map3 (fun v w' h => ⟨e, hu, hsi ▸ h⟩) (append_sound0 (ty := ty) (u := t) hI hTI hs hrs hrow hpos hby hsz0 hs2 hlim n1 n3 n4 (X := .slice A' es'.length cap') (fun h0 => ?_) (fun hh hroom hfit => ?_) (fun hfo hg h63 => ?_))
 ·subst h0
  exact append_run_none hu hTI.info (by rw [← hsi]; exact n2 w fun b o v h => (hI.mem b o v h).1)
 ·exact append_run_room hu hTI.info (by rw [← hsi]; exact n2 w fun b o v h => (hI.mem b o v h).1) hh hroom n3 hfit
 ·exact append_run_grow hu hTI.info hTI.zero hfo (by rw [← hsi]; exact n2 w.drew fun b o v h => (hI.mem b o v h).1) hg h63 (by rw [← hbi]; exact hby)
theorem append_sound (hI : Inv n M B out σ a.tmps w) {P : Program} {t ty : TypeId} {I : TI} (hT : elemTI P t = some I) {s x : Operand} {sz sz' : Nat} {es es' : List PV} {o ow : Bool} (how : ow = true ∨ sz = 0) (hs : σ.ev s = some (.sl ow sz es)) (hx : σ.rd x = some (.sl o sz' es'))
 (hpos : 0 < I.size) (hby : I.bytes ≤ 1024) (hsz0 : sz = I.size ∨ sz = 0) (hsz0' : sz' = I.size ∨ sz' = 0) (hlim : es.length + es'.length ≤ LIM) :
 ∃ v w' M' B', (Builtin.append_ #[t, t] ty #[a.eval s, a.eval x]).run P w = .ok v w' ∧ Pre n out M B σ a.tmps w M' B' (σ.clr s) w' (.sl true I.size (es ++ es')) v := by
 obtain ⟨hrs, hTl⟩ := hI.ev hs
 exact drop3 (append_soundR hI hT hs (rep_own_any.1 hrs) (sl_row how hrs hTl) hx hpos hby hsz0 hsz0' hlim)
theorem append_run_grow_s {P : Program} {t u ty e : TypeId} {i : TypeInfo} {z : Value} (ht : P.underlying t = some (.slice e)) (hu : P.underlying u = some .string) (hi : P.info? e = some i) (hz : i.zero = some z) {base : Option Addr} {sLen sCap : Nat} {olds : List Value} {s : ByteArray}
 (hfo : (Builtin.firstCells i.size sLen (.slice base sLen sCap)).run P w.drew = .ok olds.toArray w.drew) (hg : sCap < sLen + s.size) (h63 : sLen + s.size ≤ LIM) (hb : i.bytes ≤ 1024) :
 (Builtin.append_ #[t, u] ty #[.slice base sLen sCap, .string s]).run P w =
  .ok (.slice (some ⟨w.heap.size, 0, none⟩) (sLen + s.size) (grownCap w (sLen + s.size) sCap e)) (w.drew.alloc (.cells (olds.toArray ++ (Lib.strCells s).toArray ++ Builtin.zeroCells z.cells (grownCap w (sLen + s.size) sCap e - (sLen + s.size))) e)) := by
 unfold LIM at h63
 have hn : ¬ (sLen + s.size ≤ sCap) := by omega
 have h63' : ¬ (9223372036854775807 < ((sLen : Int) + (s.size : Int))) := by omega
 have hb2 : (sLen + s.size) * i.bytes ≤ 140737488355328 := Nat.le_trans (Nat.mul_le_mul h63 hb) (by decide)
 have h48' : ¬ (281474976710656 < Builtin.nextslicecap (sLen + s.size) sCap * i.bytes) := by have := growslice_fits hg hb2; omega
 have hfn := Lib.run_firstCells_string (P := P) w.drew i.size s
 simp [Builtin.append_, run_underlying ht, run_underlying hu, sizeOf, typeInfo, zeroValue, hi, hz, Builtin.lenOf, hn, h63', h48', Question.forced, hfo, hfn, newRow, grownCap]
 grind
theorem append_run_none_s {P : Program} {t u ty e : TypeId} {i : TypeInfo} (ht : P.underlying t = some (.slice e)) (hu : P.underlying u = some .string) (hi : P.info? e = some i) {s : ByteArray} (h0 : s.size = 0) :
 (Builtin.append_ #[t, u] ty #[.slice none 0 0, .string s]).run P w = .ok (.slice none 0 0) w := by
 have hfn := Lib.run_firstCells_string (P := P) w i.size s
 rw [h0, show Lib.strCells s = [] from List.eq_nil_of_length_eq_zero (by rw [Lib.strCells_length]; exact h0)] at hfn
 simp [Builtin.append_, run_underlying ht, run_underlying hu, sizeOf, typeInfo, hi, Builtin.lenOf, h0, hfn]
theorem append_soundR_s (hI : Inv n M B out σ a.tmps w) {P : Program} {t u ty : TypeId} {I : TI} (hT : elemTI P t = some I) (hst : isStrT P u = true) {s x : Operand} {sz : Nat} {es : List PV} {b : ByteArray} {p0 : PV} (hs : σ.ev s = some p0) (hrs : Rep M B (.sl true sz es) (a.eval s)) (hrow : RowH M w p0 sz es (a.eval s)) (hx : σ.rd x = some (.str b))
 (hsz1 : I.size = 1) (hby : I.bytes ≤ 1024) (hsz0 : sz = I.size ∨ sz = 0) (hlim : es.length + b.size ≤ LIM) :
 ∃ v w' M' B', (Builtin.append_ #[t, u] ty #[a.eval s, a.eval x]).run P w = .ok v w' ∧ Pre n out M B σ a.tmps w M' B' (σ.clr s) w' (.sl true I.size (es ++ strPVs b)) v ∧ ∃ e, P.underlying t = some (.slice e) ∧ RowF w w' e I.size (a.eval s) v := by
 obtain ⟨e, i, z, d, hu, hTI⟩ := elem_spec hT
 have hsi := hTI.size
 have hbi := hTI.bytes
 have hus := isStrT_spec hst
 rw [rep_str.1 (hI.rd x _ hx).1]
 have hpl := strPVs_length b
 refine map3 (fun v w' h => ⟨e, hu, hsi ▸ h⟩) (append_sound0 (ty := ty) (u := u) (t := t) (X := .string b) hI hTI hs hrs hrow (es' := strPVs b) (by omega) hby hsz0 (fun p hp => ?_) (by rw [hpl]; exact hlim) (news := Lib.strCells b) (by rw [Lib.strCells_length, hpl, hsz1, Nat.mul_one]) (Lib.strCells_oneCell b) (fun M' b' o' hM hc => ?_) (fun h0 => ?_) (fun {g off sLen sCap cur ty'} hh hroom hfit => ?_) (fun hfo hg h63 => ?_))
 ·obtain ⟨x, _, rfl⟩ := List.mem_map.1 hp
  rw [hsz1]; rfl
 ·rw [hsz1]
  refine locs_of fun j p hj => ?_
  unfold strPVs at hj
  rw [List.getElem?_map] at hj
  cases hv : b.data.toList[j]? with
  | none => simp_all
  | some v =>
   simp [hv] at hj; subst hj
   refine (loc_of_one rfl).2 ⟨_, ?_, rep_int.2 rfl⟩
   rw [Nat.mul_one]
   grind [Lib.strCells]
 ·exact append_run_none_s hu hus hTI.info (by rw [← hpl, h0]; rfl)
 ·rw [hpl] at hroom ⊢
  have hst2 := run_storeCells_at P g (off + sLen * i.size) ty' (Lib.strCells b) 0 cur w hh (by omega) (Lib.strCells_oneCell b)
  simp only [Nat.add_zero] at hst2
  have hfn := Lib.run_firstCells_string (P := P) w i.size b
  simp [Builtin.append_, run_underlying hu, run_underlying hus, sizeOf, typeInfo, hTI.info, Builtin.lenOf, hroom, hfn, add_lit, hst2]
 ·rw [hpl] at hg h63 ⊢
  exact append_run_grow_s hu hus hTI.info hTI.zero hfo hg h63 (by rw [← hbi]; exact hby)
theorem append_sound_s (hI : Inv n M B out σ a.tmps w) {P : Program} {t u ty : TypeId} {I : TI} (hT : elemTI P t = some I) (hbt : isBytesT P t = true) (hst : isStrT P u = true) {s x : Operand} {sz : Nat} {es : List PV} {b : ByteArray} {ow : Bool} (how : ow = true ∨ sz = 0) (hs : σ.ev s = some (.sl ow sz es)) (hx : σ.rd x = some (.str b))
 (hsz1 : I.size = 1) (hby : I.bytes ≤ 1024) (hsz0 : sz = I.size ∨ sz = 0) (hlim : es.length + b.size ≤ LIM) :
 ∃ v w' M' B', (Builtin.append_ #[t, u] ty #[a.eval s, a.eval x]).run P w = .ok v w' ∧ Pre n out M B σ a.tmps w M' B' (σ.clr s) w' (.sl true I.size (es ++ strPVs b)) v := by
 obtain ⟨hrs, hTl⟩ := hI.ev hs
 exact drop3 (append_soundR_s hI hT hst hs (rep_own_any.1 hrs) (sl_row how hrs hTl) hx hsz1 hby hsz0 hlim)
theorem slT_row {l : List UInt8} {v : Value} (hTl : TlT M w (.slT l) v) : RowH M w (.slT l) 1 (bytesPV l) v := fun A cap e => by
 obtain ⟨h1, h2⟩ := hTl l A _ cap rfl e
 refine ⟨h1, fun h => absurd h (by omega), fun x hx => ⟨rfl, ?_⟩⟩
 grind [bytesPV_length]
theorem Pre.slT {M' : Mem} {B' : Blk} {σ' : ASt} {w' : World} {v v0 : Value} {l l' : List UInt8} {es : List PV} {ts : Array Value} (he : es = bytesPV l') (h : Pre n out M B σ ts w M' B' σ' w' (.sl true 1 (bytesPV l ++ es)) v) (h1 : RowF w w' byteT 1 v0 v) (h0 : TlT M w (.slT l) v0) :
 Pre n out M B σ ts w M' B' σ' w' (.slT (l ++ l')) v := by
 subst he
 have ho : ∀ b, ownV (.slT (l ++ l')) v b = ownV (.sl true 1 (bytesPV l ++ bytesPV l')) v b := fun b => by rfl
 refine ⟨h.inv, h.le, h.fr, fun b hb => by rw [ho]; exact h.own b hb, ?_, ⟨(fun _ _ _ _ _ e => by cases e), fun l2 A m cap e ev => ?_, fun _ _ _ _ _ _ e _ => by cases e⟩, fun b => by rw [ho]; exact h.cnt b, fun b hb => by rw [ho]; exact h.new b hb⟩
 ·refine rep_slT_un.1 ?_
  rw [bytesPV_append]
  exact rep_own_any.1 h.rep
 ·cases e
  obtain ⟨t1, _, t3⟩ := h.tl.s 1 _ A m cap rfl ev
  refine ⟨t1, fun x hx => ?_⟩
  obtain ⟨cs, ty, g1, g2, g3, g4, g5⟩ := t3 x hx
  subst hx
  obtain ⟨cs', ty', k1, k2⟩ := h1 x m cap ev
  rw [g1] at k1
  injection k1 with k1; injection k1 with k1 k3 _; subst k1; subst k3
  have hf : ∀ o, (l ++ l').length ≤ o → M' x.block o = none := fun o ho => g3 o (by rw [← bytesPV_append, bytesPV_length, g5]; omega)
  rcases k2 with ⟨rfl, q1, q2⟩ | ⟨A0, n0, cs0, q1, q2, q3⟩
  simp_all
  ·obtain ⟨_, z2⟩ := h0 l (some A0) n0 cap rfl q1
   grind
theorem elemOf_spec {P : Program} {t e : TypeId} (h : elemOf' P t = some e) : P.underlying t = some (.slice e) := by
 grind [elemOf']
theorem append_slT_s (hI : Inv n M B out σ a.tmps w) {P : Program} {t u ty : TypeId} {I : TI} (hT : elemTI P t = some I) (hbt : elemOf' P t = some byteT) (hst : isStrT P u = true) {s x : Operand} {l : List UInt8} {b : ByteArray} (hs : σ.ev s = some (.slT l)) (hx : σ.rd x = some (.str b))
 (hsz1 : I.size = 1) (hby : I.bytes ≤ 1024) (hlim : l.length + b.size ≤ LIM) :
 ∃ v w' M' B', (Builtin.append_ #[t, u] ty #[a.eval s, a.eval x]).run P w = .ok v w' ∧ Pre n out M B σ a.tmps w M' B' (σ.clr s) w' (.slT (l ++ b.data.toList)) v := by
 obtain ⟨hrs, hTl⟩ := hI.ev hs
 obtain ⟨v, w', M', B', h1, h2, e, h3, h4⟩ := append_soundR_s (ty := ty) hI hT hst hs (rep_own_any.1 (rep_slT_un.2 hrs)) (slT_row hTl.t) hx hsz1 hby (.inl hsz1.symm) (by rw [bytesPV_length]; exact hlim)
 rw [elemOf_spec hbt] at h3; cases h3
 rw [hsz1] at h2 h4
 exact ⟨v, w', M', B', h1, h2.slT (strPVs_bytes b) h4 hTl.t⟩
theorem append_slT (hI : Inv n M B out σ a.tmps w) {P : Program} {t ty : TypeId} {I : TI} (hT : elemTI P t = some I) (hbt : elemOf' P t = some byteT) {s x : Operand} {l : List UInt8} {o : Bool} {c : Int} (hs : σ.ev s = some (.slT l)) (hx : σ.rd x = some (.sl o 1 [.int .u8 c]))
 (hsz1 : I.size = 1) (hby : I.bytes ≤ 1024) (hlim : l.length + 1 ≤ LIM) (h0 : 0 ≤ c) (h256 : c < 256) :
 ∃ v w' M' B', (Builtin.append_ #[t, t] ty #[a.eval s, a.eval x]).run P w = .ok v w' ∧ Pre n out M B σ a.tmps w M' B' (σ.clr s) w' (.slT (l ++ [UInt8.ofNat c.toNat])) v := by
 obtain ⟨hrs, hTl⟩ := hI.ev hs
 obtain ⟨v, w', M', B', h1, h2, e, h3, h4⟩ := append_soundR (ty := ty) hI hT hs (rep_own_any.1 (rep_slT_un.2 hrs)) (slT_row hTl.t) hx (by omega) hby (.inl hsz1.symm) (.inl hsz1.symm) (by rw [bytesPV_length]; exact hlim)
 rw [elemOf_spec hbt] at h3; cases h3
 rw [hsz1] at h2 h4
 exact ⟨v, w', M', B', h1, h2.slT (oneB_bytes h0 h256).symm h4 hTl.t⟩
theorem append_slp (hI : Inv n M B out σ a.tmps w) {P : Program} {t ty : TypeId} {I : TI} (hT : elemTI P t = some I) {s x : Operand} {k sz' : Nat} {cs es' : List PV} {o : Bool} (hs : σ.ev s = some (.slp true k I.size cs)) (hx : σ.rd x = some (.sl o sz' es'))
 (hpos : 0 < I.size) (hby : I.bytes ≤ 1024) (hsz0' : sz' = I.size ∨ sz' = 0) (hlit : (flatPV es').all PV.lit = true) (hlim : k + es'.length ≤ LIM) :
 ∃ v w' M' B', (Builtin.append_ #[t, t] ty #[a.eval s, a.eval x]).run P w = .ok v w' ∧ Pre n out M B σ a.tmps w M' B' (σ.clr s) w' (.slp true (k + es'.length) I.size (cs ++ flatPV es')) v := by
 obtain ⟨e, i, z, d, hu, hTI⟩ := elem_spec hT
 have hsi := hTI.size
 have hbi := hTI.bytes
 have hr' := (hI.rd x _ hx).1
 obtain ⟨A', cap', e2, hle', hss', hz', hA'⟩ := rep_sl.1 hr'
 have hsz' : sz' = I.size ∨ es' = [] := hsz0'.imp id fun h => (hz' h).1
 have hs2 : ∀ p, p ∈ es' → p.size = I.size := fun p hp => by
  grind
 have hA2 : es' ≠ [] → ∃ b off, A' = some ⟨b, off, none⟩ ∧ Locs M [] I.size es' b off := fun hc => by
  simp_all
 obtain ⟨news, n1, n2, n3, n4⟩ := first_cells (P := P) hs2 hle' hA2 hI.mem
 have hnl : (flatPV es').length = news.length := by rw [flat_len hs2, n1]
 have hnew : ∀ (j : Nat) p, (flatPV es')[j]? = some p → p.lit = true ∧ ∃ u, news[j]? = some u ∧ Rep noM [] p u ∧ u.oneCell' = true := fun j p hj => by
  have hl := n4 (laid M w.heap.size news) w.heap.size 0 (laid_le hI news).mem fun j v hv => by rw [laid_at (laid_new hI), if_pos rfl, Nat.zero_add]; exact hv
  grind [locs_cells, laid_at, laid_new, lit_rep]
 obtain ⟨hrs, hTl⟩ := hI.ev hs
 obtain ⟨A, cap, e1, hle⟩ := rep_slp.1 hrs
 obtain ⟨⟨hcl, _⟩, hn, hrow⟩ := hTl.p _ _ _ _ _ _ rfl e1
 obtain ⟨c1, c2, c3⟩ := hI.clrO hs
 rw [e1, e2]
 have hall : (cs ++ flatPV es').length = (k + es'.length) * I.size := by rw [List.length_append, hcl, flat_len hs2, Nat.add_mul]
 by_cases hroom : k + es'.length ≤ cap
 ·cases A with
  | none =>
   have hc0 := hn rfl
   have h1 : k = 0 := by omega
   have h2 : es' = [] := List.eq_nil_of_length_eq_zero (by omega)
   subst h1; subst h2; subst hc0
   have h3 : cs = [] := List.eq_nil_of_length_eq_zero (by omega)
   subst h3
   refine ⟨.slice none 0 0, w, M, B, append_run_none hu hTI.info (by rw [← hsi]; exact n2 w fun b o v h => (hI.mem b o v h).1), ⟨c1, MLe.refl _ _, Fr.refl _ _ _, fun b _ => ?_, rep_slp.2 ⟨none, 0, rfl, Nat.le_refl _⟩, tl_mkp fun k' sz' cs' A m cap e ev => ?_, fun b => ?_, fun b _ => by simp [ownV]⟩⟩
   simp_all
   grind
   ·have := c2 b; have := hI.cnt b; simp_all
  | some ad =>
   obtain ⟨cur, ty', t1, t2, t3, t4, t5, t6⟩ := hrow ad rfl
   obtain ⟨g, off, spot⟩ := ad
   simp only at t1 t4 t5 t6
   subst t5; subst t6
   have hown : ∀ b, ownV (.slp true k I.size cs) (a.eval s) b = if g = b then 1 else 0 := fun b => by rw [e1]; rfl
   have hg1 : fp B σ a.tmps w g = 1 ∧ out g = 0 ∧ fp B (σ.clr s) a.tmps w g = 0 := by
    have := hI.cnt g; have := c2 g; rw [hown, if_pos rfl] at this; omega
   have hfit : 0 + k * I.size + news.length ≤ cur.size := by
    rw [n1]
    have : (k + es'.length) * I.size ≤ cap * I.size := Nat.mul_le_mul_right _ hroom
    rw [Nat.add_mul] at this; omega
   have hrun := append_run_room (P := P) (ty := ty) (g := g) (off := 0) (sLen := k) (sCap := cap) (m := es'.length) (A' := A') (c := cap') hu hTI.info (by rw [← hsi]; exact n2 w fun b o v h => (hI.mem b o v h).1) t1 hroom n3 (by rw [← hsi]; exact hfit)
   rw [← hsi, Nat.zero_add] at hrun
   rw [Nat.zero_add] at hfit
   generalize hcur : (cur.toList.take (k * I.size) ++ news ++ cur.toList.drop (k * I.size + news.length)).toArray = cur' at *
   have hsz2 : cur'.size = cur.size := by rw [← hcur]; simp; omega
   have hnw : ∀ j, j < news.length → cur'[k * I.size + j]? = news[j]? := fun j hj => by
    rw [← hcur, List.getElem?_toArray]
    grind
   have hold : ∀ o, o < k * I.size → cur'[o]? = cur[o]? := fun o ho => by
    rw [← hcur, List.getElem?_toArray]
    grind
   have hheap : (w.setRow g cur').heap[g]? = some (.cells cur' ty' (0, 0)) := setRow_heap w g cur _ ty' (0, 0) t1
   have hoth : ∀ b, b ≠ g → (w.setRow g cur').heap[b]? = w.heap[b]? := fun b hb => setRow_other w g b _ hb
   obtain ⟨f1, f2⟩ := c1.ext (M' := M) (w' := w.setRow g cur') (MLe.refl _ _) (fun b o v h => by
    have hb : b ≠ g := fun e => by simp_all
    have hm := hI.mem b o v h
    grind [World.cell?_of_block]) (fun b hb => by
    have hbg : b ≠ g := fun e => by grind
    simp_all) (by simp_all)
   have hcnt2 : ∀ b, ownV (.slp true (k + es'.length) I.size (cs ++ flatPV es')) (.slice (some ⟨g, 0, none⟩) (k + es'.length) cap) b = if g = b then 1 else 0 := fun b => by rfl
   have hlt : g < w.heap.size := (Array.getElem?_eq_some_iff.1 t1).1
   refine ⟨_, _, M, B, hrun, ⟨f1, MLe.refl _ _, ⟨rfl, rfl, rfl, by simp_all, fun b hb h0 => ⟨hoth b fun e => by grind, fun _ => rfl⟩⟩, fun b hb => ?_, rep_slp.2 ⟨_, cap, rfl, hroom⟩, tl_mkp fun k' sz2 cs' A2 m cap2 e3 e4 => ?_, fun b => ?_, fun b hb => ?_⟩⟩
   simp_all
   grind
   ·rw [f2, hcnt2]; have := c2 b; rw [hown] at this; have := hI.cnt b; omega
   grind
 ·
  obtain ⟨olds, o1, o2, o3⟩ : ∃ olds : List Value, olds.length = k * I.size ∧ (Builtin.firstCells I.size k (.slice A k cap)).run P w.drew = .ok olds.toArray w.drew ∧ (∀ (j : Nat) p, cs[j]? = some p → p.lit = true ∧ ∃ u, olds[j]? = some u ∧ Rep noM [] p u ∧ u.oneCell' = true) ∧ ∀ u, u ∈ olds → u.oneCell' = true := by
   cases A with
   | none =>
    have hc0 := hn rfl
    have h1 : k = 0 := by omega
    subst h1
    have h3 : cs = [] := List.eq_nil_of_length_eq_zero (by omega)
    subst h3
    exact ⟨[], by simp, by rfl, fun j p h => by simp at h, by simp⟩
   | some ad =>
    obtain ⟨cur, ty', t1, t2, t3, t4, t5, t6⟩ := hrow ad rfl
    obtain ⟨g, off, spot⟩ := ad
    simp only at t1 t4 t5 t6
    subst t5; subst t6
    have hkc : k * I.size ≤ cur.size := Nat.le_trans (Nat.mul_le_mul_right _ hle) t2
    have hget : ∀ (j : Nat) v, (cur.toList.take (k * I.size))[j]? = some v → j < k * I.size ∧ cur[j]? = some v := fun j v hv => by
     rw [List.getElem?_take] at hv
     simp_all
    refine ⟨cur.toList.take (k * I.size), by simp; omega, run_firstCells_some (P := P) w.drew I.size k ⟨g, 0, none⟩ k cap _ (by simp; omega) (fun j v hv => ?_), fun j p hj => ?_, fun u hu => ?_⟩
    ·rw [add_lit, Nat.zero_add]
     have := (hget j v hv).2
     show w.cell? ⟨g, j, none⟩ = some v
     grind [World.cell?]
    grind
    ·obtain ⟨j, hj⟩ := List.mem_iff_getElem?.1 hu
     obtain ⟨h1, h2⟩ := hget j u hj
     obtain ⟨q1, u', q2, q3, q4⟩ := t3 j _ (List.getElem?_eq_getElem (by omega : j < cs.length))
     rw [h2] at q2; simp_all
  obtain ⟨o3, o4⟩ := o3
  have hrun := append_run_grow (P := P) (ty := ty) (base := A) (A' := A') (sLen := k) (sCap := cap) (m := es'.length) (c := cap') (olds := olds) (news := news) hu hTI.info hTI.zero (by rw [← hsi]; exact o2) (by rw [← hsi]; exact n2 w.drew fun b o v h => (hI.mem b o v h).1) (by omega) hlim (by rw [← hbi]; exact hby)
  obtain ⟨d1, d2⟩ := c1.drew
  have hge := grownCap_ge w (k + es'.length) cap e
  have hone : ∀ v, v ∈ (olds.toArray ++ news.toArray ++ Builtin.zeroCells z.cells (grownCap w (k + es'.length) cap e - (k + es'.length))) → v.oneCell' = true := fun v hv => by
   rcases Array.mem_append.1 hv with hv | hv
   grind
   ·unfold Builtin.zeroCells at hv
    obtain ⟨j, hj, rfl⟩ := Array.mem_map.1 hv
    by_cases h0 : z.cells.size = 0
    simp_all
    ·have : j % z.cells.size < z.cells.size := Nat.mod_lt _ (by omega)
     rw [getElem!_pos z.cells _ this]
     exact hTI.one _ (Array.getElem_mem _)
  have hpre := Pre.newRowP (a := a) d1 (ty := e) (sz := I.size) (k := k + es'.length) (cs := cs ++ flatPV es') (cap := grownCap w (k + es'.length) cap e) hpos hone hall hge (by
   simp only [Array.size_append, List.size_toArray, size_zeroCells, hTI.zsize, ← hsi, o1, n1]
   rw [← Nat.add_mul, ← Nat.add_mul]
   simp_all) (fun j p hj => by
   grind)
  refine ⟨_, _, _, _, hrun, ⟨hpre.inv, hpre.le, ?_, fun b hb => ?_, hpre.rep, hpre.tl, hpre.cnt, hpre.new⟩⟩
  ·refine (Fr.trans (f := fp B σ a.tmps w) (g := fp B (σ.clr s) a.tmps w.drew) (M' := M) (w' := w.drew) ⟨rfl, rfl, rfl, Nat.le_refl _, fun _ _ _ => ⟨rfl, fun _ => rfl⟩⟩ hpre.fr fun b hb h0 => ?_)
   have := c2 b
   rw [fp_drew]
   omega
  ·have h1 := hpre.own b hb
   have h2 := c2 b
   rw [fp_drew] at h1
   exact Nat.le_trans h1 (by omega)
end
end Go.Proofs.YtkkgfoknknehfaaDoor
namespace Go.Proofs.YtkkgfoknknehfaaDoor
set_option linter.unusedVariables false
set_option linter.unusedSimpArgs false
set_option linter.unnecessarySimpa false
set_option linter.unusedSectionVars false
open Go.RowKit
section
variable {n : Nat} {out : Nat → Nat} {M : Mem} {B : Blk} {σ : ASt} {a : Act} {w : World}
theorem flat_rep_get {α : Type} {l : List α} : ∀ {n j : Nat}, j < n * l.length → ((List.replicate n l).flatten)[j]? = l[j % l.length]?
 | 0, j, h => by simp at h
 | n + 1, j, h => by
  rw [List.replicate_succ, List.flatten_cons]
  rcases Nat.lt_or_ge j l.length with h' | h'
  ·rw [List.getElem?_append_left h', Nat.mod_eq_of_lt h']
  ·rw [List.getElem?_append_right h', Nat.mod_eq_sub_mod h']
   exact flat_rep_get (by rw [Nat.succ_mul] at h; omega)
theorem flat_rep_len {α : Type} {l : List α} {n : Nat} : ((List.replicate n l).flatten).length = n * l.length := by
 simp
theorem cells_list (c : Array Value) (n k : Nat) (hk : k = n * c.size) : (madeCells c k).toList = (List.replicate n c.toList).flatten := by
 subst hk
 apply List.ext_getElem?
 grind [flat_rep_get, madeCells, flat_rep_len]
theorem zeroCs_map {P : Program} {e : TypeId} {I : TI} {i : TypeInfo} {z : Value} {d : TypeDesc} (hT : TIs P e I i z d) (m : Nat) : zeroCs m I = ((List.replicate m z.cells.toList).flatten).map zeroPV := by
 rw [zeroCs_eq, hT.izero, List.map_flatten, List.map_replicate]
theorem zeroCs_len {P : Program} {e : TypeId} {I : TI} {i : TypeInfo} {z : Value} {d : TypeDesc} (hT : TIs P e I i z d) (m : Nat) : (zeroCs m I).length = m * I.size := by
 rw [zeroCs_map hT, List.length_map, flat_rep_len, hT.size, ← hT.zsize]; simp
theorem flat_rep_mem {α : Type} {l : List α} {n : Nat} {x : α} (h : x ∈ (List.replicate n l).flatten) : x ∈ l := by
 obtain ⟨l', h1, h2⟩ := List.mem_flatten.1 h
 rw [(List.mem_replicate.1 h1).2] at h2; exact h2
theorem make_run {P : Program} {t e : TypeId} {I : TI} {i : TypeInfo} {z : Value} {d : TypeDesc} (hu : P.underlying t = some (.slice e)) (hT : TIs P e I i z d) (k k' : IntKind) {m : Int} (h0 : 0 ≤ m) (h1 : m ≤ 1073741824) (hb : I.bytes ≤ 1024) :
 (Instr.makeSlice t (.int k m) (.int k' m)).run P w = .ok (.slice (some ⟨w.heap.size, 0, none⟩) m.toNat m.toNat) (w.alloc (.cells (madeCells z.cells (m.toNat * i.size)) e)) := by
 have hb2 : (i.bytes : Int) * m ≤ 281474976710656 := by
  have h2 : (i.bytes : Int) ≤ 1024 := by have := hT.bytes; omega
  calc (i.bytes : Int) * m ≤ 1024 * 1073741824 := Int.mul_le_mul h2 h1 h0 (by decide)
   _ ≤ 281474976710656 := by decide
 exact run_make w t e i z hu hT.info hT.zero k k' m m h0 (Int.le_refl _) hb2 (by omega)
theorem make_obj (hI : Inv n M B out σ a.tmps w) {P : Program} {e : TypeId} {I : TI} {i : TypeInfo} {z : Value} {d : TypeDesc} (hT : TIs P e I i z d) (m : Nat) :
 Good n out M B σ a.tmps w M (B ++ [(w.heap.size, (madeCells z.cells (m * i.size)).size, e + 1)]) { σ with h := σ.h ++ [some (zeroCs m I)] } a.tmps (w.alloc (.cells (madeCells z.cells (m * i.size)) e)) := by
 have hc := cells_list z.cells m (m * i.size) (by rw [hT.zsize])
 refine hI.newObj _ e _ (by rw [zeroCs_len hT, size_madeCells, hT.size]; omega) (fun j p hj => ?_)
 rw [zeroCs_map hT, ← hc, List.getElem?_map] at hj
 cases hv : (madeCells z.cells (m * i.size)).toList[j]? with
 | none => simp_all
 | some v =>
  simp [hv] at hj; subst hj
  have hv' : (madeCells z.cells (m * i.size))[j]? = some v := by grind
  have hone : v.oneCell' = true := hT.one v (by
   have := List.mem_of_getElem? hv
   rw [hc] at this
   simpa using flat_rep_mem this)
  grind [rep_zero, tl_zero, ownV_zero]
theorem chunk_get {α : Type} {l : List α} {n j k : Nat} (hj : j < n) (hk : k < l.length) : ((List.replicate n l).flatten)[j * l.length + k]? = l[k]? := by
 rw [flat_rep_get (by
  have : (j + 1) * l.length ≤ n * l.length := Nat.mul_le_mul_right _ hj
  rw [Nat.succ_mul] at this; omega), Nat.add_comm, Nat.add_mul_mod_self_right, Nat.mod_eq_of_lt hk]
theorem make_run0 {P : Program} {t e : TypeId} {I : TI} {i : TypeInfo} {z : Value} {d : TypeDesc} (hu : P.underlying t = some (.slice e)) (hT : TIs P e I i z d) (k k' : IntKind) {n m : Int} (hn : 0 ≤ n) (h0 : n ≤ m) (h1 : m ≤ 1073741824) (hb : I.bytes ≤ 1024) :
 (Instr.makeSlice t (.int k n) (.int k' m)).run P w = .ok (.slice (some ⟨w.heap.size, 0, none⟩) n.toNat m.toNat) (w.alloc (.cells (madeCells z.cells (m.toNat * i.size)) e)) := by
 have hb2 : (i.bytes : Int) * m ≤ 281474976710656 := by
  have h2 : (i.bytes : Int) ≤ 1024 := by have := hT.bytes; omega
  calc (i.bytes : Int) * m ≤ 1024 * 1073741824 := Int.mul_le_mul h2 h1 (by omega) (by decide)
   _ ≤ 281474976710656 := by decide
 exact run_make w t e i z hu hT.info hT.zero k k' n m hn h0 hb2 (by omega)
theorem make_slp (hI : Inv n M B out σ a.tmps w) {P : Program} {e : TypeId} {I : TI} {i : TypeInfo} {z : Value} {d : TypeDesc} (hT : TIs P e I i z d) (hpos : 0 < I.size) (hlit : I.zero.all PV.lit = true) {k m : Nat} (hkm : k ≤ m) :
 ∃ M', Pre n out M B σ a.tmps w M' B σ (w.alloc (.cells (madeCells z.cells (m * i.size)) e)) (.slp true k I.size (zeroCs k I)) (.slice (some ⟨w.heap.size, 0, none⟩) k m) := by
 have hc := cells_list z.cells m (m * i.size) (by rw [hT.zsize])
 have hsz : z.cells.toList.length = I.size := by rw [hT.size, ← hT.zsize]; simp
 have hone : ∀ v, v ∈ madeCells z.cells (m * i.size) → v.oneCell' = true := fun v hv => hT.one v (by
  have : v ∈ (madeCells z.cells (m * i.size)).toList := by grind
  rw [hc] at this
  simpa using flat_rep_mem this)
 have hle : k * I.size ≤ m * I.size := Nat.mul_le_mul_right _ hkm
 refine ⟨_, Pre.newRowP (a := a) hI (vs := madeCells z.cells (m * i.size)) (ty := e) (sz := I.size) (k := k) (cs := zeroCs k I) (cap := m) hpos hone (zeroCs_len hT k) hkm (by rw [size_madeCells, hT.size]; omega) (fun j p hj => ?_)⟩
 rw [zeroCs_map hT, List.getElem?_map] at hj
 cases hv : ((List.replicate k z.cells.toList).flatten)[j]? with
 | none => rw [hv] at hj; cases hj
 | some v =>
  rw [hv] at hj
  simp at hj; subst hj
  have hjk : j < k * I.size := by
   have := (List.getElem?_eq_some_iff.1 hv).1
   rw [flat_rep_len, hsz] at this; exact this
  have hv2 : (madeCells z.cells (m * i.size))[j]? = some v := by
   rw [← Array.getElem?_toList, hc, flat_rep_get (by rw [hsz]; omega), ← flat_rep_get (n := k) (by rw [hsz]; exact hjk)]; exact hv
  have hmem : v ∈ z.cells.toList := flat_rep_mem (List.mem_of_getElem? hv)
  refine ⟨?_, v, hv2, rep_zero (hT.one v (by simpa using hmem)), hT.one v (by simpa using hmem)⟩
  rw [hT.izero] at hlit
  exact List.all_eq_true.1 hlit _ (List.mem_map.2 ⟨v, hmem, rfl⟩)
theorem make_sl (hI : Inv n M B out σ a.tmps w) {P : Program} {e : TypeId} {I : TI} {i : TypeInfo} {z : Value} {d : TypeDesc} (hT : TIs P e I i z d) (hpos : 0 < I.size) (hz : (zeroTI I).size = I.size) (hok : (zeroTI I).okE = true) (m : Nat) :
 ∃ M', Pre n out M B σ a.tmps w M' B σ (w.alloc (.cells (madeCells z.cells (m * i.size)) e)) (.sl true I.size (List.replicate m (zeroTI I))) (.slice (some ⟨w.heap.size, 0, none⟩) m m) := by
 have hc := cells_list z.cells m (m * i.size) (by rw [hT.zsize])
 have hsz : z.cells.toList.length = I.size := by rw [hT.size, ← hT.zsize]; simp
 have hone : ∀ v, v ∈ madeCells z.cells (m * i.size) → v.oneCell' = true := fun v hv => hT.one v (by
  have : v ∈ (madeCells z.cells (m * i.size)).toList := by grind
  rw [hc] at this
  simpa using flat_rep_mem this)
 have hlen : (madeCells z.cells (m * i.size)).size = m * I.size := by rw [size_madeCells, hT.size]
 have hpre := Pre.newRow (a := a) hI (vs := madeCells z.cells (m * i.size)) (ty := e) (sz := I.size) (k := m * I.size) (es := List.replicate m (zeroTI I)) (cap := m) hpos hone (by simp) (by simp) (by rw [hlen]; omega) (fun x hx => by rw [(List.mem_replicate.1 hx).2]; exact hz) (by
  refine locs_of fun j p hj => ?_
  obtain ⟨hjm, rfl⟩ : j < m ∧ p = zeroTI I := by
   have h1 := List.mem_of_getElem? hj
   have h2 := (List.getElem?_eq_some_iff.1 hj).1
   simp_all
  have hcell : ∀ k v, z.cells.toList[k]? = some v → laid M w.heap.size ((madeCells z.cells (m * i.size)).toList.take (m * I.size)) w.heap.size (0 + j * I.size + k) = some v := fun k v hv => by
   have hk := (List.getElem?_eq_some_iff.1 hv).1
   have hlt : j * I.size + k < m * I.size := by
    have : (j + 1) * I.size ≤ m * I.size := Nat.mul_le_mul_right _ hjm
    rw [Nat.succ_mul] at this; omega
   rw [laid_at (laid_new hI), if_pos rfl, List.getElem?_take, if_pos (by omega), hc, Nat.zero_add, ← hsz, chunk_get hjm hk]; exact hv
  cases hag : I.agg with
  | true =>
   have e1 : zeroTI I = .agg (I.zero.map PV.un) := by simp [zeroTI, hag]
   rw [e1]
   refine loc_agg.2 (cells_of fun k q hq => ?_)
   rw [hT.izero, List.getElem?_map, List.getElem?_map] at hq
   cases hv : z.cells.toList[k]? with
   | none => simp_all
   | some v =>
    simp [hv] at hq; subst hq
    exact ⟨v, hcell k v hv, rep_un.2 (rep_zero (hT.one v (by grind)))⟩
  | false =>
   have e1 : zeroTI I = match I.zero with | [p] => p.un | _ => .nilp := by simp [zeroTI, hag]
   rw [hT.izero] at e1
   cases hzl : z.cells.toList with
   | nil => rw [hzl] at hsz; grind
   | cons v r =>
    cases r with
    | nil =>
     rw [hzl] at e1
     simp only [List.map_cons, List.map_nil] at e1
     have hv : z.cells.toList[0]? = some v := by rw [hzl]; rfl
     have ho : v.oneCell' = true := hT.one v (by grind)
     have hrep : Rep (laid M w.heap.size ((madeCells z.cells (m * i.size)).toList.take (m * I.size))) [] (zeroTI I) v := by rw [e1]; exact rep_un.2 (rep_zero ho)
     have hno : (zeroTI I).one = true := by
      rw [e1, un_one]
      unfold zeroPV; split <;> first | rfl | (split <;> rfl)
     grind [loc_of_one]
    | cons v2 r2 =>
     rw [hzl] at e1
     grind [PV.size])
 grind
theorem clear_sound (hI : Inv n M B out σ a.tmps w) {P : Program} {t ty e : TypeId} {I : TI} {i : TypeInfo} {z : Value} {d : TypeDesc} (hu : P.underlying t = some (.slice e)) (hT : TIs P e I i z d) {j off m : Nat} {cs : List PV} {v : Value} (hv : Rep M B (.slh j off m I.size) v) (hcs : σ.h[j]? = some (some cs)) (hlen : off + m * I.size ≤ cs.length) :
 ∃ w', (Builtin.clear_ #[t] ty #[v]).run P w = .ok (.tuple #[]) w' ∧ Good n out M B σ a.tmps w M B { σ with h := σ.h.set j (some (cs.take off ++ (zeroCs m I).map PV.un ++ cs.drop (off + m * I.size))) } a.tmps w' := by
 obtain ⟨c, cap, ⟨hc, hcm⟩, rfl, _, _⟩ := rep_slh.1 hv
 have hzl := cells_list z.cells m (m * z.cells.size) rfl
 have hlist : (Builtin.zeroCells z.cells m).toList = (List.replicate m z.cells.toList).flatten := by
  rw [← hzl]; rfl
 have hr : Reps M B ((zeroCs m I).map PV.un) ((List.replicate m z.cells.toList).flatten) := by
  rw [zeroCs_map hT]
  refine reps_un (reps_of (by simp) fun k p u hp hu => ?_)
  rw [List.getElem?_map, hu] at hp
  simp at hp; subst hp
  exact rep_zero (hT.one u (by simpa using flat_rep_mem (List.mem_of_getElem? hu)))
 obtain ⟨w', h1, h2⟩ := storeCells_sound (P := P) hc hcm (off := off) ((zeroCs m I).map PV.un) _ 0 cs σ w hI hcs hr (fun d hd => by grind [un_own]) (fun u hu => hT.one u (by simpa using flat_rep_mem hu)) (by rw [List.length_map, zeroCs_len hT]; omega)
 simp only [Nat.add_zero, List.length_map, zeroCs_len hT] at h2
 cases m with
 | zero =>
  have e1 : ((List.replicate 0 z.cells.toList).flatten) = [] := rfl
  rw [e1] at h1
  have : w = w' := by simpa [storeCells] using h1
  subst this
  exact ⟨w, by simp [Builtin.clear_, run_underlying hu], h2⟩
 | succ m =>
  refine ⟨w', ?_, h2⟩
  simp [Builtin.clear_, run_underlying hu, zeroValue, typeInfo, hT.info, hT.zero, hlist, h1]
theorem copySrc_sound {t : Array Value} (hI : Inv n M B out σ t w) {P : Program} {sz m : Nat} {p : PV} {cells : List PV} (h : copySrc σ sz p = some (m, cells)) {v : Value} (hr : Rep M B p v) (hpos : 0 < sz) :
 ∃ vs : List Value, vs.length = m * sz ∧ Reps M B cells vs ∧ (∀ q, q ∈ cells → q.own = false) ∧ (∀ u, u ∈ vs → u.oneCell' = true) ∧ (Builtin.lenOf v).run P w = .ok m w ∧ ∀ k, k ≤ m → (Builtin.firstCells sz k v).run P w = .ok (vs.take (k * sz)).toArray w := by
 unfold copySrc at h
 split at h
 ·rename_i o sz' es
  split at h
  ·rename_i hs
   cases h
   simp only [Bool.or_eq_true] at hs
   have hs : sz' = sz ∨ sz' = 0 := hs.imp (fun e => Nat.eq_of_beq_eq_true e) fun e => Nat.eq_of_beq_eq_true e
   obtain ⟨A, cap, rfl, hle, hss, hz, hA⟩ := rep_sl.1 hr
   have hs2 : ∀ p, p ∈ es → p.size = sz := fun p hp => by
    grind
   cases A with
   | none =>
    have : es = [] := by
     simp_all
    subst this
    exact ⟨[], by simp, reps_nil.2 rfl, by simp [flatPV], by simp, by rfl, fun k hk => by simp [Builtin.firstCells]⟩
   | some x =>
    by_cases hcc : es = []
    ·subst hcc
     exact ⟨[], by simp, reps_nil.2 rfl, by simp [flatPV], by simp, by rfl, fun k hk => by
      grind [run_firstCells_some]⟩
    obtain ⟨b, off, hx, hl⟩ := hA hcc
    cases hx
    have hl : Locs M [] sz es b off := by
     simp_all
    obtain ⟨vs, h1, h2⟩ := cells_vals (cells_of (ps := flatPV es) (o := off) fun j p hj => locs_cells hl hs2 hj)
    have hlen : vs.length = es.length * sz := by rw [← reps_length h1, flat_len hs2]
    refine ⟨vs, hlen, h1.mono (MLe.zero _ _), fun q hq => flat_get hq, fun u hu => ?_, by rfl, fun k hk => ?_⟩
    ·obtain ⟨j, hj⟩ := List.mem_iff_getElem?.1 hu
     exact (hI.mem _ _ _ (h2 j u hj)).2
    ·have hkl : k * sz ≤ es.length * sz := Nat.mul_le_mul_right _ hk
     refine run_firstCells_some (P := P) w sz k ⟨b, off, none⟩ es.length cap _ (by rw [List.length_take]; omega) fun j v hv => ?_
     rw [List.getElem?_take] at hv
     split at hv
     ·rw [add_lit]; exact (hI.mem _ _ _ (h2 j v hv)).1
     ·cases hv
  ·cases h
 ·rename_i j off m' sz'
  split at h
  ·rename_i cs hcs
   split at h
   ·rename_i hc
    obtain ⟨rfl, hfit⟩ := hc
    cases h
    obtain ⟨c, cap, ⟨hc, hcm⟩, rfl, hle, hcap⟩ := rep_slh.1 hr
    obtain ⟨vs, ty, r1, o2, o3, o4, o5⟩ := hI.heap.at hcs hc
    obtain ⟨ty, rfl, o1⟩ := rowAt_inv r1 (by rw [o2.2]; exact hcm)
    have hget : ∀ (i : Nat) u, ((vs.toList.drop off).take (m * sz'))[i]? = some u → i < m * sz' ∧ vs[off + i]? = some u := fun i u hu => by
     rw [List.getElem?_take] at hu
     simp_all
    have hvl : ((vs.toList.drop off).take (m * sz')).length = m * sz' := by simp; omega
    refine ⟨(vs.toList.drop off).take (m * sz'), hvl, reps_un (reps_of (by rw [hvl]; simp; omega) fun i p u hp hu => ?_), fun q hq => by grind [un_own], fun u hu => ?_, by rfl, fun k hk => ?_⟩
    grind
    ·obtain ⟨i, hi⟩ := List.mem_iff_getElem?.1 hu
     obtain ⟨hil, hi⟩ := hget i u hi
     obtain ⟨u', a1, _, _, a4⟩ := o4 (off + i) _ (List.getElem?_eq_getElem (by omega : off + i < cs.length))
     rw [hi] at a1; simp_all
    grind [Nat.mul_le_mul_right, run_firstCells_some, add_lit, World.cell?]
   ·cases h
  ·cases h
 ·cases h
theorem copy_sound (hI : Inv n M B out σ a.tmps w) {P : Program} {t u ty e : TypeId} {I : TI} {i : TypeInfo} {z : Value} {d : TypeDesc} (hu : P.underlying t = some (.slice e)) (hT : TIs P e I i z d) {j off m m2 : Nat} {cs cells : List PV} {v x : Value} {px : PV} (hv : Rep M B (.slh j off m I.size) v) (hcs : σ.h[j]? = some (some cs)) (hlen : off + m * I.size ≤ cs.length)
 (hx : Rep M B px x) (hsrc : copySrc σ I.size px = some (m2, cells)) (hpos : 0 < I.size) :
 ∃ w', (Builtin.copy_ #[t, u] ty #[v, x]).run P w = .ok (.int .i64 ((Nat.min m2 m : Nat) : Int)) w' ∧ Good n out M B σ a.tmps w M B { σ with h := σ.h.set j (some (cs.take off ++ cells.take (Nat.min m2 m * I.size) ++ cs.drop (off + Nat.min m2 m * I.size))) } a.tmps w' := by
 obtain ⟨c, cap, ⟨hc, hcm⟩, rfl, _, _⟩ := rep_slh.1 hv
 obtain ⟨vs, h1, h2, h3, h4, h5, h6⟩ := copySrc_sound (P := P) hI hsrc hx hpos
 have hk1 : Nat.min m2 m ≤ m2 := Nat.min_le_left _ _
 have hk2 : Nat.min m2 m ≤ m := Nat.min_le_right _ _
 have hk3 : Nat.min m2 m * I.size ≤ m2 * I.size := Nat.mul_le_mul_right _ hk1
 have hk4 : Nat.min m2 m * I.size ≤ m * I.size := Nat.mul_le_mul_right _ hk2
 have hcl : cells.length = m2 * I.size := by rw [reps_length h2, h1]
 have hlt : (cells.take (Nat.min m2 m * I.size)).length = Nat.min m2 m * I.size := by rw [List.length_take]; omega
 obtain ⟨w', g1, g2⟩ := storeCells_sound (P := P) hc hcm (off := off) (cells.take (Nat.min m2 m * I.size)) (vs.take (Nat.min m2 m * I.size)) 0 cs σ w hI hcs (reps_take h2 _) (fun d hd => h3 d (List.mem_of_mem_take hd)) (fun u hu => h4 u (List.mem_of_mem_take hu)) (by rw [hlt]; omega)
 simp only [Nat.add_zero, hlt] at g2
 refine ⟨w', ?_, g2⟩
 have h7 := h6 _ hk1
 simp [Builtin.copy_, run_underlying hu, h5, hT.run_sizeOf w, h7, g1, goInt]
end
section
variable {n : Nat} {out : Nat → Nat} {M : Mem} {B : Blk} {σ : ASt} {a : Act} {w : World} {E : AE}
theorem mapTI_spec {P : Program} {t : TypeId} {s : Option IntKind} {z : PV} (h : mapTI P t = some (s, z)) : ∃ k e zv i d, P.underlying t = some (.map k e) ∧ P.underlying k = some d ∧ (match s with | none => d = .string | some kd => d = .int kd) ∧ P.info? e = some i ∧ i.zero = some zv ∧ z = zeroOf zv ∧ zeroOK zv = true := by
 unfold mapTI at h
 split at h
 ·rename_i k e hu
  split at h
  ·rename_i s' zv hk hz
   split at h
   ·rename_i hok
    cases h
    cases hi : P.info? e with
    | none => simp_all
    | some i =>
     grind [keyK]
   ·cases h
  ·cases h
 ·cases h
theorem rep_zeroOf {z : Value} (h : zeroOK z = true) : Rep M B (zeroOf z) z ∧ (zeroOf z).own = false := by
 have key : ∀ v : Value, v.oneCell' = true → Rep M B (zeroPV v).un v ∧ ((zeroPV v).un).own = false := fun v hv => ⟨rep_un.2 (rep_zero hv), un_own _⟩
 cases z with
 | agg cs =>
  have h2 : ∀ v, v ∈ (Value.agg cs).cells → v.oneCell' = true := fun v hv => by
   grind [zeroOK, Value.cells]
  exact ⟨rep_agg.2 ⟨cs, rfl, zero_reps (z := .agg cs) h2⟩, rfl⟩
 | tuple cs => simp [zeroOK, Value.oneCell'] at h
 | _ => simp only [zeroOf]; exact key _ rfl
theorem key_of {s : Option IntKind} {d : TypeDesc} (hd : match s with | none => d = .string | some kd => d = .int kd) {q : PV} (hq : isKeyK s q = true) {v : Value} (hr : Rep M B q v) : MapKept.IsKey d v := by
 unfold isKeyK at hq
 split at hq
 ·have hq := of_decide_eq_true hq
  simp only at hd
  subst hd; subst hq
  rw [rep_int.1 hr]; rfl
 ·simp only at hd
  subst hd
  rw [rep_str.1 hr]; simp [MapKept.IsKey]
 ·cases hq
theorem eqK_spec {s : Option IntKind} {d : TypeDesc} (hd : match s with | none => d = .string | some kd => d = .int kd) {q k : PV} {r : Bool} (h : eqK s q k = some r) {u v : Value} (hu : Rep M B q u) (hv : Rep M B k v) : Instr.sameNow d u v = some r ∧ (r = true → u = v) := by
 unfold eqK at h
 split at h
 ·split at h
  ·rename_i hk
   cases h
   simp only [Bool.and_eq_true, decide_eq_true_eq] at hk
   obtain ⟨rfl, rfl⟩ := hk
   simp only at hd
   subst hd
   rw [rep_int.1 hu, rep_int.1 hv]
   grind [Instr.sameNow]
  ·cases h
 ·rename_i x y
  cases h
  simp only at hd
  subst hd
  rw [rep_str.1 hu, rep_str.1 hv]
  have e : (x == y) = (x.data.toList == y.data.toList) := by
   rw [Bool.eq_iff_iff, MapKept.bytes_beq, beq_iff_eq]
   constructor
   simp_all
   ·intro h; cases x; simp_all
  grind [Instr.sameNow, MapKept.bytes_beq]
 ·cases h
theorem flatE_cons (e : MapEntry) (es : List MapEntry) : flatE (e :: es) = e.key :: e.val :: flatE es := rfl
theorem get_sound0 {s : Option IntKind} {d : TypeDesc} (hd : match s with | none => d = .string | some kd => d = .int kd) {q : PV} {u : Value} (hu : Rep M B q u) : ∀ {L : List PV} {es : List MapEntry} {r : Option PV} (i : Nat), Reps M B L (flatE es) → mapGet s L q = some r →
 (r = none ∧ Instr.findNow d u es i = some none) ∨ ∃ (p : PV) (j : Nat) (e : MapEntry), r = some p ∧ Instr.findNow d u es i = some (some (i + j, e.val)) ∧ Rep M B p e.val
 | L, [], r, i, h, hg => by
  have : L = [] := by cases L with | nil => rfl | cons p L => obtain ⟨_, _, e, _⟩ := reps_cons.1 h; cases e
  subst this
  simp [mapGet] at hg; subst hg
  exact .inl ⟨rfl, rfl⟩
 | L, e :: es, r, i, h, hg => by
  rw [flatE_cons] at h
  match L, h with
  | k :: v :: L, h =>
   obtain ⟨a, l1, e1, rk, h⟩ := reps_cons.1 h
   injection e1 with e1 e2; subst e1; subst e2
   obtain ⟨b, l2, e1, rv, h⟩ := reps_cons.1 h
   injection e1 with e1 e2; subst e1; subst e2
   rw [mapGet] at hg
   split at hg
   ·rename_i he
    cases hg
    obtain ⟨h1, _⟩ := eqK_spec hd he hu rk
    exact .inr ⟨v, 0, e, rfl, by simp [Instr.findNow, h1], rv⟩
   ·rename_i he
    obtain ⟨h1, _⟩ := eqK_spec hd he hu rk
    rcases get_sound0 hd hu (i + 1) h hg with ⟨g1, g2⟩ | ⟨p, j, e', g1, g2, g3⟩
    grind [Instr.findNow]
    ·exact .inr ⟨p, j + 1, e', g1, by grind [Instr.findNow], g3⟩
   ·cases hg
  | [], h => rw [reps_nil] at h; cases h
  | [p], h => obtain ⟨_, _, e1, _, h⟩ := reps_cons.1 h; rw [reps_nil] at h; simp_all
def fv (d : TypeDesc) (u : Value) : List MapEntry → Option (Option Value)
 | [] => some none
 | e :: es => match Instr.sameNow d u e.key with
  | some true => some (some e.val)
  | some false => fv d u es
  | none => none
theorem findNow_fv {d : TypeDesc} {u : Value} : ∀ (es : List MapEntry) (i : Nat), (Instr.findNow d u es i).map (fun o => o.map (·.2)) = fv d u es
 | [], i => rfl
 | e :: es, i => by
  simp only [Instr.findNow, fv]
  cases Instr.sameNow d u e.key with
  | none => rfl
  | some b => cases b with
   | true => rfl
   | false => exact findNow_fv es (i + 1)
theorem fv_app {d : TypeDesc} {u : Value} (r : List MapEntry) : ∀ (l : List MapEntry), fv d u (l ++ r) = match fv d u l with | some none => fv d u r | x => x
 | [] => rfl
 | e :: l => by
  rw [List.cons_append]
  simp only [fv]
  cases Instr.sameNow d u e.key with
  | none => rfl
  | some b => cases b with
   | true => rfl
   | false => exact fv_app r l
theorem same_str {u k : ByteArray} : Instr.sameNow .string (.string u) (.string k) = some (u.data.toList == k.data.toList) := by
 simp only [Instr.sameNow, Option.some.injEq]
 rw [Bool.eq_iff_iff, MapKept.bytes_beq, beq_iff_eq]
 constructor
 simp_all
 ·intro h; cases u; simp_all
theorem insE_cons (e x : MapEntry) (l : List MapEntry) : insE e (x :: l) = if keyLt e.key x.key then e :: x :: l else x :: insE e l := rfl
def kindD (d : TypeDesc) (u : Value) : Prop := (d = .string ∧ isStrV u = true) ∨ ((∃ kd, d = .int kd) ∧ isStrV u = false)
theorem kind_of {s : Option IntKind} {d : TypeDesc} (hd : match s with | none => d = .string | some kd => d = .int kd) {q : PV} {u : Value} (hq : isKeyK s q = true) (hu : Rep M B q u) : kindD d u := by
 unfold isKeyK at hq
 split at hq
 ·rw [rep_int.1 hu]; exact .inr ⟨⟨_, hd⟩, rfl⟩
 ·rw [rep_str.1 hu]; exact .inl ⟨hd, rfl⟩
 ·cases hq
theorem isStrV_some {u : Value} (h : isStrV u = true) : ∃ a, u = .string a := by
 cases u <;> first | exact ⟨_, rfl⟩ | (simp [isStrV] at h)
theorem same_none {d : TypeDesc} {u k : Value} {kd : IntKind} (hd : d = .int kd) (hk : isStrV k = true) : Instr.sameNow d u k = none := by
 subst hd; obtain ⟨a, rfl⟩ := isStrV_some hk; cases u <;> rfl
theorem fv_ins {d : TypeDesc} {u : Value} (hd : kindD d u) {e : MapEntry} (he : isStrV e.key = true) : ∀ {l : List MapEntry}, (l.all fun x => isStrV x.key) = true → (l.any fun x => strEq e.key x.key) = false → fv d u (insE e l) = fv d u (l ++ [e])
 | [], _, _ => rfl
 | x :: l, h1, h2 => by
  simp only [List.all_cons, Bool.and_eq_true] at h1
  simp only [List.any_cons, Bool.or_eq_false_iff] at h2
  unfold insE
  rcases hd with ⟨rfl, hu⟩ | ⟨⟨kd, rfl⟩, hu⟩
  ·obtain ⟨a, rfl⟩ := isStrV_some hu
   obtain ⟨b, hb⟩ := isStrV_some he
   split
   ·
    have key : ∀ {l : List MapEntry}, (l.all fun x => isStrV x.key) = true → (l.any fun x => strEq e.key x.key) = false → fv .string (.string a) (e :: l) = fv .string (.string a) (l ++ [e]) := fun {l} k1 k2 => by
     rw [fv_app]
     simp only [fv, hb, same_str]
     by_cases hab : a.data.toList = b.data.toList
     ·have hn : fv .string (.string a) l = some none := by
       clear h1 h2
       induction l with
       | nil => rfl
       | cons y l ih =>
        simp only [List.all_cons, Bool.and_eq_true] at k1
        simp only [List.any_cons, Bool.or_eq_false_iff] at k2
        obtain ⟨c, hc⟩ := isStrV_some k1.1
        have k3 := k2.1
        rw [hb, hc] at k3
        simp only [strEq, beq_eq_false_iff_ne, ne_eq] at k3
        simp only [fv, hc, same_str]
        rw [show (a.data.toList == c.data.toList) = false by rw [beq_eq_false_iff_ne, hab]; exact k3]
        exact ih k1.2 k2.2
      rw [hn, show (a.data.toList == b.data.toList) = true by simp [hab]]
     ·rw [show (a.data.toList == b.data.toList) = false from beq_eq_false_iff_ne.2 hab]
      cases fv .string (.string a) l with
      | none => rfl
      | some o => cases o <;> rfl
    exact key (l := x :: l) (by simp only [List.all_cons, Bool.and_eq_true]; exact h1) (by simp only [List.any_cons, Bool.or_eq_false_iff]; exact h2)
   ·rw [List.cons_append]
    simp only [fv]
    rw [fv_ins (.inl ⟨rfl, rfl⟩) he h1.2 h2.2]
  ·have hx : Instr.sameNow (.int kd) u x.key = none := same_none rfl h1.1
   have hee : Instr.sameNow (.int kd) u e.key = none := same_none rfl he
   split
   ·rw [List.cons_append]; simp only [fv, hx, hee]
   ·rw [List.cons_append]; simp only [fv, hx]
theorem addE_fv {d : TypeDesc} {u : Value} (hd : kindD d u) (l : List MapEntry) (e : MapEntry) : fv d u (addE l e) = fv d u (l ++ [e]) := by
 grind [addE, fv_ins]
theorem foldl_snoc (es : List MapEntry) (e : MapEntry) : canE (es ++ [e]) = addE (canE es) e := by grind [canE]
theorem snoc_ind {P : List MapEntry → Prop} (h0 : P []) (h1 : ∀ l e, P l → P (l ++ [e])) (l : List MapEntry) : P l := by
 have : ∀ l : List MapEntry, P l.reverse := fun l => by
  induction l with
  | nil => exact h0
  | cons e l ih => rw [List.reverse_cons]; simp_all
 have h := this l.reverse
 rwa [List.reverse_reverse] at h
theorem canE_fv {d : TypeDesc} {u : Value} (hd : kindD d u) (es : List MapEntry) : fv d u (canE es) = fv d u es := by
 refine snoc_ind (P := fun es => fv d u (canE es) = fv d u es) rfl (fun l e ih => ?_) es
 rw [foldl_snoc, addE_fv hd, fv_app, fv_app, ih]
theorem get_sound {s : Option IntKind} {d : TypeDesc} (hd : match s with | none => d = .string | some kd => d = .int kd) {q : PV} {u : Value} (hkd : kindD d u) (hu : Rep M B q u) {L : List PV} {es : List MapEntry} {r : Option PV} (i : Nat) (h : Reps M B L (flatE (canE es))) (hg : mapGet s L q = some r) :
 (r = none ∧ Instr.findNow d u es i = some none) ∨ ∃ (p : PV) (j : Nat) (v : Value), r = some p ∧ Instr.findNow d u es i = some (some (j, v)) ∧ Rep M B p v := by
 have e := canE_fv hkd es
 rw [← findNow_fv es i, ← findNow_fv (canE es) 0] at e
 rcases get_sound0 hd hu 0 h hg with ⟨h1, h2⟩ | ⟨p, j, e', h1, h2, h3⟩
 ·rw [h2] at e
  refine .inl ⟨h1, ?_⟩
  cases hf : Instr.findNow d u es i with
  | none => rw [hf] at e; cases e
  | some o => cases o with
   | none => rfl
   | some x => rw [hf] at e; cases e
 ·rw [h2] at e
  cases hf : Instr.findNow d u es i with
  | none => rw [hf] at e; cases e
  | some o => cases o with
   | none => rw [hf] at e; cases e
   | some x =>
    rw [hf] at e
    grind
def modF (d : TypeDesc) (u y : Value) : List MapEntry → List MapEntry
 | [] => []
 | e :: es => match Instr.sameNow d u e.key with
  | some true => { e with key := u, val := y } :: es
  | _ => e :: modF d u y es
theorem modify_modF {d : TypeDesc} {u y : Value} : ∀ (es : List MapEntry) (i j : Nat) (v : Value), Instr.findNow d u es i = some (some (i + j, v)) → es.modify j (fun e => { e with key := u, val := y }) = modF d u y es ∧ ∃ e, es[j]? = some e ∧ Instr.sameNow d u e.key = some true
 | [], i, j, v, h => by cases h
 | e :: es, i, j, v, h => by
  simp only [Instr.findNow] at h
  cases hs : Instr.sameNow d u e.key with
  | none => rw [hs] at h; cases h
  | some b =>
   rw [hs] at h
   cases b with
   | true =>
    grind [modF]
   | false =>
    have hle : ∀ (es : List MapEntry) (i k : Nat) (v : Value), Instr.findNow d u es i = some (some (k, v)) → i ≤ k := by
     intro es
     induction es with
     | nil => intro i k v h; cases h
     | cons x es ih =>
      grind [Instr.findNow]
    have := hle es (i + 1) (i + j) v h
    obtain ⟨j', rfl⟩ : ∃ j', j = j' + 1 := ⟨j - 1, by omega⟩
    obtain ⟨h1, e', h2, h3⟩ := modify_modF es (i + 1) j' v (by rw [show i + 1 + j' = i + (j' + 1) by omega]; exact h)
    refine ⟨?_, e', by grind, h3⟩
    simp only [modF, hs]
    rw [← h1]; rfl
theorem modF_all (d : TypeDesc) (u y : Value) (f : Value → Bool) (hf : ∀ k, Instr.sameNow d u k = some true → f u = f k) : ∀ (l : List MapEntry), ((modF d u y l).all fun x => f x.key) = (l.all fun x => f x.key) ∧ ((modF d u y l).any fun x => f x.key) = (l.any fun x => f x.key)
 | [] => ⟨rfl, rfl⟩
 | e :: l => by
  obtain ⟨h1, h2⟩ := modF_all d u y f hf l
  grind [modF]
theorem same_eq {d : TypeDesc} {u k : Value} (hd : kindD d u) (h : Instr.sameNow d u k = some true) : u = k := by
 rcases hd with ⟨rfl, hu⟩ | ⟨⟨kd, rfl⟩, hu⟩
 ·obtain ⟨a, rfl⟩ := isStrV_some hu
  cases k <;> simp only [Instr.sameNow, Option.some.injEq, reduceCtorEq] at h
  grind [MapKept.bytes_beq]
 ·cases u <;> cases k <;> simp only [Instr.sameNow, reduceCtorEq] at h
  simp_all
theorem modF_app {d : TypeDesc} {u y : Value} (r : List MapEntry) : ∀ {l : List MapEntry} {v : Value}, fv d u l = some (some v) → modF d u y (l ++ r) = modF d u y l ++ r
 | [], v, h => by cases h
 | e :: l, v, h => by
  rw [List.cons_append]
  simp only [fv] at h
  simp only [modF]
  cases hs : Instr.sameNow d u e.key with
  | none => rw [hs] at h; cases h
  | some b => rw [hs] at h; cases b with
   | true => rfl
   | false => simp only [modF_app r (l := l) h, List.cons_append]
theorem modF_not {d : TypeDesc} {u y : Value} {r : List MapEntry} : ∀ {l : List MapEntry}, fv d u l = some none → modF d u y (l ++ r) = l ++ modF d u y r
 | [], h => rfl
 | e :: l, h => by
  rw [List.cons_append]
  simp only [fv] at h
  simp only [modF]
  cases hs : Instr.sameNow d u e.key with
  | none => rw [hs] at h; cases h
  | some b => rw [hs] at h; cases b with
   | true => cases h
   | false => simp only [modF_not (l := l) h, List.cons_append]
theorem modF_insE {d : TypeDesc} {u y : Value} (hd : kindD d u) {e : MapEntry} (hs : Instr.sameNow d u e.key = some false) : ∀ {l : List MapEntry}, modF d u y (insE e l) = insE e (modF d u y l)
 | [] => by simp only [insE, modF, hs]
 | x :: l => by
  rw [insE_cons]
  split
  ·rename_i hlt
   simp only [modF, hs]
   split
   ·rename_i hx
    rw [same_eq hd hx, insE_cons, if_pos hlt]
   ·rw [insE_cons, if_pos hlt]
  ·rename_i hlt
   simp only [modF]
   split
   ·rename_i hx
    rw [same_eq hd hx, insE_cons, if_neg hlt]
   ·rw [modF_insE hd hs, insE_cons, if_neg hlt]
theorem modF_insE_new {d : TypeDesc} {u y : Value} (hd : kindD d u) {e : MapEntry} (hs : Instr.sameNow d u e.key = some true) : ∀ {l : List MapEntry}, fv d u l = some none → modF d u y (insE e l) = insE { e with key := u, val := y } l
 | [], _ => by simp only [insE, modF, hs]
 | x :: l, h => by
  simp only [fv] at h
  unfold insE
  split
  ·rename_i hlt
   rw [same_eq hd hs, if_pos hlt]
   simp only [modF, show Instr.sameNow d e.key e.key = some true by rw [same_eq hd hs] at hs; exact hs]
  ·rename_i hlt
   cases hx : Instr.sameNow d u x.key with
   | none => rw [hx] at h; cases h
   | some b => rw [hx] at h; cases b with
    | true => cases h
    | false =>
     simp only [modF, hx]
     rw [modF_insE_new hd hs h, same_eq hd hs, if_neg hlt]
theorem canE_mod {d : TypeDesc} {u y : Value} (hd : kindD d u) (es : List MapEntry) : ∀ v, fv d u es = some (some v) → canE (modF d u y es) = modF d u y (canE es) := by
 refine snoc_ind (P := fun es => ∀ v, fv d u es = some (some v) → canE (modF d u y es) = modF d u y (canE es)) (fun v h => by cases h) (fun l e ih v h => ?_) es
 have hk : ∀ k, Instr.sameNow d u k = some true → isStrV u = isStrV k := fun k hk => by rw [same_eq hd hk]
 have hq : ∀ (q : Value) k, Instr.sameNow d u k = some true → strEq q u = strEq q k := fun q k hk => by rw [same_eq hd hk]
 rw [fv_app] at h
 cases hl : fv d u l with
 | none => rw [hl] at h; cases h
 | some o =>
  cases o with
  | some x =>
   rw [modF_app [e] hl, foldl_snoc, foldl_snoc, ih x hl]
   have hc : fv d u (canE l) = some (some x) := by rw [canE_fv hd, hl]
   unfold addE
   rw [(modF_all d u y isStrV hk (canE l)).1, (modF_all d u y (strEq e.key) (hq e.key) (canE l)).2]
   split
   ·rename_i hcond
    simp only [Bool.and_eq_true, Bool.not_eq_true'] at hcond
    refine (modF_insE hd ?_).symm
    cases hs : Instr.sameNow d u e.key with
    | none =>
     exfalso
     rcases hd with ⟨rfl, hu⟩ | ⟨⟨kd, rfl⟩, hu⟩
     ·obtain ⟨a, rfl⟩ := isStrV_some hu
      obtain ⟨b, hb⟩ := isStrV_some hcond.1.1
      rw [hb] at hs; cases hs
     ·
      have : ∀ {l : List MapEntry}, (l.all fun x => isStrV x.key) = true → ∀ v, fv (.int kd) u l ≠ some (some v) := fun {l} h1 v h2 => by
       cases l with
       | nil => cases h2
       | cons z l =>
        grind [fv, same_none]
      simp_all
    | some b =>
     cases b with
     | false => rfl
     | true =>
      exfalso
      have hue := same_eq hd hs
      have : ∀ {l : List MapEntry} {v : Value}, fv d u l = some (some v) → (l.any fun x => strEq e.key x.key) = false → isStrV e.key = true → False := fun {l v} => by
       induction l with
       | nil => intro h; cases h
       | cons z l ih =>
        grind [fv, isStrV_some, strEq]
      grind
   grind [modF_app]
  | none =>
   rw [hl] at h
   grind [fv, canE_fv, modF_not, foldl_snoc, modF, same_eq, addE, modF_insE_new]
theorem has_sound {s : Option IntKind} {d : TypeDesc} (hd : match s with | none => d = .string | some kd => d = .int kd) {q : PV} {u : Value} (hu : Rep M B q u) : ∀ {L : List PV} {es : List MapEntry}, Reps M B L (flatE es) → mapOK s L q = true →
 (mapHas s L q = true ∧ ∃ v, fv d u es = some (some v)) ∨ (mapHas s L q = false ∧ fv d u es = some none)
 | L, [], h, hg => by
  have : L = [] := by cases L with | nil => rfl | cons p L => obtain ⟨_, _, e, _⟩ := reps_cons.1 h; cases e
  subst this
  exact .inr ⟨rfl, rfl⟩
 | L, e :: es, h, hg => by
  rw [flatE_cons] at h
  match L, h with
  | k :: v :: L, h =>
   obtain ⟨a, l1, e1, rk, h⟩ := reps_cons.1 h
   injection e1 with e1 e2; subst e1; subst e2
   obtain ⟨b, l2, e1, rv, h⟩ := reps_cons.1 h
   injection e1 with e1 e2; subst e1; subst e2
   rw [mapOK, Bool.and_eq_true] at hg
   obtain ⟨hg1, hg⟩ := hg
   cases he : eqK s q k with
   | none => rw [he] at hg1; cases hg1
   | some r =>
    obtain ⟨h1, h2⟩ := eqK_spec hd he hu rk
    cases r with
    | true => exact .inl ⟨by simp only [mapHas, he], e.val, by simp only [fv, h1]⟩
    | false =>
     simp only [mapHas, he, fv, h1]
     exact has_sound hd hu h hg
  | [], h => rw [reps_nil] at h; cases h
  | [p], h => obtain ⟨_, _, e1, _, h⟩ := reps_cons.1 h; rw [reps_nil] at h; simp_all
theorem mod_sound {s : Option IntKind} {d : TypeDesc} (hd : match s with | none => d = .string | some kd => d = .int kd) {q x : PV} {u y : Value} (hu : Rep M B q u) (hy : Rep M B x y) : ∀ {L : List PV} {es : List MapEntry}, Reps M B L (flatE es) → mapOK s L q = true →
 Reps M B (mapMod s L q x) (flatE (modF d u y es))
 | L, [], h, hg => by
  have : L = [] := by cases L with | nil => rfl | cons p L => obtain ⟨_, _, e, _⟩ := reps_cons.1 h; cases e
  subst this
  exact h
 | L, e :: es, h, hg => by
  rw [flatE_cons] at h
  match L, h with
  | k :: v :: L, h =>
   obtain ⟨a, l1, e1, rk, h⟩ := reps_cons.1 h
   injection e1 with e1 e2; subst e1; subst e2
   obtain ⟨b, l2, e1, rv, h⟩ := reps_cons.1 h
   injection e1 with e1 e2; subst e1; subst e2
   rw [mapOK, Bool.and_eq_true] at hg
   obtain ⟨hg1, hg⟩ := hg
   cases he : eqK s q k with
   | none => rw [he] at hg1; cases hg1
   | some r =>
    obtain ⟨h1, h2⟩ := eqK_spec hd he hu rk
    cases r with
    | true =>
     simp only [mapMod, he, modF, h1]
     exact reps_cons.2 ⟨u, _, rfl, hu, reps_cons.2 ⟨y, _, rfl, hy, h⟩⟩
    | false =>
     simp only [mapMod, he, modF, h1]
     exact reps_cons.2 ⟨_, _, rfl, rk, reps_cons.2 ⟨_, _, rfl, rv, mod_sound hd hu hy h hg⟩⟩
  | [], h => rw [reps_nil] at h; cases h
  | [p], h => obtain ⟨_, _, e1, _, h⟩ := reps_cons.1 h; rw [reps_nil] at h; simp_all
theorem ltP_sound {s : Option IntKind} {q k : PV} {u v : Value} {r : Bool} (he : eqK s q k = some r) (hu : Rep M B q u) (hv : Rep M B k v) : ltP q k = keyLt u v := by
 unfold eqK at he
 split at he
 ·rw [rep_int.1 hu, rep_int.1 hv]; rfl
 ·rw [rep_str.1 hu, rep_str.1 hv]; rfl
 ·cases he
theorem ins_sound {s : Option IntKind} {q x : PV} {e0 : MapEntry} (hu : Rep M B q e0.key) (hy : Rep M B x e0.val) : ∀ {L : List PV} {es : List MapEntry}, Reps M B L (flatE es) → mapOK s L q = true → Reps M B (mapIns L q x) (flatE (insE e0 es))
 | L, [], h, hg => by
  have : L = [] := by cases L with | nil => rfl | cons p L => obtain ⟨_, _, e, _⟩ := reps_cons.1 h; cases e
  subst this
  exact reps_cons.2 ⟨_, _, rfl, hu, reps_cons.2 ⟨_, _, rfl, hy, reps_nil.2 rfl⟩⟩
 | L, e :: es, h, hg => by
  rw [flatE_cons] at h
  match L, h with
  | k :: v :: L, h =>
   have h0 := h
   obtain ⟨a, l1, e1, rk, h⟩ := reps_cons.1 h
   injection e1 with e1 e2; subst e1; subst e2
   obtain ⟨b, l2, e1, rv, h⟩ := reps_cons.1 h
   injection e1 with e1 e2; subst e1; subst e2
   rw [mapOK, Bool.and_eq_true] at hg
   obtain ⟨hg1, hg⟩ := hg
   cases he : eqK s q k with
   | none => rw [he] at hg1; cases hg1
   | some r =>
    have hlt := ltP_sound he hu rk
    unfold insE
    simp only [mapIns, hlt]
    cases keyLt e0.key e.key with
    | true => exact reps_cons.2 ⟨_, _, rfl, hu, reps_cons.2 ⟨_, _, rfl, hy, h0⟩⟩
    | false => exact reps_cons.2 ⟨_, _, rfl, rk, reps_cons.2 ⟨_, _, rfl, rv, ins_sound hu hy h hg⟩⟩
  | [], h => rw [reps_nil] at h; cases h
  | [p], h => obtain ⟨_, _, e1, _, h⟩ := reps_cons.1 h; rw [reps_nil] at h; simp_all
theorem insE_last {e : MapEntry} (he : isStrV e.key = false) : ∀ l : List MapEntry, insE e l = l ++ [e]
 | [] => rfl
 | x :: l => by
  have : keyLt e.key x.key = false := by cases hk : e.key <;> first | rfl | grind [isStrV]
  unfold insE
  rw [this, if_neg (by decide), insE_last he l]; rfl
theorem addE_new {s : Option IntKind} {d : TypeDesc} (hd : match s with | none => d = .string | some kd => d = .int kd) {q : PV} {e0 : MapEntry} (hkd : kindD d e0.key) (hu : Rep M B q e0.key) {L : List PV} {es : List MapEntry} (h : Reps M B L (flatE es)) (hg : mapOK s L q = true) (hf : fv d e0.key es = some none) : addE es e0 = insE e0 es := by
 unfold addE
 split
 ·rfl
 ·rename_i hc
  cases hs : isStrV e0.key with
  | false => grind [insE_last]
  | true =>
   exfalso
   apply hc
   obtain ⟨b, hb⟩ := isStrV_some hs
   have hds : d = .string := by
    rcases hkd with ⟨h, _⟩ | ⟨_, h⟩
    ·exact h
    simp_all
   subst hds
   clear hc h hg hu
   rw [hb] at hf ⊢
   simp only [Bool.and_eq_true, Bool.not_eq_true', isStrV, true_and]
   induction es with
   | nil => simp
   | cons z es ih =>
    simp only [fv] at hf
    cases hz : Instr.sameNow .string (.string b) z.key with
    | none => rw [hz] at hf; cases hf
    | some r => rw [hz] at hf; cases r with
     | true => cases hf
     | false =>
      obtain ⟨i1, i2⟩ := ih hf
      have hzs : ∃ c, z.key = .string c := by
       cases hk : z.key <;> rw [hk] at hz <;> simp [Instr.sameNow] at hz
       simp
      obtain ⟨c, hc⟩ := hzs
      rw [hc, same_str] at hz
      simp only [Option.some.injEq] at hz
      refine ⟨by rw [List.all_cons, hc, i1]; rfl, ?_⟩
      rw [List.any_cons, hc, i2]
      show ((b.data.toList == c.data.toList) || false) = false
      rw [hz]; rfl
theorem put_sound {s : Option IntKind} {d : TypeDesc} (hd : match s with | none => d = .string | some kd => d = .int kd) {q x : PV} {u y : Value} (hkd : kindD d u) (hu : Rep M B q u) (hy : Rep M B x y) {L : List PV} {es : List MapEntry} (h : Reps M B L (flatE (canE es))) (hg : mapOK s L q = true) :
 (Instr.findNow d u es 0 = some none ∧ ∀ b, Reps M B (mapPut s L q x) (flatE (canE (es ++ [{ key := u, val := y, born := b }])))) ∨
 ∃ (j : Nat) (e : MapEntry), Instr.findNow d u es 0 = some (some (0 + j, e.val)) ∧ es[j]? = some e ∧ e.key = u ∧ Reps M B (mapPut s L q x) (flatE (canE (es.modify j fun e => { e with key := u, val := y }))) := by
 have e0 := findNow_fv (d := d) (u := u) es 0
 have ec := canE_fv hkd es
 rcases has_sound hd hu h hg with ⟨h1, v, h2⟩ | ⟨h1, h2⟩
 ·rw [ec] at h2
  rw [h2] at e0
  cases hf : Instr.findNow d u es 0 with
  | none => rw [hf] at e0; cases e0
  | some o => cases o with
   | none => rw [hf] at e0; cases e0
   | some z =>
    obtain ⟨j, v'⟩ := z
    have hf0 : Instr.findNow d u es 0 = some (some (0 + j, v')) := by rw [hf, Nat.zero_add]
    obtain ⟨g1, e, g2, g3⟩ := modify_modF (y := y) es 0 j v' hf0
    have hv : v' = e.val := by
     have key : ∀ (es : List MapEntry) (i j : Nat) (v : Value) (e : MapEntry), Instr.findNow d u es i = some (some (i + j, v)) → es[j]? = some e → v = e.val := by
      intro es
      induction es with
      | nil => simp
      | cons x es ih =>
       intro i j v e h1 h2
       simp only [Instr.findNow] at h1
       cases hs : Instr.sameNow d u x.key with
       | none => rw [hs] at h1; cases h1
       | some b => rw [hs] at h1; cases b with
        | true =>
         simp_all
        | false =>
         cases j with
         | zero =>
          exfalso
          have hle : ∀ (es : List MapEntry) (i k : Nat) (v : Value), Instr.findNow d u es i = some (some (k, v)) → i ≤ k := by
           intro es
           induction es with
           | nil => intro i k v h; cases h
           | cons x es ih =>
            grind [Instr.findNow]
          have := hle es (i + 1) (i + 0) v h1
          omega
         | succ j => exact ih (i + 1) j v e (by rw [show i + 1 + j = i + (j + 1) by omega]; exact h1) (by grind)
     exact key es 0 j v' e hf0 g2
    grind [same_eq, canE_mod, mapPut, mod_sound]
 ·have hn := h2
  rw [ec] at h2
  rw [h2] at e0
  cases hf : Instr.findNow d u es 0 with
  | none => rw [hf] at e0; cases e0
  | some o => cases o with
   | some z => rw [hf] at e0; cases e0
   | none =>
    refine .inl ⟨rfl, fun b => ?_⟩
    rw [foldl_snoc, addE_new (e0 := { key := u, val := y, born := b }) hd hkd hu h hg hn]
    grind [mapPut, ins_sound]
theorem map_at (hI : Inv n M B out σ a.tmps w) {i : Nat} {v : Value} (hv : Rep M B (.bld 0 i) v) {cs L : List PV} {b : Bool} (hcs : σ.h[i]? = some (some cs)) (hin : mapIn cs = some (b, L)) :
 ∃ c es ck, B[i]? = some c ∧ v = .map (some c.1) ∧ w.heap[c.1]? = some (.map es ck) ∧ bornOK es ck ∧ Reps M (mapB b B) L (flatE (canE es.toList)) := by
 obtain ⟨c, hc, hb⟩ := rep_bld.1 hv
 obtain ⟨hb2, rfl⟩ := hb.1 rfl
 obtain ⟨vs, ty, r1, o2, o3, o4, o5⟩ := hI.heap.at hcs hc
 have hty : ty = 0 := by rw [o2.2, hb2]
 subst hty
 rw [mapIn_spec hin] at o4
 obtain ⟨u, h1, h2, _⟩ := o4 0 (mapC b L) rfl
 rcases rowAt_inv0 r1 with ⟨es, ck, hrow, rfl, hbo⟩ | ⟨s, pos, hrow, rfl⟩
 rotate_left
 ·simp at h1; subst h1
  obtain ⟨f, e1, _⟩ := rep_mapC.1 h2
  unfold iterV at e1
  injection e1 with e1 _ _
  injection e1 with e1
  exact absurd e1 (by decide)
 simp at h1; subst h1
 obtain ⟨f, e1, h3⟩ := rep_mapC.1 h2
 grind [mapV]
theorem rep_iterC {M : Mem} {B : Blk} {s : ByteArray} {p : Int} {v : Value} : Rep M B (iterC s p) v ↔ v = .func (.yield ITN) #[.string s, .int .i64 p] #[] := by
 refine rep_func.trans ⟨?_, ?_⟩
 ·rintro ⟨f, c, rfl, h1, h2⟩
  rw [reps_nil] at h2
  obtain ⟨u1, l1, e1, g1, h1⟩ := reps_cons.1 h1
  obtain ⟨u2, l2, rfl, g2, h1⟩ := reps_cons.1 h1
  rw [reps_nil] at h1; subst h1
  rw [rep_str.1 g1, rep_int.1 g2] at e1
  have hc : c = #[] := by rw [← Array.toList_inj]; exact h2
  have hf : f = #[.string s, .int .i64 p] := by rw [← Array.toList_inj]; exact e1
  rw [hc, hf]
 ·rintro rfl
  exact ⟨_, _, rfl, reps_cons.2 ⟨_, _, rfl, rep_str.2 rfl, reps_cons.2 ⟨_, _, rfl, rep_int.2 rfl, reps_nil.2 rfl⟩⟩, reps_nil.2 rfl⟩
theorem iter_at (hI : Inv n M B out σ a.tmps w) {i : Nat} {v : Value} (hv : Rep M B (.bld ITT i) v) {cs : List PV} {s : ByteArray} {p : Int} (hcs : σ.h[i]? = some (some cs)) (hin : iterIn cs = some (s, p)) :
 ∃ (c : Nat × Nat × TypeId) (pos : Nat), B[i]? = some c ∧ v = .pointer (some ⟨c.1, 0, none⟩) ∧ w.heap[c.1]? = some (.stringIter s pos) ∧ p = pos := by
 obtain ⟨c, hc, hb⟩ := rep_bld.1 hv
 obtain ⟨hb2, rfl⟩ : c.2 = (1, 0) ∧ v = .pointer (some ⟨c.1, 0, none⟩) := hb.2 (by decide)
 obtain ⟨vs, ty, r1, o2, o3, o4, o5⟩ := hI.heap.at hcs hc
 have hty : ty = 0 := by rw [o2.2, hb2]
 subst hty
 rw [iterIn_spec hin] at o4
 obtain ⟨u, h1, h2, _⟩ := o4 0 (iterC s p) rfl
 have h2 := rep_iterC.1 h2
 rcases rowAt_inv0 r1 with ⟨es, ck, hrow, rfl, hbo⟩ | ⟨s', pos, hrow, rfl⟩
 ·simp at h1; subst h1
  unfold mapV at h2
  injection h2 with e1 _ _
  injection e1 with e1
  exact absurd e1 (by decide)
 grind [iterV]
theorem range_sound (hI : Inv n M B out σ a.tmps w) {P : Program} {t : TypeId} (ht : isStrT P t = true) (s : ByteArray) :
 (Instr.range t (.string s)).run P w = .ok (.pointer (some ⟨w.heap.size, 0, none⟩)) (w.alloc (.stringIter s 0)) ∧ Pre n out M B σ a.tmps w M (B ++ [(w.heap.size, 1, 0)]) { σ with h := σ.h ++ [some [iterC s 0]] } (w.alloc (.stringIter s 0)) (.bld ITT σ.h.length) (.pointer (some ⟨w.heap.size, 0, none⟩)) := by
 have hu : P.underlying t = some .string := by
  grind [isStrT]
 refine ⟨run_range_string w t s hu, ?_⟩
 have hG := hI.newObjR (.stringIter s 0) #[iterV s 0] 0 (rowAt_it (heap_alloc_new w _)) [iterC s 0] (Nat.le_refl _) (fun j p hj => by
  match j, hj with
  | 0, hj =>
   simp at hj; subst hj
   exact ⟨iterV s 0, rfl, rep_iterC.2 rfl, tl_no rfl, rfl, fun b => ownV_no rfl _ _⟩
  | j + 1, hj => simp at hj)
 exact Pre.ofGood hG (rep_bld.2 ⟨(w.heap.size, 1, 0), by rw [hI.heap.1]; simp, fun h => absurd h (by decide), fun _ => ⟨rfl, rfl⟩⟩) rfl
theorem next_sound (hI : Inv n M B out σ a.tmps w) {P : Program} {i : Nat} {v : Value} (ty : TypeId) (hv : Rep M B (.bld ITT i) v) {cs : List PV} {s : ByteArray} {p : Int} (hcs : σ.h[i]? = some (some cs)) (hin : iterIn cs = some (s, p)) :
 (p < (s.size : Int) → ∃ w', (Instr.next v true ty).run P w = .ok (.tuple #[.bool true, .int .i64 p, .int .i32 (iterRn s p)]) w' ∧ Good n out M B σ a.tmps w M B { σ with h := σ.h.set i (some [iterC s (iterNx s p)]) } a.tmps w') ∧
 (¬ p < (s.size : Int) → (Instr.next v true ty).run P w = .ok (.tuple #[.bool false]) w) := by
 obtain ⟨c, pos, hc, rfl, hrow, rfl⟩ := iter_at hI hv hcs hin
 have hlt : c.1 < w.heap.size := (Array.getElem?_eq_some_iff.1 hrow).1
 refine ⟨fun h => ?_, fun h => Lib.run_next_end_at w c.1 s pos ty hrow (by omega)⟩
 refine ⟨_, Lib.run_next_any_at w c.1 s pos ty hrow (by omega), ?_⟩
 have hcs1 := iterIn_spec hin
 subst hcs1
 obtain ⟨k1, k2, k3⟩ := hI.setRow (i := i) (j := 0) (p := iterC s (iterNx s (pos : Int))) (v := iterV s (pos + (Utf8.decode s pos).2)) hcs hc (rowAt_it hrow) (by simp) (rep_iterC.2 rfl) (tl_no rfl) rfl (fun b => by rw [ownV_no rfl]; exact hI.cnt b) (fun b _ => ownV_no rfl _ _) (w' := w.iterAt c.1 s (pos + (Utf8.decode s pos).2)) (fun b hb => Lib.iterAt_other w c.1 b s _ hb) (by rw [rowAt_it (Lib.iterAt_heap w c.1 s pos _ hrow)]; rfl) rfl rfl rfl (Lib.iterAt_size w c.1 s _)
 exact ⟨k1, MLe.refl _ _, k3, fun b _ => by have := k2 b; rw [ownV_no rfl] at this; exact this⟩
theorem makeMap_sound (hI : Inv n M B out σ a.tmps w) (t : TypeId) (b : Bool) {P : Program} :
 (Instr.makeMap t none).run P w = .ok (.map (some w.heap.size)) (w.alloc (.map #[] 0)) ∧ Pre n out M B σ a.tmps w M (B ++ [(w.heap.size, 1, 0)]) { σ with h := σ.h ++ [some [mapC b []]] } (w.alloc (.map #[] 0)) (.bld 0 σ.h.length) (.map (some w.heap.size)) := by
 refine ⟨by rfl, ?_⟩
 have hG := hI.newObjR (.map #[] 0) #[mapV #[]] 0 (rowAt_map (heap_alloc_new w _) ⟨by simp, by simp⟩) [mapC b []] (Nat.le_refl _) (fun j p hj => by
  match j, hj with
  | 0, hj =>
   simp at hj; subst hj
   exact ⟨mapV #[], rfl, rep_mapC.2 ⟨_, rfl, reps_nil.2 rfl⟩, tl_no (mapC_own _ _), rfl, fun b => ownV_no (mapC_own _ _) _ _⟩
  | j + 1, hj => simp at hj)
 refine Pre.ofGood hG (rep_bld.2 ⟨(w.heap.size, 1, 0), by rw [hI.heap.1]; simp, fun _ => ⟨rfl, rfl⟩, fun h => absurd rfl h⟩) rfl
theorem lookup_sound (hI : Inv n M B out σ a.tmps w) {P : Program} {t : TypeId} {s : Option IntKind} {z : PV} (ht : mapTI P t = some (s, z)) {i : Nat} {v u : Value} (hv : Rep M B (.bld 0 i) v) {cs L : List PV} {b : Bool} (hcs : σ.h[i]? = some (some cs)) (hin : mapIn cs = some (b, L))
 {q : PV} (hu : Rep M B q u) (hq : isKeyK s q = true) {r : Option PV} (hg : mapGet s L q = some r) (ok : Bool) :
 ∃ x, (Instr.lookup t v u ok).run P w = .ok x w ∧ Rep M B (lookR ok z r) x ∧ (lookR ok z r).own = false := by
 obtain ⟨k, e, zv, i', d, h1, h2, h3, h4, h5, rfl, h6⟩ := mapTI_spec ht
 obtain ⟨c, es, ck, _, rfl, hrow, _, hL⟩ := map_at hI hv hcs hin
 have hL : Reps M B L (flatE (canE es.toList)) := by
  cases b with
  | true => exact hL.mono (MLe.zero _ _)
  | false => exact hL
 have hk := key_of h3 hq hu
 have hck := MapKept.run_checkKey (P := P) (w := w) h2 hk es.isEmpty 9999
 obtain ⟨rz, oz⟩ := rep_zeroOf (M := M) (B := B) h6
 have hzr : (zeroValue e).run P w = .ok zv w := by simp [zeroValue, typeInfo, h4, h5]
 rcases get_sound h3 (kind_of h3 hq hu) hu 0 hL hg with ⟨rfl, hf⟩ | ⟨p, j, e', rfl, hf, hp⟩
 ·have hfk := MapKept.run_findKey (P := P) (w := w) h2 hf
  cases ok with
  | true => exact ⟨.tuple #[zv, .bool false], by simp [Instr.lookup, run_underlying h1, MapKept.run_getObj_map hrow, hck, hfk, hzr, Result.andThen], rep_tuple.2 ⟨_, rfl, reps_cons.2 ⟨_, _, rfl, rz, reps_cons.2 ⟨_, _, rfl, rep_bool.2 rfl, reps_nil.2 rfl⟩⟩⟩, rfl⟩
  | false => exact ⟨zv, by simp [Instr.lookup, run_underlying h1, MapKept.run_getObj_map hrow, hck, hfk, hzr, Result.andThen], rz, oz⟩
 ·have hfk := MapKept.run_findKey (P := P) (w := w) h2 hf
  cases ok with
  | true => exact ⟨.tuple #[e', .bool true], by simp [Instr.lookup, run_underlying h1, MapKept.run_getObj_map hrow, hck, hfk, Result.andThen], rep_tuple.2 ⟨_, rfl, reps_cons.2 ⟨_, _, rfl, rep_un.2 hp, reps_cons.2 ⟨_, _, rfl, rep_bool.2 rfl, reps_nil.2 rfl⟩⟩⟩, rfl⟩
  | false => exact ⟨e', by simp [Instr.lookup, run_underlying h1, MapKept.run_getObj_map hrow, hck, hfk, Result.andThen], rep_un.2 hp, un_own _⟩
theorem sameBits_self {d : TypeDesc} {u : Value} (h : MapKept.IsKey d u) : Instr.sameBits 10000 u u = true := by
 cases d <;> cases u <;> simp_all [MapKept.IsKey, Instr.sameBits, MapKept.bytes_beq]
theorem update_sound (hI : Inv n M B out σ a.tmps w) {P : Program} {t : TypeId} {s : Option IntKind} {z : PV} (ht : mapTI P t = some (s, z)) {i : Nat} {v u y : Value} (hv : Rep M B (.bld 0 i) v) {cs L : List PV} {b : Bool} (hcs : σ.h[i]? = some (some cs)) (hin : mapIn cs = some (b, L))
 {q x : PV} (hu : Rep M B q u) (hq : isKeyK s q = true) (hy : Rep M B x y) (hg : mapOK s L q = true) (hfl : b = true → x.flat = true) :
 ∃ w', (Instr.mapUpdate t v u y).run P w = .ok () w' ∧ Good n out M B σ a.tmps w M B { σ with h := σ.h.set i (some [mapC b (mapPut s L q x)]) } a.tmps w' := by
 obtain ⟨k, e, zv, i', d, h1, h2, h3, h4, h5, rfl, h6⟩ := mapTI_spec ht
 obtain ⟨c, es, ck, hc, rfl, hrow, hbo, hL⟩ := map_at hI hv hcs hin
 have hk := key_of h3 hq hu
 have hck := MapKept.run_checkKey (P := P) (w := w) h2 hk false 9999
 have hcs1 := mapIn_spec hin
 subst hcs1
 have hlt : c.1 < w.heap.size := (Array.getElem?_eq_some_iff.1 hrow).1
 have fin : ∀ (es' : Array MapEntry) (ck' : Nat), bornOK es' ck' → Reps M (mapB b B) (mapPut s L q x) (flatE (canE es'.toList)) → Good n out M B σ a.tmps w M B { σ with h := σ.h.set i (some [mapC b (mapPut s L q x)]) } a.tmps { w with heap := w.heap.setIfInBounds c.1 (.map es' ck') } := fun es' ck' hb' hR => by
  obtain ⟨g1, g2⟩ := MapKept.heap_set (o' := .map es' ck') hrow
  have hr : Rep M B (mapC b (mapPut s L q x)) (mapV es') := rep_mapC.2 ⟨_, rfl, by omega⟩
  obtain ⟨k1, k2, k3⟩ := hI.setRow (i := i) (j := 0) hcs hc (rowAt_map hrow hbo) (by simp) hr (tl_no (mapC_own _ _)) rfl (fun b => by rw [ownV_no (mapC_own _ _)]; exact hI.cnt b) (fun b _ => ownV_no (mapC_own _ _) _ _) (w' := { w with heap := w.heap.setIfInBounds c.1 (.map es' ck') }) (fun b hb => g2 b hb) (by rw [rowAt_map (w := { w with heap := w.heap.setIfInBounds c.1 (.map es' ck') }) g1 hb']; rfl) rfl rfl rfl (by simp)
  exact ⟨k1, MLe.refl _ _, k3, fun b _ => by have := k2 b; rw [ownV_no (mapC_own _ _)] at this; exact this⟩
 have hku : q.flat = true := by
  unfold isKeyK at hq
  split at hq
  ·rfl
  ·rfl
  ·cases hq
 have hu2 : Rep M (mapB b B) q u := by
  cases b with
  | true => exact hu.flat [] hku
  | false => exact hu
 have hy2 : Rep M (mapB b B) x y := by
  cases b with
  | true => exact hy.flat [] (hfl rfl)
  | false => exact hy
 rcases put_sound h3 (kind_of h3 hq hu) hu2 hy2 hL hg with ⟨hf, hR⟩ | ⟨j, e', hf, he, hke, hR⟩
 ·have hfk := MapKept.run_findKey (P := P) (w := w) h2 hf
  exact ⟨_, by simp [Instr.mapUpdate, run_underlying h1, MapKept.run_getObj_map hrow, hck, hfk, MapKept.run_setObj_map _ hrow, Result.andThen]; rfl, fin _ _ (bornOK_push hbo _ _) (by rw [Array.toList_push]; exact hR ck)⟩
 ·have hfk := MapKept.run_findKey (P := P) (w := w) h2 hf
  rw [Nat.zero_add] at hfk
  have hej : es[j]? = some e' := by grind
  have hst : (Instr.keyThatStays (((es[j]?).map (·.key)).getD u) u).run P w = .ok u w := by
   rw [hej, Option.map_some, Option.getD_some, hke]
   unfold Instr.keyThatStays
   rw [if_pos (sameBits_self hk)]; rfl
  exact ⟨_, by simp [Instr.mapUpdate, run_underlying h1, MapKept.run_getObj_map hrow, hck, hfk, hst, MapKept.run_setObj_map _ hrow, Result.andThen]; rfl, fin _ _ (bornOK_modify hbo _ _ _) (by rw [Array.toList_modify]; exact hR)⟩
end
section
variable {n : Nat} {out : Nat → Nat} {M : Mem} {B : Blk} {σ σ1 : ASt} {a : Act} {w : World} {E : AE} {o : Oper} {p : PV}
def StepRes (E : AE) (out : Nat → Nat) (M : Mem) (B : Blk) (σ : ASt) (a : Act) (w : World) (o : Oper) (p : PV) (σ1 : ASt) : Prop :=
 ∃ v w' M' B', ((execOp a.eval o).run E.P w = .ok (.value v) w' ∨ ((execOp a.eval o).run E.P w = .ok .skip w' ∧ o.dst = none)) ∧ Pre E.n out M B σ a.tmps w M' B' σ1 w' p v
theorem execOp_val {P : Program} {ρ : Operand → Value} {o : Oper} {s : Sem Value} {v : Value} {w w' : World} (h : execOp ρ o = (do pure (.value (← s)))) (hr : s.run P w = .ok v w') : (execOp ρ o).run P w = .ok (.value v) w' := by
 rw [h]; simp [hr]
theorem step_pop (hI : Inv E.n M B out σ a.tmps w) (h : (pop E.P σ.rd o.op).map (fun p => (p, σ)) = some (p, σ1)) : StepRes E out M B σ a w o p σ1 := by
 cases hp : pop E.P σ.rd o.op with
 | none => grind
 | some q =>
  simp [hp] at h
  obtain ⟨rfl, rfl⟩ := h
  obtain ⟨v, h1, h2, h3⟩ := pop_sound (fun x q hq => hI.rd x q hq) hp w hI.mem
  exact ⟨v, w, M, B, .inl h1, Pre.plain hI h2 (fun b => ownV_no h3 _ _) (tl_no h3)⟩
theorem step_sound (hI : Inv E.n M B out σ a.tmps w) (hs : stepV E o σ = some (p, σ1)) (hside : sideV E o σ) : StepRes E out M B σ a w o p σ1 := by
 obtain ⟨dst, op, type, pos, after, guard⟩ := o
 cases op with
 | move x =>
  simp only [stepV] at hs
  split at hs
  ·cases hx : σ.ev x with
   | none => simp_all
   | some q =>
    simp [hx] at hs; obtain ⟨rfl, rfl⟩ := hs
    exact ⟨_, w, M, B, .inl rfl, Pre.moved hI hx⟩
  ·cases hx : σ.rd x with
   | none => simp_all
   | some q =>
    simp [hx] at hs; obtain ⟨rfl, rfl⟩ := hs
    obtain ⟨h1, h2⟩ := hI.rd x _ hx
    exact ⟨_, w, M, B, .inl rfl, Pre.plain hI h1 (fun b => ownV_no h2 _ _) (tl_no h2)⟩
 | assign x =>
  simp only [stepV] at hs
  cases hx : σ.ev x with
  | none => simp_all
  | some q =>
   simp [hx] at hs; obtain ⟨rfl, rfl⟩ := hs
   exact ⟨_, w, M, B, .inl rfl, Pre.moved hI hx⟩
 | alloc t =>
  simp only [stepV] at hs
  split at hs
  ·cases hs
  cases ht : ti E.P t with
  | none => simp_all
  | some I =>
   simp [ht] at hs; obtain ⟨rfl, rfl⟩ := hs
   obtain ⟨vs, h1, h2, h3, h4⟩ := alloc_run ht w
   have hG := hI.newObj2 vs t (bldZ (inMv E.mu dst) t σ.h.length I.zero) (by rw [bldZ_length, h3]; simp) (fun j p hj => by
    have base : ∀ p, I.zero[j]? = some p → ∃ v, vs[j]? = some v ∧ Rep M (B ++ [(w.heap.size, vs.size, t + 1)]) p v ∧ Tl M w p v ∧ v.oneCell' = true ∧ ∀ b, ownV p v b = 0 := fun p hj => by
     rw [h3, List.getElem?_map] at hj
     grind [rep_zero, tl_zero, ownV_zero]
    rcases bldZ_get hj with h | ⟨rfl, rfl, h0, h2', ht0⟩ | ⟨rfl, rfl, h0⟩
    grind
    ·obtain ⟨v, hv, hr, ht, ho, _⟩ := base _ h0
     have h2'' : vs.size = 2 := by rw [h3] at h2'; simp_all
     exact ⟨v, hv, rep_bld.2 ⟨(w.heap.size, vs.size, t + 1), by rw [hI.heap.1]; simp, fun h => absurd h ht0.1, fun _ => bldW_of ht0.2 (by rw [h2'']) (.inl (rep_nilp.1 hr))⟩, tl_no rfl, ho, fun b => ownV_no rfl _ _⟩
    ·obtain ⟨v, hv, hr, ht, ho, hw0⟩ := base _ h0
     obtain ⟨rfl, _⟩ := nil_of hr
     exact ⟨_, hv, rep_slT.2 ⟨none, 0, rfl, Nat.le_refl _, fun h => absurd rfl h⟩, ⟨(fun _ _ _ _ _ e => by cases e), (fun l A n cap e ev => by grind), (fun _ _ _ _ _ _ e _ => by cases e)⟩, ho, fun b => by simp [ownV]⟩)
   refine ⟨_, _, _, _, .inl (execOp_val rfl h1), Pre.ofGood hG (rep_ptr.2 ⟨(w.heap.size, vs.size, t + 1), ⟨by have := hI.heap.1; simp [this], by simp⟩, rfl⟩) rfl⟩
 | box t x =>
  simp only [stepV] at hs
  split at hs
  ·cases hx : σ.rd x with
   | none => simp_all
   | some q =>
    cases hf : frzPV q with
    | none => simp_all
    | some e =>
     simp [hx, hf] at hs; obtain ⟨rfl, rfl⟩ := hs
     unfold frzPV at hf
     cases hn : q.newCells with
     | none => simp_all
     | some cs =>
      rw [hn] at hf
      simp only at hf
      split at hf
      ·rename_i hfl
       injection hf with hf
       obtain ⟨r1, r2⟩ := hI.rd x _ hx
       obtain ⟨h1, h2⟩ := newCells_rep hn r1
       have hone := newCells_one hn r1
       obtain ⟨hG, hfp⟩ := hI.lay (a.eval x).cells t (a.eval x).cells.size (fun v hv => hone v (by grind))
       have hM : ∀ (j : Nat) u, (a.eval x).cells.toList[j]? = some u → laid M w.heap.size ((a.eval x).cells.toList.take (a.eval x).cells.size) w.heap.size j = some u := fun j u hu => by
        rw [laid_at (laid_new hI), if_pos rfl, List.getElem?_take, if_pos (by have := (List.getElem?_eq_some_iff.1 hu).1; omega)]; exact hu
       have hm := (laid_le hI ((a.eval x).cells.toList.take (a.eval x).cells.size)).none
       have hloc : Loc (laid M w.heap.size ((a.eval x).cells.toList.take (a.eval x).cells.size)) [] e w.heap.size 0 := by
        have r3 : Rep M [] q (a.eval x) := r1.flat [] hfl
        obtain ⟨h3, _⟩ := newCells_rep hn r3
        cases q with
        | agg ds =>
         subst hf
         refine loc_agg.2 (cells_of fun j p hj => ?_)
         obtain ⟨u, hu, hr⟩ := reps_get h3 hj
         exact ⟨u, by rw [Nat.zero_add]; simp_all, hr.mono hm⟩
        | tuple ds => simp [PV.newCells, PV.one] at hn
        | _ =>
         subst hf
         refine (loc_of_one rfl).2 ⟨a.eval x, hM 0 _ ?_, r3.mono hm⟩
         rw [(one_cells rfl r1).1]; rfl
       exact ⟨.pointer (some ⟨w.heap.size, 0, none⟩), _, _, _, .inl (execOp_val (s := Instr.box t (a.eval x)) rfl (by rfl)), Pre.ofGood hG (rep_cst.2 ⟨_, _, rfl, hloc⟩) rfl⟩
      ·cases hf
  ·cases hx : σ.rd x with
   | none => simp_all
   | some q =>
    cases hn : q.newCells with
    | none => simp_all
    | some cs =>
     simp [hx, hn] at hs; obtain ⟨rfl, rfl⟩ := hs
     obtain ⟨r1, r2⟩ := hI.rd x _ hx
     obtain ⟨h1, h2⟩ := newCells_rep hn r1
     have hone := newCells_one hn r1
     have hG := hI.newObj (a.eval x).cells t cs (by have := reps_length h1; simp_all) (fun j p hj => by
      grind [reps_get, tl_no, ownV_no])
     exact ⟨.pointer (some ⟨w.heap.size, 0, none⟩), _, _, _, .inl (execOp_val (s := Instr.box t (a.eval x)) rfl (by rfl)), Pre.ofGood hG (rep_ptr.2 ⟨(w.heap.size, (a.eval x).cells.size, t + 1), ⟨by have := hI.heap.1; simp [this], by simp⟩, rfl⟩) rfl⟩
 | load t x =>
  simp only [stepV] at hs
  split at hs
  ·rename_i I q hI' hq
   split at hs
   ·split at hs
    ·obtain ⟨v, h1, h2⟩ := load_sound hI hI' hq hs
     exact ⟨v, w, M, B, .inl (execOp_val rfl h1), h2⟩
    ·cases hs
   ·obtain ⟨v, h1, h2⟩ := load_sound hI hI' hq hs
    exact ⟨v, w, M, B, .inl (execOp_val rfl h1), h2⟩
  ·cases hs
 | store t x y =>
  simp only [stepV] at hs
  split at hs
  ·cases hs
  cases hI' : ti E.P t with
  | none => simp_all
  | some I =>
   cases hq : σ.rd x with
   | none => simp_all
   | some q =>
    cases hp : σ.ev y with
    | none => simp_all
    | some p' =>
     cases dst with
     | some d => simp_all
     | none =>
      simp only [hI', hq, hp] at hs
      cases hst : storeV I q p' (σ.clr y) with
      | none => simp_all
      | some σ2 =>
       simp [hst] at hs; obtain ⟨rfl, rfl⟩ := hs
       obtain ⟨w', M', B', h1, h2⟩ := store_sound hI hI' hq hp hst
       refine ⟨undef, w', M', B', .inr ⟨?_, rfl⟩, h2⟩
       show (execOp a.eval ⟨none, .store t x y, type, pos, after, guard⟩).run E.P w = _
       simp [execOp, h1]
 | buildSlice t len ps =>
  simp only [stepV] at hs
  split at hs
  ·rename_i I qs hT hq
   split at hs
   ·rename_i es he
    split at hs
    ·rename_i hc
     obtain ⟨l1, l2, l3⟩ := literal_sound hI hT hq he hc.1 hc.2.1 hc.2.2
     split at hs
     ·cases hs
      obtain ⟨v, w', M', B', h1, h2⟩ := l2
      exact ⟨v, w', M', B', .inl (execOp_val rfl h1), h2⟩
     ·split at hs
      ·split at hs
       ·rename_i hlit
        cases hs
        obtain ⟨v, w', M', B', h1, h2⟩ := l3 hlit
        exact ⟨v, w', M', B', .inl (execOp_val rfl h1), h2⟩
       ·cases hs
      ·cases hs
       obtain ⟨v, w', M', B', h1, h2⟩ := l1
       exact ⟨v, w', M', B', .inl (execOp_val rfl h1), h2⟩
    ·cases hs
   ·cases hs
  ·cases hs
 | makeSlice t l c =>
  simp only [stepV] at hs
  split at hs
  ·rename_i I k m k' m' hT hl hc
   obtain ⟨e, i, z, d, hu, hTI⟩ := elem_spec hT
   have el := rep_int.1 (hI.rd l _ hl).1
   have ec := rep_int.1 (hI.rd c _ hc).1
   split at hs
   ·split at hs
    ·rename_i hcond
     obtain ⟨hn, h0, h1, hpos, hb, hlit⟩ := hcond
     cases hs
     have hrun := make_run0 (w := w) hu hTI k k' hn h0 h1 hb
     have hex : (execOp a.eval ⟨dst, .makeSlice t l c, type, pos, after, guard⟩).run E.P w = .ok (.value (.slice (some ⟨w.heap.size, 0, none⟩) m.toNat m'.toNat)) (w.alloc (.cells (madeCells z.cells (m'.toNat * i.size)) e)) := execOp_val (s := Instr.makeSlice t (a.eval l) (a.eval c)) rfl (by rw [el, ec]; exact hrun)
     obtain ⟨M', hpre⟩ := make_slp hI hTI hpos hlit (k := m.toNat) (m := m'.toNat) (by omega)
     exact ⟨_, _, M', B, .inl hex, hpre⟩
    ·cases hs
   ·split at hs
    ·rename_i hcond
     obtain ⟨rfl, h0, h1, hpos, hb⟩ := hcond
     have hrun := make_run (w := w) hu hTI k k' h0 h1 hb
     have hex : (execOp a.eval ⟨dst, .makeSlice t l c, type, pos, after, guard⟩).run E.P w = .ok (.value (.slice (some ⟨w.heap.size, 0, none⟩) m.toNat m.toNat)) (w.alloc (.cells (madeCells z.cells (m.toNat * i.size)) e)) := execOp_val (s := Instr.makeSlice t (a.eval l) (a.eval c)) rfl (by rw [el, ec]; exact hrun)
     split at hs
     ·cases hs
      have hG := make_obj hI hTI m.toNat
      exact ⟨_, _, _, _, .inl hex, Pre.ofGood hG (rep_slh.2 ⟨(w.heap.size, (madeCells z.cells (m.toNat * i.size)).size, e + 1), m.toNat, ⟨by rw [hI.heap.1]; simp, by simp⟩, rfl, Nat.le_refl _, by rw [size_madeCells, hTI.size]; simp⟩) rfl⟩
     ·split at hs
      ·rename_i hz
       cases hs
       obtain ⟨M', hpre⟩ := make_sl hI hTI hpos hz.1 hz.2 m.toNat
       exact ⟨_, _, M', B, .inl hex, hpre⟩
      ·cases hs
    ·cases hs
  ·cases hs
 | call c =>
  obtain ⟨callee, args, argTypes⟩ := c
  simp only [stepV] at hs
  split at hs
  ·split at hs
   ·rename_i x y t u h1 h2
    have e1 : args = #[x, y] := by rw [← Array.toList_inj]; exact h1
    have e2 : argTypes = #[t, u] := by rw [← Array.toList_inj]; exact h2
    subst e1; subst e2
    split at hs
    ·rename_i I j off m sz q hT hx hy
     split at hs
     ·rename_i cs m2 cells hcs hsrc
      split at hs
      ·rename_i hc
       obtain ⟨rfl, hpos, hlen⟩ := hc
       cases hs
       obtain ⟨e, i, z, d, hu, hTI⟩ := elem_spec hT
       obtain ⟨w', g1, g2⟩ := copy_sound (u := u) (ty := type) hI hu hTI (hI.rd x _ hx).1 hcs hlen (hI.rd y _ hy).1 hsrc hpos
       refine ⟨_, w', _, _, .inl ?_, Pre.ofGood g2 (rep_int.2 rfl) rfl⟩
       show (execOp a.eval ⟨dst, .call ⟨.builtin .copy, #[x, y], #[t, u]⟩, type, pos, after, guard⟩).run E.P w = _
       simp [execOp, resolve, invoke, builtin, g1]
      ·cases hs
     ·cases hs
    ·cases hs
   ·cases hs
  ·split at hs
   ·rename_i x t h1 h2
    have e1 : args = #[x] := by rw [← Array.toList_inj]; exact h1
    have e2 : argTypes = #[t] := by rw [← Array.toList_inj]; exact h2
    subst e1; subst e2
    split at hs
    ·rename_i I j off m sz hT hx
     split at hs
     ·rename_i cs hcs
      split at hs
      ·rename_i hc
       obtain ⟨rfl, hlen⟩ := hc
       cases hs
       obtain ⟨e, i, z, d, hu, hTI⟩ := elem_spec hT
       obtain ⟨w', g1, g2⟩ := clear_sound (ty := type) hI hu hTI (hI.rd x _ hx).1 hcs hlen
       refine ⟨.tuple #[], w', _, _, .inl ?_, Pre.ofGood g2 (rep_tuple.2 ⟨#[], rfl, reps_nil.2 rfl⟩) rfl⟩
       show (execOp a.eval ⟨none, .call ⟨.builtin .clear, #[x], #[t]⟩, type, pos, after, guard⟩).run E.P w = _
       simp [execOp, resolve, invoke, builtin, g1]
      ·cases hs
     ·cases hs
    ·rename_i I o' z' hT hx
     cases hs
     obtain ⟨e, i, z, d, hu, hTI⟩ := elem_spec hT
     obtain ⟨A, cap, hv, _⟩ := rep_sl.1 (hI.rd x _ hx).1
     refine ⟨.tuple #[], w, M, B, .inl ?_, Pre.plain hI (rep_tuple.2 ⟨#[], rfl, reps_nil.2 rfl⟩) (fun b => ownV_no rfl _ _) (tl_no rfl)⟩
     show (execOp a.eval ⟨none, .call ⟨.builtin .clear, #[x], #[t]⟩, type, pos, after, guard⟩).run E.P w = _
     have hcl : (Builtin.clear_ #[t] type #[a.eval x]).run E.P w = .ok (.tuple #[]) w := by
      rw [hv]
      cases A <;> simp [Builtin.clear_, run_underlying hu]
     simp [execOp, resolve, invoke, builtin, hcl]
    ·cases hs
   ·cases hs
  ·simp only [sideV] at hside
   split at hs
   ·rename_i s x t u h1 h2
    split at hs
    ·rename_i I ow sz es o' sz' es' hT hs' hx
     split at hs
     ·rename_i hc
      obtain ⟨how, rfl, hc1, hc2, hc3, hc4⟩ := hc
      cases hs
      rw [h1] at hside
      simp only [hs', hx] at hside
      have e1 : args = #[s, x] := by rw [← Array.toList_inj]; exact h1
      have e2 : argTypes = #[t, t] := by rw [← Array.toList_inj]; exact h2
      subst e1; subst e2
      obtain ⟨v, w', M', B', g1, g2⟩ := append_sound (ty := type) hI hT how hs' hx hc1 hc2 hc3 hc4 hside
      refine ⟨v, w', M', B', .inl ?_, g2⟩
      show (execOp a.eval ⟨dst, .call ⟨.builtin .append, #[s, x], #[t, t]⟩, type, pos, after, guard⟩).run E.P w = _
      simp [execOp, resolve, invoke, builtin, g1]
     ·cases hs
    ·rename_i I ow sz es b hT hs' hx
     split at hs
     ·rename_i hc
      obtain ⟨how, hc1, hc2, hc3, hc4, hc5⟩ := hc
      cases hs
      rw [h1] at hside
      simp only [hs', hx] at hside
      have e1 : args = #[s, x] := by rw [← Array.toList_inj]; exact h1
      have e2 : argTypes = #[t, u] := by rw [← Array.toList_inj]; exact h2
      subst e1; subst e2
      obtain ⟨v, w', M', B', g1, g2⟩ := append_sound_s (ty := type) hI hT hc1 hc2 how hs' hx hc3 hc4 hc5 hside
      refine ⟨v, w', M', B', .inl ?_, g2⟩
      show (execOp a.eval ⟨dst, .call ⟨.builtin .append, #[s, x], #[t, u]⟩, type, pos, after, guard⟩).run E.P w = _
      simp [execOp, resolve, invoke, builtin, g1]
     ·cases hs
    ·rename_i I k sz cs o' sz' es' hT hs' hx
     split at hs
     ·rename_i hc
      obtain ⟨rfl, hc1, hc2, rfl, hc4, hc5⟩ := hc
      cases hs
      rw [h1] at hside
      simp only [hs', hx] at hside
      have e1 : args = #[s, x] := by rw [← Array.toList_inj]; exact h1
      have e2 : argTypes = #[t, t] := by rw [← Array.toList_inj]; exact h2
      subst e1; subst e2
      obtain ⟨v, w', M', B', g1, g2⟩ := append_slp (ty := type) hI hT hs' hx hc1 hc2 hc4 hc5 hside
      refine ⟨v, w', M', B', .inl ?_, g2⟩
      show (execOp a.eval ⟨dst, .call ⟨.builtin .append, #[s, x], #[t, t]⟩, type, pos, after, guard⟩).run E.P w = _
      simp [execOp, resolve, invoke, builtin, g1]
     ·cases hs
    ·rename_i I l b hT hs' hx
     split at hs
     ·rename_i hc
      obtain ⟨hc1, hc2, hc3, hc4⟩ := hc
      cases hs
      rw [h1] at hside
      simp only [hs', hx] at hside
      have e1 : args = #[s, x] := by rw [← Array.toList_inj]; exact h1
      have e2 : argTypes = #[t, u] := by rw [← Array.toList_inj]; exact h2
      subst e1; subst e2
      obtain ⟨v, w', M', B', g1, g2⟩ := append_slT_s (ty := type) hI hT hc1 hc2 hs' hx hc3 hc4 hside
      refine ⟨v, w', M', B', .inl ?_, g2⟩
      show (execOp a.eval ⟨dst, .call ⟨.builtin .append, #[s, x], #[t, u]⟩, type, pos, after, guard⟩).run E.P w = _
      simp [execOp, resolve, invoke, builtin, g1]
     ·cases hs
    ·rename_i I l o' sz' es' hT hs' hx
     split at hs
     ·rename_i c hob
      split at hs
      ·rename_i hc
       obtain ⟨hc1, rfl, hc3, hc4, rfl⟩ := hc
       cases hs
       rw [h1] at hside
       simp only [hs', hx, hob] at hside
       have e1 : args = #[s, x] := by rw [← Array.toList_inj]; exact h1
       have e2 : argTypes = #[t, t] := by rw [← Array.toList_inj]; exact h2
       subst e1; subst e2
       rw [oneB_spec hob] at hx
       obtain ⟨v, w', M', B', g1, g2⟩ := append_slT (ty := type) hI hT hc1 hs' hx hc3 hc4 hside.1 hside.2.1 hside.2.2
       refine ⟨v, w', M', B', .inl ?_, g2⟩
       show (execOp a.eval ⟨dst, .call ⟨.builtin .append, #[s, x], #[t, t]⟩, type, pos, after, guard⟩).run E.P w = _
       simp [execOp, resolve, invoke, builtin, g1]
      ·cases hs
     ·cases hs
    ·cases hs
   ·cases hs
  grind [step_pop, pop]
 | makeMap t r =>
  simp only [stepV] at hs
  split at hs
  ·cases hs
  split at hs
  ·cases hs
   obtain ⟨h1, h2⟩ := makeMap_sound (P := E.P) hI t (inMv E.mu dst)
   exact ⟨_, _, _, _, .inl (execOp_val (s := Instr.makeMap t none) rfl h1), h2⟩
  ·cases hs
 | lookup t m k ok =>
  simp only [stepV] at hs
  split at hs
  ·rename_i s z i q ht hm hq
   split at hs
   ·rename_i cs hcs
    split at hs
    ·rename_i b L hin
     split at hs
     ·rename_i r hk hg
      cases hs
      obtain ⟨v, g1, g2, g3⟩ := lookup_sound hI ht (hI.rd m _ hm).1 hcs hin (hI.rd k _ hq).1 hk hg ok
      exact ⟨v, w, M, B, .inl (execOp_val (s := Instr.lookup t (a.eval m) (a.eval k) ok) rfl g1), Pre.plain hI g2 (fun b => ownV_no g3 _ _) (tl_no g3)⟩
     ·cases hs
    ·cases hs
   ·cases hs
  ·cases hs
 | mapUpdate t m k x =>
  simp only [stepV] at hs
  split at hs
  ·rename_i s z i q y ht hm hq hx
   split at hs
   ·rename_i cs hcs
    split at hs
    ·rename_i b L hin
     split at hs
     ·rename_i hk
      cases hs
      simp only [Bool.and_eq_true, Bool.or_eq_true, Bool.not_eq_true'] at hk
      obtain ⟨w', g1, g2⟩ := update_sound hI ht (hI.rd m _ hm).1 hcs hin (hI.rd k _ hq).1 hk.1 (hI.rd x _ hx).1 hk.2.1 (fun e => by simp_all)
      refine ⟨.tuple #[], w', _, _, .inr ⟨?_, rfl⟩, Pre.ofGood g2 (rep_tuple.2 ⟨#[], rfl, reps_nil.2 rfl⟩) rfl⟩
      show (execOp a.eval ⟨none, .mapUpdate t m k x, type, pos, after, guard⟩).run E.P w = _
      simp [execOp, g1]
     ·cases hs
    ·cases hs
   ·cases hs
  ·cases hs
 | insert t m k x =>
  simp only [stepV] at hs
  split at hs
  ·cases hs
  split at hs
  ·rename_i s z i q y ht hm hq hx
   split at hs
   ·rename_i cs hcs
    split at hs
    ·rename_i b L hin
     split at hs
     ·rename_i hk
      cases hs
      simp only [Bool.and_eq_true, Bool.or_eq_true, Bool.not_eq_true'] at hk
      obtain ⟨w', g1, g2⟩ := update_sound hI ht (hI.rd m _ hm).1 hcs hin (hI.rd k _ hq).1 hk.1 (hI.rd x _ hx).1 hk.2.1 (fun e => by simp_all)
      refine ⟨.tuple #[], w', _, _, .inr ⟨?_, rfl⟩, Pre.ofGood g2 (rep_tuple.2 ⟨#[], rfl, reps_nil.2 rfl⟩) rfl⟩
      show (execOp a.eval ⟨none, .insert t m k x, type, pos, after, guard⟩).run E.P w = _
      simp [execOp, g1]
     ·cases hs
    ·cases hs
   ·cases hs
  ·cases hs
 | range t x =>
  simp only [stepV] at hs
  split at hs
  ·rename_i s ht hx
   cases hs
   have hv := rep_str.1 (hI.rd x _ hx).1
   obtain ⟨h1, h2⟩ := range_sound (P := E.P) hI ht s
   exact ⟨_, _, _, _, .inl (execOp_val (s := Instr.range t (a.eval x)) rfl (by rw [hv]; exact h1)), h2⟩
  ·cases hs
 | next x b =>
  simp only [stepV] at hs
  split at hs
  ·rename_i T i hx
   split at hs
   ·rename_i cs hcs
    split at hs
    ·rename_i s p hin
     split at hs
     ·rename_i hT
      rw [Bool.and_eq_true] at hT
      have hT1 := Nat.eq_of_beq_eq_true hT.1
      subst hT1
      obtain ⟨g1, g2⟩ := next_sound (P := E.P) hI type (hI.rd x _ hx).1 hcs hin
      split at hs
      ·rename_i hp
       cases hs
       obtain ⟨w', g3, g4⟩ := g1 (of_decide_eq_true hp)
       exact ⟨_, w', _, _, .inl (execOp_val (s := Instr.next (a.eval x) true type) rfl g3), Pre.ofGood g4 (rep_tuple.2 ⟨_, rfl, reps_cons.2 ⟨_, _, rfl, rep_bool.2 rfl, reps_cons.2 ⟨_, _, rfl, rep_int.2 rfl, reps_cons.2 ⟨_, _, rfl, rep_int.2 rfl, reps_nil.2 rfl⟩⟩⟩⟩) rfl⟩
      ·rename_i hp
       cases hs
       exact ⟨_, w, M, B, .inl (execOp_val (s := Instr.next (a.eval x) true type) rfl (g2 (of_decide_eq_false hp))), Pre.plain hI (rep_tuple.2 ⟨_, rfl, reps_cons.2 ⟨_, _, rfl, rep_bool.2 rfl, reps_nil.2 rfl⟩⟩) (fun b => ownV_no rfl _ _) (tl_no rfl)⟩
     ·cases hs
    ·cases hs
   ·cases hs
  ·cases hs
 | _ => exact step_pop hI hs
end
end Go.Proofs.YtkkgfoknknehfaaDoor

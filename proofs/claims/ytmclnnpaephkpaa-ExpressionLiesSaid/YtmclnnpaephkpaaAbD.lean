/-
  The operations that look at values alone, abstractly, and that the model does what is said.
-/
import Derived.Test.YtmclnnpaephkpaaAbC
namespace Go.Proofs.Ytmclnnpaephkpaa
set_option linter.unusedVariables false
set_option linter.unusedSimpArgs false
set_option linter.unnecessarySimpa false
set_option linter.unusedSectionVars false
open Go.RowKit

structure TI where
  size : Nat
  bytes : Nat
  agg : Bool
  zero : List PV
def zeroPV : Value → PV
  | .int k n => .int k n
  | .bool b => .bool b
  | .string s => .str s
  | .pointer none => .nilp
  | .slice none n c => if n = 0 ∧ c = 0 then .sl true 0 [] else .raw (.slice none n c)
  | .func fn f c => if f.isEmpty ∧ c.isEmpty then .func fn [] [] else .raw (.func fn f c)
  | v => .raw v
/-- A slice of no elements has elements of any size. -/
def PV.resz (z : Nat) : PV → PV
  | .sl o s es => .sl o (if s = 0 then z else s) es
  | p => p
/-- For each cell of a type: how many cells an element has, if it is a slice. -/
def cellSz (P : Program) : Nat → TypeId → List Nat
  | 0, _ => []
  | k + 1, t => match P.underlying t with
    | some (.slice e) => [match P.info? e with | some i => i.size | none => 0]
    | some (.struct fs) => fs.toList.flatMap fun f => cellSz P k f.type
    | some (.array n e) => (List.replicate n (cellSz P k e)).flatten
    | _ => [0]
def ofConst (v : Value) : Option PV := if v.oneCell' then some (zeroPV v) else none
def isAggD : TypeDesc → Bool
  | .struct _ => true
  | .array _ _ => true
  | _ => false
def ti (P : Program) (t : TypeId) : Option TI :=
  match P.info? t with
  | none => none
  | some i => match i.zero, P.underlying t with
    | some z, some d => if z.cells.toList.all (·.oneCell') && z.cells.size == i.size then some ⟨i.size, i.bytes, isAggD d, z.cells.toList.map zeroPV⟩ else none
    | _, _ => none
def fieldsOf (P : Program) (t : TypeId) : Option (List (Nat × Nat × Bool)) :=
  match P.underlying t with
  | some (.struct fs) => fs.toList.mapM fun f => (ti P f.type).map fun i => (f.offset, i.size, i.agg)
  | _ => none
def elemOf' (P : Program) (t : TypeId) : Option TypeId := match P.underlying t with | some (.slice e) => some e | _ => none
def elemTI (P : Program) (t : TypeId) : Option TI := (elemOf' P t).bind (ti P)
def arrTI (P : Program) (t : TypeId) : Option (Nat × TI) := match P.underlying t with | some (.array n e) => (ti P e).map fun i => (n, i) | _ => none

theorem rep_zero {M : Mem} {B : Blk} {v : Value} (h : v.oneCell' = true) : Rep M B (zeroPV v) v := by
  cases v with
  | int k n => exact rep_int.2 rfl
  | bool b => exact rep_bool.2 rfl
  | string s => exact rep_str.2 rfl
  | pointer a => cases a with
    | none => exact rep_nilp.2 rfl
    | some a => exact rep_raw.2 ⟨rfl, h⟩
  | slice a n c => cases a with
    | none =>
      simp only [zeroPV]
      split
      · rename_i e; obtain ⟨rfl, rfl⟩ := e
        exact rep_sl.2 ⟨none, 0, rfl, Nat.le_refl _, by simp, fun _ => ⟨rfl, rfl, rfl⟩, by simp⟩
      · exact rep_raw.2 ⟨rfl, h⟩
    | some a => exact rep_raw.2 ⟨rfl, h⟩
  | func fn f c =>
    simp only [zeroPV]
    split
    · rename_i e
      obtain ⟨h1, h2⟩ := e
      have h1' : f = #[] := by simpa using h1
      have h2' : c = #[] := by simpa using h2
      subst h1'; subst h2'
      exact rep_func.2 ⟨#[], #[], rfl, reps_nil.2 rfl, reps_nil.2 rfl⟩
    · exact rep_raw.2 ⟨rfl, h⟩
  | _ => exact rep_raw.2 ⟨rfl, h⟩
theorem zero_own (v : Value) : (zeroPV v).own = true → v = .slice none 0 0 := by
  intro h
  cases v with
  | slice a n c => cases a with
    | none =>
      simp only [zeroPV] at h
      split at h
      · rename_i e; obtain ⟨rfl, rfl⟩ := e; rfl
      · simp [PV.own] at h
    | some a => simp [zeroPV, PV.own] at h
  | pointer a => cases a <;> simp [zeroPV, PV.own] at h
  | func fn f c =>
    simp only [zeroPV] at h
    split at h <;> simp [PV.own] at h
  | _ => simp [zeroPV, PV.own] at h
theorem ownV_zero (v : Value) (b : Nat) : ownV (zeroPV v) v b = 0 := by
  unfold ownV
  split
  · rename_i h; rw [zero_own v h]
  · rfl
theorem tl_zero {M : Mem} {w : World} (v : Value) : Tl M w (zeroPV v) v := by
  intro sz es A n cap e ev
  have := zero_own v (by rw [e]; rfl)
  rw [ev] at this
  simp at this
  obtain ⟨rfl, _, rfl⟩ := this
  exact ⟨fun _ => rfl, fun _ => rfl, fun a h => by cases h⟩
theorem rep_resz {M : Mem} {B : Blk} {p : PV} {v : Value} (z : Nat) (h : Rep M B p v) : Rep M B (p.resz z) v := by
  cases p with
  | sl o s es =>
    rw [PV.resz]
    split
    · rename_i e; subst e
      obtain ⟨A, c, rfl, h1, h2, h3, h4⟩ := rep_sl.1 h
      obtain ⟨h5, h6, h7⟩ := h3 rfl; subst h5
      exact rep_sl.2 ⟨A, c, rfl, h1, by simp, fun _ => ⟨rfl, h6, h7⟩, by simp⟩
    · exact h
  | _ => exact h
theorem resz_own (z : Nat) (p : PV) : (p.resz z).own = p.own := by cases p <;> rfl
theorem ownV_resz (z : Nat) (p : PV) (v : Value) (b : Nat) : ownV (p.resz z) v b = ownV p v b := by unfold ownV; rw [resz_own]
theorem tl_resz {M : Mem} {w : World} {p : PV} {v : Value} (z : Nat) (h : Tl M w p v) : Tl M w (p.resz z) v := by
  cases p with
  | sl o s es =>
    rw [PV.resz]
    split
    · rename_i e; subst e
      intro sz es' A n cap e ev
      injection e with e1 e2 e3; subst e1; subst e3
      obtain ⟨h1, h2, h3⟩ := h 0 _ A n cap rfl ev
      refine ⟨h1, fun _ => h2 rfl, fun a ha => ?_⟩
      have := h2 rfl; rw [ha] at this; cases this
    · exact h
  | _ => exact h
/-- By the sizes of a type's cells. -/
def reszC : List Nat → List PV → List PV
  | z :: zs, p :: ps => p.resz z :: reszC zs ps
  | _, ps => ps
def PV.reszT (zs : List Nat) : PV → PV
  | .agg cs => .agg (reszC zs cs)
  | p => p.resz (zs.headD 0)
theorem reszC_rep {M : Mem} {B : Blk} : ∀ {zs : List Nat} {ps : List PV} {vs : List Value}, Reps M B ps vs → Reps M B (reszC zs ps) vs
  | [], ps, vs, h => by cases ps <;> exact h
  | z :: zs, [], vs, h => h
  | z :: zs, p :: ps, vs, h => by
    obtain ⟨u, us, rfl, h1, h2⟩ := reps_cons.1 h
    exact reps_cons.2 ⟨u, us, rfl, rep_resz z h1, reszC_rep h2⟩
theorem rep_reszT {M : Mem} {B : Blk} {p : PV} {v : Value} (zs : List Nat) (h : Rep M B p v) : Rep M B (p.reszT zs) v := by
  cases p with
  | agg cs => obtain ⟨vs, rfl, hr⟩ := rep_agg.1 h; exact rep_agg.2 ⟨vs, rfl, reszC_rep hr⟩
  | _ => exact rep_resz (zs.headD 0) h
theorem reszT_own (zs : List Nat) (p : PV) : (p.reszT zs).own = p.own := by cases p <;> first | rfl | exact resz_own (zs.headD 0) _
theorem ownV_reszT (zs : List Nat) (p : PV) (v : Value) (b : Nat) : ownV (p.reszT zs) v b = ownV p v b := by unfold ownV; rw [reszT_own]
theorem tl_reszT {M : Mem} {w : World} {p : PV} {v : Value} (zs : List Nat) (h : Tl M w p v) : Tl M w (p.reszT zs) v := by
  cases p with
  | agg cs => exact tl_no rfl
  | _ => exact tl_resz (zs.headD 0) h
/-- A nil slice may be appended to by everybody. -/
def PV.own1 (z : Nat) : PV → PV
  | .sl o s es => if s = 0 then .sl true z es else .sl o s es
  | p => p
def own0 : List Nat → List PV → List PV
  | z :: zs, p :: ps => p.own1 z :: own0 zs ps
  | _, ps => ps
theorem rep_own1 {M : Mem} {B : Blk} {p : PV} {v : Value} (z : Nat) (h : Rep M B p v) : Rep M B (p.own1 z) v := by
  cases p with
  | sl o s es =>
    rw [PV.own1]
    split
    · rename_i e; subst e
      obtain ⟨A, c, rfl, h1, h2, h3, h4⟩ := rep_sl.1 h
      obtain ⟨h5, h6, h7⟩ := h3 rfl; subst h5
      exact rep_sl.2 ⟨A, c, rfl, h1, by simp, fun _ => ⟨rfl, h6, h7⟩, by simp⟩
    · exact h
  | _ => exact h
theorem tl_nil {M : Mem} {w : World} {z : Nat} {es : List PV} : Tl M w (.sl true z es) (.slice none es.length 0) := by
  intro sz es' A n cap e ev
  injection ev with e1 e2 e3; subst e1; subst e3
  exact ⟨fun _ => rfl, fun _ => rfl, fun a h => by cases h⟩
theorem nil_of {M : Mem} {B : Blk} {o : Bool} {es : List PV} {v : Value} (h : Rep M B (.sl o 0 es) v) : v = .slice none 0 0 ∧ es = [] := by
  obtain ⟨A, c, rfl, h1, h2, h3, h4⟩ := rep_sl.1 h
  obtain ⟨h5, h6, h7⟩ := h3 rfl
  subst h5; subst h6; subst h7
  exact ⟨rfl, rfl⟩
theorem tl_own1 {M : Mem} {B : Blk} {w : World} {p : PV} {v : Value} (z : Nat) (hr : Rep M B p v) (h : Tl M w p v) : Tl M w (p.own1 z) v := by
  cases p with
  | sl o s es =>
    rw [PV.own1]
    split
    · rename_i e; subst e
      obtain ⟨rfl, rfl⟩ := nil_of hr
      exact tl_nil
    · exact h
  | _ => exact h
theorem ownV_own1 {M : Mem} {B : Blk} {p : PV} {v : Value} (z : Nat) (hr : Rep M B p v) (b : Nat) : ownV (p.own1 z) v b = ownV p v b := by
  cases p with
  | sl o s es =>
    rw [PV.own1]
    split
    · rename_i e; subst e
      obtain ⟨rfl, rfl⟩ := nil_of hr
      simp [ownV]
    · rfl
  | _ => rfl
theorem ofConst_rep {M : Mem} {B : Blk} {v : Value} {p : PV} (h : ofConst v = some p) : Rep M B p v ∧ (∀ b, ownV p v b = 0) ∧ ∀ w, Tl M w p v := by
  unfold ofConst at h
  split at h
  · rename_i h1; cases h; exact ⟨rep_zero h1, ownV_zero v, fun w => tl_zero v⟩
  · cases h

structure TIs (P : Program) (t : TypeId) (I : TI) (i : TypeInfo) (z : Value) (d : TypeDesc) : Prop where
  info : P.info? t = some i
  zero : i.zero = some z
  und : P.underlying t = some d
  one : ∀ v, v ∈ z.cells → v.oneCell' = true
  zsize : z.cells.size = i.size
  size : I.size = i.size
  bytes : I.bytes = i.bytes
  agg : I.agg = isAggD d
  izero : I.zero = z.cells.toList.map zeroPV
theorem ti_spec {P : Program} {t : TypeId} {I : TI} (h : ti P t = some I) : ∃ i z d, TIs P t I i z d := by
  unfold ti at h
  split at h
  · cases h
  · rename_i i hi
    split at h
    · rename_i z d hz hd
      split at h
      · rename_i hc
        cases h
        simp only [Bool.and_eq_true, List.all_eq_true, beq_iff_eq] at hc
        exact ⟨i, z, d, hi, hz, hd, fun v hv => hc.1 v (by simpa using hv), hc.2, rfl, rfl, rfl, rfl⟩
      · cases h
    · cases h
section
variable {P : Program} {t : TypeId} {I : TI} {i : TypeInfo} {z : Value} {d : TypeDesc}
theorem TIs.run_sizeOf (h : TIs P t I i z d) (w : World) : (sizeOf t).run P w = .ok I.size w := by simp [sizeOf, typeInfo, h.info, h.size]
theorem TIs.run_isAgg (h : TIs P t I i z d) (w : World) : (isAgg t).run P w = .ok I.agg w := by
  unfold isAgg
  rw [Sem.run_bind, run_underlying h.und w, h.agg]
  cases d <;> rfl
theorem TIs.run_zeroValue (h : TIs P t I i z d) (w : World) : (zeroValue t).run P w = .ok z w := by simp [zeroValue, typeInfo, h.info, h.zero]
end
theorem mapM_get {α β : Type} (f : α → Option β) : ∀ {l : List α} {r : List β}, l.mapM f = some r → ∀ {j : Nat} {y : β}, r[j]? = some y → ∃ x, l[j]? = some x ∧ f x = some y
  | [], r, h, j, y, hy => by simp at h; subst h; simp at hy
  | a :: l, r, h, j, y, hy => by
    rw [List.mapM_cons] at h
    cases hf : f a with
    | none => simp [hf] at h
    | some b =>
      cases hm : l.mapM f with
      | none => simp [hf, hm] at h
      | some bs =>
        simp [hf, hm] at h
        subst h
        cases j with
        | zero => simp at hy; subst hy; exact ⟨a, rfl, hf⟩
        | succ j => obtain ⟨x, h1, h2⟩ := mapM_get f hm (by simpa using hy); exact ⟨x, by simpa using h1, h2⟩
theorem fields_spec {P : Program} {t : TypeId} {fs : List (Nat × Nat × Bool)} (h : fieldsOf P t = some fs) {j : Nat} {o z : Nat} {g : Bool} (hj : fs[j]? = some (o, z, g)) :
    ∃ Fs f I i zv d, P.underlying t = some (.struct Fs) ∧ Fs[j]? = some f ∧ f.offset = o ∧ TIs P f.type I i zv d ∧ I.size = z ∧ I.agg = g := by
  unfold fieldsOf at h
  split at h
  · rename_i Fs hu
    obtain ⟨f, hf, hm⟩ := mapM_get _ h hj
    cases ht : ti P f.type with
    | none => simp [ht] at hm
    | some I =>
      simp [ht] at hm
      obtain ⟨i, zv, d, hT⟩ := ti_spec ht
      exact ⟨Fs, f, I, i, zv, d, hu, by simpa using hf, hm.1, hT, hm.2.1, hm.2.2⟩
  · cases h
theorem elem_spec {P : Program} {t : TypeId} {I : TI} (h : elemTI P t = some I) : ∃ e i z d, P.underlying t = some (.slice e) ∧ TIs P e I i z d := by
  unfold elemTI elemOf' at h
  split at h
  · rename_i e hu
    obtain ⟨i, z, d, hT⟩ := ti_spec (by simpa using h)
    exact ⟨e, i, z, d, hu, hT⟩
  · simp at h
theorem arr_spec {P : Program} {t : TypeId} {n : Nat} {I : TI} (h : arrTI P t = some (n, I)) : ∃ e i z d, P.underlying t = some (.array n e) ∧ TIs P e I i z d := by
  unfold arrTI at h
  split at h
  · rename_i m e hu
    cases ht : ti P e with
    | none => simp [ht] at h
    | some I' =>
      simp [ht] at h
      obtain ⟨rfl, rfl⟩ := h
      obtain ⟨i, z, d, hT⟩ := ti_spec ht
      exact ⟨e, i, z, d, hu, hT⟩
  · cases h

def PV.one : PV → Bool
  | .agg _ => false
  | .tuple _ => false
  | _ => true
def subVal (cs : List PV) (o z : Nat) (g : Bool) : Option PV :=
  if g then (if o + z ≤ cs.length then some (.agg ((cs.drop o).take z)) else none) else (cs[o]?).bind fun p => if p.one then some p.un else none
def subAddr (q : PV) (o z : Nat) (g : Bool) : Option PV :=
  match q with
  | .ptr i off => some (.ptr i (off + o))
  | .cst (.agg cs) => (subVal cs o z g).map .cst
  | _ => none
def intBin (op : BinOp) (k : IntKind) (a b : Int) : Option PV :=
  match op with
  | .add => some (.int k (k.wrap (a + b)))
  | .sub => some (.int k (k.wrap (a - b)))
  | .mul => some (.int k (k.wrap (a * b)))
  | .quo => if b = 0 then none else some (.int k (k.wrap (a.tdiv b)))
  | .rem => if b = 0 then none else some (.int k (a.tmod b))
  | .and => some (.int k (k.wrap (BitVec.ofInt k.bits a &&& BitVec.ofInt k.bits b).toNat))
  | .or => some (.int k (k.wrap (BitVec.ofInt k.bits a ||| BitVec.ofInt k.bits b).toNat))
  | .eql => some (.bool (a == b))
  | .neq => some (.bool (a != b))
  | .lss => some (.bool (decide (a < b)))
  | .leq => some (.bool (decide (a ≤ b)))
  | .gtr => some (.bool (decide (b < a)))
  | .geq => some (.bool (decide (b ≤ a)))
  | _ => none
def shiftBin (op : BinOp) (k : IntKind) (a b : Int) : Option PV :=
  if b < 0 then none else match op with
  | .shl => some (.int k (k.wrap (a * 2 ^ min b.toNat k.bits)))
  | .shr => some (.int k (a.fdiv (2 ^ min b.toNat k.bits)))
  | _ => none
def strBin (op : BinOp) (a b : ByteArray) : Option PV :=
  match op with
  | .add => if a.size + b.size ≤ LIM then some (.str (a ++ b)) else none
  | .eql => some (.bool (a.toList == b.toList))
  | .neq => some (.bool (!(a.toList == b.toList)))
  | _ => none
def boolBin (op : BinOp) (a b : Bool) : Option PV :=
  match op with
  | .eql => some (.bool (a == b))
  | .neq => some (.bool (!(a == b)))
  | _ => none
/-- Comparisons with nil: is the value nil? -/
def nilBin (op : BinOp) (is : Bool) : Option PV :=
  match op with
  | .eql => some (.bool is)
  | .neq => some (.bool (!is))
  | _ => none
def isBoolT (P : Program) (t : TypeId) : Bool := P.underlying t matches some .bool
def isPtrT (P : Program) (t : TypeId) : Bool := P.underlying t matches some (.pointer _)
def isFuncT (P : Program) (t : TypeId) : Bool := P.underlying t matches some (.func _ _ _)
def isStrT (P : Program) (t : TypeId) : Bool := P.underlying t matches some .string
def intT (P : Program) (t : TypeId) : Option IntKind := match P.underlying t with | some (.int k) => some k | _ => none
/-- Equality of values by their types. -/
def eqFs (P : Program) (E : TypeId → PV → PV → Option Bool) (cs ds : List PV) : List Field → Option Bool
  | [] => some true
  | f :: fs => if f.name = "_" then none else match ti P f.type with
    | some I => (match subVal cs f.offset I.size I.agg, subVal ds f.offset I.size I.agg with
      | some p, some q => (match E f.type p q, eqFs P E cs ds fs with
        | some b, some r => some (b && r)
        | _, _ => none)
      | _, _ => none)
    | none => none
def eqPV (P : Program) : Nat → TypeId → PV → PV → Option Bool
  | 0, _, _, _ => none
  | k + 1, t, x, y => match P.underlying t, x, y with
    | some (.int _), .int q a, .int q' b => if q = q' then some (a == b) else none
    | some .bool, .bool a, .bool b => some (a == b)
    | some .string, .str a, .str b => some (a.toList == b.toList)
    | some (.struct fs), .agg cs, .agg ds => if P.stoodInHeld t = true then none else eqFs P (eqPV P k) cs ds fs.toList
    | _, _, _ => none
def binPV (P : Program) (op : BinOp) (t : TypeId) (x y : PV) : Option PV :=
  match x, y with
  | .int k a, .int k' b =>
    (match op with
    | .shl | .shr => shiftBin op k a b
    | _ => if k = k' then intBin op k a b else none)
  | .str a, .str b => strBin op a b
  | .bool a, .bool b => if isBoolT P t then boolBin op a b else none
  | .ptr _ _, .nilp => if isPtrT P t then nilBin op false else none
  | .cst _, .nilp => if isPtrT P t then nilBin op false else none
  | .nilp, .nilp => if isPtrT P t then nilBin op true else none
  | .func _ _ _, .raw .nilFunc => if isFuncT P t then nilBin op false else none
  | .raw .nilFunc, .raw .nilFunc => if isFuncT P t then nilBin op true else none
  | .agg cs, .agg ds => if P.eqGuardType P.depth t = true then none else (eqPV P 12 t (.agg cs) (.agg ds)).bind (nilBin op)
  | _, _ => none
def unPV (op : UnOp) (x : PV) : Option PV :=
  match op, x with
  | .neg, .int k n => some (.int k (k.wrap (0 - n)))
  | .not, .bool b => some (.bool (!b))
  | _, _ => none
def extPV (x : PV) (i : Nat) : Option PV := match x with | .tuple ps => (ps[i]?).map PV.un | _ => none
def lenPV (P : Program) (t : TypeId) (x : PV) : Option PV :=
  match x with
  | .str s => if isStrT P t then some (.int .i64 s.size) else none
  | .sl _ _ es => (elemOf' P t).map fun _ => .int .i64 es.length
  | .slh _ _ n _ => (elemOf' P t).map fun _ => .int .i64 n
  | _ => none
def isByte : PV → Bool
  | .int k _ => k == .u8
  | _ => false
def byteInt : PV → Int
  | .int _ n => n
  | _ => 0
def bytesP (es : List PV) : Bool := es.all isByte
/-- The string that such bytes make. -/
def strOf (es : List PV) : ByteArray := (es.map byteInt).foldl (fun r n => r.push (UInt8.ofNat n.toNat)) ByteArray.empty
def isBytesT (P : Program) (s : TypeId) : Bool := match P.underlying s with
  | some (.slice e) => (match P.underlying e with | some (.int k) => k == .u8 | _ => false)
  | _ => false
def convPV (P : Program) (s d : TypeId) (x : PV) : Option PV :=
  match x with
  | .sl _ _ es => if isBytesT P s = true ∧ isStrT P d = true ∧ bytesP es = true then some (.str (strOf es)) else none
  | .int _ n => match intT P d with | some k => (match P.underlying s with | some _ => some (.int k (k.wrap n)) | none => none) | none => none
  | .str a => match P.underlying s, P.underlying d with | some .string, some .string => some (.str a) | _, _ => none
  | _ => none
def minPV : List PV → Option PV
  | [.int k a, .int k' b] => if k = k' then some (.int k (if b < a then b else a)) else none
  | _ => none
def maxPV : List PV → Option PV
  | [.int k a, .int k' b] => if k = k' then some (.int k (if b > a then b else a)) else none
  | _ => none
/-- A slice expression without a greatest capacity. -/
def slicePV (P : Program) (t : TypeId) (x : PV) (lo hi : Option PV) : Option PV :=
  let bound (d : Nat) : Option PV → Option Int
    | none => some d
    | some (.int _ n) => some n
    | _ => none
  match x with
  | .str s => match bound 0 lo, bound s.size hi with
    | some l, some h => if isStrT P t ∧ 0 ≤ l ∧ l ≤ h ∧ h ≤ s.size then some (.str (s.extract l.toNat h.toNat)) else none
    | _, _ => none
  | .sl _ sz es => match bound 0 lo, bound es.length hi with
    | some l, some h => if (elemTI P t).map TI.size = some sz ∧ 0 ≤ l ∧ l ≤ h ∧ h ≤ es.length then some (.sl false sz ((es.take h.toNat).drop l.toNat)) else none
    | _, _ => none
  | .slh i off n sz => match bound 0 lo, bound n hi with
    | some l, some h => if (elemTI P t).map TI.size = some sz ∧ 0 ≤ l ∧ l ≤ h ∧ h ≤ n ∧ 0 < sz then (if l < n then some (.slh i (off + l.toNat * sz) (h.toNat - l.toNat) sz) else some (.sl false sz [])) else none
    | _, _ => none
  | _ => none
def allSome : List (Option PV) → Option (List PV)
  | [] => some []
  | none :: _ => none
  | some p :: l => (allSome l).map (p :: ·)
def PV.newCells (p : PV) : Option (List PV) := match p with | .agg ds => if ds.all PV.one then some (ds.map PV.un) else none | q => if q.one then some [q.un] else none
/-- The parts put into the zero value's cells. -/
def fillPV (place : Nat → Option (Nat × Nat)) : List PV → List (Nat × PV) → Option (List PV)
  | cs, [] => some cs
  | cs, (i, p) :: ps => match place i, p.newCells with
    | some (o, z), some new => if new.length = z ∧ o + z ≤ cs.length then fillPV place (cs.take o ++ new ++ cs.drop (o + z)) ps else none
    | _, _ => none
def partsPV (rd : Operand → Option PV) : List (Nat × Operand) → Option (List (Nat × PV))
  | [] => some []
  | (i, x) :: l => match rd x, partsPV rd l with
    | some p, some ps => some ((i, p) :: ps)
    | _, _ => none
def popCall (P : Program) (rd : Operand → Option PV) (c : Call) : Option PV :=
  match c.callee with
  | .builtin .len => (match c.args.toList, c.argTypes.toList with
    | [x], [t] => (rd x).bind (lenPV P t)
    | _, _ => none)
  | .builtin .min => (allSome (c.args.toList.map rd)).bind minPV
  | .builtin .max => (allSome (c.args.toList.map rd)).bind maxPV
  | _ => none
/-- The operations whose result hangs on their operands' values alone. -/
def pop (P : Program) (rd : Operand → Option PV) : Op → Option PV
  | .move x => rd x
  | .assign x => rd x
  | .pick c a b => match rd c with
    | some (.bool c) => if c then rd a else rd b
    | _ => none
  | .fieldAddr s x f => match fieldsOf P s, rd x with
    | some fs, some q => (fs[f]?).bind fun (o, z, g) => if z = 0 then none else subAddr q o z g
    | _, _ => none
  | .field s x f => match fieldsOf P s, rd x with
    | some fs, some (.agg cs) => (fs[f]?).bind fun (o, z, g) => subVal cs o z g
    | _, _ => none
  | .indexAddr t x i => match rd x, rd i with
    | some (.sl _ sz es), some (.int _ n) => if (elemTI P t).map TI.size = some sz ∧ 0 ≤ n then (es[n.toNat]?).map .cst else none
    | some (.slh i off m sz), some (.int _ n) => if (elemTI P t).map TI.size = some sz ∧ 0 ≤ n ∧ n < m then some (.ptr i (off + n.toNat * sz)) else none
    | some (.ptr i off), some (.int _ n) => match arrTI P t with
      | some (m, I) => if 0 ≤ n ∧ n < m then some (.ptr i (off + n.toNat * I.size)) else none
      | none => none
    | some (.cst (.agg cs)), some (.int _ n) => match arrTI P t with
      | some (m, I) => if 0 ≤ n ∧ n < m then (subVal cs (n.toNat * I.size) I.size I.agg).map .cst else none
      | none => none
    | _, _ => none
  | .index t x i => match rd x, rd i with
    | some (.str s), some (.int _ n) => if isStrT P t ∧ 0 ≤ n then (s[n.toNat]?).map fun b => .int .u8 b.toNat else none
    | some (.agg cs), some (.int _ n) => match arrTI P t with
      | some (m, I) => if 0 ≤ n ∧ n < m then subVal cs (n.toNat * I.size) I.size I.agg else none
      | none => none
    | _, _ => none
  | .slice t x lo hi none => match rd x with
    | some q => match lo, hi with
      | none, none => slicePV P t q none none
      | some l, none => (rd l).bind fun a => slicePV P t q (some a) none
      | none, some h => (rd h).bind fun b => slicePV P t q none (some b)
      | some l, some h => (rd l).bind fun a => (rd h).bind fun b => slicePV P t q (some a) (some b)
    | none => none
  | .binOp op t x y _ => match rd x, rd y with
    | some a, some b => binPV P op t a b
    | _, _ => none
  | .unOp op _ x => (rd x).bind (unPV op)
  | .convert s d x => (rd x).bind (convPV P s d)
  | .makeFunc fn first caps => match allSome (first.toList.map rd), allSome (caps.toList.map rd) with
    | some f, some c => some (.func fn f c)
    | _, _ => none
  | .extract x i => (rd x).bind (extPV · i)
  | .nilCheck x => match rd x with
    | some (.ptr i o) => some (.ptr i o)
    | some (.cst e) => some (.cst e)
    | some (.func (.func f) a b) => some (.func (.func f) a b)
    | _ => none
  | .build t ps => match ti P t, partsPV rd ps.toList with
    | some I, some qs => match fieldsOf P t, arrTI P t with
      | some fs, none => (fillPV (fun i => (fs[i]?).map fun f => (f.1, f.2.1)) (I.zero.map PV.un) qs).map .agg
      | none, some (_, J) => (fillPV (fun i => some (i * J.size, J.size)) (I.zero.map PV.un) qs).map .agg
      | _, _ => none
    | _, _ => none
  | .call c => popCall P rd c
  | _ => none
end Go.Proofs.Ytmclnnpaephkpaa

/-
  An abstract reading of the model's values: slices as lists of what they hold, memory that is never written again as a partial map, variables that are written as numbered objects. Nothing of a program here.
  The state of the abstract evaluator (slots, objects), what it says of the model's state, and how it is kept.
  How the abstract state is kept where the world turns: new blocks, a cell of an object, memory that is laid and not written again.
  The operations that look at values alone, abstractly, and that the model does what is said.
-/
import Derived.Test.YtkkgfoknknehfaaDoorGl
import Derived.WalkKit
import Derived.WalkSpells
import Derived.WalkLawsBesides
import Derived.Lib.Hide
import Derived.Below
namespace Go.Proofs.YtkkgfoknknehfaaDoor
set_option linter.unusedVariables false
set_option linter.unusedSimpArgs false
set_option linter.unnecessarySimpa false
set_option linter.unusedSectionVars false
open Go.RowKit
inductive PV where
 | int (k : IntKind) (n : Int)
 | bool (b : Bool)
 | str (s : ByteArray)
 | nilp
 | raw (v : Value)
 | ptr (i off : Nat)
 | bld (T : TypeId) (i : Nat)
 | cst (e : PV)
 | sl (own : Bool) (sz : Nat) (es : List PV)
 | slh (i off n sz : Nat)
 | slT (l : List UInt8)
 | slp (o : Bool) (n sz : Nat) (cs : List PV)
 | mp (l : List PV)
 | func (fn : Fn) (first caps : List PV)
 | agg (cs : List PV)
 | tuple (cs : List PV)
instance : Inhabited PV := ⟨.nilp⟩
abbrev Blk := List (Nat × Nat × TypeId)
abbrev VL := (Value → Prop) × (Nat → Nat → Prop)
def liftP (M : Mem) (f : Value → Prop) : VL := (f, fun b o => ∃ u, M b o = some u ∧ f u)
def LocsP (sz : Nat) : List VL → Nat → Nat → Prop
 | [], _, _ => True
 | p :: ps, b, o => p.2 b o ∧ LocsP sz ps b (o + sz)
def CellsP (M : Mem) : List VL → Nat → Nat → Prop
 | [], _, _ => True
 | p :: ps, b, o => (∃ u, M b o = some u ∧ p.1 u) ∧ CellsP M ps b (o + 1)
def AllP : List VL → List Value → Prop
 | [], [] => True
 | p :: ps, v :: vs => p.1 v ∧ AllP ps vs
 | _, _ => False
def PV.size : PV → Nat | .agg cs => cs.length | _ => 1
def PV.isAgg : PV → Bool | .agg _ => true | _ => false
def PV.own : PV → Bool | .sl o _ _ => o | .slT _ => true | .slp o _ _ _ => o | _ => false
def PV.lit : PV → Bool | .int _ _ => true | .bool _ => true | .str _ => true | _ => false
def noM : Mem := ⟨0, Glob 0, fun _ _ _ h => h⟩
def bytesPV (l : List UInt8) : List PV := l.map fun x => .int .u8 x.toNat
def PV.un : PV → PV | .sl _ sz es => .sl false sz es | .slT l => .sl false 1 (bytesPV l) | .slp _ n sz _ => .slp false n sz [] | p => p
def LIM : Nat := 1073741824
def ITT : Nat := 1000001
def bldW (T : Nat) (c : Nat × Nat × Nat) (v : Value) : Prop := match Nat.beq T ITT with
 | true => c.2 = (1, 0) ∧ v = .pointer (some ⟨c.1, 0, none⟩)
 | false => c.2 = (2, T + 1) ∧ (v = .pointer none ∨ v = .pointer (some ⟨c.1, 0, none⟩))
def bldV (T : Nat) (c : Nat × Nat × Nat) (v : Value) : Prop := (T = 0 → c.2 = (1, 0) ∧ v = .map (some c.1)) ∧ (T ≠ 0 → bldW T c v)
theorem bldW_of {T : Nat} {c : Nat × Nat × Nat} {v : Value} (hT : Nat.beq T ITT = false) (h : c.2 = (2, T + 1)) (hv : v = .pointer none ∨ v = .pointer (some ⟨c.1, 0, none⟩)) : bldW T c v := by grind [bldW]
def MAPN : Nat := 4242
mutual
def sem (M : Mem) (B : Blk) : PV → VL
 | .int k n => liftP M fun v => v = .int k n
 | .bool b => liftP M fun v => v = .bool b
 | .str s => liftP M fun v => v = .string s
 | .nilp => liftP M fun v => v = .pointer none
 | .raw u => liftP M fun v => v = u ∧ u.oneCell' = true
 | .ptr i off => liftP M fun v => ∃ c, (B[i]? = some c ∧ c.2.2 ≠ 0) ∧ v = .pointer (some ⟨c.1, off, none⟩)
 | .bld T i => liftP M fun v => ∃ c, B[i]? = some c ∧ bldV T c v
 | .cst e => liftP M fun v => ∃ b off, v = .pointer (some ⟨b, off, none⟩) ∧ (sem M [] e).2 b off
 | .sl _ sz es => liftP M fun v => ∃ A cap, v = .slice A es.length cap ∧ es.length ≤ cap ∧ (∀ e, e ∈ es → e.size = sz) ∧ (sz = 0 → es = [] ∧ A = none ∧ cap = 0) ∧ (es ≠ [] → ∃ b off, A = some ⟨b, off, none⟩ ∧ LocsP sz (sems M [] es) b off)
 | .slT l => liftP M fun v => ∃ A cap, v = .slice A l.length cap ∧ l.length ≤ cap ∧ (l ≠ [] → ∃ b off, A = some ⟨b, off, none⟩ ∧ ∀ (j : Nat) x, l[j]? = some x → M b (off + j) = some (.int .u8 (x.toNat : Int)))
 | .slp _ n _ _ => liftP M fun v => ∃ A cap, v = .slice A n cap ∧ n ≤ cap
 | .mp l => liftP M fun v => ∃ f, v = .func (.yield MAPN) f #[] ∧ AllP (sems M [] l) f.toList
 | .slh i off n sz => liftP M fun v => ∃ c cap, (B[i]? = some c ∧ c.2.2 ≠ 0) ∧ v = .slice (some ⟨c.1, off, none⟩) n cap ∧ n ≤ cap ∧ off + cap * sz ≤ c.2.1
 | .func fn first caps => liftP M fun v => ∃ f c, v = .func fn f c ∧ AllP (sems M B first) f.toList ∧ AllP (sems M B caps) c.toList
 | .agg cs => (fun v => ∃ vs, v = .agg vs ∧ AllP (sems M B cs) vs.toList, fun b o => CellsP M (sems M B cs) b o)
 | .tuple cs => (fun v => ∃ vs, v = .tuple vs ∧ AllP (sems M B cs) vs.toList, fun _ _ => False)
def sems (M : Mem) (B : Blk) : List PV → List VL
 | [] => []
 | p :: ps => sem M B p :: sems M B ps
end
def Rep (M : Mem) (B : Blk) (p : PV) (v : Value) : Prop := (sem M B p).1 v
def Loc (M : Mem) (B : Blk) (p : PV) (b o : Nat) : Prop := (sem M B p).2 b o
def Reps (M : Mem) (B : Blk) (ps : List PV) (vs : List Value) : Prop := AllP (sems M B ps) vs
def Cells (M : Mem) (B : Blk) (ps : List PV) (b o : Nat) : Prop := CellsP M (sems M B ps) b o
def Locs (M : Mem) (B : Blk) (sz : Nat) (ps : List PV) (b o : Nat) : Prop := LocsP sz (sems M B ps) b o
section
variable {M : Mem} {B : Blk}
theorem rep_int {k : IntKind} {n : Int} {v : Value} : Rep M B (.int k n) v ↔ v = .int k n := by rfl
theorem rep_bool {b : Bool} {v : Value} : Rep M B (.bool b) v ↔ v = .bool b := by rfl
theorem rep_str {s : ByteArray} {v : Value} : Rep M B (.str s) v ↔ v = .string s := by rfl
theorem rep_nilp {v : Value} : Rep M B .nilp v ↔ v = .pointer none := by rfl
theorem rep_raw {u v : Value} : Rep M B (.raw u) v ↔ v = u ∧ u.oneCell' = true := by rfl
theorem rep_ptr {i off : Nat} {v : Value} : Rep M B (.ptr i off) v ↔ ∃ c, (B[i]? = some c ∧ c.2.2 ≠ 0) ∧ v = .pointer (some ⟨c.1, off, none⟩) := by rfl
theorem rep_bld {T : TypeId} {i : Nat} {v : Value} : Rep M B (.bld T i) v ↔ ∃ c, B[i]? = some c ∧ bldV T c v := by rfl
theorem rep_cst {e : PV} {v : Value} : Rep M B (.cst e) v ↔ ∃ b off, v = .pointer (some ⟨b, off, none⟩) ∧ Loc M [] e b off := by rfl
theorem rep_sl {o : Bool} {sz : Nat} {es : List PV} {v : Value} : Rep M B (.sl o sz es) v ↔ ∃ A cap, v = .slice A es.length cap ∧ es.length ≤ cap ∧ (∀ e, e ∈ es → e.size = sz) ∧ (sz = 0 → es = [] ∧ A = none ∧ cap = 0) ∧ (es ≠ [] → ∃ b off, A = some ⟨b, off, none⟩ ∧ Locs M [] sz es b off) := by rfl
theorem rep_slh {i off n sz : Nat} {v : Value} : Rep M B (.slh i off n sz) v ↔ ∃ c cap, (B[i]? = some c ∧ c.2.2 ≠ 0) ∧ v = .slice (some ⟨c.1, off, none⟩) n cap ∧ n ≤ cap ∧ off + cap * sz ≤ c.2.1 := by rfl
theorem rep_slp {o : Bool} {n sz : Nat} {cs : List PV} {v : Value} : Rep M B (.slp o n sz cs) v ↔ ∃ A cap, v = .slice A n cap ∧ n ≤ cap := by rfl
theorem rep_slT {l : List UInt8} {v : Value} : Rep M B (.slT l) v ↔ ∃ A cap, v = .slice A l.length cap ∧ l.length ≤ cap ∧ (l ≠ [] → ∃ b off, A = some ⟨b, off, none⟩ ∧ ∀ (j : Nat) x, l[j]? = some x → M b (off + j) = some (.int .u8 (x.toNat : Int))) := by rfl
theorem rep_mp {l : List PV} {v : Value} : Rep M B (.mp l) v ↔ ∃ f, v = .func (.yield MAPN) f #[] ∧ Reps M [] l f.toList := by rfl
theorem rep_func {fn : Fn} {first caps : List PV} {v : Value} : Rep M B (.func fn first caps) v ↔ ∃ f c, v = .func fn f c ∧ Reps M B first f.toList ∧ Reps M B caps c.toList := by rfl
theorem rep_agg {cs : List PV} {v : Value} : Rep M B (.agg cs) v ↔ ∃ vs, v = .agg vs ∧ Reps M B cs vs.toList := by rfl
theorem rep_tuple {cs : List PV} {v : Value} : Rep M B (.tuple cs) v ↔ ∃ vs, v = .tuple vs ∧ Reps M B cs vs.toList := by rfl
theorem reps_nil {vs : List Value} : Reps M B [] vs ↔ vs = [] := by cases vs <;> simp [Reps, sems, AllP]
theorem reps_cons {p : PV} {ps : List PV} {vs : List Value} : Reps M B (p :: ps) vs ↔ ∃ u us, vs = u :: us ∧ Rep M B p u ∧ Reps M B ps us := by
 cases vs with
 | nil => simp [Reps, sems, AllP]
 | cons u us => exact ⟨fun h => ⟨u, us, rfl, h.1, h.2⟩, fun ⟨_, _, e, h1, h2⟩ => by cases e; exact ⟨h1, h2⟩⟩
theorem cells_nil {b o : Nat} : Cells M B [] b o := by simp [Cells, sems, CellsP]
theorem cells_cons {p : PV} {ps : List PV} {b o : Nat} : Cells M B (p :: ps) b o ↔ (∃ u, M b o = some u ∧ Rep M B p u) ∧ Cells M B ps b (o + 1) := by rfl
theorem locs_nil {sz b o : Nat} : Locs M B sz [] b o := by simp [Locs, sems, LocsP]
theorem locs_cons {sz : Nat} {p : PV} {ps : List PV} {b o : Nat} : Locs M B sz (p :: ps) b o ↔ Loc M B p b o ∧ Locs M B sz ps b (o + sz) := by rfl
theorem loc_agg {cs : List PV} {b o : Nat} : Loc M B (.agg cs) b o ↔ Cells M B cs b o := by rfl
theorem loc_one {p : PV} (h : p.isAgg = false) (ht : ∀ cs, p ≠ .tuple cs) {b o : Nat} : Loc M B p b o ↔ ∃ u, M b o = some u ∧ Rep M B p u := by
 cases p <;> first | exact absurd rfl (ht _) | (simp [PV.isAgg] at h; done) | simp [Loc, Rep, sem, liftP]
theorem loc_tuple {cs : List PV} {b o : Nat} : Loc M B (.tuple cs) b o ↔ False := by rfl
theorem rep_slT_un {l : List UInt8} {v : Value} : Rep M B (.sl false 1 (bytesPV l)) v ↔ Rep M B (.slT l) v := by
 rw [rep_sl, rep_slT]
 have hl : (bytesPV l).length = l.length := by simp [bytesPV]
 have hn : bytesPV l ≠ [] ↔ l ≠ [] := by grind
 have hs : ∀ e, e ∈ bytesPV l → e.size = 1 := fun e he => by obtain ⟨x, _, rfl⟩ := List.mem_map.1 he; rfl
 have key : ∀ b off, Locs M [] 1 (bytesPV l) b off ↔ ∀ (j : Nat) x, l[j]? = some x → M b (off + j) = some (.int .u8 (x.toNat : Int)) := by
  intro b off
  have one : ∀ (x : UInt8) (b o : Nat), Loc M [] (.int .u8 (x.toNat : Int)) b o ↔ M b o = some (.int .u8 (x.toNat : Int)) := fun x b o => by simp [Loc, sem, liftP]
  unfold bytesPV
  clear hl hn hs
  induction l generalizing off with
  | nil => simp [Locs, sems, LocsP]
  | cons a l ih =>
   refine Iff.trans (by rfl) (Iff.trans (and_congr (one a b off) (ih (off + 1))) ?_)
   constructor
   grind
   ·intro h
    exact ⟨h 0 a rfl, fun j x hj => by have := h (j + 1) x (by grind); rwa [show off + (j + 1) = off + 1 + j by omega] at this⟩
 simp_all
theorem rep_un {p : PV} {v : Value} : Rep M B p.un v ↔ Rep M B p v := by
 cases p with
 | slT l => exact rep_slT_un
 | slp o n sz cs => rfl
 | _ => simp [PV.un, rep_sl]
theorem loc_un {p : PV} {b o : Nat} : Loc M B p.un b o ↔ Loc M B p b o := by
 cases p with
 | slT l =>
  rw [loc_one rfl (fun cs h => by cases h), loc_one rfl (fun cs h => by cases h)]
  simp only [rep_un]
 | slp o n sz cs =>
  rfl
 | _ => simp [PV.un, Loc, sem]
theorem un_size (p : PV) : p.un.size = p.size := by cases p <;> rfl
theorem un_own (p : PV) : p.un.own = false := by cases p <;> rfl
theorem un_un (p : PV) : p.un.un = p.un := by cases p <;> rfl
theorem reps_length : ∀ {ps : List PV} {vs : List Value}, Reps M B ps vs → ps.length = vs.length
 | [], vs, h => by rw [reps_nil] at h; simp [h]
 | p :: ps, vs, h => by
  obtain ⟨u, us, rfl, _, h2⟩ := reps_cons.1 h
  simp [reps_length h2]
theorem reps_get : ∀ {ps : List PV} {vs : List Value}, Reps M B ps vs → ∀ {j : Nat} {p : PV}, ps[j]? = some p → ∃ u, vs[j]? = some u ∧ Rep M B p u
 | [], _, _, j, p, h => by simp at h
 | q :: ps, vs, hr, j, p, h => by
  obtain ⟨u, us, rfl, h1, h2⟩ := reps_cons.1 hr
  cases j with
  | zero => simp at h; subst h; exact ⟨u, by simp, h1⟩
  | succ j => obtain ⟨u', hu, hp⟩ := reps_get h2 h; exact ⟨u', by simpa using hu, hp⟩
theorem reps_of : ∀ {ps : List PV} {vs : List Value}, ps.length = vs.length → (∀ (j : Nat) p u, ps[j]? = some p → vs[j]? = some u → Rep M B p u) → Reps M B ps vs
 | [], [], _, _ => reps_nil.2 rfl
 | p :: ps, u :: us, hl, h => reps_cons.2 ⟨u, us, rfl, h 0 p u rfl rfl, reps_of (by grind) fun j q v hq hv => h (j + 1) q v (by grind) (by grind)⟩
 | [], _ :: _, hl, _ => by simp at hl
 | _ :: _, [], hl, _ => by simp at hl
theorem cells_get : ∀ {ps : List PV} {b o : Nat}, Cells M B ps b o → ∀ {j : Nat} {p : PV}, ps[j]? = some p → ∃ u, M b (o + j) = some u ∧ Rep M B p u
 | [], _, _, _, j, p, h => by simp at h
 | q :: ps, b, o, hc, j, p, h => by
  obtain ⟨h1, h2⟩ := cells_cons.1 hc
  cases j with
  | zero => simp at h; subst h; simpa using h1
  | succ j => obtain ⟨u, hu, hp⟩ := cells_get h2 h; exact ⟨u, by rw [← hu]; congr 1; omega, hp⟩
theorem cells_of : ∀ {ps : List PV} {b o : Nat}, (∀ (j : Nat) p, ps[j]? = some p → ∃ u, M b (o + j) = some u ∧ Rep M B p u) → Cells M B ps b o
 | [], _, _, _ => cells_nil
 | p :: ps, b, o, h => cells_cons.2 ⟨by simpa using h 0 p rfl, cells_of fun j q hq => by obtain ⟨u, hu, hr⟩ := h (j + 1) q (by grind); grind⟩
theorem locs_get : ∀ {ps : List PV} {sz b o : Nat}, Locs M B sz ps b o → ∀ {j : Nat} {p : PV}, ps[j]? = some p → Loc M B p b (o + j * sz)
 | [], _, _, _, _, j, p, h => by simp at h
 | q :: ps, sz, b, o, hc, j, p, h => by
  obtain ⟨h1, h2⟩ := locs_cons.1 hc
  cases j with
  | zero => simp at h; subst h; simpa using h1
  | succ j => have := locs_get h2 h; rwa [show o + (j + 1) * sz = o + sz + j * sz by rw [Nat.succ_mul]; omega]
theorem locs_of : ∀ {ps : List PV} {sz b o : Nat}, (∀ (j : Nat) p, ps[j]? = some p → Loc M B p b (o + j * sz)) → Locs M B sz ps b o
 | [], _, _, _, _ => locs_nil
 | p :: ps, sz, b, o, h => locs_cons.2 ⟨by simpa using h 0 p rfl, locs_of fun j q hq => by have := h (j + 1) q (by grind); rwa [show o + (j + 1) * sz = o + sz + j * sz by rw [Nat.succ_mul]; omega] at this⟩
theorem locs_append {ps qs : List PV} {sz b o : Nat} (h1 : Locs M B sz ps b o) (h2 : Locs M B sz qs b (o + ps.length * sz)) : Locs M B sz (ps ++ qs) b o :=
 locs_of fun j p hp => by
  rcases Nat.lt_or_ge j ps.length with h | h
  grind [locs_get]
  ·have := locs_get h2 (by rwa [List.getElem?_append_right h] at hp)
   rwa [show o + ps.length * sz + (j - ps.length) * sz = o + j * sz by rw [Nat.add_assoc, ← Nat.add_mul]; grind] at this
end
structure MLe (M M' : Mem) (B B' : Blk) : Prop where
 mem : ∀ (b o : Nat) (v : Value), M b o = some v → M' b o = some v
 blk : ∀ (i : Nat) (c : Nat × Nat × TypeId), B[i]? = some c → B'[i]? = some c
theorem MLe.refl (M : Mem) (B : Blk) : MLe M M B B := ⟨fun _ _ _ h => h, fun _ _ h => h⟩
theorem MLe.none {M M' : Mem} {B B' : Blk} (h : MLe M M' B B') : MLe M M' [] [] := ⟨h.mem, fun _ _ e => e⟩
theorem MLe.zero (M : Mem) (B : Blk) : MLe M M [] B := ⟨fun _ _ _ e => e, fun i c e => by simp at e⟩
theorem MLe.trans {M M' M'' : Mem} {B B' B'' : Blk} (h : MLe M M' B B') (k : MLe M' M'' B' B'') : MLe M M'' B B'' := ⟨fun b o v e => k.mem b o v (h.mem b o v e), fun i c e => k.blk i c (h.blk i c e)⟩
section
variable {M M' : Mem} {B B' : Blk}
mutual
theorem sem_mono {B B' : Blk} (h : MLe M M' B B') : ∀ p : PV, (∀ v, (sem M B p).1 v → (sem M' B' p).1 v) ∧ (∀ b o, (sem M B p).2 b o → (sem M' B' p).2 b o)
 | .int k n => by simp only [sem, liftP]; exact ⟨fun _ h => h, fun b o ⟨u, hu, e⟩ => ⟨u, h.mem _ _ _ hu, e⟩⟩
 | .bool _ => by simp only [sem, liftP]; exact ⟨fun _ h => h, fun b o ⟨u, hu, e⟩ => ⟨u, h.mem _ _ _ hu, e⟩⟩
 | .str _ => by simp only [sem, liftP]; exact ⟨fun _ h => h, fun b o ⟨u, hu, e⟩ => ⟨u, h.mem _ _ _ hu, e⟩⟩
 | .nilp => by simp only [sem, liftP]; exact ⟨fun _ h => h, fun b o ⟨u, hu, e⟩ => ⟨u, h.mem _ _ _ hu, e⟩⟩
 | .raw _ => by simp only [sem, liftP]; exact ⟨fun _ h => h, fun b o ⟨u, hu, e⟩ => ⟨u, h.mem _ _ _ hu, e⟩⟩
 | .ptr i off => by
  have key : ∀ v, (∃ c, (B[i]? = some c ∧ c.2.2 ≠ 0) ∧ v = Value.pointer (some ⟨c.1, off, none⟩)) → ∃ c, (B'[i]? = some c ∧ c.2.2 ≠ 0) ∧ v = Value.pointer (some ⟨c.1, off, none⟩) := fun v ⟨c, hc, e⟩ => ⟨c, ⟨h.blk _ _ hc.1, hc.2⟩, e⟩
  simp only [sem, liftP]; exact ⟨key, fun b o ⟨u, hu, e⟩ => ⟨u, h.mem _ _ _ hu, key u e⟩⟩
 | .bld T i => by
  have key : ∀ v, (∃ c, B[i]? = some c ∧ bldV T c v) → ∃ c, B'[i]? = some c ∧ bldV T c v := fun v ⟨c, hc, e⟩ => ⟨c, h.blk _ _ hc, e⟩
  simp only [sem, liftP]; exact ⟨key, fun b o ⟨u, hu, e⟩ => ⟨u, h.mem _ _ _ hu, key u e⟩⟩
 | .cst e => by
  have ih := (sem_mono h.none e).2
  have key : ∀ v, (∃ b off, v = Value.pointer (some ⟨b, off, none⟩) ∧ (sem M [] e).2 b off) → (∃ b off, v = Value.pointer (some ⟨b, off, none⟩) ∧ (sem M' [] e).2 b off) := fun v ⟨b, off, e, hl⟩ => ⟨b, off, e, ih _ _ hl⟩
  simp only [sem, liftP]; exact ⟨key, fun b o ⟨u, hu, e⟩ => ⟨u, h.mem _ _ _ hu, key u e⟩⟩
 | .sl _ sz es => by
  have ih := (sems_mono h.none es).2.1
  have key : ∀ v, (∃ A cap, v = Value.slice A es.length cap ∧ es.length ≤ cap ∧ (∀ e, e ∈ es → e.size = sz) ∧ (sz = 0 → es = [] ∧ A = none ∧ cap = 0) ∧ (es ≠ [] → ∃ b off, A = some ⟨b, off, none⟩ ∧ LocsP sz (sems M [] es) b off)) →
   (∃ A cap, v = Value.slice A es.length cap ∧ es.length ≤ cap ∧ (∀ e, e ∈ es → e.size = sz) ∧ (sz = 0 → es = [] ∧ A = none ∧ cap = 0) ∧ (es ≠ [] → ∃ b off, A = some ⟨b, off, none⟩ ∧ LocsP sz (sems M' [] es) b off)) := fun v ⟨A, cap, e, h1, h2, h3, h4⟩ => ⟨A, cap, e, h1, h2, h3, fun hc => by
    obtain ⟨b, off, hb, hl⟩ := h4 hc
    exact ⟨b, off, hb, ih sz b off hl⟩⟩
  simp only [sem, liftP]; exact ⟨key, fun b o ⟨u, hu, e⟩ => ⟨u, h.mem _ _ _ hu, key u e⟩⟩
 | .slh i off n sz => by
  have key : ∀ v, (∃ c cap, (B[i]? = some c ∧ c.2.2 ≠ 0) ∧ v = Value.slice (some ⟨c.1, off, none⟩) n cap ∧ n ≤ cap ∧ off + cap * sz ≤ c.2.1) → (∃ c cap, (B'[i]? = some c ∧ c.2.2 ≠ 0) ∧ v = Value.slice (some ⟨c.1, off, none⟩) n cap ∧ n ≤ cap ∧ off + cap * sz ≤ c.2.1) := fun v ⟨c, cap, hc, e⟩ => ⟨c, cap, ⟨h.blk _ _ hc.1, hc.2⟩, e⟩
  simp only [sem, liftP]; exact ⟨key, fun b o ⟨u, hu, e⟩ => ⟨u, h.mem _ _ _ hu, key u e⟩⟩
 | .slp o n z cs => by
  simp only [sem, liftP]; exact ⟨fun _ h => h, fun b o ⟨u, hu, e⟩ => ⟨u, h.mem _ _ _ hu, e⟩⟩
 | .mp l => by
  have i1 := (sems_mono h.none l).1
  have key : ∀ v, (∃ f, v = Value.func (.yield MAPN) f #[] ∧ AllP (sems M [] l) f.toList) → (∃ f, v = Value.func (.yield MAPN) f #[] ∧ AllP (sems M' [] l) f.toList) := fun v ⟨f, e, h1⟩ => ⟨f, e, i1 _ h1⟩
  simp only [sem, liftP]; exact ⟨key, fun b o ⟨u, hu, e⟩ => ⟨u, h.mem _ _ _ hu, key u e⟩⟩
 | .slT l => by
  have key : ∀ v, (∃ A cap, v = Value.slice A l.length cap ∧ l.length ≤ cap ∧ (l ≠ [] → ∃ b off, A = some ⟨b, off, none⟩ ∧ ∀ (j : Nat) x, l[j]? = some x → M b (off + j) = some (.int .u8 (x.toNat : Int)))) →
   (∃ A cap, v = Value.slice A l.length cap ∧ l.length ≤ cap ∧ (l ≠ [] → ∃ b off, A = some ⟨b, off, none⟩ ∧ ∀ (j : Nat) x, l[j]? = some x → M' b (off + j) = some (.int .u8 (x.toNat : Int)))) := fun v ⟨A, cap, e, h1, h2⟩ => ⟨A, cap, e, h1, fun hc => by
    obtain ⟨b, off, hb, hl⟩ := h2 hc
    exact ⟨b, off, hb, fun j x hj => h.mem _ _ _ (hl j x hj)⟩⟩
  simp only [sem, liftP]; exact ⟨key, fun b o ⟨u, hu, e⟩ => ⟨u, h.mem _ _ _ hu, key u e⟩⟩
 | .func fn first caps => by
  have i1 := (sems_mono h first).1
  have i2 := (sems_mono h caps).1
  have key : ∀ v, (∃ f c, v = Value.func fn f c ∧ AllP (sems M B first) f.toList ∧ AllP (sems M B caps) c.toList) → (∃ f c, v = Value.func fn f c ∧ AllP (sems M' B' first) f.toList ∧ AllP (sems M' B' caps) c.toList) := fun v ⟨f, c, e, h1, h2⟩ => ⟨f, c, e, i1 _ h1, i2 _ h2⟩
  simp only [sem, liftP]; exact ⟨key, fun b o ⟨u, hu, e⟩ => ⟨u, h.mem _ _ _ hu, key u e⟩⟩
 | .agg cs => by
  have ih := sems_mono h cs
  simp only [sem]; exact ⟨fun v ⟨vs, e, hv⟩ => ⟨vs, e, ih.1 _ hv⟩, fun b o hc => ih.2.2 b o hc⟩
 | .tuple cs => by
  have ih := sems_mono h cs
  simp only [sem]; exact ⟨fun v ⟨vs, e, hv⟩ => ⟨vs, e, ih.1 _ hv⟩, fun b o hc => hc⟩
theorem sems_mono {B B' : Blk} (h : MLe M M' B B') : ∀ ps : List PV, (∀ vs, AllP (sems M B ps) vs → AllP (sems M' B' ps) vs) ∧ (∀ sz b o, LocsP sz (sems M B ps) b o → LocsP sz (sems M' B' ps) b o) ∧ (∀ b o, CellsP M (sems M B ps) b o → CellsP M' (sems M' B' ps) b o)
 | [] => by simp only [sems]; exact ⟨fun vs h => by cases vs <;> simpa [AllP] using h, fun _ _ _ _ => trivial, fun _ _ _ => trivial⟩
 | p :: ps => by
  have h1 := sem_mono h p
  have h2 := sems_mono h ps
  simp only [sems]
  exact ⟨fun vs hv => by
   cases vs with
   | nil => simp [AllP] at hv
   | cons v vs => exact ⟨h1.1 _ hv.1, h2.1 _ hv.2⟩, fun sz b o hl => ⟨h1.2 _ _ hl.1, h2.2.1 _ _ _ hl.2⟩, fun b o ⟨⟨u, hu, hr⟩, hc⟩ => ⟨⟨u, h.mem _ _ _ hu, h1.1 _ hr⟩, h2.2.2 _ _ hc⟩⟩
end
theorem Rep.mono (h : MLe M M' B B') {p : PV} {v : Value} (hr : Rep M B p v) : Rep M' B' p v := (sem_mono h p).1 v hr
theorem Loc.mono (h : MLe M M' B B') {p : PV} {b o : Nat} (hr : Loc M B p b o) : Loc M' B' p b o := (sem_mono h p).2 b o hr
theorem Reps.mono (h : MLe M M' B B') {ps : List PV} {vs : List Value} (hr : Reps M B ps vs) : Reps M' B' ps vs := (sems_mono h ps).1 vs hr
theorem Locs.mono (h : MLe M M' B B') {sz : Nat} {ps : List PV} {b o : Nat} (hr : Locs M B sz ps b o) : Locs M' B' sz ps b o := (sems_mono h ps).2.1 sz b o hr
theorem Cells.mono (h : MLe M M' B B') {ps : List PV} {b o : Nat} (hr : Cells M B ps b o) : Cells M' B' ps b o := (sems_mono h ps).2.2 b o hr
end
mutual
def PV.flat : PV → Bool
 | .ptr _ _ => false
 | .bld _ _ => false
 | .slh _ _ _ _ => false
 | .func _ f c => PV.flats f && PV.flats c
 | .agg cs => PV.flats cs
 | .tuple cs => PV.flats cs
 | _ => true
def PV.flats : List PV → Bool
 | [] => true
 | p :: ps => p.flat && PV.flats ps
end
section
variable {M : Mem} {B : Blk}
mutual
theorem sem_flat (B' : Blk) : ∀ p : PV, p.flat = true → sem M B p = sem M B' p
 | .int _ _, _ => by simp only [sem]
 | .bool _, _ => by simp only [sem]
 | .str _, _ => by simp only [sem]
 | .nilp, _ => by simp only [sem]
 | .raw _, _ => by simp only [sem]
 | .ptr _ _, h => by simp [PV.flat] at h
 | .bld _ _, h => by simp [PV.flat] at h
 | .slh _ _ _ _, h => by simp [PV.flat] at h
 | .slT _, _ => by simp only [sem]
 | .slp _ _ _ _, _ => by simp only [sem]
 | .mp _, _ => by simp only [sem]
 | .cst e, _ => by simp only [sem]
 | .sl _ _ es, _ => by simp only [sem]
 | .func _ f c, h => by
  simp only [PV.flat, Bool.and_eq_true] at h
  simp only [sem, sems_flat B' f h.1, sems_flat B' c h.2]
 | .agg cs, h => by simp only [sem, sems_flat B' cs (by simpa [PV.flat] using h)]
 | .tuple cs, h => by simp only [sem, sems_flat B' cs (by simpa [PV.flat] using h)]
theorem sems_flat (B' : Blk) : ∀ ps : List PV, PV.flats ps = true → sems M B ps = sems M B' ps
 | [], _ => by simp only [sems]
 | p :: ps, h => by
  simp only [PV.flats, Bool.and_eq_true] at h
  simp only [sems, sem_flat B' p h.1, sems_flat B' ps h.2]
end
theorem Rep.flat (B' : Blk) {p : PV} {v : Value} (hf : p.flat = true) (h : Rep M B p v) : Rep M B' p v := by
 grind [Rep, sem_flat]
theorem Reps.flat (B' : Blk) {ps : List PV} {vs : List Value} (hf : PV.flats ps = true) (h : Reps M B ps vs) : Reps M B' ps vs := by
 grind [Reps, sems_flat]
end
end Go.Proofs.YtkkgfoknknehfaaDoor
namespace Go.Proofs.YtkkgfoknknehfaaDoor
set_option linter.unusedVariables false
set_option linter.unusedSimpArgs false
set_option linter.unnecessarySimpa false
set_option linter.unusedSectionVars false
open Go.RowKit
abbrev Slots := List (Nat × PV)
abbrev Objs := List (Option (List PV))
def sget (k : Nat) : Slots → Option PV
 | [] => none
 | (j, p) :: l => if j = k then some p else sget k l
def sput (k : Nat) (p : PV) : Slots → Slots
 | [] => [(k, p)]
 | (j, q) :: l => if j = k then (k, p) :: l else if k < j then (k, p) :: (j, q) :: l else (j, q) :: sput k p l
structure ASt where
 s : Slots
 h : Objs
def ownV (p : PV) (v : Value) (b : Nat) : Nat := if p.own then (match v with | .slice (some a) _ _ => if a.block = b then 1 else 0 | _ => 0) else 0
def ownS : Slots → Array Value → Nat → Nat
 | [], _, _ => 0
 | (k, p) :: l, t, b => ownV p (t.getD k undef) b + ownS l t b
def ownC : List PV → List Value → Nat → Nat
 | p :: ps, v :: vs, b => ownV p v b + ownC ps vs b
 | _, _, _ => 0
def flatE (es : List MapEntry) : List Value := es.flatMap fun e => [e.key, e.val]
def bltL : List UInt8 → List UInt8 → Bool
 | [], [] => false
 | [], _ :: _ => true
 | _ :: _, [] => false
 | a :: as, b :: bs => Nat.blt a.toNat b.toNat || (Nat.beq a.toNat b.toNat && bltL as bs)
def keyLt : Value → Value → Bool
 | .string a, .string b => bltL a.data.toList b.data.toList
 | _, _ => false
def isStrV : Value → Bool | .string _ => true | _ => false
def strEq : Value → Value → Bool
 | .string a, .string b => a.data.toList == b.data.toList
 | _, _ => false
def insE (e : MapEntry) : List MapEntry → List MapEntry
 | [] => [e]
 | x :: l => if keyLt e.key x.key then e :: x :: l else x :: insE e l
def addE (l : List MapEntry) (e : MapEntry) : List MapEntry :=
 if (isStrV e.key && l.all fun x => isStrV x.key) && !(l.any fun x => strEq e.key x.key) then insE e l else l ++ [e]
def canE (es : List MapEntry) : List MapEntry := es.foldl addE []
def mapV (es : Array MapEntry) : Value := .func (.yield MAPN) (flatE (canE es.toList)).toArray #[]
def ITN : Nat := 4243
def iterV (s : ByteArray) (pos : Nat) : Value := .func (.yield ITN) #[.string s, .int .i64 pos] #[]
def bornOK (es : Array MapEntry) (ck : Nat) : Prop := (∀ x ∈ es.toList, x.born < ck) ∧ (es.toList.map (·.born)).Nodup
instance (es : Array MapEntry) (ck : Nat) : Decidable (bornOK es ck) := by unfold bornOK; infer_instance
theorem bornOK_push {es : Array MapEntry} {ck : Nat} (h : bornOK es ck) (k v : Value) : bornOK (es.push { key := k, val := v, born := ck }) (ck + 1) := by
 refine ⟨fun x hx => ?_, ?_⟩
 ·rw [Array.toList_push] at hx
  rcases List.mem_append.1 hx with hx | hx
  ·have := h.1 x hx; omega
  ·simp at hx; subst hx; simp
 ·rw [Array.toList_push, List.map_append, List.nodup_append]
  refine ⟨h.2, by simp, fun a ha b hb => ?_⟩
  simp at hb; subst hb
  obtain ⟨x, hx, rfl⟩ := List.mem_map.1 ha
  have := h.1 x hx; omega
theorem bornOK_modify {es : Array MapEntry} {ck : Nat} (h : bornOK es ck) (j : Nat) (k v : Value) : bornOK (es.modify j fun e => { e with key := k, val := v }) ck := by
 have hm : (es.modify j fun e => { e with key := k, val := v }).toList.map (·.born) = es.toList.map (·.born) := by
  apply List.ext_getElem?
  intro i
  simp only [List.getElem?_map, Array.getElem?_toList, Array.getElem?_modify]
  split <;> cases es[i]? <;> rfl
 refine ⟨fun x hx => ?_, hm ▸ h.2⟩
 have : x.born ∈ es.toList.map (·.born) := hm ▸ List.mem_map.2 ⟨x, hx, rfl⟩
 obtain ⟨y, hy, e⟩ := List.mem_map.1 this
 rw [← e]; exact h.1 y hy
def rowAt (w : World) (b : Nat) : Option (Array Value × Nat) := match w.heap[b]? with
 | some (.cells vs ty (0, 0)) => some (vs, ty + 1)
 | some (.map es ck) => if bornOK es ck then some (#[mapV es], 0) else none
 | some (.stringIter s pos) => some (#[iterV s pos], 0)
 | _ => none
theorem rowAt_congr {w w' : World} {b : Nat} (h : w'.heap[b]? = w.heap[b]?) : rowAt w' b = rowAt w b := by unfold rowAt; rw [h]
theorem rowAt_of {w : World} {b : Nat} {vs : Array Value} {ty : TypeId} (h : w.heap[b]? = some (.cells vs ty (0, 0))) : rowAt w b = some (vs, ty + 1) := by grind [rowAt]
theorem rowAt_map {w : World} {b : Nat} {es : Array MapEntry} {ck : Nat} (h : w.heap[b]? = some (.map es ck)) (hb : bornOK es ck) : rowAt w b = some (#[mapV es], 0) := by unfold rowAt; rw [h]; exact if_pos hb
theorem rowAt_inv {w : World} {b : Nat} {vs : Array Value} {T : Nat} (h : rowAt w b = some (vs, T)) (hT : T ≠ 0) : ∃ ty, T = ty + 1 ∧ w.heap[b]? = some (.cells vs ty (0, 0)) := by
 grind [rowAt]
theorem rowAt_it {w : World} {b : Nat} {s : ByteArray} {pos : Nat} (h : w.heap[b]? = some (.stringIter s pos)) : rowAt w b = some (#[iterV s pos], 0) := by unfold rowAt; rw [h]
theorem rowAt_inv0 {w : World} {b : Nat} {vs : Array Value} (h : rowAt w b = some (vs, 0)) : (∃ es ck, w.heap[b]? = some (.map es ck) ∧ vs = #[mapV es] ∧ bornOK es ck) ∨ ∃ s pos, w.heap[b]? = some (.stringIter s pos) ∧ vs = #[iterV s pos] := by
 grind [rowAt]
def cellsAt (w : World) (b : Nat) : List Value := match rowAt w b with | some (c, _) => c.toList | none => []
def ownH (w : World) : Objs → Blk → Nat → Nat
 | some cs :: h, c :: B, b => (if c.1 = b then 1 else 0) + ownC cs (cellsAt w c.1) b + ownH w h B b
 | none :: h, _ :: B, b => ownH w h B b
 | _, _, _ => 0
def TlS (M : Mem) (w : World) (p : PV) (v : Value) : Prop :=
 ∀ sz es A n cap, p = .sl true sz es → v = .slice A n cap → (A = none → cap = 0) ∧ (sz = 0 → A = none) ∧ ∀ a, A = some a → ∃ cs ty, w.heap[a.block]? = some (.cells cs ty (0, 0)) ∧ a.off + cap * sz ≤ cs.size ∧ (∀ o, a.off + es.length * sz ≤ o → M a.block o = none) ∧ a.spot = none ∧ a.off = 0
def byteT : TypeId := 5
def TlT (M : Mem) (w : World) (p : PV) (v : Value) : Prop :=
 ∀ l A n cap, p = .slT l → v = .slice A n cap → (A = none → cap = 0) ∧ ∀ a, A = some a → ∃ cs, w.heap[a.block]? = some (.cells cs byteT (0, 0)) ∧ cs.size = cap ∧ cap ≤ maxLen ∧ (∀ o, l.length ≤ o → M a.block o = none) ∧ a.spot = none ∧ a.off = 0
def TlP (M : Mem) (w : World) (p : PV) (v : Value) : Prop :=
 ∀ n sz cs A m cap, p = .slp true n sz cs → v = .slice A m cap → (cs.length = n * sz ∧ 0 < sz) ∧ (A = none → cap = 0) ∧ ∀ a, A = some a → ∃ vs ty, w.heap[a.block]? = some (.cells vs ty (0, 0)) ∧ cap * sz ≤ vs.size ∧ (∀ (j : Nat) p, cs[j]? = some p → p.lit = true ∧ ∃ u, vs[j]? = some u ∧ Rep noM [] p u ∧ u.oneCell' = true) ∧ (∀ o, M a.block o = none) ∧ a.spot = none ∧ a.off = 0
structure Tl (M : Mem) (w : World) (p : PV) (v : Value) : Prop where
 s : TlS M w p v
 t : TlT M w p v
 p : TlP M w p v
theorem tl_mk {M : Mem} {w : World} {p : PV} {v : Value} (hp : ∀ l, p ≠ .slT l) (h : TlS M w p v) (hq : ∀ n z cs, p ≠ .slp true n z cs := by intro _ _ _ h; cases h) : Tl M w p v := ⟨h, fun l _ _ _ e _ => absurd e (hp l), fun n z cs _ _ _ e _ => absurd e (hq n z cs)⟩
theorem tl_mkp {M : Mem} {w : World} {n z : Nat} {cs : List PV} {v : Value} (h : TlP M w (.slp true n z cs) v) : Tl M w (.slp true n z cs) v := ⟨(fun _ _ _ _ _ e _ => by cases e), (fun _ _ _ _ e _ => by cases e), h⟩
def ObjOK (M : Mem) (B : Blk) (w : World) (cs : List PV) (c : Nat × Nat × TypeId) : Prop :=
 ∃ vs ty, rowAt w c.1 = some (vs, ty) ∧ (vs.size = c.2.1 ∧ ty = c.2.2) ∧ cs.length ≤ vs.size ∧ (∀ (j : Nat) p, cs[j]? = some p → ∃ v, vs[j]? = some v ∧ Rep M B p v ∧ Tl M w p v ∧ v.oneCell' = true) ∧ ∀ o, M c.1 o = none
def HeapOK (M : Mem) (B : Blk) (w : World) (h : Objs) : Prop := h.length = B.length ∧ ∀ (i : Nat) cs, h[i]? = some (some cs) → ∃ c, B[i]? = some c ∧ ObjOK M B w cs c
def fp (B : Blk) (σ : ASt) (t : Array Value) (w : World) (b : Nat) : Nat := ownS σ.s t b + ownH w σ.h B b
def Srt (s : Slots) : Prop := s.Pairwise fun a b => a.1 < b.1
structure Inv (n : Nat) (M : Mem) (B : Blk) (out : Nat → Nat) (σ : ASt) (t : Array Value) (w : World) : Prop where
 size : t.size = n
 mem : ∀ (b o : Nat) (v : Value), M b o = some v → w.cell? ⟨b, o, none⟩ = some v ∧ v.oneCell' = true
 srt : Srt σ.s
 slots : ∀ k p, sget k σ.s = some p → k < n ∧ Rep M B p (t.getD k undef) ∧ Tl M w p (t.getD k undef)
 heap : HeapOK M B w σ.h
 cnt : ∀ b, fp B σ t w b + out b ≤ 1
 new : ∀ b, w.heap.size ≤ b → fp B σ t w b + out b = 0
structure Fr (f : Nat → Nat) (M : Mem) (w : World) (M' : Mem) (w' : World) : Prop where
 os : w'.os = w.os
 tape : w'.tape = w.tape
 output : w'.output = w.output
 size : w.heap.size ≤ w'.heap.size
 blk : ∀ b, b < w.heap.size → f b = 0 → w'.heap[b]? = w.heap[b]? ∧ ∀ o, M' b o = M b o
theorem Fr.refl (f : Nat → Nat) (M : Mem) (w : World) : Fr f M w M w := ⟨rfl, rfl, rfl, Nat.le_refl _, fun _ _ _ => ⟨rfl, fun _ => rfl⟩⟩
theorem Fr.trans {f g : Nat → Nat} {M M' M'' : Mem} {w w' w'' : World} (h : Fr f M w M' w') (k : Fr g M' w' M'' w'') (hg : ∀ b, b < w.heap.size → f b = 0 → g b = 0) : Fr f M w M'' w'' :=
 ⟨k.os.trans h.os, k.tape.trans h.tape, k.output.trans h.output, Nat.le_trans h.size k.size, fun b hb hf => by
  obtain ⟨h1, h2⟩ := h.blk b hb hf
  obtain ⟨k1, k2⟩ := k.blk b (Nat.lt_of_lt_of_le hb h.size) (hg b hb hf)
  simp_all⟩
theorem Fr.mono {f g : Nat → Nat} {M M' : Mem} {w w' : World} (h : Fr f M w M' w') (hg : ∀ b, b < w.heap.size → g b = 0 → f b = 0) : Fr g M w M' w' :=
 ⟨h.os, h.tape, h.output, h.size, fun b hb h0 => h.blk b hb (hg b hb h0)⟩
structure Good (n : Nat) (out : Nat → Nat) (M : Mem) (B : Blk) (σ : ASt) (t : Array Value) (w : World) (M' : Mem) (B' : Blk) (σ' : ASt) (t' : Array Value) (w' : World) : Prop where
 inv : Inv n M' B' out σ' t' w'
 le : MLe M M' B B'
 fr : Fr (fp B σ t w) M w M' w'
 own : ∀ b, b < w.heap.size → fp B' σ' t' w' b ≤ fp B σ t w b
theorem Good.refl {n : Nat} {out : Nat → Nat} {M : Mem} {B : Blk} {σ : ASt} {t : Array Value} {w : World} (h : Inv n M B out σ t w) : Good n out M B σ t w M B σ t w :=
 ⟨h, MLe.refl _ _, Fr.refl _ _ _, fun _ _ => Nat.le_refl _⟩
theorem Good.trans {n : Nat} {out : Nat → Nat} {M M1 M2 : Mem} {B B1 B2 : Blk} {σ σ1 σ2 : ASt} {t t1 t2 : Array Value} {w w1 w2 : World}
 (h : Good n out M B σ t w M1 B1 σ1 t1 w1) (k : Good n out M1 B1 σ1 t1 w1 M2 B2 σ2 t2 w2) : Good n out M B σ t w M2 B2 σ2 t2 w2 :=
 ⟨k.inv, h.le.trans k.le, h.fr.trans k.fr (fun b hb h0 => by have := h.own b hb; omega), fun b hb => Nat.le_trans (k.own b (Nat.lt_of_lt_of_le hb h.fr.size)) (h.own b hb)⟩
theorem getD_set_ne' {t : Array Value} {k j : Nat} {v : Value} (h : k ≠ j) : (t.setIfInBounds k v).getD j undef = t.getD j undef := by simp [h]
theorem getD_set_eq' {t : Array Value} {k : Nat} {v : Value} (h : k < t.size) : (t.setIfInBounds k v).getD k undef = v := by simp [h]
theorem srt_cons {kp : Nat × PV} {l : Slots} : Srt (kp :: l) ↔ (∀ a, a ∈ l → kp.1 < a.1) ∧ Srt l := by simp [Srt]
theorem sput_mem {k : Nat} {p : PV} : ∀ {s : Slots} {a : Nat × PV}, a ∈ sput k p s → a = (k, p) ∨ a ∈ s
 | [], a, h => by simpa [sput] using h
 | (j, q) :: l, a, h => by
  rw [sput] at h
  split at h
  grind
  ·split at h
   simp_all
   ·rcases List.mem_cons.1 h with h | h
    ·exact .inr (by simp [h])
    ·rcases sput_mem h with h | h
     ·exact .inl h
     ·exact .inr (by simp [h])
theorem sput_srt {k : Nat} {p : PV} : ∀ {s : Slots}, Srt s → Srt (sput k p s)
 | [], _ => by simp [sput, Srt]
 | (j, q) :: l, h => by
  obtain ⟨h1, h2⟩ := srt_cons.1 h
  rw [sput]
  split
  ·rename_i e; subst e; exact srt_cons.2 ⟨h1, h2⟩
  ·split
   ·rename_i hlt; exact srt_cons.2 ⟨fun a ha => by
     rcases List.mem_cons.1 ha with rfl | ha
     ·exact hlt
     ·exact Nat.lt_trans hlt (h1 a ha), h⟩
   ·exact srt_cons.2 ⟨fun a ha => by
     rcases sput_mem ha with rfl | ha
     ·omega
     ·exact h1 a ha, sput_srt h2⟩
theorem sget_none {k : Nat} : ∀ {s : Slots}, (∀ a, a ∈ s → k < a.1) → sget k s = none
 | [], _ => rfl
 | (j, q) :: l, h => by
  have := h (j, q) (by simp)
  rw [sget, if_neg (by omega)]
  exact sget_none fun a ha => h a (by simp [ha])
theorem sget_sput {k : Nat} {p : PV} (j : Nat) : ∀ {s : Slots}, Srt s → sget j (sput k p s) = if k = j then some p else sget j s
 | [], _ => by rfl
 | (i, q) :: l, h => by
  obtain ⟨h1, h2⟩ := srt_cons.1 h
  rw [sput]
  split
  ·rename_i e; subst e; simp only [sget]; split <;> rfl
  ·split
   ·simp only [sget]
   ·rw [sget, sget_sput j h2, sget]
    by_cases h3 : i = j
    ·subst h3; rw [if_pos rfl, if_pos rfl, if_neg (by omega)]
    ·rw [if_neg h3, if_neg h3]
theorem sget_mem {k : Nat} {p : PV} : ∀ {s : Slots}, sget k s = some p → (k, p) ∈ s
 | [], h => by simp [sget] at h
 | (j, q) :: l, h => by
  rw [sget] at h
  split at h
  ·rename_i e; subst e; injection h with h; subst h; simp
  ·exact List.mem_cons_of_mem _ (sget_mem h)
theorem ownS_set_ne {k : Nat} {v : Value} {t : Array Value} {b : Nat} : ∀ {l : Slots}, (∀ a, a ∈ l → a.1 ≠ k) → ownS l (t.setIfInBounds k v) b = ownS l t b
 | [], _ => rfl
 | (j, q) :: l, h => by
  rw [ownS, ownS, getD_set_ne' (Ne.symm (h (j, q) (by simp))), ownS_set_ne fun a ha => h a (by simp [ha])]
def ownK (s : Slots) (t : Array Value) (k b : Nat) : Nat := match sget k s with | some q => ownV q (t.getD k undef) b | none => 0
theorem ownS_put {k : Nat} {p : PV} {v : Value} {t : Array Value} {b : Nat} (hk : k < t.size) : ∀ {s : Slots}, Srt s → ownS (sput k p s) (t.setIfInBounds k v) b + ownK s t k b = ownS s t b + ownV p v b
 | [], _ => by simp [sput, ownS, ownK, sget, hk]
 | (j, q) :: l, h => by
  obtain ⟨h1, h2⟩ := srt_cons.1 h
  rw [sput]
  split
  ·rename_i e; subst e
   have hl : ∀ a, a ∈ l → a.1 ≠ j := fun a ha => by have := h1 a ha; omega
   simp only [ownS, getD_set_eq' hk, ownS_set_ne hl, ownK, sget, if_true]
   omega
  ·split
   ·rename_i hne hlt
    have hl : ∀ a, a ∈ (j, q) :: l → a.1 ≠ k := fun a ha => by
     rcases List.mem_cons.1 ha with rfl | ha
     ·exact hne
     ·have := h1 a ha; omega
    have hn : sget k ((j, q) :: l) = none := sget_none fun a ha => by
     rcases List.mem_cons.1 ha with rfl | ha
     ·exact hlt
     ·have := h1 a ha; omega
    rw [ownS, getD_set_eq' hk, ownS_set_ne hl, ownK, hn]
    show _ + 0 = _
    omega
   ·rename_i hne hnl
    have ih := ownS_put (p := p) (v := v) (b := b) hk h2
    have e1 : ownK ((j, q) :: l) t k b = ownK l t k b := by simp only [ownK, sget, if_neg hne]
    rw [ownS, ownS, getD_set_ne' (Ne.symm hne)]
    omega
theorem ownV_un (p : PV) (v : Value) (b : Nat) : ownV p.un v b = 0 := by simp [ownV, un_own]
theorem ownV_no {p : PV} (h : p.own = false) (v : Value) (b : Nat) : ownV p v b = 0 := by simp [ownV, h]
theorem ownK_le {s : Slots} {t : Array Value} {k b : Nat} : ownK s t k b ≤ ownS s t b := by
 induction s with
 | nil => simp [ownK, sget]
 | cons a l ih =>
  grind [ownK, sget, ownS]
theorem tl_no {M : Mem} {w : World} {p : PV} {v : Value} (h : p.own = false) : Tl M w p v := ⟨fun sz es A n cap e _ => by grind [PV.own], fun l A n cap e _ => by grind [PV.own], fun n z cs A m cap e _ => by grind [PV.own]⟩
section
variable {n : Nat} {M : Mem} {B : Blk} {out : Nat → Nat} {σ : ASt} {t : Array Value} {w : World}
theorem Tl.kept {M' : Mem} {w' : World} {p : PV} {v : Value} (h : Tl M w p v) (hb : ∀ b, ownV p v b = 1 → w'.heap[b]? = w.heap[b]? ∧ ∀ o, M' b o = M b o) : Tl M' w' p v := by
 refine ⟨fun sz es A n cap e ev => ?_, fun l A n cap e ev => ?_, fun n z cs A m cap e ev => ?_⟩
 ·obtain ⟨g1, g2, g3⟩ := h.s sz es A n cap e ev
  grind [ownV, PV.own]
 ·obtain ⟨g1, g3⟩ := h.t l A n cap e ev
  grind [ownV, PV.own]
 ·obtain ⟨g0, g1, g3⟩ := h.p n z cs A m cap e ev
  grind [ownV, PV.own]
theorem Inv.put (hI : Inv n M B out σ t w) {k : Nat} (hk : k < n) {p : PV} {v : Value} (hr : Rep M B p v) (ho : p.own = false) :
 Good n out M B σ t w M B { σ with s := sput k p σ.s } (t.setIfInBounds k v) w := by
 have hle : ∀ b, fp B { σ with s := sput k p σ.s } (t.setIfInBounds k v) w b ≤ fp B σ t w b := fun b => by
  have := ownS_put (p := p) (v := v) (b := b) (by rw [hI.size]; exact hk : k < t.size) hI.srt
  rw [ownV_no ho] at this
  show ownS (sput k p σ.s) (t.setIfInBounds k v) b + ownH w σ.h B b ≤ ownS σ.s t b + ownH w σ.h B b
  omega
 refine ⟨⟨by simp [hI.size], hI.mem, sput_srt hI.srt, fun j q hj => ?_, hI.heap, fun b => by have := hI.cnt b; have := hle b; omega, fun b hb => by have := hI.new b hb; have := hle b; omega⟩, MLe.refl _ _, Fr.refl _ _ _, fun b _ => hle b⟩
 rw [sget_sput j hI.srt] at hj
 split at hj
 ·rename_i e; subst e; rw [getD_set_eq' (by rw [hI.size]; exact hk)]
  grind [tl_no]
 ·rename_i hne
  rw [getD_set_ne' hne]
  exact hI.slots j q hj
theorem Inv.clr (hI : Inv n M B out σ t w) {k : Nat} {p : PV} (hp : sget k σ.s = some p) : Inv n M B out { σ with s := sput k p.un σ.s } t w ∧ ∀ b, fp B { σ with s := sput k p.un σ.s } t w b + ownV p (t.getD k undef) b = fp B σ t w b := by
 have hk := (hI.slots k p hp).1
 have hks : k < t.size := by rw [hI.size]; exact hk
 have hset : t.setIfInBounds k (t.getD k undef) = t := by
  apply Array.ext (by simp)
  intro i h1 h2
  by_cases h : k = i
  simp_all
  simp_all
 have hown : ∀ b, ownS (sput k p.un σ.s) t b + ownV p (t.getD k undef) b = ownS σ.s t b := fun b => by
  have := ownS_put (p := p.un) (v := t.getD k undef) (b := b) hks hI.srt
  rw [ownV_un] at this
  grind [ownK]
 refine ⟨⟨hI.size, hI.mem, sput_srt hI.srt, fun j q hj => ?_, hI.heap, fun b => by have := hI.cnt b; grind [fp], fun b hb => by have := hI.new b hb; grind [fp]⟩, fun b => by have := hown b; simp only [fp]; omega⟩
 rw [sget_sput j hI.srt] at hj
 split at hj
 ·rename_i e; subst e; injection hj with hj; subst hj
  exact ⟨hk, rep_un.2 (hI.slots _ _ hp).2.1, tl_no (un_own _)⟩
 ·exact hI.slots j q hj
theorem Inv.putOwn (hI : Inv n M B out σ t w) {k : Nat} (hk : k < n) {p : PV} {v : Value} (hr : Rep M B p v) (hT : Tl M w p v) (hc : ∀ b, fp B σ t w b + ownV p v b + out b ≤ 1) (hn : ∀ b, w.heap.size ≤ b → ownV p v b = 0) :
 Inv n M B out { σ with s := sput k p σ.s } (t.setIfInBounds k v) w ∧ ∀ b, fp B { σ with s := sput k p σ.s } (t.setIfInBounds k v) w b ≤ fp B σ t w b + ownV p v b := by
 have hle : ∀ b, fp B { σ with s := sput k p σ.s } (t.setIfInBounds k v) w b ≤ fp B σ t w b + ownV p v b := fun b => by
  have := ownS_put (p := p) (v := v) (b := b) (by rw [hI.size]; exact hk : k < t.size) hI.srt
  simp only [fp]; omega
 refine ⟨⟨by simp [hI.size], hI.mem, sput_srt hI.srt, fun j q hj => ?_, hI.heap, fun b => by have := hc b; have := hle b; omega, fun b hb => by have := hI.new b hb; have := hle b; have := hn b hb; omega⟩, hle⟩
 rw [sget_sput j hI.srt] at hj
 split at hj
 ·rename_i e; subst e; rw [getD_set_eq' (by rw [hI.size]; exact hk)]
  simp_all
 ·rename_i hne
  rw [getD_set_ne' hne]
  exact hI.slots j q hj
end
end Go.Proofs.YtkkgfoknknehfaaDoor
namespace Go.Proofs.YtkkgfoknknehfaaDoor
set_option linter.unusedVariables false
set_option linter.unusedSimpArgs false
set_option linter.unnecessarySimpa false
set_option linter.unusedSectionVars false
open Go.RowKit
section
variable {n : Nat} {M M' : Mem} {B B' : Blk} {out : Nat → Nat} {σ : ASt} {t : Array Value} {w w' : World}
theorem ownC_get : ∀ {cs : List PV} {vs : List Value} {j : Nat} {p : PV} {v : Value} (b : Nat), cs[j]? = some p → vs[j]? = some v → ownV p v b ≤ ownC cs vs b
 | [], _, _, _, _, _, h, _ => by simp at h
 | _ :: _, [], _, _, _, _, _, h => by simp at h
 | q :: cs, u :: vs, 0, p, v, b, h1, h2 => by grind [ownC]
 | q :: cs, u :: vs, j + 1, p, v, b, h1, h2 => by have := ownC_get b (by simpa using h1) (by simpa using h2); rw [ownC]; omega
theorem ownH_get : ∀ {h : Objs} {B : Blk} {i : Nat} {cs : List PV} {c : Nat × Nat × TypeId} (b : Nat), h[i]? = some (some cs) → B[i]? = some c → (if c.1 = b then 1 else 0) + ownC cs (cellsAt w c.1) b ≤ ownH w h B b
 | [], _, _, _, _, _, h, _ => by simp at h
 | _ :: _, [], _, _, _, _, _, h => by simp at h
 | some ds :: h, d :: B, 0, cs, c, b, h1, h2 => by grind [ownH]
 | none :: h, d :: B, 0, cs, c, b, h1, h2 => by simp at h1
 | some ds :: h, d :: B, i + 1, cs, c, b, h1, h2 => by have := ownH_get b (by simpa using h1) (by simpa using h2); rw [ownH]; omega
 | none :: h, d :: B, i + 1, cs, c, b, h1, h2 => by have := ownH_get b (by simpa using h1) (by simpa using h2); rw [ownH]; omega
theorem ownH_congr : ∀ {h : Objs} {B : Blk} (b : Nat), (∀ (i : Nat) cs c, h[i]? = some (some cs) → B[i]? = some c → cellsAt w' c.1 = cellsAt w c.1) → ownH w' h B b = ownH w h B b
 | [], _, _, _ => by simp [ownH]
 | some _ :: _, [], _, _ => by simp [ownH]
 | none :: _, [], _, _ => by simp [ownH]
 | some ds :: h, d :: B, b, H => by
  rw [ownH, ownH, ownH_congr b (fun i cs c h1 h2 => H (i + 1) cs c (by grind) (by grind)), H 0 ds d rfl rfl]
 | none :: h, d :: B, b, H => by
  rw [ownH, ownH, ownH_congr b (fun i cs c h1 h2 => H (i + 1) cs c (by grind) (by grind))]
theorem ownH_append {x : List PV} {c : Nat × Nat × TypeId} : ∀ {h : Objs} {B : Blk} (b : Nat), h.length = B.length → ownH w (h ++ [some x]) (B ++ [c]) b = ownH w h B b + ((if c.1 = b then 1 else 0) + ownC x (cellsAt w c.1) b)
 | [], [], b, _ => by simp [ownH]
 | some ds :: h, d :: B, b, H => by simp only [List.cons_append, ownH]; rw [ownH_append b (by simpa using H)]; omega
 | none :: h, d :: B, b, H => by simp only [List.cons_append, ownH]; rw [ownH_append b (by simpa using H)]
 | [], _ :: _, _, H => by simp at H
 | _ :: _, [], _, H => by simp at H
theorem cellsAt_congr {b : Nat} (h : w'.heap[b]? = w.heap[b]?) : cellsAt w' b = cellsAt w b := by unfold cellsAt; rw [rowAt_congr h]
theorem cellsAt_eq {b : Nat} {vs : Array Value} {ty : Nat} (h : rowAt w b = some (vs, ty)) : cellsAt w b = vs.toList := by unfold cellsAt; rw [h]
theorem HeapOK.at (h : HeapOK M B w σ.h) {i : Nat} {cs : List PV} (hi : σ.h[i]? = some (some cs)) {c : Nat × Nat × TypeId} (hc : B[i]? = some c) : ObjOK M B w cs c := by
 obtain ⟨c', hc', ho⟩ := h.2 i cs hi
 simp_all
theorem ownH_lt {b : Nat} (hI : Inv n M B out σ t w) (h : 1 ≤ fp B σ t w b + out b) : b < w.heap.size := by
 rcases Nat.lt_or_ge b w.heap.size with h' | h'
 ·exact h'
 ·have := hI.new b h'; omega
theorem Inv.ext (hI : Inv n M B out σ t w) (hle : MLe M M' B B) (hmem : ∀ (b o : Nat) (v : Value), M' b o = some v → w'.cell? ⟨b, o, none⟩ = some v ∧ v.oneCell' = true)
 (hb : ∀ b, 1 ≤ fp B σ t w b → w'.heap[b]? = w.heap[b]? ∧ ∀ o, M' b o = M b o) (hsz : w.heap.size ≤ w'.heap.size) :
 Inv n M' B out σ t w' ∧ ∀ b, fp B σ t w' b = fp B σ t w b := by
 have hobj : ∀ (i : Nat) cs c, σ.h[i]? = some (some cs) → B[i]? = some c → 1 ≤ fp B σ t w c.1 := fun i cs c h1 h2 => by
  have := ownH_get (w := w) c.1 h1 h2
  grind [fp]
 have hfp : ∀ b, fp B σ t w' b = fp B σ t w b := fun b => by
  grind [fp, ownH_congr, cellsAt_congr]
 refine ⟨⟨hI.size, hmem, hI.srt, fun k p hp => ?_, ⟨hI.heap.1, fun i cs hi => ?_⟩, fun b => by rw [hfp]; exact hI.cnt b, fun b h => by rw [hfp]; exact hI.new b (Nat.le_trans hsz h)⟩, hfp⟩
 ·obtain ⟨h1, h2, h3⟩ := hI.slots k p hp
  refine ⟨h1, h2.mono hle, h3.kept fun b ho => hb b ?_⟩
  have := ownK_le (s := σ.s) (t := t) (k := k) (b := b)
  grind [ownK, fp]
 ·obtain ⟨c, hc, vs, ty, h1, h2, h3, h4, h5⟩ := hI.heap.2 i cs hi
  have hcb := hb c.1 (hobj i cs c hi hc)
  refine ⟨c, hc, vs, ty, by rw [rowAt_congr hcb.1, h1], h2, h3, fun j p hj => ?_, fun o => by rw [hcb.2]; exact h5 o⟩
  obtain ⟨v, hv, hr, hT, hone⟩ := h4 j p hj
  refine ⟨v, hv, hr.mono hle, hT.kept fun b ho => hb b ?_, hone⟩
  have e1 := ownH_get (w := w) b hi hc
  have e2 := ownC_get b hj (by rw [cellsAt_eq h1]; grind : (cellsAt w c.1)[j]? = some v)
  simp only [fp]; omega
theorem Inv.drew (hI : Inv n M B out σ t w) : Inv n M B out σ t w.drew ∧ Good n out M B σ t w M B σ t w.drew := by
 have := hI.ext (w' := w.drew) (MLe.refl _ _) (fun b o v h => hI.mem b o v h) (fun b _ => ⟨rfl, fun _ => rfl⟩) (Nat.le_refl _)
 exact ⟨this.1, this.1, MLe.refl _ _, ⟨rfl, rfl, rfl, Nat.le_refl _, fun _ _ _ => ⟨rfl, fun _ => rfl⟩⟩, fun b _ => by rw [this.2]; omega⟩
def laid (M : Mem) (b : Nat) (vs : List Value) : Mem := mkM M.m fun b' o => if b' = b then vs[o]? else M b' o
theorem laid_new (hI : Inv n M B out σ t w) (o : Nat) : M w.heap.size o = none := by
 cases hm : M w.heap.size o with
 | none => rfl
 | some v => have := World.block_lt_of_cell? _ _ (hI.mem _ o v hm).1; simp at this
theorem laid_at {M : Mem} {c : Nat} (h : ∀ o, M c o = none) (vs : List Value) (b o : Nat) : laid M c vs b o = if b = c then vs[o]? else M b o := mkM_of (glob_if h) b o
theorem laid_le (hI : Inv n M B out σ t w) (vs : List Value) : MLe M (laid M w.heap.size vs) B B :=
 ⟨fun b o v h => by
  grind [laid_at, laid_new], fun _ _ h => h⟩
theorem Inv.lay (hI : Inv n M B out σ t w) (vs : Array Value) (ty : TypeId) (k : Nat) (h1 : ∀ v, v ∈ vs → v.oneCell' = true) :
 Good n out M B σ t w (laid M w.heap.size (vs.toList.take k)) B σ t (w.alloc (.cells vs ty)) ∧ ∀ b, fp B σ t (w.alloc (.cells vs ty)) b = fp B σ t w b := by
 have hle := laid_le hI (vs.toList.take k)
 have hb : ∀ b, 1 ≤ fp B σ t w b → (w.alloc (.cells vs ty)).heap[b]? = w.heap[b]? ∧ ∀ o, laid M w.heap.size (vs.toList.take k) b o = M b o := fun b hb => by
  have := ownH_lt hI (by omega : 1 ≤ fp B σ t w b + out b)
  grind [Below.heap_alloc, laid_at, laid_new]
 have := hI.ext hle (fun b o v h => by
  by_cases e : b = w.heap.size
  grind [laid_at, laid_new, World.cell?_alloc_new]
  ·rw [laid_at (laid_new hI), if_neg e] at h
   rw [World.cell?_alloc_old _ _ _ e]; exact hI.mem b o v h) hb (by simp)
 refine ⟨⟨this.1, hle, ⟨rfl, rfl, rfl, by simp, fun b hb _ => ⟨Below.heap_alloc _ _ _ hb, fun o => by rw [laid_at (laid_new hI), if_neg (by omega)]⟩⟩, fun b _ => by rw [this.2]; omega⟩, this.2⟩
theorem Inv.newObj2 (hI : Inv n M B out σ t w) (vs : Array Value) (ty : TypeId) (cs : List PV) (hl : cs.length ≤ vs.size)
 (hr : ∀ (j : Nat) p, cs[j]? = some p → ∃ v, vs[j]? = some v ∧ Rep M (B ++ [(w.heap.size, vs.size, ty + 1)]) p v ∧ Tl M w p v ∧ v.oneCell' = true ∧ ∀ b, ownV p v b = 0) :
 Good n out M B σ t w M (B ++ [(w.heap.size, vs.size, ty + 1)]) { σ with h := σ.h ++ [some cs] } t (w.alloc (.cells vs ty)) := by
 have hle : MLe M M B (B ++ [(w.heap.size, vs.size, ty + 1)]) := ⟨fun _ _ _ h => h, fun i c h => by rw [List.getElem?_append_left (List.getElem?_eq_some_iff.1 h).1]; exact h⟩
 obtain ⟨hE, hF⟩ := (hI.ext (w' := w.alloc (.cells vs ty)) (MLe.refl _ _) (fun b o v h => by
  have := World.block_lt_of_cell? _ _ (hI.mem b o v h).1
  simp only at this
  rw [World.cell?_alloc_old _ _ _ (by simp; omega)]; exact hI.mem b o v h) (fun b hb => ⟨Below.heap_alloc _ _ _ (ownH_lt hI (by omega)), fun _ => rfl⟩) (by simp))
 have hC : ∀ b, ownC cs vs.toList b = 0 := fun b => by
  have key : ∀ (cs : List PV) (us : List Value), (∀ (j : Nat) p, cs[j]? = some p → ∃ v, us[j]? = some v ∧ ∀ b, ownV p v b = 0) → ownC cs us b = 0 := by
   intro cs
   induction cs with
   | nil => grind [ownC]
   | cons p ps ih =>
    intro us h
    obtain ⟨v, hv, h0⟩ := h 0 p rfl
    cases us with
    | nil => simp at hv
    | cons u us =>
     simp at hv; subst hv
     rw [ownC, h0, ih us fun j q hq => by obtain ⟨v, hv, h0⟩ := h (j + 1) q (by grind); simp_all]
  grind
 have hat : cellsAt (w.alloc (.cells vs ty)) w.heap.size = vs.toList := cellsAt_eq (rowAt_of (heap_alloc_new w _))
 have hfp : ∀ b, fp (B ++ [(w.heap.size, vs.size, ty + 1)]) { σ with h := σ.h ++ [some cs] } t (w.alloc (.cells vs ty)) b = fp B σ t w b + if w.heap.size = b then 1 else 0 := fun b => by
  have := hF b
  simp only [fp] at this ⊢
  rw [ownH_append b hI.heap.1, hat]
  grind
 have hlast : ∀ (i : Nat) (cs' : List PV), (σ.h ++ [some cs])[i]? = some (some cs') → (i < σ.h.length ∧ σ.h[i]? = some (some cs')) ∨ (i = σ.h.length ∧ cs' = cs) := fun i cs' h => by
  grind
 refine ⟨⟨hI.size, hE.mem, hI.srt, fun k p hp => ?_, ⟨by simp [hI.heap.1], fun i cs' hi => ?_⟩, fun b => ?_, fun b hb => ?_⟩, hle, ⟨rfl, rfl, rfl, by simp, fun b hb _ => ⟨Below.heap_alloc _ _ _ hb, fun _ => rfl⟩⟩, fun b hb => by rw [hfp, if_neg (by omega)]; omega⟩
 ·obtain ⟨h1, h2, h3⟩ := hE.slots k p hp
  exact ⟨h1, h2.mono hle, h3⟩
 ·rcases hlast i cs' hi with ⟨hlt, hi'⟩ | ⟨rfl, rfl⟩
  ·obtain ⟨c, hc, vs', ty', h1, h2, h3, h4, h5⟩ := hE.heap.2 i cs' hi'
   exact ⟨c, hle.blk _ _ hc, vs', ty', h1, h2, h3, fun j p hj => by obtain ⟨v, a1, a2, a3, a4⟩ := h4 j p hj; exact ⟨v, a1, a2.mono hle, a3, a4⟩, h5⟩
  ·refine ⟨(w.heap.size, vs.size, ty + 1), by rw [hI.heap.1]; simp, vs, ty + 1, rowAt_of (heap_alloc_new w _), ⟨rfl, rfl⟩, hl, fun j p hj => ?_, fun o => ?_⟩
   ·obtain ⟨v, a1, a2, a3, a4, a5⟩ := hr j p hj
    refine ⟨v, a1, a2, ?_, a4⟩
    exact a3.kept fun b hb => by rw [a5] at hb; omega
   ·cases hm : M w.heap.size o with
    | none => rfl
    | some v => have := World.block_lt_of_cell? _ _ (hI.mem _ o v hm).1; simp at this
 ·rw [hfp]
  have := hI.cnt b
  split
  ·rename_i e; subst e; have := hI.new _ (Nat.le_refl _); omega
  ·omega
 ·rw [hfp]
  simp at hb
  have := hI.new b (by omega)
  rw [if_neg (by omega)]; omega
theorem Inv.newObjR (hI : Inv n M B out σ t w) (ob : Obj) (vs : Array Value) (T : Nat) (hrow : rowAt (w.alloc ob) w.heap.size = some (vs, T)) (cs : List PV) (hl : cs.length ≤ vs.size)
 (hr : ∀ (j : Nat) p, cs[j]? = some p → ∃ v, vs[j]? = some v ∧ Rep M (B ++ [(w.heap.size, vs.size, T)]) p v ∧ Tl M w p v ∧ v.oneCell' = true ∧ ∀ b, ownV p v b = 0) :
 Good n out M B σ t w M (B ++ [(w.heap.size, vs.size, T)]) { σ with h := σ.h ++ [some cs] } t (w.alloc ob) := by
 have hle : MLe M M B (B ++ [(w.heap.size, vs.size, T)]) := ⟨fun _ _ _ h => h, fun i c h => by rw [List.getElem?_append_left (List.getElem?_eq_some_iff.1 h).1]; exact h⟩
 obtain ⟨hE, hF⟩ := (hI.ext (w' := w.alloc ob) (MLe.refl _ _) (fun b o v h => by
  have := World.block_lt_of_cell? _ _ (hI.mem b o v h).1
  simp only at this
  rw [World.cell?_alloc_old _ _ _ (by simp; omega)]; exact hI.mem b o v h) (fun b hb => ⟨Below.heap_alloc _ _ _ (ownH_lt hI (by omega)), fun _ => rfl⟩) (by simp))
 have hC : ∀ b, ownC cs vs.toList b = 0 := fun b => by
  have key : ∀ (cs : List PV) (us : List Value), (∀ (j : Nat) p, cs[j]? = some p → ∃ v, us[j]? = some v ∧ ∀ b, ownV p v b = 0) → ownC cs us b = 0 := by
   intro cs
   induction cs with
   | nil => grind [ownC]
   | cons p ps ih =>
    intro us h
    obtain ⟨v, hv, h0⟩ := h 0 p rfl
    cases us with
    | nil => simp at hv
    | cons u us =>
     simp at hv; subst hv
     rw [ownC, h0, ih us fun j q hq => by obtain ⟨v, hv, h0⟩ := h (j + 1) q (by grind); simp_all]
  grind
 have hat : cellsAt (w.alloc ob) w.heap.size = vs.toList := cellsAt_eq (hrow)
 have hfp : ∀ b, fp (B ++ [(w.heap.size, vs.size, T)]) { σ with h := σ.h ++ [some cs] } t (w.alloc ob) b = fp B σ t w b + if w.heap.size = b then 1 else 0 := fun b => by
  have := hF b
  simp only [fp] at this ⊢
  rw [ownH_append b hI.heap.1, hat]
  grind
 have hlast : ∀ (i : Nat) (cs' : List PV), (σ.h ++ [some cs])[i]? = some (some cs') → (i < σ.h.length ∧ σ.h[i]? = some (some cs')) ∨ (i = σ.h.length ∧ cs' = cs) := fun i cs' h => by
  grind
 refine ⟨⟨hI.size, hE.mem, hI.srt, fun k p hp => ?_, ⟨by simp [hI.heap.1], fun i cs' hi => ?_⟩, fun b => ?_, fun b hb => ?_⟩, hle, ⟨rfl, rfl, rfl, by simp, fun b hb _ => ⟨Below.heap_alloc _ _ _ hb, fun _ => rfl⟩⟩, fun b hb => by rw [hfp, if_neg (by omega)]; omega⟩
 ·obtain ⟨h1, h2, h3⟩ := hE.slots k p hp
  exact ⟨h1, h2.mono hle, h3⟩
 ·rcases hlast i cs' hi with ⟨hlt, hi'⟩ | ⟨rfl, rfl⟩
  ·obtain ⟨c, hc, vs', ty', h1, h2, h3, h4, h5⟩ := hE.heap.2 i cs' hi'
   exact ⟨c, hle.blk _ _ hc, vs', ty', h1, h2, h3, fun j p hj => by obtain ⟨v, a1, a2, a3, a4⟩ := h4 j p hj; exact ⟨v, a1, a2.mono hle, a3, a4⟩, h5⟩
  ·refine ⟨(w.heap.size, vs.size, T), by rw [hI.heap.1]; simp, vs, T, hrow, ⟨rfl, rfl⟩, hl, fun j p hj => ?_, fun o => ?_⟩
   ·obtain ⟨v, a1, a2, a3, a4, a5⟩ := hr j p hj
    refine ⟨v, a1, a2, ?_, a4⟩
    exact a3.kept fun b hb => by rw [a5] at hb; omega
   ·cases hm : M w.heap.size o with
    | none => rfl
    | some v => have := World.block_lt_of_cell? _ _ (hI.mem _ o v hm).1; simp at this
 ·rw [hfp]
  have := hI.cnt b
  split
  ·rename_i e; subst e; have := hI.new _ (Nat.le_refl _); omega
  ·omega
 ·rw [hfp]
  simp at hb
  have := hI.new b (by omega)
  rw [if_neg (by omega)]; omega
theorem Inv.newObj (hI : Inv n M B out σ t w) (vs : Array Value) (ty : TypeId) (cs : List PV) (hl : cs.length ≤ vs.size)
 (hr : ∀ (j : Nat) p, cs[j]? = some p → ∃ v, vs[j]? = some v ∧ Rep M B p v ∧ Tl M w p v ∧ v.oneCell' = true ∧ ∀ b, ownV p v b = 0) :
 Good n out M B σ t w M (B ++ [(w.heap.size, vs.size, ty + 1)]) { σ with h := σ.h ++ [some cs] } t (w.alloc (.cells vs ty)) :=
 hI.newObj2 vs ty cs hl fun j p hj => by
  obtain ⟨v, a1, a2, a3⟩ := hr j p hj
  exact ⟨v, a1, a2.mono ⟨fun _ _ _ h => h, fun i c h => by rw [List.getElem?_append_left (List.getElem?_eq_some_iff.1 h).1]; exact h⟩, a3⟩
theorem Inv.setCell (hI : Inv n M B out σ t w) {i j : Nat} {cs : List PV} {c : Nat × Nat × TypeId} (hi : σ.h[i]? = some (some cs)) (hc : B[i]? = some c) (hm : c.2.2 ≠ 0) (hj : j < cs.length) {p : PV} {v : Value}
 (hr : Rep M B p v) (hT : Tl M w p v) (h1 : v.oneCell' = true) (hcnt : ∀ b, fp B σ t w b + ownV p v b + out b ≤ 1) (hnew : ∀ b, w.heap.size ≤ b → ownV p v b = 0) :
 Inv n M B out { σ with h := σ.h.set i (some (cs.set j p)) } t (w.setCell ⟨c.1, j, none⟩ v) ∧ (∀ b, fp B { σ with h := σ.h.set i (some (cs.set j p)) } t (w.setCell ⟨c.1, j, none⟩ v) b ≤ fp B σ t w b + ownV p v b) ∧
 Fr (fp B σ t w) M w M (w.setCell ⟨c.1, j, none⟩ v) ∧ w.frozen? ⟨c.1, j, none⟩ = false ∧ (w.cell? ⟨c.1, j, none⟩).isSome = true := by
 obtain ⟨vs, ty, r1, o2, o3, o4, o5⟩ := hI.heap.at hi hc
 obtain ⟨ty, rfl, o1⟩ := rowAt_inv r1 (by rw [o2.2]; exact hm)
 have hset : w.setCell ⟨c.1, j, none⟩ v = w.setRow c.1 (vs.setIfInBounds j v) := setCell_eq_setRow w c.1 j vs ty (0, 0) v o1
 have hblk : 1 ≤ fp B σ t w c.1 := by
  have := ownH_get (w := w) c.1 hi hc
  grind [fp]
 have hoth : ∀ b, b ≠ c.1 → (w.setCell ⟨c.1, j, none⟩ v).heap[b]? = w.heap[b]? := fun b hb => Below.heap_setCell _ _ _ _ hb
 have hself : (w.setCell ⟨c.1, j, none⟩ v).heap[c.1]? = some (.cells (vs.setIfInBounds j v) ty (0, 0)) := by rw [hset]; grind [setRow_heap]
 have hvj : j < vs.size := by omega
 have hne : ∀ (i' : Nat) cs' c', i' ≠ i → σ.h[i']? = some (some cs') → B[i']? = some c' → c'.1 ≠ c.1 := by
  have key : ∀ (h : Objs) (B : Blk) (i i' : Nat) cs cs' c c', i' < i → h[i]? = some (some cs) → B[i]? = some c → h[i']? = some (some cs') → B[i']? = some c' → c.1 = c'.1 → 2 ≤ ownH w h B c.1 := by
   intro h
   induction h with
   | nil => simp
   | cons x h ih =>
    intro B i i' cs cs' c c' hlt h1 h2 h3 h4 he
    cases B with
    | nil => simp at h2
    | cons d B =>
     cases i with
     | zero => omega
     | succ i =>
      simp at h1 h2
      cases i' with
      | zero =>
       simp at h3 h4; subst h3; subst h4
       have := ownH_get (w := w) c.1 h1 h2
       grind [ownH]
      | succ i' =>
       simp at h3 h4
       have := ih B i i' cs cs' c c' (by omega) h1 h2 h3 h4 he
       cases x <;> rw [ownH] <;> omega
  grind [fp]
 have hcell : ∀ (i' : Nat) cs' c', σ.h[i']? = some (some cs') → B[i']? = some c' → i' ≠ i → cellsAt (w.setCell ⟨c.1, j, none⟩ v) c'.1 = cellsAt w c'.1 := fun i' cs' c' h1 h2 hii => cellsAt_congr (hoth _ (hne i' cs' c' hii h1 h2))
 have hfp : ∀ b, fp B { σ with h := σ.h.set i (some (cs.set j p)) } t (w.setCell ⟨c.1, j, none⟩ v) b ≤ fp B σ t w b + ownV p v b := fun b => by
  have key : ∀ (cs : List PV) (us : List Value) (j : Nat), ownC (cs.set j p) (us.set j v) b ≤ ownC cs us b + ownV p v b := by
   intro cs
   induction cs with
   | nil => grind [ownC]
   | cons q qs ih =>
    intro us j
    cases us with
    | nil => simp [ownC]
    | cons u us =>
     cases j with
     | zero => grind [ownC]
     | succ j => have := ih us j; grind [ownC]
  have key2 : ∀ (h : Objs) (B : Blk) (i : Nat), h[i]? = some (some cs) → B[i]? = some c → (∀ (i' : Nat) cs' c', h[i']? = some (some cs') → B[i']? = some c' → i' ≠ i → cellsAt (w.setCell ⟨c.1, j, none⟩ v) c'.1 = cellsAt w c'.1) →
   ownH (w.setCell ⟨c.1, j, none⟩ v) (h.set i (some (cs.set j p))) B b ≤ ownH w h B b + ownV p v b := by
   intro h
   induction h with
   | nil => simp
   | cons x h ih =>
    intro B i h1 h2 h3
    cases B with
    | nil => simp at h2
    | cons d B =>
     cases i with
     | zero =>
      simp at h1 h2; subst h1; subst h2
      have e1 := ownH_congr (w' := w.setCell ⟨d.1, j, none⟩ v) (w := w) (h := h) (B := B) b (fun i' cs' c' a1 a2 => h3 (i' + 1) cs' c' (by grind) (by grind) (by omega))
      simp only [List.set_cons_zero, ownH]
      rw [e1, cellsAt_eq (rowAt_of hself), cellsAt_eq r1, Array.toList_setIfInBounds]
      have := key cs vs.toList j
      omega
     | succ i =>
      simp at h1 h2
      have := ih B i h1 h2 (fun i' cs' c' a1 a2 a3 => h3 (i' + 1) cs' c' (by grind) (by grind) (by omega))
      cases x with
      | none => grind [ownH]
      | some ds =>
       have e := h3 0 ds d rfl rfl (by omega)
       grind [ownH]
  have := key2 σ.h B i hi hc hcell
  simp only [fp]; omega
 have hpb : ∀ b, ownV p v b = 1 → b ≠ c.1 := fun b hb e => by grind
 refine ⟨⟨hI.size, fun b o u h => ?_, hI.srt, fun k q hq => ?_, ⟨by simp [hI.heap.1], fun i' cs' hi' => ?_⟩, fun b => by have := hfp b; have := hcnt b; omega, fun b hb => ?_⟩, hfp, ⟨rfl, rfl, rfl, by simp_all, fun b hb h0 => ⟨hoth b fun e => by grind, fun _ => rfl⟩⟩, by simp [World.frozen?, o1], by simp [World.cell?, o1, hvj]⟩
 ·have hm := hI.mem b o u h
  have hbc : b ≠ c.1 := fun e => by simp_all
  grind [World.cell?_of_block]
 ·obtain ⟨s1, s2, s3⟩ := hI.slots k q hq
  refine ⟨s1, s2, s3.kept fun b hb => ⟨hoth b fun e => ?_, fun _ => rfl⟩⟩
  subst e
  have e1 := ownK_le (s := σ.s) (t := t) (k := k) (b := c.1)
  simp only [ownK, hq] at e1
  have e2 := hI.cnt c.1
  have e3 := ownH_get (w := w) c.1 hi hc
  grind [fp]
 ·by_cases hii : i' = i
  ·subst hii
   rw [List.getElem?_set_self (List.getElem?_eq_some_iff.1 hi).1] at hi'
   injection hi' with hi'; injection hi' with hi'; subst hi'
   refine ⟨c, hc, vs.setIfInBounds j v, ty + 1, rowAt_of hself, by grind, by grind, fun j' q hq => ?_, o5⟩
   by_cases hjj : j = j'
   ·subst hjj
    rw [List.getElem?_set_self hj] at hq; injection hq with hq; subst hq
    exact ⟨v, by simp [hvj], hr, hT.kept fun b hb => ⟨hoth b (hpb b hb), fun _ => rfl⟩, h1⟩
   ·rw [List.getElem?_set_ne hjj] at hq
    obtain ⟨u, a1, a2, a3, a4⟩ := o4 j' q hq
    refine ⟨u, by rw [Array.getElem?_setIfInBounds_ne hjj]; exact a1, a2, a3.kept fun b hb => ⟨hoth b fun e => ?_, fun _ => rfl⟩, a4⟩
    subst e
    have e2 := hI.cnt c.1
    have e3 := ownH_get (w := w) c.1 hi hc
    have e4 := ownC_get c.1 hq (by rw [cellsAt_eq r1]; grind : (cellsAt w c.1)[j']? = some u)
    grind [fp]
  ·rw [List.getElem?_set_ne (Ne.symm hii)] at hi'
   obtain ⟨c', hc', vs', ty', a1, a2, a3, a4, a5⟩ := hI.heap.2 i' cs' hi'
   have hcc := hne i' cs' c' hii hi' hc'
   refine ⟨c', hc', vs', ty', by rw [rowAt_congr (hoth _ hcc)]; exact a1, a2, a3, fun j' q hq => ?_, a5⟩
   obtain ⟨u, b1, b2, b3, b4⟩ := a4 j' q hq
   refine ⟨u, b1, b2, b3.kept fun b hb => ⟨hoth b fun e => ?_, fun _ => rfl⟩, b4⟩
   subst e
   have key : ∀ (h : Objs) (B : Blk) (i i' : Nat), i ≠ i' → h[i]? = some (some cs) → B[i]? = some c → h[i']? = some (some cs') → B[i']? = some c' → 2 ≤ ownH w h B c.1 := by
    intro h
    induction h with
    | nil => simp
    | cons x h ih =>
     intro B i i' hlt h1 h2 h3 h4
     have e4 := ownC_get c.1 hq (by rw [cellsAt_eq a1]; grind : (cellsAt w c'.1)[j']? = some u)
     cases B with
     | nil => simp at h2
     | cons d B =>
      cases i with
      | zero =>
       cases i' with
       | zero => omega
       | succ i' =>
        simp at h1 h2 h3 h4; subst h1; subst h2
        have := ownH_get (w := w) d.1 h3 h4
        rw [ownH, if_pos rfl]; omega
      | succ i =>
       simp at h1 h2
       cases i' with
       | zero =>
        simp at h3 h4; subst h3; subst h4
        have := ownH_get (w := w) c.1 h1 h2
        grind [ownH]
       | succ i' =>
        simp at h3 h4
        have := ih B i i' (by omega) h1 h2 h3 h4
        cases x <;> rw [ownH] <;> omega
   have e2 := hI.cnt c.1
   have := key σ.h B i i' (Ne.symm hii) hi hc hi' hc'
   grind [fp]
 ·have := hfp b
  simp [World.setCell] at hb
  have e1 := hI.new b hb
  have e2 := hnew b hb
  omega
theorem Inv.setRow (hI : Inv n M B out σ t w) {i j : Nat} {cs : List PV} {c : Nat × Nat × TypeId} (hi : σ.h[i]? = some (some cs)) (hc : B[i]? = some c) {vs : Array Value} {T : Nat} (r1 : rowAt w c.1 = some (vs, T)) (hj : j < cs.length) {p : PV} {v : Value}
 (hr : Rep M B p v) (hT : Tl M w p v) (h1 : v.oneCell' = true) (hcnt : ∀ b, fp B σ t w b + ownV p v b + out b ≤ 1) (hnew : ∀ b, w.heap.size ≤ b → ownV p v b = 0)
 {w' : World} (hoth : ∀ b, b ≠ c.1 → w'.heap[b]? = w.heap[b]?) (hself : rowAt w' c.1 = some (vs.setIfInBounds j v, T)) (hos : w'.os = w.os) (htp : w'.tape = w.tape) (hou : w'.output = w.output) (hsz : w'.heap.size = w.heap.size) :
 Inv n M B out { σ with h := σ.h.set i (some (cs.set j p)) } t w' ∧ (∀ b, fp B { σ with h := σ.h.set i (some (cs.set j p)) } t w' b ≤ fp B σ t w b + ownV p v b) ∧
 Fr (fp B σ t w) M w M w' := by
 obtain ⟨vs', ty, r1', o2, o3, o4, o5⟩ := hI.heap.at hi hc
 rw [r1] at r1'
 injection r1' with r1'; injection r1' with e1 e2; subst e1; subst e2
 have hblk : 1 ≤ fp B σ t w c.1 := by
  have := ownH_get (w := w) c.1 hi hc
  grind [fp]
 have hvj : j < vs.size := by omega
 have hne : ∀ (i' : Nat) cs' c', i' ≠ i → σ.h[i']? = some (some cs') → B[i']? = some c' → c'.1 ≠ c.1 := by
  have key : ∀ (h : Objs) (B : Blk) (i i' : Nat) cs cs' c c', i' < i → h[i]? = some (some cs) → B[i]? = some c → h[i']? = some (some cs') → B[i']? = some c' → c.1 = c'.1 → 2 ≤ ownH w h B c.1 := by
   intro h
   induction h with
   | nil => simp
   | cons x h ih =>
    intro B i i' cs cs' c c' hlt h1 h2 h3 h4 he
    cases B with
    | nil => simp at h2
    | cons d B =>
     cases i with
     | zero => omega
     | succ i =>
      simp at h1 h2
      cases i' with
      | zero =>
       simp at h3 h4; subst h3; subst h4
       have := ownH_get (w := w) c.1 h1 h2
       grind [ownH]
      | succ i' =>
       simp at h3 h4
       have := ih B i i' cs cs' c c' (by omega) h1 h2 h3 h4 he
       cases x <;> rw [ownH] <;> omega
  grind [fp]
 have hcell : ∀ (i' : Nat) cs' c', σ.h[i']? = some (some cs') → B[i']? = some c' → i' ≠ i → cellsAt w' c'.1 = cellsAt w c'.1 := fun i' cs' c' h1 h2 hii => cellsAt_congr (hoth _ (hne i' cs' c' hii h1 h2))
 have hfp : ∀ b, fp B { σ with h := σ.h.set i (some (cs.set j p)) } t w' b ≤ fp B σ t w b + ownV p v b := fun b => by
  have key : ∀ (cs : List PV) (us : List Value) (j : Nat), ownC (cs.set j p) (us.set j v) b ≤ ownC cs us b + ownV p v b := by
   intro cs
   induction cs with
   | nil => grind [ownC]
   | cons q qs ih =>
    intro us j
    cases us with
    | nil => simp [ownC]
    | cons u us =>
     cases j with
     | zero => grind [ownC]
     | succ j => have := ih us j; grind [ownC]
  have key2 : ∀ (h : Objs) (B : Blk) (i : Nat), h[i]? = some (some cs) → B[i]? = some c → (∀ (i' : Nat) cs' c', h[i']? = some (some cs') → B[i']? = some c' → i' ≠ i → cellsAt w' c'.1 = cellsAt w c'.1) →
   ownH w' (h.set i (some (cs.set j p))) B b ≤ ownH w h B b + ownV p v b := by
   intro h
   induction h with
   | nil => simp
   | cons x h ih =>
    intro B i h1 h2 h3
    cases B with
    | nil => simp at h2
    | cons d B =>
     cases i with
     | zero =>
      simp at h1 h2; subst h1; subst h2
      have e1 := ownH_congr (w' := w') (w := w) (h := h) (B := B) b (fun i' cs' c' a1 a2 => h3 (i' + 1) cs' c' (by grind) (by grind) (by omega))
      grind [ownH, cellsAt_eq, Array.toList_setIfInBounds]
     | succ i =>
      simp at h1 h2
      have := ih B i h1 h2 (fun i' cs' c' a1 a2 a3 => h3 (i' + 1) cs' c' (by grind) (by grind) (by omega))
      cases x with
      | none => grind [ownH]
      | some ds =>
       have e := h3 0 ds d rfl rfl (by omega)
       grind [ownH]
  have := key2 σ.h B i hi hc hcell
  simp only [fp]; omega
 have hpb : ∀ b, ownV p v b = 1 → b ≠ c.1 := fun b hb e => by grind
 refine ⟨⟨hI.size, fun b o u h => ?_, hI.srt, fun k q hq => ?_, ⟨by simp [hI.heap.1], fun i' cs' hi' => ?_⟩, fun b => by have := hfp b; have := hcnt b; omega, fun b hb => ?_⟩, hfp, ⟨hos, htp, hou, Nat.le_of_eq hsz.symm, fun b hb h0 => ⟨hoth b fun e => by grind, fun _ => rfl⟩⟩⟩
 ·have hm := hI.mem b o u h
  have hbc : b ≠ c.1 := fun e => by simp_all
  grind [World.cell?_of_block]
 ·obtain ⟨s1, s2, s3⟩ := hI.slots k q hq
  refine ⟨s1, s2, s3.kept fun b hb => ⟨hoth b fun e => ?_, fun _ => rfl⟩⟩
  subst e
  have e1 := ownK_le (s := σ.s) (t := t) (k := k) (b := c.1)
  simp only [ownK, hq] at e1
  have e2 := hI.cnt c.1
  have e3 := ownH_get (w := w) c.1 hi hc
  grind [fp]
 ·by_cases hii : i' = i
  ·subst hii
   rw [List.getElem?_set_self (List.getElem?_eq_some_iff.1 hi).1] at hi'
   injection hi' with hi'; injection hi' with hi'; subst hi'
   refine ⟨c, hc, vs.setIfInBounds j v, T, hself, by grind, by grind, fun j' q hq => ?_, o5⟩
   by_cases hjj : j = j'
   ·subst hjj
    rw [List.getElem?_set_self hj] at hq; injection hq with hq; subst hq
    exact ⟨v, by simp [hvj], hr, hT.kept fun b hb => ⟨hoth b (hpb b hb), fun _ => rfl⟩, h1⟩
   ·rw [List.getElem?_set_ne hjj] at hq
    obtain ⟨u, a1, a2, a3, a4⟩ := o4 j' q hq
    refine ⟨u, by rw [Array.getElem?_setIfInBounds_ne hjj]; exact a1, a2, a3.kept fun b hb => ⟨hoth b fun e => ?_, fun _ => rfl⟩, a4⟩
    subst e
    have e2 := hI.cnt c.1
    have e3 := ownH_get (w := w) c.1 hi hc
    have e4 := ownC_get c.1 hq (by rw [cellsAt_eq r1]; grind : (cellsAt w c.1)[j']? = some u)
    grind [fp]
  ·rw [List.getElem?_set_ne (Ne.symm hii)] at hi'
   obtain ⟨c', hc', vs', ty', a1, a2, a3, a4, a5⟩ := hI.heap.2 i' cs' hi'
   have hcc := hne i' cs' c' hii hi' hc'
   refine ⟨c', hc', vs', ty', by rw [rowAt_congr (hoth _ hcc)]; exact a1, a2, a3, fun j' q hq => ?_, a5⟩
   obtain ⟨u, b1, b2, b3, b4⟩ := a4 j' q hq
   refine ⟨u, b1, b2, b3.kept fun b hb => ⟨hoth b fun e => ?_, fun _ => rfl⟩, b4⟩
   subst e
   have key : ∀ (h : Objs) (B : Blk) (i i' : Nat), i ≠ i' → h[i]? = some (some cs) → B[i]? = some c → h[i']? = some (some cs') → B[i']? = some c' → 2 ≤ ownH w h B c.1 := by
    intro h
    induction h with
    | nil => simp
    | cons x h ih =>
     intro B i i' hlt h1 h2 h3 h4
     have e4 := ownC_get c.1 hq (by rw [cellsAt_eq a1]; grind : (cellsAt w c'.1)[j']? = some u)
     cases B with
     | nil => simp at h2
     | cons d B =>
      cases i with
      | zero =>
       cases i' with
       | zero => omega
       | succ i' =>
        simp at h1 h2 h3 h4; subst h1; subst h2
        have := ownH_get (w := w) d.1 h3 h4
        rw [ownH, if_pos rfl]; omega
      | succ i =>
       simp at h1 h2
       cases i' with
       | zero =>
        simp at h3 h4; subst h3; subst h4
        have := ownH_get (w := w) c.1 h1 h2
        grind [ownH]
       | succ i' =>
        simp at h3 h4
        have := ih B i i' (by omega) h1 h2 h3 h4
        cases x <;> rw [ownH] <;> omega
   have e2 := hI.cnt c.1
   have := key σ.h B i i' (Ne.symm hii) hi hc hi' hc'
   grind [fp]
 ·have := hfp b
  rw [hsz] at hb
  have e1 := hI.new b hb
  have e2 := hnew b hb
  omega
end
end Go.Proofs.YtkkgfoknknehfaaDoor
namespace Go.Proofs.YtkkgfoknknehfaaDoor
set_option linter.unusedVariables false
set_option linter.unusedSimpArgs false
set_option linter.unnecessarySimpa false
set_option linter.unusedSectionVars false
open Go.RowKit
structure TI where
 size : Nat
 bytes : Nat
 agg : Bool
 zero : List PV
def zeroPV : Value → PV
 | .int k n => .int k n
 | .bool b => .bool b
 | .string s => .str s
 | .pointer none => .nilp
 | .slice none n c => if n = 0 ∧ c = 0 then .sl true 0 [] else .raw (.slice none n c)
 | .func fn f c => if f.isEmpty ∧ c.isEmpty then .func fn [] [] else .raw (.func fn f c)
 | v => .raw v
def nilP (z : Nat) (o : Bool) (es : List PV) : PV := match Nat.blt 1000000 z with
 | true => .slp o 0 (z - 1000000) []
 | false => .sl o z es
def PV.resz (z : Nat) : PV → PV
 | .sl o s es => if s = 0 then nilP z o es else .sl o s es
 | p => p
theorem nilP_rep {M : Mem} {B : Blk} {z : Nat} {o o' : Bool} {es : List PV} {v : Value} (h : Rep M B (.sl o' 0 es) v) : Rep M B (nilP z o es) v := by
 obtain ⟨A, c, rfl, h1, h2, h3, h4⟩ := rep_sl.1 h
 obtain ⟨h5, h6, h7⟩ := h3 rfl; subst h5
 unfold nilP
 split
 ·exact rep_slp.2 ⟨A, c, rfl, Nat.zero_le _⟩
 ·exact rep_sl.2 ⟨A, c, rfl, h1, by simp, fun _ => ⟨rfl, h6, h7⟩, by simp⟩
theorem nilP_own {z : Nat} {o : Bool} {es : List PV} : (nilP z o es).own = o := by unfold nilP; split <;> rfl
theorem nilP_tl {M : Mem} {w : World} {z : Nat} {o : Bool} {es : List PV} : Tl M w (nilP z o es) (.slice none es.length 0) := by
 unfold nilP
 split
 ·refine ⟨(fun _ _ _ _ _ e _ => by cases e), (fun _ _ _ _ e _ => by cases e), fun n sz cs A m cap e ev => ?_⟩
  grind [Nat.blt_eq]
 ·refine tl_mk (fun l h => by cases h) ?_
  intro sz es' A n cap e ev
  grind
def cellSz (P : Program) : Nat → TypeId → List Nat
 | 0, _ => []
 | k + 1, t => match P.underlying t with
  | some (.slice e) => [match P.info? e with | some i => i.size | none => 0]
  | some (.struct fs) => fs.toList.flatMap fun f => cellSz P k f.type
  | some (.array n e) => (List.replicate n (cellSz P k e)).flatten
  | _ => [0]
def ofConst (v : Value) : Option PV := if v.oneCell' then some (zeroPV v) else none
def isAggD : TypeDesc → Bool
 | .struct _ => true
 | .array _ _ => true
 | _ => false
def ti (P : Program) (t : TypeId) : Option TI :=
 match P.info? t with
 | none => none
 | some i => match i.zero, P.underlying t with
  | some z, some d => if z.cells.toList.all (·.oneCell') && z.cells.size == i.size then some ⟨i.size, i.bytes, isAggD d, z.cells.toList.map zeroPV⟩ else none
  | _, _ => none
def fieldsOf (P : Program) (t : TypeId) : Option (List (Nat × Nat × Bool)) :=
 match P.underlying t with
 | some (.struct fs) => fs.toList.mapM fun f => (ti P f.type).map fun i => (f.offset, i.size, i.agg)
 | _ => none
def elemOf' (P : Program) (t : TypeId) : Option TypeId := match P.underlying t with | some (.slice e) => some e | _ => none
def elemTI (P : Program) (t : TypeId) : Option TI := (elemOf' P t).bind (ti P)
def arrTI (P : Program) (t : TypeId) : Option (Nat × TI) := match P.underlying t with | some (.array n e) => (ti P e).map fun i => (n, i) | _ => none
theorem rep_zero {M : Mem} {B : Blk} {v : Value} (h : v.oneCell' = true) : Rep M B (zeroPV v) v := by
 cases v with
 | int k n => rfl
 | bool b => rfl
 | string s => rfl
 | pointer a => cases a with
  | none => rfl
  | some a => exact rep_raw.2 ⟨rfl, h⟩
 | slice a n c => cases a with
  | none =>
   simp only [zeroPV]
   split
   ·rename_i e; obtain ⟨rfl, rfl⟩ := e
    exact rep_sl.2 ⟨none, 0, rfl, Nat.le_refl _, by simp, fun _ => ⟨rfl, rfl, rfl⟩, by simp⟩
   ·exact rep_raw.2 ⟨rfl, h⟩
  | some a => exact rep_raw.2 ⟨rfl, h⟩
 | func fn f c =>
  simp only [zeroPV]
  split
  ·have h1' : f = #[] := by grind
   have h2' : c = #[] := by grind
   subst h1'; subst h2'
   exact rep_func.2 ⟨#[], #[], rfl, reps_nil.2 rfl, reps_nil.2 rfl⟩
  ·exact rep_raw.2 ⟨rfl, h⟩
 | _ => exact rep_raw.2 ⟨rfl, h⟩
theorem zero_own (v : Value) : (zeroPV v).own = true → v = .slice none 0 0 := by
 intro h
 cases v with
 | slice a n c => cases a with
  | none =>
   grind [zeroPV, PV.own]
  | some a => simp [zeroPV, PV.own] at h
 | pointer a => cases a <;> simp [zeroPV, PV.own] at h
 | func fn f c =>
  grind [zeroPV, PV.own]
 | _ => simp [zeroPV, PV.own] at h
theorem ownV_zero (v : Value) (b : Nat) : ownV (zeroPV v) v b = 0 := by
 unfold ownV
 grind [zero_own]
theorem zero_slT (v : Value) (l : List UInt8) : zeroPV v ≠ .slT l := by
 unfold zeroPV; split <;> first | (cases h) | grind
theorem zero_slp (v : Value) (n z : Nat) (cs : List PV) : zeroPV v ≠ .slp true n z cs := by
 unfold zeroPV; split <;> first | (cases h) | grind
theorem tl_zero {M : Mem} {w : World} (v : Value) : Tl M w (zeroPV v) v := by
 refine tl_mk (zero_slT v) ?_ (zero_slp v)
 intro sz es A n cap e ev
 have := zero_own v (by rw [e]; rfl)
 rw [ev] at this
 simp_all
theorem rep_resz {M : Mem} {B : Blk} {p : PV} {v : Value} (z : Nat) (h : Rep M B p v) : Rep M B (p.resz z) v := by
 cases p with
 | sl o s es =>
  rw [PV.resz]
  grind [nilP_rep]
 | _ => exact h
theorem resz_own (z : Nat) (p : PV) : (p.resz z).own = p.own := by
 cases p with
 | sl o s es =>
  rw [PV.resz]
  split
  ·exact nilP_own
  ·rfl
 | _ => rfl
theorem nil_of {M : Mem} {B : Blk} {o : Bool} {es : List PV} {v : Value} (h : Rep M B (.sl o 0 es) v) : v = .slice none 0 0 ∧ es = [] := by
 obtain ⟨A, c, rfl, h1, h2, h3, h4⟩ := rep_sl.1 h
 simp_all
theorem tl_resz {M : Mem} {B : Blk} {w : World} {p : PV} {v : Value} (z : Nat) (hr : Rep M B p v) (h : Tl M w p v) : Tl M w (p.resz z) v := by
 cases p with
 | sl o s es =>
  rw [PV.resz]
  split
  ·rename_i e; subst e
   obtain ⟨rfl, rfl⟩ := nil_of hr
   exact nilP_tl
  ·exact h
 | _ => exact h
def reszC : List Nat → List PV → List PV
 | z :: zs, p :: ps => p.resz z :: reszC zs ps
 | _, ps => ps
def PV.reszT (zs : List Nat) : PV → PV
 | .agg cs => .agg (reszC zs cs)
 | p => p.resz (zs.headD 0)
theorem reszC_rep {M : Mem} {B : Blk} : ∀ {zs : List Nat} {ps : List PV} {vs : List Value}, Reps M B ps vs → Reps M B (reszC zs ps) vs
 | [], ps, vs, h => by cases ps <;> exact h
 | z :: zs, [], vs, h => h
 | z :: zs, p :: ps, vs, h => by
  obtain ⟨u, us, rfl, h1, h2⟩ := reps_cons.1 h
  exact reps_cons.2 ⟨u, us, rfl, rep_resz z h1, reszC_rep h2⟩
theorem rep_reszT {M : Mem} {B : Blk} {p : PV} {v : Value} (zs : List Nat) (h : Rep M B p v) : Rep M B (p.reszT zs) v := by
 cases p with
 | agg cs => obtain ⟨vs, rfl, hr⟩ := rep_agg.1 h; exact rep_agg.2 ⟨vs, rfl, reszC_rep hr⟩
 | _ => exact rep_resz (zs.headD 0) h
theorem reszT_own (zs : List Nat) (p : PV) : (p.reszT zs).own = p.own := by
 cases p with
 | agg cs => rfl
 | sl o s es => exact resz_own (zs.headD 0) (.sl o s es)
 | _ => rfl
theorem ownV_reszT (zs : List Nat) (p : PV) (v : Value) (b : Nat) : ownV (p.reszT zs) v b = ownV p v b := by unfold ownV; rw [reszT_own]
theorem tl_reszT {M : Mem} {B : Blk} {w : World} {p : PV} {v : Value} (zs : List Nat) (hr : Rep M B p v) (h : Tl M w p v) : Tl M w (p.reszT zs) v := by
 cases p with
 | agg cs => exact tl_no rfl
 | _ => exact tl_resz (zs.headD 0) hr h
def PV.own1 (z : Nat) : PV → PV
 | .sl o s es => if s = 0 then nilP z true es else .sl o s es
 | p => p
def own0 : List Nat → List PV → List PV
 | z :: zs, p :: ps => p.own1 z :: own0 zs ps
 | _, ps => ps
theorem rep_own1 {M : Mem} {B : Blk} {p : PV} {v : Value} (z : Nat) (h : Rep M B p v) : Rep M B (p.own1 z) v := by
 cases p with
 | sl o s es =>
  rw [PV.own1]
  grind [nilP_rep]
 | _ => exact h
theorem tl_own1 {M : Mem} {B : Blk} {w : World} {p : PV} {v : Value} (z : Nat) (hr : Rep M B p v) (h : Tl M w p v) : Tl M w (p.own1 z) v := by
 cases p with
 | sl o s es =>
  rw [PV.own1]
  split
  ·rename_i e; subst e
   obtain ⟨rfl, rfl⟩ := nil_of hr
   exact nilP_tl
  ·exact h
 | _ => exact h
theorem ownV_own1 {M : Mem} {B : Blk} {p : PV} {v : Value} (z : Nat) (hr : Rep M B p v) (b : Nat) : ownV (p.own1 z) v b = ownV p v b := by
 cases p with
 | sl o s es =>
  rw [PV.own1]
  grind [nil_of, ownV]
 | _ => rfl
theorem ofConst_rep {M : Mem} {B : Blk} {v : Value} {p : PV} (h : ofConst v = some p) : Rep M B p v ∧ (∀ b, ownV p v b = 0) ∧ ∀ w, Tl M w p v := by
 grind [ofConst, rep_zero, ownV_zero, tl_zero]
structure TIs (P : Program) (t : TypeId) (I : TI) (i : TypeInfo) (z : Value) (d : TypeDesc) : Prop where
 info : P.info? t = some i
 zero : i.zero = some z
 und : P.underlying t = some d
 one : ∀ v, v ∈ z.cells → v.oneCell' = true
 zsize : z.cells.size = i.size
 size : I.size = i.size
 bytes : I.bytes = i.bytes
 agg : I.agg = isAggD d
 izero : I.zero = z.cells.toList.map zeroPV
theorem ti_spec {P : Program} {t : TypeId} {I : TI} (h : ti P t = some I) : ∃ i z d, TIs P t I i z d := by
 unfold ti at h
 split at h
 ·cases h
 ·rename_i i hi
  split at h
  ·rename_i z d hz hd
   split at h
   ·rename_i hc
    cases h
    simp only [Bool.and_eq_true, List.all_eq_true, beq_iff_eq] at hc
    exact ⟨i, z, d, hi, hz, hd, fun v hv => hc.1 v (by grind), hc.2, rfl, rfl, rfl, rfl⟩
   ·cases h
  ·cases h
section
variable {P : Program} {t : TypeId} {I : TI} {i : TypeInfo} {z : Value} {d : TypeDesc}
theorem TIs.run_sizeOf (h : TIs P t I i z d) (w : World) : (sizeOf t).run P w = .ok I.size w := by simp [sizeOf, typeInfo, h.info, h.size]
theorem TIs.run_isAgg (h : TIs P t I i z d) (w : World) : (isAgg t).run P w = .ok I.agg w := by
 unfold isAgg
 rw [Sem.run_bind, run_underlying h.und w, h.agg]
 cases d <;> rfl
theorem TIs.run_zeroValue (h : TIs P t I i z d) (w : World) : (zeroValue t).run P w = .ok z w := by simp [zeroValue, typeInfo, h.info, h.zero]
end
theorem mapM_get {α β : Type} (f : α → Option β) : ∀ {l : List α} {r : List β}, l.mapM f = some r → ∀ {j : Nat} {y : β}, r[j]? = some y → ∃ x, l[j]? = some x ∧ f x = some y
 | [], r, h, j, y, hy => by simp_all
 | a :: l, r, h, j, y, hy => by
  cases hf : f a with
  | none => grind
  | some b =>
   cases hm : l.mapM f with
   | none => simp_all
   | some bs =>
    simp [hf, hm] at h
    subst h
    cases j with
    | zero => simp_all
    | succ j => obtain ⟨x, h1, h2⟩ := mapM_get f hm (by simpa using hy); simp_all
theorem fields_spec {P : Program} {t : TypeId} {fs : List (Nat × Nat × Bool)} (h : fieldsOf P t = some fs) {j : Nat} {o z : Nat} {g : Bool} (hj : fs[j]? = some (o, z, g)) :
 ∃ Fs f I i zv d, P.underlying t = some (.struct Fs) ∧ Fs[j]? = some f ∧ f.offset = o ∧ TIs P f.type I i zv d ∧ I.size = z ∧ I.agg = g := by
 unfold fieldsOf at h
 split at h
 ·obtain ⟨f, hf, hm⟩ := mapM_get _ h hj
  grind [ti, ti_spec]
 ·cases h
theorem elem_spec {P : Program} {t : TypeId} {I : TI} (h : elemTI P t = some I) : ∃ e i z d, P.underlying t = some (.slice e) ∧ TIs P e I i z d := by
 grind [elemTI, elemOf', ti_spec]
theorem arr_spec {P : Program} {t : TypeId} {n : Nat} {I : TI} (h : arrTI P t = some (n, I)) : ∃ e i z d, P.underlying t = some (.array n e) ∧ TIs P e I i z d := by
 unfold arrTI at h
 split at h
 grind [ti, ti_spec]
 ·cases h
def PV.one : PV → Bool
 | .agg _ => false
 | .tuple _ => false
 | _ => true
def subVal (cs : List PV) (o z : Nat) (g : Bool) : Option PV :=
 if g then (if o + z ≤ cs.length then some (.agg ((cs.drop o).take z)) else none) else (cs[o]?).bind fun p => if p.one then some p.un else none
def subAddr (q : PV) (o z : Nat) (g : Bool) : Option PV :=
 match q with
 | .ptr i off => some (.ptr i (off + o))
 | .cst (.agg cs) => (subVal cs o z g).map .cst
 | _ => none
def intBin (op : BinOp) (k : IntKind) (a b : Int) : Option PV :=
 match op with
 | .add => some (.int k (k.wrap (a + b)))
 | .sub => some (.int k (k.wrap (a - b)))
 | .mul => some (.int k (k.wrap (a * b)))
 | .quo => if b = 0 then none else some (.int k (k.wrap (a.tdiv b)))
 | .rem => if b = 0 then none else some (.int k (a.tmod b))
 | .and => some (.int k (k.wrap (BitVec.ofInt k.bits a &&& BitVec.ofInt k.bits b).toNat))
 | .or => some (.int k (k.wrap (BitVec.ofInt k.bits a ||| BitVec.ofInt k.bits b).toNat))
 | .eql => some (.bool (a == b))
 | .neq => some (.bool (a != b))
 | .lss => some (.bool (decide (a < b)))
 | .leq => some (.bool (decide (a ≤ b)))
 | .gtr => some (.bool (decide (b < a)))
 | .geq => some (.bool (decide (b ≤ a)))
 | _ => none
def shiftBin (op : BinOp) (k : IntKind) (a b : Int) : Option PV :=
 if b < 0 then none else match op with
 | .shl => some (.int k (k.wrap (a * 2 ^ min b.toNat k.bits)))
 | .shr => some (.int k (a.fdiv (2 ^ min b.toNat k.bits)))
 | _ => none
def strBin (op : BinOp) (a b : ByteArray) : Option PV :=
 match op with
 | .add => if a.size + b.size ≤ LIM then some (.str (a ++ b)) else none
 | .eql => some (.bool (a.toList == b.toList))
 | .neq => some (.bool (!(a.toList == b.toList)))
 | _ => none
def boolBin (op : BinOp) (a b : Bool) : Option PV :=
 match op with
 | .eql => some (.bool (a == b))
 | .neq => some (.bool (!(a == b)))
 | _ => none
def nilBin (op : BinOp) (is : Bool) : Option PV :=
 match op with
 | .eql => some (.bool is)
 | .neq => some (.bool (!is))
 | _ => none
def isBoolT (P : Program) (t : TypeId) : Bool := P.underlying t matches some .bool
def isPtrT (P : Program) (t : TypeId) : Bool := P.underlying t matches some (.pointer _)
def isFuncT (P : Program) (t : TypeId) : Bool := P.underlying t matches some (.func _ _ _)
def isStrT (P : Program) (t : TypeId) : Bool := P.underlying t matches some .string
def intT (P : Program) (t : TypeId) : Option IntKind := match P.underlying t with | some (.int k) => some k | _ => none
def eqFs (P : Program) (E : TypeId → PV → PV → Option Bool) (cs ds : List PV) : List Field → Option Bool
 | [] => some true
 | f :: fs => if f.name = "_" then none else match ti P f.type with
  | some I => (match subVal cs f.offset I.size I.agg, subVal ds f.offset I.size I.agg with
   | some p, some q => (match E f.type p q, eqFs P E cs ds fs with
    | some b, some r => some (b && r)
    | _, _ => none)
   | _, _ => none)
  | none => none
def eqAs (E : PV → PV → Option Bool) (I : TI) (cs ds : List PV) : List Nat → Option Bool
 | [] => some true
 | i :: is => match subVal cs (i * I.size) I.size I.agg, subVal ds (i * I.size) I.size I.agg with
  | some p, some q => (match E p q, eqAs E I cs ds is with
   | some b, some r => some (b && r)
   | _, _ => none)
  | _, _ => none
def eqPV (P : Program) : Nat → TypeId → PV → PV → Option Bool
 | 0, _, _, _ => none
 | k + 1, t, x, y => match P.underlying t, x, y with
  | some (.int _), .int q a, .int q' b => if q = q' then some (a == b) else none
  | some .bool, .bool a, .bool b => some (a == b)
  | some .string, .str a, .str b => some (a.toList == b.toList)
  | some (.struct fs), .agg cs, .agg ds => if P.stoodInHeld t = true then none else eqFs P (eqPV P k) cs ds fs.toList
  | some (.array n e), .agg cs, .agg ds => (match ti P e with | some I => eqAs (eqPV P k e) I cs ds (List.range n) | none => none)
  | _, _, _ => none
def binPV (P : Program) (op : BinOp) (t : TypeId) (x y : PV) : Option PV :=
 match x, y with
 | .int k a, .int k' b =>
  (match op with
  | .shl | .shr => shiftBin op k a b
  | _ => if k = k' then intBin op k a b else none)
 | .str a, .str b => strBin op a b
 | .bool a, .bool b => if isBoolT P t then boolBin op a b else none
 | .ptr _ _, .nilp => if isPtrT P t then nilBin op false else none
 | .cst _, .nilp => if isPtrT P t then nilBin op false else none
 | .nilp, .nilp => if isPtrT P t then nilBin op true else none
 | .func _ _ _, .raw .nilFunc => if isFuncT P t then nilBin op false else none
 | .raw .nilFunc, .raw .nilFunc => if isFuncT P t then nilBin op true else none
 | .agg cs, .agg ds => if P.eqGuardType P.depth t = true then none else (eqPV P 12 t (.agg cs) (.agg ds)).bind (nilBin op)
 | _, _ => none
def unPV (op : UnOp) (x : PV) : Option PV :=
 match op, x with
 | .neg, .int k n => some (.int k (k.wrap (0 - n)))
 | .not, .bool b => some (.bool (!b))
 | _, _ => none
def extPV (x : PV) (i : Nat) : Option PV := match x with | .tuple ps => (ps[i]?).map PV.un | _ => none
def lenPV (P : Program) (t : TypeId) (x : PV) : Option PV :=
 match x with
 | .str s => if isStrT P t then some (.int .i64 s.size) else none
 | .sl _ _ es => (elemOf' P t).map fun _ => .int .i64 es.length
 | .slh _ _ n _ => (elemOf' P t).map fun _ => .int .i64 n
 | .slp _ n _ _ => (elemOf' P t).map fun _ => .int .i64 n
 | _ => none
def isByte : PV → Bool
 | .int k _ => k == .u8
 | _ => false
def byteInt : PV → Int
 | .int _ n => n
 | _ => 0
def bytesP (es : List PV) : Bool := es.all isByte
def strOf (es : List PV) : ByteArray := (es.map byteInt).foldl (fun r n => r.push (UInt8.ofNat n.toNat)) ByteArray.empty
def isBytesT (P : Program) (s : TypeId) : Bool := match P.underlying s with
 | some (.slice e) => (match P.underlying e with | some (.int k) => k == .u8 | _ => false)
 | _ => false
def convPV (P : Program) (s d : TypeId) (x : PV) : Option PV :=
 match x with
 | .sl _ _ es => if isBytesT P s = true ∧ isStrT P d = true ∧ bytesP es = true then some (.str (strOf es)) else none
 | .int _ n => match intT P d with | some k => (match P.underlying s with | some _ => some (.int k (k.wrap n)) | none => none) | none => none
 | .str a => match P.underlying s, P.underlying d with | some .string, some .string => some (.str a) | _, _ => none
 | _ => none
def minPV : List PV → Option PV
 | [.int k a, .int k' b] => if k = k' then some (.int k (if b < a then b else a)) else none
 | _ => none
def maxPV : List PV → Option PV
 | [.int k a, .int k' b] => if k = k' then some (.int k (if b > a then b else a)) else none
 | [.int k a, .int k1 b, .int k2 c, .int k3 d] => if k = k1 ∧ k = k2 ∧ k = k3 then some (.int k (if d > (if c > (if b > a then b else a) then c else (if b > a then b else a)) then d else (if c > (if b > a then b else a) then c else (if b > a then b else a)))) else none
 | _ => none
def slicePV (P : Program) (t : TypeId) (x : PV) (lo hi : Option PV) : Option PV :=
 let bound (d : Nat) : Option PV → Option Int
  | none => some d
  | some (.int _ n) => some n
  | _ => none
 match x with
 | .str s => match bound 0 lo, bound s.size hi with
  | some l, some h => if isStrT P t ∧ 0 ≤ l ∧ l ≤ h ∧ h ≤ s.size then some (.str (s.extract l.toNat h.toNat)) else none
  | _, _ => none
 | .sl _ sz es => match bound 0 lo, bound es.length hi with
  | some l, some h => if (elemTI P t).map TI.size = some sz ∧ 0 ≤ l ∧ l ≤ h ∧ h ≤ es.length then some (.sl false sz ((es.take h.toNat).drop l.toNat)) else none
  | _, _ => none
 | .slh i off n sz => match bound 0 lo, bound n hi with
  | some l, some h => if (elemTI P t).map TI.size = some sz ∧ 0 ≤ l ∧ l ≤ h ∧ h ≤ n ∧ 0 < sz then (if l < n then some (.slh i (off + l.toNat * sz) (h.toNat - l.toNat) sz) else some (.sl false sz [])) else none
  | _, _ => none
 | _ => none
def slice3PV (P : Program) (t : TypeId) (x a b c : PV) : Option PV :=
 match x, a, b, c with
 | .sl _ sz es, .int _ l, .int _ h, .int _ m => if (elemTI P t).map TI.size = some sz ∧ 0 ≤ l ∧ l ≤ h ∧ h ≤ m ∧ m ≤ es.length then some (.sl false sz ((es.take h.toNat).drop l.toNat)) else none
 | _, _, _, _ => none
def allSome : List (Option PV) → Option (List PV)
 | [] => some []
 | none :: _ => none
 | some p :: l => (allSome l).map (p :: ·)
def PV.newCells (p : PV) : Option (List PV) := match p with | .agg ds => if ds.all PV.one then some (ds.map PV.un) else none | q => if q.one then some [q.un] else none
def fillPV (place : Nat → Option (Nat × Nat)) : List PV → List (Nat × PV) → Option (List PV)
 | cs, [] => some cs
 | cs, (i, p) :: ps => match place i, p.newCells with
  | some (o, z), some new => if new.length = z ∧ o + z ≤ cs.length then fillPV place (cs.take o ++ new ++ cs.drop (o + z)) ps else none
  | _, _ => none
def partsPV (rd : Operand → Option PV) : List (Nat × Operand) → Option (List (Nat × PV))
 | [] => some []
 | (i, x) :: l => match rd x, partsPV rd l with
  | some p, some ps => some ((i, p) :: ps)
  | _, _ => none
def popCall (P : Program) (rd : Operand → Option PV) (c : Call) : Option PV :=
 match c.callee with
 | .builtin .len => (match c.args.toList, c.argTypes.toList with
  | [x], [t] => (rd x).bind (lenPV P t)
  | _, _ => none)
 | .builtin .min => (allSome (c.args.toList.map rd)).bind minPV
 | .builtin .max => (allSome (c.args.toList.map rd)).bind maxPV
 | _ => none
def pop (P : Program) (rd : Operand → Option PV) : Op → Option PV
 | .move x => rd x
 | .assign x => rd x
 | .pick c a b => match rd c with
  | some (.bool c) => if c then rd a else rd b
  | _ => none
 | .fieldAddr s x f => match fieldsOf P s, rd x with
  | some fs, some q => (fs[f]?).bind fun (o, z, g) => if z = 0 then none else subAddr q o z g
  | _, _ => none
 | .field s x f => match fieldsOf P s, rd x with
  | some fs, some (.agg cs) => (fs[f]?).bind fun (o, z, g) => subVal cs o z g
  | _, _ => none
 | .indexAddr t x i => match rd x, rd i with
  | some (.sl _ sz es), some (.int _ n) => if (elemTI P t).map TI.size = some sz ∧ 0 ≤ n then (es[n.toNat]?).map .cst else none
  | some (.slh i off m sz), some (.int _ n) => if (elemTI P t).map TI.size = some sz ∧ 0 ≤ n ∧ n < m then some (.ptr i (off + n.toNat * sz)) else none
  | some (.ptr i off), some (.int _ n) => match arrTI P t with
   | some (m, I) => if 0 ≤ n ∧ n < m then some (.ptr i (off + n.toNat * I.size)) else none
   | none => none
  | some (.cst (.agg cs)), some (.int _ n) => match arrTI P t with
   | some (m, I) => if 0 ≤ n ∧ n < m then (subVal cs (n.toNat * I.size) I.size I.agg).map .cst else none
   | none => none
  | _, _ => none
 | .index t x i => match rd x, rd i with
  | some (.str s), some (.int _ n) => if isStrT P t ∧ 0 ≤ n then (s[n.toNat]?).map fun b => .int .u8 b.toNat else none
  | some (.agg cs), some (.int _ n) => match arrTI P t with
   | some (m, I) => if 0 ≤ n ∧ n < m then subVal cs (n.toNat * I.size) I.size I.agg else none
   | none => none
  | _, _ => none
 | .slice t x lo hi none => match rd x with
  | some q => match lo, hi with
   | none, none => slicePV P t q none none
   | some l, none => (rd l).bind fun a => slicePV P t q (some a) none
   | none, some h => (rd h).bind fun b => slicePV P t q none (some b)
   | some l, some h => (rd l).bind fun a => (rd h).bind fun b => slicePV P t q (some a) (some b)
  | none => none
 | .slice t x (some l) (some h) (some m) => match rd x, rd l, rd h, rd m with
  | some q, some a, some b, some c => slice3PV P t q a b c
  | _, _, _, _ => none
 | .binOp op t x y _ => match rd x, rd y with
  | some a, some b => binPV P op t a b
  | _, _ => none
 | .unOp op _ x => (rd x).bind (unPV op)
 | .convert s d x => (rd x).bind (convPV P s d)
 | .makeFunc fn first caps => match allSome (first.toList.map rd), allSome (caps.toList.map rd) with
  | some f, some c => some (.func fn f c)
  | _, _ => none
 | .extract x i => (rd x).bind (extPV · i)
 | .nilCheck x => match rd x with
  | some (.ptr i o) => some (.ptr i o)
  | some (.cst e) => some (.cst e)
  | some (.func (.func f) a b) => some (.func (.func f) a b)
  | _ => none
 | .build t ps => match ti P t, partsPV rd ps.toList with
  | some I, some qs => match fieldsOf P t, arrTI P t with
   | some fs, none => (fillPV (fun i => (fs[i]?).map fun f => (f.1, f.2.1)) (I.zero.map PV.un) qs).map .agg
   | none, some (_, J) => (fillPV (fun i => some (i * J.size, J.size)) (I.zero.map PV.un) qs).map .agg
   | _, _ => none
  | _, _ => none
 | .call c => popCall P rd c
 | _ => none
end Go.Proofs.YtkkgfoknknehfaaDoor

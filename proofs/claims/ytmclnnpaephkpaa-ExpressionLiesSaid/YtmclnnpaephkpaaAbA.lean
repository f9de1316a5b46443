/-
  An abstract reading of the model's values: slices as lists of what they hold, memory that is never written again as a partial map, variables that are written as numbered objects. Nothing of a program here.
-/
import Derived.WalkKit
import Derived.WalkSpells
import Derived.WalkLawsBesides
import Derived.Lib.Hide
import Derived.Below
namespace Go.Proofs.Ytmclnnpaephkpaa
set_option linter.unusedVariables false
set_option linter.unusedSimpArgs false
set_option linter.unnecessarySimpa false
set_option linter.unusedSectionVars false
open Go.RowKit

inductive PV where
  | int (k : IntKind) (n : Int)
  | bool (b : Bool)
  | str (s : ByteArray)
  | nilp
  | raw (v : Value)
  | ptr (i off : Nat)
  | cst (e : PV)
  | sl (own : Bool) (sz : Nat) (es : List PV)
  | slh (i off n sz : Nat)
  | func (fn : Fn) (first caps : List PV)
  | agg (cs : List PV)
  | tuple (cs : List PV)
instance : Inhabited PV := ⟨.nilp⟩

abbrev Mem := Nat → Nat → Option Value
abbrev Blk := List (Nat × Nat)
abbrev VL := (Value → Prop) × (Nat → Nat → Prop)

def liftP (M : Mem) (f : Value → Prop) : VL := (f, fun b o => ∃ u, M b o = some u ∧ f u)
def LocsP (sz : Nat) : List VL → Nat → Nat → Prop
  | [], _, _ => True
  | p :: ps, b, o => p.2 b o ∧ LocsP sz ps b (o + sz)
def CellsP (M : Mem) : List VL → Nat → Nat → Prop
  | [], _, _ => True
  | p :: ps, b, o => (∃ u, M b o = some u ∧ p.1 u) ∧ CellsP M ps b (o + 1)
def AllP : List VL → List Value → Prop
  | [], [] => True
  | p :: ps, v :: vs => p.1 v ∧ AllP ps vs
  | _, _ => False
def PV.size : PV → Nat | .agg cs => cs.length | _ => 1
def PV.isAgg : PV → Bool | .agg _ => true | _ => false
def PV.own : PV → Bool | .sl o _ _ => o | _ => false
def PV.un : PV → PV | .sl _ sz es => .sl false sz es | p => p
def LIM : Nat := 1073741824

mutual
def sem (M : Mem) (B : Blk) : PV → VL
  | .int k n => liftP M fun v => v = .int k n
  | .bool b => liftP M fun v => v = .bool b
  | .str s => liftP M fun v => v = .string s
  | .nilp => liftP M fun v => v = .pointer none
  | .raw u => liftP M fun v => v = u ∧ u.oneCell' = true
  | .ptr i off => liftP M fun v => ∃ c, B[i]? = some c ∧ v = .pointer (some ⟨c.1, off, none⟩)
  | .cst e => liftP M fun v => ∃ b off, v = .pointer (some ⟨b, off, none⟩) ∧ (sem M [] e).2 b off
  | .sl _ sz es => liftP M fun v => ∃ A cap, v = .slice A es.length cap ∧ es.length ≤ cap ∧ (∀ e, e ∈ es → e.size = sz) ∧ (sz = 0 → es = [] ∧ A = none ∧ cap = 0) ∧ (es ≠ [] → ∃ b off, A = some ⟨b, off, none⟩ ∧ LocsP sz (sems M [] es) b off)
  | .slh i off n sz => liftP M fun v => ∃ c cap, B[i]? = some c ∧ v = .slice (some ⟨c.1, off, none⟩) n cap ∧ n ≤ cap ∧ off + cap * sz ≤ c.2
  | .func fn first caps => liftP M fun v => ∃ f c, v = .func fn f c ∧ AllP (sems M B first) f.toList ∧ AllP (sems M B caps) c.toList
  | .agg cs => (fun v => ∃ vs, v = .agg vs ∧ AllP (sems M B cs) vs.toList, fun b o => CellsP M (sems M B cs) b o)
  | .tuple cs => (fun v => ∃ vs, v = .tuple vs ∧ AllP (sems M B cs) vs.toList, fun _ _ => False)
def sems (M : Mem) (B : Blk) : List PV → List VL
  | [] => []
  | p :: ps => sem M B p :: sems M B ps
end
def Rep (M : Mem) (B : Blk) (p : PV) (v : Value) : Prop := (sem M B p).1 v
def Loc (M : Mem) (B : Blk) (p : PV) (b o : Nat) : Prop := (sem M B p).2 b o
def Reps (M : Mem) (B : Blk) (ps : List PV) (vs : List Value) : Prop := AllP (sems M B ps) vs
def Cells (M : Mem) (B : Blk) (ps : List PV) (b o : Nat) : Prop := CellsP M (sems M B ps) b o
def Locs (M : Mem) (B : Blk) (sz : Nat) (ps : List PV) (b o : Nat) : Prop := LocsP sz (sems M B ps) b o

section
variable {M : Mem} {B : Blk}
theorem rep_int {k : IntKind} {n : Int} {v : Value} : Rep M B (.int k n) v ↔ v = .int k n := by simp [Rep, sem, liftP]
theorem rep_bool {b : Bool} {v : Value} : Rep M B (.bool b) v ↔ v = .bool b := by simp [Rep, sem, liftP]
theorem rep_str {s : ByteArray} {v : Value} : Rep M B (.str s) v ↔ v = .string s := by simp [Rep, sem, liftP]
theorem rep_nilp {v : Value} : Rep M B .nilp v ↔ v = .pointer none := by simp [Rep, sem, liftP]
theorem rep_raw {u v : Value} : Rep M B (.raw u) v ↔ v = u ∧ u.oneCell' = true := by simp [Rep, sem, liftP]
theorem rep_ptr {i off : Nat} {v : Value} : Rep M B (.ptr i off) v ↔ ∃ c, B[i]? = some c ∧ v = .pointer (some ⟨c.1, off, none⟩) := by simp [Rep, sem, liftP]
theorem rep_cst {e : PV} {v : Value} : Rep M B (.cst e) v ↔ ∃ b off, v = .pointer (some ⟨b, off, none⟩) ∧ Loc M [] e b off := by simp [Rep, sem, liftP, Loc]
theorem rep_sl {o : Bool} {sz : Nat} {es : List PV} {v : Value} : Rep M B (.sl o sz es) v ↔ ∃ A cap, v = .slice A es.length cap ∧ es.length ≤ cap ∧ (∀ e, e ∈ es → e.size = sz) ∧ (sz = 0 → es = [] ∧ A = none ∧ cap = 0) ∧ (es ≠ [] → ∃ b off, A = some ⟨b, off, none⟩ ∧ Locs M [] sz es b off) := by simp [Rep, sem, liftP, Locs]
theorem rep_slh {i off n sz : Nat} {v : Value} : Rep M B (.slh i off n sz) v ↔ ∃ c cap, B[i]? = some c ∧ v = .slice (some ⟨c.1, off, none⟩) n cap ∧ n ≤ cap ∧ off + cap * sz ≤ c.2 := by simp [Rep, sem, liftP]
theorem rep_func {fn : Fn} {first caps : List PV} {v : Value} : Rep M B (.func fn first caps) v ↔ ∃ f c, v = .func fn f c ∧ Reps M B first f.toList ∧ Reps M B caps c.toList := by simp [Rep, sem, liftP, Reps]
theorem rep_agg {cs : List PV} {v : Value} : Rep M B (.agg cs) v ↔ ∃ vs, v = .agg vs ∧ Reps M B cs vs.toList := by simp [Rep, sem, Reps]
theorem rep_tuple {cs : List PV} {v : Value} : Rep M B (.tuple cs) v ↔ ∃ vs, v = .tuple vs ∧ Reps M B cs vs.toList := by simp [Rep, sem, Reps]
theorem reps_nil {vs : List Value} : Reps M B [] vs ↔ vs = [] := by cases vs <;> simp [Reps, sems, AllP]
theorem reps_cons {p : PV} {ps : List PV} {vs : List Value} : Reps M B (p :: ps) vs ↔ ∃ u us, vs = u :: us ∧ Rep M B p u ∧ Reps M B ps us := by
  cases vs with
  | nil => simp [Reps, sems, AllP]
  | cons u us => exact ⟨fun h => ⟨u, us, rfl, h.1, h.2⟩, fun ⟨_, _, e, h1, h2⟩ => by cases e; exact ⟨h1, h2⟩⟩
theorem cells_nil {b o : Nat} : Cells M B [] b o := by simp [Cells, sems, CellsP]
theorem cells_cons {p : PV} {ps : List PV} {b o : Nat} : Cells M B (p :: ps) b o ↔ (∃ u, M b o = some u ∧ Rep M B p u) ∧ Cells M B ps b (o + 1) := by simp [Cells, sems, CellsP, Rep]
theorem locs_nil {sz b o : Nat} : Locs M B sz [] b o := by simp [Locs, sems, LocsP]
theorem locs_cons {sz : Nat} {p : PV} {ps : List PV} {b o : Nat} : Locs M B sz (p :: ps) b o ↔ Loc M B p b o ∧ Locs M B sz ps b (o + sz) := by simp [Locs, sems, LocsP, Loc]
theorem loc_agg {cs : List PV} {b o : Nat} : Loc M B (.agg cs) b o ↔ Cells M B cs b o := by simp [Loc, sem, Cells]
theorem loc_one {p : PV} (h : p.isAgg = false) (ht : ∀ cs, p ≠ .tuple cs) {b o : Nat} : Loc M B p b o ↔ ∃ u, M b o = some u ∧ Rep M B p u := by
  cases p <;> first | exact absurd rfl (ht _) | (simp [PV.isAgg] at h; done) | simp [Loc, Rep, sem, liftP]
theorem loc_tuple {cs : List PV} {b o : Nat} : Loc M B (.tuple cs) b o ↔ False := by simp [Loc, sem]
theorem rep_un {p : PV} {v : Value} : Rep M B p.un v ↔ Rep M B p v := by cases p <;> simp [PV.un, rep_sl]
theorem loc_un {p : PV} {b o : Nat} : Loc M B p.un b o ↔ Loc M B p b o := by cases p <;> simp [PV.un, Loc, sem, liftP]
theorem un_size (p : PV) : p.un.size = p.size := by cases p <;> rfl
theorem un_own (p : PV) : p.un.own = false := by cases p <;> rfl
theorem un_isAgg (p : PV) : p.un.isAgg = p.isAgg := by cases p <;> rfl
theorem un_un (p : PV) : p.un.un = p.un := by cases p <;> rfl

theorem reps_length : ∀ {ps : List PV} {vs : List Value}, Reps M B ps vs → ps.length = vs.length
  | [], vs, h => by rw [reps_nil] at h; simp [h]
  | p :: ps, vs, h => by
    obtain ⟨u, us, rfl, _, h2⟩ := reps_cons.1 h
    simp [reps_length h2]
theorem reps_get : ∀ {ps : List PV} {vs : List Value}, Reps M B ps vs → ∀ {j : Nat} {p : PV}, ps[j]? = some p → ∃ u, vs[j]? = some u ∧ Rep M B p u
  | [], _, _, j, p, h => by simp at h
  | q :: ps, vs, hr, j, p, h => by
    obtain ⟨u, us, rfl, h1, h2⟩ := reps_cons.1 hr
    cases j with
    | zero => simp at h; subst h; exact ⟨u, by simp, h1⟩
    | succ j => simp at h; obtain ⟨u', hu, hp⟩ := reps_get h2 h; exact ⟨u', by simpa using hu, hp⟩
theorem reps_of : ∀ {ps : List PV} {vs : List Value}, ps.length = vs.length → (∀ (j : Nat) p u, ps[j]? = some p → vs[j]? = some u → Rep M B p u) → Reps M B ps vs
  | [], [], _, _ => reps_nil.2 rfl
  | p :: ps, u :: us, hl, h => reps_cons.2 ⟨u, us, rfl, h 0 p u rfl rfl, reps_of (by simpa using hl) fun j q v hq hv => h (j + 1) q v (by simpa using hq) (by simpa using hv)⟩
  | [], _ :: _, hl, _ => by simp at hl
  | _ :: _, [], hl, _ => by simp at hl
theorem cells_get : ∀ {ps : List PV} {b o : Nat}, Cells M B ps b o → ∀ {j : Nat} {p : PV}, ps[j]? = some p → ∃ u, M b (o + j) = some u ∧ Rep M B p u
  | [], _, _, _, j, p, h => by simp at h
  | q :: ps, b, o, hc, j, p, h => by
    obtain ⟨h1, h2⟩ := cells_cons.1 hc
    cases j with
    | zero => simp at h; subst h; simpa using h1
    | succ j => simp at h; obtain ⟨u, hu, hp⟩ := cells_get h2 h; exact ⟨u, by rw [← hu]; congr 1; omega, hp⟩
theorem cells_of : ∀ {ps : List PV} {b o : Nat}, (∀ (j : Nat) p, ps[j]? = some p → ∃ u, M b (o + j) = some u ∧ Rep M B p u) → Cells M B ps b o
  | [], _, _, _ => cells_nil
  | p :: ps, b, o, h => cells_cons.2 ⟨by simpa using h 0 p rfl, cells_of fun j q hq => by obtain ⟨u, hu, hr⟩ := h (j + 1) q (by simpa using hq); exact ⟨u, by rw [← hu]; congr 1; omega, hr⟩⟩
theorem locs_get : ∀ {ps : List PV} {sz b o : Nat}, Locs M B sz ps b o → ∀ {j : Nat} {p : PV}, ps[j]? = some p → Loc M B p b (o + j * sz)
  | [], _, _, _, _, j, p, h => by simp at h
  | q :: ps, sz, b, o, hc, j, p, h => by
    obtain ⟨h1, h2⟩ := locs_cons.1 hc
    cases j with
    | zero => simp at h; subst h; simpa using h1
    | succ j => simp at h; have := locs_get h2 h; rwa [show o + (j + 1) * sz = o + sz + j * sz by rw [Nat.succ_mul]; omega]
theorem locs_of : ∀ {ps : List PV} {sz b o : Nat}, (∀ (j : Nat) p, ps[j]? = some p → Loc M B p b (o + j * sz)) → Locs M B sz ps b o
  | [], _, _, _, _ => locs_nil
  | p :: ps, sz, b, o, h => locs_cons.2 ⟨by simpa using h 0 p rfl, locs_of fun j q hq => by have := h (j + 1) q (by simpa using hq); rwa [show o + (j + 1) * sz = o + sz + j * sz by rw [Nat.succ_mul]; omega] at this⟩
theorem locs_append {ps qs : List PV} {sz b o : Nat} (h1 : Locs M B sz ps b o) (h2 : Locs M B sz qs b (o + ps.length * sz)) : Locs M B sz (ps ++ qs) b o :=
  locs_of fun j p hp => by
    rcases Nat.lt_or_ge j ps.length with h | h
    · exact locs_get h1 (by rwa [List.getElem?_append_left h] at hp)
    · have := locs_get h2 (j := j - ps.length) (by rwa [List.getElem?_append_right h] at hp)
      rwa [show o + ps.length * sz + (j - ps.length) * sz = o + j * sz by rw [Nat.add_assoc, ← Nat.add_mul]; congr 2; omega] at this
end

/-- M' holds what M holds, and B' goes on from B. -/
structure MLe (M M' : Mem) (B B' : Blk) : Prop where
  mem : ∀ (b o : Nat) (v : Value), M b o = some v → M' b o = some v
  blk : ∀ (i : Nat) (c : Nat × Nat), B[i]? = some c → B'[i]? = some c
theorem MLe.refl (M : Mem) (B : Blk) : MLe M M B B := ⟨fun _ _ _ h => h, fun _ _ h => h⟩
theorem MLe.none {M M' : Mem} {B B' : Blk} (h : MLe M M' B B') : MLe M M' [] [] := ⟨h.mem, fun _ _ e => e⟩
theorem MLe.zero (M : Mem) (B : Blk) : MLe M M [] B := ⟨fun _ _ _ e => e, fun i c e => by simp at e⟩
theorem MLe.trans {M M' M'' : Mem} {B B' B'' : Blk} (h : MLe M M' B B') (k : MLe M' M'' B' B'') : MLe M M'' B B'' := ⟨fun b o v e => k.mem b o v (h.mem b o v e), fun i c e => k.blk i c (h.blk i c e)⟩
section
variable {M M' : Mem} {B B' : Blk}
mutual
theorem sem_mono {B B' : Blk} (h : MLe M M' B B') : ∀ p : PV, (∀ v, (sem M B p).1 v → (sem M' B' p).1 v) ∧ (∀ b o, (sem M B p).2 b o → (sem M' B' p).2 b o)
  | .int k n => by simp only [sem, liftP]; exact ⟨fun _ h => h, fun b o ⟨u, hu, e⟩ => ⟨u, h.mem _ _ _ hu, e⟩⟩
  | .bool _ => by simp only [sem, liftP]; exact ⟨fun _ h => h, fun b o ⟨u, hu, e⟩ => ⟨u, h.mem _ _ _ hu, e⟩⟩
  | .str _ => by simp only [sem, liftP]; exact ⟨fun _ h => h, fun b o ⟨u, hu, e⟩ => ⟨u, h.mem _ _ _ hu, e⟩⟩
  | .nilp => by simp only [sem, liftP]; exact ⟨fun _ h => h, fun b o ⟨u, hu, e⟩ => ⟨u, h.mem _ _ _ hu, e⟩⟩
  | .raw _ => by simp only [sem, liftP]; exact ⟨fun _ h => h, fun b o ⟨u, hu, e⟩ => ⟨u, h.mem _ _ _ hu, e⟩⟩
  | .ptr i off => by
    have key : ∀ v, (∃ c, B[i]? = some c ∧ v = Value.pointer (some ⟨c.1, off, none⟩)) → ∃ c, B'[i]? = some c ∧ v = Value.pointer (some ⟨c.1, off, none⟩) := fun v ⟨c, hc, e⟩ => ⟨c, h.blk _ _ hc, e⟩
    simp only [sem, liftP]; exact ⟨key, fun b o ⟨u, hu, e⟩ => ⟨u, h.mem _ _ _ hu, key u e⟩⟩
  | .cst e => by
    have ih := (sem_mono h.none e).2
    have key : ∀ v, (∃ b off, v = Value.pointer (some ⟨b, off, none⟩) ∧ (sem M [] e).2 b off) → (∃ b off, v = Value.pointer (some ⟨b, off, none⟩) ∧ (sem M' [] e).2 b off) := fun v ⟨b, off, e, hl⟩ => ⟨b, off, e, ih _ _ hl⟩
    simp only [sem, liftP]; exact ⟨key, fun b o ⟨u, hu, e⟩ => ⟨u, h.mem _ _ _ hu, key u e⟩⟩
  | .sl _ sz es => by
    have ih := (sems_mono h.none es).2.1
    have key : ∀ v, (∃ A cap, v = Value.slice A es.length cap ∧ es.length ≤ cap ∧ (∀ e, e ∈ es → e.size = sz) ∧ (sz = 0 → es = [] ∧ A = none ∧ cap = 0) ∧ (es ≠ [] → ∃ b off, A = some ⟨b, off, none⟩ ∧ LocsP sz (sems M [] es) b off)) →
      (∃ A cap, v = Value.slice A es.length cap ∧ es.length ≤ cap ∧ (∀ e, e ∈ es → e.size = sz) ∧ (sz = 0 → es = [] ∧ A = none ∧ cap = 0) ∧ (es ≠ [] → ∃ b off, A = some ⟨b, off, none⟩ ∧ LocsP sz (sems M' [] es) b off)) := fun v ⟨A, cap, e, h1, h2, h3, h4⟩ => ⟨A, cap, e, h1, h2, h3, fun hc => by
        obtain ⟨b, off, hb, hl⟩ := h4 hc
        exact ⟨b, off, hb, ih sz b off hl⟩⟩
    simp only [sem, liftP]; exact ⟨key, fun b o ⟨u, hu, e⟩ => ⟨u, h.mem _ _ _ hu, key u e⟩⟩
  | .slh i off n sz => by
    have key : ∀ v, (∃ c cap, B[i]? = some c ∧ v = Value.slice (some ⟨c.1, off, none⟩) n cap ∧ n ≤ cap ∧ off + cap * sz ≤ c.2) → (∃ c cap, B'[i]? = some c ∧ v = Value.slice (some ⟨c.1, off, none⟩) n cap ∧ n ≤ cap ∧ off + cap * sz ≤ c.2) := fun v ⟨c, cap, hc, e⟩ => ⟨c, cap, h.blk _ _ hc, e⟩
    simp only [sem, liftP]; exact ⟨key, fun b o ⟨u, hu, e⟩ => ⟨u, h.mem _ _ _ hu, key u e⟩⟩
  | .func fn first caps => by
    have i1 := (sems_mono h first).1
    have i2 := (sems_mono h caps).1
    have key : ∀ v, (∃ f c, v = Value.func fn f c ∧ AllP (sems M B first) f.toList ∧ AllP (sems M B caps) c.toList) → (∃ f c, v = Value.func fn f c ∧ AllP (sems M' B' first) f.toList ∧ AllP (sems M' B' caps) c.toList) := fun v ⟨f, c, e, h1, h2⟩ => ⟨f, c, e, i1 _ h1, i2 _ h2⟩
    simp only [sem, liftP]; exact ⟨key, fun b o ⟨u, hu, e⟩ => ⟨u, h.mem _ _ _ hu, key u e⟩⟩
  | .agg cs => by
    have ih := sems_mono h cs
    simp only [sem]; exact ⟨fun v ⟨vs, e, hv⟩ => ⟨vs, e, ih.1 _ hv⟩, fun b o hc => ih.2.2 b o hc⟩
  | .tuple cs => by
    have ih := sems_mono h cs
    simp only [sem]; exact ⟨fun v ⟨vs, e, hv⟩ => ⟨vs, e, ih.1 _ hv⟩, fun b o hc => hc⟩
theorem sems_mono {B B' : Blk} (h : MLe M M' B B') : ∀ ps : List PV, (∀ vs, AllP (sems M B ps) vs → AllP (sems M' B' ps) vs) ∧ (∀ sz b o, LocsP sz (sems M B ps) b o → LocsP sz (sems M' B' ps) b o) ∧ (∀ b o, CellsP M (sems M B ps) b o → CellsP M' (sems M' B' ps) b o)
  | [] => by simp only [sems]; exact ⟨fun vs h => by cases vs <;> simpa [AllP] using h, fun _ _ _ _ => trivial, fun _ _ _ => trivial⟩
  | p :: ps => by
    have h1 := sem_mono h p
    have h2 := sems_mono h ps
    simp only [sems]
    exact ⟨fun vs hv => by
      cases vs with
      | nil => simp [AllP] at hv
      | cons v vs => exact ⟨h1.1 _ hv.1, h2.1 _ hv.2⟩, fun sz b o hl => ⟨h1.2 _ _ hl.1, h2.2.1 _ _ _ hl.2⟩, fun b o ⟨⟨u, hu, hr⟩, hc⟩ => ⟨⟨u, h.mem _ _ _ hu, h1.1 _ hr⟩, h2.2.2 _ _ hc⟩⟩
end
theorem Rep.mono (h : MLe M M' B B') {p : PV} {v : Value} (hr : Rep M B p v) : Rep M' B' p v := (sem_mono h p).1 v hr
theorem Loc.mono (h : MLe M M' B B') {p : PV} {b o : Nat} (hr : Loc M B p b o) : Loc M' B' p b o := (sem_mono h p).2 b o hr
theorem Reps.mono (h : MLe M M' B B') {ps : List PV} {vs : List Value} (hr : Reps M B ps vs) : Reps M' B' ps vs := (sems_mono h ps).1 vs hr
theorem Locs.mono (h : MLe M M' B B') {sz : Nat} {ps : List PV} {b o : Nat} (hr : Locs M B sz ps b o) : Locs M' B' sz ps b o := (sems_mono h ps).2.1 sz b o hr
theorem Cells.mono (h : MLe M M' B B') {ps : List PV} {b o : Nat} (hr : Cells M B ps b o) : Cells M' B' ps b o := (sems_mono h ps).2.2 b o hr
end

/-! ### no pointers to objects -/
mutual
def PV.flat : PV → Bool
  | .ptr _ _ => false
  | .slh _ _ _ _ => false
  | .func _ f c => PV.flats f && PV.flats c
  | .agg cs => PV.flats cs
  | .tuple cs => PV.flats cs
  | _ => true
def PV.flats : List PV → Bool
  | [] => true
  | p :: ps => p.flat && PV.flats ps
end
section
variable {M : Mem} {B : Blk}
mutual
theorem sem_flat (B' : Blk) : ∀ p : PV, p.flat = true → sem M B p = sem M B' p
  | .int _ _, _ => by simp only [sem]
  | .bool _, _ => by simp only [sem]
  | .str _, _ => by simp only [sem]
  | .nilp, _ => by simp only [sem]
  | .raw _, _ => by simp only [sem]
  | .ptr _ _, h => by simp [PV.flat] at h
  | .slh _ _ _ _, h => by simp [PV.flat] at h
  | .cst e, _ => by simp only [sem]
  | .sl _ _ es, _ => by simp only [sem]
  | .func _ f c, h => by
    simp only [PV.flat, Bool.and_eq_true] at h
    simp only [sem, sems_flat B' f h.1, sems_flat B' c h.2]
  | .agg cs, h => by simp only [sem, sems_flat B' cs (by simpa [PV.flat] using h)]
  | .tuple cs, h => by simp only [sem, sems_flat B' cs (by simpa [PV.flat] using h)]
theorem sems_flat (B' : Blk) : ∀ ps : List PV, PV.flats ps = true → sems M B ps = sems M B' ps
  | [], _ => by simp only [sems]
  | p :: ps, h => by
    simp only [PV.flats, Bool.and_eq_true] at h
    simp only [sems, sem_flat B' p h.1, sems_flat B' ps h.2]
end
theorem Rep.flat (B' : Blk) {p : PV} {v : Value} (hf : p.flat = true) (h : Rep M B p v) : Rep M B' p v := by
  unfold Rep at *; rwa [← sem_flat (B := B) B' p hf]
theorem Reps.flat (B' : Blk) {ps : List PV} {vs : List Value} (hf : PV.flats ps = true) (h : Reps M B ps vs) : Reps M B' ps vs := by
  unfold Reps at *; rwa [← sems_flat (B := B) B' ps hf]
theorem flats_iff : ∀ {ps : List PV}, PV.flats ps = true ↔ ∀ p, p ∈ ps → p.flat = true
  | [] => by simp [PV.flats]
  | p :: ps => by simp [PV.flats, flats_iff (ps := ps)]
theorem flats_map {α : Type} (f : α → PV) (l : List α) (h : ∀ x, x ∈ l → (f x).flat = true) : PV.flats (l.map f) = true := by
  rw [flats_iff]; intro p hp; obtain ⟨x, hx, rfl⟩ := List.mem_map.1 hp; exact h x hx
end
end Go.Proofs.Ytmclnnpaephkpaa

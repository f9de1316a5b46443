/-
  Nets as plain data: transitions, the change of a place, arcs.
-/
import Derived.Test.YtkkgfoknknehfaaDoorBT
import Derived.Test.YtkkgfoknknehfaaDoorPT0
namespace Go.Proofs.YtkkgfoknknehfaaDoor.W
set_option linter.unusedVariables false
set_option linter.unusedSimpArgs false
set_option linter.unnecessarySimpa false
set_option linter.unusedSectionVars false
open Go.RowKit
set_option maxRecDepth 100000
structure Tr where
  ev : Int
  inn : List (Nat × Int)
  out : List (Nat × Int)
abbrev vA (a : Nat × Int) : Sh.V S5 := ((a.1 : Int), a.2, ())
abbrev pA (a : Nat × Int) : PV := A5 (vA a)
abbrev vT (t : Tr) : Sh.V S2 := (t.ev, t.inn.map pA, t.out.map pA, ())
abbrev pT (t : Tr) : PV := A2 (vT t)
structure Nt where
  P : Nat
  m0 : Nat → Int
  ts : List Tr
abbrev vN (n : Nt) : Sh.V S0 := (mv n.P n.m0, n.ts.map pT, ())
/-- The weights of the arcs at a place. -/
def wt : List (Nat × Int) → Nat → Int
  | [], _ => 0
  | a :: l, p => (if a.1 = p then a.2 else 0) + wt l p
structure ArcOk (P : Nat) (l : List (Nat × Int)) : Prop where
  b : ∀ a, a ∈ l → a.1 < P ∧ 1 ≤ a.2 ∧ a.2 ≤ 2
  s : l.Pairwise fun a b => a.1 < b.1
structure TrOk (P : Nat) (t : Tr) : Prop where
  e0 : 0 ≤ t.ev
  e1 : t.ev < 32
  i : ArcOk P t.inn
  o : ArcOk P t.out
structure NtOk (n : Nt) : Prop where
  p0 : 1 ≤ n.P
  p5 : n.P ≤ 5
  tk : ∀ p, p < n.P → 0 ≤ n.m0 p ∧ n.m0 p ≤ 65536
  t5 : n.ts.length ≤ 5
  t : ∀ t, t ∈ n.ts → TrOk n.P t
theorem wt_zero {l : List (Nat × Int)} {p : Nat} (h : ∀ a, a ∈ l → a.1 ≠ p) : wt l p = 0 := by
  induction l with
  | nil => rfl
  | cons a l ih => rw [wt, if_neg (h a (by simp)), ih fun a ha => h a (by simp [ha])]; rfl
theorem wt_bd {P : Nat} {l : List (Nat × Int)} (h : ArcOk P l) (p : Nat) : 0 ≤ wt l p ∧ wt l p ≤ 2 := by
  obtain ⟨hb, hs⟩ := h
  induction l with
  | nil => simp [wt]
  | cons a l ih =>
    obtain ⟨h1, h2⟩ := List.pairwise_cons.1 hs
    have ih := ih (fun a ha => hb a (by simp [ha])) h2
    rw [wt]
    split
    · rename_i e
      rw [wt_zero fun b hb e' => by have := h1 b hb; omega]
      have := hb a (by simp)
      omega
    · omega
theorem ArcOk.take {P : Nat} {l : List (Nat × Int)} (h : ArcOk P l) (i : Nat) : ArcOk P (l.take i) :=
  ⟨fun a ha => h.b a (List.mem_of_mem_take ha), h.s.sublist (List.take_sublist i l)⟩
theorem wt_append (a b : List (Nat × Int)) (p : Nat) : wt (a ++ b) p = wt a p + wt b p := by
  induction a with
  | nil => simp [wt]
  | cons x a ih => rw [List.cons_append, wt, wt, ih]; omega
theorem wt_take {l : List (Nat × Int)} {i : Nat} (h : i < l.length) (p : Nat) : wt (l.take (i + 1)) p = wt (l.take i) p + if l[i].1 = p then l[i].2 else 0 := by
  rw [List.take_succ_eq_append_getElem h, wt_append, wt, wt]; omega
/-- The change of a place by a transition. -/
def dl (t : Tr) (p : Nat) : Int := wt t.out p - wt t.inn p
theorem dl_bd {P : Nat} {t : Tr} (h : TrOk P t) (p : Nat) : -2 ≤ dl t p ∧ dl t p ≤ 2 := by
  have := wt_bd h.i p; have := wt_bd h.o p; unfold dl; omega
def Nt.D (n : Nt) (k p : Nat) : Int := match n.ts[k]? with | some t => dl t p | none => 0
theorem Nt.D_bd {n : Nt} (h : NtOk n) (k p : Nat) : -2 ≤ n.D k p ∧ n.D k p ≤ 2 := by
  unfold Nt.D
  split
  · rename_i t ht; exact dl_bd (h.t t (List.mem_of_getElem? ht)) p
  · omega
theorem Nt.D_eq {n : Nt} {k : Nat} (h : k < n.ts.length) (p : Nat) : n.D k p = dl n.ts[k] p := by
  unfold Nt.D; rw [List.getElem?_eq_getElem h]
/-! ### views -/
@[simp] theorem chk_true (A : R) : chk true A = A := rfl
theorem decT {p : Prop} [Decidable p] (h : p) : decide p = true := decide_eq_true h
theorem decF {p : Prop} [Decidable p] (h : ¬ p) : decide p = false := decide_eq_false h
theorem lgV_arc {l : List (Nat × Int)} {i : Nat} {K : Sh.V S5 → R} (h : i < l.length) : lgV S5 (l.map pA) (i : Int) K = K (vA l[i]) := (lget_map h).trans rfl
theorem lgV_tr {l : List Tr} {i : Nat} {K : Sh.V S2 → R} (h : i < l.length) : lgV S2 (l.map pT) (i : Int) K = K (vT l[i]) := (lget_map h).trans rfl
section
variable {g : FuncId} {a : List PV} {h0 h1 : Objs}
theorem G0_of {K} {n m : Int} {b : Bool} (h : SS.CC g a [] = some (.tuple [.int .i64 n, .bool b, .int .i64 m], [])) : G0 g a K = K ((n, ()), (b, ()), (m, ()), ()) := (clX_of h).trans rfl
theorem G1_of {K} {b : Bool} (h : SS.CC g a [] = some (.bool b, [])) : G1 g a K = K b := (clX_of h).trans rfl
theorem G2_of {K} {n m : Int} (h : SS.CC g a [] = some (.tuple [.int .i64 n, .int .i64 m], [])) : G2 g a K = K ((n, ()), (m, ()), ()) := (clX_of h).trans rfl
theorem G3_of {K} {v : Sh.V S0} (h : SS.CC g a [] = some (A0 v, [])) : G3 g a K = K v := (clX_of h).trans rfl
theorem G4_of {K} {l m : List PV} {n : Int} (h : SS.CC g a [] = some (.tuple [.sl false 3 l, .sl false 1 m, .int .i64 n], [])) : G4 g a K = K ((l, ()), (m, ()), (n, ()), ()) := (clX_of h).trans rfl
theorem G5_of {K} {l : List PV} {n : Int} (h : SS.CC g a [] = some (.tuple [.sl false 1 l, .int .i64 n], [])) : G5 g a K = K ((l, ()), (n, ()), ()) := (clX_of h).trans rfl
theorem G6_of {K} {n : Int} (h : SS.CC g a [] = some (.int .i64 n, [])) : G6 g a K = K n := (clX_of h).trans rfl
theorem G8_of {K} {l : List PV} (h : SS.CC g a [] = some (.sl true 1 l, [])) : G8 g a K = K l := (clX_of h).trans rfl
theorem G17_of {K} {l : List PV} (h : SS.CC g a [] = some (.sl false 1 l, [])) : G17 g a K = K l := (clX_of h).trans rfl
theorem G18_of {K} {s : ByteArray} (h : SS.CC g a [] = some (.str s, [])) : G18 g a K = K s := (clX_of h).trans rfl
end
end Go.Proofs.YtkkgfoknknehfaaDoor.W

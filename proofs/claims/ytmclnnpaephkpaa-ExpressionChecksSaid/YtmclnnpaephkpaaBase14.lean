/-
  Words for memory that the walks of chapter 14 use: a value that reads as an expression, a list of numbers, of variables; what is kept where only new blocks are made.
-/
import Derived.Test.YtmclnnpaephkpaaChecked
import Derived.Test.YtmclnnpaephkpaaPure14
import Derived.WalkKit
import Derived.WalkSpells
import Derived.WalkLawsBesides
import Derived.Deep.QuietTactic
import Derived.BigQuiet
import Derived.Lib.Hide
import Derived.Deep.RegionHeld3
import Derived.Maps.AppendAt
import Derived.Deep.AppendLies
import Derived.OneCell
namespace Go.Proofs.Ytmclnnpaephkpaa
set_option linter.unusedVariables false
set_option linter.unusedSimpArgs false
set_option linter.unnecessarySimpa false
set_option linter.unusedSectionVars false
open Go.RowKit

theorem keepc {w w' : World} (hb : Below w.heap.size w w') {p : Addr} {v : Value} (h : w.cell? p = some v) : w'.cell? p = some v :=
  (hb.cell (World.block_lt_of_cell? w _ h)).trans h
theorem bcell1 {W w1 : World} {N : Nat} (hb : Below N W w1) : ∀ b o, b < N → w1.cell? ⟨b, o, none⟩ = W.cell? ⟨b, o, none⟩ := fun b o h => hb.cell (p := ⟨b, o, none⟩) h
theorem bfro1 {W w1 : World} {N : Nat} (hb : Below N W w1) : ∀ b o, b < N → w1.frozen? ⟨b, o, none⟩ = W.frozen? ⟨b, o, none⟩ := fun b o h => hb.frozen (p := ⟨b, o, none⟩) h
/-- Below N nothing has turned since w0, said for the walk's simp. -/
abbrev Keeps (N : Nat) (w0 w' : World) : Prop := Below N w0 w' ∧ N ≤ w'.heap.size ∧ ∀ b o, b < N → w'.cell? ⟨b, o, none⟩ = w0.cell? ⟨b, o, none⟩
theorem keep2 {N : Nat} {w0 w1 w2 : World} (h : Keeps N w0 w1) (hb : Below w1.heap.size w1 w2) : Keeps N w0 w2 :=
  have h' := h.1.trans (hb.mono h.2.1)
  ⟨h', Nat.le_trans h.2.1 hb.size, bcell1 h'⟩
theorem keep0 {N : Nat} {w0 : World} (hN : N ≤ w0.heap.size) : Keeps N w0 w0.drew := ⟨(Below.refl _ _).drew, hN, bcell1 (Below.refl _ _).drew⟩
theorem keepSelf {N : Nat} {w0 : World} (hN : N ≤ w0.heap.size) : Keeps N w0 w0 := ⟨Below.refl _ _, hN, bcell1 (Below.refl _ _)⟩
theorem keepA {N : Nat} {w0 w1 : World} (h : Keeps N w0 w1) (o : Obj) : Keeps N w0 (w1.alloc o) :=
  have h' := h.1.alloc h.2.1 o
  ⟨h', by have := h.2.1; simp; omega, bcell1 h'⟩
theorem keepS {N : Nat} {w0 w1 : World} (h : Keeps N w0 w1) {p : Addr} (hp : N ≤ p.block) (u : Value) : Keeps N w0 (w1.setCell p u) :=
  have h' := h.1.setCell hp u
  ⟨h', by have := h.2.1; simpa [World.setCell] using this, bcell1 h'⟩
theorem keepD {N : Nat} {w0 w1 : World} (h : Keeps N w0 w1) : Keeps N w0 w1.drew := ⟨h.1.drew, h.2.1, h.2.2⟩
theorem below_drewN {B : Nat} {a w : World} (h : Below B a w) (n : Nat) : Below B a (w.drewN n) := ⟨h.os, h.tape, h.output, h.size, h.block⟩
theorem ret_int {k : IntKind} {a b : Int} (h : a = b) : Ending.returned (.int k a) = .returned (.int k b) := by rw [h]
theorem ret_bool {a b : Bool} (h : a = b) : Ending.returned (.bool a) = .returned (.bool b) := by rw [h]

/-! ### one cell that a callee may write -/
theorem gAlloc {a w : World} {row : Option Nat} (h : a.grownBy w row) (o : Obj) : a.grownBy (w.alloc o) row := h.trans (World.grownBy_alloc w o row)
theorem gSet {a w : World} {g : Nat} (h : a.grownBy w (some g)) {p : Addr} (hp : p.block = g ∨ a.heap.size ≤ p.block) (u : Value) : a.grownBy (w.setCell p u) (some g) :=
  ⟨h.os, h.tape, h.output, by simpa [World.setCell] using h.size, fun k hk hne => (Below.heap_setCell w p u k (by
    rintro rfl
    rcases hp with e | e
    · exact hne (by rw [e])
    · omega)).trans (h.block k hk hne)⟩
theorem gDrewN {a w : World} {row : Option Nat} (h : a.grownBy w row) (n : Nat) : a.grownBy (w.drewN n) row := ⟨h.os, h.tape, h.output, h.size, h.block⟩
theorem gBelow {a w : World} {g N : Nat} (h : a.grownBy w (some g)) (hN : N ≤ g) (hN' : N ≤ a.heap.size) : Below N a w := (Below.refl N a).grown h hN' (fun k e => by cases e; exact hN)
theorem oneAlloc {w : World} {b : Nat} {v : Value} {t : TypeId} (h : w.heap[b]? = some (.cells #[v] t (0, 0))) (o : Obj) : (w.alloc o).heap[b]? = some (.cells #[v] t (0, 0)) :=
  (Below.heap_alloc w o b (Array.getElem?_eq_some_iff.1 h).1).trans h
theorem oneDrewN {w : World} {b : Nat} {v : Value} {t : TypeId} (h : w.heap[b]? = some (.cells #[v] t (0, 0))) (n : Nat) : (w.drewN n).heap[b]? = some (.cells #[v] t (0, 0)) := h
theorem oneLt {w : World} {b : Nat} {o : Obj} (h : w.heap[b]? = some o) : b < w.heap.size := (Array.getElem?_eq_some_iff.1 h).1

/-! ### expressions -/
mutual
def ER (w : World) : EX → Value → Prop
  | .node o x i l, v => ∃ A c, v = .agg #[.int .i64 o, .int .i64 x, .int .i64 i, .slice A l.length c] ∧ l.length ≤ c ∧ l.length ≤ 35184372088831 ∧
      (l.length ≠ 0 → ∃ b off, A = some ⟨b, off, none⟩ ∧ ERs w b off l)
def ERs (w : World) (b off : Nat) : List EX → Prop
  | [] => True
  | t :: ts => (∃ v0 v1 v2 v3, w.cell? ⟨b, off, none⟩ = some v0 ∧ w.cell? ⟨b, off + 1, none⟩ = some v1 ∧ w.cell? ⟨b, off + 2, none⟩ = some v2 ∧ w.cell? ⟨b, off + 3, none⟩ = some v3 ∧ ER w t (.agg #[v0, v1, v2, v3])) ∧ ERs w b (off + 4) ts
end
mutual
theorem ER.below {w w' : World} (hb : Below w.heap.size w w') : ∀ t v, ER w t v → ER w' t v
  | .node o x i l, v, h => by
    obtain ⟨A, c, hv, h1, h2, h3⟩ := h
    exact ⟨A, c, hv, h1, h2, fun hl => by
      obtain ⟨b, off, hA, hs⟩ := h3 hl
      exact ⟨b, off, hA, ERs.below hb l _ _ hs⟩⟩
theorem ERs.below {w w' : World} (hb : Below w.heap.size w w') : ∀ l b off, ERs w b off l → ERs w' b off l
  | [], _, _, _ => trivial
  | t :: ts, b, off, ⟨⟨v0, v1, v2, v3, h0, h1, h2, h3, ht⟩, hs⟩ =>
    ⟨⟨v0, v1, v2, v3, keepc hb h0, keepc hb h1, keepc hb h2, keepc hb h3, ER.below hb t _ ht⟩, ERs.below hb ts _ _ hs⟩
end
theorem ER.kept {N : Nat} {w w' : World} (hb : Below N w w') (hN : w.heap.size ≤ N) {t : EX} {v : Value} (h : ER w t v) : ER w' t v := ER.below (hb.mono hN) t v h
theorem ERs.cons {w : World} {b off : Nat} {t : EX} {ts : List EX} (h : ERs w b off (t :: ts)) : ∃ v0 v1 v2 v3, w.cell? ⟨b, off, none⟩ = some v0 ∧ w.cell? ⟨b, off + 1, none⟩ = some v1 ∧ w.cell? ⟨b, off + 2, none⟩ = some v2 ∧ w.cell? ⟨b, off + 3, none⟩ = some v3 ∧ b < w.heap.size ∧ ER w t (.agg #[v0, v1, v2, v3]) ∧ ERs w b (off + 4) ts := by
  obtain ⟨⟨v0, v1, v2, v3, h0, h1, h2, h3, ht⟩, hs⟩ := h
  exact ⟨v0, v1, v2, v3, h0, h1, h2, h3, World.block_lt_of_cell? _ _ h0, ht, hs⟩
/-- The expressions from place k on of a slice at A. -/
def ERo (w : World) (A : Option Addr) (k : Nat) (l : List EX) : Prop := l ≠ [] → ∃ b off, A = some ⟨b, off, none⟩ ∧ ERs w b (off + k * 4) l
theorem ERo.cons {w : World} {A : Option Addr} {k : Nat} {t : EX} {ts : List EX} (h : ERo w A k (t :: ts)) : ∃ b off, A = some ⟨b, off, none⟩ ∧ ∃ v0 v1 v2 v3, w.cell? ⟨b, off + k * 4, none⟩ = some v0 ∧ w.cell? ⟨b, off + k * 4 + 1, none⟩ = some v1 ∧ w.cell? ⟨b, off + k * 4 + 2, none⟩ = some v2 ∧ w.cell? ⟨b, off + k * 4 + 3, none⟩ = some v3 ∧ b < w.heap.size ∧ b < w.heap.size + 1 ∧ b < w.heap.size + 1 + 1 ∧ ER w t (.agg #[v0, v1, v2, v3]) ∧ ERo w A (k + 1) ts := by
  obtain ⟨b, off, hA, hs⟩ := h (by simp)
  obtain ⟨v0, v1, v2, v3, h0, h1, h2, h3, hb, ht, hr⟩ := hs.cons
  exact ⟨b, off, hA, v0, v1, v2, v3, h0, h1, h2, h3, hb, by omega, by omega, ht, fun _ => ⟨b, off, hA, by rw [Nat.succ_mul]; exact hr⟩⟩
/-- The same, the cells' values written out. -/
theorem ERo.cons' {w : World} {A : Option Addr} {k : Nat} {t : EX} {ts : List EX} (h : ERo w A k (t :: ts)) : ∃ b off, A = some ⟨b, off, none⟩ ∧ ∃ A' c, w.cell? ⟨b, off + k * 4, none⟩ = some (.int .i64 t.op) ∧ w.cell? ⟨b, off + k * 4 + 1, none⟩ = some (.int .i64 t.val) ∧ w.cell? ⟨b, off + k * 4 + 2, none⟩ = some (.int .i64 t.idx) ∧ w.cell? ⟨b, off + k * 4 + 3, none⟩ = some (.slice A' t.args.length c) ∧ b < w.heap.size ∧ b < w.heap.size + 1 ∧ b < w.heap.size + 1 + 1 ∧ ER w t (.agg #[.int .i64 t.op, .int .i64 t.val, .int .i64 t.idx, .slice A' t.args.length c]) ∧ ERo w A (k + 1) ts := by
  obtain ⟨b, off, hA, v0, v1, v2, v3, h0, h1, h2, h3, hb, hb1, hb2, ht, hr⟩ := h.cons
  match t, ht with
  | .node o x i l, ht =>
    have ht' := ht
    obtain ⟨A', c, hv, _, _, _⟩ := ht
    simp only [Value.agg.injEq, Array.mk.injEq, List.cons.injEq, and_true] at hv
    obtain ⟨rfl, rfl, rfl, rfl⟩ := hv
    exact ⟨b, off, hA, A', c, h0, h1, h2, h3, hb, hb1, hb2, ht', hr⟩
theorem ER.ero {w : World} {A : Option Addr} {l : List EX} (h : l.length ≠ 0 → ∃ b off, A = some ⟨b, off, none⟩ ∧ ERs w b off l) : ERo w A 0 l := fun hl => by
  obtain ⟨b, off, hA, hs⟩ := h (by simpa using hl)
  exact ⟨b, off, hA, by simpa using hs⟩
theorem ERo.kept {N : Nat} {w w' : World} (hb : Below N w w') (hN : w.heap.size ≤ N) {A : Option Addr} {k : Nat} {l : List EX} (h : ERo w A k l) : ERo w' A k l := fun hl => by
  obtain ⟨b, off, hA, hs⟩ := h hl
  exact ⟨b, off, hA, ERs.below (hb.mono hN) l _ _ hs⟩

/-! ### numbers -/
/-- The numbers from place k on of a slice at A. -/
def IRs (w : World) (b off : Nat) : List Int → Prop
  | [] => True
  | x :: xs => w.cell? ⟨b, off, none⟩ = some (.int .i64 x) ∧ IRs w b (off + 1) xs
def IRo (w : World) (A : Option Addr) (k : Nat) (l : List Int) : Prop := l ≠ [] → ∃ b off, A = some ⟨b, off, none⟩ ∧ IRs w b (off + k) l
theorem IRs.below {w w' : World} (hb : Below w.heap.size w w') : ∀ l b off, IRs w b off l → IRs w' b off l
  | [], _, _, _ => trivial
  | _ :: xs, b, off, ⟨h0, hs⟩ => ⟨keepc hb h0, IRs.below hb xs b _ hs⟩
theorem IRo.kept {N : Nat} {w w' : World} (hb : Below N w w') (hN : w.heap.size ≤ N) {A : Option Addr} {k : Nat} {l : List Int} (h : IRo w A k l) : IRo w' A k l := fun hl => by
  obtain ⟨b, off, hA, hs⟩ := h hl
  exact ⟨b, off, hA, IRs.below (hb.mono hN) l _ _ hs⟩
theorem IRo.cons {w : World} {A : Option Addr} {k : Nat} {x : Int} {xs : List Int} (h : IRo w A k (x :: xs)) : ∃ b off, A = some ⟨b, off, none⟩ ∧ w.cell? ⟨b, off + k, none⟩ = some (.int .i64 x) ∧ b < w.heap.size ∧ b < w.heap.size + 1 ∧ b < w.heap.size + 1 + 1 ∧ IRo w A (k + 1) xs := by
  obtain ⟨b, off, hA, h0, hs⟩ := h (by simp)
  have hb := World.block_lt_of_cell? _ _ h0
  exact ⟨b, off, hA, h0, hb, by simp at hb; omega, by simp at hb; omega, fun _ => ⟨b, off, hA, hs⟩⟩
theorem IRs.of_cells {w : World} {b : Nat} : ∀ (xs : List Int) (off : Nat), (∀ j u, (xs.map (Value.int .i64))[j]? = some u → w.cell? ⟨b, off + j, none⟩ = some u) → IRs w b off xs
  | [], _, _ => trivial
  | x :: xs, off, h => ⟨h 0 _ (by simp), IRs.of_cells xs _ fun j u hu => by
      have := h (j + 1) u (by simpa using hu)
      rwa [show off + (j + 1) = off + 1 + j by omega] at this⟩
theorem IRo.of_own {w : World} {base c n : Nat} {e : TypeId} {A : Option Addr} {xs : List Int} (h : w.ownsRow base e 1 (.slice A n c) n (xs.map (Value.int .i64))) : IRo w A 0 xs := fun hl => by
  have hn : n = xs.length := by have := h.1; simp at this; omega
  obtain ⟨g, cap, hv, _, hlt⟩ := World.ownsRow.form h (by rw [hn]; exact List.length_pos_iff.2 hl)
  have hA : A = some ⟨g, 0, none⟩ := by injection hv
  subst hA
  refine ⟨g, 0, rfl, IRs.of_cells _ _ fun j u hu => ?_⟩
  have := World.ownsRow.cells h (g := g) rfl j u hu
  unfold Addr.add at this
  split at this
  · rename_i h0; subst h0; simpa using this
  · simpa using this

/-! ### rows of numbers of the call's own -/
theorem own_form {w : World} {base : Nat} {e : TypeId} {size : Nat} {v : Value} {n : Nat} {xs : List Value} (h : w.ownsRow base e size v n xs) : ∃ A c, v = .slice A n c := by
  rcases h.2 with ⟨rfl, rfl⟩ | ⟨g, cap, cur, rfl, _⟩
  · exact ⟨none, 0, rfl⟩
  · exact ⟨some ⟨g, 0, none⟩, cap, rfl⟩
theorem infoI : (Try.prog.info? 3).map (fun i => (i.zero, i.size, i.bytes)) = some (some (.int .i64 0), 1, 8) := by kernel_rfl
theorem app_int {ops : Array Oper} {rest : List Oper} {o : Oper} {a : Act} {Q : Exit → Act → World → Prop} {w : World} (hgd : o.guard = none) (s x : Operand)
    (ho : o.op = .call { callee := .builtin .append, args := #[s, x], argTypes := #[33, 33] })
    (base : Nat) (v : Value) (n : Nat) (xs : List Int) (hs : a.eval s = v) (hown : w.ownsRow base 3 1 v n (xs.map (Value.int .i64))) (b : Nat) (q : Int) (hx : a.eval x = .slice (some ⟨b, 0, none⟩) 1 1)
    (hc : w.cell? ⟨b, 0, none⟩ = some (.int .i64 q)) (hn : n ≤ 1000000) (hbase : base ≤ w.heap.size)
    (h : ∀ v' w', w'.ownsRow base 3 1 v' (n + 1) ((xs ++ [q]).map (Value.int .i64)) → w.grownBy w' v.ownBlock → wpList Try.prog ops Q rest (a.put o.dst v') w') : wpList Try.prog ops Q (o :: rest) a w := by
  obtain ⟨i0, hi, hz0, hz1, hz2⟩ := info_parts infoI
  refine wpList_append_own _ hgd s x 33 ho base 3 i0 (.int .i64 0) 1 8 Try.underlying33 hi hz0 hz1 hz2 rfl (by decide) v n _ hs hown ⟨b, 0, none⟩ 1 1 [.int .i64 q] hx rfl ?_ (by simp [Value.oneCell']) (by simp only [maxLen]; omega) (by omega) hbase ?_
  · intro j u hu
    cases j with
    | zero => simp at hu; subst hu; simpa [Addr.add] using hc
    | succ j => simp at hu
  · intro v' w' h1 h2 _
    exact h v' w' (by simpa using h1) h2
end Go.Proofs.Ytmclnnpaephkpaa

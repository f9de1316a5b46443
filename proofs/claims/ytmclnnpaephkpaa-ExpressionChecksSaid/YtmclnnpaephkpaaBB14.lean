/-
  Words for memory: rows of bounds, rows of expressions of the call's own.
-/
import Derived.Test.YtmclnnpaephkpaaWF14
import Derived.Test.YtmclnnpaephkpaaWG14
import Derived.Test.YtmclnnpaephkpaaWK14
namespace Go.Proofs.Ytmclnnpaephkpaa
set_option linter.unusedVariables false
set_option linter.unusedSimpArgs false
set_option linter.unnecessarySimpa false
set_option linter.unusedSectionVars false
open Go.RowKit

/-- The bounds from place k on of a slice at A. -/
def SRs (w : World) (b off : Nat) : List (Int × Int) → Prop
  | [] => True
  | x :: xs => w.cell? ⟨b, off, none⟩ = some (.int .i64 x.1) ∧ w.cell? ⟨b, off + 1, none⟩ = some (.int .i64 x.2) ∧ SRs w b (off + 2) xs
def SRo (w : World) (A : Option Addr) (l : List (Int × Int)) : Prop := l ≠ [] → ∃ b off, A = some ⟨b, off, none⟩ ∧ b < w.heap.size ∧ SRs w b off l
def flatS (l : List (Int × Int)) : List Value := l.flatMap fun p => [.int .i64 p.1, .int .i64 p.2]
theorem flatS_app (l : List (Int × Int)) (p : Int × Int) : flatS l ++ [.int .i64 p.1, .int .i64 p.2] = flatS (l ++ [p]) := by simp [flatS]
theorem SRs.of_cells {w : World} {b : Nat} : ∀ (xs : List (Int × Int)) (off : Nat), (∀ j u, (flatS xs)[j]? = some u → w.cell? ⟨b, off + j, none⟩ = some u) → SRs w b off xs
  | [], _, _ => trivial
  | x :: xs, off, h => ⟨h 0 _ (by simp [flatS]), h 1 _ (by simp [flatS]), SRs.of_cells xs _ fun j u hu => by
      have := h (j + 2) u (by simpa [flatS] using hu)
      rwa [show off + (j + 2) = off + 2 + j by omega] at this⟩
theorem SRo.of_own {w : World} {base c n : Nat} {e : TypeId} {A : Option Addr} {xs : List (Int × Int)} (hn : n = xs.length) (h : w.ownsRow base e 2 (.slice A n c) n (flatS xs)) : SRo w A xs := fun hl => by
  obtain ⟨g, cap, hv, _, hlt⟩ := World.ownsRow.form h (by rw [hn]; exact List.length_pos_iff.2 hl)
  have hA : A = some ⟨g, 0, none⟩ := by injection hv
  subst hA
  refine ⟨g, 0, rfl, hlt, SRs.of_cells _ _ fun j u hu => ?_⟩
  have := World.ownsRow.cells h (g := g) rfl j u hu
  unfold Addr.add at this
  split at this
  · rename_i h0; subst h0; simpa using this
  · simpa using this
theorem infoS : (Try.prog.info? 88).map (fun i => (i.zero, i.size, i.bytes)) = some (some (.agg #[.int .i64 0, .int .i64 0]), 2, 16) := by kernel_rfl
theorem infoE : (Try.prog.info? 24).map (fun i => (i.zero, i.size, i.bytes)) = some (some (.agg #[.int .i64 0, .int .i64 0, .int .i64 0, .slice none 0 0]), 4, 48) := by kernel_rfl
theorem app_span {ops : Array Oper} {rest : List Oper} {o : Oper} {a : Act} {Q : Exit → Act → World → Prop} {w : World} (hgd : o.guard = none) (s x : Operand)
    (ho : o.op = .call { callee := .builtin .append, args := #[s, x], argTypes := #[103, 103] })
    (base : Nat) (v : Value) (n : Nat) (xs : List (Int × Int)) (hs : a.eval s = v) (hown : w.ownsRow base 88 2 v n (flatS xs)) (b : Nat) (q : Int × Int) (hx : a.eval x = .slice (some ⟨b, 0, none⟩) 1 1)
    (hc : w.cell? ⟨b, 0, none⟩ = some (.int .i64 q.1)) (hc' : w.cell? ⟨b, 1, none⟩ = some (.int .i64 q.2)) (hn : n ≤ 1000000) (hbase : base ≤ w.heap.size)
    (h : ∀ v' w', w'.ownsRow base 88 2 v' (n + 1) (flatS (xs ++ [q])) → w.grownBy w' v.ownBlock → wpList Try.prog ops Q rest (a.put o.dst v') w') : wpList Try.prog ops Q (o :: rest) a w := by
  obtain ⟨i0, hi, hz0, hz1, hz2⟩ := info_parts infoS
  refine wpList_append_own _ hgd s x 103 ho base 88 i0 (.agg #[.int .i64 0, .int .i64 0]) 2 16 Try.underlying103 hi hz0 hz1 hz2 (by simp [Value.cells]) (by decide) v n _ hs hown ⟨b, 0, none⟩ 1 1 [.int .i64 q.1, .int .i64 q.2] hx rfl ?_ (by simp [Value.oneCell']) (by simp only [maxLen]; omega) (by omega) hbase ?_
  · intro j u hu
    match j with
    | 0 => simp at hu; subst hu; simpa [Addr.add] using hc
    | 1 => simp at hu; subst hu; simpa [Addr.add] using hc'
    | j + 2 => simp at hu
  · intro v' w' h1 h2 _
    exact h v' w' (by rw [flatS_app] at h1; exact h1) h2
theorem ownBelowN {w w2 : World} {base n size : Nat} {e : TypeId} {v : Value} {xs : List Value} (h : w.ownsRow base e size v n xs) (hb2 : Below w.heap.size w w2) : w2.ownsRow base e size v n xs :=
  World.ownsRow.kept h (w' := w2) (row := none) ⟨hb2.os, hb2.tape, hb2.output, hb2.size, fun i hi _ => hb2.block i hi⟩ (by cases h : Value.ownBlock v <;> simp)
end Go.Proofs.Ytmclnnpaephkpaa

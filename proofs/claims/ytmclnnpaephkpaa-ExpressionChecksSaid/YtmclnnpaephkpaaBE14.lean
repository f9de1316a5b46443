/-
  Words for memory: expressions with their blocks named; rows of expressions of the call's own.
-/
import Derived.Test.YtmclnnpaephkpaaWT14
namespace Go.Proofs.Ytmclnnpaephkpaa
set_option linter.unusedVariables false
set_option linter.unusedSimpArgs false
set_option linter.unnecessarySimpa false
set_option linter.unusedSectionVars false
open Go.RowKit

/-! ### an expression in memory, all of whose blocks meet F -/
mutual
def EF (F : Nat → Prop) (w : World) : EX → Value → Prop
  | .node o x i l, v => ∃ A c, v = .agg #[.int .i64 o, .int .i64 x, .int .i64 i, .slice A l.length c] ∧ l.length ≤ c ∧ l.length ≤ 35184372088831 ∧
      (l.length ≠ 0 → ∃ b off, A = some ⟨b, off, none⟩ ∧ F b ∧ b < w.heap.size ∧ EFs F w b off l)
def EFs (F : Nat → Prop) (w : World) (b off : Nat) : List EX → Prop
  | [] => True
  | t :: ts => (∃ v0 v1 v2 v3, w.cell? ⟨b, off, none⟩ = some v0 ∧ w.cell? ⟨b, off + 1, none⟩ = some v1 ∧ w.cell? ⟨b, off + 2, none⟩ = some v2 ∧ w.cell? ⟨b, off + 3, none⟩ = some v3 ∧ EF F w t (.agg #[v0, v1, v2, v3])) ∧ EFs F w b (off + 4) ts
end
mutual
theorem EF.er {F : Nat → Prop} {w : World} : ∀ t v, EF F w t v → ER w t v
  | .node o x i l, v, h => by
    obtain ⟨A, c, hv, h1, h2, h3⟩ := h
    exact ⟨A, c, hv, h1, h2, fun hl => by
      obtain ⟨b, off, hA, _, _, hs⟩ := h3 hl
      exact ⟨b, off, hA, EFs.er l _ _ hs⟩⟩
theorem EFs.er {F : Nat → Prop} {w : World} : ∀ l b off, EFs F w b off l → ERs w b off l
  | [], _, _, _ => trivial
  | t :: ts, b, off, ⟨⟨v0, v1, v2, v3, h0, h1, h2, h3, ht⟩, hs⟩ =>
    ⟨⟨v0, v1, v2, v3, h0, h1, h2, h3, EF.er t _ ht⟩, EFs.er ts _ _ hs⟩
end
mutual
theorem EF.mono {F G : Nat → Prop} {w w' : World} (hF : ∀ b, F b → b < w.heap.size → G b ∧ b < w'.heap.size ∧ ∀ o, w'.cell? ⟨b, o, none⟩ = w.cell? ⟨b, o, none⟩) : ∀ t v, EF F w t v → EF G w' t v
  | .node o x i l, v, h => by
    obtain ⟨A, c, hv, h1, h2, h3⟩ := h
    exact ⟨A, c, hv, h1, h2, fun hl => by
      obtain ⟨b, off, hA, hb, hlt, hs⟩ := h3 hl
      obtain ⟨g1, g2, g3⟩ := hF b hb hlt
      exact ⟨b, off, hA, g1, g2, EFs.mono hF b g3 l _ hs⟩⟩
theorem EFs.mono {F G : Nat → Prop} {w w' : World} (hF : ∀ b, F b → b < w.heap.size → G b ∧ b < w'.heap.size ∧ ∀ o, w'.cell? ⟨b, o, none⟩ = w.cell? ⟨b, o, none⟩) (b : Nat) (hb : ∀ o, w'.cell? ⟨b, o, none⟩ = w.cell? ⟨b, o, none⟩) : ∀ l off, EFs F w b off l → EFs G w' b off l
  | [], _, _ => trivial
  | t :: ts, off, ⟨⟨v0, v1, v2, v3, h0, h1, h2, h3, ht⟩, hs⟩ =>
    ⟨⟨v0, v1, v2, v3, (hb _).trans h0, (hb _).trans h1, (hb _).trans h2, (hb _).trans h3, EF.mono hF t _ ht⟩, EFs.mono hF b hb ts _ hs⟩
end
mutual
theorem ER.ef {w : World} : ∀ t v, ER w t v → EF (fun b => b < w.heap.size) w t v
  | .node o x i l, v, h => by
    obtain ⟨A, c, hv, h1, h2, h3⟩ := h
    exact ⟨A, c, hv, h1, h2, fun hl => by
      obtain ⟨b, off, hA, hs⟩ := h3 hl
      have hlt : b < w.heap.size := by
        cases l with
        | nil => simp at hl
        | cons t ts =>
          obtain ⟨_, _, _, _, _, _, _, _, hb, _, _⟩ := hs.cons
          exact hb
      exact ⟨b, off, hA, hlt, hlt, ERs.ef l _ _ hs⟩⟩
theorem ERs.ef {w : World} : ∀ l b off, ERs w b off l → EFs (fun b => b < w.heap.size) w b off l
  | [], _, _, _ => trivial
  | t :: ts, b, off, ⟨⟨v0, v1, v2, v3, h0, h1, h2, h3, ht⟩, hs⟩ =>
    ⟨⟨v0, v1, v2, v3, h0, h1, h2, h3, ER.ef t _ ht⟩, ERs.ef ts _ _ hs⟩
end
/-- New blocks alone were made. -/
theorem EF.below {F : Nat → Prop} {w w' : World} (hb : Below w.heap.size w w') {t : EX} {v : Value} (h : EF F w t v) : EF F w' t v :=
  EF.mono (fun b hF hlt => ⟨hF, Nat.lt_of_lt_of_le hlt hb.size, fun o => hb.cell (p := ⟨b, o, none⟩) hlt⟩) t v h
theorem EF.weaken {F G : Nat → Prop} {w : World} (hFG : ∀ b, F b → b < w.heap.size → G b) {t : EX} {v : Value} (h : EF F w t v) : EF G w t v :=
  EF.mono (fun b hF hlt => ⟨hFG b hF hlt, hlt, fun _ => rfl⟩) t v h
/-- A row of the call's own was turned, that holds none of the blocks. -/
theorem EF.grown {F : Nat → Prop} {w w' : World} {row : Option Nat} (hg : w.grownBy w' row) (hr : ∀ b, F b → some b ≠ row) {t : EX} {v : Value} (h : EF F w t v) : EF F w' t v :=
  EF.mono (fun b hF hlt => ⟨hF, Nat.lt_of_lt_of_le hlt hg.size, fun o => hg.cell_far ⟨b, o, none⟩ hlt (hr b hF)⟩) t v h

/-! ### a row of expressions of the call's own -/
/-- The cells of values of expressions. -/
def flatE (l : List (Int × Int × Int × Option Addr × Nat × Nat)) : List Value := l.flatMap fun p => [.int .i64 p.1, .int .i64 p.2.1, .int .i64 p.2.2.1, .slice p.2.2.2.1 p.2.2.2.2.1 p.2.2.2.2.2]
def headV (p : Int × Int × Int × Option Addr × Nat × Nat) : Value := .agg #[.int .i64 p.1, .int .i64 p.2.1, .int .i64 p.2.2.1, .slice p.2.2.2.1 p.2.2.2.2.1 p.2.2.2.2.2]
theorem flatE_app (l : List (Int × Int × Int × Option Addr × Nat × Nat)) (p : Int × Int × Int × Option Addr × Nat × Nat) : flatE l ++ [.int .i64 p.1, .int .i64 p.2.1, .int .i64 p.2.2.1, .slice p.2.2.2.1 p.2.2.2.2.1 p.2.2.2.2.2] = flatE (l ++ [p]) := by simp [flatE]
/-- The values that the row holds are these expressions, none of whose blocks lies outside F. -/
def RowE (F : Nat → Prop) (w : World) : List (Int × Int × Int × Option Addr × Nat × Nat) → List EX → Prop
  | [], [] => True
  | p :: ps, t :: ts => EF F w t (headV p) ∧ RowE F w ps ts
  | _, _ => False
theorem RowE.mono {F G : Nat → Prop} {w w' : World} (h : ∀ t v, EF F w t v → EF G w' t v) : ∀ ps ts, RowE F w ps ts → RowE G w' ps ts
  | [], [], _ => trivial
  | _ :: ps, _ :: ts, ⟨h1, h2⟩ => ⟨h _ _ h1, RowE.mono h ps ts h2⟩
  | [], _ :: _, hh => hh.elim
  | _ :: _, [], hh => hh.elim
theorem RowE.snoc {F : Nat → Prop} {w : World} {p : Int × Int × Int × Option Addr × Nat × Nat} {t : EX} (ht : EF F w t (headV p)) : ∀ ps ts, RowE F w ps ts → RowE F w (ps ++ [p]) (ts ++ [t])
  | [], [], _ => ⟨ht, trivial⟩
  | _ :: ps, _ :: ts, ⟨h1, h2⟩ => ⟨h1, RowE.snoc ht ps ts h2⟩
  | [], _ :: _, hh => hh.elim
  | _ :: _, [], hh => hh.elim
theorem RowE.efs {F : Nat → Prop} {w : World} {b : Nat} : ∀ ps ts off, RowE F w ps ts → (∀ j u, (flatE ps)[j]? = some u → w.cell? ⟨b, off + j, none⟩ = some u) → EFs F w b off ts
  | [], [], _, _, _ => trivial
  | p :: ps, t :: ts, off, ⟨h1, h2⟩, h => ⟨⟨_, _, _, _, h 0 _ (by simp [flatE]), h 1 _ (by simp [flatE]), h 2 _ (by simp [flatE]), h 3 _ (by simp [flatE]), h1⟩, RowE.efs ps ts (off + 4) h2 fun j u hu => by
      have := h (j + 4) u (by simpa [flatE] using hu)
      rwa [show off + (j + 4) = off + 4 + j by omega] at this⟩
  | [], _ :: _, _, hh, _ => hh.elim
  | _ :: _, [], _, hh, _ => hh.elim
theorem RowE.len {F : Nat → Prop} {w : World} : ∀ ps ts, RowE F w ps ts → ps.length = ts.length
  | [], [], _ => rfl
  | _ :: ps, _ :: ts, ⟨_, h2⟩ => by simp [RowE.len ps ts h2]
  | [], _ :: _, hh => hh.elim
  | _ :: _, [], hh => hh.elim
/-- The expression whose arguments a row of the call's own holds. -/
theorem EF.of_row {F : Nat → Prop} {w : World} {base c n : Nat} {A : Option Addr} {o x i : Int} {ps : List (Int × Int × Int × Option Addr × Nat × Nat)} {ts : List EX}
    (hn : n = ts.length) (hc : n ≤ c) (hc2 : n ≤ 35184372088831) (hown : w.ownsRow base 24 4 (.slice A n c) n (flatE ps)) (hr : RowE F w ps ts) (hF : ∀ b, base ≤ b → F b) : EF F w (.node o x i ts) (.agg #[.int .i64 o, .int .i64 x, .int .i64 i, .slice A n c]) := by
  rw [EF]
  subst hn
  refine ⟨A, c, rfl, hc, hc2, fun hl => ?_⟩
  obtain ⟨g, cap, hv, hb, hlt⟩ := World.ownsRow.form hown (Nat.pos_of_ne_zero hl)
  have hA : A = some ⟨g, 0, none⟩ := by injection hv
  subst hA
  refine ⟨g, 0, rfl, hF g hb, hlt, RowE.efs ps ts 0 hr fun j u hu => ?_⟩
  have := World.ownsRow.cells hown (g := g) rfl j u hu
  unfold Addr.add at this
  split at this
  · rename_i h0; subst h0; simpa using this
  · simpa using this
end Go.Proofs.Ytmclnnpaephkpaa

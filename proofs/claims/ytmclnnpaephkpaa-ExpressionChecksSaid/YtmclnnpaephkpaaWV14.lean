/-
  WALKS of chapter 14: logical (the rules of OpNot, OpAnd, OpOr, OpIte).
-/
import Derived.Test.YtmclnnpaephkpaaWU14
import Derived.Test.YtmclnnpaephkpaaWH14
import Derived.Test.YtmclnnpaephkpaaHeld14
import Derived.Deep.Cut
import Derived.Deep.CutBlock
namespace Go.Proofs.Ytmclnnpaephkpaa
set_option linter.unusedVariables false
set_option linter.unusedSimpArgs false
set_option linter.unnecessarySimpa false
set_option linter.unusedSectionVars false
open Go.RowKit

theorem EF.zero (F : Nat → Prop) (w : World) : EF F w zeroE (.agg #[.int .i64 0, .int .i64 0, .int .i64 0, .slice none 0 0]) := by
  unfold zeroE EF
  exact ⟨none, 0, rfl, by decide, by decide, fun h => absurd rfl h⟩
theorem EF.two_zero {F : Nat → Prop} {w : World} (o : Int) (g : Nat) (hF : F g) (hg : g < w.heap.size) (h0 : w.cell? ⟨g, 0, none⟩ = some (.int .i64 0)) (h1 : w.cell? ⟨g, 1, none⟩ = some (.int .i64 0)) (h2 : w.cell? ⟨g, 2, none⟩ = some (.int .i64 0)) (h3 : w.cell? ⟨g, 3, none⟩ = some (.slice none 0 0))
    (h4 : w.cell? ⟨g, 4, none⟩ = some (.int .i64 0)) (h5 : w.cell? ⟨g, 5, none⟩ = some (.int .i64 0)) (h6 : w.cell? ⟨g, 6, none⟩ = some (.int .i64 0)) (h7 : w.cell? ⟨g, 7, none⟩ = some (.slice none 0 0)) :
    EF F w (.node o 0 0 [zeroE, zeroE]) (.agg #[.int .i64 o, .int .i64 0, .int .i64 0, .slice (some ⟨g, 0, none⟩) 2 2]) := by
  rw [EF]
  exact ⟨some ⟨g, 0, none⟩, 2, rfl, by decide, by decide, fun _ => ⟨g, 0, rfl, hF, hg, ⟨_, _, _, _, h0, h1, h2, h3, EF.zero F w⟩, ⟨_, _, _, _, h4, h5, h6, h7, EF.zero F w⟩, trivial⟩⟩
theorem trueF_any (w : World) :
    Calls Try.prog 38 #[] w fun e w' => ∃ A c, e = .returned (.agg #[.int .i64 6, .int .i64 0, .int .i64 0, .slice A 2 c]) ∧ EF (fun b => w.heap.size ≤ b) w' trueE (.agg #[.int .i64 6, .int .i64 0, .int .i64 0, .slice A 2 c]) ∧ Below w.heap.size w w' := by
  go_enter Try.func38, Try.ntmps38
  go_wp2
  refine bodyPost_ret (v := .agg #[.int .i64 6, .int .i64 0, .int .i64 0, .slice (some ⟨w.heap.size + 1, 0, none⟩) 2 2]) (by simp [results, Try.results38, go_sem]) rfl ⟨_, _, rfl, EF.two_zero 6 (w.heap.size + 1) (by omega) (by simp) ?_ ?_ ?_ ?_ ?_ ?_ ?_ ?_, (by repeat (first | exact Below.refl _ _ | assumption | refine Below.drew ?_ | refine below_drewN ?_ _ | refine Below.setCell ?_ (by simp; try omega) _ | refine Below.alloc ?_ (by simp; try omega) _))⟩
  all_goals simp [go_sem]
theorem falseF_any (w : World) :
    Calls Try.prog 40 #[] w fun e w' => ∃ A c, e = .returned (.agg #[.int .i64 7, .int .i64 0, .int .i64 0, .slice A 2 c]) ∧ EF (fun b => w.heap.size ≤ b) w' falseE (.agg #[.int .i64 7, .int .i64 0, .int .i64 0, .slice A 2 c]) ∧ Below w.heap.size w w' := by
  go_enter Try.func40, Try.ntmps40
  go_wp2
  refine bodyPost_ret (v := .agg #[.int .i64 7, .int .i64 0, .int .i64 0, .slice (some ⟨w.heap.size + 1, 0, none⟩) 2 2]) (by simp [results, Try.results40, go_sem]) rfl ⟨_, _, rfl, EF.two_zero 7 (w.heap.size + 1) (by omega) (by simp) ?_ ?_ ?_ ?_ ?_ ?_ ?_ ?_, (by repeat (first | exact Below.refl _ _ | assumption | refine Below.drew ?_ | refine below_drewN ?_ _ | refine Below.setCell ?_ (by simp; try omega) _ | refine Below.alloc ?_ (by simp; try omega) _))⟩
  all_goals simp [go_sem]
def LPost (F : Nat → Prop) (w : World) (y : EX) (en : Ending) (w' : World) : Prop := ∃ v', en = .returned v' ∧ EF (fun b => F b ∨ w.heap.size ≤ b) w' y v' ∧ Below w.heap.size w w'
/-- The result lies in a box of the call's own, and was read or made before. -/
theorem lpost {F : Nat → Prop} {w w7 : World} {y t : EX} {v' u0 u1 u2 u3 : Value} (hy : y = t) (h : EF (fun b => (F b ∧ b < w.heap.size) ∨ w.heap.size + 2 ≤ b) w7 t v') (hb : Below w.heap.size w w7) :
    LPost F w y (.returned v') ((((w7.setCell ⟨w.heap.size + 1, 0, none⟩ u0).setCell ⟨w.heap.size + 1, 1, none⟩ u1).setCell ⟨w.heap.size + 1, 2, none⟩ u2).setCell ⟨w.heap.size + 1, 3, none⟩ u3) := by
  subst hy
  refine ⟨v', rfl, ?_, (((hb.setCell (by simp) _).setCell (by simp) _).setCell (by simp) _).setCell (by simp) _⟩
  refine EF.weaken (F := fun b => (F b ∧ b < w.heap.size) ∨ w.heap.size + 2 ≤ b) (fun b hb _ => by rcases hb with hb | hb; exact .inl hb.1; exact .inr (by omega)) ?_
  repeat (refine EF.set (fun b hb => by simp; omega) ?_)
  exact h
theorem EFs.cons {F : Nat → Prop} {w : World} {b off : Nat} {t : EX} {ts : List EX} (h : EFs F w b off (t :: ts)) : ∃ A c, w.cell? ⟨b, off, none⟩ = some (.int .i64 t.op) ∧ w.cell? ⟨b, off + 1, none⟩ = some (.int .i64 t.val) ∧ w.cell? ⟨b, off + 2, none⟩ = some (.int .i64 t.idx) ∧ w.cell? ⟨b, off + 3, none⟩ = some (.slice A t.args.length c) ∧ EF F w t (.agg #[.int .i64 t.op, .int .i64 t.val, .int .i64 t.idx, .slice A t.args.length c]) ∧ EFs F w b (off + 4) ts := by
  obtain ⟨⟨v0, v1, v2, v3, h0, h1, h2, h3, ht⟩, hs⟩ := h
  match t, ht with
  | .node o x i l, ht =>
    have ht' := ht
    obtain ⟨A', c, hv, _, _, _⟩ := ht
    simp only [Value.agg.injEq, Array.mk.injEq, List.cons.injEq, and_true] at hv
    obtain ⟨rfl, rfl, rfl, rfl⟩ := hv
    exact ⟨A', c, h0, h1, h2, h3, ht', hs⟩
theorem EF.keepG {F : Nat → Prop} {w w7 : World} {t : EX} {v : Value} (h : EF F w t v) (hb : Below w.heap.size w w7) : EF (fun b => (F b ∧ b < w.heap.size) ∨ w.heap.size + 2 ≤ b) w7 t v :=
  EF.mono (fun b hF hlt => ⟨.inl ⟨hF, hlt⟩, Nat.lt_of_lt_of_le hlt hb.size, fun o => hb.cell (p := ⟨b, o, none⟩) hlt⟩) t v h
theorem EF.newG {F : Nat → Prop} {w w8 : World} {W : Nat} {t : EX} {v : Value} (h : EF (fun b => W ≤ b) w8 t v) (hW : w.heap.size + 2 ≤ W) : EF (fun b => (F b ∧ b < w.heap.size) ∨ w.heap.size + 2 ≤ b) w8 t v :=
  EF.weaken (fun b hb _ => .inr (Nat.le_trans hW hb)) h
set_option maxRecDepth 100000 in
set_option maxHeartbeats 1000000 in
theorem logical_not (x i : Int) (a : EX) (hw : a.op = 10 → ∃ b, a.args = [b]) (F : Nat → Prop) (v : Value) (w : World) (hv : EF F w (.node 10 x i [a]) v) :
    Calls Try.prog 75 #[v] w (LPost F w (foldOp (.node 10 x i [a]))) := by
  have HARG := Lib.hid hw
  clear hw
  have HV := Lib.hid hv
  obtain ⟨A, c, rfl, hlc, hcm, hA⟩ := hv
  obtain ⟨g, off, rfl, hFg, hg, hs⟩ := hA (by simp)
  obtain ⟨Aa, ca, a0, a1, a2, a3, ha, hrest⟩ := hs.cons
  have HA := Lib.hid ha
  have hn0 : 0 < ([a] : List EX).length := by simp
  obtain ⟨N, hN⟩ : ∃ N, ([a] : List EX).length = N := ⟨_, rfl⟩
  rw [hN] at hlc hn0 hcm ⊢
  have HN := Lib.hid hN
  have hn0' : (0 : Int) < (N : Int) := by omega
  obtain ⟨w3, hw3⟩ : ∃ w3, ((w.alloc (.cells #[.int .i64 10, .int .i64 x, .int .i64 i, .slice (some ⟨g, off, none⟩) N c] 24)).alloc (.cells #[.int .i64 0, .int .i64 0, .int .i64 0, .slice none 0 0] 24)).alloc (.cells #[.int .i64 a.op, .int .i64 a.val, .int .i64 a.idx, .slice Aa a.args.length ca] 24) = w3 := ⟨_, rfl⟩
  have B3 : Hid (Below w.heap.size w w3) := Lib.hid (by rw [← hw3]; exact (by repeat (first | exact Below.refl _ _ | assumption | refine Below.drew ?_ | refine below_drewN ?_ _ | refine Below.setCell ?_ (by simp; try omega) _ | refine Below.alloc ?_ (by simp; try omega) _)))
  have hz3 : w3.heap.size = w.heap.size + 3 := by rw [← hw3]; simp
  have f0 : w3.cell? ⟨w.heap.size + 2, 0, none⟩ = some (.int .i64 a.op) := by rw [← hw3]; simp [go_sem]
  have f1 : w3.cell? ⟨w.heap.size + 2, 1, none⟩ = some (.int .i64 a.val) := by rw [← hw3]; simp [go_sem]
  have f2 : w3.cell? ⟨w.heap.size + 2, 2, none⟩ = some (.int .i64 a.idx) := by rw [← hw3]; simp [go_sem]
  have f3 : w3.cell? ⟨w.heap.size + 2, 3, none⟩ = some (.slice Aa a.args.length ca) := by rw [← hw3]; simp [go_sem]
  have x0 : w3.cell? ⟨w.heap.size, 0, none⟩ = some (.int .i64 10) := by rw [← hw3]; simp [go_sem]
  have x1 : w3.cell? ⟨w.heap.size, 1, none⟩ = some (.int .i64 x) := by rw [← hw3]; simp [go_sem]
  have x2 : w3.cell? ⟨w.heap.size, 2, none⟩ = some (.int .i64 i) := by rw [← hw3]; simp [go_sem]
  have x3 : w3.cell? ⟨w.heap.size, 3, none⟩ = some (.slice (some ⟨g, off, none⟩) N c) := by rw [← hw3]; simp [go_sem]
  have r0 : w3.cell? ⟨w.heap.size + 1, 0, none⟩ = some (.int .i64 0) := by rw [← hw3]; simp [go_sem]
  have r1 : w3.cell? ⟨w.heap.size + 1, 1, none⟩ = some (.int .i64 0) := by rw [← hw3]; simp [go_sem]
  have r2 : w3.cell? ⟨w.heap.size + 1, 2, none⟩ = some (.int .i64 0) := by rw [← hw3]; simp [go_sem]
  have r3 : w3.cell? ⟨w.heap.size + 1, 3, none⟩ = some (.slice none 0 0) := by rw [← hw3]; simp [go_sem]
  have q0 : ∀ o, w3.frozen? ⟨w.heap.size + 1, o, none⟩ = false := fun o => by rw [← hw3]; simp [go_sem]
  have hlow : ∀ b o, b < w.heap.size → w3.cell? ⟨b, o, none⟩ = w.cell? ⟨b, o, none⟩ := fun b o h => B3.out.cell (p := ⟨b, o, none⟩) h
  have W3 := Lib.hid hw3
  have Z3 := Lib.hid hz3
  have HREST := Lib.hid hrest
  have hz3' : w.heap.size + 2 < w3.heap.size := by omega
  clear hA hs ha hN hw3 hz3 hrest
  go_enter Try.func75, Try.ntmps75
  go_wp2_with fail
  rw [W3.out]
  refine wp_region_noPanic ?_
  refine wp_region_held_drew (S := fun w' => ∀ b o, b < w3.heap.size → w'.cell? ⟨b, o, none⟩ = w3.cell? ⟨b, o, none⟩) (by kernel_rfl) (fun _ _ _ => rfl) (fun hS0 => ?_)
  refine takeW (v := ?_) 0 rfl (by kernel_rfl) (by kernel_rfl) (by kernel_rfl) (fun _ _ _ h => h) (by rfl) ?_ (by assumption) ?_
  rotate_left 1
  · (intro w hSw; (try dsimp only at hSw); go_simp; try (with_reducible rfl))
  try simp only [Act.put, List.setIfInBounds_toArray, List.set_cons_zero, List.set_cons_succ]
  refine takeW (v := ?_) 3 rfl (by kernel_rfl) (by kernel_rfl) (by kernel_rfl) (fun _ _ _ h => h) (by rfl) ?_ (by assumption) ?_
  rotate_left 1
  · (intro w hSw; (try dsimp only at hSw); go_simp; try (with_reducible rfl))
  try simp only [Act.put, List.setIfInBounds_toArray, List.set_cons_zero, List.set_cons_succ]
  refine comeC 1 rfl (by kernel_rfl) (by rfl) (fun K hK => ?_)
  go_simp
  refine (trueF_any _).mono ?_; rintro en w4 ⟨A4, c4, rfl, ht4, hb4⟩; have hz4 : w3.heap.size ≤ w4.heap.size := hb4.size
  try (go_wp2_with fail)
  refine hK.out _ _ ?_ (fun hS1 => ?_)
  · exact fun b o h => hb4.cell (p := ⟨b, o, none⟩) h
  clear hK K
  try simp only [Act.put, List.setIfInBounds_toArray, List.set_cons_zero, List.set_cons_succ]
  have B4 : Hid (Below w3.heap.size w3 w4) := Lib.hid ((show Below w3.heap.size w3 w3.drew from (Below.refl _ _).drew).trans hb4)
  have T4 := Lib.hid ht4.er
  have E4 := Lib.hid (equal_any a trueE _ _ w4 (ER.below (B3.out.trans (B4.out.mono B3.out.size)) _ _ HA.out.er) T4.out)
  clear ht4 hb4
  refine comeC 2 rfl (by kernel_rfl) (by rfl) (fun K hK => ?_)
  go_simp
  refine E4.out.mono ?_; rintro en w5 ⟨rfl, hb5⟩
  try (go_wp2_with fail)
  refine hK.out _ _ ?_ (fun hS2 => ?_)
  · exact fun b o h => (hb5.cell (p := ⟨b, o, none⟩) (Nat.lt_of_lt_of_le h hz4)).trans (hS1 b o h)
  clear hK K
  try simp only [Act.put, List.setIfInBounds_toArray, List.set_cons_zero, List.set_cons_succ]
  have B5 : Hid (Below w3.heap.size w3 w5) := Lib.hid (B4.out.trans (hb5.mono hz4))
  have hz5 : w3.heap.size ≤ w5.heap.size := B5.out.size
  clear hb5 hS1
  refine comeC 4 rfl (by kernel_rfl) (by rfl) (fun K hK => ?_)
  go_simp
  refine (falseF_any _).mono ?_; rintro en w6 ⟨A6, c6, rfl, ht6, hb6⟩; have hz6 : w3.heap.size ≤ w6.heap.size := Nat.le_trans hz5 hb6.size
  try (go_wp2_with fail)
  refine hK.out _ _ ?_ (fun hS4 => ?_)
  · exact fun b o h => (hb6.cell (p := ⟨b, o, none⟩) (Nat.lt_of_lt_of_le h hz5)).trans (hS2 b o h)
  clear hK K
  try simp only [Act.put, List.setIfInBounds_toArray, List.set_cons_zero, List.set_cons_succ]
  have B6 : Hid (Below w3.heap.size w3 w6) := Lib.hid (B5.out.trans (hb6.mono hz5))
  have T6 := Lib.hid ht6.er
  have E6 := Lib.hid (equal_any a falseE _ _ w6 (ER.below (B3.out.trans (B6.out.mono B3.out.size)) _ _ HA.out.er) T6.out)
  clear ht6 hb6 hS2
  refine comeC 5 rfl (by kernel_rfl) (by rfl) (fun K hK => ?_)
  go_simp
  refine E6.out.mono ?_; rintro en w7 ⟨rfl, hb7⟩
  try (go_wp2_with fail)
  refine hK.out _ _ ?_ (fun hS5 => ?_)
  · exact fun b o h => (hb7.cell (p := ⟨b, o, none⟩) (Nat.lt_of_lt_of_le h hz6)).trans (hS4 b o h)
  clear hK K
  try simp only [Act.put, List.setIfInBounds_toArray, List.set_cons_zero, List.set_cons_succ]
  have B7 : Hid (Below w3.heap.size w3 w7) := Lib.hid (B6.out.trans (hb7.mono hz6))
  have hz7 : w3.heap.size ≤ w7.heap.size := B7.out.size
  clear hb7 hS4
  refine takeW (v := ?_) 6 rfl (by kernel_rfl) (by kernel_rfl) (by kernel_rfl) (fun _ _ _ h => h) (by rfl) ?_ (by assumption) ?_
  rotate_left 1
  · (intro w hSw; (try dsimp only at hSw); go_simp; try (with_reducible rfl))
  try simp only [Act.put, List.setIfInBounds_toArray, List.set_cons_zero, List.set_cons_succ]
  refine takeW (v := ?_) 7 rfl (by kernel_rfl) (by kernel_rfl) (by kernel_rfl) (fun _ _ _ h => h) (by rfl) ?_ (by assumption) ?_
  rotate_left 1
  · (intro w hSw; (try dsimp only at hSw); go_simp; try (with_reducible rfl))
  try simp only [Act.put, List.setIfInBounds_toArray, List.set_cons_zero, List.set_cons_succ]
  refine wpAnyH_done (by kernel_rfl) ?_ _
  refine NoPanic.normal ?_
  clear hS0 hz4 hz5 hz6 T4 T6 E4 E6 B4 B5 B6
  have hc7 : ∀ b o, b < w.heap.size + 3 → w7.cell? ⟨b, o, none⟩ = w3.cell? ⟨b, o, none⟩ := fun b o h => hS5 b o (by have := Z3.out; omega)
  have hf7 : ∀ b o, b < w.heap.size + 3 → w7.frozen? ⟨b, o, none⟩ = w3.frozen? ⟨b, o, none⟩ := fun b o h => B7.out.frozen (p := ⟨b, o, none⟩) (by show b < _; have := Z3.out; omega)
  have hz7' : w.heap.size + 2 < w7.heap.size := by omega
  have B7' : Hid (Below w.heap.size w w7) := Lib.hid (B3.out.trans (B7.out.mono B3.out.size))
  clear hS5
  cases hq1 : sameE a trueE
  case true =>
    have HR : Hid (foldOp (.node 10 x i [a]) = falseE) := Lib.hid (by simp [foldOp, hq1])
    clear hq1
    go_wp2_with fail
    refine (falseF_any _).mono ?_
    rintro en w8 ⟨A8, c8, rfl, ht8, hb8⟩
    have B8 : Hid (Below w.heap.size w w8) := Lib.hid (B7'.out.trans (hb8.mono B7'.out.size))
    have T8 := Lib.hid ht8
    have hc8 : ∀ b o, b < w.heap.size + 3 → w8.cell? ⟨b, o, none⟩ = w3.cell? ⟨b, o, none⟩ := fun b o h => (hb8.cell (p := ⟨b, o, none⟩) (by show b < _; omega)).trans (hc7 b o h)
    have hf8 : ∀ b o, b < w.heap.size + 3 → w8.frozen? ⟨b, o, none⟩ = w3.frozen? ⟨b, o, none⟩ := fun b o h => (hb8.frozen (p := ⟨b, o, none⟩) (by show b < _; omega)).trans (hf7 b o h)
    have hz8 : w.heap.size + 2 < w8.heap.size := by have := hb8.size; omega
    clear ht8 hb8
    go_wp2
    refine bodyPost_ret (v := .agg #[.int .i64 7, .int .i64 0, .int .i64 0, .slice A8 2 c8]) (by simp [results, Try.results75, go_sem, hc8, r0, r1, r2, r3, hz8]) rfl (lpost (HR.out) (EF.newG T8.out (by omega)) B8.out)
  cases hq2 : sameE a falseE
  case true =>
    have HR : Hid (foldOp (.node 10 x i [a]) = trueE) := Lib.hid (by simp [foldOp, hq1, hq2])
    clear hq1 hq2
    go_wp2_with fail
    refine (trueF_any _).mono ?_
    rintro en w8 ⟨A8, c8, rfl, ht8, hb8⟩
    have B8 : Hid (Below w.heap.size w w8) := Lib.hid (B7'.out.trans (hb8.mono B7'.out.size))
    have T8 := Lib.hid ht8
    have hc8 : ∀ b o, b < w.heap.size + 3 → w8.cell? ⟨b, o, none⟩ = w3.cell? ⟨b, o, none⟩ := fun b o h => (hb8.cell (p := ⟨b, o, none⟩) (by show b < _; omega)).trans (hc7 b o h)
    have hf8 : ∀ b o, b < w.heap.size + 3 → w8.frozen? ⟨b, o, none⟩ = w3.frozen? ⟨b, o, none⟩ := fun b o h => (hb8.frozen (p := ⟨b, o, none⟩) (by show b < _; omega)).trans (hf7 b o h)
    have hz8 : w.heap.size + 2 < w8.heap.size := by have := hb8.size; omega
    clear ht8 hb8
    go_wp2
    refine bodyPost_ret (v := .agg #[.int .i64 6, .int .i64 0, .int .i64 0, .slice A8 2 c8]) (by simp [results, Try.results75, go_sem, hc8, r0, r1, r2, r3, hz8]) rfl (lpost (HR.out) (EF.newG T8.out (by omega)) B8.out)
  by_cases hop : a.op = 10
  · obtain ⟨b, hb⟩ := HARG.out hop
    have HR : Hid (foldOp (.node 10 x i [a]) = b) := Lib.hid (by simp [foldOp, hq1, hq2, hop, hb])
    obtain ⟨o', x', i', l'⟩ := a
    simp only [EX.op, EX.args] at hop hb
    subst hop hb
    obtain ⟨Ab, cb, hvb, hlb, _, hAb⟩ := HA.out
    simp only [EX.op, EX.val, EX.idx, EX.args, Value.agg.injEq, Array.mk.injEq, List.cons.injEq, and_true, Value.slice.injEq, true_and] at hvb
    obtain ⟨rfl, rfl⟩ := hvb
    obtain ⟨g2, off2, rfl, hF2, hg2, hs2⟩ := hAb (by simp)
    obtain ⟨A9, c9, b0, b1, b2, b3, hb9, _⟩ := hs2.cons
    have HB9 := Lib.hid hb9
    have hg3 : g2 < w.heap.size + 3 := by omega
    simp only [EX.op, EX.val, EX.idx, EX.args] at f0 f1 f2 f3
    clear hq1 hq2 hb9 hAb hs2
    go_wp2
    refine bodyPost_ret (v := .agg #[.int .i64 (b).op, .int .i64 (b).val, .int .i64 (b).idx, .slice A9 (b).args.length c9]) (by simp [results, Try.results75, go_sem, hc7, r0, r1, r2, r3, hz7', EX.op, EX.val, EX.idx, EX.args]) rfl (lpost HR.out (HB9.out.keepG B7'.out) B7'.out)
  · have HR : Hid (foldOp (.node 10 x i [a]) = .node 10 x i [a]) := Lib.hid (by simp [foldOp, hq1, hq2, hop])
    have hop2 : (a.op == 10) = false := by simpa using hop
    have HV2 : Hid (EF F w (.node 10 x i [a]) (.agg #[.int .i64 10, .int .i64 x, .int .i64 i, .slice (some ⟨g, off, none⟩) N c])) := Lib.hid (by have := HV.out; rw [HN.out] at this; exact this)
    clear hq1 hq2 hop
    go_wp2
    refine bodyPost_ret (v := .agg #[.int .i64 10, .int .i64 x, .int .i64 i, .slice (some ⟨g, off, none⟩) N c]) (by simp [results, Try.results75, go_sem, hc7, r0, r1, r2, r3, hz7']) rfl (lpost HR.out (HV2.out.keepG B7'.out) B7'.out)
set_option maxRecDepth 100000 in
set_option maxHeartbeats 1000000 in
theorem logical_ite (x i : Int) (a b d : EX) (F : Nat → Prop) (v : Value) (w : World) (hv : EF F w (.node 13 x i [a, b, d]) v) :
    Calls Try.prog 75 #[v] w (LPost F w (foldOp (.node 13 x i [a, b, d]))) := by
  have HV := Lib.hid hv
  obtain ⟨A, c, rfl, hlc, hcm, hA⟩ := hv
  obtain ⟨g, off, rfl, hFg, hg, hs⟩ := hA (by simp)
  obtain ⟨Aa, ca, a0, a1, a2, a3, ha, hrest⟩ := hs.cons
  have HA := Lib.hid ha
  have hn0 : 0 < ([a, b, d] : List EX).length := by simp
  obtain ⟨N, hN⟩ : ∃ N, ([a, b, d] : List EX).length = N := ⟨_, rfl⟩
  rw [hN] at hlc hn0 hcm ⊢
  have HN := Lib.hid hN
  have hn0' : (0 : Int) < (N : Int) := by omega
  obtain ⟨w3, hw3⟩ : ∃ w3, ((w.alloc (.cells #[.int .i64 13, .int .i64 x, .int .i64 i, .slice (some ⟨g, off, none⟩) N c] 24)).alloc (.cells #[.int .i64 0, .int .i64 0, .int .i64 0, .slice none 0 0] 24)).alloc (.cells #[.int .i64 a.op, .int .i64 a.val, .int .i64 a.idx, .slice Aa a.args.length ca] 24) = w3 := ⟨_, rfl⟩
  have B3 : Hid (Below w.heap.size w w3) := Lib.hid (by rw [← hw3]; exact (by repeat (first | exact Below.refl _ _ | assumption | refine Below.drew ?_ | refine below_drewN ?_ _ | refine Below.setCell ?_ (by simp; try omega) _ | refine Below.alloc ?_ (by simp; try omega) _)))
  have hz3 : w3.heap.size = w.heap.size + 3 := by rw [← hw3]; simp
  have f0 : w3.cell? ⟨w.heap.size + 2, 0, none⟩ = some (.int .i64 a.op) := by rw [← hw3]; simp [go_sem]
  have f1 : w3.cell? ⟨w.heap.size + 2, 1, none⟩ = some (.int .i64 a.val) := by rw [← hw3]; simp [go_sem]
  have f2 : w3.cell? ⟨w.heap.size + 2, 2, none⟩ = some (.int .i64 a.idx) := by rw [← hw3]; simp [go_sem]
  have f3 : w3.cell? ⟨w.heap.size + 2, 3, none⟩ = some (.slice Aa a.args.length ca) := by rw [← hw3]; simp [go_sem]
  have x0 : w3.cell? ⟨w.heap.size, 0, none⟩ = some (.int .i64 13) := by rw [← hw3]; simp [go_sem]
  have x1 : w3.cell? ⟨w.heap.size, 1, none⟩ = some (.int .i64 x) := by rw [← hw3]; simp [go_sem]
  have x2 : w3.cell? ⟨w.heap.size, 2, none⟩ = some (.int .i64 i) := by rw [← hw3]; simp [go_sem]
  have x3 : w3.cell? ⟨w.heap.size, 3, none⟩ = some (.slice (some ⟨g, off, none⟩) N c) := by rw [← hw3]; simp [go_sem]
  have r0 : w3.cell? ⟨w.heap.size + 1, 0, none⟩ = some (.int .i64 0) := by rw [← hw3]; simp [go_sem]
  have r1 : w3.cell? ⟨w.heap.size + 1, 1, none⟩ = some (.int .i64 0) := by rw [← hw3]; simp [go_sem]
  have r2 : w3.cell? ⟨w.heap.size + 1, 2, none⟩ = some (.int .i64 0) := by rw [← hw3]; simp [go_sem]
  have r3 : w3.cell? ⟨w.heap.size + 1, 3, none⟩ = some (.slice none 0 0) := by rw [← hw3]; simp [go_sem]
  have q0 : ∀ o, w3.frozen? ⟨w.heap.size + 1, o, none⟩ = false := fun o => by rw [← hw3]; simp [go_sem]
  have hlow : ∀ b o, b < w.heap.size → w3.cell? ⟨b, o, none⟩ = w.cell? ⟨b, o, none⟩ := fun b o h => B3.out.cell (p := ⟨b, o, none⟩) h
  have W3 := Lib.hid hw3
  have Z3 := Lib.hid hz3
  have HREST := Lib.hid hrest
  have hz3' : w.heap.size + 2 < w3.heap.size := by omega
  clear hA hs ha hN hw3 hz3 hrest
  go_enter Try.func75, Try.ntmps75
  go_wp2_with fail
  rw [W3.out]
  refine wp_region_noPanic ?_
  refine wp_region_held_drew (S := fun w' => ∀ b o, b < w3.heap.size → w'.cell? ⟨b, o, none⟩ = w3.cell? ⟨b, o, none⟩) (by kernel_rfl) (fun _ _ _ => rfl) (fun hS0 => ?_)
  refine takeW (v := ?_) 0 rfl (by kernel_rfl) (by kernel_rfl) (by kernel_rfl) (fun _ _ _ h => h) (by rfl) ?_ (by assumption) ?_
  rotate_left 1
  · (intro w hSw; (try dsimp only at hSw); go_simp; try (with_reducible rfl))
  try simp only [Act.put, List.setIfInBounds_toArray, List.set_cons_zero, List.set_cons_succ]
  refine takeW (v := ?_) 3 rfl (by kernel_rfl) (by kernel_rfl) (by kernel_rfl) (fun _ _ _ h => h) (by rfl) ?_ (by assumption) ?_
  rotate_left 1
  · (intro w hSw; (try dsimp only at hSw); go_simp; try (with_reducible rfl))
  try simp only [Act.put, List.setIfInBounds_toArray, List.set_cons_zero, List.set_cons_succ]
  refine comeC 1 rfl (by kernel_rfl) (by rfl) (fun K hK => ?_)
  go_simp
  refine (trueF_any _).mono ?_; rintro en w4 ⟨A4, c4, rfl, ht4, hb4⟩; have hz4 : w3.heap.size ≤ w4.heap.size := hb4.size
  try (go_wp2_with fail)
  refine hK.out _ _ ?_ (fun hS1 => ?_)
  · exact fun b o h => hb4.cell (p := ⟨b, o, none⟩) h
  clear hK K
  try simp only [Act.put, List.setIfInBounds_toArray, List.set_cons_zero, List.set_cons_succ]
  have B4 : Hid (Below w3.heap.size w3 w4) := Lib.hid ((show Below w3.heap.size w3 w3.drew from (Below.refl _ _).drew).trans hb4)
  have T4 := Lib.hid ht4.er
  have E4 := Lib.hid (equal_any a trueE _ _ w4 (ER.below (B3.out.trans (B4.out.mono B3.out.size)) _ _ HA.out.er) T4.out)
  clear ht4 hb4
  refine comeC 2 rfl (by kernel_rfl) (by rfl) (fun K hK => ?_)
  go_simp
  refine E4.out.mono ?_; rintro en w5 ⟨rfl, hb5⟩
  try (go_wp2_with fail)
  refine hK.out _ _ ?_ (fun hS2 => ?_)
  · exact fun b o h => (hb5.cell (p := ⟨b, o, none⟩) (Nat.lt_of_lt_of_le h hz4)).trans (hS1 b o h)
  clear hK K
  try simp only [Act.put, List.setIfInBounds_toArray, List.set_cons_zero, List.set_cons_succ]
  have B5 : Hid (Below w3.heap.size w3 w5) := Lib.hid (B4.out.trans (hb5.mono hz4))
  have hz5 : w3.heap.size ≤ w5.heap.size := B5.out.size
  clear hb5 hS1
  refine comeC 4 rfl (by kernel_rfl) (by rfl) (fun K hK => ?_)
  go_simp
  refine (falseF_any _).mono ?_; rintro en w6 ⟨A6, c6, rfl, ht6, hb6⟩; have hz6 : w3.heap.size ≤ w6.heap.size := Nat.le_trans hz5 hb6.size
  try (go_wp2_with fail)
  refine hK.out _ _ ?_ (fun hS4 => ?_)
  · exact fun b o h => (hb6.cell (p := ⟨b, o, none⟩) (Nat.lt_of_lt_of_le h hz5)).trans (hS2 b o h)
  clear hK K
  try simp only [Act.put, List.setIfInBounds_toArray, List.set_cons_zero, List.set_cons_succ]
  have B6 : Hid (Below w3.heap.size w3 w6) := Lib.hid (B5.out.trans (hb6.mono hz5))
  have T6 := Lib.hid ht6.er
  have E6 := Lib.hid (equal_any a falseE _ _ w6 (ER.below (B3.out.trans (B6.out.mono B3.out.size)) _ _ HA.out.er) T6.out)
  clear ht6 hb6 hS2
  refine comeC 5 rfl (by kernel_rfl) (by rfl) (fun K hK => ?_)
  go_simp
  refine E6.out.mono ?_; rintro en w7 ⟨rfl, hb7⟩
  try (go_wp2_with fail)
  refine hK.out _ _ ?_ (fun hS5 => ?_)
  · exact fun b o h => (hb7.cell (p := ⟨b, o, none⟩) (Nat.lt_of_lt_of_le h hz6)).trans (hS4 b o h)
  clear hK K
  try simp only [Act.put, List.setIfInBounds_toArray, List.set_cons_zero, List.set_cons_succ]
  have B7 : Hid (Below w3.heap.size w3 w7) := Lib.hid (B6.out.trans (hb7.mono hz6))
  have hz7 : w3.heap.size ≤ w7.heap.size := B7.out.size
  clear hb7 hS4
  refine takeW (v := ?_) 6 rfl (by kernel_rfl) (by kernel_rfl) (by kernel_rfl) (fun _ _ _ h => h) (by rfl) ?_ (by assumption) ?_
  rotate_left 1
  · (intro w hSw; (try dsimp only at hSw); go_simp; try (with_reducible rfl))
  try simp only [Act.put, List.setIfInBounds_toArray, List.set_cons_zero, List.set_cons_succ]
  refine takeW (v := ?_) 7 rfl (by kernel_rfl) (by kernel_rfl) (by kernel_rfl) (fun _ _ _ h => h) (by rfl) ?_ (by assumption) ?_
  rotate_left 1
  · (intro w hSw; (try dsimp only at hSw); go_simp; try (with_reducible rfl))
  try simp only [Act.put, List.setIfInBounds_toArray, List.set_cons_zero, List.set_cons_succ]
  refine wpAnyH_done (by kernel_rfl) ?_ _
  refine NoPanic.normal ?_
  clear hS0 hz4 hz5 hz6 T4 T6 E4 E6 B4 B5 B6
  have hc7 : ∀ b o, b < w.heap.size + 3 → w7.cell? ⟨b, o, none⟩ = w3.cell? ⟨b, o, none⟩ := fun b o h => hS5 b o (by have := Z3.out; omega)
  have hf7 : ∀ b o, b < w.heap.size + 3 → w7.frozen? ⟨b, o, none⟩ = w3.frozen? ⟨b, o, none⟩ := fun b o h => B7.out.frozen (p := ⟨b, o, none⟩) (by show b < _; have := Z3.out; omega)
  have hz7' : w.heap.size + 2 < w7.heap.size := by omega
  have B7' : Hid (Below w.heap.size w w7) := Lib.hid (B3.out.trans (B7.out.mono B3.out.size))
  clear hS5
  have hg3 : g < w.heap.size + 3 := by omega
  obtain ⟨Ab, cb, b0, b1, b2, b3, hb9, hrest2⟩ := HREST.out.cons
  obtain ⟨Ad, cd, d0, d1, d2, d3, hd9, _⟩ := hrest2.cons
  rw [show off + 4 + 4 = off + 8 by omega] at d0 d1 d2 d3
  have HB9 := Lib.hid hb9
  have HD9 := Lib.hid hd9
  have hn1 : (1 : Int) < (N : Int) := by have := HN.out; simp at this; omega
  have hn1' : 1 < N := by omega
  have hn2 : (2 : Int) < (N : Int) := by have := HN.out; simp at this; omega
  have hn2' : 2 < N := by omega
  clear hb9 hd9 hrest2
  cases hq1 : sameE a trueE
  case true =>
    have HR : Hid (foldOp (.node 13 x i [a, b, d]) = b) := Lib.hid (by simp [foldOp, hq1])
    clear hq1
    go_wp2
    refine bodyPost_ret (v := .agg #[.int .i64 (b).op, .int .i64 (b).val, .int .i64 (b).idx, .slice Ab (b).args.length cb]) (by simp [results, Try.results75, go_sem, hc7, r0, r1, r2, r3, hz7', EX.op, EX.val, EX.idx, EX.args]) rfl (lpost HR.out (HB9.out.keepG B7'.out) B7'.out)
  cases hq2 : sameE a falseE
  case true =>
    have HR : Hid (foldOp (.node 13 x i [a, b, d]) = d) := Lib.hid (by simp [foldOp, hq1, hq2])
    clear hq1 hq2
    go_wp2
    refine bodyPost_ret (v := .agg #[.int .i64 (d).op, .int .i64 (d).val, .int .i64 (d).idx, .slice Ad (d).args.length cd]) (by simp [results, Try.results75, go_sem, hc7, r0, r1, r2, r3, hz7', EX.op, EX.val, EX.idx, EX.args]) rfl (lpost HR.out (HD9.out.keepG B7'.out) B7'.out)
  have HR : Hid (foldOp (.node 13 x i [a, b, d]) = .node 13 x i [a, b, d]) := Lib.hid (by simp [foldOp, hq1, hq2])
  have HV2 : Hid (EF F w (.node 13 x i [a, b, d]) (.agg #[.int .i64 13, .int .i64 x, .int .i64 i, .slice (some ⟨g, off, none⟩) N c])) := Lib.hid (by have := HV.out; rw [HN.out] at this; exact this)
  clear hq1 hq2
  go_wp2
  refine bodyPost_ret (v := .agg #[.int .i64 13, .int .i64 x, .int .i64 i, .slice (some ⟨g, off, none⟩) N c]) (by simp [results, Try.results75, go_sem, hc7, r0, r1, r2, r3, hz7']) rfl (lpost HR.out (HV2.out.keepG B7'.out) B7'.out)
set_option maxRecDepth 100000 in
set_option maxHeartbeats 2000000 in
theorem logical_bin11 (x i : Int) (a b : EX) (F : Nat → Prop) (v : Value) (w : World) (hv : EF F w (.node 11 x i [a, b]) v) :
    Calls Try.prog 75 #[v] w (LPost F w (foldOp (.node 11 x i [a, b]))) := by
  have HV := Lib.hid hv
  obtain ⟨A, c, rfl, hlc, hcm, hA⟩ := hv
  obtain ⟨g, off, rfl, hFg, hg, hs⟩ := hA (by simp)
  obtain ⟨Aa, ca, a0, a1, a2, a3, ha, hrest⟩ := hs.cons
  have HA := Lib.hid ha
  have hn0 : 0 < ([a, b] : List EX).length := by simp
  obtain ⟨N, hN⟩ : ∃ N, ([a, b] : List EX).length = N := ⟨_, rfl⟩
  rw [hN] at hlc hn0 hcm ⊢
  have HN := Lib.hid hN
  have hn0' : (0 : Int) < (N : Int) := by omega
  obtain ⟨w3, hw3⟩ : ∃ w3, ((w.alloc (.cells #[.int .i64 11, .int .i64 x, .int .i64 i, .slice (some ⟨g, off, none⟩) N c] 24)).alloc (.cells #[.int .i64 0, .int .i64 0, .int .i64 0, .slice none 0 0] 24)).alloc (.cells #[.int .i64 a.op, .int .i64 a.val, .int .i64 a.idx, .slice Aa a.args.length ca] 24) = w3 := ⟨_, rfl⟩
  have B3 : Hid (Below w.heap.size w w3) := Lib.hid (by rw [← hw3]; exact (by repeat (first | exact Below.refl _ _ | assumption | refine Below.drew ?_ | refine below_drewN ?_ _ | refine Below.setCell ?_ (by simp; try omega) _ | refine Below.alloc ?_ (by simp; try omega) _)))
  have hz3 : w3.heap.size = w.heap.size + 3 := by rw [← hw3]; simp
  have f0 : w3.cell? ⟨w.heap.size + 2, 0, none⟩ = some (.int .i64 a.op) := by rw [← hw3]; simp [go_sem]
  have f1 : w3.cell? ⟨w.heap.size + 2, 1, none⟩ = some (.int .i64 a.val) := by rw [← hw3]; simp [go_sem]
  have f2 : w3.cell? ⟨w.heap.size + 2, 2, none⟩ = some (.int .i64 a.idx) := by rw [← hw3]; simp [go_sem]
  have f3 : w3.cell? ⟨w.heap.size + 2, 3, none⟩ = some (.slice Aa a.args.length ca) := by rw [← hw3]; simp [go_sem]
  have x0 : w3.cell? ⟨w.heap.size, 0, none⟩ = some (.int .i64 11) := by rw [← hw3]; simp [go_sem]
  have x1 : w3.cell? ⟨w.heap.size, 1, none⟩ = some (.int .i64 x) := by rw [← hw3]; simp [go_sem]
  have x2 : w3.cell? ⟨w.heap.size, 2, none⟩ = some (.int .i64 i) := by rw [← hw3]; simp [go_sem]
  have x3 : w3.cell? ⟨w.heap.size, 3, none⟩ = some (.slice (some ⟨g, off, none⟩) N c) := by rw [← hw3]; simp [go_sem]
  have r0 : w3.cell? ⟨w.heap.size + 1, 0, none⟩ = some (.int .i64 0) := by rw [← hw3]; simp [go_sem]
  have r1 : w3.cell? ⟨w.heap.size + 1, 1, none⟩ = some (.int .i64 0) := by rw [← hw3]; simp [go_sem]
  have r2 : w3.cell? ⟨w.heap.size + 1, 2, none⟩ = some (.int .i64 0) := by rw [← hw3]; simp [go_sem]
  have r3 : w3.cell? ⟨w.heap.size + 1, 3, none⟩ = some (.slice none 0 0) := by rw [← hw3]; simp [go_sem]
  have q0 : ∀ o, w3.frozen? ⟨w.heap.size + 1, o, none⟩ = false := fun o => by rw [← hw3]; simp [go_sem]
  have hlow : ∀ b o, b < w.heap.size → w3.cell? ⟨b, o, none⟩ = w.cell? ⟨b, o, none⟩ := fun b o h => B3.out.cell (p := ⟨b, o, none⟩) h
  have W3 := Lib.hid hw3
  have Z3 := Lib.hid hz3
  have HREST := Lib.hid hrest
  have hz3' : w.heap.size + 2 < w3.heap.size := by omega
  clear hA hs ha hN hw3 hz3 hrest
  go_enter Try.func75, Try.ntmps75
  go_wp2_with fail
  rw [W3.out]
  refine wp_region_noPanic ?_
  refine wp_region_held_drew (S := fun w' => ∀ b o, b < w3.heap.size → w'.cell? ⟨b, o, none⟩ = w3.cell? ⟨b, o, none⟩) (by kernel_rfl) (fun _ _ _ => rfl) (fun hS0 => ?_)
  refine takeW (v := ?_) 0 rfl (by kernel_rfl) (by kernel_rfl) (by kernel_rfl) (fun _ _ _ h => h) (by rfl) ?_ (by assumption) ?_
  rotate_left 1
  · (intro w hSw; (try dsimp only at hSw); go_simp; try (with_reducible rfl))
  try simp only [Act.put, List.setIfInBounds_toArray, List.set_cons_zero, List.set_cons_succ]
  refine takeW (v := ?_) 3 rfl (by kernel_rfl) (by kernel_rfl) (by kernel_rfl) (fun _ _ _ h => h) (by rfl) ?_ (by assumption) ?_
  rotate_left 1
  · (intro w hSw; (try dsimp only at hSw); go_simp; try (with_reducible rfl))
  try simp only [Act.put, List.setIfInBounds_toArray, List.set_cons_zero, List.set_cons_succ]
  refine comeC 1 rfl (by kernel_rfl) (by rfl) (fun K hK => ?_)
  go_simp
  refine (trueF_any _).mono ?_; rintro en w4 ⟨A4, c4, rfl, ht4, hb4⟩; have hz4 : w3.heap.size ≤ w4.heap.size := hb4.size
  try (go_wp2_with fail)
  refine hK.out _ _ ?_ (fun hS1 => ?_)
  · exact fun b o h => hb4.cell (p := ⟨b, o, none⟩) h
  clear hK K
  try simp only [Act.put, List.setIfInBounds_toArray, List.set_cons_zero, List.set_cons_succ]
  have B4 : Hid (Below w3.heap.size w3 w4) := Lib.hid ((show Below w3.heap.size w3 w3.drew from (Below.refl _ _).drew).trans hb4)
  have T4 := Lib.hid ht4.er
  have E4 := Lib.hid (equal_any a trueE _ _ w4 (ER.below (B3.out.trans (B4.out.mono B3.out.size)) _ _ HA.out.er) T4.out)
  clear ht4 hb4
  refine comeC 2 rfl (by kernel_rfl) (by rfl) (fun K hK => ?_)
  go_simp
  refine E4.out.mono ?_; rintro en w5 ⟨rfl, hb5⟩
  try (go_wp2_with fail)
  refine hK.out _ _ ?_ (fun hS2 => ?_)
  · exact fun b o h => (hb5.cell (p := ⟨b, o, none⟩) (Nat.lt_of_lt_of_le h hz4)).trans (hS1 b o h)
  clear hK K
  try simp only [Act.put, List.setIfInBounds_toArray, List.set_cons_zero, List.set_cons_succ]
  have B5 : Hid (Below w3.heap.size w3 w5) := Lib.hid (B4.out.trans (hb5.mono hz4))
  have hz5 : w3.heap.size ≤ w5.heap.size := B5.out.size
  clear hb5 hS1
  refine comeC 4 rfl (by kernel_rfl) (by rfl) (fun K hK => ?_)
  go_simp
  refine (falseF_any _).mono ?_; rintro en w6 ⟨A6, c6, rfl, ht6, hb6⟩; have hz6 : w3.heap.size ≤ w6.heap.size := Nat.le_trans hz5 hb6.size
  try (go_wp2_with fail)
  refine hK.out _ _ ?_ (fun hS4 => ?_)
  · exact fun b o h => (hb6.cell (p := ⟨b, o, none⟩) (Nat.lt_of_lt_of_le h hz5)).trans (hS2 b o h)
  clear hK K
  try simp only [Act.put, List.setIfInBounds_toArray, List.set_cons_zero, List.set_cons_succ]
  have B6 : Hid (Below w3.heap.size w3 w6) := Lib.hid (B5.out.trans (hb6.mono hz5))
  have T6 := Lib.hid ht6.er
  have E6 := Lib.hid (equal_any a falseE _ _ w6 (ER.below (B3.out.trans (B6.out.mono B3.out.size)) _ _ HA.out.er) T6.out)
  clear ht6 hb6 hS2
  refine comeC 5 rfl (by kernel_rfl) (by rfl) (fun K hK => ?_)
  go_simp
  refine E6.out.mono ?_; rintro en w7 ⟨rfl, hb7⟩
  try (go_wp2_with fail)
  refine hK.out _ _ ?_ (fun hS5 => ?_)
  · exact fun b o h => (hb7.cell (p := ⟨b, o, none⟩) (Nat.lt_of_lt_of_le h hz6)).trans (hS4 b o h)
  clear hK K
  try simp only [Act.put, List.setIfInBounds_toArray, List.set_cons_zero, List.set_cons_succ]
  have B7 : Hid (Below w3.heap.size w3 w7) := Lib.hid (B6.out.trans (hb7.mono hz6))
  have hz7 : w3.heap.size ≤ w7.heap.size := B7.out.size
  clear hb7 hS4
  refine takeW (v := ?_) 6 rfl (by kernel_rfl) (by kernel_rfl) (by kernel_rfl) (fun _ _ _ h => h) (by rfl) ?_ (by assumption) ?_
  rotate_left 1
  · (intro w hSw; (try dsimp only at hSw); go_simp; try (with_reducible rfl))
  try simp only [Act.put, List.setIfInBounds_toArray, List.set_cons_zero, List.set_cons_succ]
  refine takeW (v := ?_) 7 rfl (by kernel_rfl) (by kernel_rfl) (by kernel_rfl) (fun _ _ _ h => h) (by rfl) ?_ (by assumption) ?_
  rotate_left 1
  · (intro w hSw; (try dsimp only at hSw); go_simp; try (with_reducible rfl))
  try simp only [Act.put, List.setIfInBounds_toArray, List.set_cons_zero, List.set_cons_succ]
  refine wpAnyH_done (by kernel_rfl) ?_ _
  refine NoPanic.normal ?_
  clear hS0 hz4 hz5 hz6 T4 T6 E4 E6 B4 B5 B6
  have hc7 : ∀ b o, b < w.heap.size + 3 → w7.cell? ⟨b, o, none⟩ = w3.cell? ⟨b, o, none⟩ := fun b o h => hS5 b o (by have := Z3.out; omega)
  have hf7 : ∀ b o, b < w.heap.size + 3 → w7.frozen? ⟨b, o, none⟩ = w3.frozen? ⟨b, o, none⟩ := fun b o h => B7.out.frozen (p := ⟨b, o, none⟩) (by show b < _; have := Z3.out; omega)
  have hz7' : w.heap.size + 2 < w7.heap.size := by omega
  have B7' : Hid (Below w.heap.size w w7) := Lib.hid (B3.out.trans (B7.out.mono B3.out.size))
  clear hS5
  have hg3 : g < w.heap.size + 3 := by omega
  obtain ⟨Ab, cb, b0, b1, b2, b3, hb9, _⟩ := HREST.out.cons
  have HB9 := Lib.hid hb9
  have hn1 : (1 : Int) < (N : Int) := by have := HN.out; simp at this; omega
  have hn1' : 1 < N := by omega
  clear hb9
  go_wp2_with fail
  refine (trueF_any _).mono ?_
  rintro en w8 ⟨A8, c8, rfl, ht8, hb8⟩
  have hz8 : w7.heap.size + 1 ≤ w8.heap.size := by have := hb8.size; simp at this; omega
  have B8 : Hid (Below (w7.heap.size + 1) (w7.alloc (.cells #[.int .i64 b.op, .int .i64 b.val, .int .i64 b.idx, .slice Ab b.args.length cb] 24)) w8) := Lib.hid (by simpa using hb8)
  have T8 : Hid (EF (fun b => w7.heap.size + 1 ≤ b) w8 trueE (.agg #[.int .i64 6, .int .i64 0, .int .i64 0, .slice A8 2 c8])) := Lib.hid (by simpa using ht8)
  clear ht8 hb8
  go_wp2_with fail
  refine (falseF_any _).mono ?_
  rintro en w9 ⟨A9, c9, rfl, ht9, hb9⟩
  have hz9 : w7.heap.size + 1 ≤ w9.heap.size := by have := hb9.size; omega
  have B9 : Hid (Below (w7.heap.size + 1) (w7.alloc (.cells #[.int .i64 b.op, .int .i64 b.val, .int .i64 b.idx, .slice Ab b.args.length cb] 24)) w9) := Lib.hid (B8.out.trans (hb9.mono hz8))
  have T9 : Hid (EF (fun b => w7.heap.size + 1 ≤ b) w9 falseE (.agg #[.int .i64 7, .int .i64 0, .int .i64 0, .slice A9 2 c9])) := Lib.hid (EF.weaken (fun b hb _ => Nat.le_trans hz8 hb) ht9)
  have T89 : Hid (EF (fun b => w7.heap.size + 1 ≤ b) w9 trueE (.agg #[.int .i64 6, .int .i64 0, .int .i64 0, .slice A8 2 c8])) := Lib.hid (EF.below hb9 T8.out)
  clear ht9 hb9
  obtain ⟨w10, hw10⟩ : ∃ w10, (w9.alloc (.cells #[.int .i64 6, .int .i64 0, .int .i64 0, .slice A8 2 c8] 24)).alloc (.cells #[.int .i64 7, .int .i64 0, .int .i64 0, .slice A9 2 c9] 24) = w10 := ⟨_, rfl⟩
  have B10w9 : Below w9.heap.size w9 w10 := by rw [← hw10]; exact (by repeat (first | exact Below.refl _ _ | assumption | refine Below.drew ?_ | refine below_drewN ?_ _ | refine Below.setCell ?_ (by simp; try omega) _ | refine Below.alloc ?_ (by simp; try omega) _))
  have z10 : w10.heap.size = w9.heap.size + 2 := by rw [← hw10]; simp
  have n0 : w10.cell? ⟨w9.heap.size, 0, none⟩ = some (.int .i64 6) := by rw [← hw10]; simp [go_sem]
  have n1 : w10.cell? ⟨w9.heap.size, 1, none⟩ = some (.int .i64 0) := by rw [← hw10]; simp [go_sem]
  have n2 : w10.cell? ⟨w9.heap.size, 2, none⟩ = some (.int .i64 0) := by rw [← hw10]; simp [go_sem]
  have n3 : w10.cell? ⟨w9.heap.size, 3, none⟩ = some (.slice A8 2 c8) := by rw [← hw10]; simp [go_sem]
  have t0 : w10.cell? ⟨w9.heap.size + 1, 0, none⟩ = some (.int .i64 7) := by rw [← hw10]; simp [go_sem]
  have t1 : w10.cell? ⟨w9.heap.size + 1, 1, none⟩ = some (.int .i64 0) := by rw [← hw10]; simp [go_sem]
  have t2 : w10.cell? ⟨w9.heap.size + 1, 2, none⟩ = some (.int .i64 0) := by rw [← hw10]; simp [go_sem]
  have t3 : w10.cell? ⟨w9.heap.size + 1, 3, none⟩ = some (.slice A9 2 c9) := by rw [← hw10]; simp [go_sem]
  have B10a : Hid (Below (w7.heap.size + 1) (w7.alloc (.cells #[.int .i64 b.op, .int .i64 b.val, .int .i64 b.idx, .slice Ab b.args.length cb] 24)) w10) := Lib.hid (B9.out.trans (B10w9.mono hz9))
  have s0 : w10.cell? ⟨w7.heap.size, 0, none⟩ = some (.int .i64 b.op) := (B10a.out.cell (p := ⟨w7.heap.size, 0, none⟩) (Nat.lt_succ_self _)).trans (by simp [go_sem])
  have s1 : w10.cell? ⟨w7.heap.size, 1, none⟩ = some (.int .i64 b.val) := (B10a.out.cell (p := ⟨w7.heap.size, 1, none⟩) (Nat.lt_succ_self _)).trans (by simp [go_sem])
  have s2 : w10.cell? ⟨w7.heap.size, 2, none⟩ = some (.int .i64 b.idx) := (B10a.out.cell (p := ⟨w7.heap.size, 2, none⟩) (Nat.lt_succ_self _)).trans (by simp [go_sem])
  have s3 : w10.cell? ⟨w7.heap.size, 3, none⟩ = some (.slice Ab b.args.length cb) := (B10a.out.cell (p := ⟨w7.heap.size, 3, none⟩) (Nat.lt_succ_self _)).trans (by simp [go_sem])
  have B710 : Below w7.heap.size w7 w10 := ((Below.refl _ w7).alloc (Nat.le_refl _) _).trans (B10a.out.mono (Nat.le_succ _))
  have B9' : Below w7.heap.size w7 w9 := ((Below.refl _ w7).alloc (Nat.le_refl _) _).trans (B9.out.mono (Nat.le_succ _))
  have c9r : ∀ b o, b < w.heap.size + 3 → w9.cell? ⟨b, o, none⟩ = w3.cell? ⟨b, o, none⟩ := fun b o h => (B9'.cell (p := ⟨b, o, none⟩) (by show b < _; omega)).trans (hc7 b o h)
  have c10 : ∀ b o, b < w.heap.size + 3 → w10.cell? ⟨b, o, none⟩ = w3.cell? ⟨b, o, none⟩ := fun b o h => (B710.cell (p := ⟨b, o, none⟩) (by show b < _; omega)).trans (hc7 b o h)
  have f10 : ∀ b o, b < w.heap.size + 3 → w10.frozen? ⟨b, o, none⟩ = w3.frozen? ⟨b, o, none⟩ := fun b o h => (B710.frozen (p := ⟨b, o, none⟩) (by show b < _; omega)).trans (hf7 b o h)
  have B10 : Hid (Below w.heap.size w w10) := Lib.hid (B7'.out.trans (B710.mono B7'.out.size))
  have ST : Hid (EF (fun b => w7.heap.size + 1 ≤ b) w10 falseE (.agg #[.int .i64 7, .int .i64 0, .int .i64 0, .slice A9 2 c9])) := Lib.hid (by first | exact EF.below B10w9 T9.out | exact EF.below B10w9 T89.out)
  have WK : Hid (EF (fun b => w7.heap.size + 1 ≤ b) w10 trueE (.agg #[.int .i64 6, .int .i64 0, .int .i64 0, .slice A8 2 c8])) := Lib.hid (by first | exact EF.below B10w9 T9.out | exact EF.below B10w9 T89.out)
  have HW10 := Lib.hid hw10
  have Z10 := Lib.hid z10
  have k1 : w9.heap.size + 1 < w10.heap.size := by omega
  have k2 : w9.heap.size < w10.heap.size := by omega
  have k3 : w7.heap.size < w10.heap.size := by omega
  have k4 : w.heap.size + 2 < w10.heap.size := by omega
  have k5 : w.heap.size + 1 < w10.heap.size := by omega
  have k6 : w.heap.size < w10.heap.size := by omega
  have k7 : w.heap.size < w9.heap.size := by omega
  clear hw10 B710 B9' B10w9 hc7 hf7 z10
  go_upto_region 17 with fail
  rw [HW10.out]
  clear c9r
  have z10 : w.heap.size + 1 < w10.heap.size := k5
  have EA := Lib.hid (equal_any a falseE _ _ w10 (ER.below B10.out _ _ HA.out.er) ST.out.er)
  go_wp2_with fail
  refine (EA.out).mono ?_
  rintro en wa ⟨rfl, hbwa⟩
  have Bwa : Hid (Below w10.heap.size w10 wa) := Lib.hid ((Below.refl _ w10).trans (hbwa.mono (Nat.le_refl _)))
  have zwa : w10.heap.size ≤ wa.heap.size := Bwa.out.size
  have ywa : w.heap.size + 1 < wa.heap.size := by omega
  have cwa : ∀ b o, b < w10.heap.size → wa.cell? ⟨b, o, none⟩ = w10.cell? ⟨b, o, none⟩ := fun b o h => Bwa.out.cell (p := ⟨b, o, none⟩) h
  have fwa : ∀ b o, b < w10.heap.size → wa.frozen? ⟨b, o, none⟩ = w10.frozen? ⟨b, o, none⟩ := fun b o h => Bwa.out.frozen (p := ⟨b, o, none⟩) h
  clear hbwa
  cases hs1 : sameE a falseE
  case true =>
    have HR : Hid (foldOp (.node 11 x i [a, b]) = falseE) := Lib.hid (by simp [foldOp, hs1])
    clear hs1
    go_wp2
    refine bodyPost_ret (v := .agg #[.int .i64 (7), .int .i64 (0), .int .i64 (0), .slice A9 2 c9]) (by simp [results, Try.results75, go_sem, cwa, c10, r0, r1, r2, r3, ywa, z10]) rfl (lpost HR.out (EF.newG (EF.below Bwa.out ST.out) (by omega)) (B10.out.trans (Bwa.out.mono B10.out.size)))
  have EB := Lib.hid (equal_any b falseE _ _ wa (ER.below (B10.out.trans (Bwa.out.mono B10.out.size)) _ _ HB9.out.er) (ER.below Bwa.out _ _ ST.out.er))
  go_wp2_with fail
  refine (EB.out).mono ?_
  rintro en wb ⟨rfl, hbwb⟩
  have Bwb : Hid (Below w10.heap.size w10 wb) := Lib.hid ((Bwa.out).trans (hbwb.mono (zwa)))
  have zwb : w10.heap.size ≤ wb.heap.size := Bwb.out.size
  have ywb : w.heap.size + 1 < wb.heap.size := by omega
  have cwb : ∀ b o, b < w10.heap.size → wb.cell? ⟨b, o, none⟩ = w10.cell? ⟨b, o, none⟩ := fun b o h => Bwb.out.cell (p := ⟨b, o, none⟩) h
  have fwb : ∀ b o, b < w10.heap.size → wb.frozen? ⟨b, o, none⟩ = w10.frozen? ⟨b, o, none⟩ := fun b o h => Bwb.out.frozen (p := ⟨b, o, none⟩) h
  clear hbwb
  cases hs2 : sameE b falseE
  case true =>
    have HR : Hid (foldOp (.node 11 x i [a, b]) = falseE) := Lib.hid (by simp [foldOp, hs1, hs2])
    clear hs1 hs2
    go_wp2
    refine bodyPost_ret (v := .agg #[.int .i64 (7), .int .i64 (0), .int .i64 (0), .slice A9 2 c9]) (by simp [results, Try.results75, go_sem, cwb, c10, r0, r1, r2, r3, ywb, z10]) rfl (lpost HR.out (EF.newG (EF.below Bwb.out ST.out) (by omega)) (B10.out.trans (Bwb.out.mono B10.out.size)))
  have EC := Lib.hid (equal_any a trueE _ _ wb (ER.below (B10.out.trans (Bwb.out.mono B10.out.size)) _ _ HA.out.er) (ER.below Bwb.out _ _ WK.out.er))
  clear cwa fwa
  go_wp2_with fail
  refine (EC.out).mono ?_
  rintro en wc ⟨rfl, hbwc⟩
  have Bwc : Hid (Below w10.heap.size w10 wc) := Lib.hid ((Bwb.out).trans (hbwc.mono (zwb)))
  have zwc : w10.heap.size ≤ wc.heap.size := Bwc.out.size
  have ywc : w.heap.size + 1 < wc.heap.size := by omega
  have cwc : ∀ b o, b < w10.heap.size → wc.cell? ⟨b, o, none⟩ = w10.cell? ⟨b, o, none⟩ := fun b o h => Bwc.out.cell (p := ⟨b, o, none⟩) h
  have fwc : ∀ b o, b < w10.heap.size → wc.frozen? ⟨b, o, none⟩ = w10.frozen? ⟨b, o, none⟩ := fun b o h => Bwc.out.frozen (p := ⟨b, o, none⟩) h
  clear hbwc
  cases hs3 : sameE a trueE
  case true =>
    have HR : Hid (foldOp (.node 11 x i [a, b]) = b) := Lib.hid (by simp [foldOp, hs1, hs2, hs3])
    clear hs1 hs2 hs3
    go_wp2
    refine bodyPost_ret (v := .agg #[.int .i64 (b.op), .int .i64 (b.val), .int .i64 (b.idx), .slice Ab b.args.length cb]) (by simp [results, Try.results75, go_sem, cwc, c10, r0, r1, r2, r3, ywc, z10]) rfl (lpost HR.out (HB9.out.keepG (B10.out.trans (Bwc.out.mono B10.out.size))) (B10.out.trans (Bwc.out.mono B10.out.size)))
  have ED := Lib.hid (equal_any b trueE _ _ wc (ER.below (B10.out.trans (Bwc.out.mono B10.out.size)) _ _ HB9.out.er) (ER.below Bwc.out _ _ WK.out.er))
  clear cwb fwb
  go_wp2_with fail
  refine (ED.out).mono ?_
  rintro en wd ⟨rfl, hbwd⟩
  have Bwd : Hid (Below w10.heap.size w10 wd) := Lib.hid ((Bwc.out).trans (hbwd.mono (zwc)))
  have zwd : w10.heap.size ≤ wd.heap.size := Bwd.out.size
  have ywd : w.heap.size + 1 < wd.heap.size := by omega
  have cwd : ∀ b o, b < w10.heap.size → wd.cell? ⟨b, o, none⟩ = w10.cell? ⟨b, o, none⟩ := fun b o h => Bwd.out.cell (p := ⟨b, o, none⟩) h
  have fwd : ∀ b o, b < w10.heap.size → wd.frozen? ⟨b, o, none⟩ = w10.frozen? ⟨b, o, none⟩ := fun b o h => Bwd.out.frozen (p := ⟨b, o, none⟩) h
  clear hbwd
  clear cwc fwc
  cases hs4 : sameE b trueE
  case true =>
    have HR : Hid (foldOp (.node 11 x i [a, b]) = a) := Lib.hid (by simp [foldOp, hs1, hs2, hs3, hs4])
    clear hs1 hs2 hs3 hs4
    go_wp2
    refine bodyPost_ret (v := .agg #[.int .i64 (a.op), .int .i64 (a.val), .int .i64 (a.idx), .slice Aa a.args.length ca]) (by simp [results, Try.results75, go_sem, cwd, c10, r0, r1, r2, r3, ywd, z10]) rfl (lpost HR.out (HA.out.keepG (B10.out.trans (Bwd.out.mono B10.out.size))) (B10.out.trans (Bwd.out.mono B10.out.size)))
  have HR : Hid (foldOp (.node 11 x i [a, b]) = .node 11 x i [a, b]) := Lib.hid (by simp [foldOp, hs1, hs2, hs3, hs4])
  have HV2 : Hid (EF F w (.node 11 x i [a, b]) (.agg #[.int .i64 11, .int .i64 x, .int .i64 i, .slice (some ⟨g, off, none⟩) N c])) := Lib.hid (by have := HV.out; rw [HN.out] at this; exact this)
  clear hs1 hs2 hs3 hs4
  go_wp2
  refine bodyPost_ret (v := .agg #[.int .i64 (11), .int .i64 (x), .int .i64 (i), .slice (some ⟨g, off, none⟩) N c]) (by simp [results, Try.results75, go_sem, cwd, c10, r0, r1, r2, r3, ywd, z10]) rfl (lpost HR.out (HV2.out.keepG (B10.out.trans (Bwd.out.mono B10.out.size))) (B10.out.trans (Bwd.out.mono B10.out.size)))
set_option maxRecDepth 100000 in
set_option maxHeartbeats 2000000 in
theorem logical_bin12 (x i : Int) (a b : EX) (F : Nat → Prop) (v : Value) (w : World) (hv : EF F w (.node 12 x i [a, b]) v) :
    Calls Try.prog 75 #[v] w (LPost F w (foldOp (.node 12 x i [a, b]))) := by
  have HV := Lib.hid hv
  obtain ⟨A, c, rfl, hlc, hcm, hA⟩ := hv
  obtain ⟨g, off, rfl, hFg, hg, hs⟩ := hA (by simp)
  obtain ⟨Aa, ca, a0, a1, a2, a3, ha, hrest⟩ := hs.cons
  have HA := Lib.hid ha
  have hn0 : 0 < ([a, b] : List EX).length := by simp
  obtain ⟨N, hN⟩ : ∃ N, ([a, b] : List EX).length = N := ⟨_, rfl⟩
  rw [hN] at hlc hn0 hcm ⊢
  have HN := Lib.hid hN
  have hn0' : (0 : Int) < (N : Int) := by omega
  obtain ⟨w3, hw3⟩ : ∃ w3, ((w.alloc (.cells #[.int .i64 12, .int .i64 x, .int .i64 i, .slice (some ⟨g, off, none⟩) N c] 24)).alloc (.cells #[.int .i64 0, .int .i64 0, .int .i64 0, .slice none 0 0] 24)).alloc (.cells #[.int .i64 a.op, .int .i64 a.val, .int .i64 a.idx, .slice Aa a.args.length ca] 24) = w3 := ⟨_, rfl⟩
  have B3 : Hid (Below w.heap.size w w3) := Lib.hid (by rw [← hw3]; exact (by repeat (first | exact Below.refl _ _ | assumption | refine Below.drew ?_ | refine below_drewN ?_ _ | refine Below.setCell ?_ (by simp; try omega) _ | refine Below.alloc ?_ (by simp; try omega) _)))
  have hz3 : w3.heap.size = w.heap.size + 3 := by rw [← hw3]; simp
  have f0 : w3.cell? ⟨w.heap.size + 2, 0, none⟩ = some (.int .i64 a.op) := by rw [← hw3]; simp [go_sem]
  have f1 : w3.cell? ⟨w.heap.size + 2, 1, none⟩ = some (.int .i64 a.val) := by rw [← hw3]; simp [go_sem]
  have f2 : w3.cell? ⟨w.heap.size + 2, 2, none⟩ = some (.int .i64 a.idx) := by rw [← hw3]; simp [go_sem]
  have f3 : w3.cell? ⟨w.heap.size + 2, 3, none⟩ = some (.slice Aa a.args.length ca) := by rw [← hw3]; simp [go_sem]
  have x0 : w3.cell? ⟨w.heap.size, 0, none⟩ = some (.int .i64 12) := by rw [← hw3]; simp [go_sem]
  have x1 : w3.cell? ⟨w.heap.size, 1, none⟩ = some (.int .i64 x) := by rw [← hw3]; simp [go_sem]
  have x2 : w3.cell? ⟨w.heap.size, 2, none⟩ = some (.int .i64 i) := by rw [← hw3]; simp [go_sem]
  have x3 : w3.cell? ⟨w.heap.size, 3, none⟩ = some (.slice (some ⟨g, off, none⟩) N c) := by rw [← hw3]; simp [go_sem]
  have r0 : w3.cell? ⟨w.heap.size + 1, 0, none⟩ = some (.int .i64 0) := by rw [← hw3]; simp [go_sem]
  have r1 : w3.cell? ⟨w.heap.size + 1, 1, none⟩ = some (.int .i64 0) := by rw [← hw3]; simp [go_sem]
  have r2 : w3.cell? ⟨w.heap.size + 1, 2, none⟩ = some (.int .i64 0) := by rw [← hw3]; simp [go_sem]
  have r3 : w3.cell? ⟨w.heap.size + 1, 3, none⟩ = some (.slice none 0 0) := by rw [← hw3]; simp [go_sem]
  have q0 : ∀ o, w3.frozen? ⟨w.heap.size + 1, o, none⟩ = false := fun o => by rw [← hw3]; simp [go_sem]
  have hlow : ∀ b o, b < w.heap.size → w3.cell? ⟨b, o, none⟩ = w.cell? ⟨b, o, none⟩ := fun b o h => B3.out.cell (p := ⟨b, o, none⟩) h
  have W3 := Lib.hid hw3
  have Z3 := Lib.hid hz3
  have HREST := Lib.hid hrest
  have hz3' : w.heap.size + 2 < w3.heap.size := by omega
  clear hA hs ha hN hw3 hz3 hrest
  go_enter Try.func75, Try.ntmps75
  go_wp2_with fail
  rw [W3.out]
  refine wp_region_noPanic ?_
  refine wp_region_held_drew (S := fun w' => ∀ b o, b < w3.heap.size → w'.cell? ⟨b, o, none⟩ = w3.cell? ⟨b, o, none⟩) (by kernel_rfl) (fun _ _ _ => rfl) (fun hS0 => ?_)
  refine takeW (v := ?_) 0 rfl (by kernel_rfl) (by kernel_rfl) (by kernel_rfl) (fun _ _ _ h => h) (by rfl) ?_ (by assumption) ?_
  rotate_left 1
  · (intro w hSw; (try dsimp only at hSw); go_simp; try (with_reducible rfl))
  try simp only [Act.put, List.setIfInBounds_toArray, List.set_cons_zero, List.set_cons_succ]
  refine takeW (v := ?_) 3 rfl (by kernel_rfl) (by kernel_rfl) (by kernel_rfl) (fun _ _ _ h => h) (by rfl) ?_ (by assumption) ?_
  rotate_left 1
  · (intro w hSw; (try dsimp only at hSw); go_simp; try (with_reducible rfl))
  try simp only [Act.put, List.setIfInBounds_toArray, List.set_cons_zero, List.set_cons_succ]
  refine comeC 1 rfl (by kernel_rfl) (by rfl) (fun K hK => ?_)
  go_simp
  refine (trueF_any _).mono ?_; rintro en w4 ⟨A4, c4, rfl, ht4, hb4⟩; have hz4 : w3.heap.size ≤ w4.heap.size := hb4.size
  try (go_wp2_with fail)
  refine hK.out _ _ ?_ (fun hS1 => ?_)
  · exact fun b o h => hb4.cell (p := ⟨b, o, none⟩) h
  clear hK K
  try simp only [Act.put, List.setIfInBounds_toArray, List.set_cons_zero, List.set_cons_succ]
  have B4 : Hid (Below w3.heap.size w3 w4) := Lib.hid ((show Below w3.heap.size w3 w3.drew from (Below.refl _ _).drew).trans hb4)
  have T4 := Lib.hid ht4.er
  have E4 := Lib.hid (equal_any a trueE _ _ w4 (ER.below (B3.out.trans (B4.out.mono B3.out.size)) _ _ HA.out.er) T4.out)
  clear ht4 hb4
  refine comeC 2 rfl (by kernel_rfl) (by rfl) (fun K hK => ?_)
  go_simp
  refine E4.out.mono ?_; rintro en w5 ⟨rfl, hb5⟩
  try (go_wp2_with fail)
  refine hK.out _ _ ?_ (fun hS2 => ?_)
  · exact fun b o h => (hb5.cell (p := ⟨b, o, none⟩) (Nat.lt_of_lt_of_le h hz4)).trans (hS1 b o h)
  clear hK K
  try simp only [Act.put, List.setIfInBounds_toArray, List.set_cons_zero, List.set_cons_succ]
  have B5 : Hid (Below w3.heap.size w3 w5) := Lib.hid (B4.out.trans (hb5.mono hz4))
  have hz5 : w3.heap.size ≤ w5.heap.size := B5.out.size
  clear hb5 hS1
  refine comeC 4 rfl (by kernel_rfl) (by rfl) (fun K hK => ?_)
  go_simp
  refine (falseF_any _).mono ?_; rintro en w6 ⟨A6, c6, rfl, ht6, hb6⟩; have hz6 : w3.heap.size ≤ w6.heap.size := Nat.le_trans hz5 hb6.size
  try (go_wp2_with fail)
  refine hK.out _ _ ?_ (fun hS4 => ?_)
  · exact fun b o h => (hb6.cell (p := ⟨b, o, none⟩) (Nat.lt_of_lt_of_le h hz5)).trans (hS2 b o h)
  clear hK K
  try simp only [Act.put, List.setIfInBounds_toArray, List.set_cons_zero, List.set_cons_succ]
  have B6 : Hid (Below w3.heap.size w3 w6) := Lib.hid (B5.out.trans (hb6.mono hz5))
  have T6 := Lib.hid ht6.er
  have E6 := Lib.hid (equal_any a falseE _ _ w6 (ER.below (B3.out.trans (B6.out.mono B3.out.size)) _ _ HA.out.er) T6.out)
  clear ht6 hb6 hS2
  refine comeC 5 rfl (by kernel_rfl) (by rfl) (fun K hK => ?_)
  go_simp
  refine E6.out.mono ?_; rintro en w7 ⟨rfl, hb7⟩
  try (go_wp2_with fail)
  refine hK.out _ _ ?_ (fun hS5 => ?_)
  · exact fun b o h => (hb7.cell (p := ⟨b, o, none⟩) (Nat.lt_of_lt_of_le h hz6)).trans (hS4 b o h)
  clear hK K
  try simp only [Act.put, List.setIfInBounds_toArray, List.set_cons_zero, List.set_cons_succ]
  have B7 : Hid (Below w3.heap.size w3 w7) := Lib.hid (B6.out.trans (hb7.mono hz6))
  have hz7 : w3.heap.size ≤ w7.heap.size := B7.out.size
  clear hb7 hS4
  refine takeW (v := ?_) 6 rfl (by kernel_rfl) (by kernel_rfl) (by kernel_rfl) (fun _ _ _ h => h) (by rfl) ?_ (by assumption) ?_
  rotate_left 1
  · (intro w hSw; (try dsimp only at hSw); go_simp; try (with_reducible rfl))
  try simp only [Act.put, List.setIfInBounds_toArray, List.set_cons_zero, List.set_cons_succ]
  refine takeW (v := ?_) 7 rfl (by kernel_rfl) (by kernel_rfl) (by kernel_rfl) (fun _ _ _ h => h) (by rfl) ?_ (by assumption) ?_
  rotate_left 1
  · (intro w hSw; (try dsimp only at hSw); go_simp; try (with_reducible rfl))
  try simp only [Act.put, List.setIfInBounds_toArray, List.set_cons_zero, List.set_cons_succ]
  refine wpAnyH_done (by kernel_rfl) ?_ _
  refine NoPanic.normal ?_
  clear hS0 hz4 hz5 hz6 T4 T6 E4 E6 B4 B5 B6
  have hc7 : ∀ b o, b < w.heap.size + 3 → w7.cell? ⟨b, o, none⟩ = w3.cell? ⟨b, o, none⟩ := fun b o h => hS5 b o (by have := Z3.out; omega)
  have hf7 : ∀ b o, b < w.heap.size + 3 → w7.frozen? ⟨b, o, none⟩ = w3.frozen? ⟨b, o, none⟩ := fun b o h => B7.out.frozen (p := ⟨b, o, none⟩) (by show b < _; have := Z3.out; omega)
  have hz7' : w.heap.size + 2 < w7.heap.size := by omega
  have B7' : Hid (Below w.heap.size w w7) := Lib.hid (B3.out.trans (B7.out.mono B3.out.size))
  clear hS5
  have hg3 : g < w.heap.size + 3 := by omega
  obtain ⟨Ab, cb, b0, b1, b2, b3, hb9, _⟩ := HREST.out.cons
  have HB9 := Lib.hid hb9
  have hn1 : (1 : Int) < (N : Int) := by have := HN.out; simp at this; omega
  have hn1' : 1 < N := by omega
  clear hb9
  go_wp2_with fail
  refine (trueF_any _).mono ?_
  rintro en w8 ⟨A8, c8, rfl, ht8, hb8⟩
  have hz8 : w7.heap.size + 1 ≤ w8.heap.size := by have := hb8.size; simp at this; omega
  have B8 : Hid (Below (w7.heap.size + 1) (w7.alloc (.cells #[.int .i64 b.op, .int .i64 b.val, .int .i64 b.idx, .slice Ab b.args.length cb] 24)) w8) := Lib.hid (by simpa using hb8)
  have T8 : Hid (EF (fun b => w7.heap.size + 1 ≤ b) w8 trueE (.agg #[.int .i64 6, .int .i64 0, .int .i64 0, .slice A8 2 c8])) := Lib.hid (by simpa using ht8)
  clear ht8 hb8
  go_wp2_with fail
  refine (falseF_any _).mono ?_
  rintro en w9 ⟨A9, c9, rfl, ht9, hb9⟩
  have hz9 : w7.heap.size + 1 ≤ w9.heap.size := by have := hb9.size; omega
  have B9 : Hid (Below (w7.heap.size + 1) (w7.alloc (.cells #[.int .i64 b.op, .int .i64 b.val, .int .i64 b.idx, .slice Ab b.args.length cb] 24)) w9) := Lib.hid (B8.out.trans (hb9.mono hz8))
  have T9 : Hid (EF (fun b => w7.heap.size + 1 ≤ b) w9 falseE (.agg #[.int .i64 7, .int .i64 0, .int .i64 0, .slice A9 2 c9])) := Lib.hid (EF.weaken (fun b hb _ => Nat.le_trans hz8 hb) ht9)
  have T89 : Hid (EF (fun b => w7.heap.size + 1 ≤ b) w9 trueE (.agg #[.int .i64 6, .int .i64 0, .int .i64 0, .slice A8 2 c8])) := Lib.hid (EF.below hb9 T8.out)
  clear ht9 hb9
  obtain ⟨w10, hw10⟩ : ∃ w10, (w9.alloc (.cells #[.int .i64 7, .int .i64 0, .int .i64 0, .slice A9 2 c9] 24)).alloc (.cells #[.int .i64 6, .int .i64 0, .int .i64 0, .slice A8 2 c8] 24) = w10 := ⟨_, rfl⟩
  have B10w9 : Below w9.heap.size w9 w10 := by rw [← hw10]; exact (by repeat (first | exact Below.refl _ _ | assumption | refine Below.drew ?_ | refine below_drewN ?_ _ | refine Below.setCell ?_ (by simp; try omega) _ | refine Below.alloc ?_ (by simp; try omega) _))
  have z10 : w10.heap.size = w9.heap.size + 2 := by rw [← hw10]; simp
  have n0 : w10.cell? ⟨w9.heap.size, 0, none⟩ = some (.int .i64 7) := by rw [← hw10]; simp [go_sem]
  have n1 : w10.cell? ⟨w9.heap.size, 1, none⟩ = some (.int .i64 0) := by rw [← hw10]; simp [go_sem]
  have n2 : w10.cell? ⟨w9.heap.size, 2, none⟩ = some (.int .i64 0) := by rw [← hw10]; simp [go_sem]
  have n3 : w10.cell? ⟨w9.heap.size, 3, none⟩ = some (.slice A9 2 c9) := by rw [← hw10]; simp [go_sem]
  have t0 : w10.cell? ⟨w9.heap.size + 1, 0, none⟩ = some (.int .i64 6) := by rw [← hw10]; simp [go_sem]
  have t1 : w10.cell? ⟨w9.heap.size + 1, 1, none⟩ = some (.int .i64 0) := by rw [← hw10]; simp [go_sem]
  have t2 : w10.cell? ⟨w9.heap.size + 1, 2, none⟩ = some (.int .i64 0) := by rw [← hw10]; simp [go_sem]
  have t3 : w10.cell? ⟨w9.heap.size + 1, 3, none⟩ = some (.slice A8 2 c8) := by rw [← hw10]; simp [go_sem]
  have B10a : Hid (Below (w7.heap.size + 1) (w7.alloc (.cells #[.int .i64 b.op, .int .i64 b.val, .int .i64 b.idx, .slice Ab b.args.length cb] 24)) w10) := Lib.hid (B9.out.trans (B10w9.mono hz9))
  have s0 : w10.cell? ⟨w7.heap.size, 0, none⟩ = some (.int .i64 b.op) := (B10a.out.cell (p := ⟨w7.heap.size, 0, none⟩) (Nat.lt_succ_self _)).trans (by simp [go_sem])
  have s1 : w10.cell? ⟨w7.heap.size, 1, none⟩ = some (.int .i64 b.val) := (B10a.out.cell (p := ⟨w7.heap.size, 1, none⟩) (Nat.lt_succ_self _)).trans (by simp [go_sem])
  have s2 : w10.cell? ⟨w7.heap.size, 2, none⟩ = some (.int .i64 b.idx) := (B10a.out.cell (p := ⟨w7.heap.size, 2, none⟩) (Nat.lt_succ_self _)).trans (by simp [go_sem])
  have s3 : w10.cell? ⟨w7.heap.size, 3, none⟩ = some (.slice Ab b.args.length cb) := (B10a.out.cell (p := ⟨w7.heap.size, 3, none⟩) (Nat.lt_succ_self _)).trans (by simp [go_sem])
  have B710 : Below w7.heap.size w7 w10 := ((Below.refl _ w7).alloc (Nat.le_refl _) _).trans (B10a.out.mono (Nat.le_succ _))
  have B9' : Below w7.heap.size w7 w9 := ((Below.refl _ w7).alloc (Nat.le_refl _) _).trans (B9.out.mono (Nat.le_succ _))
  have c9r : ∀ b o, b < w.heap.size + 3 → w9.cell? ⟨b, o, none⟩ = w3.cell? ⟨b, o, none⟩ := fun b o h => (B9'.cell (p := ⟨b, o, none⟩) (by show b < _; omega)).trans (hc7 b o h)
  have c10 : ∀ b o, b < w.heap.size + 3 → w10.cell? ⟨b, o, none⟩ = w3.cell? ⟨b, o, none⟩ := fun b o h => (B710.cell (p := ⟨b, o, none⟩) (by show b < _; omega)).trans (hc7 b o h)
  have f10 : ∀ b o, b < w.heap.size + 3 → w10.frozen? ⟨b, o, none⟩ = w3.frozen? ⟨b, o, none⟩ := fun b o h => (B710.frozen (p := ⟨b, o, none⟩) (by show b < _; omega)).trans (hf7 b o h)
  have B10 : Hid (Below w.heap.size w w10) := Lib.hid (B7'.out.trans (B710.mono B7'.out.size))
  have ST : Hid (EF (fun b => w7.heap.size + 1 ≤ b) w10 trueE (.agg #[.int .i64 6, .int .i64 0, .int .i64 0, .slice A8 2 c8])) := Lib.hid (by first | exact EF.below B10w9 T9.out | exact EF.below B10w9 T89.out)
  have WK : Hid (EF (fun b => w7.heap.size + 1 ≤ b) w10 falseE (.agg #[.int .i64 7, .int .i64 0, .int .i64 0, .slice A9 2 c9])) := Lib.hid (by first | exact EF.below B10w9 T9.out | exact EF.below B10w9 T89.out)
  have HW10 := Lib.hid hw10
  have Z10 := Lib.hid z10
  have k1 : w9.heap.size + 1 < w10.heap.size := by omega
  have k2 : w9.heap.size < w10.heap.size := by omega
  have k3 : w7.heap.size < w10.heap.size := by omega
  have k4 : w.heap.size + 2 < w10.heap.size := by omega
  have k5 : w.heap.size + 1 < w10.heap.size := by omega
  have k6 : w.heap.size < w10.heap.size := by omega
  have k7 : w.heap.size < w9.heap.size := by omega
  clear hw10 B710 B9' B10w9 hc7 hf7 z10
  go_upto_region 17 with fail
  rw [HW10.out]
  clear c9r
  have z10 : w.heap.size + 1 < w10.heap.size := k5
  have EA := Lib.hid (equal_any a trueE _ _ w10 (ER.below B10.out _ _ HA.out.er) ST.out.er)
  go_wp2_with fail
  refine (EA.out).mono ?_
  rintro en wa ⟨rfl, hbwa⟩
  have Bwa : Hid (Below w10.heap.size w10 wa) := Lib.hid ((Below.refl _ w10).trans (hbwa.mono (Nat.le_refl _)))
  have zwa : w10.heap.size ≤ wa.heap.size := Bwa.out.size
  have ywa : w.heap.size + 1 < wa.heap.size := by omega
  have cwa : ∀ b o, b < w10.heap.size → wa.cell? ⟨b, o, none⟩ = w10.cell? ⟨b, o, none⟩ := fun b o h => Bwa.out.cell (p := ⟨b, o, none⟩) h
  have fwa : ∀ b o, b < w10.heap.size → wa.frozen? ⟨b, o, none⟩ = w10.frozen? ⟨b, o, none⟩ := fun b o h => Bwa.out.frozen (p := ⟨b, o, none⟩) h
  clear hbwa
  cases hs1 : sameE a trueE
  case true =>
    have HR : Hid (foldOp (.node 12 x i [a, b]) = trueE) := Lib.hid (by simp [foldOp, hs1])
    clear hs1
    go_wp2
    refine bodyPost_ret (v := .agg #[.int .i64 (6), .int .i64 (0), .int .i64 (0), .slice A8 2 c8]) (by simp [results, Try.results75, go_sem, cwa, c10, r0, r1, r2, r3, ywa, z10]) rfl (lpost HR.out (EF.newG (EF.below Bwa.out ST.out) (by omega)) (B10.out.trans (Bwa.out.mono B10.out.size)))
  have EB := Lib.hid (equal_any b trueE _ _ wa (ER.below (B10.out.trans (Bwa.out.mono B10.out.size)) _ _ HB9.out.er) (ER.below Bwa.out _ _ ST.out.er))
  go_wp2_with fail
  refine (EB.out).mono ?_
  rintro en wb ⟨rfl, hbwb⟩
  have Bwb : Hid (Below w10.heap.size w10 wb) := Lib.hid ((Bwa.out).trans (hbwb.mono (zwa)))
  have zwb : w10.heap.size ≤ wb.heap.size := Bwb.out.size
  have ywb : w.heap.size + 1 < wb.heap.size := by omega
  have cwb : ∀ b o, b < w10.heap.size → wb.cell? ⟨b, o, none⟩ = w10.cell? ⟨b, o, none⟩ := fun b o h => Bwb.out.cell (p := ⟨b, o, none⟩) h
  have fwb : ∀ b o, b < w10.heap.size → wb.frozen? ⟨b, o, none⟩ = w10.frozen? ⟨b, o, none⟩ := fun b o h => Bwb.out.frozen (p := ⟨b, o, none⟩) h
  clear hbwb
  cases hs2 : sameE b trueE
  case true =>
    have HR : Hid (foldOp (.node 12 x i [a, b]) = trueE) := Lib.hid (by simp [foldOp, hs1, hs2])
    clear hs1 hs2
    go_wp2
    refine bodyPost_ret (v := .agg #[.int .i64 (6), .int .i64 (0), .int .i64 (0), .slice A8 2 c8]) (by simp [results, Try.results75, go_sem, cwb, c10, r0, r1, r2, r3, ywb, z10]) rfl (lpost HR.out (EF.newG (EF.below Bwb.out ST.out) (by omega)) (B10.out.trans (Bwb.out.mono B10.out.size)))
  have EC := Lib.hid (equal_any a falseE _ _ wb (ER.below (B10.out.trans (Bwb.out.mono B10.out.size)) _ _ HA.out.er) (ER.below Bwb.out _ _ WK.out.er))
  clear cwa fwa
  go_wp2_with fail
  refine (EC.out).mono ?_
  rintro en wc ⟨rfl, hbwc⟩
  have Bwc : Hid (Below w10.heap.size w10 wc) := Lib.hid ((Bwb.out).trans (hbwc.mono (zwb)))
  have zwc : w10.heap.size ≤ wc.heap.size := Bwc.out.size
  have ywc : w.heap.size + 1 < wc.heap.size := by omega
  have cwc : ∀ b o, b < w10.heap.size → wc.cell? ⟨b, o, none⟩ = w10.cell? ⟨b, o, none⟩ := fun b o h => Bwc.out.cell (p := ⟨b, o, none⟩) h
  have fwc : ∀ b o, b < w10.heap.size → wc.frozen? ⟨b, o, none⟩ = w10.frozen? ⟨b, o, none⟩ := fun b o h => Bwc.out.frozen (p := ⟨b, o, none⟩) h
  clear hbwc
  cases hs3 : sameE a falseE
  case true =>
    have HR : Hid (foldOp (.node 12 x i [a, b]) = b) := Lib.hid (by simp [foldOp, hs1, hs2, hs3])
    clear hs1 hs2 hs3
    go_wp2
    refine bodyPost_ret (v := .agg #[.int .i64 (b.op), .int .i64 (b.val), .int .i64 (b.idx), .slice Ab b.args.length cb]) (by simp [results, Try.results75, go_sem, cwc, c10, r0, r1, r2, r3, ywc, z10]) rfl (lpost HR.out (HB9.out.keepG (B10.out.trans (Bwc.out.mono B10.out.size))) (B10.out.trans (Bwc.out.mono B10.out.size)))
  have ED := Lib.hid (equal_any b falseE _ _ wc (ER.below (B10.out.trans (Bwc.out.mono B10.out.size)) _ _ HB9.out.er) (ER.below Bwc.out _ _ WK.out.er))
  clear cwb fwb
  go_wp2_with fail
  refine (ED.out).mono ?_
  rintro en wd ⟨rfl, hbwd⟩
  have Bwd : Hid (Below w10.heap.size w10 wd) := Lib.hid ((Bwc.out).trans (hbwd.mono (zwc)))
  have zwd : w10.heap.size ≤ wd.heap.size := Bwd.out.size
  have ywd : w.heap.size + 1 < wd.heap.size := by omega
  have cwd : ∀ b o, b < w10.heap.size → wd.cell? ⟨b, o, none⟩ = w10.cell? ⟨b, o, none⟩ := fun b o h => Bwd.out.cell (p := ⟨b, o, none⟩) h
  have fwd : ∀ b o, b < w10.heap.size → wd.frozen? ⟨b, o, none⟩ = w10.frozen? ⟨b, o, none⟩ := fun b o h => Bwd.out.frozen (p := ⟨b, o, none⟩) h
  clear hbwd
  clear cwc fwc
  cases hs4 : sameE b falseE
  case true =>
    have HR : Hid (foldOp (.node 12 x i [a, b]) = a) := Lib.hid (by simp [foldOp, hs1, hs2, hs3, hs4])
    clear hs1 hs2 hs3 hs4
    go_wp2
    refine bodyPost_ret (v := .agg #[.int .i64 (a.op), .int .i64 (a.val), .int .i64 (a.idx), .slice Aa a.args.length ca]) (by simp [results, Try.results75, go_sem, cwd, c10, r0, r1, r2, r3, ywd, z10]) rfl (lpost HR.out (HA.out.keepG (B10.out.trans (Bwd.out.mono B10.out.size))) (B10.out.trans (Bwd.out.mono B10.out.size)))
  have HR : Hid (foldOp (.node 12 x i [a, b]) = .node 12 x i [a, b]) := Lib.hid (by simp [foldOp, hs1, hs2, hs3, hs4])
  have HV2 : Hid (EF F w (.node 12 x i [a, b]) (.agg #[.int .i64 12, .int .i64 x, .int .i64 i, .slice (some ⟨g, off, none⟩) N c])) := Lib.hid (by have := HV.out; rw [HN.out] at this; exact this)
  clear hs1 hs2 hs3 hs4
  go_wp2
  refine bodyPost_ret (v := .agg #[.int .i64 (12), .int .i64 (x), .int .i64 (i), .slice (some ⟨g, off, none⟩) N c]) (by simp [results, Try.results75, go_sem, cwd, c10, r0, r1, r2, r3, ywd, z10]) rfl (lpost HR.out (HV2.out.keepG (B10.out.trans (Bwd.out.mono B10.out.size))) (B10.out.trans (Bwd.out.mono B10.out.size)))
end Go.Proofs.Ytmclnnpaephkpaa

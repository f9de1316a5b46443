/-
  WALKS of chapter 14: known.
-/
import Derived.Test.YtmclnnpaephkpaaWY14
import Derived.Test.YtmclnnpaephkpaaWR14
import Derived.Test.YtmclnnpaephkpaaWP14
import Derived.Test.YtmclnnpaephkpaaWH14
import Derived.Test.YtmclnnpaephkpaaPK14
namespace Go.Proofs.Ytmclnnpaephkpaa
set_option linter.unusedVariables false
set_option linter.unusedSimpArgs false
set_option linter.unnecessarySimpa false
set_option linter.unusedSectionVars false
open Go.RowKit

/-- An expression without arguments. -/
theorem ER.leaf (w : World) (o x i : Int) : ER w (.node o x i []) (.agg #[.int .i64 o, .int .i64 x, .int .i64 i, .slice none 0 0]) := by
  unfold ER
  exact ⟨none, 0, rfl, by decide, by decide, fun h => absurd rfl h⟩
/-- An expression with two arguments that lie in a block of their own. -/
theorem ER.two {w : World} {o x i : Int} {a b : EX} {g : Nat} {a0 a1 a2 a3 b0 b1 b2 b3 : Value} (h0 : w.cell? ⟨g, 0, none⟩ = some a0) (h1 : w.cell? ⟨g, 1, none⟩ = some a1) (h2 : w.cell? ⟨g, 2, none⟩ = some a2) (h3 : w.cell? ⟨g, 3, none⟩ = some a3)
    (h4 : w.cell? ⟨g, 4, none⟩ = some b0) (h5 : w.cell? ⟨g, 5, none⟩ = some b1) (h6 : w.cell? ⟨g, 6, none⟩ = some b2) (h7 : w.cell? ⟨g, 7, none⟩ = some b3) (ha : ER w a (.agg #[a0, a1, a2, a3])) (hb : ER w b (.agg #[b0, b1, b2, b3])) :
    ER w (.node o x i [a, b]) (.agg #[.int .i64 o, .int .i64 x, .int .i64 i, .slice (some ⟨g, 0, none⟩) 2 2]) := by
  rw [ER]
  exact ⟨some ⟨g, 0, none⟩, 2, rfl, Nat.le_refl 2, by simp, fun _ => ⟨g, 0, rfl, ⟨_, _, _, _, h0, h1, h2, h3, ha⟩, ⟨_, _, _, _, h4, h5, h6, h7, hb⟩, trivial⟩⟩
theorem foldA_any (v : Value) (w : World) (hv : ER w kA v) : ∃ y, sameE y kI = true ∧ Calls Try.prog 25 #[v] w (fun en w' => ∃ v', en = .returned (.tuple #[v', .int .i64 0]) ∧ EF (fun b => w.heap.size ≤ b) w' y v' ∧ Below w.heap.size w w') :=
  ⟨(foldS kA).1, kA_fold, (foldP_any kA v w hv).mono fun _ _ ⟨v', h1, h2, h3⟩ => ⟨v', by rw [h1, kA_fold2], h2, h3⟩⟩
set_option maxRecDepth 100000 in
set_option maxHeartbeats 2000000 in
theorem known14_any (w : World) : Calls Try.prog 12 #[] w fun e w' => e = .returned (.bool true) ∧ Below w.heap.size w w' := by
  obtain ⟨w1, hw1⟩ : ∃ w1, ((((((w.alloc (.cells #[.int .i64 1, .int .i64 0, .int .i64 0, .slice none 0 0] 24)).alloc (.cells #[.int .i64 0, .int .i64 4, .int .i64 0, .slice none 0 0] 24)).alloc (.cells #[.string ⟨#[120]⟩, .int .i64 0, .int .i64 3, .int .i64 0] 48)).alloc
    (.cells #[.int .i64 1, .int .i64 0, .int .i64 0, .slice none 0 0, .int .i64 1, .int .i64 0, .int .i64 0, .slice none 0 0] 24)).alloc (.cells #[.int .i64 4, .int .i64 0, .int .i64 0, .slice (some ⟨w.heap.size + 1 + 1 + 1, 0, none⟩) 2 2, .int .i64 0, .int .i64 4, .int .i64 0, .slice none 0 0] 24)).alloc
    (.cells #[.int .i64 3, .int .i64 0, .int .i64 0, .slice (some ⟨w.heap.size + 1 + 1 + 1 + 1, 0, none⟩) 2 2] 24)) = w1 := ⟨_, rfl⟩
  have B1 : Hid (Below w.heap.size w w1) := Lib.hid (by rw [← hw1]; exact (by repeat (first | exact Below.refl _ _ | assumption | refine Below.drew ?_ | refine below_drewN ?_ _ | refine Below.setCell ?_ (by simp; try omega) _ | refine Below.alloc ?_ (by simp; try omega) _)))
  have z1 : w1.heap.size = w.heap.size + 6 := by rw [← hw1]; simp
  have X : Hid (∀ o, o < 4 → w1.cell? ⟨w.heap.size, o, none⟩ = (#[.int .i64 1, .int .i64 0, .int .i64 0, .slice none 0 0] : Array Value)[o]?) := Lib.hid (by
    intro o ho
    match o with
    | 0 | 1 | 2 | 3 => rw [← hw1]; simp [go_sem]
    | o + 4 => omega)
  have x0 : w1.cell? ⟨w.heap.size, 0, none⟩ = some (.int .i64 1) := X.out 0 (by omega)
  have x1 : w1.cell? ⟨w.heap.size, 1, none⟩ = some (.int .i64 0) := X.out 1 (by omega)
  have x2 : w1.cell? ⟨w.heap.size, 2, none⟩ = some (.int .i64 0) := X.out 2 (by omega)
  have x3 : w1.cell? ⟨w.heap.size, 3, none⟩ = some (.slice none 0 0) := X.out 3 (by omega)
  have f0 : w1.cell? ⟨w.heap.size + 1, 0, none⟩ = some (.int .i64 0) := by rw [← hw1]; simp [go_sem]
  have f1 : w1.cell? ⟨w.heap.size + 1, 1, none⟩ = some (.int .i64 4) := by rw [← hw1]; simp [go_sem]
  have f2 : w1.cell? ⟨w.heap.size + 1, 2, none⟩ = some (.int .i64 0) := by rw [← hw1]; simp [go_sem]
  have f3 : w1.cell? ⟨w.heap.size + 1, 3, none⟩ = some (.slice none 0 0) := by rw [← hw1]; simp [go_sem]
  have y0 : w1.cell? ⟨w.heap.size + 1 + 1 + 1 + 1 + 1, 0, none⟩ = some (.int .i64 3) := by rw [← hw1]; simp [go_sem]
  have y1 : w1.cell? ⟨w.heap.size + 1 + 1 + 1 + 1 + 1, 1, none⟩ = some (.int .i64 0) := by rw [← hw1]; simp [go_sem]
  have y2 : w1.cell? ⟨w.heap.size + 1 + 1 + 1 + 1 + 1, 2, none⟩ = some (.int .i64 0) := by rw [← hw1]; simp [go_sem]
  have y3 : w1.cell? ⟨w.heap.size + 1 + 1 + 1 + 1 + 1, 3, none⟩ = some (.slice (some ⟨w.heap.size + 1 + 1 + 1 + 1, 0, none⟩) 2 2) := by rw [← hw1]; simp [go_sem]
  have EY : Hid (ER w1 kY (.agg #[.int .i64 3, .int .i64 0, .int .i64 0, .slice (some ⟨w.heap.size + 1 + 1 + 1 + 1, 0, none⟩) 2 2])) := Lib.hid (by
    refine ER.two (a0 := .int .i64 4) (a1 := .int .i64 0) (a2 := .int .i64 0) (a3 := .slice (some ⟨w.heap.size + 1 + 1 + 1, 0, none⟩) 2 2) (b0 := .int .i64 0) (b1 := .int .i64 4) (b2 := .int .i64 0) (b3 := .slice none 0 0) ?_ ?_ ?_ ?_ ?_ ?_ ?_ ?_ (ER.two (a0 := .int .i64 1) (a1 := .int .i64 0) (a2 := .int .i64 0) (a3 := .slice none 0 0) (b0 := .int .i64 1) (b1 := .int .i64 0) (b2 := .int .i64 0) (b3 := .slice none 0 0) ?_ ?_ ?_ ?_ ?_ ?_ ?_ ?_ (ER.leaf _ _ _ _) (ER.leaf _ _ _ _)) (ER.leaf _ _ _ _)
    all_goals (rw [← hw1]; simp [go_sem]))
  have EV : Hid (VRo w1 (some ⟨w.heap.size + 1 + 1, 0, none⟩) 0 kV) := Lib.hid (fun _ => ⟨_, _, rfl, by
    unfold kV VRs
    refine ⟨?_, ?_, ?_, ?_, by decide, trivial⟩
    all_goals (rw [← hw1]; simp [go_sem])⟩)
  have W1 := Lib.hid hw1
  have Z1 := Lib.hid z1
  clear hw1 z1 X
  have CB := Lib.hid (boundsP_any kY kV _ 1 1 _ w1 rfl (by decide) (by decide) EY.out EV.out)
  go_enter Try.func12, Try.ntmps12
  go_wp2_with fail
  rw [W1.out]
  refine CB.out.mono ?_
  rw [kY_bounds]
  rintro en w2 ⟨rfl, hb2⟩
  have Bw2 : Hid (Below w.heap.size w w2) := Lib.hid (B1.out.trans (hb2.mono B1.out.size))
  have Bw2' : Hid (Below w1.heap.size w1 w2) := Lib.hid (by first | exact hb2 | exact Bw1'.out.trans (hb2.mono Bw1'.out.size))
  have zw2 : w.heap.size + 5 < w2.heap.size := by have := Bw2'.out.size; have := Z1.out; omega
  have cw2 : ∀ b o, b < w.heap.size + 6 → w2.cell? ⟨b, o, none⟩ = w1.cell? ⟨b, o, none⟩ := fun b o h => Bw2'.out.cell (p := ⟨b, o, none⟩) (by show b < _; have := Z1.out; omega)
  clear hb2
  have CE := Lib.hid (evaluateP_any kY [3] (some ⟨w2.heap.size, 0, none⟩) 1 1 _ (w2.alloc (.cells #[.int .i64 3] 3)) rfl (by decide) (by decide) (ER.below (Bw2'.out.alloc Bw2'.out.size _) _ _ EY.out) (fun _ => ⟨_, _, rfl, by simp [go_sem], trivial⟩))
  go_wp2_with fail
  refine CE.out.mono ?_
  rw [kY_eval]
  rintro en w3 ⟨rfl, hb3⟩
  have hb3' := ((Below.refl _ w2).alloc (Nat.le_refl _) (.cells #[.int .i64 3] 3)).trans (hb3.mono (by simp))
  have Bw3 : Hid (Below w.heap.size w w3) := Lib.hid (Bw2.out.trans (hb3'.mono Bw2.out.size))
  have Bw3' : Hid (Below w1.heap.size w1 w3) := Lib.hid (by first | exact hb3' | exact Bw2'.out.trans (hb3'.mono Bw2'.out.size))
  have zw3 : w.heap.size + 5 < w3.heap.size := by have := Bw3'.out.size; have := Z1.out; omega
  have cw3 : ∀ b o, b < w.heap.size + 6 → w3.cell? ⟨b, o, none⟩ = w1.cell? ⟨b, o, none⟩ := fun b o h => Bw3'.out.cell (p := ⟨b, o, none⟩) (by show b < _; have := Z1.out; omega)
  clear hb3'
  clear hb3 cw2
  have CL := Lib.hid (boundsP_any kL kV (some ⟨w.heap.size + 1 + 1, 0, none⟩) 1 1 (.agg #[.int .i64 8, .int .i64 0, .int .i64 0, .slice (some ⟨w3.heap.size, 0, none⟩) 2 2]) (w3.alloc (.cells #[.int .i64 1, .int .i64 0, .int .i64 0, .slice none 0 0, .int .i64 0, .int .i64 4, .int .i64 0, .slice none 0 0] 24)) rfl (by decide) (by decide)
    (by
      refine ER.two (a0 := .int .i64 1) (a1 := .int .i64 0) (a2 := .int .i64 0) (a3 := .slice none 0 0) (b0 := .int .i64 0) (b1 := .int .i64 4) (b2 := .int .i64 0) (b3 := .slice none 0 0) ?_ ?_ ?_ ?_ ?_ ?_ ?_ ?_ (ER.leaf _ _ _ _) (ER.leaf _ _ _ _)
      all_goals simp [go_sem]) (EV.out.kept (Bw3'.out.alloc Bw3'.out.size _) (Nat.le_refl _)))
  go_wp2_with fail
  refine CL.out.mono ?_
  rw [kL_bounds]
  rintro en w4 ⟨rfl, hb4⟩
  have hb4' := ((Below.refl _ w3).alloc (Nat.le_refl _) (.cells #[.int .i64 1, .int .i64 0, .int .i64 0, .slice none 0 0, .int .i64 0, .int .i64 4, .int .i64 0, .slice none 0 0] 24)).trans (hb4.mono (by simp))
  have Bw4 : Hid (Below w.heap.size w w4) := Lib.hid (Bw3.out.trans (hb4'.mono Bw3.out.size))
  have Bw4' : Hid (Below w1.heap.size w1 w4) := Lib.hid (by first | exact hb4' | exact Bw3'.out.trans (hb4'.mono Bw3'.out.size))
  have zw4 : w.heap.size + 5 < w4.heap.size := by have := Bw4'.out.size; have := Z1.out; omega
  have cw4 : ∀ b o, b < w.heap.size + 6 → w4.cell? ⟨b, o, none⟩ = w1.cell? ⟨b, o, none⟩ := fun b o h => Bw4'.out.cell (p := ⟨b, o, none⟩) (by show b < _; have := Z1.out; omega)
  clear hb4'
  clear hb4 cw3
  obtain ⟨w5, hw5⟩ : ∃ w5, ((((w4.alloc (.cells #[.int .i64 1, .int .i64 0, .int .i64 0, .slice none 0 0, .int .i64 0, .int .i64 1, .int .i64 0, .slice none 0 0] 24)).alloc (.cells #[.int .i64 6, .int .i64 0, .int .i64 0, .slice (some ⟨w4.heap.size, 0, none⟩) 2 2] 24)).alloc
    (.cells #[.int .i64 0, .int .i64 2, .int .i64 0, .slice none 0 0, .int .i64 0, .int .i64 3, .int .i64 0, .slice none 0 0] 24)).alloc
    (.cells #[.int .i64 9, .int .i64 0, .int .i64 0, .slice (some ⟨w4.heap.size + 1 + 1, 0, none⟩) 2 2, .int .i64 6, .int .i64 0, .int .i64 0, .slice (some ⟨w4.heap.size, 0, none⟩) 2 2] 24)) = w5 := ⟨_, rfl⟩
  have B5w4 : Below w4.heap.size w4 w5 := by rw [← hw5]; exact (by repeat (first | exact Below.refl _ _ | assumption | refine Below.drew ?_ | refine below_drewN ?_ _ | refine Below.setCell ?_ (by simp; try omega) _ | refine Below.alloc ?_ (by simp; try omega) _))
  have z5 : w5.heap.size = w4.heap.size + 4 := by rw [← hw5]; simp
  have i0 : w5.cell? ⟨w4.heap.size + 1, 0, none⟩ = some (.int .i64 6) := by rw [← hw5]; simp [go_sem]
  have i1 : w5.cell? ⟨w4.heap.size + 1, 1, none⟩ = some (.int .i64 0) := by rw [← hw5]; simp [go_sem]
  have i2 : w5.cell? ⟨w4.heap.size + 1, 2, none⟩ = some (.int .i64 0) := by rw [← hw5]; simp [go_sem]
  have i3 : w5.cell? ⟨w4.heap.size + 1, 3, none⟩ = some (.slice (some ⟨w4.heap.size, 0, none⟩) 2 2) := by rw [← hw5]; simp [go_sem]
  have EI : Hid (ER w5 kI (.agg #[.int .i64 6, .int .i64 0, .int .i64 0, .slice (some ⟨w4.heap.size, 0, none⟩) 2 2])) := Lib.hid (by
    refine ER.two (a0 := .int .i64 1) (a1 := .int .i64 0) (a2 := .int .i64 0) (a3 := .slice none 0 0) (b0 := .int .i64 0) (b1 := .int .i64 1) (b2 := .int .i64 0) (b3 := .slice none 0 0) ?_ ?_ ?_ ?_ ?_ ?_ ?_ ?_ (ER.leaf _ _ _ _) (ER.leaf _ _ _ _)
    all_goals (rw [← hw5]; simp [go_sem]))
  have EA : Hid (ER w5 kA (.agg #[.int .i64 11, .int .i64 0, .int .i64 0, .slice (some ⟨w4.heap.size + 1 + 1 + 1, 0, none⟩) 2 2])) := Lib.hid (by
    refine ER.two (a0 := .int .i64 9) (a1 := .int .i64 0) (a2 := .int .i64 0) (a3 := .slice (some ⟨w4.heap.size + 1 + 1, 0, none⟩) 2 2) (b0 := .int .i64 6) (b1 := .int .i64 0) (b2 := .int .i64 0) (b3 := .slice (some ⟨w4.heap.size, 0, none⟩) 2 2) ?_ ?_ ?_ ?_ ?_ ?_ ?_ ?_ (ER.two (a0 := .int .i64 0) (a1 := .int .i64 2) (a2 := .int .i64 0) (a3 := .slice none 0 0) (b0 := .int .i64 0) (b1 := .int .i64 3) (b2 := .int .i64 0) (b3 := .slice none 0 0) ?_ ?_ ?_ ?_ ?_ ?_ ?_ ?_ (ER.leaf _ _ _ _) (ER.leaf _ _ _ _)) EI.out
    all_goals (rw [← hw5]; simp [go_sem]))
  obtain ⟨y, hyk, hcf⟩ := foldA_any _ w5 EA.out
  have HY := Lib.hid hyk
  have CF := Lib.hid hcf
  clear hyk hcf
  have B5 : Hid (Below w.heap.size w w5) := Lib.hid (Bw4.out.trans (B5w4.mono Bw4.out.size))
  have W5 := Lib.hid hw5
  have Z5 := Lib.hid z5
  clear hw5 z5 B5w4
  go_wp2_with fail
  rw [W5.out]
  refine CF.out.mono ?_
  rintro en w6 hfp
  obtain ⟨v', rfl, hef, hb6⟩ := hfp
  obtain ⟨A6, c6, rfl⟩ := headOf hef
  have EZ := Lib.hid hef.er
  have hc6 : ∀ b o, b < w4.heap.size + 4 → w6.cell? ⟨b, o, none⟩ = w5.cell? ⟨b, o, none⟩ := fun b o h => hb6.cell (p := ⟨b, o, none⟩) (by show b < _; have := Z5.out; omega)
  have hz6 : w4.heap.size + 1 < w6.heap.size := by have := hb6.size; have := Z5.out; omega
  have hne1 : ¬ w6.heap.size = w4.heap.size + 1 := by omega
  have hne2 : ¬ w4.heap.size + 1 = w6.heap.size := by omega
  have hb67 : ∀ ob, Below w6.heap.size w6 (w6.alloc ob) := fun ob => (Below.refl _ _).alloc (Nat.le_refl _) _
  have B6 : Hid (Below w.heap.size w w6) := Lib.hid (B5.out.trans (hb6.mono B5.out.size))
  have CS : Hid (∀ ob, Calls Try.prog 17 #[headV (y.op, y.val, y.idx, A6, y.args.length, c6), .agg #[.int .i64 6, .int .i64 0, .int .i64 0, .slice (some ⟨w4.heap.size, 0, none⟩) 2 2]] (w6.alloc ob) fun en w' => en = .returned (.bool true) ∧ Below (w6.alloc ob).heap.size (w6.alloc ob) w') := Lib.hid (fun ob => by
    have := same_any y kI _ _ (w6.alloc ob) (ER.below (hb67 ob) _ _ EZ.out) (ER.below (hb67 ob) _ _ (ER.below hb6 _ _ EI.out))
    rwa [HY.out] at this)
  clear hef hb6 hb67
  unfold headV at CS ⊢
  go_wp2_with fail
  refine (CS.out _).mono ?_
  rintro en w7 ⟨rfl, hb7⟩
  have B7 : Hid (Below w.heap.size w w7) := Lib.hid ((B6.out.alloc B6.out.size _).trans (hb7.mono (by have := B6.out.size; simp; omega)))
  clear hb7
  go_wp2_with fail
  refine (true_any _).mono ?_
  rintro en w8 ⟨v8, rfl, he8, hb8⟩
  have B8 : Hid (Below w.heap.size w w8) := Lib.hid (B7.out.trans (hb8.mono B7.out.size))
  have E8 := Lib.hid he8
  clear he8 hb8
  go_wp2_with fail
  refine (truth14_any true _).mono ?_
  rintro en w9 ⟨v9, rfl, he9, hb9⟩
  have B9 : Hid (Below w.heap.size w w9) := Lib.hid (B8.out.trans (hb9.mono B8.out.size))
  have CT := Lib.hid (same_any trueE (truthE true) v8 v9 w9 (ER.below hb9 _ _ E8.out) he9)
  clear he9 hb9
  go_wp2_with fail
  refine CT.out.mono ?_
  rw [kT_same]
  rintro en w10 ⟨rfl, hb10⟩
  have B10 : Hid (Below w.heap.size w w10) := Lib.hid (B9.out.trans (hb10.mono B9.out.size))
  clear hb10
  go_wp2
  go_ret
  exact ⟨rfl, B10.out⟩
end Go.Proofs.Ytmclnnpaephkpaa

/-
  The statement ExpressionChecks: for any two expressions that came in and any number, Check returns the type or the first error of the model's check, and Equal compares all fields.
  No condition but the row's own.
-/
import Derived.Test.YtmclnnpaephkpaaWZ14
import Derived.Test.YtmclnnpaephkpaaOA14
import Derived.Test.YtmclnnpaephkpaaRows
namespace Go.Proofs.Ytmclnnpaephkpaa
set_option linter.unusedVariables false
set_option linter.unusedSimpArgs false
set_option linter.unnecessarySimpa false
set_option linter.unusedSectionVars false
open Go.RowKit

mutual
theorem sameE_refl : ∀ e, sameE e e = true
  | .node o x i l => by rw [sameE]; simp [sameL_refl l]
theorem sameL_refl : ∀ l, sameL l l = true
  | [] => by rw [sameL]
  | e :: l => by rw [sameL, sameE_refl e, sameL_refl l]; rfl
end
set_option maxRecDepth 100000 in
set_option maxHeartbeats 2000000 in
theorem checks_walk (x y : EX) (n : Int) (v u : Value) (w : World) (hv : ER w x v) (hu : ER w y u) :
    Calls Try.prog 3 #[v, u, .int .i64 n] w fun e w' => e = .returned (.bool true) ∧ Below w.heap.size w w' := by
  obtain ⟨A, c, rfl, hc1, hc2⟩ := hv.form
  obtain ⟨A', c', rfl, hc1', hc2'⟩ := hu.form
  have HV := Lib.hid hv
  have HU := Lib.hid hu
  obtain ⟨w2, hw2⟩ : ∃ w2, ((w.alloc (.cells #[.int .i64 x.op, .int .i64 x.val, .int .i64 x.idx, .slice A x.args.length c] 24)).alloc (.cells #[.int .i64 y.op, .int .i64 y.val, .int .i64 y.idx, .slice A' y.args.length c'] 24)) = w2 := ⟨_, rfl⟩
  have B2 : Hid (Below w.heap.size w w2) := Lib.hid (by rw [← hw2]; exact (by repeat (first | exact Below.refl _ _ | assumption | refine Below.drew ?_ | refine below_drewN ?_ _ | refine Below.setCell ?_ (by simp; try omega) _ | refine Below.alloc ?_ (by simp; try omega) _)))
  have hz2 : w2.heap.size = w.heap.size + 2 := by rw [← hw2]; simp
  have x0 : w2.cell? ⟨w.heap.size, 0, none⟩ = some (.int .i64 x.op) := by rw [← hw2]; simp [go_sem]
  have x1 : w2.cell? ⟨w.heap.size, 1, none⟩ = some (.int .i64 x.val) := by rw [← hw2]; simp [go_sem]
  have x2 : w2.cell? ⟨w.heap.size, 2, none⟩ = some (.int .i64 x.idx) := by rw [← hw2]; simp [go_sem]
  have x3 : w2.cell? ⟨w.heap.size, 3, none⟩ = some (.slice A x.args.length c) := by rw [← hw2]; simp [go_sem]
  have y0 : w2.cell? ⟨w.heap.size + 1, 0, none⟩ = some (.int .i64 y.op) := by rw [← hw2]; simp [go_sem]
  have y1 : w2.cell? ⟨w.heap.size + 1, 1, none⟩ = some (.int .i64 y.val) := by rw [← hw2]; simp [go_sem]
  have y2 : w2.cell? ⟨w.heap.size + 1, 2, none⟩ = some (.int .i64 y.idx) := by rw [← hw2]; simp [go_sem]
  have y3 : w2.cell? ⟨w.heap.size + 1, 3, none⟩ = some (.slice A' y.args.length c') := by rw [← hw2]; simp [go_sem]
  have W2 := Lib.hid hw2
  have Z2 := Lib.hid hz2
  clear hw2 hz2 hv hu
  go_enter Try.func3, Try.ntmps3
  go_wp2_with fail
  rw [W2.out]
  refine (known14_any _).mono ?_
  rintro en w3 ⟨rfl, hb3⟩
  have Bw3 : Hid (Below w2.heap.size w2 w3) := Lib.hid ((Below.refl _ w2).trans (hb3.mono (Nat.le_refl _)))
  have zw3 : w2.heap.size ≤ w3.heap.size := Bw3.out.size
  have yw3 : w.heap.size + 1 < w3.heap.size := by have := Z2.out; omega
  have cw3 : ∀ b o, b < w.heap.size + 2 → w3.cell? ⟨b, o, none⟩ = w2.cell? ⟨b, o, none⟩ := fun b o h => Bw3.out.cell (p := ⟨b, o, none⟩) (by show b < _; have := Z2.out; omega)
  have Ew3 : Hid (Below w.heap.size w w3) := Lib.hid (B2.out.trans (Bw3.out.mono B2.out.size))
  clear hb3
  have CS := Lib.hid (small_any x _ w3 (ER.below Ew3.out _ _ HV.out))
  obtain ⟨s1, hs1⟩ : ∃ s1, smallE x = s1 := ⟨_, rfl⟩
  rw [hs1] at CS
  clear hs1
  go_wp2_with fail
  refine CS.out.mono ?_
  rintro en w4 ⟨rfl, hb4⟩
  have Bw4 : Hid (Below w2.heap.size w2 w4) := Lib.hid ((Bw3.out).trans (hb4.mono (zw3)))
  have zw4 : w2.heap.size ≤ w4.heap.size := Bw4.out.size
  have yw4 : w.heap.size + 1 < w4.heap.size := by have := Z2.out; omega
  have cw4 : ∀ b o, b < w.heap.size + 2 → w4.cell? ⟨b, o, none⟩ = w2.cell? ⟨b, o, none⟩ := fun b o h => Bw4.out.cell (p := ⟨b, o, none⟩) (by show b < _; have := Z2.out; omega)
  have Ew4 : Hid (Below w.heap.size w w4) := Lib.hid (B2.out.trans (Bw4.out.mono B2.out.size))
  clear hb4
  clear cw3
  cases s1
  case false =>
    go_wp2_with fail
    refine (known14_any _).mono ?_
    rintro en w5 ⟨rfl, hb5⟩
    go_wp2
    go_ret
    exact ⟨rfl, Ew4.out.trans (hb5.mono Ew4.out.size)⟩
  have CT := Lib.hid (small_any y _ w4 (ER.below Ew4.out _ _ HU.out))
  obtain ⟨s2, hs2⟩ : ∃ s2, smallE y = s2 := ⟨_, rfl⟩
  rw [hs2] at CT
  clear hs2
  go_wp2_with fail
  refine CT.out.mono ?_
  rintro en w5 ⟨rfl, hb5⟩
  have Bw5 : Hid (Below w2.heap.size w2 w5) := Lib.hid ((Bw4.out).trans (hb5.mono (zw4)))
  have zw5 : w2.heap.size ≤ w5.heap.size := Bw5.out.size
  have yw5 : w.heap.size + 1 < w5.heap.size := by have := Z2.out; omega
  have cw5 : ∀ b o, b < w.heap.size + 2 → w5.cell? ⟨b, o, none⟩ = w2.cell? ⟨b, o, none⟩ := fun b o h => Bw5.out.cell (p := ⟨b, o, none⟩) (by show b < _; have := Z2.out; omega)
  have Ew5 : Hid (Below w.heap.size w w5) := Lib.hid (B2.out.trans (Bw5.out.mono B2.out.size))
  clear hb5
  clear cw4
  cases s2
  case false =>
    go_wp2_with fail
    refine (known14_any _).mono ?_
    rintro en w6 ⟨rfl, hb6⟩
    go_wp2
    go_ret
    exact ⟨rfl, Ew5.out.trans (hb6.mono Ew5.out.size)⟩
  obtain ⟨q, hq⟩ : ∃ q, checkS x n = q := ⟨_, rfl⟩
  have CC := Lib.hid (check_any x n _ w5 (ER.below Ew5.out _ _ HV.out))
  rw [hq] at CC
  go_wp2_with fail
  refine CC.out.mono ?_
  rintro en w6 ⟨rfl, hb6⟩
  have Bw6 : Hid (Below w2.heap.size w2 w6) := Lib.hid ((Bw5.out).trans (hb6.mono (zw5)))
  have zw6 : w2.heap.size ≤ w6.heap.size := Bw6.out.size
  have yw6 : w.heap.size + 1 < w6.heap.size := by have := Z2.out; omega
  have cw6 : ∀ b o, b < w.heap.size + 2 → w6.cell? ⟨b, o, none⟩ = w2.cell? ⟨b, o, none⟩ := fun b o h => Bw6.out.cell (p := ⟨b, o, none⟩) (by show b < _; have := Z2.out; omega)
  have Ew6 : Hid (Below w.heap.size w w6) := Lib.hid (B2.out.trans (Bw6.out.mono B2.out.size))
  clear hb6
  clear cw5
  have CD := Lib.hid (check14_any x n _ w6 (ER.below Ew6.out _ _ HV.out))
  rw [hq] at CD
  clear hq
  go_wp2_with fail
  refine CD.out.mono ?_
  rintro en w7 ⟨rfl, hb7⟩
  have Bw7 : Hid (Below w2.heap.size w2 w7) := Lib.hid ((Bw6.out).trans (hb7.mono (zw6)))
  have zw7 : w2.heap.size ≤ w7.heap.size := Bw7.out.size
  have yw7 : w.heap.size + 1 < w7.heap.size := by have := Z2.out; omega
  have cw7 : ∀ b o, b < w.heap.size + 2 → w7.cell? ⟨b, o, none⟩ = w2.cell? ⟨b, o, none⟩ := fun b o h => Bw7.out.cell (p := ⟨b, o, none⟩) (by show b < _; have := Z2.out; omega)
  have Ew7 : Hid (Below w.heap.size w w7) := Lib.hid (B2.out.trans (Bw7.out.mono B2.out.size))
  clear hb7
  clear cw6
  obtain ⟨s, hs⟩ : ∃ s, sameE x y = s := ⟨_, rfl⟩
  have HS := Lib.hid hs
  clear hs
  go_wp2_with fail
  refine wp_region_noPanic ?_
  refine wp_region_held_drew (S := fun w' => ∀ b o, b < w.heap.size + 2 → w'.cell? ⟨b, o, none⟩ = w2.cell? ⟨b, o, none⟩) (by kernel_rfl) cw7 (fun hS0 => ?_)
  refine takeW (v := ?_) 0 rfl (by kernel_rfl) (by kernel_rfl) (by kernel_rfl) (fun _ _ _ h => h) (by rfl) ?_ (by assumption) ?_
  rotate_left 1
  · (intro w hSw; (try dsimp only at hSw); go_simp; try (with_reducible rfl))
  try simp only [Act.put, List.setIfInBounds_toArray, List.set_cons_zero, List.set_cons_succ]
  refine takeW (v := ?_) 1 rfl (by kernel_rfl) (by kernel_rfl) (by kernel_rfl) (fun _ _ _ h => h) (by rfl) ?_ (by assumption) ?_
  rotate_left 1
  · (intro w hSw; (try dsimp only at hSw); go_simp; try (with_reducible rfl))
  try simp only [Act.put, List.setIfInBounds_toArray, List.set_cons_zero, List.set_cons_succ]
  refine takeW (v := ?_) 2 rfl (by kernel_rfl) (by kernel_rfl) (by kernel_rfl) (fun _ _ _ h => h) (by rfl) ?_ (by assumption) ?_
  rotate_left 1
  · (intro w hSw; (try dsimp only at hSw); go_simp; try (with_reducible rfl))
  try simp only [Act.put, List.setIfInBounds_toArray, List.set_cons_zero, List.set_cons_succ]
  refine takeW (v := ?_) 3 rfl (by kernel_rfl) (by kernel_rfl) (by kernel_rfl) (fun _ _ _ h => h) (by rfl) ?_ (by assumption) ?_
  rotate_left 1
  · (intro w hSw; (try dsimp only at hSw); go_simp; try (with_reducible rfl))
  try simp only [Act.put, List.setIfInBounds_toArray, List.set_cons_zero, List.set_cons_succ]
  refine takeW (v := ?_) 4 rfl (by kernel_rfl) (by kernel_rfl) (by kernel_rfl) (fun _ _ _ h => h) (by rfl) ?_ (by assumption) ?_
  rotate_left 1
  · (intro w hSw; (try dsimp only at hSw); go_simp; try (with_reducible rfl))
  try simp only [Act.put, List.setIfInBounds_toArray, List.set_cons_zero, List.set_cons_succ]
  refine takeW (v := ?_) 5 rfl (by kernel_rfl) (by kernel_rfl) (by kernel_rfl) (fun _ _ _ h => h) (by rfl) ?_ (by assumption) ?_
  rotate_left 1
  · (intro w hSw; (try dsimp only at hSw); go_simp; try (with_reducible rfl))
  try simp only [Act.put, List.setIfInBounds_toArray, List.set_cons_zero, List.set_cons_succ]
  refine takeW (v := ?_) 6 rfl (by kernel_rfl) (by kernel_rfl) (by kernel_rfl) (fun _ _ _ h => h) (by rfl) ?_ (by assumption) ?_
  rotate_left 1
  · (intro w hSw; (try dsimp only at hSw); go_simp; try (with_reducible rfl))
  try simp only [Act.put, List.setIfInBounds_toArray, List.set_cons_zero, List.set_cons_succ]
  refine takeW (v := ?_) 7 rfl (by kernel_rfl) (by kernel_rfl) (by kernel_rfl) (fun _ _ _ h => h) (by rfl) ?_ (by assumption) ?_
  rotate_left 1
  · (intro w hSw; (try dsimp only at hSw); go_simp; try (with_reducible rfl))
  try simp only [Act.put, List.setIfInBounds_toArray, List.set_cons_zero, List.set_cons_succ]
  refine takeW (v := ?_) 8 rfl (by kernel_rfl) (by kernel_rfl) (by kernel_rfl) (fun _ _ _ h => h) (by rfl) ?_ (by assumption) ?_
  rotate_left 1
  · (intro w hSw; (try dsimp only at hSw); go_simp; try (with_reducible rfl))
  try simp only [Act.put, List.setIfInBounds_toArray, List.set_cons_zero, List.set_cons_succ]
  refine takeW (v := ?_) 9 rfl (by kernel_rfl) (by kernel_rfl) (by kernel_rfl) (fun _ _ _ h => h) (by rfl) ?_ (by assumption) ?_
  rotate_left 1
  · (intro w hSw; (try dsimp only at hSw); go_simp; try (with_reducible rfl))
  try simp only [Act.put, List.setIfInBounds_toArray, List.set_cons_zero, List.set_cons_succ]
  refine takeW (v := ?_) 10 rfl (by kernel_rfl) (by kernel_rfl) (by kernel_rfl) (fun _ _ _ h => h) (by rfl) ?_ (by assumption) ?_
  rotate_left 1
  · (intro w hSw; (try dsimp only at hSw); go_simp; try (with_reducible rfl))
  try simp only [Act.put, List.setIfInBounds_toArray, List.set_cons_zero, List.set_cons_succ]
  refine takeW (v := ?_) 12 rfl (by kernel_rfl) (by kernel_rfl) (by kernel_rfl) (fun _ _ _ h => h) (by rfl) ?_ (by assumption) ?_
  rotate_left 1
  · (intro w hSw; (try dsimp only at hSw); go_simp; try (with_reducible rfl))
  try simp only [Act.put, List.setIfInBounds_toArray, List.set_cons_zero, List.set_cons_succ]
  refine takeW (v := ?_) 13 rfl (by kernel_rfl) (by kernel_rfl) (by kernel_rfl) (fun _ _ _ h => h) (by rfl) ?_ (by assumption) ?_
  rotate_left 1
  · (intro w hSw; (try dsimp only at hSw); go_simp; try (with_reducible rfl))
  try simp only [Act.put, List.setIfInBounds_toArray, List.set_cons_zero, List.set_cons_succ]
  refine comeC 11 rfl (by kernel_rfl) (by rfl) (fun K hK => ?_)
  go_simp
  refine (equal_any x y _ _ w7.drew (ER.below Ew7.out.drew _ _ HV.out) (ER.below Ew7.out.drew _ _ HU.out)).mono ?_; rintro en w8 ⟨rfl, hb8⟩
  try (go_wp2_with fail)
  refine hK.out _ _ ?_ (fun hS11 => ?_)
  · exact fun b o h => (hb8.cell (p := ⟨b, o, none⟩) (by show b < w7.heap.size; omega)).trans (hS0 b o h)
  clear hK K
  try simp only [Act.put, List.setIfInBounds_toArray, List.set_cons_zero, List.set_cons_succ]
  have Bw8 : Hid (Below w.heap.size w w8) := Lib.hid (Ew7.out.drew.trans (hb8.mono Ew7.out.size))
  have zw8 : w7.heap.size ≤ w8.heap.size := hb8.size
  clear hb8
  refine comeC 14 rfl (by kernel_rfl) (by rfl) (fun K hK => ?_)
  go_simp
  refine (same_any x y _ _ w8 (ER.below Bw8.out _ _ HV.out) (ER.below Bw8.out _ _ HU.out)).mono ?_; rintro en w9 ⟨rfl, hb9⟩
  try (go_wp2_with fail)
  refine hK.out _ _ ?_ (fun hS14 => ?_)
  · exact fun b o h => (hb9.cell (p := ⟨b, o, none⟩) (by show b < w8.heap.size; omega)).trans (hS11 b o h)
  clear hK K
  try simp only [Act.put, List.setIfInBounds_toArray, List.set_cons_zero, List.set_cons_succ]
  have Bw9 : Hid (Below w.heap.size w w9) := Lib.hid (Bw8.out.trans (hb9.mono Bw8.out.size))
  have zw9 : w8.heap.size ≤ w9.heap.size := hb9.size
  have CX := Lib.hid (equal_any x x _ _ w9 (ER.below Bw9.out _ _ HV.out) (ER.below Bw9.out _ _ HV.out))
  rw [sameE_refl] at CX
  clear hb9 hS0
  refine takeW (v := ?_) 15 rfl (by kernel_rfl) (by kernel_rfl) (by kernel_rfl) (fun _ _ _ h => h) (by rfl) ?_ (by assumption) ?_
  rotate_left 1
  · (intro w hSw; (try dsimp only at hSw); go_simp; try (with_reducible rfl))
  try simp only [Act.put, List.setIfInBounds_toArray, List.set_cons_zero, List.set_cons_succ]
  refine takeW (v := ?_) 16 rfl (by kernel_rfl) (by kernel_rfl) (by kernel_rfl) (fun _ _ _ h => h) (by rfl) ?_ (by assumption) ?_
  rotate_left 1
  · (intro w hSw; (try dsimp only at hSw); go_simp; try (with_reducible rfl))
  try simp only [Act.put, List.setIfInBounds_toArray, List.set_cons_zero, List.set_cons_succ]
  refine takeW (v := ?_) 17 rfl (by kernel_rfl) (by kernel_rfl) (by kernel_rfl) (fun _ _ _ h => h) (by rfl) ?_ (by assumption) ?_
  rotate_left 1
  · (intro w hSw; (try dsimp only at hSw); go_simp; try (with_reducible rfl))
  try simp only [Act.put, List.setIfInBounds_toArray, List.set_cons_zero, List.set_cons_succ]
  refine takeW (v := ?_) 18 rfl (by kernel_rfl) (by kernel_rfl) (by kernel_rfl) (fun _ _ _ h => h) (by rfl) ?_ (by assumption) ?_
  rotate_left 1
  · (intro w hSw; (try dsimp only at hSw); go_simp; try (with_reducible rfl))
  try simp only [Act.put, List.setIfInBounds_toArray, List.set_cons_zero, List.set_cons_succ]
  refine takeW (v := ?_) 19 rfl (by kernel_rfl) (by kernel_rfl) (by kernel_rfl) (fun _ _ _ h => h) (by rfl) ?_ (by assumption) ?_
  rotate_left 1
  · (intro w hSw; (try dsimp only at hSw); go_simp; try (with_reducible rfl))
  try simp only [Act.put, List.setIfInBounds_toArray, List.set_cons_zero, List.set_cons_succ]
  refine comeC 20 rfl (by kernel_rfl) (by rfl) (fun K hK => ?_)
  go_simp
  refine CX.out.mono ?_; rintro en w10 ⟨rfl, hb10⟩
  try (go_wp2_with fail)
  refine hK.out _ _ ?_ (fun hS20 => ?_)
  · exact fun b o h => (hb10.cell (p := ⟨b, o, none⟩) (by show b < w9.heap.size; omega)).trans (hS14 b o h)
  clear hK K
  try simp only [Act.put, List.setIfInBounds_toArray, List.set_cons_zero, List.set_cons_succ]
  refine takeW (v := ?_) 21 rfl (by kernel_rfl) (by kernel_rfl) (by kernel_rfl) (fun _ _ _ h => h) (by rfl) ?_ (by assumption) ?_
  rotate_left 1
  · (intro w hSw; (try dsimp only at hSw); go_simp; try (with_reducible rfl))
  try simp only [Act.put, List.setIfInBounds_toArray, List.set_cons_zero, List.set_cons_succ]
  refine takeW (v := ?_) 22 rfl (by kernel_rfl) (by kernel_rfl) (by kernel_rfl) (fun _ _ _ h => h) (by rfl) ?_ (by assumption) ?_
  rotate_left 1
  · (intro w hSw; (try dsimp only at hSw); go_simp; try (with_reducible rfl))
  try simp only [Act.put, List.setIfInBounds_toArray, List.set_cons_zero, List.set_cons_succ]
  refine wpAnyH_done (by kernel_rfl) ?_ _
  refine NoPanic.normal ?_
  go_wp2
  go_ret
  exact ⟨rfl, Bw9.out.trans (hb10.mono Bw9.out.size)⟩
end Go.Proofs.Ytmclnnpaephkpaa

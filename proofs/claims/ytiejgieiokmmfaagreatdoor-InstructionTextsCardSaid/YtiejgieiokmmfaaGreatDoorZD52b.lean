/-
  slices.Grow at nil.
-/
import Derived.Test.YtiejgieiokmmfaaGreatDoorZD52a
namespace Go.Proofs.YtiejgieiokmmfaaGreatDoor
set_option linter.unusedVariables false
set_option linter.unusedSimpArgs false
set_option linter.unnecessarySimpa false
set_option linter.unusedSectionVars false
open Go.RowKit Go.Shelf
theorem append_run_make {P : Program} {w : World} {t u ty e : TypeId} {i : TypeInfo} {z : Value} {k : IntKind} (ht : P.underlying t = some (.slice e)) (hu : P.underlying u = some (.int k)) (hi : P.info? e = some i) (hz : i.zero = some z) {n : Nat} (hpos : 0 < n) (h63 : n ≤ LIM) (hb : i.bytes ≤ 1024) (hs : 0 < i.size) :
    ∃ cs : Array Value, (Builtin.append_ #[t, u] ty #[.slice none 0 0, .int .i64 n]).run P w = .ok (.slice (some ⟨w.heap.size, 0, none⟩) n (grownCap w n 0 e)) (w.drew.alloc (.cells cs e)) ∧ cs = Builtin.zeroCells z.cells n ++ Builtin.zeroCells z.cells (grownCap w n 0 e - n) := by
  refine ⟨_, ?_, rfl⟩
  unfold LIM at h63
  have hw : IntKind.i64.wrap (n : Int) = n := by rw [IntKind.wrap_i64]; omega
  have h0 : ¬ ((n : Int) < 0) := by omega
  have hn : ¬ (n ≤ 0) := by omega
  have hne : ¬ (n = 0) := by omega
  have h63' : ¬ (9223372036854775807 < (n : Int)) := by omega
  have hb2 : n * i.bytes ≤ 140737488355328 := Nat.le_trans (Nat.mul_le_mul h63 hb) (by decide)
  have hb3 : ¬ ((281474976710656 : Int) < (n : Int) * (i.bytes : Int)) := by
    have : ((n * i.bytes : Nat) : Int) ≤ (140737488355328 : Nat) := Int.ofNat_le.2 hb2
    rw [Int.natCast_mul] at this; omega
  have h48' : ¬ (281474976710656 < Builtin.nextslicecap n 0 * i.bytes) := by have := growslice_fits (show 0 < n by omega) hb2; omega
  have hsz : ¬ (i.size = 0) := by omega
  simp [Builtin.append_, run_underlying ht, run_underlying hu, sizeOf, typeInfo, zeroValue, hi, hz, Builtin.lenOf, asInt, asIntOf, hw, h0, hb3, hn, hne, hsz, h63', h48', Question.forced, newRow, grownCap, Builtin.firstCells]
  intro h; exact absurd h (Nat.ne_of_gt (Nat.mul_pos hpos hs))
set_option maxHeartbeats 1000000 in
set_option maxRecDepth 100000 in
theorem grow_run (n : Nat) (hpos : 0 < n) (hn : n ≤ LIM) (w : World) :
    Calls Tryz.prog 66 #[.slice none 0 0, .int .i64 n] w fun e w2 => ∃ c, e = .returned (.slice (some ⟨w.heap.size, 0, none⟩) 0 c) ∧ w2 = (w.alloc (.cells (Builtin.zeroCells #[.bool false] n ++ Builtin.zeroCells #[.bool false] (c - n)) 4)).drew := by
  unfold LIM at hn
  have hb4 : Tryz.t4.bytes = 1 := by kernel_rfl
  go_enter Tryz.func66, Tryz.ntmps66
  go_wp2
  all_goals (first | (go_ret; exact ⟨_, rfl, rfl⟩) | (exfalso; simp only [hb4, nextslicecap_zero hpos] at *; omega))
set_option maxHeartbeats 1000000 in
set_option maxRecDepth 100000 in
theorem grow_run0 (w : World) : Calls Tryz.prog 66 #[.slice none 0 0, .int .i64 0] w fun e w2 => e = .returned (.slice none 0 0) ∧ w2 = w := by
  go_enter Tryz.func66, Tryz.ntmps66
  go_wp2
  all_goals (go_ret; exact ⟨rfl, rfl⟩)
theorem ev_grow (o : Bool) (n : Nat) (hn : n ≤ LIM) : Ev Tryz.prog 66 [.sl o 0 [], .int .i64 n] [] (.sl true 1 []) [] := by
  refine ⟨by kernel_rfl, fun out M B w vals hmem hheap hcnt hnew hv => ?_⟩
  have hB : B = [] := List.eq_nil_of_length_eq_zero (by have := hheap.1; simpa using this.symm)
  subst hB
  have hz : ∀ w b, ownH w [] [] b = 0 := fun w b => by simp [ownH]
  obtain ⟨u1, us, e1, r1, hv⟩ := reps_cons.1 hv
  obtain ⟨u2, us, rfl, r2, hv⟩ := reps_cons.1 hv
  rw [reps_nil] at hv; subst hv
  obtain ⟨A, cap, rfl, _, _, h0, _⟩ := rep_sl.1 r1
  obtain ⟨_, rfl, rfl⟩ := h0 rfl
  rw [rep_int] at r2; subst r2
  have : vals = #[.slice none 0 0, .int .i64 n] := by rw [← Array.toList_inj]; exact e1
  rw [this]
  by_cases hp : n = 0
  · subst hp
    refine (grow_run0 w).mono ?_
    rintro e w' ⟨rfl, rfl⟩
    refine ⟨_, M, [], rfl, hmem, MLe.refl _ _, Fr.refl _ _ _, hheap, rep_sl.2 ⟨none, 0, rfl, Nat.le_refl _, by simp, (fun h => by cases h), by simp⟩, tl_mk (fun l h => by cases h) fun sz es A n cap h1 h2 => ?_, fun b _ => ?_, fun b => ?_, fun b hb => ?_⟩
    · cases h1; cases h2; exact ⟨fun _ => rfl, (fun h => by cases h), (fun a ha => by cases ha)⟩
    · simp [ownV]
    · simpa [ownV, hz] using hcnt b
    · simpa [ownV, hz] using hnew b hb
  · refine (grow_run n (by omega) hn w).mono ?_
    rintro e w' ⟨c, rfl, rfl⟩
    have hb : Below w.heap.size w (w.alloc (.cells (Builtin.zeroCells #[.bool false] n ++ Builtin.zeroCells #[.bool false] (c - n)) 4)).drew := ⟨rfl, rfl, rfl, by simp, fun b hb => by exact Below.heap_alloc _ _ b hb⟩
    refine ⟨_, M, [], rfl, fun b o u e => ?_, MLe.refl _ _, ⟨hb.os, hb.tape, hb.output, hb.size, fun b hlt _ => ⟨hb.block b hlt, fun _ => rfl⟩⟩, ⟨rfl, fun i cs hi => by simp at hi⟩, rep_sl.2 ⟨_, c, rfl, by simp, by simp, (fun h => by cases h), by simp⟩, tl_mk (fun l h => by cases h) fun sz es A n' cap h1 h2 => ?_, fun b hb' => ?_, fun b => ?_, fun b hb' => ?_⟩
    · obtain ⟨h1, h2⟩ := hmem b o u e
      have := World.block_lt_of_cell? _ _ h1
      exact ⟨(World.cell?_of_block (hb.block b this)).trans h1, h2⟩
    · cases h1; cases h2
      refine ⟨(fun h => by cases h), (fun h => by cases h), fun a ha => ?_⟩
      cases ha
      refine ⟨_, 4, heap_alloc_new w _, by simp [Builtin.zeroCells]; omega, fun o _ => ?_, rfl, rfl⟩
      cases hm : M w.heap.size o with
      | none => rfl
      | some v => exact absurd (World.block_lt_of_cell? _ _ (hmem _ _ _ hm).1) (by simp)
    · have : w.heap.size ≠ b := by omega
      simp [ownV, PV.own, hz, this]
    · have h1 := hcnt b; rw [hz] at h1
      have h2 := hnew b; rw [hz] at h2
      by_cases hbs : w.heap.size = b
      · subst hbs; simp [ownV, PV.own, hz]; have := h2 (Nat.le_refl _); omega
      · simp [ownV, PV.own, hz, hbs]; omega
    · have h2 := hnew b (by have := hb.size; omega); rw [hz] at h2
      have : w.heap.size ≠ b := by have : (w.alloc (.cells (Builtin.zeroCells #[.bool false] n ++ Builtin.zeroCells #[.bool false] (c - n)) 4)).drew.heap.size = w.heap.size + 1 := by simp
                                   omega
      simp [ownV, PV.own, hz, this]; omega
end Go.Proofs.YtiejgieiokmmfaaGreatDoor

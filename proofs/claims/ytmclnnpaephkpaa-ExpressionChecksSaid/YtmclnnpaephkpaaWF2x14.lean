/-
  WALKS of chapter 14: folded.
-/
import Derived.Test.YtmclnnpaephkpaaWV14
import Derived.Test.YtmclnnpaephkpaaWN14
import Derived.Test.YtmclnnpaephkpaaPE14
namespace Go.Proofs.Ytmclnnpaephkpaa
set_option linter.unusedVariables false
set_option linter.unusedSimpArgs false
set_option linter.unnecessarySimpa false
set_option linter.unusedSectionVars false
open Go.RowKit

/-- What folded asks of an expression: as many arguments as must be, constants not large. -/
def FoldOK : EX → Prop
  | .node o _ _ l => argsS o = some (l.length : Int) ∧ (∀ e, e ∈ l → e.op = 0 → -65536 ≤ e.val ∧ e.val ≤ 65536) ∧ (o = 10 → ∀ e, e ∈ l → e.op = 10 → ∃ b, e.args = [b])
theorem EF.const (F : Nat → Prop) (w : World) (n : Int) : EF F w (.node 0 n 0 []) (.agg #[.int .i64 0, .int .i64 n, .int .i64 0, .slice none 0 0]) := by
  unfold EF
  exact ⟨none, 0, rfl, by decide, by decide, fun h => absurd rfl h⟩
theorem EF.keepF {F : Nat → Prop} {w w7 : World} {t : EX} {v : Value} (h : EF F w t v) (hb : Below w.heap.size w w7) : EF (fun b => F b ∧ b < w.heap.size) w7 t v :=
  EF.mono (fun b hF hlt => ⟨⟨hF, hlt⟩, Nat.lt_of_lt_of_le hlt hb.size, fun o => hb.cell (p := ⟨b, o, none⟩) hlt⟩) t v h
theorem LPost.alloc {F : Nat → Prop} {w w' : World} {y : EX} {en : Ending} (h : LPost F w y en w') (ob : Obj) : LPost F w y en (w'.alloc ob) := by
  obtain ⟨v', h1, h2, h3⟩ := h
  exact ⟨v', h1, EF.below ((Below.refl _ _).alloc (Nat.le_refl _) _) h2, h3.alloc h3.size _⟩
theorem fold_app {o v i : Int} {l : List EX} (h : FoldOK (.node o v i l)) (ho : 2 ≤ o ∧ o ≤ 9) (hc : ∀ e, e ∈ l → e.op = 0) : AppOK o (l.map EX.val) := by
  obtain ⟨h1, h2, _⟩ := h
  obtain ⟨_, _, _, hB, _, hD⟩ := argsS_at h1
  have h10 : o ≠ 10 := by omega
  by_cases h5 : o = 5
  · obtain ⟨a, rfl⟩ := hB (.inl h5)
    have := h2 a (by simp) (hc a (by simp))
    exact .inl ⟨a.val, rfl, .inl h5, by omega, by omega⟩
  · obtain ⟨a, b, rfl⟩ := hD (by omega) (by omega) h5 (by omega)
    have h3 := h2 a (by simp) (hc a (by simp))
    have h4 := h2 b (by simp) (hc b (by simp))
    exact .inr (.inl ⟨a.val, b.val, rfl, by omega, by omega, by omega, by omega, by omega⟩)
theorem foldOp_num {o v i : Int} {l : List EX} (ho : 2 ≤ o ∧ o ≤ 9) (hc : ∀ e, e ∈ l → e.op = 0) : foldOp (.node o v i l) = if o ≤ 5 then (if largeS (applyS o (l.map EX.val)) 65536 then .node o v i l else .node 0 (applyS o (l.map EX.val)) 0 []) else truthE (applyS o (l.map EX.val) == 1) := by
  rw [foldOp, if_neg (by omega), if_neg (by omega), if_neg (by omega), if_neg (by omega), if_neg (by omega), if_pos (by simpa using hc)]
theorem foldOp_not {o v i : Int} {l : List EX} (ho : 2 ≤ o ∧ o ≤ 9) {e : EX} (he : e ∈ l) (hc : ¬ e.op = 0) : foldOp (.node o v i l) = .node o v i l := by
  rw [foldOp, if_neg (by omega), if_neg (by omega), if_neg (by omega), if_neg (by omega), if_neg (by omega), if_neg (by simp; exact ⟨e, he, hc⟩)]
set_option maxRecDepth 100000 in
set_option maxHeartbeats 1000000 in
theorem folded_leaf (o x i : Int) (ho : Hid (o = 0 ∨ o = 1)) (F : Nat → Prop) (v : Value) (w : World) (hv : EF F w (.node o x i []) v) :
    Calls Try.prog 55 #[v] w (LPost F w (foldOp (.node o x i []))) := by
  have HV := Lib.hid hv
  obtain ⟨A, c, rfl⟩ := headOf hv
  have HR : Hid (foldOp (.node o x i []) = .node o x i []) := Lib.hid (by rw [foldOp, if_pos ho.out])
  clear hv
  unfold headV at HV ⊢
  simp only [EX.op, EX.val, EX.idx, EX.args, List.length_nil] at HV ⊢
  have hB : Hid (∀ a b, Below w.heap.size w ((w.alloc a).alloc b)) := Lib.hid (fun a b => (by repeat (first | exact Below.refl _ _ | assumption | refine Below.drew ?_ | refine below_drewN ?_ _ | refine Below.setCell ?_ (by simp; try omega) _ | refine Below.alloc ?_ (by simp; try omega) _)))
  rcases ho.out with rfl | rfl
  all_goals
    go_enter Try.func55, Try.ntmps55
    go_wp2
    refine bodyPost_ret (v := .agg #[.int .i64 _, .int .i64 x, .int .i64 i, .slice A 0 c]) (by simp [results, Try.results55, go_sem]; rfl) rfl ?_
    rw [HR.out]
    exact ⟨_, rfl, EF.weaken (fun b h _ => .inl h) (HV.out.below (hB.out _ _)), hB.out _ _⟩
set_option maxRecDepth 100000 in
set_option maxHeartbeats 1000000 in
theorem folded_logical (o x i : Int) (l : List EX) (ho : 10 ≤ o ∧ o ≤ 13) (F : Nat → Prop) (v : Value) (w : World) (hv : EF F w (.node o x i l) v)
    (hlog : ∀ (F : Nat → Prop) (v : Value) (w : World), EF F w (.node o x i l) v → Calls Try.prog 75 #[v] w (LPost F w (foldOp (.node o x i l)))) :
    Calls Try.prog 55 #[v] w (LPost F w (foldOp (.node o x i l))) := by
  have HV := Lib.hid hv
  obtain ⟨A, c, rfl⟩ := headOf hv
  have HLOG := Lib.hid hlog
  clear hv hlog
  unfold headV at HV ⊢
  simp only [EX.op, EX.val, EX.idx, EX.args] at HV ⊢
  obtain ⟨y, hy⟩ : ∃ y, foldOp (.node o x i l) = y := ⟨_, rfl⟩
  rw [hy] at HLOG ⊢
  obtain ⟨N, hN⟩ : ∃ N, l.length = N := ⟨_, rfl⟩
  rw [hN] at HV ⊢
  have t1 : (o == 0) = false := by simp; omega
  have t2 : (o == 1) = false := by simp; omega
  clear hy hN
  have hc : o = 10 ∨ o = 11 ∨ o = 12 ∨ o = 13 := by omega
  clear ho
  obtain ⟨w2, hw2⟩ : ∃ w2, ((w.alloc (.cells #[.int .i64 o, .int .i64 x, .int .i64 i, .slice A N c] 24)).alloc (.cells #[.int .i64 0, .int .i64 0, .int .i64 0, .slice none 0 0] 24)) = w2 := ⟨_, rfl⟩
  have B2 : Hid (Below w.heap.size w w2) := Lib.hid (by rw [← hw2]; exact (by repeat (first | exact Below.refl _ _ | assumption | refine Below.drew ?_ | refine below_drewN ?_ _ | refine Below.setCell ?_ (by simp; try omega) _ | refine Below.alloc ?_ (by simp; try omega) _)))
  have hz2 : w2.heap.size = w.heap.size + 2 := by rw [← hw2]; simp
  have r0 : w2.cell? ⟨w.heap.size + 1, 0, none⟩ = some (.int .i64 0) := by rw [← hw2]; simp [go_sem]
  have r1 : w2.cell? ⟨w.heap.size + 1, 1, none⟩ = some (.int .i64 0) := by rw [← hw2]; simp [go_sem]
  have r2 : w2.cell? ⟨w.heap.size + 1, 2, none⟩ = some (.int .i64 0) := by rw [← hw2]; simp [go_sem]
  have r3 : w2.cell? ⟨w.heap.size + 1, 3, none⟩ = some (.slice none 0 0) := by rw [← hw2]; simp [go_sem]
  have q0 : ∀ o, w2.frozen? ⟨w.heap.size + 1, o, none⟩ = false := fun o => by rw [← hw2]; simp [go_sem]
  have W2 := Lib.hid hw2
  have Z2 := Lib.hid hz2
  clear hw2 hz2
  rcases hc with rfl | rfl | rfl | rfl
  all_goals
    go_enter Try.func55, Try.ntmps55
    go_wp2_with fail
    rw [W2.out]
    refine (HLOG.out (fun b => F b ∧ b < w.heap.size) _ w2 (HV.out.keepF B2.out)).mono ?_
    rintro en w3 hlp
    obtain ⟨v', rfl, hef, hb3⟩ := hlp
    obtain ⟨A3, c3, rfl⟩ := headOf hef
    have HE := Lib.hid hef
    have B3 : Hid (Below w2.heap.size w2 w3) := Lib.hid hb3
    have hz3 : w.heap.size + 1 < w3.heap.size := by have := hb3.size; have := Z2.out; omega
    have hc3 : ∀ b o, b < w.heap.size + 2 → w3.cell? ⟨b, o, none⟩ = w2.cell? ⟨b, o, none⟩ := fun b o h => hb3.cell (p := ⟨b, o, none⟩) (by show b < _; have := Z2.out; omega)
    have hf3 : ∀ b o, b < w.heap.size + 2 → w3.frozen? ⟨b, o, none⟩ = w2.frozen? ⟨b, o, none⟩ := fun b o h => hb3.frozen (p := ⟨b, o, none⟩) (by show b < _; have := Z2.out; omega)
    clear hef hb3
    unfold headV
    go_wp2
    refine bodyPost_ret (v := .agg #[.int .i64 y.op, .int .i64 y.val, .int .i64 y.idx, .slice A3 y.args.length c3]) (by simp [results, Try.results55, go_sem, hc3, r0, r1, r2, r3, hz3]) rfl ?_
    exact lpost rfl (EF.weaken (fun b h _ => by have := Z2.out; rcases h with h | h; exact .inl h; exact .inr (by omega)) HE.out) (B2.out.trans (B3.out.mono B2.out.size))
set_option maxRecDepth 100000 in
set_option maxHeartbeats 2000000 in
theorem folded_num (o x i : Int) (l : List EX) (ho : 2 ≤ o ∧ o ≤ 9) (hok : FoldOK (.node o x i l)) (F : Nat → Prop) (v : Value) (w : World) (hv : EF F w (.node o x i l) v) :
    Calls Try.prog 55 #[v] w (LPost F w (foldOp (.node o x i l))) := by
  have HV := Lib.hid hv
  have HOK := Lib.hid hok
  have hN3 : l.length ≤ 3 := by have := argsS_le3 o _ hok.1; omega
  obtain ⟨A, c, rfl, hlc, hcm, hA⟩ := hv
  have HA := Lib.hid (ER.ero (fun h => by obtain ⟨b, off, h1, _, _, h2⟩ := hA h; exact ⟨b, off, h1, EFs.er _ _ _ h2⟩))
  obtain ⟨N, hN⟩ : ∃ N, l.length = N := ⟨_, rfl⟩
  rw [hN] at hlc hN3 hcm HV ⊢
  have HN := Lib.hid hN
  have u0 : (o == 0) = false := by simp; omega
  have u1 : (o == 1) = false := by simp; omega
  have u2 : (o == 10) = false := by simp; omega
  have u3 : (o == 11) = false := by simp; omega
  have u4 : (o == 12) = false := by simp; omega
  have u5 : (o == 13) = false := by simp; omega
  clear hA hok hN
  go_enter Try.func55, Try.ntmps55
  go_wp2
  go_loopw [3, 23] (fun s j wr => ∃ k : Nat, ∃ A' : Option Addr, ∃ c' : Nat, k ≤ N ∧ j = .int .i64 k ∧ s = .slice A' k c' ∧ Hid (∃ r done, l = done ++ r ∧ done.length = k ∧ ERo w A k r ∧ (∀ e, e ∈ done → e.op = 0) ∧ wr.ownsRow (w.heap.size + 2) 3 1 (.slice A' k c') k ((done.map EX.val).map (Value.int .i64)) ∧ Keeps (w.heap.size + 2) ((w.alloc (.cells #[.int .i64 o, .int .i64 x, .int .i64 i, .slice A N c] 24)).alloc (.cells #[.int .i64 0, .int .i64 0, .int .i64 0, .slice none 0 0] 24)) wr)) (fun _ j _ => N - (intOf j).toNat)
  case atStart => exact ⟨0, none, 0, Nat.zero_le _, rfl, rfl, l, [], rfl, rfl, HA.out, by simp, World.ownsRow_nil _ _ _ _, keepSelf (by simp)⟩
  case round =>
    obtain ⟨k, A', c', hk, rfl, rfl, HR⟩ := hrel
    obtain ⟨r, done, hsplit, hdn, her, hall, hown, hkeep⟩ := HR.out
    have hcell := hkeep.2.2
    have hfro := bfro1 hkeep.1
    have hsz := hkeep.2.1
    have r0 : wr.cell? ⟨w.heap.size + 1, 0, none⟩ = some (.int .i64 0) := by rw [hcell _ _ (by omega)]; simp [go_sem]
    have r1 : wr.cell? ⟨w.heap.size + 1, 1, none⟩ = some (.int .i64 0) := by rw [hcell _ _ (by omega)]; simp [go_sem]
    have r2 : wr.cell? ⟨w.heap.size + 1, 2, none⟩ = some (.int .i64 0) := by rw [hcell _ _ (by omega)]; simp [go_sem]
    have r3 : wr.cell? ⟨w.heap.size + 1, 3, none⟩ = some (.slice none 0 0) := by rw [hcell _ _ (by omega)]; simp [go_sem]
    have hz1 : w.heap.size + 1 < wr.heap.size := by omega
    have HSP := Lib.hid hsplit
    have HDN := Lib.hid hdn
    have HALL := Lib.hid hall
    have HOW := Lib.hid hown
    have HK := Lib.hid hkeep
    have HB : Hid (Below w.heap.size w wr) := Lib.hid ((((Below.refl _ w).alloc (Nat.le_refl _) _).alloc (by simp) _).trans (hkeep.1.mono (Nat.le_add_right _ _)))
    have HVG : Hid (EF (fun b => (F b ∧ b < w.heap.size) ∨ w.heap.size + 2 ≤ b) wr (.node o x i l) (.agg #[.int .i64 o, .int .i64 x, .int .i64 i, .slice A N c])) := Lib.hid (HV.out.keepG HB.out)
    clear HR hsplit hdn hall hown hkeep
    match r with
    | [] =>
      have HL : Hid (l = done) := Lib.hid (by rw [HSP.out, List.append_nil])
      have hkN : Hid (k = N) := Lib.hid (by rw [← HDN.out, ← HN.out, HL.out])
      have hkN1 : ¬ k < N := by have := hkN.out; omega
      obtain ⟨n, hn⟩ : ∃ n, applyS o (l.map EX.val) = n := ⟨_, rfl⟩
      have HAP : Hid (∀ w, IRo w A' 0 (l.map EX.val) → Calls Try.prog 71 #[.int .i64 o, .slice A' k c'] w fun e w' => e = .returned (.int .i64 n) ∧ ∃ k, w' = w.drewN k) := Lib.hid (fun w h => by
        have := apply_any o (l.map EX.val) A' k c' w (by rw [List.length_map, HN.out, hkN.out]) h (fold_app HOK.out ho (fun e he => HALL.out e (by rw [← HL.out]; exact he)))
        rwa [hn] at this)
      have HIR : Hid (IRo wr A' 0 (l.map EX.val)) := Lib.hid (by have := IRo.of_own HOW.out; rwa [← HL.out] at this)
      have HFO : Hid (foldOp (.node o x i l) = if o ≤ 5 then (if largeS n 65536 then .node o x i l else .node 0 n 0 []) else truthE (n == 1)) := Lib.hid (by rw [foldOp_num ho (fun e he => HALL.out e (by rw [← HL.out]; exact he)), hn])
      clear hn
      go_wp2_with fail
      refine (HAP.out _ HIR.out).mono ?_
      rintro en w4 ⟨rfl, k4, rfl⟩
      by_cases ho5 : o ≤ 5
      · have HLG : Hid (∀ b, largeS n 65536 = b → ∀ w, Calls Try.prog 49 #[.int .i64 n, .int .i64 65536] w fun e w' => e = .returned (.bool b) ∧ w = w') := Lib.hid (fun b hb w => by have := large_any n 65536 w (by decide) (by decide); rw [hb] at this; exact this.mono fun _ _ h => ⟨h.1, h.2.symm⟩)
        have hc4 : o = 2 ∨ o = 3 ∨ o = 4 ∨ o = 5 := by omega
        cases hlg : largeS n 65536
        · have HLF := Lib.hid hlg
          have HFE : Hid (foldOp (.node o x i l) = .node 0 n 0 []) := Lib.hid (by rw [HFO.out, if_pos ho5, HLF.out]; rfl)
          clear hlg ho5
          rcases hc4 with rfl | rfl | rfl | rfl
          all_goals
            go_wp2_with (go_at_call 49; refine (HLG.out _ HLF.out _).mono ?_; rintro e w' ⟨rfl, rfl⟩)
            refine bodyPost_ret (v := .agg #[.int .i64 0, .int .i64 n, .int .i64 0, .slice none 0 0]) (by simp [results, Try.results55, go_sem, r0, r1, r2, r3, hz1]) rfl ?_
            exact lpost HFE.out (EF.const _ _ _) (below_drewN HB.out _)
        · have HLF := Lib.hid hlg
          have HFE : Hid (foldOp (.node o x i l) = .node o x i l) := Lib.hid (by rw [HFO.out, if_pos ho5, HLF.out]; rfl)
          clear hlg ho5
          rcases hc4 with rfl | rfl | rfl | rfl
          all_goals
            go_wp2_with (go_at_call 49; refine (HLG.out _ HLF.out _).mono ?_; rintro e w' ⟨rfl, rfl⟩)
            refine bodyPost_ret (v := .agg #[.int .i64 _, .int .i64 x, .int .i64 i, .slice A N c]) (by simp [results, Try.results55, go_sem, r0, r1, r2, r3, hz1]; rfl) rfl ?_
            exact lpost HFE.out (EF.below (below_drewN (Below.refl _ _) _) HVG.out) (below_drewN HB.out _)
      · have hc4 : o = 6 ∨ o = 7 ∨ o = 8 ∨ o = 9 := by omega
        cases h1 : (n == 1)
        · have HFE : Hid (foldOp (.node o x i l) = falseE) := Lib.hid (by rw [HFO.out, if_neg ho5, h1]; rfl)
          clear ho5
          rcases hc4 with rfl | rfl | rfl | rfl
          all_goals
            go_wp2_with fail
            refine (falseF_any _).mono ?_
            rintro en w5 ⟨A5, c5, rfl, ht5, hb5⟩
            have T5 : Hid (EF (fun b => wr.heap.size ≤ b) w5 _ _) := Lib.hid ht5
            have B5 : Hid (Below w.heap.size w w5) := Lib.hid ((below_drewN HB.out k4).trans (hb5.mono HB.out.size))
            have hz5 : w.heap.size + 1 < w5.heap.size := Nat.lt_of_lt_of_le hz1 hb5.size
            have hc5 : ∀ b o, b < w.heap.size + 2 → w5.cell? ⟨b, o, none⟩ = wr.cell? ⟨b, o, none⟩ := fun b o h => hb5.cell (p := ⟨b, o, none⟩) (by show b < wr.heap.size; omega)
            have hf5 : ∀ b o, b < w.heap.size + 2 → w5.frozen? ⟨b, o, none⟩ = wr.frozen? ⟨b, o, none⟩ := fun b o h => hb5.frozen (p := ⟨b, o, none⟩) (by show b < wr.heap.size; omega)
            clear ht5 hb5
            go_wp2
            refine bodyPost_ret (v := .agg #[.int .i64 7, .int .i64 0, .int .i64 0, .slice A5 2 c5]) (by simp [results, Try.results55, go_sem, hc5, r0, r1, r2, r3, hz5]) rfl (lpost HFE.out (EF.newG T5.out hsz) B5.out)
        · have HFE : Hid (foldOp (.node o x i l) = trueE) := Lib.hid (by rw [HFO.out, if_neg ho5, h1]; rfl)
          clear ho5
          rcases hc4 with rfl | rfl | rfl | rfl
          all_goals
            go_wp2_with fail
            refine (trueF_any _).mono ?_
            rintro en w5 ⟨A5, c5, rfl, ht5, hb5⟩
            have T5 : Hid (EF (fun b => wr.heap.size ≤ b) w5 _ _) := Lib.hid ht5
            have B5 : Hid (Below w.heap.size w w5) := Lib.hid ((below_drewN HB.out k4).trans (hb5.mono HB.out.size))
            have hz5 : w.heap.size + 1 < w5.heap.size := Nat.lt_of_lt_of_le hz1 hb5.size
            have hc5 : ∀ b o, b < w.heap.size + 2 → w5.cell? ⟨b, o, none⟩ = wr.cell? ⟨b, o, none⟩ := fun b o h => hb5.cell (p := ⟨b, o, none⟩) (by show b < wr.heap.size; omega)
            have hf5 : ∀ b o, b < w.heap.size + 2 → w5.frozen? ⟨b, o, none⟩ = wr.frozen? ⟨b, o, none⟩ := fun b o h => hb5.frozen (p := ⟨b, o, none⟩) (by show b < wr.heap.size; omega)
            clear ht5 hb5
            go_wp2
            refine bodyPost_ret (v := .agg #[.int .i64 6, .int .i64 0, .int .i64 0, .slice A5 2 c5]) (by simp [results, Try.results55, go_sem, hc5, r0, r1, r2, r3, hz5]) rfl (lpost HFE.out (EF.newG T5.out hsz) B5.out)
    | y :: r =>
      have hlt : k < N := by have := HN.out; have := HSP.out; have h2 := HDN.out; rw [HSP.out] at *; simp at *; omega
      obtain ⟨g1, f1, rfl, A1, c1, a0, a1, a2, a3, hg1, _, _, hy, hry⟩ := her.cons'
      have hg1h : g1 < w.heap.size + 2 := by omega
      by_cases hop : y.op = 0
      · have hop2 : (y.op != 0) = false := by simpa using hop
        have HOP := Lib.hid hop
        clear hop
        go_wp2_with (at_builtin; refine app_int rfl _ _ rfl (w.heap.size + 2) _ k (done.map EX.val) rfl ((HOW.out.alloc _).alloc _) _ y.val rfl (by simp [go_sem]) (by omega) (by simp; omega) ?_; intro v' w1 hown1 hg1; obtain ⟨A2, c2, rfl⟩ := own_form hown1)
        go_roundw
        case rel => exact ⟨k + 1, A2, c2, by omega, by go_num, rfl, r, done ++ [y], by rw [HSP.out]; simp, by have := HDN.out; simp; omega, hry, fun e he => (by rcases List.mem_append.1 he with he | he; exact HALL.out e he; rw [List.mem_singleton.1 he]; exact HOP.out), by simpa using hown1, keepG (keepA (keepA HK.out _) _) hg1 (fun k hk => by have := own_ge HOW.out k hk; omega)⟩
        case measure => simp [intOf]; omega
      · have hop2 : (y.op != 0) = true := by simpa using hop
        have HFE : Hid (foldOp (.node o x i l) = .node o x i l) := Lib.hid (foldOp_not ho (e := y) (by rw [HSP.out]; simp) hop)
        have HB9 : Hid (∀ ob, Below w.heap.size w (wr.alloc ob)) := Lib.hid (fun ob => HB.out.alloc HB.out.size ob)
        have hz0 : w.heap.size < wr.heap.size := by omega
        have hne1 : ¬ wr.heap.size = w.heap.size := by omega
        have hne2 : ¬ w.heap.size = wr.heap.size := by omega
        have hne3 : ¬ wr.heap.size = w.heap.size + 1 := by omega
        have hne4 : ¬ w.heap.size + 1 = wr.heap.size := by omega
        clear hop
        go_wp2
        refine bodyPost_ret (v := .agg #[.int .i64 o, .int .i64 x, .int .i64 i, .slice (some ⟨g1, f1, none⟩) N c]) (by simp [results, Try.results55, go_sem, r0, r1, r2, r3, hz1]) rfl ?_
        exact (lpost HFE.out HVG.out HB.out).alloc _
theorem folded_any : ∀ (y : EX), FoldOK y → ∀ (F : Nat → Prop) (v : Value) (w : World), EF F w y v → Calls Try.prog 55 #[v] w (LPost F w (foldOp y))
  | .node o x i l, hok, F, v, w, hv => by
    have h0 := argsS_at hok.1
    have hc : (o = 0 ∨ o = 1) ∨ (2 ≤ o ∧ o ≤ 9) ∨ o = 10 ∨ (o = 11 ∨ o = 12) ∨ o = 13 := by omega
    rcases hc with hc | hc | hc | hc | hc
    · obtain rfl := h0.2.2.1 hc
      exact folded_leaf o x i (Lib.hid hc) F v w hv
    · exact folded_num o x i l hc hok F v w hv
    · obtain ⟨a, rfl⟩ := h0.2.2.2.1 (.inr hc)
      subst hc
      exact folded_logical 10 x i [a] (by omega) F v w hv fun F v w hv => logical_not x i a (fun h => hok.2.2 rfl a (by simp) h) F v w hv
    · obtain ⟨a, b, rfl⟩ := h0.2.2.2.2.2 (by omega) (by omega) (by omega) (by omega)
      rcases hc with rfl | rfl
      · exact folded_logical 11 x i [a, b] (by omega) F v w hv fun F v w hv => logical_bin11 x i a b F v w hv
      · exact folded_logical 12 x i [a, b] (by omega) F v w hv fun F v w hv => logical_bin12 x i a b F v w hv
    · obtain ⟨a, b, d, rfl⟩ := h0.2.2.2.2.1 hc
      subst hc
      exact folded_logical 13 x i [a, b, d] (by omega) F v w hv fun F v w hv => logical_ite x i a b d F v w hv
end Go.Proofs.Ytmclnnpaephkpaa

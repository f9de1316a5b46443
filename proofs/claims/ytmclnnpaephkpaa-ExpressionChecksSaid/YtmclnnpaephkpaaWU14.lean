/-
  WALKS of chapter 14: change with the identity; copied.
-/
import Derived.Test.YtmclnnpaephkpaaBE14
import Derived.Deep.RegionLaw
namespace Go.Proofs.Ytmclnnpaephkpaa
set_option linter.unusedVariables false
set_option linter.unusedSimpArgs false
set_option linter.unnecessarySimpa false
set_option linter.unusedSectionVars false
open Go.RowKit

theorem headOf {F : Nat → Prop} {w : World} {t : EX} {v : Value} (h : EF F w t v) : ∃ A c, v = headV (t.op, t.val, t.idx, A, t.args.length, c) := by
  match t, h with
  | .node o x i l, h =>
    obtain ⟨A, c, hv, _⟩ := h
    exact ⟨A, c, hv⟩
theorem heap3 (w : World) (a b c : Obj) : (((w.alloc a).alloc b).alloc c).heap[w.heap.size + 2]? = some c := by
  have h : ((w.alloc a).alloc b).heap.size = w.heap.size + 2 := by simp
  rw [← h]
  exact heap_alloc_new _ _
theorem EF.set {F : Nat → Prop} {w : World} {p : Addr} {u : Value} (hp : ∀ b, F b → b ≠ p.block) {t : EX} {v : Value} (h : EF F w t v) : EF F (w.setCell p u) t v :=
  EF.mono (fun b hF hlt => ⟨hF, by simpa [World.setCell] using hlt, fun o => World.cell?_setCell_far _ _ _ _ (by intro e; exact hp b hF e.symm)⟩) t v h
theorem objDrew {w : World} {b : Nat} {o : Obj} (h : w.heap[b]? = some o) : w.drew.heap[b]? = some o := h
theorem objAlloc {w : World} {b : Nat} {o : Obj} (h : w.heap[b]? = some o) (p : Obj) : (w.alloc p).heap[b]? = some o := (Below.heap_alloc w p b (Array.getElem?_eq_some_iff.1 h).1).trans h
theorem four_setCell {w : World} {b : Nat} {v0 v1 v2 v3 u : Value} {t : TypeId} (h : w.heap[b]? = some (.cells #[v0, v1, v2, v3] t (0, 0))) : (w.setCell ⟨b, 3, none⟩ u).heap[b]? = some (.cells #[v0, v1, v2, u] t (0, 0)) := by
  have hlt := lt_of_block h
  have h' : w.heap[b] = .cells #[v0, v1, v2, v3] t (0, 0) := by simpa [Array.getElem?_eq_getElem hlt] using h
  show (w.heap.modify b _)[b]? = _
  rw [Array.getElem?_eq_getElem (by simpa using hlt), Array.getElem_modify_self, h']
  rfl
theorem EF.step {F G : Nat → Prop} {w2 w3 : World} {ob : Option Nat} {p : Addr} {u : Value} {o : Obj} (hg : (w2.alloc o).grownBy w3 ob) (hFG : ∀ b, F b → b < w2.heap.size → some b ≠ ob ∧ b ≠ p.block ∧ G b) {t : EX} {v : Value} (h : EF F w2 t v) : EF G (w3.setCell p u) t v :=
  EF.mono (fun b hF hlt => by
    obtain ⟨h1, h2, h3⟩ := hFG b hF hlt
    have hs := hg.size
    simp at hs
    refine ⟨h3, by simp [World.setCell]; omega, fun o2 => ?_⟩
    rw [World.cell?_setCell_far _ _ _ _ (by intro e; exact h2 e.symm), hg.cell_far ⟨b, o2, none⟩ (by simp; omega) h1]
    exact ((Below.refl w2.heap.size w2).alloc (Nat.le_refl _) o).cell (p := ⟨b, o2, none⟩) hlt) t v h
mutual
/-- change: the arguments changed, then the expression itself. -/
def changeE (g : EX → EX) : EX → EX
  | .node o v i l => g (.node o v i (changeL g l))
def changeL (g : EX → EX) : List EX → List EX
  | [] => []
  | e :: l => changeE g e :: changeL g l
end
/-- copied$1: the identity. -/
theorem copied1_any (y : EX) (F : Nat → Prop) (v : Value) (w : World) (hv : EF F w y v) :
    Calls Try.prog 76 #[v] w fun e w' => ∃ v', e = .returned v' ∧ EF F w' y v' ∧ Below w.heap.size w w' := by
  obtain ⟨A, c, rfl⟩ := headOf hv
  have HV := Lib.hid hv
  clear hv
  unfold headV
  go_enter Try.func76, Try.ntmps76
  go_wp2
  refine bodyPost_ret (v := .agg #[.int .i64 y.op, .int .i64 y.val, .int .i64 y.idx, .slice A y.args.length c]) (by simp [results, Try.results76, go_sem]) rfl ⟨_, rfl, HV.out.below (by repeat (first | exact Below.refl _ _ | assumption | refine Below.drew ?_ | refine below_drewN ?_ _ | refine Below.setCell ?_ (by simp; try omega) _ | refine Below.alloc ?_ (by simp; try omega) _)), (by repeat (first | exact Below.refl _ _ | assumption | refine Below.drew ?_ | refine below_drewN ?_ _ | refine Below.setCell ?_ (by simp; try omega) _ | refine Below.alloc ?_ (by simp; try omega) _))⟩
def ChangeSaid (g : EX → EX) (e : EX) : Prop := ∀ (v : Value) (w : World), ER w e v → Calls Try.prog 54 #[v, .func (.func 76) #[] #[]] w fun en w' => ∃ v', en = .returned v' ∧ EF (fun b => w.heap.size ≤ b) w' (changeE g e) v' ∧ Below w.heap.size w w'
set_option maxRecDepth 100000 in
set_option maxHeartbeats 2000000 in
theorem change_any (g : EX → EX) (hdo : ∀ (y : EX) (F : Nat → Prop) (v : Value) (w : World), EF F w y v → Calls Try.prog 76 #[v] w fun e w' => ∃ v', e = .returned v' ∧ EF (fun b => F b ∨ w.heap.size ≤ b) w' (g y) v' ∧ Below w.heap.size w w') : ∀ e, wfE e → ChangeSaid g e := by
  refine EX.ind fun o x i l ih => ?_
  intro hwf v w hv
  obtain ⟨A, cc, rfl, hlc, hcm, hA⟩ := hv
  have HDO := Lib.hid hdo
  have HA := Lib.hid (ER.ero hA)
  have IH : Hid (∀ e, e ∈ l → ChangeSaid g e) := Lib.hid fun e he => ih e he (by rw [wfE] at hwf; exact wfL_mem hwf.2 he)
  have hN3 : l.length ≤ 3 := by have h := hwf; rw [wfE] at h; have := argsS_le3 o _ h.1; omega
  obtain ⟨N, hN⟩ : ∃ N, l.length = N := ⟨_, rfl⟩
  rw [hN] at hlc hN3 ⊢
  have HN := Lib.hid hN
  clear hA hwf ih hdo hN
  go_enter Try.func54, Try.ntmps54
  go_wp2
  go_loopw [18] (fun j wr => ∃ k : Nat, k ≤ N ∧ j = .int .i64 k ∧ Hid (∃ r done ps A' c', k + r.length = N ∧ done.length = k ∧ ERo w A k r ∧ (∀ e, e ∈ r → e ∈ l) ∧ changeL g l = done ++ changeL g r ∧ k ≤ c' ∧ wr.heap[w.heap.size + 2]? = some (.cells #[.int .i64 o, .int .i64 x, .int .i64 i, .slice A' k c'] 24 (0, 0)) ∧ wr.ownsRow (w.heap.size + 3) 24 4 (.slice A' k c') k (flatE ps) ∧ RowE (fun b => w.heap.size + 3 ≤ b ∧ some b ≠ (Value.slice A' k c').ownBlock) wr ps done ∧ Keeps (w.heap.size + 2) ((w.alloc (.cells #[.int .i64 o, .int .i64 x, .int .i64 i, .slice A N cc] 24)).alloc (.cells #[.int .i64 0, .int .i64 0, .int .i64 0, .slice none 0 0] 24)) wr)) (fun j _ => N - (intOf j).toNat)
  case atStart => exact ⟨0, Nat.zero_le _, rfl, l, [], [], none, 0, by have := HN.out; omega, rfl, HA.out, fun _ h => h, by simp, by omega, heap3 _ _ _ _, World.ownsRow_nil _ _ _ _, trivial, keepA (keepSelf (by simp)) _⟩
  case round =>
    obtain ⟨k, hk, rfl, HR⟩ := hrel
    obtain ⟨r, done, ps, A', c', hr, hdn, her, hsub, hf, hkc, hbox, hown, hrow, hkeep⟩ := HR.out
    have hcell := hkeep.2.2
    have hsz := hkeep.2.1
    have hfro := bfro1 hkeep.1
    have hlb := oneLt hbox
    have b0 : wr.cell? ⟨w.heap.size + 2, 0, none⟩ = some (.int .i64 o) := by rw [cell_of_row _ _ _ _ _ _ hbox]; rfl
    have b1 : wr.cell? ⟨w.heap.size + 2, 1, none⟩ = some (.int .i64 x) := by rw [cell_of_row _ _ _ _ _ _ hbox]; rfl
    have b2 : wr.cell? ⟨w.heap.size + 2, 2, none⟩ = some (.int .i64 i) := by rw [cell_of_row _ _ _ _ _ _ hbox]; rfl
    have b3 : wr.cell? ⟨w.heap.size + 2, 3, none⟩ = some (.slice A' k c') := by rw [cell_of_row _ _ _ _ _ _ hbox]; rfl
    have HF := Lib.hid hf
    have HLN := Lib.hid hr
    have HDN := Lib.hid hdn
    have HOW := Lib.hid hown
    have HBX := Lib.hid hbox
    have HRW := Lib.hid hrow
    have HK := Lib.hid hkeep
    have HB := Lib.hid ((((Below.refl _ w).alloc (Nat.le_refl _) _).alloc (by simp) _).trans (hkeep.1.mono (Nat.le_add_right _ _)))
    clear hf hr HR hdn hown hkeep hbox hrow
    match r with
    | [] =>
      obtain rfl : k = N := by have := HLN.out; simp at this; omega
      have HD := Lib.hid (HDO.out (.node o x i done) (fun b => w.heap.size + 3 ≤ b) _ wr (EF.of_row (o := o) (x := x) (i := i) HDN.out.symm hkc (by omega) HOW.out (RowE.mono (fun t v h => EF.weaken (fun b hb _ => hb.1) h) _ _ HRW.out) (fun b hb => hb)))
      go_wp2_with fail
      refine HD.out.mono ?_
      rintro en w2 ⟨v', rfl, hef, hb2⟩
      obtain ⟨A3, c3, rfl⟩ := headOf hef
      obtain ⟨y, hy⟩ : ∃ y, g (.node o x i done) = y := ⟨_, rfl⟩
      rw [hy] at hef ⊢
      have HE : Hid (changeE g (.node o x i l) = y) := Lib.hid (by rw [changeE, HF.out, changeL, List.append_nil, hy])
      have HEF := Lib.hid hef
      have HK2 := Lib.hid (keep2 HK.out hb2)
      have HB2 := Lib.hid (HB.out.trans (hb2.mono HB.out.size))
      have hc2 := HK2.out.2.2
      have hf2 := bfro1 HK2.out.1
      have hs2 := HK2.out.2.1
      have z0 : w2.cell? ⟨w.heap.size + 1, 0, none⟩ = some (.int .i64 0) := by rw [hc2 _ _ (by omega)]; simp [go_sem]
      have z1 : w2.cell? ⟨w.heap.size + 1, 1, none⟩ = some (.int .i64 0) := by rw [hc2 _ _ (by omega)]; simp [go_sem]
      have z2 : w2.cell? ⟨w.heap.size + 1, 2, none⟩ = some (.int .i64 0) := by rw [hc2 _ _ (by omega)]; simp [go_sem]
      have z3 : w2.cell? ⟨w.heap.size + 1, 3, none⟩ = some (.slice none 0 0) := by rw [hc2 _ _ (by omega)]; simp [go_sem]
      have hzl : w.heap.size + 1 < w2.heap.size := by omega
      clear hef hb2 hy
      unfold headV
      go_wp2
      refine bodyPost_ret (v := .agg #[.int .i64 y.op, .int .i64 y.val, .int .i64 y.idx, .slice A3 y.args.length c3]) (by simp [results, Try.results54, go_sem, z0, z1, z2, z3, hzl]) rfl ⟨_, rfl, ?_, (by repeat (first | exact Below.refl _ _ | assumption | refine Below.drew ?_ | refine below_drewN ?_ _ | refine Below.setCell ?_ (by simp; try omega) _ | refine Below.alloc ?_ (by simp; try omega) _))⟩
      rw [HE.out]
      refine EF.weaken (F := fun b => w.heap.size + 3 ≤ b ∨ wr.heap.size ≤ b) (fun b hb _ => by omega) ?_
      repeat (refine EF.set (fun b hb => by simp; omega) ?_)
      exact HEF.out
    | y :: r =>
      have hlt : k < N := by have := HLN.out; simp at this; omega
      obtain ⟨g1, f1, rfl, A1, c1, a0, a1, a2, a3, hg1, hg1', hg1'', hy, hry⟩ := her.cons'
      have hbal := HB.out.alloc HB.out.size (.cells #[.int .i64 y.op, .int .i64 y.val, .int .i64 y.idx, .slice A1 y.args.length c1] 24)
      have HC' := Lib.hid (IH.out y (hsub y (by simp)) _ (wr.alloc (.cells #[.int .i64 y.op, .int .i64 y.val, .int .i64 y.idx, .slice A1 y.args.length c1] 24)).drew (ER.below hbal.drew _ _ hy))
      have hg1h : g1 < w.heap.size + 2 := by omega
      obtain ⟨i0, hi, hz0, hz1, hz2⟩ := info_parts infoE
      have HBA := Lib.hid hbal.drew
      clear hbal
      have HOWD : Hid ((wr.alloc (.cells #[.int .i64 y.op, .int .i64 y.val, .int .i64 y.idx, .slice A1 y.args.length c1] 24)).drew.ownsRow (w.heap.size + 3) 24 4 (.slice A' k c') k (flatE ps)) := Lib.hid (show World.ownsRow _ _ _ _ _ _ _ from (HOW.out.alloc (.cells #[.int .i64 y.op, .int .i64 y.val, .int .i64 y.idx, .slice A1 y.args.length c1] 24)))
      have hnews : ∀ (W : World) (p : Int × Int × Int × Option Addr × Nat × Nat), ∀ j u, ([.int .i64 p.1, .int .i64 p.2.1, .int .i64 p.2.2.1, .slice p.2.2.2.1 p.2.2.2.2.1 p.2.2.2.2.2] : List Value)[j]? = some u → (W.alloc (.cells #[.int .i64 p.1, .int .i64 p.2.1, .int .i64 p.2.2.1, .slice p.2.2.2.1 p.2.2.2.2.1 p.2.2.2.2.2] 24)).cell? ((⟨W.heap.size, 0, none⟩ : Addr).add j) = some u := fun W p => World.news_of_block (heap_alloc_new W _)
      go_wp2_with fail
      go_region_law (first
        | (go_simp; go_at_call 54; refine (HC'.out).mono ?_; rintro e w2 ⟨v', rfl, hef, hb2⟩; obtain ⟨A3, c3, rfl⟩ := headOf hef; have hown2 := ownBelowN HOWD.out hb2; have hsz2 : w.heap.size + 1 + 1 < w2.heap.size := (by have := hb2.size; simp at this; omega); have p3 : w2.cell? ⟨w.heap.size + 2, 3, none⟩ = some (.slice A' k c') := (by rw [cell_of_row _ _ _ _ _ _ (oneBelow (objDrew (objAlloc HBX.out _)) hb2)]; rfl); unfold headV)
        | (refine step_append_lies _ rfl _ _ 22 rfl (w.heap.size + 3) 24 i0 (.agg #[.int .i64 0, .int .i64 0, .int .i64 0, .slice none 0 0]) 4 48 Try.underlying22 hi hz0 hz1 hz2 (by simp [Value.cells]) (by decide) (.slice A' k c') k (flatE ps) rfl (hown2.alloc _) ⟨w2.heap.size, 0, none⟩ 1 1 [.int .i64 (changeE g y).op, .int .i64 (changeE g y).val, .int .i64 (changeE g y).idx, .slice A3 (changeE g y).args.length c3] rfl (by simp) (hnews w2 ((changeE g y).op, (changeE g y).val, (changeE g y).idx, A3, (changeE g y).args.length, c3)) (by simp [Value.oneCell']) (by decide) (by simp only [maxLen]; omega) (by omega) (by have := hb2.size; simp at this ⊢; omega) _ rfl ?_; intro g2 cap w3 hown3 hgrow hat hlt3; have hbx3 := oneGrown (objAlloc (oneBelow (objDrew (objAlloc HBX.out _)) hb2) _) hgrow (by intro e; have := own_ge HOW.out _ e.symm; omega); have q3 : w3.cell? ⟨w.heap.size + 2, 3, none⟩ = some (.slice A' k c') := (by rw [cell_of_row _ _ _ _ _ _ hbx3]; rfl); have qf : w3.frozen? ⟨w.heap.size + 2, 3, none⟩ = false := frozen_of_row _ _ _ _ _ hbx3))
      all_goals
        have HEF := Lib.hid hef
        have HK2 := Lib.hid (keepG (keepA (keep2 (keepD (keepA HK.out _)) hb2) _) hgrow (fun k hk => by have := own_ge HOW.out k hk; omega))
        have HOW3 := Lib.hid hown3
        have HBX3 := Lib.hid hbx3
        have HAT := Lib.hid hat
        have HG := Lib.hid hgrow
        have HB2 := Lib.hid hb2
        have hcap : k + 1 ≤ cap ∧ cap ≤ maxLen := by
          rcases hown3.2 with ⟨e, _⟩ | ⟨_, cap', _, e, _, _, h1, h2, _⟩
          · cases e
          · injection e with _ _ e; subst e; exact ⟨h1, h2⟩
        have hg2 : ∀ b, b < w2.heap.size → some b ≠ (Value.slice A' k c').ownBlock → some b ≠ (Value.slice (some ⟨g2, 0, none⟩) (k + 1) cap).ownBlock := fun b hlt h1 e => by
          have e' : b = g2 := by simpa [Value.ownBlock] using e
          subst e'
          rcases hat with e | e
          · exact h1 e.symm
          · simp at e; omega
        have HNEW : Hid (EF (fun b => w.heap.size + 3 ≤ b ∧ some b ≠ (Value.slice (some ⟨g2, 0, none⟩) (k + 1) cap).ownBlock) (w3.setCell ⟨w.heap.size + 1 + 1, 3, none⟩ (.slice (some ⟨g2, 0, none⟩) (k + 1) cap)) (changeE g y) (headV ((changeE g y).op, (changeE g y).val, (changeE g y).idx, A3, (changeE g y).args.length, c3))) := Lib.hid (EF.step hgrow (fun b hb hlt => by
          have hb' : wr.heap.size + 1 ≤ b := by simpa using hb
          have h1 : some b ≠ (Value.slice A' k c').ownBlock := fun e => by have := (World.ownsRow.lt HOW.out b e.symm).2; omega
          exact ⟨h1, by show b ≠ w.heap.size + 1 + 1; omega, by omega, hg2 b hlt h1⟩) hef)
        have HOLD : Hid (RowE (fun b => w.heap.size + 3 ≤ b ∧ some b ≠ (Value.slice (some ⟨g2, 0, none⟩) (k + 1) cap).ownBlock) (w3.setCell ⟨w.heap.size + 1 + 1, 3, none⟩ (.slice (some ⟨g2, 0, none⟩) (k + 1) cap)) ps done) := Lib.hid (RowE.mono (F := fun b => w.heap.size + 3 ≤ b ∧ some b ≠ (Value.slice A' k c').ownBlock) (fun t v h => EF.step (F := fun b => w.heap.size + 3 ≤ b ∧ some b ≠ (Value.slice A' k c').ownBlock) hgrow (fun b hb hlt => ⟨hb.2, (by have := hb.1; show b ≠ w.heap.size + 1 + 1; omega), hb.1, hg2 b hlt hb.2⟩) (EF.below hb2 (EF.below ((Below.refl wr.heap.size wr).alloc (Nat.le_refl _) _).drew h))) _ _ HRW.out)
        clear hef hb2 hown3 hbx3 hat hgrow hown2 hnews hg2
        go_wp2
        go_roundw
        case rel => exact ⟨k + 1, by omega, by go_num, r, done ++ [changeE g y], ps ++ [((changeE g y).op, (changeE g y).val, (changeE g y).idx, A3, (changeE g y).args.length, c3)], some ⟨g2, 0, none⟩, cap, by have := HLN.out; simp at this; omega, by have := HDN.out; simp; omega, hry, fun e he => hsub e (by simp [he]), by rw [HF.out, changeL]; simp, hcap.1, four_setCell HBX3.out, (by rw [← flatE_app]; exact ownsRow_setCell_below HOW3.out (by simp) _), RowE.snoc HNEW.out _ _ HOLD.out, keepS HK2.out (by simp) _⟩
        case measure => simp [intOf]; omega
end Go.Proofs.Ytmclnnpaephkpaa

/-
  Operations without their edges and places: the evaluator does not look at them.
  From contracts over worlds to contracts of the abstract evaluator, and back at the top of a statement.
-/
import Derived.Test.YtmclnnpaephkpaaAbQ
import Derived.ProofKit
import Derived.SizedLaws
import Derived.Deep.Slices
import Derived.Deep.Fields
import Derived.ChangeArms
import Derived.OpenShut
import Derived.ChangeOld
namespace Go.Proofs.Ytmclnnpaephkpaa
set_option linter.unusedVariables false
set_option linter.unusedSimpArgs false
set_option linter.unnecessarySimpa false
set_option linter.unusedSectionVars false
open Go.RowKit
def lite : Oper → Oper
  | ⟨d, op, ty, _, _, g⟩ => ⟨d, op, ty, "", #[], g⟩
section
variable {E : AE} {ops : Array Oper} {K : ASt → Prop}
theorem awpOp_lite (o : Oper) (σ : ASt) : awpOp E (lite o) K σ = awpOp E o K σ := by cases o; rfl
theorem gval_lite (σ : ASt) (j : Nat) : gval (ops.map lite) σ j = gval ops σ j := by
  unfold gval
  rw [Array.getElem?_map]
  cases ops[j]? with
  | none => rfl
  | some o => cases o; rfl
theorem awpOps_lite : ∀ (l : List Oper) (σ : ASt), awpOps E (ops.map lite) (l.map lite) K σ = awpOps E ops l K σ
  | [], _ => rfl
  | o :: l, σ => by
    have ih := fun σ => awpOps_lite l σ
    have ih' : awpOps E (ops.map lite) (l.map lite) K = awpOps E ops l K := funext ih
    obtain ⟨d, op, ty, pos, af, g⟩ := o
    rw [List.map_cons, awpOps, awpOps, ih']
    cases g with
    | none => exact awpOp_lite _ σ
    | some jw =>
      obtain ⟨j, want⟩ := jw
      simp only [lite, gval_lite]
      rfl
theorem regL {m0 : Nat} {Q : AX → ASt → Prop} {σ : ASt} {id : Nat} {ops' : Array Oper} (he : ops.map lite = ops') (h : awpOps E ops' ops'.toList (Q .normal) (σ.head E)) : awp E m0 (.region id ops false) Q σ := by
  subst he
  rw [Array.toList_map, awpOps_lite] at h
  exact regA h
theorem isCall_lite (o : Oper) : isCall (lite o) = isCall o := by cases o; rfl
theorem awpOpD_lite (o : Oper) (σ : ASt) : awpOpD E (lite o) K σ = awpOpD E o K σ := by cases o; rfl
theorem awpOpsD_lite : ∀ (l : List Oper) (σ : ASt), awpOpsD E (ops.map lite) (l.map lite) K σ = awpOpsD E ops l K σ
  | [], _ => rfl
  | o :: l, σ => by
    have ih := fun σ => awpOpsD_lite l σ
    have ih' : awpOpsD E (ops.map lite) (l.map lite) K = awpOpsD E ops l K := funext ih
    obtain ⟨d, op, ty, pos, af, g⟩ := o
    rw [List.map_cons, awpOpsD, awpOpsD, ih']
    cases g with
    | none => exact awpOpD_lite _ σ
    | some jw =>
      obtain ⟨j, want⟩ := jw
      simp only [lite, gval_lite]
      rfl
theorem regLD {m0 : Nat} {Q : AX → ASt → Prop} {σ : ASt} {id : Nat} {ops' : Array Oper} (hok : okD E ops = true) (he : ops.map lite = ops') (h : awpOpsD E ops' ops'.toList (Q .normal) (σ.head E)) : awp E m0 (.region id ops true) Q σ := by
  subst he
  rw [Array.toList_map, awpOpsD_lite] at h
  exact regD hok h
end
end Go.Proofs.Ytmclnnpaephkpaa
namespace Go.Proofs.Ytmclnnpaephkpaa
set_option linter.unusedVariables false
set_option linter.unusedSimpArgs false
set_option linter.unnecessarySimpa false
set_option linter.unusedSectionVars false
open Go.RowKit Go.ChangeShapes Go.WideShapes Go.ChangeAt

/-- All cells of a world, frozen. -/
def whole0 (w : World) (b o : Nat) : Option Value := match w.cell? ⟨b, o, none⟩ with | some v => if v.oneCell' then some v else none | none => none
theorem whole0_some {w : World} {b o : Nat} {v : Value} : whole0 w b o = some v ↔ w.cell? ⟨b, o, none⟩ = some v ∧ v.oneCell' = true := by
  unfold whole0
  cases h : w.cell? ⟨b, o, none⟩ with
  | none => simp
  | some u =>
    simp only
    by_cases hu : u.oneCell' = true
    · rw [if_pos hu]
      exact ⟨fun e => by injection e with e; subst e; exact ⟨rfl, hu⟩, fun e => by rw [e.1]⟩
    · rw [if_neg hu]
      exact ⟨fun e => (by cases e), fun ⟨e1, e2⟩ => by injection e1 with e1; subst e1; exact absurd e2 hu⟩
/-- The tables lie in the world. -/
def GW (w : World) : Prop := ∀ b o v, Glob b o = some v → whole0 w b o = some v
def whole (w : World) (h : GW w) : Mem := ⟨whole0 w, h⟩
theorem whole_some {w : World} {hw : GW w} {b o : Nat} {v : Value} : whole w hw b o = some v ↔ w.cell? ⟨b, o, none⟩ = some v ∧ v.oneCell' = true := whole0_some
theorem whole_mem (w : World) (hw : GW w) : memOK (whole w hw) w := fun _ _ _ h => whole_some.1 h
/-- The memory, and the cells of the blocks from n on. -/
def news (M : Mem) (n : Nat) (w : World) : Mem := mkM fun b o => if n ≤ b then whole0 w b o else M b o
theorem news_eq {M : Mem} {w : World} (hm : memOK M w) (w' : World) (b o : Nat) : news M w.heap.size w' b o = if w.heap.size ≤ b then whole0 w' b o else M b o := by
  refine mkM_of (fun b o v e => ?_) b o
  have := World.block_lt_of_cell? _ _ (hm b o v (M.g _ _ _ e)).1
  simp only at this
  rw [if_neg (by omega)]; exact M.g _ _ _ e
theorem news_new {M : Mem} {w : World} (hm : memOK M w) {w' : World} {b o : Nat} {v : Value} (hb : w.heap.size ≤ b) (h : w'.cell? ⟨b, o, none⟩ = some v) (h1 : v.oneCell' = true) : news M w.heap.size w' b o = some v := by
  rw [news_eq hm, if_pos hb]; exact whole0_some.2 ⟨h, h1⟩
/-- A contract with no objects at the top: true comes back, and what was there before is as it was. -/
theorem Ev.top {P : Program} {g : FuncId} {args : List PV} {r : PV} {w : World} {hw : GW w} {vals : Array Value} (h : Ev P g args [] r []) (ha : Reps (whole w hw) [] args vals.toList) :
    Calls P g vals w fun e w' => ∃ v M', e = .returned v ∧ Rep M' [] r v ∧ memOK M' w' ∧ Below w.heap.size w w' := by
  have h0 : ∀ w b, ownH w [] [] b = 0 := fun w b => by simp [ownH]
  refine (h.2 (fun _ => 0) (whole w hw) [] w vals (whole_mem w hw) ⟨rfl, fun i cs hi => by simp at hi⟩ (fun b => by rw [h0]; omega) (fun b _ => by rw [h0]) ha).mono fun e w' he => ?_
  obtain ⟨v, M', B', rfl, hP⟩ := he
  have hB' : B' = [] := List.eq_nil_of_length_eq_zero (by have := hP.heap.1; simpa using this.symm)
  subst hB'
  exact ⟨v, M', rfl, hP.rep, hP.mem, hP.fr.os, hP.fr.tape, hP.fr.output, hP.fr.size, fun k hk => (hP.fr.blk k hk (h0 w k)).1⟩
/-- A contract over worlds that leaves old memory alone, and returns what lies in new blocks. -/
theorem Ev.of_calls {P : Program} {g : FuncId} {args : List PV} {r : PV} (hc : callable P g = true) (ho : r.own = false) (_ : PV.flats args = true)
    (h : ∀ (M : Mem) (w : World) (vals : Array Value), memOK M w → Reps M [] args vals.toList → Calls P g vals w fun e w' => ∃ v, e = .returned v ∧ Rep (news M w.heap.size w') [] r v ∧ Below w.heap.size w w') : Ev P g args [] r [] := by
  refine ⟨hc, fun out M B w vals hmem hheap hcnt hnew hv => ?_⟩
  have hB : B = [] := List.eq_nil_of_length_eq_zero (by have := hheap.1; simpa using this.symm)
  subst hB
  have h0 : ∀ w b, ownH w [] [] b = 0 := fun w b => by simp [ownH]
  refine (h M w vals hmem hv).mono fun e w' ⟨v, he, hr, bel⟩ => ?_
  have hlt : ∀ b o v, M b o = some v → b < w.heap.size := fun b o v h => World.block_lt_of_cell? _ _ (hmem b o v h).1
  refine ⟨v, news M w.heap.size w', [], he, fun b o v h => ?_, ⟨fun b o v h => ?_, fun _ _ h => h⟩, ⟨bel.os, bel.tape, bel.output, bel.size, fun b hb _ => ⟨bel.block b hb, fun o => by rw [news_eq hmem, if_neg (by omega)]⟩⟩, ⟨rfl, fun i cs hi => by simp at hi⟩, hr, tl_no ho, fun b _ => by rw [ownV_no ho, h0]; omega, fun b => ?_, fun b hb => ?_⟩
  · rw [news_eq hmem] at h
    split at h
    · exact whole0_some.1 h
    · have := hmem b o v h
      exact ⟨by rw [World.cell?_of_block (w := w) (bel.block b (hlt b o v h))]; exact this.1, this.2⟩
  · rw [news_eq hmem, if_neg (by have := hlt b o v h; omega)]; exact h
  · rw [ownV_no ho, h0]; have := hcnt b; rw [h0] at this; omega
  · rw [ownV_no ho, h0]; have := hnew b (Nat.le_trans bel.size hb); rw [h0] at this; omega

/-! ### opening what came in -/
def aggT (P : Program) (t : TypeId) : Bool := match P.underlying t with | some (.struct _) | some (.array ..) => true | _ => false
def elemP (P : Program) (t : TypeId) (qs : List PV) : PV := if aggT P t then .agg qs else qs.headD .nilp
/-- The parts of a type: where each lies, and its type. -/
def parts (P : Program) (t : TypeId) : List (Nat × TypeId) := match P.underlying t with
  | some (.struct fs) => fs.toList.map fun f => (f.offset, f.type)
  | some (.array n e) => (List.range n).map fun i => (i * P.cellsOf e, e)
  | _ => []
/-- What a reading of type t says of the abstract cells. -/
def Shp (P : Program) : Nat → TypeId → List PV → Prop
  | 0, _, _ => False
  | fuel + 1, t, ps => match P.underlying t with
    | some .bool => ∃ b, ps = [.bool b]
    | some (.int k) => ∃ n, ps = [.int k n] ∧ (Lit.int k n).wf = true
    | some .string => ∃ s : ByteArray, ps = [.str s] ∧ s.size ≤ reachBytes
    | some (.slice e) => ∃ es : List PV, ps = [.sl false (P.cellsOf e) es] ∧ es.length * P.bytesOf e ≤ reachBytes ∧ ∀ p, p ∈ es → ∃ qs, Shp P fuel e qs ∧ p = elemP P e qs
    | some (.struct _) | some (.array ..) => ps.length = P.cellsOf t ∧ ∀ x, x ∈ parts P t → Shp P fuel x.2 ((ps.drop x.1).take (P.cellsOf x.2))
    | _ => False
/-- The parts lie side by side and fill the type. -/
def tileB (P : Program) (total : Nat) : Nat → List (Nat × TypeId) → Bool
  | off, [] => off == total
  | off, x :: l => x.1 == off && tileB P total (off + P.cellsOf x.2) l
/-- A list of types that holds with each type its parts. -/
def closedB (P : Program) (l : List TypeId) : Bool := l.all fun t => match P.underlying t with
  | some .bool => P.cellsOf t == 1
  | some (.int _) => P.cellsOf t == 1
  | some .string => P.cellsOf t == 1
  | some (.slice e) => l.contains e && decide (0 < P.cellsOf e) && P.cellsOf t == 1
  | some (.struct _) => (parts P t).all (fun x => l.contains x.2) && tileB P (P.cellsOf t) 0 (parts P t)
  | some (.array ..) => (parts P t).all (fun x => l.contains x.2) && tileB P (P.cellsOf t) 0 (parts P t)
  | _ => false
theorem reps_app {M : Mem} {B : Blk} : ∀ {ps qs : List PV} {us vs : List Value}, Reps M B ps us → Reps M B qs vs → Reps M B (ps ++ qs) (us ++ vs)
  | [], qs, us, vs, h, k => by rw [reps_nil] at h; subst h; simpa using k
  | p :: ps, qs, us, vs, h, k => by
    obtain ⟨u, us', rfl, h1, h2⟩ := reps_cons.1 h
    exact reps_cons.2 ⟨u, us' ++ vs, rfl, h1, reps_app h2 k⟩
theorem tile_le {P : Program} {total : Nat} : ∀ {l : List (Nat × TypeId)} {off : Nat}, tileB P total off l = true → off ≤ total ∧ ∀ x, x ∈ l → off ≤ x.1
  | [], off, h => by simp [tileB] at h; exact ⟨by omega, by simp⟩
  | x :: l, off, h => by
    simp only [tileB, Bool.and_eq_true, beq_iff_eq] at h
    obtain ⟨h1, h2⟩ := tile_le h.2
    exact ⟨by omega, fun y hy => by
      rcases List.mem_cons.1 hy with rfl | hy
      · omega
      · have := h2 y hy; omega⟩
theorem tile_open {P : Program} {M : Mem} {S : TypeId → List PV → Prop} {cs : List Value} : ∀ {l : List (Nat × TypeId)} {off : Nat}, tileB P cs.length off l = true →
    (∀ x, x ∈ l → ∃ qs, S x.2 qs ∧ Reps M [] qs ((cs.drop x.1).take (P.cellsOf x.2)) ∧ ∀ v, v ∈ (cs.drop x.1).take (P.cellsOf x.2) → v.oneCell' = true) → ∃ ps, Reps M [] ps (cs.drop off) ∧ (∀ v, v ∈ cs.drop off → v.oneCell' = true) ∧ ∀ x, x ∈ l → S x.2 ((ps.drop (x.1 - off)).take (P.cellsOf x.2))
  | [], off, h, _ => by
    simp [tileB] at h; subst h
    exact ⟨[], by rw [List.drop_length]; exact reps_nil.2 rfl, by simp, by simp⟩
  | x :: l, off, h, hx => by
    simp only [tileB, Bool.and_eq_true, beq_iff_eq] at h
    obtain ⟨e, ht⟩ := h
    subst e
    obtain ⟨hle, hge⟩ := tile_le ht
    obtain ⟨qs, hq, hr, ho⟩ := hx x (by simp)
    obtain ⟨ps, hp, ho', hs⟩ := tile_open ht fun y hy => hx y (by simp [hy])
    have hlen : qs.length = P.cellsOf x.2 := by rw [reps_length hr, List.length_take, List.length_drop]; omega
    refine ⟨qs ++ ps, ?_, fun v hv => ?_, fun y hy => ?_⟩
    · have := reps_app hr hp
      rwa [← List.drop_drop, List.take_append_drop] at this
    · rw [← List.take_append_drop (P.cellsOf x.2) (cs.drop x.1), List.drop_drop] at hv
      exact (List.mem_append.1 hv).elim (ho v) (ho' v)
    · rcases List.mem_cons.1 hy with rfl | hy
      · rw [Nat.sub_self, List.drop_zero, List.take_append_of_le_length (by omega), List.take_of_length_le (by omega)]; exact hq
      · have h1 := hge y hy
        rw [List.drop_append, List.drop_eq_nil_of_le (by omega), List.nil_append, show y.1 - x.1 - qs.length = y.1 - (x.1 + P.cellsOf x.2) by omega]
        exact hs y hy
theorem weightsAll_memU {H : Type} {P : Program} {e : TypeId} : ∀ {ds : List (DataW H)} {d : DataW H} {n : Nat}, d ∈ ds → n ∈ d.weights P e → n ∈ DataW.weightsAll P e ds
  | d0 :: ds, d, n, hd, hn => by
    rw [DataW.weightsAll, List.mem_append]
    rcases List.mem_cons.1 hd with rfl | hd
    · exact .inl hn
    · exact .inr (weightsAll_memU hd hn)
theorem list_choose {α : Type} {R : Nat → α → Prop} : ∀ n : Nat, (∀ j, j < n → ∃ p, R j p) → ∃ l : List α, l.length = n ∧ ∀ (j : Nat) p, l[j]? = some p → R j p
  | 0, _ => ⟨[], rfl, by simp⟩
  | n + 1, h => by
    obtain ⟨l, hl, hr⟩ := list_choose n fun j hj => h j (by omega)
    obtain ⟨p, hp⟩ := h n (by omega)
    refine ⟨l ++ [p], by simp [hl], fun j q hq => ?_⟩
    rcases Nat.lt_or_ge j l.length with hlt | hge
    · exact hr j q (by rwa [List.getElem?_append_left hlt] at hq)
    · rw [List.getElem?_append_right hge] at hq
      have : j - l.length = 0 := by
        rcases Nat.eq_zero_or_pos (j - l.length) with h0 | h0
        · exact h0
        · rw [List.getElem?_eq_none (by simp; omega)] at hq; cases hq
      rw [this] at hq; simp at hq; subst hq
      have : j = n := by omega
      subst this; exact hp
theorem shp_one {P : Program} {fuel : Nat} {t : TypeId} {ps : List PV} (h : Shp P fuel t ps) (ha : aggT P t = false) : ∃ q, ps = [q] ∧ q.isAgg = false ∧ (∀ cs, q ≠ .tuple cs) ∧ q.size = 1 := by
  cases fuel with
  | zero => exact h.elim
  | succ fuel =>
    unfold Shp at h
    unfold aggT at ha
    split at h
    · obtain ⟨b, rfl⟩ := h; exact ⟨_, rfl, rfl, by simp, rfl⟩
    · obtain ⟨b, rfl, _⟩ := h; exact ⟨_, rfl, rfl, by simp, rfl⟩
    · obtain ⟨b, rfl, _⟩ := h; exact ⟨_, rfl, rfl, by simp, rfl⟩
    · obtain ⟨b, rfl, _⟩ := h; exact ⟨_, rfl, rfl, by simp, rfl⟩
    · simp_all
    · simp_all
    · exact h.elim
section
variable {H : Type} {enc : TypeId × Value → H} {W : World} {hW : GW W} {P : Program}
theorem elem_loc {fuel : Nat} {e : TypeId} {ps : List PV} {cs : List Value} (hs : Shp P fuel e ps) (hr : Reps (whole W hW) [] ps cs) (hl : cs.length = P.cellsOf e) (ho : ∀ v, v ∈ cs → v.oneCell' = true) :
    (elemP P e ps).size = P.cellsOf e ∧ ∀ b off, (∀ i, i < cs.length → W.cell? ⟨b, off + i, none⟩ = cs[i]?) → Loc (whole W hW) [] (elemP P e ps) b off := by
  unfold elemP
  have hlen := reps_length hr
  cases ha : aggT P e with
  | true =>
    refine ⟨by simp [PV.size]; omega, fun b off h => loc_agg.2 (cells_of fun j p hp => ?_)⟩
    obtain ⟨u, hu, hru⟩ := reps_get hr hp
    exact ⟨u, whole_some.2 ⟨(h j (List.getElem?_eq_some_iff.1 hu).1).trans hu, ho u (List.mem_of_getElem? hu)⟩, hru⟩
  | false =>
    obtain ⟨q, rfl, h1, h2, h3⟩ := shp_one hs ha
    have hc1 : cs.length = 1 := by rw [← hlen]; rfl
    refine ⟨by simp [h3]; omega, fun b off h => (loc_one h1 h2).2 ?_⟩
    obtain ⟨u, hu, hru⟩ := reps_get hr (j := 0) (p := q) rfl
    exact ⟨u, whole_some.2 ⟨(h 0 (by omega)).trans hu, ho u (List.mem_of_getElem? hu)⟩, hru⟩
theorem addr_addU (b off n : Nat) : (⟨b, off, none⟩ : Addr).add n = ⟨b, off + n, none⟩ := by
  unfold Addr.add
  split
  · rename_i h; subst h; rfl
  · rfl
theorem open_any {l : List TypeId} (hl : closedB P l = true) : ∀ (fuel : Nat) (t : TypeId) (cs : List Value) (x : DataW H × List MemPlace), t ∈ l → DataW.trod enc P W 0 (fun _ => true) true fuel t cs = some x → (∀ n, n ∈ x.1.weights P t → n ≤ reachBytes) →
    ∃ ps, Shp P fuel t ps ∧ Reps (whole W hW) [] ps cs ∧ cs.length = P.cellsOf t ∧ ∀ v, v ∈ cs → v.oneCell' = true := by
  intro fuel
  induction fuel with
  | zero => intro t cs x _ h; simp [DataW.trod] at h
  | succ fuel ih =>
    intro t cs x ht h hw
    have hc := List.all_eq_true.1 hl t ht
    simp only [Shp]
    cases hu : P.underlying t with
    | none => rw [hu] at hc; cases hc
    | some ty =>
      cases ty with
      | bool =>
        simp only [hu] at hc
        obtain ⟨b, rfl, _⟩ := DataW.trod_bool hu h
        exact ⟨[.bool b], ⟨b, rfl⟩, reps_cons.2 ⟨_, _, rfl, rep_bool.2 rfl, reps_nil.2 rfl⟩, (eq_of_beq hc).symm, by simp [Value.oneCell']⟩
      | int k =>
        simp only [hu] at hc
        obtain ⟨n, rfl, _, hn⟩ := DataW.trod_int hu h
        exact ⟨[.int k n], ⟨n, rfl, hn⟩, reps_cons.2 ⟨_, _, rfl, rep_int.2 rfl, reps_nil.2 rfl⟩, (eq_of_beq hc).symm, by simp [Value.oneCell']⟩
      | string =>
        simp only [hu] at hc
        obtain ⟨s, rfl, rfl, hn⟩ := DataW.trod_string hu h
        exact ⟨[.str s], ⟨s, rfl, by have := hw s.size (by simp [DataW.weights]); exact this⟩, reps_cons.2 ⟨_, _, rfl, rep_str.2 rfl, reps_nil.2 rfl⟩, (eq_of_beq hc).symm, by simp [Value.oneCell']⟩
      | slice e =>
        simp only [hu, Bool.and_eq_true, decide_eq_true_eq, beq_iff_eq, List.contains_iff_mem] at hc
        obtain ⟨⟨he, hpos⟩, h1⟩ := hc
        rcases DataW.trod_slice hu h with ⟨rfl, rfl⟩ | ⟨a, len, cap, elems, rest, n', hf, rfl, rfl, _, hle, _, hel, hall, hsp, _⟩
        · exact ⟨[.sl false (P.cellsOf e) []], ⟨[], rfl, by simp, by simp⟩, reps_cons.2 ⟨_, _, rfl, rep_sl.2 ⟨none, 0, rfl, Nat.le_refl _, by simp, fun _ => ⟨rfl, rfl, rfl⟩, by simp⟩, reps_nil.2 rfl⟩, h1.symm, by simp [Value.oneCell']⟩
        · injection hf with hf; subst hf
          have hwt : ∀ k, k ∈ (DataW.slice (elems.map (·.1)) (rest.map (·.1)) : DataW H).weights P t → k ≤ reachBytes := hw
          have hw0 : len * P.bytesOf e ≤ reachBytes := by
            have := hwt ((elems.length + rest.length) * P.bytesOf e) (by simp [DataW.weights, hu])
            refine Nat.le_trans (Nat.mul_le_mul_right _ (by omega)) this
          have hone : ∀ j, j < len → ∃ p, (∃ qs, Shp P fuel e qs ∧ p = elemP P e qs) ∧ p.size = P.cellsOf e ∧ ∀ b off, a = ⟨b, off, none⟩ → Loc (whole W hW) [] p b (off + j * P.cellsOf e) := by
            intro j hj
            have hjj := hall j hj
            rw [List.getElem?_eq_getElem (by omega)] at hjj
            obtain ⟨cs', hc', ht'⟩ := Option.bind_eq_some_iff.1 hjj
            obtain ⟨qs, q1, q2, q3, q4⟩ := ih e cs' _ he ht' fun k hk => hwt k (by
              simp only [DataW.weights, hu, List.mem_cons, List.mem_append]
              exact .inr (.inl (weightsAll_memU (List.mem_map.2 ⟨_, List.getElem_mem (by omega), rfl⟩) hk)))
            obtain ⟨s1, s2⟩ := elem_loc q1 q2 q3 q4
            refine ⟨_, ⟨qs, q1, rfl⟩, s1, fun b off hab => s2 b _ fun i hi => ?_⟩
            obtain ⟨_, _, hcell⟩ := World.cells?_some hc'
            have := hcell i (by omega)
            rw [hab, addr_addU, addr_addU] at this
            exact this
          have hspot : cap ≠ 0 → ∃ b off, a = ⟨b, off, none⟩ := fun hcap => by
            have key : ∀ k cs', k = 0 → W.cells? 0 (a.add k) (P.cellsOf e) = some cs' → a.spot = none := fun k cs' hk hc' => by
              subst hk
              obtain ⟨_, h2, hcell⟩ := World.cells?_some hc'
              have := hcell 0 hpos
              rw [List.getElem?_eq_getElem (by omega)] at this
              simpa [Addr.add] using World.cell?_spot this
            have : a.spot = none := by
              by_cases h0 : 0 < len
              · have hjj := hall 0 h0
                rw [List.getElem?_eq_getElem (by omega)] at hjj
                obtain ⟨cs', hc', _⟩ := Option.bind_eq_some_iff.1 hjj
                exact key _ cs' (Nat.zero_mul _) hc'
              · obtain ⟨r1, r2⟩ := hsp rfl
                have hjj := r2 0 (by omega)
                rw [List.getElem?_eq_getElem (by omega)] at hjj
                obtain ⟨cs', hc', _⟩ := Option.bind_eq_some_iff.1 hjj
                exact key _ cs' (by have : len = 0 := by omega
                                    simp [this]) hc'
            exact ⟨a.block, a.off, by cases a; simp at this; subst this; rfl⟩
          obtain ⟨es, hlen, hes⟩ := list_choose len hone
          subst hlen
          refine ⟨[.sl false (P.cellsOf e) es], ⟨es, rfl, hw0, fun p hp => ?_⟩, reps_cons.2 ⟨_, _, rfl, rep_sl.2 ⟨some a, cap, rfl, hle, fun p hp => ?_, fun h0 => by omega, fun hne => ?_⟩, reps_nil.2 rfl⟩, h1.symm, by simp [Value.oneCell']⟩
          · obtain ⟨j, hj⟩ := List.mem_iff_getElem?.1 hp
            exact (hes j p hj).1
          · obtain ⟨j, hj⟩ := List.mem_iff_getElem?.1 hp
            exact (hes j p hj).2.1
          · have hne' : es.length ≠ 0 := fun h0 => hne (List.eq_nil_of_length_eq_zero h0)
            obtain ⟨b, off, hab⟩ := hspot (by omega)
            exact ⟨b, off, by rw [hab], locs_of fun j p hj => (hes j p hj).2.2 b off hab⟩
      | struct fs =>
        simp only [hu, Bool.and_eq_true, List.all_eq_true, List.contains_iff_mem] at hc
        obtain ⟨hm, htile⟩ := hc
        obtain ⟨xs, n, hf, rfl, hlen, hxs, hg⟩ := DataW.trod_struct hu h
        injection hf with hf; subst hf
        rw [← hlen] at htile
        obtain ⟨ps, p1, p2, p3⟩ := tile_open (M := whole W hW) (S := Shp P fuel) (cs := cs) (off := 0) htile fun y hy => by
          have hp : parts P t = fs.toList.map fun f => (f.offset, f.type) := by unfold parts; rw [hu]
          obtain ⟨f, hf, hfe⟩ := List.mem_map.1 (hp ▸ hy)
          obtain ⟨i, hi⟩ := List.mem_iff_getElem?.1 hf
          have hi' : fs[i]? = some f := by simpa using hi
          have hlt : i < xs.length := by rw [hxs]; exact (Array.getElem?_eq_some_iff.1 hi').1
          have hgi := hg i f hi'
          rw [List.getElem?_eq_getElem hlt] at hgi
          subst hfe
          obtain ⟨qs, q1, q2, q3, q4⟩ := ih f.type _ _ (hm _ hy) hgi fun k hk => hw k (by
            simp only [DataW.weights, hu]
            exact DataW.weights_mem_each (j := i) (t := f.type) (by rw [List.getElem?_map, hi]; rfl) (by rw [List.getElem?_map, List.getElem?_eq_getElem hlt]; rfl) k hk)
          exact ⟨qs, q1, q2, q4⟩
        rw [List.drop_zero] at p1 p2
        exact ⟨ps, ⟨by rw [reps_length p1, hlen], fun y hy => by have := p3 y hy; rwa [Nat.sub_zero] at this⟩, p1, hlen, p2⟩
      | array n e =>
        simp only [hu, Bool.and_eq_true, List.all_eq_true, List.contains_iff_mem] at hc
        obtain ⟨hm, htile⟩ := hc
        obtain ⟨xs, n', hf, rfl, hlen, hxs, hg⟩ := DataW.trod_array hu h
        injection hf with hf; subst hf
        rw [← hlen] at htile
        obtain ⟨ps, p1, p2, p3⟩ := tile_open (M := whole W hW) (S := Shp P fuel) (cs := cs) (off := 0) htile fun y hy => by
          have hp : parts P t = (List.range n).map fun i => (i * P.cellsOf e, e) := by unfold parts; rw [hu]
          obtain ⟨i, hi, hfe⟩ := List.mem_map.1 (hp ▸ hy)
          have hlt : i < n := List.mem_range.1 hi
          have hgi := hg i hlt
          rw [List.getElem?_eq_getElem (by omega)] at hgi
          subst hfe
          obtain ⟨qs, q1, q2, q3, q4⟩ := ih e _ _ (hm _ hy) hgi fun k hk => hw k (by
            simp only [DataW.weights, hu]
            exact weightsAll_memU (List.mem_map.2 ⟨_, List.getElem_mem (by omega), rfl⟩) hk)
          exact ⟨qs, q1, q2, q4⟩
        rw [List.drop_zero] at p1 p2
        exact ⟨ps, ⟨by rw [reps_length p1, hlen], fun y hy => by have := p3 y hy; rwa [Nat.sub_zero] at this⟩, p1, hlen, p2⟩
      | _ => simp only [hu] at hc; cases hc
/-- An argument that came in, as an abstract value. -/
theorem open_arg {l : List TypeId} (hl : closedB P l = true) {r : Reach} {b0 : Nat} {t : TypeId} {v : Value} {d : DataW H} {ps : List MemPlace} (ht : t ∈ l) (hv : Value.okWide P W r b0 t v) (h : DataW.Trod enc P W 0 (fun _ => true) true t v d ps) (hw : ∀ n, n ∈ d.weights P t → n ≤ reachBytes) :
    ∃ fuel qs, Shp P fuel t qs ∧ Rep (whole W hW) [] (elemP P t qs) v := by
  obtain ⟨fuel, hf⟩ := h
  obtain ⟨qs, h1, h2, h3, h4⟩ := open_any hl fuel t _ _ ht hf hw
  refine ⟨fuel, qs, h1, ?_⟩
  unfold elemP
  cases ha : aggT P t with
  | true =>
    have : ∃ cs, v = .agg cs := by
      unfold Value.okWide at hv
      unfold aggT at ha
      split at hv
      · obtain ⟨cs, h, _⟩ := hv; exact ⟨cs, h⟩
      · obtain ⟨cs, h, _⟩ := hv; exact ⟨cs, h⟩
      · rename_i n1 n2
        split at ha
        · rename_i fs hfs; exact absurd hfs (n1 fs)
        · rename_i a b hfs; exact absurd hfs (n2 a b)
        · cases ha
    obtain ⟨cs, rfl⟩ := this
    rw [if_pos rfl]
    exact rep_agg.2 ⟨cs, rfl, h2⟩
  | false =>
    obtain ⟨q, rfl, h5, h6, h7⟩ := shp_one h1 ha
    obtain ⟨u, us, hu, hq, hn⟩ := reps_cons.1 h2
    rw [reps_nil] at hn; subst hn
    simp only [Bool.false_eq_true, if_false, List.headD_cons]
    have : v.cells.toList = [v] ∨ ∃ cs, v = .agg cs := by cases v <;> first | exact .inr ⟨_, rfl⟩ | exact .inl rfl
    rcases this with h | ⟨cs, rfl⟩
    · rw [h] at hu; injection hu with hu; subst hu; exact hq
    · exfalso
      unfold Value.okWide at hv
      unfold aggT at ha
      split at hv
      · simp_all
      · simp_all
      · unfold Cell.okWide at hv
        split at hv <;> simp_all [Cell.ok]
end
end Go.Proofs.Ytmclnnpaephkpaa

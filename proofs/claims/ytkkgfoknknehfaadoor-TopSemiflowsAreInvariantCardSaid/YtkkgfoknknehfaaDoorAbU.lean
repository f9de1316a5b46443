/-
  Operations without their edges and places: the evaluator does not look at them.
  From contracts over worlds to contracts of the abstract evaluator, and back at the top of a statement.
-/
import Derived.Test.YtkkgfoknknehfaaDoorAbQ
import Derived.ProofKit
import Derived.SizedLaws
import Derived.Deep.Slices
import Derived.Deep.Fields
import Derived.ChangeArms
import Derived.OpenShut
import Derived.ChangeOld
namespace Go.Proofs.YtkkgfoknknehfaaDoor
set_option linter.unusedVariables false
set_option linter.unusedSimpArgs false
set_option linter.unnecessarySimpa false
set_option linter.unusedSectionVars false
open Go.RowKit
section
variable {E : AE} {ops : Array Oper} {K : ASt → Prop}
end
end Go.Proofs.YtkkgfoknknehfaaDoor
namespace Go.Proofs.YtkkgfoknknehfaaDoor
set_option linter.unusedVariables false
set_option linter.unusedSimpArgs false
set_option linter.unnecessarySimpa false
set_option linter.unusedSectionVars false
open Go.RowKit Go.ChangeShapes Go.WideShapes Go.ChangeAt
def whole0 (w : World) (b o : Nat) : Option Value := match w.cell? ⟨b, o, none⟩ with | some v => if v.oneCell' then some v else none | none => none
theorem whole0_some {w : World} {b o : Nat} {v : Value} : whole0 w b o = some v ↔ w.cell? ⟨b, o, none⟩ = some v ∧ v.oneCell' = true := by
 grind [whole0]
def GW (w : World) : Prop := ∃ m, ∀ b o v, Glob m b o = some v → whole0 w b o = some v
noncomputable def whole (w : World) (h : GW w) : Mem := ⟨Classical.choose h, whole0 w, Classical.choose_spec h⟩
theorem whole_some {w : World} {hw : GW w} {b o : Nat} {v : Value} : whole w hw b o = some v ↔ w.cell? ⟨b, o, none⟩ = some v ∧ v.oneCell' = true := whole0_some
theorem whole_mem (w : World) (hw : GW w) : memOK (whole w hw) w := fun _ _ _ h => whole_some.1 h
def news (M : Mem) (n : Nat) (w : World) : Mem := mkM M.m fun b o => if n ≤ b then whole0 w b o else M b o
theorem Ev.top {P : Program} {g : FuncId} {args : List PV} {r : PV} {w : World} {hw : GW w} {vals : Array Value} (h : Ev P g args [] r []) (ha : Reps (whole w hw) [] args vals.toList) :
 Calls P g vals w fun e w' => ∃ v M', e = .returned v ∧ Rep M' [] r v ∧ memOK M' w' ∧ Below w.heap.size w w' := by
 have h0 : ∀ w b, ownH w [] [] b = 0 := fun w b => by simp [ownH]
 refine (h.2 (fun _ => 0) (whole w hw) [] w vals (whole_mem w hw) ⟨rfl, fun i cs hi => by simp at hi⟩ (fun b => by rw [h0]; omega) (fun b _ => by rw [h0]) ha).mono fun e w' he => ?_
 obtain ⟨v, M', B', rfl, hP⟩ := he
 have hB' : B' = [] := List.eq_nil_of_length_eq_zero (by have := hP.heap.1; simp_all)
 subst hB'
 exact ⟨v, M', rfl, hP.rep, hP.mem, hP.fr.os, hP.fr.tape, hP.fr.output, hP.fr.size, fun k hk => (hP.fr.blk k hk (h0 w k)).1⟩
def aggT (P : Program) (t : TypeId) : Bool := match P.underlying t with | some (.struct _) | some (.array ..) => true | _ => false
def elemP (P : Program) (t : TypeId) (qs : List PV) : PV := if aggT P t then .agg qs else qs.headD .nilp
def parts (P : Program) (t : TypeId) : List (Nat × TypeId) := match P.underlying t with
 | some (.struct fs) => fs.toList.map fun f => (f.offset, f.type)
 | some (.array n e) => (List.range n).map fun i => (i * P.cellsOf e, e)
 | _ => []
def Shp (P : Program) : Nat → TypeId → List PV → Prop
 | 0, _, _ => False
 | fuel + 1, t, ps => match P.underlying t with
  | some .bool => ∃ b, ps = [.bool b]
  | some (.int k) => ∃ n, ps = [.int k n] ∧ (Lit.int k n).wf = true
  | some .string => ∃ s : ByteArray, ps = [.str s] ∧ s.size ≤ reachBytes
  | some (.slice e) => ∃ es : List PV, ps = [.sl false (P.cellsOf e) es] ∧ es.length * P.bytesOf e ≤ reachBytes ∧ ∀ p, p ∈ es → ∃ qs, Shp P fuel e qs ∧ p = elemP P e qs
  | some (.struct _) | some (.array ..) => ps.length = P.cellsOf t ∧ ∀ x, x ∈ parts P t → Shp P fuel x.2 ((ps.drop x.1).take (P.cellsOf x.2))
  | _ => False
def tileB (P : Program) (total : Nat) : Nat → List (Nat × TypeId) → Bool
 | off, [] => off == total
 | off, x :: l => x.1 == off && tileB P total (off + P.cellsOf x.2) l
def closedB (P : Program) (l : List TypeId) : Bool := l.all fun t => match P.underlying t with
 | some .bool => P.cellsOf t == 1
 | some (.int _) => P.cellsOf t == 1
 | some .string => P.cellsOf t == 1
 | some (.slice e) => l.contains e && decide (0 < P.cellsOf e) && P.cellsOf t == 1
 | some (.struct _) => (parts P t).all (fun x => l.contains x.2) && tileB P (P.cellsOf t) 0 (parts P t)
 | some (.array ..) => (parts P t).all (fun x => l.contains x.2) && tileB P (P.cellsOf t) 0 (parts P t)
 | _ => false
theorem reps_app {M : Mem} {B : Blk} : ∀ {ps qs : List PV} {us vs : List Value}, Reps M B ps us → Reps M B qs vs → Reps M B (ps ++ qs) (us ++ vs)
 | [], qs, us, vs, h, k => by rw [reps_nil] at h; simp_all
 | p :: ps, qs, us, vs, h, k => by
  obtain ⟨u, us', rfl, h1, h2⟩ := reps_cons.1 h
  exact reps_cons.2 ⟨u, us' ++ vs, rfl, h1, reps_app h2 k⟩
theorem tile_le {P : Program} {total : Nat} : ∀ {l : List (Nat × TypeId)} {off : Nat}, tileB P total off l = true → off ≤ total ∧ ∀ x, x ∈ l → off ≤ x.1
 | [], off, h => by grind [tileB]
 | x :: l, off, h => by
  simp only [tileB, Bool.and_eq_true, beq_iff_eq] at h
  obtain ⟨h1, h2⟩ := tile_le h.2
  grind
theorem tile_open {P : Program} {M : Mem} {S : TypeId → List PV → Prop} {cs : List Value} : ∀ {l : List (Nat × TypeId)} {off : Nat}, tileB P cs.length off l = true →
 (∀ x, x ∈ l → ∃ qs, S x.2 qs ∧ Reps M [] qs ((cs.drop x.1).take (P.cellsOf x.2)) ∧ ∀ v, v ∈ (cs.drop x.1).take (P.cellsOf x.2) → v.oneCell' = true) → ∃ ps, Reps M [] ps (cs.drop off) ∧ (∀ v, v ∈ cs.drop off → v.oneCell' = true) ∧ ∀ x, x ∈ l → S x.2 ((ps.drop (x.1 - off)).take (P.cellsOf x.2))
 | [], off, h, _ => by
  simp [tileB] at h; subst h
  exact ⟨[], by rw [List.drop_length]; exact reps_nil.2 rfl, by simp, by simp⟩
 | x :: l, off, h, hx => by
  simp only [tileB, Bool.and_eq_true, beq_iff_eq] at h
  obtain ⟨e, ht⟩ := h
  subst e
  obtain ⟨hle, hge⟩ := tile_le ht
  obtain ⟨qs, hq, hr, ho⟩ := hx x (by simp)
  obtain ⟨ps, hp, ho', hs⟩ := tile_open ht fun y hy => hx y (by simp [hy])
  have hlen : qs.length = P.cellsOf x.2 := by rw [reps_length hr, List.length_take, List.length_drop]; omega
  refine ⟨qs ++ ps, ?_, fun v hv => ?_, fun y hy => ?_⟩
  grind [reps_app, List.drop_drop, List.take_append_drop]
  grind [List.take_append_drop, List.drop_drop]
  ·rcases List.mem_cons.1 hy with rfl | hy
   simp_all
   grind [List.drop_append, List.drop_eq_nil_of_le]
theorem weightsAll_memU {H : Type} {P : Program} {e : TypeId} : ∀ {ds : List (DataW H)} {d : DataW H} {n : Nat}, d ∈ ds → n ∈ d.weights P e → n ∈ DataW.weightsAll P e ds
 | d0 :: ds, d, n, hd, hn => by
  rw [DataW.weightsAll, List.mem_append]
  rcases List.mem_cons.1 hd with rfl | hd
  ·exact .inl hn
  ·exact .inr (weightsAll_memU hd hn)
theorem list_choose {α : Type} {R : Nat → α → Prop} : ∀ n : Nat, (∀ j, j < n → ∃ p, R j p) → ∃ l : List α, l.length = n ∧ ∀ (j : Nat) p, l[j]? = some p → R j p
 | 0, _ => ⟨[], rfl, by simp⟩
 | n + 1, h => by
  obtain ⟨l, hl, hr⟩ := list_choose n fun j hj => h j (by omega)
  obtain ⟨p, hp⟩ := h n (by omega)
  refine ⟨l ++ [p], by simp [hl], fun j q hq => ?_⟩
  grind
theorem shp_one {P : Program} {fuel : Nat} {t : TypeId} {ps : List PV} (h : Shp P fuel t ps) (ha : aggT P t = false) : ∃ q, ps = [q] ∧ q.isAgg = false ∧ (∀ cs, q ≠ .tuple cs) ∧ q.size = 1 := by
 cases fuel with
 | zero => exact h.elim
 | succ fuel =>
  unfold Shp at h
  unfold aggT at ha
  split at h
  ·obtain ⟨b, rfl⟩ := h; simp
  ·obtain ⟨b, rfl, _⟩ := h; simp
  ·obtain ⟨b, rfl, _⟩ := h; simp
  ·obtain ⟨b, rfl, _⟩ := h; simp
  ·simp_all
  ·simp_all
  simp_all
section
variable {H : Type} {enc : TypeId × Value → H} {W : World} {hW : GW W} {P : Program}
theorem elem_loc {fuel : Nat} {e : TypeId} {ps : List PV} {cs : List Value} (hs : Shp P fuel e ps) (hr : Reps (whole W hW) [] ps cs) (hl : cs.length = P.cellsOf e) (ho : ∀ v, v ∈ cs → v.oneCell' = true) :
 (elemP P e ps).size = P.cellsOf e ∧ ∀ b off, (∀ i, i < cs.length → W.cell? ⟨b, off + i, none⟩ = cs[i]?) → Loc (whole W hW) [] (elemP P e ps) b off := by
 unfold elemP
 have hlen := reps_length hr
 cases ha : aggT P e with
 | true =>
  refine ⟨by simp_all, fun b off h => loc_agg.2 (cells_of fun j p hp => ?_)⟩
  obtain ⟨u, hu, hru⟩ := reps_get hr hp
  exact ⟨u, whole_some.2 ⟨(h j (List.getElem?_eq_some_iff.1 hu).1).trans hu, ho u (List.mem_of_getElem? hu)⟩, hru⟩
 | false =>
  obtain ⟨q, rfl, h1, h2, h3⟩ := shp_one hs ha
  have hc1 : cs.length = 1 := by rw [← hlen]; rfl
  refine ⟨by simp_all, fun b off h => (loc_one h1 h2).2 ?_⟩
  obtain ⟨u, hu, hru⟩ := reps_get hr (j := 0) (p := q) rfl
  exact ⟨u, whole_some.2 ⟨(h 0 (by omega)).trans hu, ho u (List.mem_of_getElem? hu)⟩, hru⟩
theorem addr_addU (b off n : Nat) : (⟨b, off, none⟩ : Addr).add n = ⟨b, off + n, none⟩ := by
 grind [Addr.add]
theorem open_any {l : List TypeId} (hl : closedB P l = true) : ∀ (fuel : Nat) (t : TypeId) (cs : List Value) (x : DataW H × List MemPlace), t ∈ l → DataW.trod enc P W 0 (fun _ => true) true fuel t cs = some x → (∀ n, n ∈ x.1.weights P t → n ≤ reachBytes) →
 ∃ ps, Shp P fuel t ps ∧ Reps (whole W hW) [] ps cs ∧ cs.length = P.cellsOf t ∧ ∀ v, v ∈ cs → v.oneCell' = true := by
 intro fuel
 induction fuel with
 | zero => intro t cs x _ h; simp [DataW.trod] at h
 | succ fuel ih =>
  intro t cs x ht h hw
  have hc := List.all_eq_true.1 hl t ht
  simp only [Shp]
  cases hu : P.underlying t with
  | none => rw [hu] at hc; cases hc
  | some ty =>
   cases ty with
   | bool =>
    simp only [hu] at hc
    obtain ⟨b, rfl, _⟩ := DataW.trod_bool hu h
    exact ⟨[.bool b], ⟨b, rfl⟩, reps_cons.2 ⟨_, _, rfl, rep_bool.2 rfl, reps_nil.2 rfl⟩, (eq_of_beq hc).symm, by simp_all⟩
   | int k =>
    simp only [hu] at hc
    obtain ⟨n, rfl, _, hn⟩ := DataW.trod_int hu h
    exact ⟨[.int k n], ⟨n, rfl, hn⟩, reps_cons.2 ⟨_, _, rfl, rep_int.2 rfl, reps_nil.2 rfl⟩, (eq_of_beq hc).symm, by simp_all⟩
   | string =>
    simp only [hu] at hc
    obtain ⟨s, rfl, rfl, hn⟩ := DataW.trod_string hu h
    exact ⟨[.str s], ⟨s, rfl, by have := hw s.size (by simp [DataW.weights]); exact this⟩, reps_cons.2 ⟨_, _, rfl, rep_str.2 rfl, reps_nil.2 rfl⟩, (eq_of_beq hc).symm, by simp_all⟩
   | slice e =>
    simp only [hu, Bool.and_eq_true, decide_eq_true_eq, beq_iff_eq, List.contains_iff_mem] at hc
    obtain ⟨⟨he, hpos⟩, h1⟩ := hc
    rcases DataW.trod_slice hu h with ⟨rfl, rfl⟩ | ⟨a, len, cap, elems, rest, n', hf, rfl, rfl, _, hle, _, hel, hall, hsp, _⟩
    ·exact ⟨[.sl false (P.cellsOf e) []], ⟨[], rfl, by simp, by simp⟩, reps_cons.2 ⟨_, _, rfl, rep_sl.2 ⟨none, 0, rfl, Nat.le_refl _, by simp, fun _ => ⟨rfl, rfl, rfl⟩, by simp⟩, reps_nil.2 rfl⟩, h1.symm, by simp_all⟩
    ·injection hf with hf; subst hf
     have hwt : ∀ k, k ∈ (DataW.slice (elems.map (·.1)) (rest.map (·.1)) : DataW H).weights P t → k ≤ reachBytes := hw
     have hw0 : len * P.bytesOf e ≤ reachBytes := by
      have := hwt ((elems.length + rest.length) * P.bytesOf e) (by simp [DataW.weights, hu])
      grind
     have hone : ∀ j, j < len → ∃ p, (∃ qs, Shp P fuel e qs ∧ p = elemP P e qs) ∧ p.size = P.cellsOf e ∧ ∀ b off, a = ⟨b, off, none⟩ → Loc (whole W hW) [] p b (off + j * P.cellsOf e) := by
      intro j hj
      have hjj := hall j hj
      rw [List.getElem?_eq_getElem (by omega)] at hjj
      obtain ⟨cs', hc', ht'⟩ := Option.bind_eq_some_iff.1 hjj
      obtain ⟨qs, q1, q2, q3, q4⟩ := ih e cs' _ he ht' fun k hk => hwt k (by
       simp only [DataW.weights, hu, List.mem_cons, List.mem_append]
       exact .inr (.inl (weightsAll_memU (List.mem_map.2 ⟨_, List.getElem_mem (by omega), rfl⟩) hk)))
      obtain ⟨s1, s2⟩ := elem_loc q1 q2 q3 q4
      refine ⟨_, ⟨qs, q1, rfl⟩, s1, fun b off hab => s2 b _ fun i hi => ?_⟩
      obtain ⟨_, _, hcell⟩ := World.cells?_some hc'
      have := hcell i (by omega)
      rw [hab, addr_addU, addr_addU] at this
      exact this
     have hspot : cap ≠ 0 → ∃ b off, a = ⟨b, off, none⟩ := fun hcap => by
      have key : ∀ k cs', k = 0 → W.cells? 0 (a.add k) (P.cellsOf e) = some cs' → a.spot = none := fun k cs' hk hc' => by
       subst hk
       obtain ⟨_, h2, hcell⟩ := World.cells?_some hc'
       have := hcell 0 hpos
       rw [List.getElem?_eq_getElem (by omega)] at this
       grind [Addr.add, World.cell?_spot]
      have : a.spot = none := by
       by_cases h0 : 0 < len
       ·have hjj := hall 0 h0
        rw [List.getElem?_eq_getElem (by omega)] at hjj
        obtain ⟨cs', hc', _⟩ := Option.bind_eq_some_iff.1 hjj
        simp_all
       ·obtain ⟨r1, r2⟩ := hsp rfl
        have hjj := r2 0 (by omega)
        rw [List.getElem?_eq_getElem (by omega)] at hjj
        obtain ⟨cs', hc', _⟩ := Option.bind_eq_some_iff.1 hjj
        grind
      exact ⟨a.block, a.off, by cases a; simp_all⟩
     obtain ⟨es, hlen, hes⟩ := list_choose len hone
     subst hlen
     refine ⟨[.sl false (P.cellsOf e) es], ⟨es, rfl, hw0, fun p hp => ?_⟩, reps_cons.2 ⟨_, _, rfl, rep_sl.2 ⟨some a, cap, rfl, hle, fun p hp => ?_, fun h0 => by omega, fun hne => ?_⟩, reps_nil.2 rfl⟩, h1.symm, by simp_all⟩
     ·obtain ⟨j, hj⟩ := List.mem_iff_getElem?.1 hp
      grind
     ·obtain ⟨j, hj⟩ := List.mem_iff_getElem?.1 hp
      grind
     ·have hne' : es.length ≠ 0 := fun h0 => hne (List.eq_nil_of_length_eq_zero h0)
      grind [locs_of]
   | struct fs =>
    simp only [hu, Bool.and_eq_true, List.all_eq_true, List.contains_iff_mem] at hc
    obtain ⟨hm, htile⟩ := hc
    obtain ⟨xs, n, hf, rfl, hlen, hxs, hg⟩ := DataW.trod_struct hu h
    injection hf with hf; subst hf
    rw [← hlen] at htile
    obtain ⟨ps, p1, p2, p3⟩ := tile_open (M := whole W hW) (S := Shp P fuel) (cs := cs) (off := 0) htile fun y hy => by
     have hp : parts P t = fs.toList.map fun f => (f.offset, f.type) := by unfold parts; rw [hu]
     obtain ⟨f, hf, hfe⟩ := List.mem_map.1 (hp ▸ hy)
     obtain ⟨i, hi⟩ := List.mem_iff_getElem?.1 hf
     have hi' : fs[i]? = some f := by grind
     have hlt : i < xs.length := by rw [hxs]; grind
     have hgi := hg i f hi'
     rw [List.getElem?_eq_getElem hlt] at hgi
     subst hfe
     obtain ⟨qs, q1, q2, q3, q4⟩ := ih f.type _ _ (hm _ hy) hgi fun k hk => hw k (by
      simp only [DataW.weights, hu]
      exact DataW.weights_mem_each (j := i) (t := f.type) (by rw [List.getElem?_map, hi]; rfl) (by rw [List.getElem?_map, List.getElem?_eq_getElem hlt]; rfl) k hk)
     grind
    rw [List.drop_zero] at p1 p2
    grind [reps_length]
   | array n e =>
    simp only [hu, Bool.and_eq_true, List.all_eq_true, List.contains_iff_mem] at hc
    obtain ⟨hm, htile⟩ := hc
    obtain ⟨xs, n', hf, rfl, hlen, hxs, hg⟩ := DataW.trod_array hu h
    injection hf with hf; subst hf
    rw [← hlen] at htile
    obtain ⟨ps, p1, p2, p3⟩ := tile_open (M := whole W hW) (S := Shp P fuel) (cs := cs) (off := 0) htile fun y hy => by
     have hp : parts P t = (List.range n).map fun i => (i * P.cellsOf e, e) := by unfold parts; rw [hu]
     obtain ⟨i, hi, hfe⟩ := List.mem_map.1 (hp ▸ hy)
     have hlt : i < n := List.mem_range.1 hi
     have hgi := hg i hlt
     rw [List.getElem?_eq_getElem (by omega)] at hgi
     subst hfe
     obtain ⟨qs, q1, q2, q3, q4⟩ := ih e _ _ (hm _ hy) hgi fun k hk => hw k (by
      simp only [DataW.weights, hu]
      exact weightsAll_memU (List.mem_map.2 ⟨_, List.getElem_mem (by omega), rfl⟩) hk)
     grind
    rw [List.drop_zero] at p1 p2
    grind [reps_length]
   | _ => simp only [hu] at hc; cases hc
theorem open_arg {l : List TypeId} (hl : closedB P l = true) {r : Reach} {b0 : Nat} {t : TypeId} {v : Value} {d : DataW H} {ps : List MemPlace} (ht : t ∈ l) (hv : Value.okWide P W r b0 t v) (h : DataW.Trod enc P W 0 (fun _ => true) true t v d ps) (hw : ∀ n, n ∈ d.weights P t → n ≤ reachBytes) :
 ∃ fuel qs, Shp P fuel t qs ∧ Rep (whole W hW) [] (elemP P t qs) v := by
 obtain ⟨fuel, hf⟩ := h
 obtain ⟨qs, h1, h2, h3, h4⟩ := open_any hl fuel t _ _ ht hf hw
 refine ⟨fuel, qs, h1, ?_⟩
 unfold elemP
 cases ha : aggT P t with
 | true =>
  have : ∃ cs, v = .agg cs := by
   grind [Value.okWide, aggT]
  obtain ⟨cs, rfl⟩ := this
  rw [if_pos rfl]
  exact rep_agg.2 ⟨cs, rfl, h2⟩
 | false =>
  obtain ⟨q, rfl, h5, h6, h7⟩ := shp_one h1 ha
  obtain ⟨u, us, hu, hq, hn⟩ := reps_cons.1 h2
  rw [reps_nil] at hn; subst hn
  simp only [Bool.false_eq_true, if_false, List.headD_cons]
  have : v.cells.toList = [v] ∨ ∃ cs, v = .agg cs := by cases v <;> first | exact .inr ⟨_, rfl⟩ | exact .inl rfl
  rcases this with h | ⟨cs, rfl⟩
  simp_all
  ·exfalso
   unfold Value.okWide at hv
   unfold aggT at ha
   split at hv
   ·simp_all
   ·simp_all
   ·unfold Cell.okWide at hv
    split at hv <;> simp_all [Cell.ok]
end
end Go.Proofs.YtkkgfoknknehfaaDoor

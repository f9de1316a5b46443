/-
  The arguments: a shape and bytes; a world for the witness; the table of powers of ten in every world that the row speaks of.
-/
import Derived.Test.YtkkgfoknknehfaaDoorCT17
import Derived.Test.YtkkgfoknknehfaaDoorAbU
import Derived.ProofKit
import Derived.SizedLaws
import Derived.ChangeArms
import Derived.OpenShut
import Derived.ChangeOld
import Derived.Deep.DeepHandedRow
import Derived.Lib.LaidTab
import Derived.Test.YtkkgfoknknehfaaDoorRows
import Derived.Test.YtkkgfoknknehfaaDoorCards
import Derived.Test.YtkkgfoknknehfaaDoorTie
import Derived.Stop.LaidErr
import Derived.JoinedOf
namespace Go.Proofs.YtkkgfoknknehfaaDoor
set_option linter.unusedVariables false
set_option linter.unusedSimpArgs false
set_option linter.unnecessarySimpa false
set_option linter.unusedSectionVars false
open Go.RowKit Go.ChangeShapes Go.WideShapes Go.ChangeAt
set_option maxRecDepth 100000
theorem own14 : ownKnob Tryd.prog.godebug = none := by kernel_rfl
theorem laidOut14 : laidOutB Tryd.prog = true := by kernel_rfl
theorem mixedT : Tryd.prog.follows .mixedOrders = true := by kernel_rfl
theorem ev_of {g : FuncId} {args : List PV} {r : PV} (h : W.SS.CC g args [] = some (r, [])) : Ev Tryd.prog g args [] r [] :=
  CC_sound mixedT W.SS_ok CS_ok g args [] r [] h
theorem reps0 {M : Mem} {B : Blk} : Reps M B [] [] := reps_nil.2 rfl
theorem repsC {M : Mem} {B : Blk} {p : PV} {ps : List PV} {u : Value} {us : List Value} (h : Rep M B p u) (h2 : Reps M B ps us) : Reps M B (p :: ps) (u :: us) := reps_cons.2 ⟨u, us, rfl, h, h2⟩
/-! ### types -/
def cover14 : List TypeId := [5, 26, 22, 23, 25]
theorem cover14_ok : closedB Tryd.prog cover14 = true := by kernel_rfl
theorem clU : Tryd.prog.cellsOf 5 = 1 := by kernel_rfl
theorem clU5 : Tryd.prog.cellsOf 22 = 5 := by kernel_rfl
theorem clU25 : Tryd.prog.cellsOf 23 = 25 := by kernel_rfl
theorem clSh : Tryd.prog.cellsOf 25 = 37 := by kernel_rfl
theorem partsU5 : parts Tryd.prog 22 = [(0, 5), (1, 5), (2, 5), (3, 5), (4, 5)] := by kernel_rfl
theorem partsU25 : parts Tryd.prog 23 = [(0, 22), (5, 22), (10, 22), (15, 22), (20, 22)] := by kernel_rfl
theorem partsSh : parts Tryd.prog 25 = [(0, 5), (1, 5), (2, 22), (7, 22), (12, 23)] := by kernel_rfl
theorem agSh : aggT Tryd.prog 25 = true := by kernel_rfl
theorem agU : aggT Tryd.prog 5 = false := by kernel_rfl
theorem agBs : aggT Tryd.prog 26 = false := by kernel_rfl
/-- A byte. -/
def Byt (p : PV) : Prop := ∃ v : Int, p = .int .u8 v ∧ 0 ≤ v ∧ v ≤ 255
theorem shp_u8 {fuel : Nat} {ps : List PV} (h : Shp Tryd.prog fuel 5 ps) : ∃ p, ps = [p] ∧ Byt p := by
  cases fuel with
  | zero => exact h.elim
  | succ fuel =>
    simp only [Shp, Tryd.underlying5] at h
    obtain ⟨n, rfl, hn⟩ := h
    simp [Lit.wf, IntKind.min, IntKind.max, IntKind.signed, IntKind.bits] at hn
    exact ⟨_, rfl, n, rfl, by omega, by omega⟩
theorem shS_arr {t : TypeId} {a : _} {b : _} {k : Nat} {l : List (Nat × TypeId)} (hu : Tryd.prog.underlying t = some (.array a b)) (hp : parts Tryd.prog t = l) (hk : Tryd.prog.cellsOf t = k) {fuel : Nat} {ps : List PV} (h : Shp Tryd.prog fuel t ps) :
    ps.length = k ∧ ∃ fuel', ∀ x, x ∈ l → Shp Tryd.prog fuel' x.2 ((ps.drop x.1).take (Tryd.prog.cellsOf x.2)) := by
  cases fuel with
  | zero => exact h.elim
  | succ fuel =>
    simp only [Shp, hu, hp, hk] at h
    exact ⟨h.1, fuel, h.2⟩
theorem shS_str {t : TypeId} {a : _} {k : Nat} {l : List (Nat × TypeId)} (hu : Tryd.prog.underlying t = some (.struct a)) (hp : parts Tryd.prog t = l) (hk : Tryd.prog.cellsOf t = k) {fuel : Nat} {ps : List PV} (h : Shp Tryd.prog fuel t ps) :
    ps.length = k ∧ ∃ fuel', ∀ x, x ∈ l → Shp Tryd.prog fuel' x.2 ((ps.drop x.1).take (Tryd.prog.cellsOf x.2)) := by
  cases fuel with
  | zero => exact h.elim
  | succ fuel =>
    simp only [Shp, hu, hp, hk] at h
    exact ⟨h.1, fuel, h.2⟩
theorem mem_cut {l : List PV} {i : Nat} {p : PV} (h : l[i]? = some p) {o n : Nat} (h1 : o ≤ i) (h2 : i < o + n) : p ∈ (l.drop o).take n := by
  refine List.mem_of_getElem? (i := i - o) ?_
  rw [List.getElem?_take, if_pos (by omega), List.getElem?_drop, show o + (i - o) = i by omega, h]
theorem all_u8 {fuel : Nat} {l : List PV} {o : Nat} (h : Shp Tryd.prog fuel 5 ((l.drop o).take (Tryd.prog.cellsOf 5))) {p : PV} (hp : l[o]? = some p) : Byt p := by
  rw [clU] at h
  obtain ⟨x, e, hx⟩ := shp_u8 h
  have := mem_cut hp (Nat.le_refl o) (show o < o + 1 by omega)
  rw [e, List.mem_singleton] at this
  rw [this]; exact hx
theorem all_u5 {fuel : Nat} {ps : List PV} (h : Shp Tryd.prog fuel 22 ps) : ∀ p, p ∈ ps → Byt p := by
  obtain ⟨hl, f, h⟩ := shS_arr Tryd.underlying22 partsU5 clU5 h
  intro p hp
  obtain ⟨i, hi⟩ := List.mem_iff_getElem?.1 hp
  have hi5 := (List.getElem?_eq_some_iff.1 hi).1
  have : i = 0 ∨ i = 1 ∨ i = 2 ∨ i = 3 ∨ i = 4 := by omega
  rcases this with rfl | rfl | rfl | rfl | rfl
  · exact all_u8 (h (0, 5) (by simp)) hi
  · exact all_u8 (h (1, 5) (by simp)) hi
  · exact all_u8 (h (2, 5) (by simp)) hi
  · exact all_u8 (h (3, 5) (by simp)) hi
  · exact all_u8 (h (4, 5) (by simp)) hi
theorem cut_u5 {fuel : Nat} {l : List PV} {o : Nat} (h : Shp Tryd.prog fuel 22 ((l.drop o).take (Tryd.prog.cellsOf 22))) {i : Nat} {p : PV} (hp : l[i]? = some p) (h1 : o ≤ i) (h2 : i < o + 5) : Byt p := by
  rw [clU5] at h
  exact all_u5 h p (mem_cut hp h1 h2)
theorem all_u25 {fuel : Nat} {ps : List PV} (h : Shp Tryd.prog fuel 23 ps) : ∀ p, p ∈ ps → Byt p := by
  obtain ⟨hl, f, h⟩ := shS_arr Tryd.underlying23 partsU25 clU25 h
  intro p hp
  obtain ⟨i, hi⟩ := List.mem_iff_getElem?.1 hp
  have hi5 := (List.getElem?_eq_some_iff.1 hi).1
  have : i < 5 ∨ (5 ≤ i ∧ i < 10) ∨ (10 ≤ i ∧ i < 15) ∨ (15 ≤ i ∧ i < 20) ∨ (20 ≤ i ∧ i < 25) := by omega
  rcases this with e | e | e | e | e
  · exact cut_u5 (h (0, 22) (by simp)) hi (by omega) (by omega)
  · exact cut_u5 (h (5, 22) (by simp)) hi (by omega) (by omega)
  · exact cut_u5 (h (10, 22) (by simp)) hi (by omega) (by omega)
  · exact cut_u5 (h (15, 22) (by simp)) hi (by omega) (by omega)
  · exact cut_u5 (h (20, 22) (by simp)) hi (by omega) (by omega)
theorem all_sh {fuel : Nat} {ps : List PV} (h : Shp Tryd.prog fuel 25 ps) : ps.length = 37 ∧ ∀ p, p ∈ ps → Byt p := by
  obtain ⟨hl, f, h⟩ := shS_str Tryd.underlying25 partsSh clSh h
  refine ⟨hl, fun p hp => ?_⟩
  obtain ⟨i, hi⟩ := List.mem_iff_getElem?.1 hp
  have hi5 := (List.getElem?_eq_some_iff.1 hi).1
  have : i = 0 ∨ i = 1 ∨ (2 ≤ i ∧ i < 7) ∨ (7 ≤ i ∧ i < 12) ∨ (12 ≤ i ∧ i < 37) := by omega
  rcases this with rfl | rfl | e | e | e
  · exact all_u8 (h (0, 5) (by simp)) hi
  · exact all_u8 (h (1, 5) (by simp)) hi
  · exact cut_u5 (h (2, 22) (by simp)) hi (by omega) (by omega)
  · exact cut_u5 (h (7, 22) (by simp)) hi (by omega) (by omega)
  · have h4 := h (12, 23) (by simp)
    dsimp only at h4
    rw [clU25] at h4
    exact all_u25 h4 p (mem_cut hi (by omega) (by omega))
theorem cons_ofS {n : Nat} {ps : List PV} (h : ps.length = n + 1) : ∃ a qs, ps = a :: qs ∧ qs.length = n := by
  match ps, h with
  | a :: qs, h => exact ⟨a, qs, rfl, by simpa using h⟩
theorem shp_Sh {fuel : Nat} {ps : List PV} (h : Shp Tryd.prog fuel 25 ps) : ∃ q : Sh.V W.S1, elemP Tryd.prog 25 ps = W.A1 q ∧ W.U8 q := by
  obtain ⟨hl, hu⟩ := all_sh h
  have he : elemP Tryd.prog 25 ps = .agg ps := by unfold elemP; rw [agSh]; rfl
  rw [he]
  clear he h
  obtain ⟨a0, q0, rfl, l0⟩ := cons_ofS hl
  obtain ⟨a1, q1, rfl, l1⟩ := cons_ofS l0
  obtain ⟨a2, q2, rfl, l2⟩ := cons_ofS l1
  obtain ⟨a3, q3, rfl, l3⟩ := cons_ofS l2
  obtain ⟨a4, q4, rfl, l4⟩ := cons_ofS l3
  obtain ⟨a5, q5, rfl, l5⟩ := cons_ofS l4
  obtain ⟨a6, q6, rfl, l6⟩ := cons_ofS l5
  obtain ⟨a7, q7, rfl, l7⟩ := cons_ofS l6
  obtain ⟨a8, q8, rfl, l8⟩ := cons_ofS l7
  obtain ⟨a9, q9, rfl, l9⟩ := cons_ofS l8
  obtain ⟨a10, q10, rfl, l10⟩ := cons_ofS l9
  obtain ⟨a11, q11, rfl, l11⟩ := cons_ofS l10
  obtain ⟨a12, q12, rfl, l12⟩ := cons_ofS l11
  obtain ⟨a13, q13, rfl, l13⟩ := cons_ofS l12
  obtain ⟨a14, q14, rfl, l14⟩ := cons_ofS l13
  obtain ⟨a15, q15, rfl, l15⟩ := cons_ofS l14
  obtain ⟨a16, q16, rfl, l16⟩ := cons_ofS l15
  obtain ⟨a17, q17, rfl, l17⟩ := cons_ofS l16
  obtain ⟨a18, q18, rfl, l18⟩ := cons_ofS l17
  obtain ⟨a19, q19, rfl, l19⟩ := cons_ofS l18
  obtain ⟨a20, q20, rfl, l20⟩ := cons_ofS l19
  obtain ⟨a21, q21, rfl, l21⟩ := cons_ofS l20
  obtain ⟨a22, q22, rfl, l22⟩ := cons_ofS l21
  obtain ⟨a23, q23, rfl, l23⟩ := cons_ofS l22
  obtain ⟨a24, q24, rfl, l24⟩ := cons_ofS l23
  obtain ⟨a25, q25, rfl, l25⟩ := cons_ofS l24
  obtain ⟨a26, q26, rfl, l26⟩ := cons_ofS l25
  obtain ⟨a27, q27, rfl, l27⟩ := cons_ofS l26
  obtain ⟨a28, q28, rfl, l28⟩ := cons_ofS l27
  obtain ⟨a29, q29, rfl, l29⟩ := cons_ofS l28
  obtain ⟨a30, q30, rfl, l30⟩ := cons_ofS l29
  obtain ⟨a31, q31, rfl, l31⟩ := cons_ofS l30
  obtain ⟨a32, q32, rfl, l32⟩ := cons_ofS l31
  obtain ⟨a33, q33, rfl, l33⟩ := cons_ofS l32
  obtain ⟨a34, q34, rfl, l34⟩ := cons_ofS l33
  obtain ⟨a35, q35, rfl, l35⟩ := cons_ofS l34
  obtain ⟨a36, q36, rfl, l36⟩ := cons_ofS l35
  obtain rfl := List.eq_nil_of_length_eq_zero l36
  obtain ⟨v0, rfl, _⟩ := hu a0 (by simp)
  obtain ⟨v1, rfl, _⟩ := hu a1 (by simp)
  obtain ⟨v2, rfl, _⟩ := hu a2 (by simp)
  obtain ⟨v3, rfl, _⟩ := hu a3 (by simp)
  obtain ⟨v4, rfl, _⟩ := hu a4 (by simp)
  obtain ⟨v5, rfl, _⟩ := hu a5 (by simp)
  obtain ⟨v6, rfl, _⟩ := hu a6 (by simp)
  obtain ⟨v7, rfl, _⟩ := hu a7 (by simp)
  obtain ⟨v8, rfl, _⟩ := hu a8 (by simp)
  obtain ⟨v9, rfl, _⟩ := hu a9 (by simp)
  obtain ⟨v10, rfl, _⟩ := hu a10 (by simp)
  obtain ⟨v11, rfl, _⟩ := hu a11 (by simp)
  obtain ⟨v12, rfl, _⟩ := hu a12 (by simp)
  obtain ⟨v13, rfl, _⟩ := hu a13 (by simp)
  obtain ⟨v14, rfl, _⟩ := hu a14 (by simp)
  obtain ⟨v15, rfl, _⟩ := hu a15 (by simp)
  obtain ⟨v16, rfl, _⟩ := hu a16 (by simp)
  obtain ⟨v17, rfl, _⟩ := hu a17 (by simp)
  obtain ⟨v18, rfl, _⟩ := hu a18 (by simp)
  obtain ⟨v19, rfl, _⟩ := hu a19 (by simp)
  obtain ⟨v20, rfl, _⟩ := hu a20 (by simp)
  obtain ⟨v21, rfl, _⟩ := hu a21 (by simp)
  obtain ⟨v22, rfl, _⟩ := hu a22 (by simp)
  obtain ⟨v23, rfl, _⟩ := hu a23 (by simp)
  obtain ⟨v24, rfl, _⟩ := hu a24 (by simp)
  obtain ⟨v25, rfl, _⟩ := hu a25 (by simp)
  obtain ⟨v26, rfl, _⟩ := hu a26 (by simp)
  obtain ⟨v27, rfl, _⟩ := hu a27 (by simp)
  obtain ⟨v28, rfl, _⟩ := hu a28 (by simp)
  obtain ⟨v29, rfl, _⟩ := hu a29 (by simp)
  obtain ⟨v30, rfl, _⟩ := hu a30 (by simp)
  obtain ⟨v31, rfl, _⟩ := hu a31 (by simp)
  obtain ⟨v32, rfl, _⟩ := hu a32 (by simp)
  obtain ⟨v33, rfl, _⟩ := hu a33 (by simp)
  obtain ⟨v34, rfl, _⟩ := hu a34 (by simp)
  obtain ⟨v35, rfl, _⟩ := hu a35 (by simp)
  obtain ⟨v36, rfl, _⟩ := hu a36 (by simp)
  refine ⟨(v0, v1, v2, v3, v4, v5, v6, v7, v8, v9, v10, v11, v12, v13, v14, v15, v16, v17, v18, v19, v20, v21, v22, v23, v24, v25, v26, v27, v28, v29, v30, v31, v32, v33, v34, v35, v36, ()), rfl, fun i hi => ?_⟩
  obtain ⟨v, e, b⟩ := hu ((W.cl (v0, v1, v2, v3, v4, v5, v6, v7, v8, v9, v10, v11, v12, v13, v14, v15, v16, v17, v18, v19, v20, v21, v22, v23, v24, v25, v26, v27, v28, v29, v30, v31, v32, v33, v34, v35, v36, ()))[i]'hi) (List.getElem_mem _)
  exact ⟨v, b.1, b.2, by rw [List.getElem?_eq_getElem hi, e]⟩
theorem shp_by {fuel : Nat} {ps : List PV} (h : Shp Tryd.prog fuel 26 ps) : ∃ sv : List PV, elemP Tryd.prog 26 ps = .sl false 1 sv ∧ ∀ i, i < sv.length → ∃ v : Int, 0 ≤ v ∧ v ≤ 255 ∧ sv[i]? = some (.int .u8 v) := by
  cases fuel with
  | zero => exact h.elim
  | succ fuel =>
    simp only [Shp, Tryd.underlying26] at h
    obtain ⟨es, rfl, hw, hes⟩ := h
    refine ⟨es, by unfold elemP; rw [agBs, clU]; rfl, fun i hi => ?_⟩
    obtain ⟨qs, hs, e⟩ := hes es[i] (List.getElem_mem hi)
    obtain ⟨x, rfl, v, rfl, b⟩ := shp_u8 hs
    refine ⟨v, b.1, b.2, ?_⟩
    rw [List.getElem?_eq_getElem hi, e]
    unfold elemP; rw [agU]; rfl
/-! ### worlds -/
def litsOne : DataW Unit → List Value
  | .lit (.int k n) => [Value.int k n]
  | _ => []
def litsTwo : DataW Unit → List Value
  | .agg l => l.flatMap litsOne
  | d => litsOne d
def litsAll : DataW Unit → Array Value
  | .agg l => (l.flatMap litsTwo).toArray
  | _ => #[]
def putTabs (g : Nat) (d : DataW Unit) (h : Array Obj) : Array Obj := h.modify g fun
  | .cells _ t frozen => .cells (litsAll d) t frozen
  | o => o
noncomputable def laidWorld6 (os : Os) : World :=
  { World.holding Tryd.prog os ⟨#[], #[], []⟩ with heap := putTabs 3 Rows.laid_math_bits_deBruijn32tab (putTabs 4 Rows.laid_math_bits_deBruijn64tab (putTabs 2 Rows.laid_internal_strconv_uint64pow10 (World.holding Tryd.prog os ⟨#[], #[], []⟩).heap)) }
theorem pow_laid {H : Type} : (Rows.laid_internal_strconv_uint64pow10 : DataW H) = Lib.tabData .u64 Lib.pow10Tab := by kernel_rfl
theorem gw_of {W : World} {rest : List (String × DataW Unit)} (h1 : laidMet Tryd.prog (("internal/strconv.uint64pow10", Rows.laid_internal_strconv_uint64pow10) :: rest) W) (_ : W.ShapedOpen Tryd.prog) : GW W := by
  rw [pow_laid] at h1
  have ht := Lib.tabIs_of_head (g := 2) (t := 158) (e := 134) (n := 20) (by kernel_rfl) (by kernel_rfl) (by kernel_rfl) (by kernel_rfl) (by kernel_rfl) (by kernel_rfl) h1
  refine ⟨0, fun b o v hg => ?_⟩
  unfold Glob at hg
  have e : tabsG 0 = [(2, Lib.pow10Tab.map (Value.int .u64))] := rfl
  rw [e] at hg
  by_cases hc : b = 2
  · subst hc
    have hg : (Lib.pow10Tab.map (Value.int .u64))[o]? = some v := hg
    rw [List.getElem?_map] at hg
    obtain ⟨z, hz, rfl⟩ := Option.map_eq_some_iff.1 hg
    have ho : o < Lib.pow10Tab.length := (List.getElem?_eq_some_iff.1 hz).1
    have hc := ht.cell (g := 2) (by kernel_rfl) o ho
    refine whole0_some.2 ⟨?_, rfl⟩
    rw [hc, List.getD_eq_getElem?_getD, hz]; rfl
  · have h2 : (b == 2) = false := by simpa using hc
    simp [List.lookup, h2] at hg
/-- The closed facts of a row, those of the calls told apart. -/
theorem joined_parts {P : Program} {f : FuncId} {fn : Func} {s : ChangeSpec} {c : OpenClaim}
    (h1 : (c.wf (OpenSpec.ofChange s) && laidOutB P && mapsRowed P && fn.params.all (P.readableRec ·) && namedTie P c.named s.vars && (c.stops == []) && (P.stops == []) && (c.knobs == []) && (P.stopKnobs == [])) = true)
    (h2 : (c.inPlace == P.inPlace f) = true) (h3 : (c.unfollowed == P.unfollowed f) = true) (h4 : (c.recurses == P.recurses f) = true) (h5 : (c.named == P.varsNamed f) = true)
    (h6 : ((c.maps == (fn.params.toList ++ s.plain.varTypes P).any (P.mapsRec ·)) && (c.ifaces == (fn.params.toList ++ s.plain.varTypes P).any (P.ifacesRec ·)) && (c.mapsOut == P.mapsAmong fn.resultTypes.toList) &&
      (c.loops == (fn.params.toList ++ s.plain.varTypes P).any (P.loopsFrom ·)) && (c.wideKeys == (fn.params.toList ++ s.plain.varTypes P ++ fn.resultTypes.toList).any (P.wideKeysFrom ·)) &&
      s.vars.all (P.varReadable ·) && fn.resultTypes.all (fun t => P.readableRec t && decide (t < P.types.size)) && (c.ifacesOut == fn.resultTypes.toList.any (P.ifacesRec ·)) && (c.loopsOut == fn.resultTypes.toList.any (P.loopsFrom ·)) && (c.plainKeys == P.plainKeys) && c.shortTexts.isNone && P.stopsHeard && P.mayEnter && (c.lifted == P.liftsFinal) && (P.make == some c.make) && (c.kinds == (if c.domain.isEmpty then [] else fn.params.toList.map fun t => match P.underlying t with | some (.int k) => some k | _ => none)) && (c.pinned == c.pinnedBy) &&
      (c.veiled == (fn.params.toList ++ s.plain.varTypes P ++ fn.resultTypes.toList).any (P.veiledRec ·)) && c.veiledFits P fn.params.toList (fn.params.toList ++ s.plain.varTypes P ++ fn.resultTypes.toList)) = true) : joinedFacts P f fn s c = true := by
  unfold joinedFacts
  simp only [Bool.and_eq_true, and_assoc] at h1 h6 ⊢
  exact ⟨h1.1, h1.2.1, h1.2.2.1, h1.2.2.2.1, h1.2.2.2.2.1, h1.2.2.2.2.2.1, h1.2.2.2.2.2.2.1, h1.2.2.2.2.2.2.2.1, h1.2.2.2.2.2.2.2.2, h2, h3, h4, h5, h6⟩
end Go.Proofs.YtkkgfoknknehfaaDoor

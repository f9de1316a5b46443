/-
  Arguments of chapter 52 as abstract values; contracts of the equations as contracts over worlds.
-/
import Derived.Test.YtiejgieiokmmfaaDoorL52
import Derived.Test.YtiejgieiokmmfaaDoorC52c
import Derived.Test.YtiejgieiokmmfaaDoorAbU
import Derived.ProofKit
import Derived.SizedLaws
import Derived.ChangeArms
import Derived.OpenShut
import Derived.ChangeOld
import Derived.Deep.DeepHandedRow
import Derived.Lib.LaidTab
namespace Go.Proofs.YtiejgieiokmmfaaDoor
set_option linter.unusedVariables false
set_option linter.unusedSimpArgs false
set_option linter.unnecessarySimpa false
set_option linter.unusedSectionVars false
open Go.RowKit Go.ChangeShapes Go.WideShapes Go.ChangeAt
set_option maxRecDepth 100000
theorem own14 : ownKnob Tryd.prog.godebug = none := by kernel_rfl
theorem laidOut14 : laidOutB Tryd.prog = true := by kernel_rfl
theorem mixed52 : Tryd.prog.follows .mixedOrders = true := by kernel_rfl
theorem ev_of {g : FuncId} {args : List PV} {r : PV} (h : SS.CC g args [] = Ret r) : Ev Tryd.prog g args [] r [] :=
  CC_sound mixed52 SS_ok CS_ok g args [] r [] h
theorem reps0 {M : Mem} {B : Blk} : Reps M B [] [] := reps_nil.2 rfl
theorem repsC {M : Mem} {B : Blk} {p : PV} {ps : List PV} {u : Value} {us : List Value} (h : Rep M B p u) (h2 : Reps M B ps us) : Reps M B (p :: ps) (u :: us) := reps_cons.2 ⟨u, us, rfl, h, h2⟩
/-! ### types -/
def cover14 : List TypeId := [3, 4, 5, 9, 22, 24, 25, 27, 28, 30, 58, 75]
theorem cover14_ok : closedB Tryd.prog cover14 = true := by kernel_rfl
theorem parts24 : parts Tryd.prog 24 = [(0, 5), (1, 22)] := by kernel_rfl
theorem parts75 : parts Tryd.prog 75 = [(0, 5), (1, 5)] := by kernel_rfl
theorem parts58 : parts Tryd.prog 58 = [(0, 3), (1, 3)] := by kernel_rfl
theorem parts30 : parts Tryd.prog 30 = [(0, 3), (1, 3), (2, 3), (3, 27), (4, 28)] := by kernel_rfl
theorem cl3 : Tryd.prog.cellsOf 3 = 1 := by kernel_rfl
theorem cl4 : Tryd.prog.cellsOf 4 = 1 := by kernel_rfl
theorem cl5 : Tryd.prog.cellsOf 5 = 1 := by kernel_rfl
theorem cl22 : Tryd.prog.cellsOf 22 = 1 := by kernel_rfl
theorem cl24 : Tryd.prog.cellsOf 24 = 2 := by kernel_rfl
theorem cl27 : Tryd.prog.cellsOf 27 = 1 := by kernel_rfl
theorem cl28 : Tryd.prog.cellsOf 28 = 1 := by kernel_rfl
theorem cl30 : Tryd.prog.cellsOf 30 = 5 := by kernel_rfl
theorem cl58 : Tryd.prog.cellsOf 58 = 2 := by kernel_rfl
theorem cl75 : Tryd.prog.cellsOf 75 = 2 := by kernel_rfl
theorem by4 : Tryd.prog.bytesOf 4 = 1 := by kernel_rfl
theorem by5 : Tryd.prog.bytesOf 5 = 1 := by kernel_rfl
theorem by58 : Tryd.prog.bytesOf 58 = 16 := by kernel_rfl
theorem by75 : Tryd.prog.bytesOf 75 = 2 := by kernel_rfl
theorem agU : aggT Tryd.prog 5 = false := by kernel_rfl
theorem agB : aggT Tryd.prog 4 = false := by kernel_rfl
theorem agS : aggT Tryd.prog 9 = false := by kernel_rfl
theorem ag22 : aggT Tryd.prog 22 = false := by kernel_rfl
theorem ag25 : aggT Tryd.prog 25 = false := by kernel_rfl
theorem ag27 : aggT Tryd.prog 27 = false := by kernel_rfl
theorem ag28 : aggT Tryd.prog 28 = false := by kernel_rfl
theorem ag24 : aggT Tryd.prog 24 = true := by kernel_rfl
theorem ag30 : aggT Tryd.prog 30 = true := by kernel_rfl
theorem ag58 : aggT Tryd.prog 58 = true := by kernel_rfl
theorem ag75 : aggT Tryd.prog 75 = true := by kernel_rfl
def I64 (n : Int) : Prop := -9223372036854775808 ≤ n ∧ n ≤ 9223372036854775807
theorem shp_int {fuel : Nat} {ps : List PV} (h : Shp Tryd.prog fuel 3 ps) : ∃ n, ps = [.int .i64 n] ∧ I64 n := by
  cases fuel with
  | zero => exact h.elim
  | succ fuel =>
    simp only [Shp, Tryd.underlying3] at h
    obtain ⟨n, rfl, hn⟩ := h
    refine ⟨n, rfl, ?_⟩
    simp [Lit.wf, IntKind.min, IntKind.max, IntKind.signed, IntKind.bits] at hn
    exact hn
theorem shp_u8 {fuel : Nat} {ps : List PV} (h : Shp Tryd.prog fuel 5 ps) : ∃ c : UInt8, ps = [.int .u8 (c.toNat : Int)] := by
  cases fuel with
  | zero => exact h.elim
  | succ fuel =>
    simp only [Shp, Tryd.underlying5] at h
    obtain ⟨n, rfl, hn⟩ := h
    simp [Lit.wf, IntKind.min, IntKind.max, IntKind.signed, IntKind.bits] at hn
    refine ⟨UInt8.ofNat n.toNat, ?_⟩
    have : ((UInt8.ofNat n.toNat).toNat : Int) = n := by
      rw [UInt8.toNat_ofNat']
      omega
    rw [this]
theorem shp_str {fuel : Nat} {ps : List PV} (h : Shp Tryd.prog fuel 9 ps) : ∃ s : ByteArray, ps = [.str s] ∧ s.size ≤ reachBytes := by
  cases fuel with
  | zero => exact h.elim
  | succ fuel =>
    simp only [Shp, Tryd.underlying9] at h
    exact h
/-- Each element of a list as an encoded thing. -/
theorem list_enc {α : Type} {f : α → PV} {Q : α → Prop} : ∀ {es : List PV}, (∀ p, p ∈ es → ∃ x, p = f x ∧ Q x) → ∃ l : List α, es = l.map f ∧ ∀ x, x ∈ l → Q x
  | [], _ => ⟨[], rfl, by simp⟩
  | p :: es, h => by
    obtain ⟨x, hx, hq⟩ := h p (by simp)
    obtain ⟨l, hl, hql⟩ := list_enc (es := es) fun q hq => h q (by simp [hq])
    exact ⟨x :: l, by rw [hx, hl]; rfl, fun y hy => by
      rcases List.mem_cons.1 hy with rfl | hy
      · exact hq
      · exact hql y hy⟩
theorem two {ps : List PV} (h : ps.length = 2) : ∃ a b, ps = [a, b] := by
  match ps, h with
  | [a, b], _ => exact ⟨a, b, rfl⟩
theorem five {ps : List PV} (h : ps.length = 5) : ∃ a b c d e, ps = [a, b, c, d, e] := by
  match ps, h with
  | [a, b, c, d, e], _ => exact ⟨a, b, c, d, e, rfl⟩
theorem shp_bool {fuel : Nat} {ps : List PV} (h : Shp Tryd.prog fuel 4 ps) : ∃ b, ps = [.bool b] := by
  cases fuel with
  | zero => exact h.elim
  | succ fuel => simp only [Shp, Tryd.underlying4] at h; exact h
theorem shp_75 {fuel : Nat} {ps : List PV} (h : Shp Tryd.prog fuel 75 ps) : ∃ x : UInt8 × UInt8, elemP Tryd.prog 75 ps = u2P x ∧ True := by
  cases fuel with
  | zero => exact h.elim
  | succ fuel =>
    simp only [Shp, Tryd.underlying75, parts75, cl75] at h
    obtain ⟨hl, hs⟩ := h
    obtain ⟨a, b, rfl⟩ := two hl
    have h0 := hs (0, 5) (by simp)
    have h1 := hs (1, 5) (by simp)
    simp only [cl5, List.drop, List.take] at h0 h1
    obtain ⟨x, e0⟩ := shp_u8 h0
    obtain ⟨y, e1⟩ := shp_u8 h1
    cases e0; cases e1
    exact ⟨(x, y), by simp [elemP, ag75, u2P], trivial⟩
theorem shp_58 {fuel : Nat} {ps : List PV} (h : Shp Tryd.prog fuel 58 ps) : ∃ x : Ins, elemP Tryd.prog 58 ps = insP x ∧ I64 x.1 ∧ I64 x.2 := by
  cases fuel with
  | zero => exact h.elim
  | succ fuel =>
    simp only [Shp, Tryd.underlying58, parts58, cl58] at h
    obtain ⟨hl, hs⟩ := h
    obtain ⟨a, b, rfl⟩ := two hl
    have h0 := hs (0, 3) (by simp)
    have h1 := hs (1, 3) (by simp)
    simp only [cl3, List.drop, List.take] at h0 h1
    obtain ⟨x, e0, hx⟩ := shp_int h0
    obtain ⟨y, e1, hy⟩ := shp_int h1
    cases e0; cases e1
    exact ⟨(x, y), by simp [elemP, ag58, insP], hx, hy⟩
theorem shp_22 {fuel : Nat} {ps : List PV} (h : Shp Tryd.prog fuel 22 ps) : ∃ l : List (UInt8 × UInt8), ps = [.sl false 2 (u2L l)] ∧ l.length ≤ reachBytes := by
  cases fuel with
  | zero => exact h.elim
  | succ fuel =>
    simp only [Shp, Tryd.underlying22] at h
    obtain ⟨es, rfl, hw, hes⟩ := h
    obtain ⟨l, rfl, hq⟩ := list_enc (f := u2P) (Q := fun _ => True) (es := es) fun p hp => by
      obtain ⟨qs, hs, rfl⟩ := hes p hp
      exact shp_75 hs
    refine ⟨l, by rw [cl75]; rfl, ?_⟩
    rw [by75, List.length_map] at hw
    omega
theorem shp_27 {fuel : Nat} {ps : List PV} (h : Shp Tryd.prog fuel 27 ps) : ∃ l : List Bool, ps = [.sl false 1 (bitL l)] ∧ l.length ≤ reachBytes := by
  cases fuel with
  | zero => exact h.elim
  | succ fuel =>
    simp only [Shp, Tryd.underlying27] at h
    obtain ⟨es, rfl, hw, hes⟩ := h
    obtain ⟨l, rfl, hq⟩ := list_enc (f := PV.bool) (Q := fun _ => True) (es := es) fun p hp => by
      obtain ⟨qs, hs, rfl⟩ := hes p hp
      obtain ⟨b, rfl⟩ := shp_bool hs
      exact ⟨b, by simp [elemP, agB], trivial⟩
    refine ⟨l, by rw [cl4]; rfl, ?_⟩
    rw [by4, List.length_map] at hw
    omega
theorem shp_28 {fuel : Nat} {ps : List PV} (h : Shp Tryd.prog fuel 28 ps) : ∃ l : List Ins, ps = [.sl false 2 (insL l)] ∧ l.length ≤ reachBytes ∧ ∀ x, x ∈ l → I64 x.1 ∧ I64 x.2 := by
  cases fuel with
  | zero => exact h.elim
  | succ fuel =>
    simp only [Shp, Tryd.underlying28] at h
    obtain ⟨es, rfl, hw, hes⟩ := h
    obtain ⟨l, rfl, hq⟩ := list_enc (f := insP) (Q := fun x : Ins => I64 x.1 ∧ I64 x.2) (es := es) fun p hp => by
      obtain ⟨qs, hs, rfl⟩ := hes p hp
      exact shp_58 hs
    refine ⟨l, by rw [cl58]; rfl, ?_, hq⟩
    rw [by58, List.length_map] at hw
    omega
structure SmallV where
  start : UInt8
  list : List (UInt8 × UInt8)
def encSm (x : SmallV) : PV := .agg [.int .u8 (x.start.toNat : Int), .sl false 2 (u2L x.list)]
theorem shp_Small {fuel : Nat} {ps : List PV} (h : Shp Tryd.prog fuel 24 ps) : ∃ x : SmallV, elemP Tryd.prog 24 ps = encSm x ∧ True := by
  cases fuel with
  | zero => exact h.elim
  | succ fuel =>
    simp only [Shp, Tryd.underlying24, parts24, cl24] at h
    obtain ⟨hl, hs⟩ := h
    obtain ⟨a, b, rfl⟩ := two hl
    have h0 := hs (0, 5) (by simp)
    have h1 := hs (1, 22) (by simp)
    simp only [cl5, cl22, List.drop, List.take] at h0 h1
    obtain ⟨x, e0⟩ := shp_u8 h0
    obtain ⟨l, e1, _⟩ := shp_22 h1
    cases e0; cases e1
    exact ⟨⟨x, l⟩, by simp [elemP, ag24, encSm], trivial⟩
def Prg.I (p : Prg) : Prop := I64 p.ni ∧ I64 p.no ∧ I64 p.nm ∧ p.start.length ≤ reachBytes ∧ p.list.length ≤ reachBytes ∧ ∀ x, x ∈ p.list → I64 x.1 ∧ I64 x.2
theorem shp_Prg {fuel : Nat} {ps : List PV} (h : Shp Tryd.prog fuel 30 ps) : ∃ p : Prg, elemP Tryd.prog 30 ps = prgP p ∧ p.I := by
  cases fuel with
  | zero => exact h.elim
  | succ fuel =>
    simp only [Shp, Tryd.underlying30, parts30, cl30] at h
    obtain ⟨hl, hs⟩ := h
    obtain ⟨a, b, c, d, e, rfl⟩ := five hl
    have h0 := hs (0, 3) (by simp)
    have h1 := hs (1, 3) (by simp)
    have h2 := hs (2, 3) (by simp)
    have h3 := hs (3, 27) (by simp)
    have h4 := hs (4, 28) (by simp)
    simp only [cl3, cl27, cl28, List.drop, List.take] at h0 h1 h2 h3 h4
    obtain ⟨x, e0, hx⟩ := shp_int h0
    obtain ⟨y, e1, hy⟩ := shp_int h1
    obtain ⟨z, e2, hz⟩ := shp_int h2
    obtain ⟨s, e3, hs3⟩ := shp_27 h3
    obtain ⟨l, e4, hl4, hi4⟩ := shp_28 h4
    cases e0; cases e1; cases e2; cases e3; cases e4
    exact ⟨⟨x, y, z, s, l⟩, by simp [elemP, ag30, prgP], hx, hy, hz, hs3, hl4, hi4⟩
def encU (l : List UInt8) : List PV := l.map fun c => .int .u8 (c.toNat : Int)
theorem shpe_bytes {fuel : Nat} {ps : List PV} (h : Shp Tryd.prog fuel 25 ps) : ∃ l : List UInt8, elemP Tryd.prog 25 ps = .sl false 1 (encU l) ∧ l.length ≤ reachBytes := by
  cases fuel with
  | zero => exact h.elim
  | succ fuel =>
    simp only [Shp, Tryd.underlying25] at h
    obtain ⟨es, rfl, hw, hes⟩ := h
    obtain ⟨l, rfl, hq⟩ := list_enc (f := fun c : UInt8 => PV.int .u8 (c.toNat : Int)) (Q := fun _ => True) (es := es) fun p hp => by
      obtain ⟨qs, hs, rfl⟩ := hes p hp
      obtain ⟨c, rfl⟩ := shp_u8 hs
      exact ⟨c, by simp [elemP, agU], trivial⟩
    refine ⟨l, by simp only [elemP, ag25, Bool.false_eq_true, if_false, List.headD_cons, cl5]; rfl, ?_⟩
    rw [by5, List.length_map] at hw
    simpa using hw
theorem shpe_u8 {fuel : Nat} {ps : List PV} (h : Shp Tryd.prog fuel 5 ps) : ∃ c : UInt8, elemP Tryd.prog 5 ps = .int .u8 (c.toNat : Int) ∧ True := by
  obtain ⟨c, rfl⟩ := shp_u8 h
  exact ⟨c, by simp [elemP, agU], trivial⟩
theorem shpe_str {fuel : Nat} {ps : List PV} (h : Shp Tryd.prog fuel 9 ps) : ∃ s : ByteArray, elemP Tryd.prog 9 ps = .str s ∧ s.size ≤ reachBytes := by
  obtain ⟨s, rfl, hs⟩ := shp_str h
  exact ⟨s, by simp [elemP, agS], hs⟩
end Go.Proofs.YtiejgieiokmmfaaDoor

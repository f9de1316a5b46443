/-
  Arguments of chapter 52 as abstract values; contracts of the equations as contracts over worlds.
-/
import Derived.Test.YtiejgieiokmmfaaGreatDoorZL52
import Derived.Test.YtiejgieiokmmfaaGreatDoorAbU
import Derived.ProofKit
import Derived.SizedLaws
import Derived.ChangeArms
import Derived.OpenShut
import Derived.ChangeOld
import Derived.Deep.DeepHandedRow
import Derived.Lib.LaidTab
namespace Go.Proofs.YtiejgieiokmmfaaGreatDoor
set_option linter.unusedVariables false
set_option linter.unusedSimpArgs false
set_option linter.unnecessarySimpa false
set_option linter.unusedSectionVars false
open Go.RowKit Go.ChangeShapes Go.WideShapes Go.ChangeAt
set_option maxRecDepth 100000
theorem own14 : ownKnob Tryz.prog.godebug = none := by kernel_rfl
theorem laidOut14 : laidOutB Tryz.prog = true := by kernel_rfl
theorem mixed52 : Tryz.prog.follows .mixedOrders = true := by kernel_rfl
theorem ev_of {g : FuncId} {args : List PV} {r : PV} (h : SS.CC g args [] = Ret r) : Ev Tryz.prog g args [] r [] :=
  CC_sound mixed52 SS_ok CS_ok g args [] r [] h
theorem reps0 {M : Mem} {B : Blk} : Reps M B [] [] := reps_nil.2 rfl
theorem repsC {M : Mem} {B : Blk} {p : PV} {ps : List PV} {u : Value} {us : List Value} (h : Rep M B p u) (h2 : Reps M B ps us) : Reps M B (p :: ps) (u :: us) := reps_cons.2 ⟨u, us, rfl, h, h2⟩
/-! ### types -/
def cover14 : List TypeId := [3, 4, 9, 22, 23, 25, 43]
theorem cover14_ok : closedB Tryz.prog cover14 = true := by kernel_rfl
theorem parts43 : parts Tryz.prog 43 = [(0, 3), (1, 3)] := by kernel_rfl
theorem parts25 : parts Tryz.prog 25 = [(0, 3), (1, 3), (2, 3), (3, 22), (4, 23)] := by kernel_rfl
theorem cl3 : Tryz.prog.cellsOf 3 = 1 := by kernel_rfl
theorem cl4 : Tryz.prog.cellsOf 4 = 1 := by kernel_rfl
theorem cl5 : Tryz.prog.cellsOf 5 = 1 := by kernel_rfl
theorem cl22 : Tryz.prog.cellsOf 22 = 1 := by kernel_rfl
theorem cl23 : Tryz.prog.cellsOf 23 = 1 := by kernel_rfl
theorem cl25 : Tryz.prog.cellsOf 25 = 5 := by kernel_rfl
theorem cl43 : Tryz.prog.cellsOf 43 = 2 := by kernel_rfl
theorem by4 : Tryz.prog.bytesOf 4 = 1 := by kernel_rfl
theorem by43 : Tryz.prog.bytesOf 43 = 16 := by kernel_rfl
theorem agU : aggT Tryz.prog 5 = false := by kernel_rfl
theorem agB : aggT Tryz.prog 4 = false := by kernel_rfl
theorem agS : aggT Tryz.prog 9 = false := by kernel_rfl
theorem ag22 : aggT Tryz.prog 22 = false := by kernel_rfl
theorem ag23 : aggT Tryz.prog 23 = false := by kernel_rfl
theorem ag25 : aggT Tryz.prog 25 = true := by kernel_rfl
theorem ag43 : aggT Tryz.prog 43 = true := by kernel_rfl
def I64 (n : Int) : Prop := -9223372036854775808 ≤ n ∧ n ≤ 9223372036854775807
theorem shp_int {fuel : Nat} {ps : List PV} (h : Shp Tryz.prog fuel 3 ps) : ∃ n, ps = [.int .i64 n] ∧ I64 n := by
  cases fuel with
  | zero => exact h.elim
  | succ fuel =>
    simp only [Shp, Tryz.underlying3] at h
    obtain ⟨n, rfl, hn⟩ := h
    refine ⟨n, rfl, ?_⟩
    simp [Lit.wf, IntKind.min, IntKind.max, IntKind.signed, IntKind.bits] at hn
    exact hn
theorem shp_u8 {fuel : Nat} {ps : List PV} (h : Shp Tryz.prog fuel 5 ps) : ∃ c : UInt8, ps = [.int .u8 (c.toNat : Int)] := by
  cases fuel with
  | zero => exact h.elim
  | succ fuel =>
    simp only [Shp, Tryz.underlying5] at h
    obtain ⟨n, rfl, hn⟩ := h
    simp [Lit.wf, IntKind.min, IntKind.max, IntKind.signed, IntKind.bits] at hn
    refine ⟨UInt8.ofNat n.toNat, ?_⟩
    have : ((UInt8.ofNat n.toNat).toNat : Int) = n := by
      rw [UInt8.toNat_ofNat']
      omega
    rw [this]
theorem shp_str {fuel : Nat} {ps : List PV} (h : Shp Tryz.prog fuel 9 ps) : ∃ s : ByteArray, ps = [.str s] ∧ s.size ≤ reachBytes := by
  cases fuel with
  | zero => exact h.elim
  | succ fuel =>
    simp only [Shp, Tryz.underlying9] at h
    exact h
/-- Each element of a list as an encoded thing. -/
theorem list_enc {α : Type} {f : α → PV} {Q : α → Prop} : ∀ {es : List PV}, (∀ p, p ∈ es → ∃ x, p = f x ∧ Q x) → ∃ l : List α, es = l.map f ∧ ∀ x, x ∈ l → Q x
  | [], _ => ⟨[], rfl, by simp⟩
  | p :: es, h => by
    obtain ⟨x, hx, hq⟩ := h p (by simp)
    obtain ⟨l, hl, hql⟩ := list_enc (es := es) fun q hq => h q (by simp [hq])
    exact ⟨x :: l, by rw [hx, hl]; rfl, fun y hy => by
      rcases List.mem_cons.1 hy with rfl | hy
      · exact hq
      · exact hql y hy⟩
theorem two {ps : List PV} (h : ps.length = 2) : ∃ a b, ps = [a, b] := by
  match ps, h with
  | [a, b], _ => exact ⟨a, b, rfl⟩
theorem five {ps : List PV} (h : ps.length = 5) : ∃ a b c d e, ps = [a, b, c, d, e] := by
  match ps, h with
  | [a, b, c, d, e], _ => exact ⟨a, b, c, d, e, rfl⟩
theorem shp_bool {fuel : Nat} {ps : List PV} (h : Shp Tryz.prog fuel 4 ps) : ∃ b, ps = [.bool b] := by
  cases fuel with
  | zero => exact h.elim
  | succ fuel => simp only [Shp, Tryz.underlying4] at h; exact h
theorem shp_43 {fuel : Nat} {ps : List PV} (h : Shp Tryz.prog fuel 43 ps) : ∃ x : Ins, elemP Tryz.prog 43 ps = insP x ∧ I64 x.1 ∧ I64 x.2 := by
  cases fuel with
  | zero => exact h.elim
  | succ fuel =>
    simp only [Shp, Tryz.underlying43, parts43, cl43] at h
    obtain ⟨hl, hs⟩ := h
    obtain ⟨a, b, rfl⟩ := two hl
    have h0 := hs (0, 3) (by simp)
    have h1 := hs (1, 3) (by simp)
    simp only [cl3, List.drop, List.take] at h0 h1
    obtain ⟨x, e0, hx⟩ := shp_int h0
    obtain ⟨y, e1, hy⟩ := shp_int h1
    cases e0; cases e1
    exact ⟨(x, y), by simp [elemP, ag43, insP], hx, hy⟩
theorem shp_22 {fuel : Nat} {ps : List PV} (h : Shp Tryz.prog fuel 22 ps) : ∃ l : List Bool, ps = [.sl false 1 (bitL l)] ∧ l.length ≤ reachBytes := by
  cases fuel with
  | zero => exact h.elim
  | succ fuel =>
    simp only [Shp, Tryz.underlying22] at h
    obtain ⟨es, rfl, hw, hes⟩ := h
    obtain ⟨l, rfl, hq⟩ := list_enc (f := PV.bool) (Q := fun _ => True) (es := es) fun p hp => by
      obtain ⟨qs, hs, rfl⟩ := hes p hp
      obtain ⟨b, rfl⟩ := shp_bool hs
      exact ⟨b, by simp [elemP, agB], trivial⟩
    refine ⟨l, by rw [cl4]; rfl, ?_⟩
    rw [by4, List.length_map] at hw
    omega
theorem shp_23 {fuel : Nat} {ps : List PV} (h : Shp Tryz.prog fuel 23 ps) : ∃ l : List Ins, ps = [.sl false 2 (insL l)] ∧ l.length ≤ reachBytes ∧ ∀ x, x ∈ l → I64 x.1 ∧ I64 x.2 := by
  cases fuel with
  | zero => exact h.elim
  | succ fuel =>
    simp only [Shp, Tryz.underlying23] at h
    obtain ⟨es, rfl, hw, hes⟩ := h
    obtain ⟨l, rfl, hq⟩ := list_enc (f := insP) (Q := fun x : Ins => I64 x.1 ∧ I64 x.2) (es := es) fun p hp => by
      obtain ⟨qs, hs, rfl⟩ := hes p hp
      exact shp_43 hs
    refine ⟨l, by rw [cl43]; rfl, ?_, hq⟩
    rw [by43, List.length_map] at hw
    omega
def Prg.I (p : Prg) : Prop := I64 p.ni ∧ I64 p.no ∧ I64 p.nm ∧ p.start.length ≤ reachBytes ∧ p.list.length ≤ reachBytes ∧ ∀ x, x ∈ p.list → I64 x.1 ∧ I64 x.2
theorem shp_Prg {fuel : Nat} {ps : List PV} (h : Shp Tryz.prog fuel 25 ps) : ∃ p : Prg, elemP Tryz.prog 25 ps = prgP p ∧ p.I := by
  cases fuel with
  | zero => exact h.elim
  | succ fuel =>
    simp only [Shp, Tryz.underlying25, parts25, cl25] at h
    obtain ⟨hl, hs⟩ := h
    obtain ⟨a, b, c, d, e, rfl⟩ := five hl
    have h0 := hs (0, 3) (by simp)
    have h1 := hs (1, 3) (by simp)
    have h2 := hs (2, 3) (by simp)
    have h3 := hs (3, 22) (by simp)
    have h4 := hs (4, 23) (by simp)
    simp only [cl3, cl22, cl23, List.drop, List.take] at h0 h1 h2 h3 h4
    obtain ⟨x, e0, hx⟩ := shp_int h0
    obtain ⟨y, e1, hy⟩ := shp_int h1
    obtain ⟨z, e2, hz⟩ := shp_int h2
    obtain ⟨s, e3, hs3⟩ := shp_22 h3
    obtain ⟨l, e4, hl4, hi4⟩ := shp_23 h4
    cases e0; cases e1; cases e2; cases e3; cases e4
    exact ⟨⟨x, y, z, s, l⟩, by simp [elemP, ag25, prgP], hx, hy, hz, hs3, hl4, hi4⟩
theorem shpe_str {fuel : Nat} {ps : List PV} (h : Shp Tryz.prog fuel 9 ps) : ∃ s : ByteArray, elemP Tryz.prog 9 ps = .str s ∧ s.size ≤ reachBytes := by
  obtain ⟨s, rfl, hs⟩ := shp_str h
  exact ⟨s, by simp [elemP, agS], hs⟩
end Go.Proofs.YtiejgieiokmmfaaGreatDoor

/-
  Arguments of chapter 16 as abstract values; contracts of the equations as contracts over worlds.
-/
import Derived.Test.YtoajpgclgdhhlaaW16
import Derived.Test.YtoajpgclgdhhlaaAbU
import Derived.ProofKit
import Derived.SizedLaws
import Derived.ChangeArms
import Derived.OpenShut
import Derived.ChangeOld
namespace Go.Proofs.Ytoajpgclgdhhlaa
set_option linter.unusedVariables false
set_option linter.unusedSimpArgs false
set_option linter.unnecessarySimpa false
set_option linter.unusedSectionVars false
open Go.RowKit Go.ChangeShapes Go.WideShapes Go.ChangeAt
set_option maxRecDepth 100000
theorem own14 : ownKnob Try.prog.godebug = none := by kernel_rfl
theorem laidOut14 : laidOutB Try.prog = true := by kernel_rfl
theorem ev_of {g : FuncId} {args : List PV} {r : PV} (h : W.SS.CC g args [] = Ret r) : Ev Try.prog g args [] r [] :=
  CC_sound mixed16 W.SS_ok CS_ok g args [] r [] h
theorem reps0 {M : Mem} {B : Blk} : Reps M B [] [] := reps_nil.2 rfl
theorem repsC {M : Mem} {B : Blk} {p : PV} {ps : List PV} {u : Value} {us : List Value} (h : Rep M B p u) (h2 : Reps M B ps us) : Reps M B (p :: ps) (u :: us) := reps_cons.2 ⟨u, us, rfl, h, h2⟩
/-! ### types -/
def cover14 : List TypeId := [3, 4, 5, 39, 9, 23, 30, 24, 41, 50]
theorem cover14_ok : closedB Try.prog cover14 = true := by kernel_rfl
theorem partsT : parts Try.prog 30 = [(0, 3), (1, 9), (2, 3), (3, 3), (4, 3)] := by kernel_rfl
theorem partsC : parts Try.prog 41 = [(0, 5), (1, 9), (2, 39), (3, 39)] := by kernel_rfl
theorem clT : Try.prog.cellsOf 30 = 5 := by kernel_rfl
theorem clC : Try.prog.cellsOf 41 = 4 := by kernel_rfl
theorem clI : Try.prog.cellsOf 3 = 1 := by kernel_rfl
theorem clU : Try.prog.cellsOf 5 = 1 := by kernel_rfl
theorem clI8 : Try.prog.cellsOf 39 = 1 := by kernel_rfl
theorem clS : Try.prog.cellsOf 9 = 1 := by kernel_rfl
theorem byT : Try.prog.bytesOf 30 = 48 := by kernel_rfl
theorem byC : Try.prog.bytesOf 41 = 32 := by kernel_rfl
theorem byU : Try.prog.bytesOf 5 = 1 := by kernel_rfl
theorem agT : aggT Try.prog 30 = true := by kernel_rfl
theorem agC : aggT Try.prog 41 = true := by kernel_rfl
theorem agU : aggT Try.prog 5 = false := by kernel_rfl
theorem agS : aggT Try.prog 9 = false := by kernel_rfl
theorem agBs : aggT Try.prog 23 = false := by kernel_rfl
theorem agTs : aggT Try.prog 24 = false := by kernel_rfl
theorem agCs : aggT Try.prog 50 = false := by kernel_rfl
def I64 (n : Int) : Prop := -9223372036854775808 ≤ n ∧ n ≤ 9223372036854775807
def I8 (n : Int) : Prop := -128 ≤ n ∧ n ≤ 127
theorem shp_int {fuel : Nat} {ps : List PV} (h : Shp Try.prog fuel 3 ps) : ∃ n, ps = [.int .i64 n] ∧ I64 n := by
  cases fuel with
  | zero => exact h.elim
  | succ fuel =>
    simp only [Shp, Try.underlying3] at h
    obtain ⟨n, rfl, hn⟩ := h
    refine ⟨n, rfl, ?_⟩
    simp [Lit.wf, IntKind.min, IntKind.max, IntKind.signed, IntKind.bits] at hn
    exact hn
theorem shp_i8 {fuel : Nat} {ps : List PV} (h : Shp Try.prog fuel 39 ps) : ∃ n, ps = [.int .i8 n] ∧ I8 n := by
  cases fuel with
  | zero => exact h.elim
  | succ fuel =>
    simp only [Shp, Try.underlying39] at h
    obtain ⟨n, rfl, hn⟩ := h
    refine ⟨n, rfl, ?_⟩
    simp [Lit.wf, IntKind.min, IntKind.max, IntKind.signed, IntKind.bits] at hn
    exact hn
theorem shp_u8 {fuel : Nat} {ps : List PV} (h : Shp Try.prog fuel 5 ps) : ∃ c : UInt8, ps = [.int .u8 (c.toNat : Int)] := by
  cases fuel with
  | zero => exact h.elim
  | succ fuel =>
    simp only [Shp, Try.underlying5] at h
    obtain ⟨n, rfl, hn⟩ := h
    simp [Lit.wf, IntKind.min, IntKind.max, IntKind.signed, IntKind.bits] at hn
    refine ⟨UInt8.ofNat n.toNat, ?_⟩
    have : ((UInt8.ofNat n.toNat).toNat : Int) = n := by
      rw [UInt8.toNat_ofNat']
      omega
    rw [this]
theorem shp_str {fuel : Nat} {ps : List PV} (h : Shp Try.prog fuel 9 ps) : ∃ s : ByteArray, ps = [.str s] ∧ s.size ≤ reachBytes := by
  cases fuel with
  | zero => exact h.elim
  | succ fuel =>
    simp only [Shp, Try.underlying9] at h
    exact h
/-- Each element of a list as an encoded thing. -/
theorem list_enc {α : Type} {f : α → PV} {Q : α → Prop} : ∀ {es : List PV}, (∀ p, p ∈ es → ∃ x, p = f x ∧ Q x) → ∃ l : List α, es = l.map f ∧ ∀ x, x ∈ l → Q x
  | [], _ => ⟨[], rfl, by simp⟩
  | p :: es, h => by
    obtain ⟨x, hx, hq⟩ := h p (by simp)
    obtain ⟨l, hl, hql⟩ := list_enc (es := es) fun q hq => h q (by simp [hq])
    exact ⟨x :: l, by rw [hx, hl]; rfl, fun y hy => by
      rcases List.mem_cons.1 hy with rfl | hy
      · exact hq
      · exact hql y hy⟩
theorem four {ps : List PV} (h : ps.length = 4) : ∃ a b c d, ps = [a, b, c, d] := by
  match ps, h with
  | [a, b, c, d], _ => exact ⟨a, b, c, d, rfl⟩
def encBs (l : List UInt8) : List PV := l.map fun c => .int .u8 (c.toNat : Int)
theorem shp_bytes {fuel : Nat} {ps : List PV} (h : Shp Try.prog fuel 23 ps) : ∃ l : List UInt8, elemP Try.prog 23 ps = .sl false 1 (encBs l) ∧ l.length ≤ reachBytes := by
  cases fuel with
  | zero => exact h.elim
  | succ fuel =>
    simp only [Shp, Try.underlying23] at h
    obtain ⟨es, rfl, hw, hes⟩ := h
    obtain ⟨l, rfl, hq⟩ := list_enc (f := fun c : UInt8 => PV.int .u8 (c.toNat : Int)) (Q := fun _ => True) (es := es) fun p hp => by
      obtain ⟨qs, hs, rfl⟩ := hes p hp
      obtain ⟨c, rfl⟩ := shp_u8 hs
      exact ⟨c, by simp [elemP, agU], trivial⟩
    refine ⟨l, by simp only [elemP, agBs, Bool.false_eq_true, if_false, List.headD_cons, clU]; rfl, ?_⟩
    rw [byU, List.length_map] at hw
    simpa using hw
theorem five {ps : List PV} (h : ps.length = 5) : ∃ a b c d e, ps = [a, b, c, d, e] := by
  match ps, h with
  | [a, b, c, d, e], _ => exact ⟨a, b, c, d, e, rfl⟩
structure TokV where
  kind : Int
  text : ByteArray
  val : Int
  line : Int
  col : Int
def encT (t : TokV) : PV := .agg [.int .i64 t.kind, .str t.text, .int .i64 t.val, .int .i64 t.line, .int .i64 t.col]
def TokV.I (t : TokV) : Prop := I64 t.kind ∧ t.text.size ≤ reachBytes ∧ I64 t.val ∧ I64 t.line ∧ I64 t.col
structure CallV where
  kind : UInt8
  text : ByteArray
  low : Int
  high : Int
def encC (c : CallV) : PV := .agg [.int .u8 (c.kind.toNat : Int), .str c.text, .int .i8 c.low, .int .i8 c.high]
def CallV.I (c : CallV) : Prop := c.text.size ≤ reachBytes ∧ I8 c.low ∧ I8 c.high
theorem shp_T {fuel : Nat} {ps : List PV} (h : Shp Try.prog fuel 30 ps) : ∃ t, elemP Try.prog 30 ps = encT t ∧ t.I := by
  cases fuel with
  | zero => exact h.elim
  | succ fuel =>
    simp only [Shp, Try.underlying30, partsT, clT] at h
    obtain ⟨hl, hs⟩ := h
    obtain ⟨a, b, c, d, e, rfl⟩ := five hl
    have h0 := hs (0, 3) (by simp)
    have h1 := hs (1, 9) (by simp)
    have h2 := hs (2, 3) (by simp)
    have h3 := hs (3, 3) (by simp)
    have h4 := hs (4, 3) (by simp)
    simp only [clI, clS, List.drop, List.take] at h0 h1 h2 h3 h4
    obtain ⟨x, e0, hx⟩ := shp_int h0
    obtain ⟨s, e1, hs1⟩ := shp_str h1
    obtain ⟨y, e2, hy⟩ := shp_int h2
    obtain ⟨z, e3, hz⟩ := shp_int h3
    obtain ⟨v, e4, hv⟩ := shp_int h4
    cases e0; cases e1; cases e2; cases e3; cases e4
    exact ⟨⟨x, s, y, z, v⟩, by simp [elemP, agT, encT], hx, hs1, hy, hz, hv⟩
theorem shp_C {fuel : Nat} {ps : List PV} (h : Shp Try.prog fuel 41 ps) : ∃ c, elemP Try.prog 41 ps = encC c ∧ c.I := by
  cases fuel with
  | zero => exact h.elim
  | succ fuel =>
    simp only [Shp, Try.underlying41, partsC, clC] at h
    obtain ⟨hl, hs⟩ := h
    obtain ⟨a, b, c, d, rfl⟩ := four hl
    have h0 := hs (0, 5) (by simp)
    have h1 := hs (1, 9) (by simp)
    have h2 := hs (2, 39) (by simp)
    have h3 := hs (3, 39) (by simp)
    simp only [clU, clS, clI8, List.drop, List.take] at h0 h1 h2 h3
    obtain ⟨x, e0⟩ := shp_u8 h0
    obtain ⟨s, e1, hs1⟩ := shp_str h1
    obtain ⟨y, e2, hy⟩ := shp_i8 h2
    obtain ⟨z, e3, hz⟩ := shp_i8 h3
    cases e0; cases e1; cases e2; cases e3
    exact ⟨⟨x, s, y, z⟩, by simp [elemP, agC, encC], hs1, hy, hz⟩
theorem shp_Ts {fuel : Nat} {ps : List PV} (h : Shp Try.prog fuel 24 ps) : ∃ l : List TokV, elemP Try.prog 24 ps = .sl false 5 (l.map encT) ∧ l.length ≤ reachBytes ∧ ∀ t, t ∈ l → t.I := by
  cases fuel with
  | zero => exact h.elim
  | succ fuel =>
    simp only [Shp, Try.underlying24] at h
    obtain ⟨es, rfl, hw, hes⟩ := h
    obtain ⟨l, rfl, hq⟩ := list_enc (f := encT) (Q := TokV.I) (es := es) fun p hp => by
      obtain ⟨qs, hs, rfl⟩ := hes p hp
      exact shp_T hs
    refine ⟨l, by simp only [elemP, agTs, Bool.false_eq_true, if_false, List.headD_cons, clT], ?_, hq⟩
    rw [byT, List.length_map] at hw
    unfold reachBytes at *
    omega
theorem shp_Cs {fuel : Nat} {ps : List PV} (h : Shp Try.prog fuel 50 ps) : ∃ l : List CallV, elemP Try.prog 50 ps = .sl false 4 (l.map encC) ∧ l.length ≤ reachBytes ∧ ∀ t, t ∈ l → t.I := by
  cases fuel with
  | zero => exact h.elim
  | succ fuel =>
    simp only [Shp, Try.underlying50] at h
    obtain ⟨es, rfl, hw, hes⟩ := h
    obtain ⟨l, rfl, hq⟩ := list_enc (f := encC) (Q := CallV.I) (es := es) fun p hp => by
      obtain ⟨qs, hs, rfl⟩ := hes p hp
      exact shp_C hs
    refine ⟨l, by simp only [elemP, agCs, Bool.false_eq_true, if_false, List.headD_cons, clC], ?_, hq⟩
    rw [byC, List.length_map] at hw
    unfold reachBytes at *
    omega
theorem shpe_u8 {fuel : Nat} {ps : List PV} (h : Shp Try.prog fuel 5 ps) : ∃ c : UInt8, elemP Try.prog 5 ps = .int .u8 (c.toNat : Int) ∧ True := by
  obtain ⟨c, rfl⟩ := shp_u8 h
  exact ⟨c, by simp [elemP, agU], trivial⟩
theorem shpe_str {fuel : Nat} {ps : List PV} (h : Shp Try.prog fuel 9 ps) : ∃ s : ByteArray, elemP Try.prog 9 ps = .str s ∧ s.size ≤ reachBytes := by
  obtain ⟨s, rfl, hs⟩ := shp_str h
  exact ⟨s, by simp [elemP, agS], hs⟩
end Go.Proofs.Ytoajpgclgdhhlaa

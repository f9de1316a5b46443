/-
  Arguments of chapter 14 as abstract values; contracts of the equations as contracts over worlds.
-/
import Derived.Test.YtmclnnpaephkpaaE14
import Derived.Test.YtmclnnpaephkpaaAbU
import Derived.ProofKit
import Derived.SizedLaws
import Derived.ChangeArms
import Derived.OpenShut
import Derived.ChangeOld
namespace Go.Proofs.Ytmclnnpaephkpaa
set_option linter.unusedVariables false
set_option linter.unusedSimpArgs false
set_option linter.unnecessarySimpa false
set_option linter.unusedSectionVars false
open Go.RowKit Go.ChangeShapes Go.WideShapes Go.ChangeAt
set_option maxRecDepth 100000
theorem own14 : ownKnob Try.prog.godebug = none := by kernel_rfl
theorem laidOut14 : laidOutB Try.prog = true := by kernel_rfl
theorem mixed : Try.prog.follows .mixedOrders = true := by kernel_rfl
theorem ev_of {g : FuncId} {args : List PV} {r : PV} (h : SS.CC g args [] = Ret r) : Ev Try.prog g args [] r [] :=
  CC_sound mixed SS_ok (fun _ _ _ _ _ hv => by cases hv) g args [] r [] h
theorem gw0 (W : World) : GW W := fun b o v h => by unfold Glob at h; simp [tabsG] at h
theorem reps0 {M : Mem} {B : Blk} : Reps M B [] [] := reps_nil.2 rfl
theorem repsC {M : Mem} {B : Blk} {p : PV} {ps : List PV} {u : Value} {us : List Value} (h : Rep M B p u) (h2 : Reps M B ps us) : Reps M B (p :: ps) (u :: us) := reps_cons.2 ⟨u, us, rfl, h, h2⟩
def encVs (l : List VT) : PV := .sl false 4 (l.map encV)
def encRs (l : List (Int × Int)) : PV := .sl false 2 (l.map encR)
/-! ### types -/
def cover14 : List TypeId := [3, 4, 5, 61, 24, 22, 33, 32, 40, 62, 50, 60, 41, 48, 9]
theorem cover14_ok : closedB Try.prog cover14 = true := by kernel_rfl
theorem partsE : parts Try.prog 24 = [(0, 3), (1, 3), (2, 3), (3, 22)] := by kernel_rfl
theorem partsV : parts Try.prog 48 = [(0, 9), (1, 3), (2, 3), (3, 3)] := by kernel_rfl
theorem partsR : parts Try.prog 62 = [(0, 61), (1, 61)] := by kernel_rfl
theorem partsU3 : parts Try.prog 50 = [(0, 5), (1, 5), (2, 5)] := by kernel_rfl
theorem partsU6 : parts Try.prog 60 = [(0, 5), (1, 5), (2, 5), (3, 5), (4, 5), (5, 5)] := by kernel_rfl
theorem clE : Try.prog.cellsOf 24 = 4 := by kernel_rfl
theorem clV : Try.prog.cellsOf 48 = 4 := by kernel_rfl
theorem clR : Try.prog.cellsOf 62 = 2 := by kernel_rfl
theorem clI : Try.prog.cellsOf 3 = 1 := by kernel_rfl
theorem clU : Try.prog.cellsOf 5 = 1 := by kernel_rfl
theorem clI8 : Try.prog.cellsOf 61 = 1 := by kernel_rfl
theorem clS : Try.prog.cellsOf 9 = 1 := by kernel_rfl
theorem clEs : Try.prog.cellsOf 22 = 1 := by kernel_rfl
theorem clU3 : Try.prog.cellsOf 50 = 3 := by kernel_rfl
theorem clU6 : Try.prog.cellsOf 60 = 6 := by kernel_rfl
theorem byE : Try.prog.bytesOf 24 = 48 := by kernel_rfl
theorem byI : Try.prog.bytesOf 3 = 8 := by kernel_rfl
theorem byU : Try.prog.bytesOf 5 = 1 := by kernel_rfl
theorem byR : Try.prog.bytesOf 62 = 2 := by kernel_rfl
theorem byV : Try.prog.bytesOf 48 = 40 := by kernel_rfl
theorem agE : aggT Try.prog 24 = true := by kernel_rfl
theorem agV : aggT Try.prog 48 = true := by kernel_rfl
theorem agRg : aggT Try.prog 62 = true := by kernel_rfl
theorem agU3 : aggT Try.prog 50 = true := by kernel_rfl
theorem agU6 : aggT Try.prog 60 = true := by kernel_rfl
theorem agI : aggT Try.prog 3 = false := by kernel_rfl
theorem agU : aggT Try.prog 5 = false := by kernel_rfl
theorem agEs : aggT Try.prog 22 = false := by kernel_rfl
theorem agIs : aggT Try.prog 33 = false := by kernel_rfl
theorem agBs : aggT Try.prog 32 = false := by kernel_rfl
theorem agRs : aggT Try.prog 40 = false := by kernel_rfl
theorem agVs : aggT Try.prog 41 = false := by kernel_rfl
def I64 (n : Int) : Prop := -9223372036854775808 ≤ n ∧ n ≤ 9223372036854775807
def I8 (n : Int) : Prop := -128 ≤ n ∧ n ≤ 127
theorem shp_int {fuel : Nat} {ps : List PV} (h : Shp Try.prog fuel 3 ps) : ∃ n, ps = [.int .i64 n] ∧ I64 n := by
  cases fuel with
  | zero => exact h.elim
  | succ fuel =>
    simp only [Shp, Try.underlying3] at h
    obtain ⟨n, rfl, hn⟩ := h
    refine ⟨n, rfl, ?_⟩
    simp [Lit.wf, IntKind.min, IntKind.max, IntKind.signed, IntKind.bits] at hn
    exact hn
theorem shp_i8 {fuel : Nat} {ps : List PV} (h : Shp Try.prog fuel 61 ps) : ∃ n, ps = [.int .i8 n] ∧ I8 n := by
  cases fuel with
  | zero => exact h.elim
  | succ fuel =>
    simp only [Shp, Try.underlying61] at h
    obtain ⟨n, rfl, hn⟩ := h
    refine ⟨n, rfl, ?_⟩
    simp [Lit.wf, IntKind.min, IntKind.max, IntKind.signed, IntKind.bits] at hn
    exact hn
theorem shp_u8 {fuel : Nat} {ps : List PV} (h : Shp Try.prog fuel 5 ps) : ∃ c : UInt8, ps = [.int .u8 (c.toNat : Int)] := by
  cases fuel with
  | zero => exact h.elim
  | succ fuel =>
    simp only [Shp, Try.underlying5] at h
    obtain ⟨n, rfl, hn⟩ := h
    simp [Lit.wf, IntKind.min, IntKind.max, IntKind.signed, IntKind.bits] at hn
    refine ⟨UInt8.ofNat n.toNat, ?_⟩
    have : ((UInt8.ofNat n.toNat).toNat : Int) = n := by
      rw [UInt8.toNat_ofNat']
      omega
    rw [this]
theorem shp_str {fuel : Nat} {ps : List PV} (h : Shp Try.prog fuel 9 ps) : ∃ s : ByteArray, ps = [.str s] ∧ s.size ≤ reachBytes := by
  cases fuel with
  | zero => exact h.elim
  | succ fuel =>
    simp only [Shp, Try.underlying9] at h
    exact h
/-- Each element of a list as an encoded thing. -/
theorem list_enc {α : Type} {f : α → PV} {Q : α → Prop} : ∀ {es : List PV}, (∀ p, p ∈ es → ∃ x, p = f x ∧ Q x) → ∃ l : List α, es = l.map f ∧ ∀ x, x ∈ l → Q x
  | [], _ => ⟨[], rfl, by simp⟩
  | p :: es, h => by
    obtain ⟨x, hx, hq⟩ := h p (by simp)
    obtain ⟨l, hl, hql⟩ := list_enc (es := es) fun q hq => h q (by simp [hq])
    exact ⟨x :: l, by rw [hx, hl]; rfl, fun y hy => by
      rcases List.mem_cons.1 hy with rfl | hy
      · exact hq
      · exact hql y hy⟩
theorem lenL_of : ∀ {l : List EX}, (∀ e, e ∈ l → lenE e) → lenL l
  | [], _ => trivial
  | e :: l, h => ⟨h e (by simp), lenL_of fun x hx => h x (by simp [hx])⟩
theorem four {ps : List PV} (h : ps.length = 4) : ∃ a b c d, ps = [a, b, c, d] := by
  match ps, h with
  | [a, b, c, d], _ => exact ⟨a, b, c, d, rfl⟩
theorem shp_E : ∀ {fuel : Nat} {ps : List PV}, Shp Try.prog fuel 24 ps → ∃ e, elemP Try.prog 24 ps = encE e ∧ lenE e := by
  intro fuel
  induction fuel using Nat.strongRecOn with
  | _ fuel ih =>
    intro ps h
    cases fuel with
    | zero => exact h.elim
    | succ fuel =>
      simp only [Shp, Try.underlying24, partsE, clE] at h
      obtain ⟨hl, h⟩ := h
      obtain ⟨a, b, c, d, rfl⟩ := four hl
      have h0 := h (0, 3) (by simp)
      have h1 := h (1, 3) (by simp)
      have h2 := h (2, 3) (by simp)
      have h3 := h (3, 22) (by simp)
      simp only [clI, clEs, List.drop, List.take] at h0 h1 h2 h3
      obtain ⟨o, e0, _⟩ := shp_int h0
      obtain ⟨x, e1, _⟩ := shp_int h1
      obtain ⟨i, e2, _⟩ := shp_int h2
      cases e0; cases e1; cases e2
      cases fuel with
      | zero => exact h3.elim
      | succ fuel =>
        simp only [Shp, Try.underlying22] at h3
        obtain ⟨es, e3, hw, hes⟩ := h3
        cases e3
        obtain ⟨l, rfl, hq⟩ := list_enc (f := encE) (Q := lenE) (es := es) fun p hp => by
          obtain ⟨qs, hs, rfl⟩ := hes p hp
          exact ih fuel (by omega) hs
        refine ⟨.node o x i l, by simp only [elemP, agE, if_true, encE_eq, encL_map, clE], ?_, lenL_of hq⟩
        rw [byE, List.length_map] at hw
        unfold lenMax
        unfold reachBytes at hw
        omega
theorem shp_ints {fuel : Nat} {ps : List PV} (h : Shp Try.prog fuel 33 ps) : ∃ l : List Int, elemP Try.prog 33 ps = .sl false 1 (encI l) ∧ l.length ≤ 35184372088831 ∧ ∀ n, n ∈ l → I64 n := by
  cases fuel with
  | zero => exact h.elim
  | succ fuel =>
    simp only [Shp, Try.underlying33] at h
    obtain ⟨es, rfl, hw, hes⟩ := h
    obtain ⟨l, rfl, hq⟩ := list_enc (f := fun n => PV.int .i64 n) (Q := I64) (es := es) fun p hp => by
      obtain ⟨qs, hs, rfl⟩ := hes p hp
      obtain ⟨n, rfl, hn⟩ := shp_int hs
      exact ⟨n, by simp [elemP, agI], hn⟩
    refine ⟨l, by simp only [elemP, agIs, Bool.false_eq_true, if_false, List.headD_cons, clI]; rfl, ?_, hq⟩
    rw [byI, List.length_map] at hw
    unfold reachBytes at hw
    omega
theorem shp_bytes {fuel : Nat} {ps : List PV} (h : Shp Try.prog fuel 32 ps) : ∃ l : List UInt8, elemP Try.prog 32 ps = .sl false 1 (encB l) ∧ l.length ≤ reachBytes := by
  cases fuel with
  | zero => exact h.elim
  | succ fuel =>
    simp only [Shp, Try.underlying32] at h
    obtain ⟨es, rfl, hw, hes⟩ := h
    obtain ⟨l, rfl, hq⟩ := list_enc (f := fun c : UInt8 => PV.int .u8 (c.toNat : Int)) (Q := fun _ => True) (es := es) fun p hp => by
      obtain ⟨qs, hs, rfl⟩ := hes p hp
      obtain ⟨c, rfl⟩ := shp_u8 hs
      exact ⟨c, by simp [elemP, agU], trivial⟩
    refine ⟨l, by simp only [elemP, agBs, Bool.false_eq_true, if_false, List.headD_cons, clU]; rfl, ?_⟩
    rw [byU, List.length_map] at hw
    simpa using hw
theorem shp_ranges {fuel : Nat} {ps : List PV} (h : Shp Try.prog fuel 40 ps) : ∃ l : List (Int × Int), elemP Try.prog 40 ps = encRs l ∧ l.length ≤ reachBytes ∧ ∀ p, p ∈ l → I8 p.1 ∧ I8 p.2 := by
  cases fuel with
  | zero => exact h.elim
  | succ fuel =>
    simp only [Shp, Try.underlying40] at h
    obtain ⟨es, rfl, hw, hes⟩ := h
    obtain ⟨l, rfl, hq⟩ := list_enc (f := encR) (Q := fun p => I8 p.1 ∧ I8 p.2) (es := es) fun p hp => by
      obtain ⟨qs, hs, rfl⟩ := hes p hp
      cases fuel with
      | zero => exact hs.elim
      | succ fuel =>
        simp only [Shp, Try.underlying62, partsR, clR] at hs
        obtain ⟨hl, hs⟩ := hs
        match qs, hl with
        | [a, b], _ =>
          have h0 := hs (0, 61) (by simp)
          have h1 := hs (1, 61) (by simp)
          simp only [clI8, List.drop, List.take] at h0 h1
          obtain ⟨x, e0, hx⟩ := shp_i8 h0
          obtain ⟨y, e1, hy⟩ := shp_i8 h1
          cases e0; cases e1
          exact ⟨(x, y), by simp [elemP, agRg, encR], hx, hy⟩
    refine ⟨l, by simp only [elemP, agRs, Bool.false_eq_true, if_false, List.headD_cons, clR]; rfl, ?_, hq⟩
    rw [byR, List.length_map] at hw
    unfold reachBytes at *
    omega
theorem shp_vars {fuel : Nat} {ps : List PV} (h : Shp Try.prog fuel 41 ps) : ∃ l : List VT, elemP Try.prog 41 ps = encVs l ∧ l.length ≤ 35184372088831 ∧ ∀ v, v ∈ l → v.name.size ≤ reachBytes ∧ I64 v.low ∧ I64 v.high ∧ I64 v.init := by
  cases fuel with
  | zero => exact h.elim
  | succ fuel =>
    simp only [Shp, Try.underlying41] at h
    obtain ⟨es, rfl, hw, hes⟩ := h
    obtain ⟨l, rfl, hq⟩ := list_enc (f := encV) (Q := fun v => v.name.size ≤ reachBytes ∧ I64 v.low ∧ I64 v.high ∧ I64 v.init) (es := es) fun p hp => by
      obtain ⟨qs, hs, rfl⟩ := hes p hp
      cases fuel with
      | zero => exact hs.elim
      | succ fuel =>
        simp only [Shp, Try.underlying48, partsV, clV] at hs
        obtain ⟨hl, hs⟩ := hs
        obtain ⟨a, b, c, d, rfl⟩ := four hl
        have h0 := hs (0, 9) (by simp)
        have h1 := hs (1, 3) (by simp)
        have h2 := hs (2, 3) (by simp)
        have h3 := hs (3, 3) (by simp)
        simp only [clI, clS, List.drop, List.take] at h0 h1 h2 h3
        obtain ⟨s, e0, hs0⟩ := shp_str h0
        obtain ⟨x, e1, hx⟩ := shp_int h1
        obtain ⟨y, e2, hy⟩ := shp_int h2
        obtain ⟨z, e3, hz⟩ := shp_int h3
        cases e0; cases e1; cases e2; cases e3
        exact ⟨⟨s, x, y, z⟩, by simp [elemP, agV, encV], hs0, hx, hy, hz⟩
    refine ⟨l, by simp only [elemP, agVs, Bool.false_eq_true, if_false, List.headD_cons, clV]; rfl, ?_, hq⟩
    rw [byV, List.length_map] at hw
    unfold reachBytes at hw
    omega
theorem shp_u3 {fuel : Nat} {ps : List PV} (h : Shp Try.prog fuel 50 ps) : ∃ a b c : UInt8, elemP Try.prog 50 ps = .agg [.int .u8 (a.toNat : Int), .int .u8 (b.toNat : Int), .int .u8 (c.toNat : Int)] := by
  cases fuel with
  | zero => exact h.elim
  | succ fuel =>
    simp only [Shp, Try.underlying50, partsU3, clU3] at h
    obtain ⟨hl, hs⟩ := h
    match ps, hl with
    | [a, b, c], _ =>
      have h0 := hs (0, 5) (by simp)
      have h1 := hs (1, 5) (by simp)
      have h2 := hs (2, 5) (by simp)
      simp only [clU, List.drop, List.take] at h0 h1 h2
      obtain ⟨x, e0⟩ := shp_u8 h0
      obtain ⟨y, e1⟩ := shp_u8 h1
      obtain ⟨z, e2⟩ := shp_u8 h2
      cases e0; cases e1; cases e2
      exact ⟨x, y, z, by simp [elemP, agU3]⟩
theorem shp_u6 {fuel : Nat} {ps : List PV} (h : Shp Try.prog fuel 60 ps) : ∃ a b c d e f : UInt8, elemP Try.prog 60 ps = .agg [.int .u8 (a.toNat : Int), .int .u8 (b.toNat : Int), .int .u8 (c.toNat : Int), .int .u8 (d.toNat : Int), .int .u8 (e.toNat : Int), .int .u8 (f.toNat : Int)] := by
  cases fuel with
  | zero => exact h.elim
  | succ fuel =>
    simp only [Shp, Try.underlying60, partsU6, clU6] at h
    obtain ⟨hl, hs⟩ := h
    match ps, hl with
    | [a, b, c, d, e, f], _ =>
      have h0 := hs (0, 5) (by simp)
      have h1 := hs (1, 5) (by simp)
      have h2 := hs (2, 5) (by simp)
      have h3 := hs (3, 5) (by simp)
      have h4 := hs (4, 5) (by simp)
      have h5 := hs (5, 5) (by simp)
      simp only [clU, List.drop, List.take] at h0 h1 h2 h3 h4 h5
      obtain ⟨x0, e0⟩ := shp_u8 h0
      obtain ⟨x1, e1⟩ := shp_u8 h1
      obtain ⟨x2, e2⟩ := shp_u8 h2
      obtain ⟨x3, e3⟩ := shp_u8 h3
      obtain ⟨x4, e4⟩ := shp_u8 h4
      obtain ⟨x5, e5⟩ := shp_u8 h5
      cases e0; cases e1; cases e2; cases e3; cases e4; cases e5
      exact ⟨x0, x1, x2, x3, x4, x5, by simp [elemP, agU6]⟩

theorem agS : aggT Try.prog 9 = false := by kernel_rfl
theorem shpe_int {fuel : Nat} {ps : List PV} (h : Shp Try.prog fuel 3 ps) : ∃ n, elemP Try.prog 3 ps = .int .i64 n ∧ I64 n := by
  obtain ⟨n, rfl, hn⟩ := shp_int h
  exact ⟨n, by simp [elemP, agI], hn⟩
theorem shpe_u8 {fuel : Nat} {ps : List PV} (h : Shp Try.prog fuel 5 ps) : ∃ c : UInt8, elemP Try.prog 5 ps = .int .u8 (c.toNat : Int) ∧ True := by
  obtain ⟨c, rfl⟩ := shp_u8 h
  exact ⟨c, by simp [elemP, agU], trivial⟩
theorem shpe_str {fuel : Nat} {ps : List PV} (h : Shp Try.prog fuel 9 ps) : ∃ s : ByteArray, elemP Try.prog 9 ps = .str s ∧ s.size ≤ reachBytes := by
  obtain ⟨s, rfl, hs⟩ := shp_str h
  exact ⟨s, by simp [elemP, agS], hs⟩
theorem shpe_u3 {fuel : Nat} {ps : List PV} (h : Shp Try.prog fuel 50 ps) : ∃ u : UInt8 × UInt8 × UInt8, elemP Try.prog 50 ps = .agg [.int .u8 (u.1.toNat : Int), .int .u8 (u.2.1.toNat : Int), .int .u8 (u.2.2.toNat : Int)] ∧ True := by
  obtain ⟨a, b, c, h⟩ := shp_u3 h
  exact ⟨(a, b, c), h, trivial⟩
theorem shpe_u6 {fuel : Nat} {ps : List PV} (h : Shp Try.prog fuel 60 ps) : ∃ u : UInt8 × UInt8 × UInt8 × UInt8 × UInt8 × UInt8, elemP Try.prog 60 ps = .agg [.int .u8 (u.1.toNat : Int), .int .u8 (u.2.1.toNat : Int), .int .u8 (u.2.2.1.toNat : Int), .int .u8 (u.2.2.2.1.toNat : Int), .int .u8 (u.2.2.2.2.1.toNat : Int), .int .u8 (u.2.2.2.2.2.toNat : Int)] ∧ True := by
  obtain ⟨a, b, c, d, e, f, h⟩ := shp_u6 h
  exact ⟨(a, b, c, d, e, f), h, trivial⟩
end Go.Proofs.Ytmclnnpaephkpaa

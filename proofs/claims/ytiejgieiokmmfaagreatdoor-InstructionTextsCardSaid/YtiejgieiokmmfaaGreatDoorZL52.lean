/-
  Words for chapter 52: programs, states, the plain run of a list, and what single operations do.
-/
import Derived.Test.YtiejgieiokmmfaaGreatDoorZT52a
import Derived.Test.YtiejgieiokmmfaaGreatDoorZT52b
import Derived.Test.YtiejgieiokmmfaaGreatDoorZT52c
namespace Go.Proofs.YtiejgieiokmmfaaGreatDoor
set_option linter.unusedVariables false
set_option linter.unusedSimpArgs false
set_option linter.unnecessarySimpa false
set_option linter.unusedSectionVars false
open Go.RowKit
abbrev Ret (p : PV) : R := some (p, [])
theorem decT {p : Prop} [Decidable p] (h : p) : decide p = true := by simp [h]
theorem decF {p : Prop} [Decidable p] (h : ¬ p) : decide p = false := by simp [h]
theorem wrs {k : Nat} (h : k < 1000000000000000) : IntKind.i64.wrap ((k : Int) + 1) = ((k + 1 : Nat) : Int) := by rw [IntKind.wrap_i64]; omega
theorem wr0 {k : Int} (h0 : -1000000000000000 < k) (h : k < 1000000000000000) : IntKind.i64.wrap k = k := by rw [IntKind.wrap_i64]; omega
theorem lget_map {α : Type} {f : α → PV} {l : List α} {k : Nat} {K : PV → R} {y : α} (h : l[k]? = some y) : lgetX (l.map f) (k : Int) K = K (f y) := lgetX_of (by omega) (by simp [h])
theorem get_lt {α : Type} {l : List α} {k : Nat} (h : k < l.length) : ∃ y, l[k]? = some y := ⟨_, List.getElem?_eq_getElem h⟩
theorem clH_of {C : Cal} {g : FuncId} {args : List PV} {h h' : Objs} {K : PV → Objs → R} {r : PV} (e : C g args h = some (r, h')) : clH C g args h K = K r h' := by unfold clH; rw [e]
theorem ngetX_of {es : List PV} {n : Nat} {K : PV → R} {e : PV} (h : es[n]? = some e) : ngetX es n K = K e := by unfold ngetX; rw [h]
/-- An instruction: the operation's number and the operand. -/
abbrev Ins := Int × Int
def insP (x : Ins) : PV := .agg [.int .i64 x.1, .int .i64 x.2]
def insL (l : List Ins) : List PV := l.map insP
def bitL (l : List Bool) : List PV := l.map PV.bool
def intL (l : List Int) : List PV := l.map (PV.int .i64)
structure Prg where
  ni : Int
  no : Int
  nm : Int
  start : List Bool
  list : List Ins
def prgP (p : Prg) : PV := .agg [.int .i64 p.ni, .int .i64 p.no, .int .i64 p.nm, .sl false 1 (bitL p.start), .sl false 2 (insL p.list)]
structure Stt where
  outs : List Bool
  mem : List Bool
def sttP (s : Stt) : PV := .agg [.sl false 1 (bitL s.outs), .sl false 1 (bitL s.mem)]
@[simp] theorem bitL_len (l : List Bool) : (bitL l).length = l.length := by simp [bitL]
@[simp] theorem intL_len (l : List Int) : (intL l).length = l.length := by simp [intL]
@[simp] theorem insL_len (l : List Ins) : (insL l).length = l.length := by simp [insL]
theorem bitL_app (a b : List Bool) : bitL a ++ bitL b = bitL (a ++ b) := by simp [bitL]
theorem intL_snoc (a : List Int) (x : Int) : intL a ++ [.int .i64 x] = intL (a ++ [x]) := by simp [intL]
theorem bitL_set (a : List Bool) (k : Nat) (x : Bool) : (bitL a).set k (.bool x) = bitL (a.set k x) := by simp [bitL]
theorem bitL_un (l : List Bool) : (bitL l).map PV.un = bitL l := by simp [bitL, PV.un]
theorem bitL_fl : ∀ l : List Bool, flatPV (bitL l) = bitL l
  | [] => rfl
  | b :: l => by show PV.un (.bool b) :: flatPV (bitL l) = _; rw [bitL_fl l]; rfl
theorem bitL_all {q : PV → Bool} (h : ∀ b, q (.bool b) = true) (l : List Bool) : (bitL l).all q = true := by simp [bitL, h]
theorem bitL_flC (l : List Bool) : (bitL l).all flC = true := bitL_all (fun _ => rfl) l
theorem bitL_plainC (l : List Bool) : (bitL l).all plainC = true := bitL_all (fun _ => rfl) l
theorem bitL_lit (l : List Bool) : (bitL l).all PV.lit = true := bitL_all (fun _ => rfl) l
theorem bitL_of (l : List Bool) : ((bitL l).all fun p => p.one && p.flat) = true := bitL_all (fun _ => rfl) l
theorem bitL_chunk (l : List Bool) {n : Nat} (h : l.length ≤ n) : chunkP 1 (bitL l) n = bitL l := by
  show ((bitL l).take n).map PV.un = _
  rw [List.take_of_length_le (by simpa using h), bitL_un]
theorem lget_bit {l : List Bool} {k : Nat} {b : Bool} {K : PV → R} (h : l[k]? = some b) : lgetX (bitL l) (k : Int) K = K (.bool b) := lget_map h
theorem lget_int {l : List Int} {k : Nat} {b : Int} {K : PV → R} (h : l[k]? = some b) : lgetX (intL l) (k : Int) K = K (.int .i64 b) := lget_map h
theorem lget_ins {l : List Ins} {k : Nat} {b : Ins} {K : PV → R} (h : l[k]? = some b) : lgetX (insL l) (k : Int) K = K (.agg [.int .i64 b.1, .int .i64 b.2]) := lget_map h
theorem nget_bit {l : List Bool} {k : Nat} {b : Bool} {K : PV → R} (h : l[k]? = some b) : ngetX (bitL l) k K = K (.bool b) := ngetX_of (by simp [bitL, h])
/-! ### operations -/
def opsP : List PV := [.agg [.int .i64 1, .str ⟨#[76, 68]⟩, .func (.func 49) [] [], .raw .nilFunc, .raw .nilFunc], .agg [.int .i64 2, .str ⟨#[76, 68, 78]⟩, .func (.func 50) [] [], .raw .nilFunc, .raw .nilFunc], .agg [.int .i64 3, .str ⟨#[65, 78, 68]⟩, .func (.func 51) [] [], .raw .nilFunc, .raw .nilFunc], .agg [.int .i64 4, .str ⟨#[65, 78, 68, 78]⟩, .func (.func 52) [] [], .raw .nilFunc, .raw .nilFunc], .agg [.int .i64 5, .str ⟨#[79, 82]⟩, .func (.func 53) [] [], .raw .nilFunc, .raw .nilFunc], .agg [.int .i64 6, .str ⟨#[79, 82, 78]⟩, .func (.func 54) [] [], .raw .nilFunc, .raw .nilFunc], .agg [.int .i64 7, .str ⟨#[83, 84]⟩, .raw .nilFunc, .func (.func 55) [] [], .raw .nilFunc], .agg [.int .i64 8, .str ⟨#[83, 84, 78]⟩, .raw .nilFunc, .func (.func 56) [] [], .raw .nilFunc], .agg [.int .i64 9, .str ⟨#[83]⟩, .raw .nilFunc, .func (.func 57) [] [], .raw .nilFunc], .agg [.int .i64 10, .str ⟨#[82]⟩, .raw .nilFunc, .func (.func 58) [] [], .raw .nilFunc], .agg [.int .i64 11, .str ⟨#[74, 77, 80]⟩, .raw .nilFunc, .raw .nilFunc, .func (.func 59) [] []], .agg [.int .i64 12, .str ⟨#[74, 77, 80, 67]⟩, .raw .nilFunc, .raw .nilFunc, .func (.func 60) [] []], .agg [.int .i64 13, .str ⟨#[74, 77, 80, 67, 78]⟩, .raw .nilFunc, .raw .nilFunc, .func (.func 61) [] []]]
theorem c63 : SS.CC 26 [] [] = Ret (.sl false 5 opsP) := g26_eq
/-- The number of the function that loads, stores or jumps; operation k has number k + 80. -/
def opN (k : Int) : ByteArray := match k with | 1 => ⟨#[76, 68]⟩ | 2 => ⟨#[76, 68, 78]⟩ | 3 => ⟨#[65, 78, 68]⟩ | 4 => ⟨#[65, 78, 68, 78]⟩ | 5 => ⟨#[79, 82]⟩ | 6 => ⟨#[79, 82, 78]⟩ | 7 => ⟨#[83, 84]⟩ | 8 => ⟨#[83, 84, 78]⟩ | 9 => ⟨#[83]⟩ | 10 => ⟨#[82]⟩ | 11 => ⟨#[74, 77, 80]⟩ | 12 => ⟨#[74, 77, 80, 67]⟩ | _ => ⟨#[74, 77, 80, 67, 78]⟩
def loadS (op : Int) (acc b : Bool) : Bool := match op with | 1 => b | 2 => !b | 3 => acc && b | 4 => acc && !b | 5 => acc || b | _ => acc || !b
def storeS (op : Int) (acc b : Bool) : Bool := match op with | 7 => acc | 8 => !acc | 9 => b || acc | _ => b && !acc
def jumpS (op : Int) (acc : Bool) : Bool := match op with | 11 => true | 12 => acc | _ => !acc
theorem op_load {k : Int} (h1 : 1 ≤ k) (h2 : k ≤ 6) : ∃ s : ByteArray, ∃ g : Nat, (∀ K : PV → R, lgetX opsP (IntKind.i64.wrap (k - 1)) K = K (.agg [.int .i64 k, .str s, .func (.func g) [] [], .raw .nilFunc, .raw .nilFunc])) ∧ s = opN k ∧ ∀ acc b, SS.CC g [.bool acc, .bool b] [] = Ret (.bool (loadS k acc b)) := by
  have : k = 1 ∨ k = 2 ∨ k = 3 ∨ k = 4 ∨ k = 5 ∨ k = 6 := by omega
  rcases this with rfl | rfl | rfl | rfl | rfl | rfl
  · exact ⟨_, 49, fun K => rfl, rfl, fun a b => g49_eq a b⟩
  · exact ⟨_, 50, fun K => rfl, rfl, fun a b => g50_eq a b⟩
  · exact ⟨_, 51, fun K => rfl, rfl, fun a b => by rw [g51_eq]; cases a <;> rfl⟩
  · exact ⟨_, 52, fun K => rfl, rfl, fun a b => by rw [g52_eq]; cases a <;> rfl⟩
  · exact ⟨_, 53, fun K => rfl, rfl, fun a b => by rw [g53_eq]; cases a <;> rfl⟩
  · exact ⟨_, 54, fun K => rfl, rfl, fun a b => by rw [g54_eq]; cases a <;> rfl⟩
theorem op_store {k : Int} (h1 : 7 ≤ k) (h2 : k ≤ 10) : ∃ s : ByteArray, ∃ g : Nat, (∀ K : PV → R, lgetX opsP (IntKind.i64.wrap (k - 1)) K = K (.agg [.int .i64 k, .str s, .raw .nilFunc, .func (.func g) [] [], .raw .nilFunc])) ∧ s = opN k ∧ ∀ acc b, SS.CC g [.bool acc, .bool b] [] = Ret (.bool (storeS k acc b)) := by
  have : k = 7 ∨ k = 8 ∨ k = 9 ∨ k = 10 := by omega
  rcases this with rfl | rfl | rfl | rfl
  · exact ⟨_, 55, fun K => rfl, rfl, fun a b => g55_eq a b⟩
  · exact ⟨_, 56, fun K => rfl, rfl, fun a b => g56_eq a b⟩
  · exact ⟨_, 57, fun K => rfl, rfl, fun a b => by rw [g57_eq]; cases b <;> rfl⟩
  · exact ⟨_, 58, fun K => rfl, rfl, fun a b => by rw [g58_eq]; cases b <;> rfl⟩
theorem op_jump {k : Int} (h1 : 11 ≤ k) (h2 : k ≤ 13) : ∃ s : ByteArray, ∃ g : Nat, (∀ K : PV → R, lgetX opsP (IntKind.i64.wrap (k - 1)) K = K (.agg [.int .i64 k, .str s, .raw .nilFunc, .raw .nilFunc, .func (.func g) [] []])) ∧ s = opN k ∧ ∀ acc, SS.CC g [.bool acc] [] = Ret (.bool (jumpS k acc)) := by
  have : k = 11 ∨ k = 12 ∨ k = 13 := by omega
  rcases this with rfl | rfl | rfl
  · exact ⟨_, 59, fun K => rfl, rfl, fun a => g59_eq a⟩
  · exact ⟨_, 60, fun K => rfl, rfl, fun a => g60_eq a⟩
  · exact ⟨_, 61, fun K => rfl, rfl, fun a => g61_eq a⟩
/-! ### the plain run -/
def runS (l : List Ins) : Nat → Nat → Bool → List Bool → List Int → List Int × List Bool
  | 0, _, _, b, st => (st, b)
  | f + 1, i, acc, b, st => match l[i]? with
    | none => (st, b)
    | some x => if x.1 ≤ 6 then runS l f (i + 1) (loadS x.1 acc (b.getD x.2.toNat false)) b (st ++ [(i : Int)])
      else if x.1 ≤ 10 then runS l f (i + 1) acc (b.set x.2.toNat (storeS x.1 acc (b.getD x.2.toNat false))) (st ++ [(i : Int)])
      else runS l f (if jumpS x.1 acc then x.2.toNat else i + 1) acc b (st ++ [(i : Int)])
/-- An instruction that is right, in a list of length n, over w bits. -/
def okI (w n i : Nat) (x : Ins) : Prop := 1 ≤ x.1 ∧ x.1 ≤ 13 ∧ (x.1 ≤ 10 → 0 ≤ x.2 ∧ x.2 < w) ∧ (11 ≤ x.1 → (i : Int) < x.2 ∧ x.2 ≤ n)
def okL (w : Nat) (l : List Ins) : Prop := l.length ≤ 2048 ∧ ∀ (i : Nat) x, l[i]? = some x → okI w l.length i x
end Go.Proofs.YtiejgieiokmmfaaGreatDoor

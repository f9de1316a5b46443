/-
  Trees, variables and numbers as abstract values; small words for proofs over the printed equations.
-/
import Derived.Test.YtmclnnpaephkpaaB14
import Derived.Test.YtmclnnpaephkpaaPE14
namespace Go.Proofs.Ytmclnnpaephkpaa
set_option linter.unusedVariables false
set_option linter.unusedSimpArgs false
set_option linter.unnecessarySimpa false
set_option linter.unusedSectionVars false
open Go.RowKit

mutual
def encE : EX → PV
  | .node o x i l => .agg [.int .i64 o, .int .i64 x, .int .i64 i, .sl false 4 (encL l)]
def encL : List EX → List PV
  | [] => []
  | e :: l => encE e :: encL l
end
theorem encL_map : ∀ l, encL l = l.map encE
  | [] => rfl
  | e :: l => by rw [encL, encL_map l]; rfl
theorem encE_eq (o x i : Int) (l : List EX) : encE (.node o x i l) = .agg [.int .i64 o, .int .i64 x, .int .i64 i, .sl false 4 (encL l)] := by rw [encE]
@[simp] theorem encL_length (l : List EX) : (encL l).length = l.length := by rw [encL_map]; simp
theorem encL_app (a b : List EX) : encL (a ++ b) = encL a ++ encL b := by simp [encL_map]
/-- Lists of a length that a machine holds. -/
def lenMax : Nat := 281474976710656
mutual
def lenE : EX → Prop
  | .node _ _ _ l => l.length ≤ lenMax ∧ lenL l
def lenL : List EX → Prop
  | [] => True
  | e :: l => lenE e ∧ lenL l
end
theorem lenL_mem : ∀ {l : List EX} {e : EX}, lenL l → e ∈ l → lenE e
  | a :: l, e, h, he => by
    rcases List.mem_cons.1 he with rfl | he
    · exact h.1
    · exact lenL_mem h.2 he
theorem lget_encL {l : List EX} {k : Nat} {K : PV → R} {y : EX} (h : l[k]? = some y) : lgetX (encL l) (k : Int) K = K (encE y) :=
  lgetX_of (by omega) (by rw [encL_map]; simp [h])
@[simp] theorem v23_enc (o x i : Int) (l : List EX) (K : Int → Int → Int → List PV → R) : v23 (encE (.node o x i l)) K = K o x i (encL l) := by rw [encE_eq]; rfl
def encI (l : List Int) : List PV := l.map fun n => .int .i64 n
@[simp] theorem encI_length (l : List Int) : (encI l).length = l.length := by simp [encI]
theorem lget_encI {l : List Int} {k : Nat} {K : PV → R} {y : Int} (h : l[k]? = some y) : lgetX (encI l) (k : Int) K = K (.int .i64 y) :=
  lgetX_of (by omega) (by simp [encI, h])
theorem encI_app (a b : List Int) : encI (a ++ b) = encI a ++ encI b := by simp [encI]
theorem encI_one (n : Int) : [PV.int .i64 n] = encI [n] := rfl
def encB (l : List UInt8) : List PV := l.map fun b => .int .u8 b.toNat
@[simp] theorem encB_length (l : List UInt8) : (encB l).length = l.length := by simp [encB]
theorem lget_encB {l : List UInt8} {k : Nat} {K : PV → R} {y : UInt8} (h : l[k]? = some y) : lgetX (encB l) (k : Int) K = K (.int .u8 y.toNat) :=
  lgetX_of (by omega) (by simp [encB, h])
theorem wr {n : Int} (h1 : -9223372036854775808 ≤ n) (h2 : n ≤ 9223372036854775807) : IntKind.i64.wrap n = n := wrap64 h1 h2
theorem wrs {k : Nat} (h : k < 1000000000000000) : IntKind.i64.wrap ((k : Int) + 1) = ((k + 1 : Nat) : Int) := by rw [wr (by omega) (by omega)]; omega
theorem drop_cons {α : Type} {l : List α} {k : Nat} {y : α} (h : l[k]? = some y) : l.drop k = y :: l.drop (k + 1) := by
  obtain ⟨h1, h2⟩ := List.getElem?_eq_some_iff.1 h
  rw [List.drop_eq_getElem_cons h1, h2]
theorem take_snoc {α : Type} {l : List α} {k : Nat} {y : α} (h : l[k]? = some y) : l.take (k + 1) = l.take k ++ [y] := by
  obtain ⟨h1, h2⟩ := List.getElem?_eq_some_iff.1 h
  rw [List.take_succ_eq_append_getElem h1, h2]
theorem get_lt {α : Type} {l : List α} {k : Nat} (h : k < l.length) : ∃ y, l[k]? = some y := ⟨_, List.getElem?_eq_getElem h⟩
theorem get_mem {α : Type} {l : List α} {k : Nat} {y : α} (h : l[k]? = some y) : y ∈ l := List.mem_of_getElem? h
theorem clH_of {C : Cal} {g : FuncId} {args : List PV} {h h' : Objs} {K : PV → Objs → R} {r : PV} (e : C g args h = some (r, h')) : clH C g args h K = K r h' := by unfold clH; rw [e]
abbrev T2 (a b : Int) : PV := .tuple [.int .i64 a, .int .i64 b]
abbrev Ret (p : PV) : R := some (p, [])
theorem decT {p : Prop} [Decidable p] (h : p) : decide p = true := by simp [h]
theorem decF {p : Prop} [Decidable p] (h : ¬ p) : decide p = false := by simp [h]
theorem mkE (e : EX) : PV.agg [.int .i64 e.op, .int .i64 e.val, .int .i64 e.idx, .sl false 4 (encL e.args)] = encE e := by cases e; rfl
theorem v23_e (e : EX) (K : Int → Int → Int → List PV → R) : v23 (encE e) K = K e.op e.val e.idx (encL e.args) := by cases e; rfl
def encV (v : VT) : PV := .agg [.str v.name, .int .i64 v.low, .int .i64 v.high, .int .i64 v.init]
def encR (p : Int × Int) : PV := .agg [.int .i8 p.1, .int .i8 p.2]
theorem v47_e (v : VT) (K : ByteArray → Int → Int → Int → R) : v47 (encV v) K = K v.name v.low v.high v.init := rfl
theorem v62_e (p : Int × Int) (K : Int → Int → R) : v62 (encR p) K = K p.1 p.2 := rfl
theorem lget_map {α : Type} {f : α → PV} {l : List α} {k : Nat} {K : PV → R} {y : α} (h : l[k]? = some y) : lgetX (l.map f) (k : Int) K = K (f y) := lgetX_of (by omega) (by simp [h])
end Go.Proofs.Ytmclnnpaephkpaa

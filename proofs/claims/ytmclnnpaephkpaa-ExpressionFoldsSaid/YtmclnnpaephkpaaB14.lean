/-
  The table of the program: how values of each type look, what each function's slots are. Printed by a program (wip/tool/dc.py).
-/
import Derived.Test.YtmclnnpaephkpaaAbZ
namespace Go.Proofs.Ytmclnnpaephkpaa
set_option linter.unusedVariables false
set_option linter.unusedSimpArgs false
set_option linter.unnecessarySimpa false
set_option linter.unusedSectionVars false
open Go.RowKit
set_option maxRecDepth 1000000
def v7 (p : PV) (K : Int → Int → Bool → Int → R) : R := match p with | .agg [.int .i64 x0, .int .i64 x1, .bool x2, .int .u8 x3] => K x0 x1 x2 x3 | _ => none
theorem v7_ok (p : PV) : (∀ K : PV → R, v7 p (fun x0 x1 x2 x3 => K (.agg [.int .i64 x0, .int .i64 x1, .bool x2, .int .u8 x3])) = K p) ∨ (∀ K : PV → R, v7 p (fun x0 x1 x2 x3 => K (.agg [.int .i64 x0, .int .i64 x1, .bool x2, .int .u8 x3])) = none) := by
  unfold v7; split
  · exact .inl fun _ => rfl
  · exact .inr fun _ => rfl
@[simp] theorem v7_mk (x0 : Int) (x1 : Int) (x2 : Bool) (x3 : Int) (K : Int → Int → Bool → Int → R) : v7 (.agg [.int .i64 x0, .int .i64 x1, .bool x2, .int .u8 x3]) K = K x0 x1 x2 x3 := rfl
def v13 (p : PV) (K : ByteArray → Int → R) : R := match p with | .agg [.str x0, .int .u64 x1] => K x0 x1 | _ => none
theorem v13_ok (p : PV) : (∀ K : PV → R, v13 p (fun x0 x1 => K (.agg [.str x0, .int .u64 x1])) = K p) ∨ (∀ K : PV → R, v13 p (fun x0 x1 => K (.agg [.str x0, .int .u64 x1])) = none) := by
  unfold v13; split
  · exact .inl fun _ => rfl
  · exact .inr fun _ => rfl
@[simp] theorem v13_mk (x0 : ByteArray) (x1 : Int) (K : ByteArray → Int → R) : v13 (.agg [.str x0, .int .u64 x1]) K = K x0 x1 := rfl
def v18 (p : PV) (K : PV → R) : R := match p with | .agg [x0] => K x0 | _ => none
theorem v18_ok (p : PV) : (∀ K : PV → R, v18 p (fun x0 => K (.agg [x0])) = K p) ∨ (∀ K : PV → R, v18 p (fun x0 => K (.agg [x0])) = none) := by
  unfold v18; split
  · exact .inl fun _ => rfl
  · exact .inr fun _ => rfl
@[simp] theorem v18_mk (x0 : PV) (K : PV → R) : v18 (.agg [x0]) K = K x0 := rfl
def v23 (p : PV) (K : Int → Int → Int → List PV → R) : R := match p with | .agg [.int .i64 x0, .int .i64 x1, .int .i64 x2, .sl false 4 x3] => K x0 x1 x2 x3 | _ => none
theorem v23_ok (p : PV) : (∀ K : PV → R, v23 p (fun x0 x1 x2 x3 => K (.agg [.int .i64 x0, .int .i64 x1, .int .i64 x2, .sl false 4 x3])) = K p) ∨ (∀ K : PV → R, v23 p (fun x0 x1 x2 x3 => K (.agg [.int .i64 x0, .int .i64 x1, .int .i64 x2, .sl false 4 x3])) = none) := by
  unfold v23; split
  · exact .inl fun _ => rfl
  · exact .inr fun _ => rfl
@[simp] theorem v23_mk (x0 : Int) (x1 : Int) (x2 : Int) (x3 : List PV) (K : Int → Int → Int → List PV → R) : v23 (.agg [.int .i64 x0, .int .i64 x1, .int .i64 x2, .sl false 4 x3]) K = K x0 x1 x2 x3 := rfl
def v47 (p : PV) (K : ByteArray → Int → Int → Int → R) : R := match p with | .agg [.str x0, .int .i64 x1, .int .i64 x2, .int .i64 x3] => K x0 x1 x2 x3 | _ => none
theorem v47_ok (p : PV) : (∀ K : PV → R, v47 p (fun x0 x1 x2 x3 => K (.agg [.str x0, .int .i64 x1, .int .i64 x2, .int .i64 x3])) = K p) ∨ (∀ K : PV → R, v47 p (fun x0 x1 x2 x3 => K (.agg [.str x0, .int .i64 x1, .int .i64 x2, .int .i64 x3])) = none) := by
  unfold v47; split
  · exact .inl fun _ => rfl
  · exact .inr fun _ => rfl
@[simp] theorem v47_mk (x0 : ByteArray) (x1 : Int) (x2 : Int) (x3 : Int) (K : ByteArray → Int → Int → Int → R) : v47 (.agg [.str x0, .int .i64 x1, .int .i64 x2, .int .i64 x3]) K = K x0 x1 x2 x3 := rfl
def v50 (p : PV) (K : Int → Int → Int → R) : R := match p with | .agg [.int .u8 x0, .int .u8 x1, .int .u8 x2] => K x0 x1 x2 | _ => none
theorem v50_ok (p : PV) : (∀ K : PV → R, v50 p (fun x0 x1 x2 => K (.agg [.int .u8 x0, .int .u8 x1, .int .u8 x2])) = K p) ∨ (∀ K : PV → R, v50 p (fun x0 x1 x2 => K (.agg [.int .u8 x0, .int .u8 x1, .int .u8 x2])) = none) := by
  unfold v50; split
  · exact .inl fun _ => rfl
  · exact .inr fun _ => rfl
@[simp] theorem v50_mk (x0 : Int) (x1 : Int) (x2 : Int) (K : Int → Int → Int → R) : v50 (.agg [.int .u8 x0, .int .u8 x1, .int .u8 x2]) K = K x0 x1 x2 := rfl
def v60 (p : PV) (K : Int → Int → Int → Int → Int → Int → R) : R := match p with | .agg [.int .u8 x0, .int .u8 x1, .int .u8 x2, .int .u8 x3, .int .u8 x4, .int .u8 x5] => K x0 x1 x2 x3 x4 x5 | _ => none
theorem v60_ok (p : PV) : (∀ K : PV → R, v60 p (fun x0 x1 x2 x3 x4 x5 => K (.agg [.int .u8 x0, .int .u8 x1, .int .u8 x2, .int .u8 x3, .int .u8 x4, .int .u8 x5])) = K p) ∨ (∀ K : PV → R, v60 p (fun x0 x1 x2 x3 x4 x5 => K (.agg [.int .u8 x0, .int .u8 x1, .int .u8 x2, .int .u8 x3, .int .u8 x4, .int .u8 x5])) = none) := by
  unfold v60; split
  · exact .inl fun _ => rfl
  · exact .inr fun _ => rfl
@[simp] theorem v60_mk (x0 : Int) (x1 : Int) (x2 : Int) (x3 : Int) (x4 : Int) (x5 : Int) (K : Int → Int → Int → Int → Int → Int → R) : v60 (.agg [.int .u8 x0, .int .u8 x1, .int .u8 x2, .int .u8 x3, .int .u8 x4, .int .u8 x5]) K = K x0 x1 x2 x3 x4 x5 := rfl
def v62 (p : PV) (K : Int → Int → R) : R := match p with | .agg [.int .i8 x0, .int .i8 x1] => K x0 x1 | _ => none
theorem v62_ok (p : PV) : (∀ K : PV → R, v62 p (fun x0 x1 => K (.agg [.int .i8 x0, .int .i8 x1])) = K p) ∨ (∀ K : PV → R, v62 p (fun x0 x1 => K (.agg [.int .i8 x0, .int .i8 x1])) = none) := by
  unfold v62; split
  · exact .inl fun _ => rfl
  · exact .inr fun _ => rfl
@[simp] theorem v62_mk (x0 : Int) (x1 : Int) (K : Int → Int → R) : v62 (.agg [.int .i8 x0, .int .i8 x1]) K = K x0 x1 := rfl
def v81 (p : PV) (K : List PV → Int → Int → R) : R := match p with | .agg [.sl false 1 x0, .int .i64 x1, .int .i64 x2] => K x0 x1 x2 | _ => none
theorem v81_ok (p : PV) : (∀ K : PV → R, v81 p (fun x0 x1 x2 => K (.agg [.sl false 1 x0, .int .i64 x1, .int .i64 x2])) = K p) ∨ (∀ K : PV → R, v81 p (fun x0 x1 x2 => K (.agg [.sl false 1 x0, .int .i64 x1, .int .i64 x2])) = none) := by
  unfold v81; split
  · exact .inl fun _ => rfl
  · exact .inr fun _ => rfl
@[simp] theorem v81_mk (x0 : List PV) (x1 : Int) (x2 : Int) (K : List PV → Int → Int → R) : v81 (.agg [.sl false 1 x0, .int .i64 x1, .int .i64 x2]) K = K x0 x1 x2 := rfl
def v87 (p : PV) (K : Int → Int → R) : R := match p with | .agg [.int .i64 x0, .int .i64 x1] => K x0 x1 | _ => none
theorem v87_ok (p : PV) : (∀ K : PV → R, v87 p (fun x0 x1 => K (.agg [.int .i64 x0, .int .i64 x1])) = K p) ∨ (∀ K : PV → R, v87 p (fun x0 x1 => K (.agg [.int .i64 x0, .int .i64 x1])) = none) := by
  unfold v87; split
  · exact .inl fun _ => rfl
  · exact .inr fun _ => rfl
@[simp] theorem v87_mk (x0 : Int) (x1 : Int) (K : Int → Int → R) : v87 (.agg [.int .i64 x0, .int .i64 x1]) K = K x0 x1 := rfl
def v129 (p : PV) (K : PV → PV → PV → ByteArray → R) : R := match p with | .agg [x0, x1, x2, .str x3] => K x0 x1 x2 x3 | _ => none
theorem v129_ok (p : PV) : (∀ K : PV → R, v129 p (fun x0 x1 x2 x3 => K (.agg [x0, x1, x2, .str x3])) = K p) ∨ (∀ K : PV → R, v129 p (fun x0 x1 x2 x3 => K (.agg [x0, x1, x2, .str x3])) = none) := by
  unfold v129; split
  · exact .inl fun _ => rfl
  · exact .inr fun _ => rfl
@[simp] theorem v129_mk (x0 : PV) (x1 : PV) (x2 : PV) (x3 : ByteArray) (K : PV → PV → PV → ByteArray → R) : v129 (.agg [x0, x1, x2, .str x3]) K = K x0 x1 x2 x3 := rfl
def v131 (p : PV) (K : R) : R := match p with | .agg [] => K | _ => none
theorem v131_ok (p : PV) : (∀ K : PV → R, v131 p (K (.agg [])) = K p) ∨ (∀ K : PV → R, v131 p (K (.agg [])) = none) := by
  unfold v131; split
  · exact .inl fun _ => rfl
  · exact .inr fun _ => rfl
def v132 (p : PV) (K : R) : R := match p with | .agg [] => K | _ => none
theorem v132_ok (p : PV) : (∀ K : PV → R, v132 p (K (.agg [])) = K p) ∨ (∀ K : PV → R, v132 p (K (.agg [])) = none) := by
  unfold v132; split
  · exact .inl fun _ => rfl
  · exact .inr fun _ => rfl
def v140 (p : PV) (K : Int → Int → Int → Int → Int → Int → Int → PV → PV → Int → Int → R) : R := match p with | .agg [.int .u64 x0, .int .u64 x1, .int .u32 x2, .int .u8 x3, .int .u8 x4, .int .u8 x5, .int .u8 x6, x7, x8, .int .i32 x9, .int .i32 x10] => K x0 x1 x2 x3 x4 x5 x6 x7 x8 x9 x10 | _ => none
theorem v140_ok (p : PV) : (∀ K : PV → R, v140 p (fun x0 x1 x2 x3 x4 x5 x6 x7 x8 x9 x10 => K (.agg [.int .u64 x0, .int .u64 x1, .int .u32 x2, .int .u8 x3, .int .u8 x4, .int .u8 x5, .int .u8 x6, x7, x8, .int .i32 x9, .int .i32 x10])) = K p) ∨ (∀ K : PV → R, v140 p (fun x0 x1 x2 x3 x4 x5 x6 x7 x8 x9 x10 => K (.agg [.int .u64 x0, .int .u64 x1, .int .u32 x2, .int .u8 x3, .int .u8 x4, .int .u8 x5, .int .u8 x6, x7, x8, .int .i32 x9, .int .i32 x10])) = none) := by
  unfold v140; split
  · exact .inl fun _ => rfl
  · exact .inr fun _ => rfl
@[simp] theorem v140_mk (x0 : Int) (x1 : Int) (x2 : Int) (x3 : Int) (x4 : Int) (x5 : Int) (x6 : Int) (x7 : PV) (x8 : PV) (x9 : Int) (x10 : Int) (K : Int → Int → Int → Int → Int → Int → Int → PV → PV → Int → Int → R) : v140 (.agg [.int .u64 x0, .int .u64 x1, .int .u32 x2, .int .u8 x3, .int .u8 x4, .int .u8 x5, .int .u8 x6, x7, x8, .int .i32 x9, .int .i32 x10]) K = K x0 x1 x2 x3 x4 x5 x6 x7 x8 x9 x10 := rfl
def VVp4 (t : TypeId) (p : PV) (K : PV → R) : R :=
  bsel (Nat.beq t 138) (vI .i32 p fun n1 => K (.int .i32 n1))
    (bsel (Nat.beq t 139) (vI .i32 p fun n1 => K (.int .i32 n1))
    (bsel (Nat.beq t 140) (v140 p fun n1 n2 n3 n4 n5 n6 n7 p8 p9 n10 n11 => K (.agg [.int .u64 n1, .int .u64 n2, .int .u32 n3, .int .u8 n4, .int .u8 n5, .int .u8 n6, .int .u8 n7, p8, p9, .int .i32 n10, .int .i32 n11]))
    (bsel (Nat.beq t 141) (v140 p fun n1 n2 n3 n4 n5 n6 n7 p8 p9 n10 n11 => K (.agg [.int .u64 n1, .int .u64 n2, .int .u32 n3, .int .u8 n4, .int .u8 n5, .int .u8 n6, .int .u8 n7, p8, p9, .int .i32 n10, .int .i32 n11]))
    (K p))))
theorem VVp4_ok (t : TypeId) (p : PV) : (∀ K : PV → R, VVp4 t p K = K p) ∨ (∀ K : PV → R, VVp4 t p K = none) :=
  view_bsel (vI_ok .i32 p) (view_bsel (vI_ok .i32 p) (view_bsel (v140_ok p) (view_bsel (v140_ok p) (.inl fun _ => rfl))))
def VVp3 (t : TypeId) (p : PV) (K : PV → R) : R :=
  bsel (Nat.beq t 103) (vL false 2 p fun l1 => K (.sl false 2 l1))
    (bsel (Nat.beq t 110) (vI .i64 p fun n1 => K (.int .i64 n1))
    (bsel (Nat.beq t 117) (vI .u32 p fun n1 => K (.int .u32 n1))
    (bsel (Nat.beq t 119) (vI .u64 p fun n1 => K (.int .u64 n1))
    (bsel (Nat.beq t 120) (vI .u64 p fun n1 => K (.int .u64 n1))
    (bsel (Nat.beq t 129) (v129 p fun p1 p2 p3 s4 => K (.agg [p1, p2, p3, .str s4]))
    (bsel (Nat.beq t 130) (v129 p fun p1 p2 p3 s4 => K (.agg [p1, p2, p3, .str s4]))
    (bsel (Nat.beq t 131) (v131 p (K (.agg [])))
    (bsel (Nat.beq t 132) (v132 p (K (.agg [])))
    (bsel (Nat.beq t 133) (v132 p (K (.agg [])))
    (bsel (Nat.beq t 134) (vI .u8 p fun n1 => K (.int .u8 n1))
    (bsel (Nat.beq t 135) (vI .u8 p fun n1 => K (.int .u8 n1))
    (VVp4 t p K))))))))))))
theorem VVp3_ok (t : TypeId) (p : PV) : (∀ K : PV → R, VVp3 t p K = K p) ∨ (∀ K : PV → R, VVp3 t p K = none) :=
  view_bsel (vL_ok false 2 p) (view_bsel (vI_ok .i64 p) (view_bsel (vI_ok .u32 p) (view_bsel (vI_ok .u64 p) (view_bsel (vI_ok .u64 p) (view_bsel (v129_ok p) (view_bsel (v129_ok p) (view_bsel (v131_ok p) (view_bsel (v132_ok p) (view_bsel (v132_ok p) (view_bsel (vI_ok .u8 p) (view_bsel (vI_ok .u8 p) (VVp4_ok t p))))))))))))
def VVp2 (t : TypeId) (p : PV) (K : PV → R) : R :=
  bsel (Nat.beq t 47) (v47 p fun s1 n2 n3 n4 => K (.agg [.str s1, .int .i64 n2, .int .i64 n3, .int .i64 n4]))
    (bsel (Nat.beq t 48) (v47 p fun s1 n2 n3 n4 => K (.agg [.str s1, .int .i64 n2, .int .i64 n3, .int .i64 n4]))
    (bsel (Nat.beq t 50) (v50 p fun n1 n2 n3 => K (.agg [.int .u8 n1, .int .u8 n2, .int .u8 n3]))
    (bsel (Nat.beq t 60) (v60 p fun n1 n2 n3 n4 n5 n6 => K (.agg [.int .u8 n1, .int .u8 n2, .int .u8 n3, .int .u8 n4, .int .u8 n5, .int .u8 n6]))
    (bsel (Nat.beq t 61) (vI .i8 p fun n1 => K (.int .i8 n1))
    (bsel (Nat.beq t 62) (v62 p fun n1 n2 => K (.agg [.int .i8 n1, .int .i8 n2]))
    (bsel (Nat.beq t 65) (vL false 1 p fun l1 => K (.sl false 1 l1))
    (bsel (Nat.beq t 81) (v81 p fun l1 n2 n3 => K (.agg [.sl false 1 l1, .int .i64 n2, .int .i64 n3]))
    (bsel (Nat.beq t 82) (v81 p fun l1 n2 n3 => K (.agg [.sl false 1 l1, .int .i64 n2, .int .i64 n3]))
    (bsel (Nat.beq t 87) (v87 p fun n1 n2 => K (.agg [.int .i64 n1, .int .i64 n2]))
    (bsel (Nat.beq t 88) (v87 p fun n1 n2 => K (.agg [.int .i64 n1, .int .i64 n2]))
    (bsel (Nat.beq t 92) (vI .u64 p fun n1 => K (.int .u64 n1))
    (VVp3 t p K))))))))))))
theorem VVp2_ok (t : TypeId) (p : PV) : (∀ K : PV → R, VVp2 t p K = K p) ∨ (∀ K : PV → R, VVp2 t p K = none) :=
  view_bsel (v47_ok p) (view_bsel (v47_ok p) (view_bsel (v50_ok p) (view_bsel (v60_ok p) (view_bsel (vI_ok .i8 p) (view_bsel (v62_ok p) (view_bsel (vL_ok false 1 p) (view_bsel (v81_ok p) (view_bsel (v81_ok p) (view_bsel (v87_ok p) (view_bsel (v87_ok p) (view_bsel (vI_ok .u64 p) (VVp3_ok t p))))))))))))
def VVp1 (t : TypeId) (p : PV) (K : PV → R) : R :=
  bsel (Nat.beq t 14) (v13 p fun s1 n2 => K (.agg [.str s1, .int .u64 n2]))
    (bsel (Nat.beq t 18) (v18 p fun p1 => K (.agg [p1]))
    (bsel (Nat.beq t 19) (v18 p fun p1 => K (.agg [p1]))
    (bsel (Nat.beq t 21) (vI .i32 p fun n1 => K (.int .i32 n1))
    (bsel (Nat.beq t 22) (vL false 4 p fun l1 => K (.sl false 4 l1))
    (bsel (Nat.beq t 23) (v23 p fun n1 n2 n3 l4 => K (.agg [.int .i64 n1, .int .i64 n2, .int .i64 n3, .sl false 4 l4]))
    (bsel (Nat.beq t 24) (v23 p fun n1 n2 n3 l4 => K (.agg [.int .i64 n1, .int .i64 n2, .int .i64 n3, .sl false 4 l4]))
    (bsel (Nat.beq t 27) (vI .i64 p fun n1 => K (.int .i64 n1))
    (bsel (Nat.beq t 32) (vL false 1 p fun l1 => K (.sl false 1 l1))
    (bsel (Nat.beq t 33) (vL false 1 p fun l1 => K (.sl false 1 l1))
    (bsel (Nat.beq t 40) (vL false 2 p fun l1 => K (.sl false 2 l1))
    (bsel (Nat.beq t 41) (vL false 4 p fun l1 => K (.sl false 4 l1))
    (VVp2 t p K))))))))))))
theorem VVp1_ok (t : TypeId) (p : PV) : (∀ K : PV → R, VVp1 t p K = K p) ∨ (∀ K : PV → R, VVp1 t p K = none) :=
  view_bsel (v13_ok p) (view_bsel (v18_ok p) (view_bsel (v18_ok p) (view_bsel (vI_ok .i32 p) (view_bsel (vL_ok false 4 p) (view_bsel (v23_ok p) (view_bsel (v23_ok p) (view_bsel (vI_ok .i64 p) (view_bsel (vL_ok false 1 p) (view_bsel (vL_ok false 1 p) (view_bsel (vL_ok false 2 p) (view_bsel (vL_ok false 4 p) (VVp2_ok t p))))))))))))
def VVp0 (t : TypeId) (p : PV) (K : PV → R) : R :=
  bsel (Nat.beq t 2) (vI .i64 p fun n1 => K (.int .i64 n1))
    (bsel (Nat.beq t 3) (vI .i64 p fun n1 => K (.int .i64 n1))
    (bsel (Nat.beq t 4) (vB p fun b1 => K (.bool b1))
    (bsel (Nat.beq t 5) (vI .u8 p fun n1 => K (.int .u8 n1))
    (bsel (Nat.beq t 6) (vI .u8 p fun n1 => K (.int .u8 n1))
    (bsel (Nat.beq t 7) (v7 p fun n1 n2 b3 n4 => K (.agg [.int .i64 n1, .int .i64 n2, .bool b3, .int .u8 n4]))
    (bsel (Nat.beq t 8) (v7 p fun n1 n2 b3 n4 => K (.agg [.int .i64 n1, .int .i64 n2, .bool b3, .int .u8 n4]))
    (bsel (Nat.beq t 9) (vS p fun s1 => K (.str s1))
    (bsel (Nat.beq t 10) (vS p fun s1 => K (.str s1))
    (bsel (Nat.beq t 11) (vS p fun s1 => K (.str s1))
    (bsel (Nat.beq t 12) (vI .u64 p fun n1 => K (.int .u64 n1))
    (bsel (Nat.beq t 13) (v13 p fun s1 n2 => K (.agg [.str s1, .int .u64 n2]))
    (VVp1 t p K))))))))))))
theorem VVp0_ok (t : TypeId) (p : PV) : (∀ K : PV → R, VVp0 t p K = K p) ∨ (∀ K : PV → R, VVp0 t p K = none) :=
  view_bsel (vI_ok .i64 p) (view_bsel (vI_ok .i64 p) (view_bsel (vB_ok p) (view_bsel (vI_ok .u8 p) (view_bsel (vI_ok .u8 p) (view_bsel (v7_ok p) (view_bsel (v7_ok p) (view_bsel (vS_ok p) (view_bsel (vS_ok p) (view_bsel (vS_ok p) (view_bsel (vI_ok .u64 p) (view_bsel (v13_ok p) (VVp1_ok t p))))))))))))
def VV : TypeId → PV → (PV → R) → R := VVp0
theorem VV_ok : viewOK VV := VVp0_ok
def w_3_3 (p : PV) (K : Int → Int → R) : R := match p with | .tuple [.int .i64 n1, .int .i64 n2] => K n1 n2 | _ => none
theorem w_3_3_ok (p : PV) (h : Objs) : (∀ K : PV → Objs → R, w_3_3 p (fun n1 n2 => K (.tuple [.int .i64 n1, .int .i64 n2]) h) = K p h) ∨ (∀ K : PV → Objs → R, w_3_3 p (fun n1 n2 => K (.tuple [.int .i64 n1, .int .i64 n2]) h) = none) := by
  unfold w_3_3; split
  · exact .inl fun _ => rfl
  · exact .inr fun _ => rfl
@[simp] theorem w_3_3_mk (n1 : Int) (n2 : Int) (K : Int → Int → R) : w_3_3 (.tuple [.int .i64 n1, .int .i64 n2]) K = K n1 n2 := rfl
def w_3_4 (p : PV) (K : Int → Bool → R) : R := match p with | .tuple [.int .i64 n1, .bool b2] => K n1 b2 | _ => none
theorem w_3_4_ok (p : PV) (h : Objs) : (∀ K : PV → Objs → R, w_3_4 p (fun n1 b2 => K (.tuple [.int .i64 n1, .bool b2]) h) = K p h) ∨ (∀ K : PV → Objs → R, w_3_4 p (fun n1 b2 => K (.tuple [.int .i64 n1, .bool b2]) h) = none) := by
  unfold w_3_4; split
  · exact .inl fun _ => rfl
  · exact .inr fun _ => rfl
@[simp] theorem w_3_4_mk (n1 : Int) (b2 : Bool) (K : Int → Bool → R) : w_3_4 (.tuple [.int .i64 n1, .bool b2]) K = K n1 b2 := rfl
def w_3_3_3 (p : PV) (K : Int → Int → Int → R) : R := match p with | .tuple [.int .i64 n1, .int .i64 n2, .int .i64 n3] => K n1 n2 n3 | _ => none
theorem w_3_3_3_ok (p : PV) (h : Objs) : (∀ K : PV → Objs → R, w_3_3_3 p (fun n1 n2 n3 => K (.tuple [.int .i64 n1, .int .i64 n2, .int .i64 n3]) h) = K p h) ∨ (∀ K : PV → Objs → R, w_3_3_3 p (fun n1 n2 n3 => K (.tuple [.int .i64 n1, .int .i64 n2, .int .i64 n3]) h) = none) := by
  unfold w_3_3_3; split
  · exact .inl fun _ => rfl
  · exact .inr fun _ => rfl
@[simp] theorem w_3_3_3_mk (n1 : Int) (n2 : Int) (n3 : Int) (K : Int → Int → Int → R) : w_3_3_3 (.tuple [.int .i64 n1, .int .i64 n2, .int .i64 n3]) K = K n1 n2 n3 := rfl
def w_3_3_4 (p : PV) (K : Int → Int → Bool → R) : R := match p with | .tuple [.int .i64 n1, .int .i64 n2, .bool b3] => K n1 n2 b3 | _ => none
theorem w_3_3_4_ok (p : PV) (h : Objs) : (∀ K : PV → Objs → R, w_3_3_4 p (fun n1 n2 b3 => K (.tuple [.int .i64 n1, .int .i64 n2, .bool b3]) h) = K p h) ∨ (∀ K : PV → Objs → R, w_3_3_4 p (fun n1 n2 b3 => K (.tuple [.int .i64 n1, .int .i64 n2, .bool b3]) h) = none) := by
  unfold w_3_3_4; split
  · exact .inl fun _ => rfl
  · exact .inr fun _ => rfl
@[simp] theorem w_3_3_4_mk (n1 : Int) (n2 : Int) (b3 : Bool) (K : Int → Int → Bool → R) : w_3_3_4 (.tuple [.int .i64 n1, .int .i64 n2, .bool b3]) K = K n1 n2 b3 := rfl
def w_23_3 (p : PV) (K : Int → Int → Int → List PV → Int → R) : R := match p with | .tuple [.agg [.int .i64 n1, .int .i64 n2, .int .i64 n3, .sl false 4 l4], .int .i64 n5] => K n1 n2 n3 l4 n5 | _ => none
theorem w_23_3_ok (p : PV) (h : Objs) : (∀ K : PV → Objs → R, w_23_3 p (fun n1 n2 n3 l4 n5 => K (.tuple [.agg [.int .i64 n1, .int .i64 n2, .int .i64 n3, .sl false 4 l4], .int .i64 n5]) h) = K p h) ∨ (∀ K : PV → Objs → R, w_23_3 p (fun n1 n2 n3 l4 n5 => K (.tuple [.agg [.int .i64 n1, .int .i64 n2, .int .i64 n3, .sl false 4 l4], .int .i64 n5]) h) = none) := by
  unfold w_23_3; split
  · exact .inl fun _ => rfl
  · exact .inr fun _ => rfl
@[simp] theorem w_23_3_mk (n1 : Int) (n2 : Int) (n3 : Int) (l4 : List PV) (n5 : Int) (K : Int → Int → Int → List PV → Int → R) : w_23_3 (.tuple [.agg [.int .i64 n1, .int .i64 n2, .int .i64 n3, .sl false 4 l4], .int .i64 n5]) K = K n1 n2 n3 l4 n5 := rfl
def w_65_3 (p : PV) (K : List PV → Int → R) : R := match p with | .tuple [.sl false 1 l1, .int .i64 n2] => K l1 n2 | _ => none
theorem w_65_3_ok (p : PV) (h : Objs) : (∀ K : PV → Objs → R, w_65_3 p (fun l1 n2 => K (.tuple [.sl false 1 l1, .int .i64 n2]) h) = K p h) ∨ (∀ K : PV → Objs → R, w_65_3 p (fun l1 n2 => K (.tuple [.sl false 1 l1, .int .i64 n2]) h) = none) := by
  unfold w_65_3; split
  · exact .inl fun _ => rfl
  · exact .inr fun _ => rfl
@[simp] theorem w_65_3_mk (l1 : List PV) (n2 : Int) (K : List PV → Int → R) : w_65_3 (.tuple [.sl false 1 l1, .int .i64 n2]) K = K l1 n2 := rfl
def w_33_3 (p : PV) (K : List PV → Int → R) : R := match p with | .tuple [.sl false 1 l1, .int .i64 n2] => K l1 n2 | _ => none
theorem w_33_3_ok (p : PV) (h : Objs) : (∀ K : PV → Objs → R, w_33_3 p (fun l1 n2 => K (.tuple [.sl false 1 l1, .int .i64 n2]) h) = K p h) ∨ (∀ K : PV → Objs → R, w_33_3 p (fun l1 n2 => K (.tuple [.sl false 1 l1, .int .i64 n2]) h) = none) := by
  unfold w_33_3; split
  · exact .inl fun _ => rfl
  · exact .inr fun _ => rfl
@[simp] theorem w_33_3_mk (l1 : List PV) (n2 : Int) (K : List PV → Int → R) : w_33_3 (.tuple [.sl false 1 l1, .int .i64 n2]) K = K l1 n2 := rfl
def w_87_4 (p : PV) (K : Int → Int → Bool → R) : R := match p with | .tuple [.agg [.int .i64 n1, .int .i64 n2], .bool b3] => K n1 n2 b3 | _ => none
theorem w_87_4_ok (p : PV) (h : Objs) : (∀ K : PV → Objs → R, w_87_4 p (fun n1 n2 b3 => K (.tuple [.agg [.int .i64 n1, .int .i64 n2], .bool b3]) h) = K p h) ∨ (∀ K : PV → Objs → R, w_87_4 p (fun n1 n2 b3 => K (.tuple [.agg [.int .i64 n1, .int .i64 n2], .bool b3]) h) = none) := by
  unfold w_87_4; split
  · exact .inl fun _ => rfl
  · exact .inr fun _ => rfl
@[simp] theorem w_87_4_mk (n1 : Int) (n2 : Int) (b3 : Bool) (K : Int → Int → Bool → R) : w_87_4 (.tuple [.agg [.int .i64 n1, .int .i64 n2], .bool b3]) K = K n1 n2 b3 := rfl
def h41_0 (p : PV) (h : Objs) (K : Bool → Int → R) : R := match p, h with | .bool b1, [some [.int .i64 n2]] => K b1 n2 | _, _ => none
theorem h41_0_ok (p : PV) (h : Objs) : (∀ K : PV → Objs → R, h41_0 p h (fun b1 n2 => K (.bool b1) [some [.int .i64 n2]]) = K p h) ∨ (∀ K : PV → Objs → R, h41_0 p h (fun b1 n2 => K (.bool b1) [some [.int .i64 n2]]) = none) := by
  unfold h41_0; split
  · exact .inl fun _ => rfl
  · exact .inr fun _ => rfl
@[simp] theorem h41_0_mk (b1 : Bool) (n2 : Int) (K : Bool → Int → R) : h41_0 (.bool b1) [some [.int .i64 n2]] K = K b1 n2 := rfl
def h42_0 (p : PV) (h : Objs) (K : Int → Int → R) : R := match p, h with | .int .i64 n1, [some [.int .i64 n2]] => K n1 n2 | _, _ => none
theorem h42_0_ok (p : PV) (h : Objs) : (∀ K : PV → Objs → R, h42_0 p h (fun n1 n2 => K (.int .i64 n1) [some [.int .i64 n2]]) = K p h) ∨ (∀ K : PV → Objs → R, h42_0 p h (fun n1 n2 => K (.int .i64 n1) [some [.int .i64 n2]]) = none) := by
  unfold h42_0; split
  · exact .inl fun _ => rfl
  · exact .inr fun _ => rfl
@[simp] theorem h42_0_mk (n1 : Int) (n2 : Int) (K : Int → Int → R) : h42_0 (.int .i64 n1) [some [.int .i64 n2]] K = K n1 n2 := rfl
def h44_0 (p : PV) (h : Objs) (K : Int → Int → R) : R := match p, h with | .int .i64 n1, [some [.int .i64 n2]] => K n1 n2 | _, _ => none
theorem h44_0_ok (p : PV) (h : Objs) : (∀ K : PV → Objs → R, h44_0 p h (fun n1 n2 => K (.int .i64 n1) [some [.int .i64 n2]]) = K p h) ∨ (∀ K : PV → Objs → R, h44_0 p h (fun n1 n2 => K (.int .i64 n1) [some [.int .i64 n2]]) = none) := by
  unfold h44_0; split
  · exact .inl fun _ => rfl
  · exact .inr fun _ => rfl
@[simp] theorem h44_0_mk (n1 : Int) (n2 : Int) (K : Int → Int → R) : h44_0 (.int .i64 n1) [some [.int .i64 n2]] K = K n1 n2 := rfl
def h46_0 (p : PV) (h : Objs) (K : Int → Int → Int → List PV → List PV → Int → Int → R) : R := match p, h with | .agg [.int .i64 n1, .int .i64 n2, .int .i64 n3, .sl false 4 l4], [some [.sl false 1 l5, .int .i64 n6, .int .i64 n7]] => K n1 n2 n3 l4 l5 n6 n7 | _, _ => none
theorem h46_0_ok (p : PV) (h : Objs) : (∀ K : PV → Objs → R, h46_0 p h (fun n1 n2 n3 l4 l5 n6 n7 => K (.agg [.int .i64 n1, .int .i64 n2, .int .i64 n3, .sl false 4 l4]) [some [.sl false 1 l5, .int .i64 n6, .int .i64 n7]]) = K p h) ∨ (∀ K : PV → Objs → R, h46_0 p h (fun n1 n2 n3 l4 l5 n6 n7 => K (.agg [.int .i64 n1, .int .i64 n2, .int .i64 n3, .sl false 4 l4]) [some [.sl false 1 l5, .int .i64 n6, .int .i64 n7]]) = none) := by
  unfold h46_0; split
  · exact .inl fun _ => rfl
  · exact .inr fun _ => rfl
@[simp] theorem h46_0_mk (n1 : Int) (n2 : Int) (n3 : Int) (l4 : List PV) (l5 : List PV) (n6 : Int) (n7 : Int) (K : Int → Int → Int → List PV → List PV → Int → Int → R) : h46_0 (.agg [.int .i64 n1, .int .i64 n2, .int .i64 n3, .sl false 4 l4]) [some [.sl false 1 l5, .int .i64 n6, .int .i64 n7]] K = K n1 n2 n3 l4 l5 n6 n7 := rfl
def h54_0 (p : PV) (h : Objs) (K : Int → Int → Int → List PV → List PV → R) : R := match p, h with | .agg [.int .i64 n1, .int .i64 n2, .int .i64 n3, .sl false 4 l4], [some [.sl true 1 l5]] => K n1 n2 n3 l4 l5 | _, _ => none
theorem h54_0_ok (p : PV) (h : Objs) : (∀ K : PV → Objs → R, h54_0 p h (fun n1 n2 n3 l4 l5 => K (.agg [.int .i64 n1, .int .i64 n2, .int .i64 n3, .sl false 4 l4]) [some [.sl true 1 l5]]) = K p h) ∨ (∀ K : PV → Objs → R, h54_0 p h (fun n1 n2 n3 l4 l5 => K (.agg [.int .i64 n1, .int .i64 n2, .int .i64 n3, .sl false 4 l4]) [some [.sl true 1 l5]]) = none) := by
  unfold h54_0; split
  · exact .inl fun _ => rfl
  · exact .inr fun _ => rfl
@[simp] theorem h54_0_mk (n1 : Int) (n2 : Int) (n3 : Int) (l4 : List PV) (l5 : List PV) (K : Int → Int → Int → List PV → List PV → R) : h54_0 (.agg [.int .i64 n1, .int .i64 n2, .int .i64 n3, .sl false 4 l4]) [some [.sl true 1 l5]] K = K n1 n2 n3 l4 l5 := rfl
def h59_0 (p : PV) (h : Objs) (K : Bool → ByteArray → Int → Int → Int → R) : R := match p, h with | .bool b1, [some [.str s2, .int .i64 n3, .int .i64 n4, .int .i64 n5]] => K b1 s2 n3 n4 n5 | _, _ => none
theorem h59_0_ok (p : PV) (h : Objs) : (∀ K : PV → Objs → R, h59_0 p h (fun b1 s2 n3 n4 n5 => K (.bool b1) [some [.str s2, .int .i64 n3, .int .i64 n4, .int .i64 n5]]) = K p h) ∨ (∀ K : PV → Objs → R, h59_0 p h (fun b1 s2 n3 n4 n5 => K (.bool b1) [some [.str s2, .int .i64 n3, .int .i64 n4, .int .i64 n5]]) = none) := by
  unfold h59_0; split
  · exact .inl fun _ => rfl
  · exact .inr fun _ => rfl
@[simp] theorem h59_0_mk (b1 : Bool) (s2 : ByteArray) (n3 : Int) (n4 : Int) (n5 : Int) (K : Bool → ByteArray → Int → Int → Int → R) : h59_0 (.bool b1) [some [.str s2, .int .i64 n3, .int .i64 n4, .int .i64 n5]] K = K b1 s2 n3 n4 n5 := rfl
def h60_0 (p : PV) (h : Objs) (K : Bool → ByteArray → Int → Int → Int → R) : R := match p, h with | .bool b1, [some [.str s2, .int .i64 n3, .int .i64 n4, .int .i64 n5]] => K b1 s2 n3 n4 n5 | _, _ => none
theorem h60_0_ok (p : PV) (h : Objs) : (∀ K : PV → Objs → R, h60_0 p h (fun b1 s2 n3 n4 n5 => K (.bool b1) [some [.str s2, .int .i64 n3, .int .i64 n4, .int .i64 n5]]) = K p h) ∨ (∀ K : PV → Objs → R, h60_0 p h (fun b1 s2 n3 n4 n5 => K (.bool b1) [some [.str s2, .int .i64 n3, .int .i64 n4, .int .i64 n5]]) = none) := by
  unfold h60_0; split
  · exact .inl fun _ => rfl
  · exact .inr fun _ => rfl
@[simp] theorem h60_0_mk (b1 : Bool) (s2 : ByteArray) (n3 : Int) (n4 : Int) (n5 : Int) (K : Bool → ByteArray → Int → Int → Int → R) : h60_0 (.bool b1) [some [.str s2, .int .i64 n3, .int .i64 n4, .int .i64 n5]] K = K b1 s2 n3 n4 n5 := rfl
def h62_0 (p : PV) (h : Objs) (K : Int → Int → Int → List PV → List PV → R) : R := match p, h with | .agg [.int .i64 n1, .int .i64 n2, .int .i64 n3, .sl false 4 l4], [some [.sl true 1 l5]] => K n1 n2 n3 l4 l5 | _, _ => none
theorem h62_0_ok (p : PV) (h : Objs) : (∀ K : PV → Objs → R, h62_0 p h (fun n1 n2 n3 l4 l5 => K (.agg [.int .i64 n1, .int .i64 n2, .int .i64 n3, .sl false 4 l4]) [some [.sl true 1 l5]]) = K p h) ∨ (∀ K : PV → Objs → R, h62_0 p h (fun n1 n2 n3 l4 l5 => K (.agg [.int .i64 n1, .int .i64 n2, .int .i64 n3, .sl false 4 l4]) [some [.sl true 1 l5]]) = none) := by
  unfold h62_0; split
  · exact .inl fun _ => rfl
  · exact .inr fun _ => rfl
@[simp] theorem h62_0_mk (n1 : Int) (n2 : Int) (n3 : Int) (l4 : List PV) (l5 : List PV) (K : Int → Int → Int → List PV → List PV → R) : h62_0 (.agg [.int .i64 n1, .int .i64 n2, .int .i64 n3, .sl false 4 l4]) [some [.sl true 1 l5]] K = K n1 n2 n3 l4 l5 := rfl
def h66_0 (p : PV) (h : Objs) (K : Bool → List PV → R) : R := match p, h with | .bool b1, [some [.sl true 1 l2]] => K b1 l2 | _, _ => none
theorem h66_0_ok (p : PV) (h : Objs) : (∀ K : PV → Objs → R, h66_0 p h (fun b1 l2 => K (.bool b1) [some [.sl true 1 l2]]) = K p h) ∨ (∀ K : PV → Objs → R, h66_0 p h (fun b1 l2 => K (.bool b1) [some [.sl true 1 l2]]) = none) := by
  unfold h66_0; split
  · exact .inl fun _ => rfl
  · exact .inr fun _ => rfl
@[simp] theorem h66_0_mk (b1 : Bool) (l2 : List PV) (K : Bool → List PV → R) : h66_0 (.bool b1) [some [.sl true 1 l2]] K = K b1 l2 := rfl
def h69_0 (p : PV) (h : Objs) (K : Int → List PV → Int → Int → R) : R := match p, h with | .int .i64 n1, [some [.sl false 1 l2, .int .i64 n3, .int .i64 n4]] => K n1 l2 n3 n4 | _, _ => none
theorem h69_0_ok (p : PV) (h : Objs) : (∀ K : PV → Objs → R, h69_0 p h (fun n1 l2 n3 n4 => K (.int .i64 n1) [some [.sl false 1 l2, .int .i64 n3, .int .i64 n4]]) = K p h) ∨ (∀ K : PV → Objs → R, h69_0 p h (fun n1 l2 n3 n4 => K (.int .i64 n1) [some [.sl false 1 l2, .int .i64 n3, .int .i64 n4]]) = none) := by
  unfold h69_0; split
  · exact .inl fun _ => rfl
  · exact .inr fun _ => rfl
@[simp] theorem h69_0_mk (n1 : Int) (l2 : List PV) (n3 : Int) (n4 : Int) (K : Int → List PV → Int → Int → R) : h69_0 (.int .i64 n1) [some [.sl false 1 l2, .int .i64 n3, .int .i64 n4]] K = K n1 l2 n3 n4 := rfl
def h77_0 (p : PV) (h : Objs) (K : Int → ByteArray → Int → Int → Int → R) : R := match p, h with | .int .i64 n1, [some [.str s2, .int .i64 n3, .int .i64 n4, .int .i64 n5]] => K n1 s2 n3 n4 n5 | _, _ => none
theorem h77_0_ok (p : PV) (h : Objs) : (∀ K : PV → Objs → R, h77_0 p h (fun n1 s2 n3 n4 n5 => K (.int .i64 n1) [some [.str s2, .int .i64 n3, .int .i64 n4, .int .i64 n5]]) = K p h) ∨ (∀ K : PV → Objs → R, h77_0 p h (fun n1 s2 n3 n4 n5 => K (.int .i64 n1) [some [.str s2, .int .i64 n3, .int .i64 n4, .int .i64 n5]]) = none) := by
  unfold h77_0; split
  · exact .inl fun _ => rfl
  · exact .inr fun _ => rfl
@[simp] theorem h77_0_mk (n1 : Int) (s2 : ByteArray) (n3 : Int) (n4 : Int) (n5 : Int) (K : Int → ByteArray → Int → Int → Int → R) : h77_0 (.int .i64 n1) [some [.str s2, .int .i64 n3, .int .i64 n4, .int .i64 n5]] K = K n1 s2 n3 n4 n5 := rfl
def h94_0 (p : PV) (h : Objs) (K : Int → Int → R) : R := match p, h with | .int .u64 n1, [some [.int .u64 n2]] => K n1 n2 | _, _ => none
theorem h94_0_ok (p : PV) (h : Objs) : (∀ K : PV → Objs → R, h94_0 p h (fun n1 n2 => K (.int .u64 n1) [some [.int .u64 n2]]) = K p h) ∨ (∀ K : PV → Objs → R, h94_0 p h (fun n1 n2 => K (.int .u64 n1) [some [.int .u64 n2]]) = none) := by
  unfold h94_0; split
  · exact .inl fun _ => rfl
  · exact .inr fun _ => rfl
@[simp] theorem h94_0_mk (n1 : Int) (n2 : Int) (K : Int → Int → R) : h94_0 (.int .u64 n1) [some [.int .u64 n2]] K = K n1 n2 := rfl
def h95_0 (p : PV) (h : Objs) (K : Int → Int → R) : R := match p, h with | .int .i64 n1, [some [.int .i64 n2]] => K n1 n2 | _, _ => none
theorem h95_0_ok (p : PV) (h : Objs) : (∀ K : PV → Objs → R, h95_0 p h (fun n1 n2 => K (.int .i64 n1) [some [.int .i64 n2]]) = K p h) ∨ (∀ K : PV → Objs → R, h95_0 p h (fun n1 n2 => K (.int .i64 n1) [some [.int .i64 n2]]) = none) := by
  unfold h95_0; split
  · exact .inl fun _ => rfl
  · exact .inr fun _ => rfl
@[simp] theorem h95_0_mk (n1 : Int) (n2 : Int) (K : Int → Int → R) : h95_0 (.int .i64 n1) [some [.int .i64 n2]] K = K n1 n2 := rfl
def h96_0 (p : PV) (h : Objs) (K : Int → Int → R) : R := match p, h with | .int .i64 n1, [some [.int .i64 n2]] => K n1 n2 | _, _ => none
theorem h96_0_ok (p : PV) (h : Objs) : (∀ K : PV → Objs → R, h96_0 p h (fun n1 n2 => K (.int .i64 n1) [some [.int .i64 n2]]) = K p h) ∨ (∀ K : PV → Objs → R, h96_0 p h (fun n1 n2 => K (.int .i64 n1) [some [.int .i64 n2]]) = none) := by
  unfold h96_0; split
  · exact .inl fun _ => rfl
  · exact .inr fun _ => rfl
@[simp] theorem h96_0_mk (n1 : Int) (n2 : Int) (K : Int → Int → R) : h96_0 (.int .i64 n1) [some [.int .i64 n2]] K = K n1 n2 := rfl
def h98_0 (p : PV) (h : Objs) (K : Int → Int → Int → R) : R := match p, h with | .tuple [.int .i64 n1, .int .i64 n2], [some [.int .i64 n3]] => K n1 n2 n3 | _, _ => none
theorem h98_0_ok (p : PV) (h : Objs) : (∀ K : PV → Objs → R, h98_0 p h (fun n1 n2 n3 => K (.tuple [.int .i64 n1, .int .i64 n2]) [some [.int .i64 n3]]) = K p h) ∨ (∀ K : PV → Objs → R, h98_0 p h (fun n1 n2 n3 => K (.tuple [.int .i64 n1, .int .i64 n2]) [some [.int .i64 n3]]) = none) := by
  unfold h98_0; split
  · exact .inl fun _ => rfl
  · exact .inr fun _ => rfl
@[simp] theorem h98_0_mk (n1 : Int) (n2 : Int) (n3 : Int) (K : Int → Int → Int → R) : h98_0 (.tuple [.int .i64 n1, .int .i64 n2]) [some [.int .i64 n3]] K = K n1 n2 n3 := rfl
def WW41 (h0 : Objs) (r : PV) (h : Objs) (K : PV → Objs → R) : R := match h0 with
  | [some [.int .i64 _]] => h41_0 r h (fun b1 n2 => K (.bool b1) [some [.int .i64 n2]])
  | [] => vB r fun b1 => K (.bool b1) h
  | _ => K r h
theorem WW41_ok (h0 : Objs) (r : PV) (h : Objs) : (∀ K : PV → Objs → R, WW41 h0 r h K = K r h) ∨ (∀ K : PV → Objs → R, WW41 h0 r h K = none) := by
  unfold WW41; split
  · exact h41_0_ok r h
  · exact one_ok (vB_ok r) h
  · exact .inl fun _ => rfl
def WW42 (h0 : Objs) (r : PV) (h : Objs) (K : PV → Objs → R) : R := match h0 with
  | [some [.int .i64 _]] => h42_0 r h (fun n1 n2 => K (.int .i64 n1) [some [.int .i64 n2]])
  | [] => vI .i64 r fun n1 => K (.int .i64 n1) h
  | _ => K r h
theorem WW42_ok (h0 : Objs) (r : PV) (h : Objs) : (∀ K : PV → Objs → R, WW42 h0 r h K = K r h) ∨ (∀ K : PV → Objs → R, WW42 h0 r h K = none) := by
  unfold WW42; split
  · exact h42_0_ok r h
  · exact one_ok (vI_ok .i64 r) h
  · exact .inl fun _ => rfl
def WW44 (h0 : Objs) (r : PV) (h : Objs) (K : PV → Objs → R) : R := match h0 with
  | [some [.int .i64 _]] => h44_0 r h (fun n1 n2 => K (.int .i64 n1) [some [.int .i64 n2]])
  | [] => vI .i64 r fun n1 => K (.int .i64 n1) h
  | _ => K r h
theorem WW44_ok (h0 : Objs) (r : PV) (h : Objs) : (∀ K : PV → Objs → R, WW44 h0 r h K = K r h) ∨ (∀ K : PV → Objs → R, WW44 h0 r h K = none) := by
  unfold WW44; split
  · exact h44_0_ok r h
  · exact one_ok (vI_ok .i64 r) h
  · exact .inl fun _ => rfl
def WW46 (h0 : Objs) (r : PV) (h : Objs) (K : PV → Objs → R) : R := match h0 with
  | [some [.sl false 1 _, .int .i64 _, .int .i64 _]] => h46_0 r h (fun n1 n2 n3 l4 l5 n6 n7 => K (.agg [.int .i64 n1, .int .i64 n2, .int .i64 n3, .sl false 4 l4]) [some [.sl false 1 l5, .int .i64 n6, .int .i64 n7]])
  | [] => v23 r fun n1 n2 n3 l4 => K (.agg [.int .i64 n1, .int .i64 n2, .int .i64 n3, .sl false 4 l4]) h
  | _ => K r h
theorem WW46_ok (h0 : Objs) (r : PV) (h : Objs) : (∀ K : PV → Objs → R, WW46 h0 r h K = K r h) ∨ (∀ K : PV → Objs → R, WW46 h0 r h K = none) := by
  unfold WW46; split
  · exact h46_0_ok r h
  · exact one_ok (v23_ok r) h
  · exact .inl fun _ => rfl
def WW54 (h0 : Objs) (r : PV) (h : Objs) (K : PV → Objs → R) : R := match h0 with
  | [some [.sl true 1 _]] => h54_0 r h (fun n1 n2 n3 l4 l5 => K (.agg [.int .i64 n1, .int .i64 n2, .int .i64 n3, .sl false 4 l4]) [some [.sl true 1 l5]])
  | [] => v23 r fun n1 n2 n3 l4 => K (.agg [.int .i64 n1, .int .i64 n2, .int .i64 n3, .sl false 4 l4]) h
  | _ => K r h
theorem WW54_ok (h0 : Objs) (r : PV) (h : Objs) : (∀ K : PV → Objs → R, WW54 h0 r h K = K r h) ∨ (∀ K : PV → Objs → R, WW54 h0 r h K = none) := by
  unfold WW54; split
  · exact h54_0_ok r h
  · exact one_ok (v23_ok r) h
  · exact .inl fun _ => rfl
def WW59 (h0 : Objs) (r : PV) (h : Objs) (K : PV → Objs → R) : R := match h0 with
  | [some [.str _, .int .i64 _, .int .i64 _, .int .i64 _]] => h59_0 r h (fun b1 s2 n3 n4 n5 => K (.bool b1) [some [.str s2, .int .i64 n3, .int .i64 n4, .int .i64 n5]])
  | [] => vB r fun b1 => K (.bool b1) h
  | _ => K r h
theorem WW59_ok (h0 : Objs) (r : PV) (h : Objs) : (∀ K : PV → Objs → R, WW59 h0 r h K = K r h) ∨ (∀ K : PV → Objs → R, WW59 h0 r h K = none) := by
  unfold WW59; split
  · exact h59_0_ok r h
  · exact one_ok (vB_ok r) h
  · exact .inl fun _ => rfl
def WW60 (h0 : Objs) (r : PV) (h : Objs) (K : PV → Objs → R) : R := match h0 with
  | [some [.str _, .int .i64 _, .int .i64 _, .int .i64 _]] => h60_0 r h (fun b1 s2 n3 n4 n5 => K (.bool b1) [some [.str s2, .int .i64 n3, .int .i64 n4, .int .i64 n5]])
  | [] => vB r fun b1 => K (.bool b1) h
  | _ => K r h
theorem WW60_ok (h0 : Objs) (r : PV) (h : Objs) : (∀ K : PV → Objs → R, WW60 h0 r h K = K r h) ∨ (∀ K : PV → Objs → R, WW60 h0 r h K = none) := by
  unfold WW60; split
  · exact h60_0_ok r h
  · exact one_ok (vB_ok r) h
  · exact .inl fun _ => rfl
def WW62 (h0 : Objs) (r : PV) (h : Objs) (K : PV → Objs → R) : R := match h0 with
  | [some [.sl true 1 _]] => h62_0 r h (fun n1 n2 n3 l4 l5 => K (.agg [.int .i64 n1, .int .i64 n2, .int .i64 n3, .sl false 4 l4]) [some [.sl true 1 l5]])
  | [] => v23 r fun n1 n2 n3 l4 => K (.agg [.int .i64 n1, .int .i64 n2, .int .i64 n3, .sl false 4 l4]) h
  | _ => K r h
theorem WW62_ok (h0 : Objs) (r : PV) (h : Objs) : (∀ K : PV → Objs → R, WW62 h0 r h K = K r h) ∨ (∀ K : PV → Objs → R, WW62 h0 r h K = none) := by
  unfold WW62; split
  · exact h62_0_ok r h
  · exact one_ok (v23_ok r) h
  · exact .inl fun _ => rfl
def WW66 (h0 : Objs) (r : PV) (h : Objs) (K : PV → Objs → R) : R := match h0 with
  | [some [.sl true 1 _]] => h66_0 r h (fun b1 l2 => K (.bool b1) [some [.sl true 1 l2]])
  | [] => vB r fun b1 => K (.bool b1) h
  | _ => K r h
theorem WW66_ok (h0 : Objs) (r : PV) (h : Objs) : (∀ K : PV → Objs → R, WW66 h0 r h K = K r h) ∨ (∀ K : PV → Objs → R, WW66 h0 r h K = none) := by
  unfold WW66; split
  · exact h66_0_ok r h
  · exact one_ok (vB_ok r) h
  · exact .inl fun _ => rfl
def WW69 (h0 : Objs) (r : PV) (h : Objs) (K : PV → Objs → R) : R := match h0 with
  | [some [.sl false 1 _, .int .i64 _, .int .i64 _]] => h69_0 r h (fun n1 l2 n3 n4 => K (.int .i64 n1) [some [.sl false 1 l2, .int .i64 n3, .int .i64 n4]])
  | [] => vI .i64 r fun n1 => K (.int .i64 n1) h
  | _ => K r h
theorem WW69_ok (h0 : Objs) (r : PV) (h : Objs) : (∀ K : PV → Objs → R, WW69 h0 r h K = K r h) ∨ (∀ K : PV → Objs → R, WW69 h0 r h K = none) := by
  unfold WW69; split
  · exact h69_0_ok r h
  · exact one_ok (vI_ok .i64 r) h
  · exact .inl fun _ => rfl
def WW77 (h0 : Objs) (r : PV) (h : Objs) (K : PV → Objs → R) : R := match h0 with
  | [some [.str _, .int .i64 _, .int .i64 _, .int .i64 _]] => h77_0 r h (fun n1 s2 n3 n4 n5 => K (.int .i64 n1) [some [.str s2, .int .i64 n3, .int .i64 n4, .int .i64 n5]])
  | [] => vI .i64 r fun n1 => K (.int .i64 n1) h
  | _ => K r h
theorem WW77_ok (h0 : Objs) (r : PV) (h : Objs) : (∀ K : PV → Objs → R, WW77 h0 r h K = K r h) ∨ (∀ K : PV → Objs → R, WW77 h0 r h K = none) := by
  unfold WW77; split
  · exact h77_0_ok r h
  · exact one_ok (vI_ok .i64 r) h
  · exact .inl fun _ => rfl
def WW94 (h0 : Objs) (r : PV) (h : Objs) (K : PV → Objs → R) : R := match h0 with
  | [some [.int .u64 _]] => h94_0 r h (fun n1 n2 => K (.int .u64 n1) [some [.int .u64 n2]])
  | [] => vI .u64 r fun n1 => K (.int .u64 n1) h
  | _ => K r h
theorem WW94_ok (h0 : Objs) (r : PV) (h : Objs) : (∀ K : PV → Objs → R, WW94 h0 r h K = K r h) ∨ (∀ K : PV → Objs → R, WW94 h0 r h K = none) := by
  unfold WW94; split
  · exact h94_0_ok r h
  · exact one_ok (vI_ok .u64 r) h
  · exact .inl fun _ => rfl
def WW95 (h0 : Objs) (r : PV) (h : Objs) (K : PV → Objs → R) : R := match h0 with
  | [some [.int .i64 _]] => h95_0 r h (fun n1 n2 => K (.int .i64 n1) [some [.int .i64 n2]])
  | [] => vI .i64 r fun n1 => K (.int .i64 n1) h
  | _ => K r h
theorem WW95_ok (h0 : Objs) (r : PV) (h : Objs) : (∀ K : PV → Objs → R, WW95 h0 r h K = K r h) ∨ (∀ K : PV → Objs → R, WW95 h0 r h K = none) := by
  unfold WW95; split
  · exact h95_0_ok r h
  · exact one_ok (vI_ok .i64 r) h
  · exact .inl fun _ => rfl
def WW96 (h0 : Objs) (r : PV) (h : Objs) (K : PV → Objs → R) : R := match h0 with
  | [some [.int .i64 _]] => h96_0 r h (fun n1 n2 => K (.int .i64 n1) [some [.int .i64 n2]])
  | [] => vI .i64 r fun n1 => K (.int .i64 n1) h
  | _ => K r h
theorem WW96_ok (h0 : Objs) (r : PV) (h : Objs) : (∀ K : PV → Objs → R, WW96 h0 r h K = K r h) ∨ (∀ K : PV → Objs → R, WW96 h0 r h K = none) := by
  unfold WW96; split
  · exact h96_0_ok r h
  · exact one_ok (vI_ok .i64 r) h
  · exact .inl fun _ => rfl
def WW98 (h0 : Objs) (r : PV) (h : Objs) (K : PV → Objs → R) : R := match h0 with
  | [some [.int .i64 _]] => h98_0 r h (fun n1 n2 n3 => K (.tuple [.int .i64 n1, .int .i64 n2]) [some [.int .i64 n3]])
  | [] => w_3_3 r fun n1 n2 => K (.tuple [.int .i64 n1, .int .i64 n2]) h
  | _ => K r h
theorem WW98_ok (h0 : Objs) (r : PV) (h : Objs) : (∀ K : PV → Objs → R, WW98 h0 r h K = K r h) ∨ (∀ K : PV → Objs → R, WW98 h0 r h K = none) := by
  unfold WW98; split
  · exact h98_0_ok r h
  · exact w_3_3_ok r h
  · exact .inl fun _ => rfl
def WWp7 (g : FuncId) (h0 : Objs) (r : PV) (h : Objs) (K : PV → Objs → R) : R :=
  bsel (Nat.beq g 87) (vB r fun b1 => K (.bool b1) h)
    (bsel (Nat.beq g 88) (vI .i64 r fun n1 => K (.int .i64 n1) h)
    (bsel (Nat.beq g 89) (w_3_4 r fun n1 b2 => K (.tuple [.int .i64 n1, .bool b2]) h)
    (bsel (Nat.beq g 91) (vI .i64 r fun n1 => K (.int .i64 n1) h)
    (bsel (Nat.beq g 92) (w0 r (K (.tuple []) h))
    (bsel (Nat.beq g 93) (vI .u64 r fun n1 => K (.int .u64 n1) h)
    (bsel (Nat.beq g 94) (WW94 h0 r h K)
    (bsel (Nat.beq g 95) (WW95 h0 r h K)
    (bsel (Nat.beq g 96) (WW96 h0 r h K)
    (bsel (Nat.beq g 97) (vB r fun b1 => K (.bool b1) h)
    (bsel (Nat.beq g 98) (WW98 h0 r h K)
    (K r h)))))))))))
theorem WWp7_ok (g : FuncId) (h0 : Objs) (r : PV) (h : Objs) : (∀ K : PV → Objs → R, WWp7 g h0 r h K = K r h) ∨ (∀ K : PV → Objs → R, WWp7 g h0 r h K = none) :=
  out_bsel (one_ok (vB_ok r) h) (out_bsel (one_ok (vI_ok .i64 r) h) (out_bsel (w_3_4_ok r h) (out_bsel (one_ok (vI_ok .i64 r) h) (out_bsel (w0_ok r h) (out_bsel (one_ok (vI_ok .u64 r) h) (out_bsel (WW94_ok h0 r h) (out_bsel (WW95_ok h0 r h) (out_bsel (WW96_ok h0 r h) (out_bsel (one_ok (vB_ok r) h) (out_bsel (WW98_ok h0 r h) (.inl fun _ => rfl)))))))))))
def WWp6 (g : FuncId) (h0 : Objs) (r : PV) (h : Objs) (K : PV → Objs → R) : R :=
  bsel (Nat.beq g 75) (v23 r fun n1 n2 n3 l4 => K (.agg [.int .i64 n1, .int .i64 n2, .int .i64 n3, .sl false 4 l4]) h)
    (bsel (Nat.beq g 76) (v23 r fun n1 n2 n3 l4 => K (.agg [.int .i64 n1, .int .i64 n2, .int .i64 n3, .sl false 4 l4]) h)
    (bsel (Nat.beq g 77) (WW77 h0 r h K)
    (bsel (Nat.beq g 78) (w0 r (K (.tuple []) h))
    (bsel (Nat.beq g 79) (vI .i64 r fun n1 => K (.int .i64 n1) h)
    (bsel (Nat.beq g 80) (vI .i64 r fun n1 => K (.int .i64 n1) h)
    (bsel (Nat.beq g 81) (w0 r (K (.tuple []) h))
    (bsel (Nat.beq g 82) (w0 r (K (.tuple []) h))
    (bsel (Nat.beq g 83) (w0 r (K (.tuple []) h))
    (bsel (Nat.beq g 84) (w_3_3 r fun n1 n2 => K (.tuple [.int .i64 n1, .int .i64 n2]) h)
    (bsel (Nat.beq g 85) (w0 r (K (.tuple []) h))
    (bsel (Nat.beq g 86) (vB r fun b1 => K (.bool b1) h)
    (WWp7 g h0 r h K))))))))))))
theorem WWp6_ok (g : FuncId) (h0 : Objs) (r : PV) (h : Objs) : (∀ K : PV → Objs → R, WWp6 g h0 r h K = K r h) ∨ (∀ K : PV → Objs → R, WWp6 g h0 r h K = none) :=
  out_bsel (one_ok (v23_ok r) h) (out_bsel (one_ok (v23_ok r) h) (out_bsel (WW77_ok h0 r h) (out_bsel (w0_ok r h) (out_bsel (one_ok (vI_ok .i64 r) h) (out_bsel (one_ok (vI_ok .i64 r) h) (out_bsel (w0_ok r h) (out_bsel (w0_ok r h) (out_bsel (w0_ok r h) (out_bsel (w_3_3_ok r h) (out_bsel (w0_ok r h) (out_bsel (one_ok (vB_ok r) h) (WWp7_ok g h0 r h))))))))))))
def WWp5 (g : FuncId) (h0 : Objs) (r : PV) (h : Objs) (K : PV → Objs → R) : R :=
  bsel (Nat.beq g 63) (w0 r (K (.tuple []) h))
    (bsel (Nat.beq g 64) (vL false 1 r fun l1 => K (.sl false 1 l1) h)
    (bsel (Nat.beq g 65) (w_3_4 r fun n1 b2 => K (.tuple [.int .i64 n1, .bool b2]) h)
    (bsel (Nat.beq g 66) (WW66 h0 r h K)
    (bsel (Nat.beq g 67) (vB r fun b1 => K (.bool b1) h)
    (bsel (Nat.beq g 68) (vI .i64 r fun n1 => K (.int .i64 n1) h)
    (bsel (Nat.beq g 69) (WW69 h0 r h K)
    (bsel (Nat.beq g 70) (vI .i64 r fun n1 => K (.int .i64 n1) h)
    (bsel (Nat.beq g 71) (vI .i64 r fun n1 => K (.int .i64 n1) h)
    (bsel (Nat.beq g 72) (v87 r fun n1 n2 => K (.agg [.int .i64 n1, .int .i64 n2]) h)
    (bsel (Nat.beq g 73) (vI .i64 r fun n1 => K (.int .i64 n1) h)
    (bsel (Nat.beq g 74) (vI .i64 r fun n1 => K (.int .i64 n1) h)
    (WWp6 g h0 r h K))))))))))))
theorem WWp5_ok (g : FuncId) (h0 : Objs) (r : PV) (h : Objs) : (∀ K : PV → Objs → R, WWp5 g h0 r h K = K r h) ∨ (∀ K : PV → Objs → R, WWp5 g h0 r h K = none) :=
  out_bsel (w0_ok r h) (out_bsel (one_ok (vL_ok false 1 r) h) (out_bsel (w_3_4_ok r h) (out_bsel (WW66_ok h0 r h) (out_bsel (one_ok (vB_ok r) h) (out_bsel (one_ok (vI_ok .i64 r) h) (out_bsel (WW69_ok h0 r h) (out_bsel (one_ok (vI_ok .i64 r) h) (out_bsel (one_ok (vI_ok .i64 r) h) (out_bsel (one_ok (v87_ok r) h) (out_bsel (one_ok (vI_ok .i64 r) h) (out_bsel (one_ok (vI_ok .i64 r) h) (WWp6_ok g h0 r h))))))))))))
def WWp4 (g : FuncId) (h0 : Objs) (r : PV) (h : Objs) (K : PV → Objs → R) : R :=
  bsel (Nat.beq g 51) (vI .i64 r fun n1 => K (.int .i64 n1) h)
    (bsel (Nat.beq g 52) (w_87_4 r fun n1 n2 b3 => K (.tuple [.agg [.int .i64 n1, .int .i64 n2], .bool b3]) h)
    (bsel (Nat.beq g 53) (vI .i64 r fun n1 => K (.int .i64 n1) h)
    (bsel (Nat.beq g 54) (WW54 h0 r h K)
    (bsel (Nat.beq g 55) (v23 r fun n1 n2 n3 l4 => K (.agg [.int .i64 n1, .int .i64 n2, .int .i64 n3, .sl false 4 l4]) h)
    (bsel (Nat.beq g 56) (v23 r fun n1 n2 n3 l4 => K (.agg [.int .i64 n1, .int .i64 n2, .int .i64 n3, .sl false 4 l4]) h)
    (bsel (Nat.beq g 57) (v23 r fun n1 n2 n3 l4 => K (.agg [.int .i64 n1, .int .i64 n2, .int .i64 n3, .sl false 4 l4]) h)
    (bsel (Nat.beq g 58) (vB r fun b1 => K (.bool b1) h)
    (bsel (Nat.beq g 59) (WW59 h0 r h K)
    (bsel (Nat.beq g 60) (WW60 h0 r h K)
    (bsel (Nat.beq g 61) (vL true 1 r fun l1 => K (.sl true 1 l1) h)
    (bsel (Nat.beq g 62) (WW62 h0 r h K)
    (WWp5 g h0 r h K))))))))))))
theorem WWp4_ok (g : FuncId) (h0 : Objs) (r : PV) (h : Objs) : (∀ K : PV → Objs → R, WWp4 g h0 r h K = K r h) ∨ (∀ K : PV → Objs → R, WWp4 g h0 r h K = none) :=
  out_bsel (one_ok (vI_ok .i64 r) h) (out_bsel (w_87_4_ok r h) (out_bsel (one_ok (vI_ok .i64 r) h) (out_bsel (WW54_ok h0 r h) (out_bsel (one_ok (v23_ok r) h) (out_bsel (one_ok (v23_ok r) h) (out_bsel (one_ok (v23_ok r) h) (out_bsel (one_ok (vB_ok r) h) (out_bsel (WW59_ok h0 r h) (out_bsel (WW60_ok h0 r h) (out_bsel (one_ok (vL_ok true 1 r) h) (out_bsel (WW62_ok h0 r h) (WWp5_ok g h0 r h))))))))))))
def WWp3 (g : FuncId) (h0 : Objs) (r : PV) (h : Objs) (K : PV → Objs → R) : R :=
  bsel (Nat.beq g 39) (v23 r fun n1 n2 n3 l4 => K (.agg [.int .i64 n1, .int .i64 n2, .int .i64 n3, .sl false 4 l4]) h)
    (bsel (Nat.beq g 40) (v23 r fun n1 n2 n3 l4 => K (.agg [.int .i64 n1, .int .i64 n2, .int .i64 n3, .sl false 4 l4]) h)
    (bsel (Nat.beq g 41) (WW41 h0 r h K)
    (bsel (Nat.beq g 42) (WW42 h0 r h K)
    (bsel (Nat.beq g 43) (vI .i64 r fun n1 => K (.int .i64 n1) h)
    (bsel (Nat.beq g 44) (WW44 h0 r h K)
    (bsel (Nat.beq g 45) (vB r fun b1 => K (.bool b1) h)
    (bsel (Nat.beq g 46) (WW46 h0 r h K)
    (bsel (Nat.beq g 47) (vB r fun b1 => K (.bool b1) h)
    (bsel (Nat.beq g 48) (vB r fun b1 => K (.bool b1) h)
    (bsel (Nat.beq g 49) (vB r fun b1 => K (.bool b1) h)
    (bsel (Nat.beq g 50) (w_3_4 r fun n1 b2 => K (.tuple [.int .i64 n1, .bool b2]) h)
    (WWp4 g h0 r h K))))))))))))
theorem WWp3_ok (g : FuncId) (h0 : Objs) (r : PV) (h : Objs) : (∀ K : PV → Objs → R, WWp3 g h0 r h K = K r h) ∨ (∀ K : PV → Objs → R, WWp3 g h0 r h K = none) :=
  out_bsel (one_ok (v23_ok r) h) (out_bsel (one_ok (v23_ok r) h) (out_bsel (WW41_ok h0 r h) (out_bsel (WW42_ok h0 r h) (out_bsel (one_ok (vI_ok .i64 r) h) (out_bsel (WW44_ok h0 r h) (out_bsel (one_ok (vB_ok r) h) (out_bsel (WW46_ok h0 r h) (out_bsel (one_ok (vB_ok r) h) (out_bsel (one_ok (vB_ok r) h) (out_bsel (one_ok (vB_ok r) h) (out_bsel (w_3_4_ok r h) (WWp4_ok g h0 r h))))))))))))
def WWp2 (g : FuncId) (h0 : Objs) (r : PV) (h : Objs) (K : PV → Objs → R) : R :=
  bsel (Nat.beq g 27) (vL true 1 r fun l1 => K (.sl true 1 l1) h)
    (bsel (Nat.beq g 28) (vB r fun b1 => K (.bool b1) h)
    (bsel (Nat.beq g 29) (w_23_3 r fun n1 n2 n3 l4 n5 => K (.tuple [.agg [.int .i64 n1, .int .i64 n2, .int .i64 n3, .sl false 4 l4], .int .i64 n5]) h)
    (bsel (Nat.beq g 30) (vI .i64 r fun n1 => K (.int .i64 n1) h)
    (bsel (Nat.beq g 31) (v23 r fun n1 n2 n3 l4 => K (.agg [.int .i64 n1, .int .i64 n2, .int .i64 n3, .sl false 4 l4]) h)
    (bsel (Nat.beq g 32) (vI .i64 r fun n1 => K (.int .i64 n1) h)
    (bsel (Nat.beq g 33) (vI .i64 r fun n1 => K (.int .i64 n1) h)
    (bsel (Nat.beq g 34) (w_65_3 r fun l1 n2 => K (.tuple [.sl false 1 l1, .int .i64 n2]) h)
    (bsel (Nat.beq g 35) (w_33_3 r fun l1 n2 => K (.tuple [.sl false 1 l1, .int .i64 n2]) h)
    (bsel (Nat.beq g 36) (v23 r fun n1 n2 n3 l4 => K (.agg [.int .i64 n1, .int .i64 n2, .int .i64 n3, .sl false 4 l4]) h)
    (bsel (Nat.beq g 37) (vB r fun b1 => K (.bool b1) h)
    (bsel (Nat.beq g 38) (v23 r fun n1 n2 n3 l4 => K (.agg [.int .i64 n1, .int .i64 n2, .int .i64 n3, .sl false 4 l4]) h)
    (WWp3 g h0 r h K))))))))))))
theorem WWp2_ok (g : FuncId) (h0 : Objs) (r : PV) (h : Objs) : (∀ K : PV → Objs → R, WWp2 g h0 r h K = K r h) ∨ (∀ K : PV → Objs → R, WWp2 g h0 r h K = none) :=
  out_bsel (one_ok (vL_ok true 1 r) h) (out_bsel (one_ok (vB_ok r) h) (out_bsel (w_23_3_ok r h) (out_bsel (one_ok (vI_ok .i64 r) h) (out_bsel (one_ok (v23_ok r) h) (out_bsel (one_ok (vI_ok .i64 r) h) (out_bsel (one_ok (vI_ok .i64 r) h) (out_bsel (w_65_3_ok r h) (out_bsel (w_33_3_ok r h) (out_bsel (one_ok (v23_ok r) h) (out_bsel (one_ok (vB_ok r) h) (out_bsel (one_ok (v23_ok r) h) (WWp3_ok g h0 r h))))))))))))
def WWp1 (g : FuncId) (h0 : Objs) (r : PV) (h : Objs) (K : PV → Objs → R) : R :=
  bsel (Nat.beq g 15) (w_3_3 r fun n1 n2 => K (.tuple [.int .i64 n1, .int .i64 n2]) h)
    (bsel (Nat.beq g 16) (vB r fun b1 => K (.bool b1) h)
    (bsel (Nat.beq g 17) (vB r fun b1 => K (.bool b1) h)
    (bsel (Nat.beq g 18) (v23 r fun n1 n2 n3 l4 => K (.agg [.int .i64 n1, .int .i64 n2, .int .i64 n3, .sl false 4 l4]) h)
    (bsel (Nat.beq g 19) (vB r fun b1 => K (.bool b1) h)
    (bsel (Nat.beq g 20) (w_3_3 r fun n1 n2 => K (.tuple [.int .i64 n1, .int .i64 n2]) h)
    (bsel (Nat.beq g 21) (w_3_4 r fun n1 b2 => K (.tuple [.int .i64 n1, .bool b2]) h)
    (bsel (Nat.beq g 22) (vL false 4 r fun l1 => K (.sl false 4 l1) h)
    (bsel (Nat.beq g 23) (w_3_3_3 r fun n1 n2 n3 => K (.tuple [.int .i64 n1, .int .i64 n2, .int .i64 n3]) h)
    (bsel (Nat.beq g 24) (w_3_3_4 r fun n1 n2 b3 => K (.tuple [.int .i64 n1, .int .i64 n2, .bool b3]) h)
    (bsel (Nat.beq g 25) (w_23_3 r fun n1 n2 n3 l4 n5 => K (.tuple [.agg [.int .i64 n1, .int .i64 n2, .int .i64 n3, .sl false 4 l4], .int .i64 n5]) h)
    (bsel (Nat.beq g 26) (vI .i64 r fun n1 => K (.int .i64 n1) h)
    (WWp2 g h0 r h K))))))))))))
theorem WWp1_ok (g : FuncId) (h0 : Objs) (r : PV) (h : Objs) : (∀ K : PV → Objs → R, WWp1 g h0 r h K = K r h) ∨ (∀ K : PV → Objs → R, WWp1 g h0 r h K = none) :=
  out_bsel (w_3_3_ok r h) (out_bsel (one_ok (vB_ok r) h) (out_bsel (one_ok (vB_ok r) h) (out_bsel (one_ok (v23_ok r) h) (out_bsel (one_ok (vB_ok r) h) (out_bsel (w_3_3_ok r h) (out_bsel (w_3_4_ok r h) (out_bsel (one_ok (vL_ok false 4 r) h) (out_bsel (w_3_3_3_ok r h) (out_bsel (w_3_3_4_ok r h) (out_bsel (w_23_3_ok r h) (out_bsel (one_ok (vI_ok .i64 r) h) (WWp2_ok g h0 r h))))))))))))
def WWp0 (g : FuncId) (h0 : Objs) (r : PV) (h : Objs) (K : PV → Objs → R) : R :=
  bsel (Nat.beq g 3) (vB r fun b1 => K (.bool b1) h)
    (bsel (Nat.beq g 4) (vB r fun b1 => K (.bool b1) h)
    (bsel (Nat.beq g 5) (vB r fun b1 => K (.bool b1) h)
    (bsel (Nat.beq g 6) (vB r fun b1 => K (.bool b1) h)
    (bsel (Nat.beq g 7) (vB r fun b1 => K (.bool b1) h)
    (bsel (Nat.beq g 8) (vB r fun b1 => K (.bool b1) h)
    (bsel (Nat.beq g 9) (vB r fun b1 => K (.bool b1) h)
    (bsel (Nat.beq g 10) (vB r fun b1 => K (.bool b1) h)
    (bsel (Nat.beq g 11) (vB r fun b1 => K (.bool b1) h)
    (bsel (Nat.beq g 12) (vB r fun b1 => K (.bool b1) h)
    (bsel (Nat.beq g 13) (vB r fun b1 => K (.bool b1) h)
    (bsel (Nat.beq g 14) (w_3_3 r fun n1 n2 => K (.tuple [.int .i64 n1, .int .i64 n2]) h)
    (WWp1 g h0 r h K))))))))))))
theorem WWp0_ok (g : FuncId) (h0 : Objs) (r : PV) (h : Objs) : (∀ K : PV → Objs → R, WWp0 g h0 r h K = K r h) ∨ (∀ K : PV → Objs → R, WWp0 g h0 r h K = none) :=
  out_bsel (one_ok (vB_ok r) h) (out_bsel (one_ok (vB_ok r) h) (out_bsel (one_ok (vB_ok r) h) (out_bsel (one_ok (vB_ok r) h) (out_bsel (one_ok (vB_ok r) h) (out_bsel (one_ok (vB_ok r) h) (out_bsel (one_ok (vB_ok r) h) (out_bsel (one_ok (vB_ok r) h) (out_bsel (one_ok (vB_ok r) h) (out_bsel (one_ok (vB_ok r) h) (out_bsel (one_ok (vB_ok r) h) (out_bsel (w_3_3_ok r h) (WWp1_ok g h0 r h))))))))))))
def WW : FuncId → Objs → PV → Objs → (PV → Objs → R) → R := WWp0
theorem WW_ok : outOK WW := WWp0_ok
def prmT (g : FuncId) : Prm := match g with
  | 3 => ⟨[0, 1, 2, 3, 4, 7, 8, 9, 10], [], [], [(0, [0, 0, 0, 4]), (1, [0, 0, 0, 4])], [(4, [2, 3, 4])], [], [(3, [0, 0, 0, 4]), (4, [0, 0, 0, 4])], [3, 4], [], [], [], [45, 46, 48, 49, 54, 55]⟩
  | 4 => ⟨[0, 1, 2, 3, 7, 8, 10, 11, 12, 13, 14, 15], [], [], [(0, [0, 0, 0, 4]), (1, [1]), (2, [1]), (7, [4])], [(4, [1, 2, 3]), (8, [2, 7, 8]), (12, [2, 7, 8, 10, 11]), (11, [2, 7, 8, 10, 11]), (14, [2, 7, 8, 10]), (18, [2, 7, 8, 12, 13]), (7, [2, 7, 8]), (21, [])], [(6, [2, 7, 8]), (10, [2, 7, 8, 10, 11])], [(3, [0, 0, 0, 4])], [3], [], [], [], [29]⟩
  | 5 => ⟨[0, 1, 2, 5, 7, 8, 9, 10, 11, 12, 14, 15, 16, 17, 18, 19, 20], [], [], [(0, [1]), (1, [2]), (2, [0, 0, 0, 4]), (7, [4]), (8, [4])], [(4, [0, 1, 5]), (9, [5, 7, 8, 9]), (14, [5, 7, 8, 9, 10, 11, 12]), (8, [5, 7, 8, 9]), (17, [5])], [(7, [5, 7, 8, 9])], [(5, [0, 0, 0, 4])], [5], [], [], [], [39]⟩
  | 6 => ⟨[0, 1, 2, 5, 7, 8, 9, 10, 11, 12, 13, 14, 15, 16, 17, 18, 19], [], [], [(0, [1]), (1, [2]), (7, [4]), (17, [1])], [(4, [0, 1, 5]), (12, [5, 7, 8, 9])], [], [(8, [0, 0, 0, 4]), (9, [0, 0, 0, 4]), (11, [0, 0, 0, 4])], [5], [], [], [], []⟩
  | 7 => ⟨[0, 1, 2, 5, 7, 8, 9, 10, 11, 12, 13, 14], [], [], [(0, [1]), (1, [2]), (7, [4]), (9, [1])], [(4, [0, 1, 5]), (11, [7, 9, 10, 11, 12, 13, 14])], [], [(8, [0, 0, 0, 4])], [5], [], [], [], []⟩
  | 8 => ⟨[0, 1, 2, 7, 8, 9, 10, 11, 12, 14, 16], [], [], [(0, [1]), (1, [1])], [(4, [0, 1, 2]), (11, [2, 7, 8, 9, 10, 11]), (14, [2, 7, 8, 9, 10, 11, 12]), (16, [2, 7, 8, 9, 10, 12])], [], [(7, [0, 0, 0, 4]), (8, [0, 0, 0, 4]), (9, [0, 0, 0, 4]), (12, [0, 0, 0, 4])], [], [], [], [], []⟩
  | 9 => ⟨[0, 1, 2, 5, 7, 8, 9, 10, 11, 12, 13, 14, 15, 16, 17, 18, 19], [], [64], [(0, [1]), (1, [1]), (7, [4]), (13, [1])], [(4, [0, 1, 5]), (10, [5, 7, 8, 9, 10, 11]), (14, [8, 10, 11, 13, 14])], [], [(8, [0, 0, 0, 4]), (9, [0, 0, 0, 4]), (11, [0, 0, 0, 4])], [5], [], [], [92], [68, 86, 96]⟩
  | 10 => ⟨[0, 1, 2, 7, 8, 9, 10, 11, 12, 13, 14, 15, 16, 17, 18, 19, 20, 21, 22, 23], [], [], [(0, [4]), (1, [1]), (2, [2]), (11, [1]), (13, [4]), (14, [1]), (22, [1])], [(4, [0, 1, 2]), (7, [0, 1, 2, 7]), (6, [0, 1, 2, 7]), (9, [0, 1, 2]), (14, [0, 1, 2, 8, 10]), (13, [0, 1, 2, 8, 9, 10]), (15, [0, 1, 2, 8, 9]), (17, [0, 2, 8]), (21, [2]), (27, [13, 14, 15, 16, 17]), (26, [13, 14, 15, 16, 17]), (28, [13, 14, 15, 16]), (30, [13, 14]), (33, [13, 14, 18]), (37, [13, 14, 18, 19, 20]), (40, [13, 14, 18, 19, 20, 21]), (36, [13, 14, 18, 19, 20]), (32, [13, 14, 18]), (41, [])], [(5, [0, 1, 2, 7]), (12, [0, 1, 2, 8, 9, 10]), (25, [13, 14, 15, 16, 17]), (31, [13, 14, 18]), (35, [13, 14, 18, 19, 20])], [], [], [], [], [], [70, 74, 80, 85, 132, 137, 167, 172, 178, 187, 190, 195]⟩
  | 11 => ⟨[0, 1, 3, 5, 6, 7, 8, 9, 10, 12, 13, 14], [], [], [(0, [1]), (1, [0, 0, 0, 4]), (5, [4]), (9, [1])], [(4, [0, 3]), (8, [5, 6]), (14, [5, 6, 7, 8, 9, 10]), (16, [5, 6, 9]), (20, [5, 6, 9, 13, 14]), (21, [5, 6, 9, 13, 14]), (23, [5, 6, 9, 13, 14]), (19, [5, 6, 9, 13, 14]), (24, [5, 6, 9, 13]), (7, [5, 6]), (26, [])], [(6, [5, 6]), (18, [5, 6, 9, 13, 14])], [(3, [0, 0, 0, 4]), (7, [0, 0, 0, 4])], [3], [], [], [], [29, 84]⟩
  | 12 => ⟨[1, 2, 3, 4, 5, 6, 7, 8, 9, 10, 11, 12, 13, 14, 15], [], [], [(3, [4])], [], [], [(1, [0, 0, 0, 4]), (2, [0, 0, 0, 4]), (4, [0, 0, 0, 4]), (13, [0, 0, 0, 4]), (14, [0, 0, 0, 4])], [], [], [], [], []⟩
  | 13 => ⟨[0, 1, 3], [], [], [(0, [0, 0, 0, 4])], [], [], [(1, [0, 0, 0, 4])], [1], [], [], [], []⟩
  | 14 => ⟨[0, 1, 2, 4, 6, 7], [], [], [(0, [0, 0, 0, 4])], [(4, [1, 2]), (8, [2]), (11, [4])], [], [(2, [0, 0, 0, 4])], [2], [], [], [], []⟩
  | 15 => ⟨[0, 1, 2, 6, 7, 8], [], [], [(0, [0, 0, 0, 4])], [(4, [1, 2]), (8, [2]), (11, [8])], [], [(2, [0, 0, 0, 4])], [2], [], [], [], []⟩
  | 16 => ⟨[0, 1, 2, 3], [], [], [(0, [0, 0, 0, 4]), (1, [0, 0, 0, 4])], [], [], [(2, [0, 0, 0, 4]), (3, [0, 0, 0, 4])], [2, 3], [], [], [], []⟩
  | 17 => ⟨[0, 1, 2, 3, 5], [], [], [(0, [0, 0, 0, 4]), (1, [0, 0, 0, 4])], [(4, [2, 3]), (7, [2, 3, 5]), (6, [2, 3, 5]), (9, [])], [(5, [2, 3, 5])], [(2, [0, 0, 0, 4]), (3, [0, 0, 0, 4])], [2, 3], [], [], [], [42, 45, 47, 50]⟩
  | 18 => ⟨[0, 1, 2, 6, 7], [], [], [(0, [1])], [], [], [(6, [0, 0, 0, 4])], [], [([0, 0, 0, 4], true)], [], [], []⟩
  | 19 => ⟨[0, 1], [], [], [], [], [], [], [], [], [], [], []⟩
  | 20 => ⟨[0, 1, 2, 7, 8, 9], [], [], [(0, [0, 0, 0, 4]), (1, [1])], [(5, [1, 2]), (7, [1, 2]), (10, [8])], [], [(2, [0, 0, 0, 4])], [2], [], [], [], []⟩
  | 21 => ⟨[0, 1, 2, 6, 7, 8, 9, 10, 11, 12, 14], [68], [], [(0, [0, 0, 0, 4]), (1, [1]), (8, [1])], [(11, [1, 2, 6]), (12, [1, 2]), (16, [1, 2, 8, 9]), (19, [1, 2, 8, 9, 10]), (15, [1, 2, 8, 9]), (20, [2, 8])], [(14, [1, 2, 8, 9])], [(2, [0, 0, 0, 4])], [2], [], [], [], []⟩
  | 22 => ⟨[0, 3, 4, 5, 6], [32], [], [(0, [2]), (3, [4])], [(6, [0, 3, 4]), (5, [0, 3, 4]), (9, [3])], [(4, [0, 3, 4])], [], [], [([4], false)], [], [], [48]⟩
  | 23 => ⟨[0, 1, 2, 7, 9, 10, 11], [], [], [(0, [0, 0, 0, 4]), (1, [4])], [(5, [1, 2]), (8, [1, 2]), (11, [10])], [], [(2, [0, 0, 0, 4])], [2], [], [], [], []⟩
  | 24 => ⟨[0, 1, 2, 4, 5, 7, 8, 9, 10, 11, 12, 13, 14, 15, 16, 17, 18, 20], [61, 65, 186], [174], [(0, [0, 0, 0, 4]), (1, [4]), (7, [1]), (8, [1]), (17, [1])], [(7, [1, 2, 4, 5]), (11, [1, 2, 4, 5, 7, 8, 9]), (14, [1, 2, 4, 5, 7, 8, 9, 10, 11]), (10, [1, 2, 4, 5, 7, 8, 9]), (15, [2, 4, 5, 7, 8]), (20, [7, 8]), (21, [2, 4, 5, 7, 8]), (26, [13, 14]), (27, [2, 4, 5, 7, 8]), (31, [2, 4, 5, 7, 8, 15, 16]), (34, [2, 4, 5, 7, 8, 15, 16, 17]), (36, [2, 4, 5, 7, 8, 15, 16, 17]), (39, [2, 4, 5, 7, 8, 15, 16, 18]), (41, [2, 4, 5, 7, 8, 15, 16, 18]), (30, [2, 4, 5, 7, 8, 15, 16]), (42, [4, 5])], [(9, [1, 2, 4, 5, 7, 8, 9]), (29, [2, 4, 5, 7, 8, 15, 16])], [(2, [0, 0, 0, 4])], [2], [], [(34, [17])], [], [24, 26, 31, 34, 37, 40, 79, 82, 90, 93, 96, 99, 103, 106, 118, 121, 126, 129, 134, 137, 142, 145, 151, 154, 189, 192, 197]⟩
  | 25 => ⟨[0, 1, 2, 5], [], [], [(0, [0, 0, 0, 4])], [(5, [1, 2])], [], [(1, [0, 0, 0, 4]), (2, [0, 0, 0, 4])], [1], [([0, 0, 0, 4], true), ([], true)], [], [], []⟩
  | 26 => ⟨[0, 1, 3, 4], [], [], [(0, [0, 0, 0, 4])], [(6, [1, 3, 4]), (5, [1, 3, 4]), (7, [3])], [(4, [1, 3, 4])], [(1, [0, 0, 0, 4])], [1], [], [], [], []⟩
  | 27 => ⟨[0, 1, 3, 5, 6], [13, 39], [], [(0, [4]), (5, [1])], [(6, [0, 3, 5, 6]), (5, [0, 3, 5, 6]), (7, [5])], [(4, [0, 3, 5, 6])], [], [3], [([1], true)], [], [], [18, 21, 27, 32]⟩
  | 28 => ⟨[0, 1, 5, 6, 12, 13, 14], [], [], [(0, [4]), (1, [1]), (12, [4])], [(4, [0, 1]), (6, [1, 12, 13, 14]), (9, [1, 12, 13, 14]), (10, [])], [(5, [1, 12, 13, 14])], [], [], [], [], [], [22, 30]⟩
  | 29 => ⟨[0, 1, 2, 3, 4, 5, 6, 9, 10, 11, 12, 14], [], [], [(0, [0, 0, 0, 4]), (2, [0, 0, 0, 4])], [(5, [3, 4, 5, 6]), (12, [3, 4, 5, 6]), (16, [6, 12])], [], [(3, [0, 0, 0, 4]), (5, [0, 0, 0, 4]), (6, [0, 0, 0, 4]), (12, [0, 0, 0, 4])], [3, 4, 5], [([0, 0, 0, 4], true), ([], true)], [], [], []⟩
  | 30 => ⟨[0, 1, 3, 4, 5, 6, 7, 8], [24], [], [(0, [0, 0, 0, 4]), (3, [1])], [(6, [1, 3, 4]), (9, [1, 3, 4, 5]), (5, [1, 3, 4]), (10, [1, 3]), (14, [3]), (19, [3, 6, 7]), (22, [3, 6, 7, 8]), (21, [3, 6, 7, 8]), (24, [7])], [(4, [1, 3, 4]), (20, [3, 6, 7, 8])], [(1, [0, 0, 0, 4])], [1], [], [], [], [34, 39, 42]⟩
  | 31 => ⟨[0, 1, 2, 3, 5, 6, 7, 8], [34], [], [(0, [0, 0, 0, 4]), (2, [0, 0, 0, 4])], [(4, [1, 3, 5, 6]), (8, [1, 3, 5, 6, 7, 8]), (7, [1, 3, 5, 6, 7, 8]), (9, [6, 7])], [(6, [1, 3, 5, 6, 7, 8])], [(3, [0, 0, 0, 4]), (5, [0, 0, 0, 4]), (6, [0, 0, 0, 4]), (7, [0, 0, 0, 4])], [3, 5], [([0, 0, 0, 4], true)], [], [], [36, 39, 41]⟩
  | 32 => ⟨[0, 3, 4, 5], [], [], [(0, [4])], [(4, [0]), (7, [0, 3]), (10, [0, 3, 4]), (13, [0, 3, 4, 5]), (12, [0, 3, 4, 5]), (15, [0, 3, 4]), (17, [0, 3, 4]), (19, [0, 3, 4]), (6, [0, 3]), (21, [])], [(5, [0, 3]), (11, [0, 3, 4, 5])], [], [], [], [], [], [32]⟩
  | 33 => ⟨[0, 3, 4, 8, 9, 10], [], [], [(0, [4]), (8, [4])], [(4, [0]), (6, [0, 8, 9, 10]), (17, [0, 8, 9, 10]), (18, [])], [(5, [0, 8, 9, 10])], [], [], [], [], [], []⟩
  | 34 => ⟨[0, 4, 5, 7, 8, 10, 11, 13, 14, 20, 21, 22, 38, 39, 40, 44, 45, 46], [58, 67], [], [(0, [4]), (8, [1]), (11, [1]), (13, [1]), (20, [4]), (38, [4]), (44, [1])], [(5, [0]), (8, [0, 5, 20, 21, 22]), (12, [0, 5, 20, 21, 22]), (13, [0]), (16, [8, 38, 39, 40]), (20, [10, 11, 38, 39, 40, 44, 45, 46]), (24, [10, 11, 13, 14, 38, 39, 40, 44, 45, 46]), (23, [10, 11, 13, 14, 38, 39, 40, 44, 45, 46]), (25, [10, 11, 38, 39, 40, 44, 45, 46]), (26, [11, 38, 39, 40]), (27, [8, 38, 39, 40]), (28, [8])], [(7, [0, 5, 20, 21, 22]), (15, [8, 38, 39, 40]), (19, [10, 11, 38, 39, 40, 44, 45, 46]), (22, [10, 11, 13, 14, 38, 39, 40, 44, 45, 46])], [], [], [([1], false), ([], true)], [], [], []⟩
  | 35 => ⟨[0, 1, 5, 6], [], [], [(0, [0, 0, 0, 4])], [(5, [1])], [], [(1, [0, 0, 0, 4]), (6, [1])], [1], [([1], false), ([], true)], [], [], []⟩
  | 36 => ⟨[0, 1, 2, 3, 4, 5, 6, 7, 8, 9, 10, 11, 12, 13, 14, 15], [37, 48], [], [(0, [0, 0, 0, 4]), (5, [1])], [(8, [1, 2, 3, 4, 5, 6]), (7, [1, 2, 3, 4, 5, 6]), (12, [1, 2, 3, 4, 5]), (44, [2, 3, 9]), (16, [2, 3, 12, 13]), (46, [2, 3])], [(6, [1, 2, 3, 4, 5, 6])], [(1, [0, 0, 0, 4]), (2, [0, 0, 0, 4]), (3, [0, 0, 0, 4]), (7, [0, 0, 0, 4]), (8, [0, 0, 0, 4]), (9, [0, 0, 0, 4]), (11, [0, 0, 0, 4]), (12, [0, 0, 0, 4]), (13, [0, 0, 0, 4]), (14, [0, 0, 0, 4]), (15, [0, 0, 0, 4])], [1], [([0, 0, 0, 4], true)], [], [], [65, 69, 158, 168]⟩
  | 37 => ⟨[0, 1, 2, 5], [], [], [(0, [0, 0, 0, 4])], [(4, [1, 2]), (7, [1, 2, 5]), (6, [1, 2, 5]), (9, [])], [(5, [1, 2, 5])], [(2, [0, 0, 0, 4])], [2], [], [], [], []⟩
  | 38 => ⟨[0], [], [], [], [], [], [(0, [0, 0, 0, 4])], [], [([0, 0, 0, 4], true)], [], [], []⟩
  | 39 => ⟨[0, 2, 3], [], [], [], [(5, [2, 3])], [], [(2, [0, 0, 0, 4])], [], [([0, 0, 0, 4], true)], [], [], []⟩
  | 40 => ⟨[0], [], [], [], [], [], [(0, [0, 0, 0, 4])], [], [([0, 0, 0, 4], true)], [], [], []⟩
  | 41 => ⟨[0, 1, 2, 3, 7], [], [], [(0, [0, 0, 0, 4])], [(4, [1, 2, 3]), (8, [1, 2, 3, 7]), (7, [1, 2, 3, 7]), (10, [])], [(6, [1, 2, 3, 7])], [(3, [0, 0, 0, 4])], [3], [], [], [], []⟩
  | 42 => ⟨[0, 1, 2, 3, 4, 9, 10, 12, 13, 87, 88, 89], [], [], [(0, [0, 0, 0, 4]), (87, [4])], [(4, [1, 2, 3, 4]), (14, [1, 2, 3, 4]), (16, [1, 2, 3, 87, 88, 89]), (20, [1, 2, 3, 87, 88, 89]), (21, [])], [(15, [1, 2, 3, 87, 88, 89])], [(4, [0, 0, 0, 4]), (12, [0, 0, 0, 4])], [4], [], [], [], []⟩
  | 43 => ⟨[0, 1, 3, 5, 6, 7, 9, 10, 11, 26], [19], [], [(0, [0, 0, 0, 4]), (9, [4])], [(5, [1, 3, 9, 10, 11]), (9, [1, 3, 6, 9, 10, 11]), (10, [1, 3, 9, 10, 11]), (11, [1, 3]), (36, [])], [(4, [1, 3, 9, 10, 11])], [(1, [0, 0, 0, 4]), (3, [1]), (5, [0, 0, 0, 4])], [1], [], [], [], [54, 59, 62]⟩
  | 44 => ⟨[0, 1, 2, 3, 4, 9, 10], [], [], [(0, [0, 0, 0, 4])], [(12, [1, 2, 3, 4]), (16, [1, 2, 3, 4, 9]), (15, [1, 2, 3, 4, 9]), (19, [])], [(14, [1, 2, 3, 4, 9])], [(4, [0, 0, 0, 4])], [4], [], [], [], [31, 34]⟩
  | 45 => ⟨[0, 1, 2, 7, 8, 9, 15, 16, 17], [], [], [(0, [4]), (1, [4]), (15, [4])], [(4, [0, 1, 2]), (6, [1, 2, 15, 16, 17]), (10, [1, 2, 15, 16, 17]), (11, [])], [(5, [1, 2, 15, 16, 17])], [(8, [0, 0, 0, 4]), (9, [0, 0, 0, 4])], [], [], [], [], []⟩
  | 46 => ⟨[0, 1, 2, 6, 7, 56], [], [], [], [(8, [6, 7]), (9, [0, 1, 2, 6, 7]), (14, [0, 1, 2, 6, 7]), (15, [0, 1, 2, 6, 7]), (17, [0, 1, 2, 6, 7]), (23, [0, 1, 2, 6, 7])], [], [(0, [1, 0, 0]), (6, [0, 0, 0, 4])], [], [([0, 0, 0, 4], true)], [], [], []⟩
  | 47 => ⟨[0, 1], [], [], [(0, [1])], [], [], [], [], [], [], [], []⟩
  | 48 => ⟨[0], [], [], [], [], [], [], [], [], [], [], []⟩
  | 49 => ⟨[0, 1], [], [], [], [], [], [], [], [], [], [], []⟩
  | 50 => ⟨[0, 1, 2, 6, 7, 8, 10, 11, 12, 13, 15, 51, 52, 53], [65], [], [(0, [0, 0, 0, 4]), (1, [1]), (8, [1]), (51, [4])], [(11, [1, 2, 6]), (12, [1, 2]), (15, [1, 2, 8, 51, 52, 53]), (19, [1, 2, 8, 11, 51, 52, 53]), (20, [1, 2, 8, 51, 52, 53]), (21, [2, 8])], [(14, [1, 2, 8, 51, 52, 53])], [(2, [0, 0, 0, 4]), (10, [0, 0, 0, 4])], [2], [], [], [], []⟩
  | 51 => ⟨[0, 1, 5], [], [], [(1, [1])], [(23, [1])], [], [], [], [], [], [], [10, 13, 19, 22, 28, 31, 43, 46, 53, 56, 63, 66, 73, 76, 89, 92, 96, 99]⟩
  | 52 => ⟨[0, 1, 2, 4, 6, 8, 9, 10, 11, 12, 14, 15, 16, 35, 131, 164], [29], [], [(0, [0, 0, 0, 4]), (1, [4]), (6, [2]), (11, [1]), (14, [4])], [(5, [1, 2, 4, 6, 14, 15, 16]), (9, [1, 2, 4, 6, 9, 14, 15, 16]), (10, [1, 2, 4, 6, 14, 15, 16]), (11, [1, 2, 4, 6]), (33, [4, 6]), (34, [2, 4, 6]), (43, [4, 11])], [(4, [1, 2, 4, 6, 14, 15, 16])], [(2, [0, 0, 0, 4]), (8, [0, 0, 0, 4])], [2], [], [], [], [47, 50, 53, 56, 64, 67, 70, 77, 82, 90, 94, 99, 103, 111, 115, 120, 124, 147, 151, 156, 160, 168, 172, 177, 181, 186, 190, 195, 199, 207, 211, 216, 220, 228, 232, 237, 241, 249, 254]⟩
  | 53 => ⟨[0], [], [], [], [(4, [])], [], [], [], [], [], [], []⟩
  | 54 => ⟨[0, 1, 2, 4, 5, 7, 16, 17, 18], [23], [], [(0, [0, 0, 0, 4]), (16, [4])], [(5, [1, 4, 5, 16, 17, 18]), (7, [1, 4, 5, 16, 17, 18]), (8, [1, 4, 5])], [(4, [1, 4, 5, 16, 17, 18])], [(2, [0, 0, 0, 4]), (4, [0, 0, 0, 4]), (5, [0, 0, 0, 4]), (7, [0, 0, 0, 4])], [2], [([0, 0, 0, 4], true)], [], [], []⟩
  | 55 => ⟨[0, 1, 2, 3, 5, 6, 8, 21, 22, 23, 42], [31], [], [(0, [0, 0, 0, 4]), (3, [1]), (21, [4])], [(11, [1, 2]), (14, [1, 2, 3, 21, 22, 23]), (17, [1, 2, 3, 5, 21, 22, 23]), (18, [1, 2, 3, 21, 22, 23]), (19, [1, 2, 3]), (27, [2, 6]), (28, [2, 6]), (30, [2])], [(13, [1, 2, 3, 21, 22, 23])], [(1, [0, 0, 0, 4]), (2, [0, 0, 0, 4]), (5, [0, 0, 0, 4])], [1], [([0, 0, 0, 4], true)], [], [], []⟩
  | 56 => ⟨[0, 1, 2, 3, 4], [], [], [(0, [0, 0, 0, 4])], [(4, [3, 4])], [], [(3, [0, 0, 0, 4]), (4, [0, 0, 0, 4])], [3], [([0, 0, 0, 4], true)], [], [], []⟩
  | 57 => ⟨[0, 1, 2], [], [], [(0, [0, 0, 0, 4])], [], [], [(1, [0, 0, 0, 4]), (2, [0, 0, 0, 4])], [1], [([0, 0, 0, 4], true)], [], [], []⟩
  | 58 => ⟨[0, 3, 4, 5, 7, 8], [], [], [], [(4, [0, 7, 8]), (9, [0, 7, 8]), (10, [0])], [(3, [0, 7, 8])], [], [], [], [], [], []⟩
  | 59 => ⟨[0, 1], [], [], [(0, [4])], [], [], [], [], [], [], [], []⟩
  | 60 => ⟨[0, 1, 2], [], [], [], [], [], [], [2], [], [], [], []⟩
  | 61 => ⟨[0], [], [], [(0, [1])], [(4, [0])], [], [], [], [([1], true)], [], [], []⟩
  | 62 => ⟨[0, 1, 2, 3], [7], [], [(0, [0, 0, 0, 4])], [(4, [2, 3])], [], [(2, [0, 0, 0, 4]), (3, [0, 0, 0, 4])], [2], [([0, 0, 0, 4], true)], [], [], []⟩
  | 63 => ⟨[0, 2], [], [], [(0, [1])], [], [], [], [], [], [], [], []⟩
  | 64 => ⟨[0, 3, 4, 5], [], [], [(0, [1]), (4, [1])], [(4, [0]), (7, [0, 3]), (12, [0, 3, 4, 5]), (11, [0, 3, 4, 5]), (15, [0, 3]), (6, [0, 3]), (17, [0])], [(5, [0, 3]), (10, [0, 3, 4, 5])], [], [], [([1], false)], [], [], [19, 24, 38, 43]⟩
  | 65 => ⟨[0, 4], [], [], [], [(21, [])], [], [], [], [], [], [], []⟩
  | 66 => ⟨[0, 1, 2], [], [], [], [], [], [], [2], [], [], [], []⟩
  | 67 => ⟨[0, 1], [], [], [], [], [], [], [], [], [], [], []⟩
  | 68 => ⟨[0, 3], [], [], [], [(11, [])], [], [], [], [], [], [], []⟩
  | 69 => ⟨[0, 3], [], [], [], [(4, [0])], [], [(0, [1, 0, 0])], [], [], [], [], []⟩
  | 70 => ⟨[0, 1, 5, 7, 8], [], [], [(0, [1])], [(4, [0, 1, 7, 8]), (7, [0, 1, 7, 8]), (8, [])], [(3, [0, 1, 7, 8])], [], [], [], [], [], []⟩
  | 71 => ⟨[0, 1, 5], [], [], [(1, [1])], [(23, [1])], [], [], [], [], [], [], [10, 13, 19, 22, 28, 31, 43, 46, 53, 56, 63, 66, 73, 76, 89, 92, 96, 99]⟩
  | 72 => ⟨[0, 1, 2, 4, 5, 6, 7, 8, 9], [], [], [], [(13, [6, 7, 8])], [], [], [4, 5], [], [], [], [11, 13, 16, 18, 52, 54, 57, 59]⟩
  | 73 => ⟨[0, 3, 4], [], [], [(0, [1])], [(4, [0]), (8, [0, 3, 4]), (7, [0, 3, 4]), (9, [3])], [(6, [0, 3, 4])], [], [], [], [], [], []⟩
  | 74 => ⟨[0, 3, 4], [], [], [(0, [1])], [(4, [0]), (8, [0, 3, 4]), (7, [0, 3, 4]), (9, [3])], [(6, [0, 3, 4])], [], [], [], [], [], []⟩
  | 75 => ⟨[0, 1, 2, 3, 4, 5, 6, 7, 8, 20], [], [], [(0, [0, 0, 0, 4])], [(18, [1, 2, 3, 6, 7, 8]), (29, [1, 2])], [], [(1, [0, 0, 0, 4]), (2, [0, 0, 0, 4]), (3, [0, 0, 0, 4]), (6, [0, 0, 0, 4]), (7, [0, 0, 0, 4]), (8, [0, 0, 0, 4])], [1], [([0, 0, 0, 4], true)], [], [], []⟩
  | 76 => ⟨[0, 1, 2], [], [], [(0, [0, 0, 0, 4])], [], [], [(1, [0, 0, 0, 4]), (2, [0, 0, 0, 4])], [1], [([0, 0, 0, 4], true)], [], [], []⟩
  | 77 => ⟨[0, 1, 5, 7, 8], [], [], [(0, [4])], [(4, [0, 1, 7, 8]), (7, [0, 1, 7, 8]), (8, [])], [(3, [0, 1, 7, 8])], [], [], [], [], [], []⟩
  | 78 => ⟨[0, 1, 2, 3, 8, 9, 10, 11, 12, 13, 14, 15, 16, 17, 18], [], [], [(0, [1])], [(6, [0, 1, 2, 3, 8, 9, 10]), (8, [0, 1, 2, 3, 8, 9, 10]), (11, [0, 1, 2, 3, 8, 9, 10]), (16, [0, 1, 2, 3, 8, 9, 10, 11, 12]), (18, [0, 1, 2, 3, 8, 9, 10, 11]), (21, [0, 1, 2, 3, 10, 11])], [(3, [0, 1, 2, 3, 8, 9])], [], [], [], [], [], [80, 84]⟩
  | 79 => ⟨[0], [], [], [], [(3, [0])], [], [], [], [], [], [], []⟩
  | 80 => ⟨[0], [], [], [], [(4, [])], [], [], [], [], [], [], []⟩
  | 81 => ⟨[0, 1, 2, 6, 7], [], [], [(0, [1])], [(4, [0, 1, 2, 6]), (7, [0, 1, 2, 6, 7]), (6, [0, 1, 2, 6, 7]), (3, [0, 1, 2, 6])], [(2, [0, 1, 2, 6]), (5, [0, 1, 2, 6, 7])], [], [], [], [], [], [23, 28, 42, 46]⟩
  | 82 => ⟨[0, 1, 2, 6, 7, 8, 9, 10], [], [], [(0, [1])], [(7, [0, 6, 7, 8, 9]), (6, [0, 6, 7, 8, 9]), (8, [0, 6, 7, 8]), (11, [0, 6, 7, 10]), (10, [0, 6, 7, 10])], [(5, [0, 6, 7, 8, 9]), (9, [0, 6, 7, 10])], [], [], [], [], [], [44, 48]⟩
  | 83 => ⟨[0, 1, 2, 6, 7, 8, 9, 10], [], [], [(0, [1])], [(8, [0, 1, 6, 7, 8, 9]), (11, [0, 1, 6, 7, 8, 9, 10]), (7, [0, 1, 6, 7, 8, 9])], [(6, [0, 1, 6, 7, 8, 9])], [], [], [], [], [], [58, 62]⟩
  | 84 => ⟨[0, 1, 2, 8, 9, 10, 11, 12, 49], [], [], [(0, [1])], [(12, [0, 9, 10, 11, 12]), (13, [9, 11])], [], [], [], [], [], [], []⟩
  | 85 => ⟨[0, 1, 2, 6, 7], [], [], [(0, [1])], [(4, [0, 6, 7])], [(3, [0, 6, 7])], [], [], [], [], [], [21, 25]⟩
  | 86 => ⟨[0, 1, 2, 7, 8, 9, 10], [], [], [(0, [1])], [(6, [0, 1, 2, 7, 8]), (7, [0, 1, 2, 7, 8]), (8, [0, 1, 2, 7, 8]), (10, [0, 1, 2, 7, 8]), (12, [0, 1, 2, 7, 8]), (17, [0, 1, 2, 7, 8, 9]), (18, [0, 1, 2, 7, 8, 9]), (16, [0, 1, 2, 7, 8, 9]), (19, [0, 1, 2, 7, 8]), (23, [0, 1, 2, 7, 8, 10]), (24, [0, 1, 2, 7, 8, 10]), (22, [0, 1, 2, 7, 8, 10]), (5, [0, 1, 2, 7, 8]), (25, [])], [(4, [0, 1, 2, 7, 8]), (6, [0, 1, 2, 7, 8]), (15, [0, 1, 2, 7, 8, 9]), (21, [0, 1, 2, 7, 8, 10])], [], [], [], [], [], [24, 29, 51, 55]⟩
  | 87 => ⟨[0, 1], [], [], [], [], [], [], [], [], [], [], []⟩
  | 88 => ⟨[0, 1, 2, 3, 9, 10], [], [], [(0, [1])], [(5, [0, 1, 9, 10]), (6, [0, 1, 9, 10]), (7, [0, 1, 9, 10]), (8, [0, 1, 9, 10]), (9, [0, 1, 9, 10]), (12, [9])], [(4, [0, 1, 9, 10]), (4, [0, 1, 9, 10]), (6, [0, 1, 9, 10])], [], [], [], [], [], [18, 22]⟩
  | 89 => ⟨[0, 1, 2, 3, 10, 11], [], [], [(0, [1])], [(5, [0, 1, 10, 11]), (6, [0, 1, 10, 11]), (7, [0, 1, 10, 11]), (8, [0, 1, 10, 11]), (11, [0, 1, 10, 11]), (15, [0, 1, 10, 11]), (16, [0, 1, 10, 11]), (17, [0, 1, 10, 11]), (18, [0, 1, 10, 11]), (19, [0, 1, 10, 11]), (22, [0, 1, 11])], [(4, [0, 1, 10, 11]), (6, [0, 1, 10, 11]), (14, [0, 1, 10, 11]), (14, [0, 1, 10, 11]), (16, [0, 1, 10, 11])], [], [], [], [], [], [19, 23]⟩
  | 91 => ⟨[0, 2], [], [], [], [(5, [0, 2]), (8, [0, 2]), (11, [0, 2])], [], [], [], [], [], [], []⟩
  | 92 => ⟨[0, 1, 2, 3, 8, 9], [], [], [(0, [1])], [(4, [0, 2, 3, 8, 9]), (6, [0, 2, 3, 8, 9]), (7, [0, 2, 3, 8, 9])], [(2, [0, 2, 3, 8])], [], [], [], [], [], [27, 34, 44, 50, 66, 72]⟩
  | 93 => ⟨[0], [], [], [], [], [], [], [], [], [], [], []⟩
  | 94 => ⟨[0], [], [], [], [], [], [], [], [], [], [], []⟩
  | 95 => ⟨[0, 1, 2], [], [], [(0, [1])], [], [], [], [], [], [], [], []⟩
  | 96 => ⟨[0, 1, 2, 3, 4], [], [], [(0, [1])], [], [], [], [], [], [], [], []⟩
  | 97 => ⟨[0], [], [], [], [], [], [], [], [], [], [], []⟩
  | 98 => ⟨[0, 1, 2, 3], [], [], [(0, [1])], [(5, [1, 2])], [], [], [], [], [], [], [13, 17]⟩
  | _ => ⟨[], [], [], [], [], [], [], [], [], [], [], []⟩
noncomputable def SS : SE := ⟨Try.prog, prmT, VV, WW, fun _ _ _ => none⟩
theorem SS_ok : SS.OK := ⟨VV_ok, WW_ok⟩
end Go.Proofs.Ytmclnnpaephkpaa

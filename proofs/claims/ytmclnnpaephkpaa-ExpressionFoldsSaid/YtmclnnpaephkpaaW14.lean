/-
  The table of the program: how values of each type look, what each function's slots are. Printed by a program (wip/tool/dc.py).
-/
import Derived.Test.YtmclnnpaephkpaaV14
namespace Go.Proofs.Ytmclnnpaephkpaa.W
set_option linter.unusedVariables false
set_option linter.unusedSimpArgs false
set_option linter.unnecessarySimpa false
set_option linter.unusedSectionVars false
open Go.RowKit
set_option maxRecDepth 1000000
def v7 (p : PV) (K : Int → Int → Bool → Int → R) : R := match p with | .agg [.int .i64 x0, .int .i64 x1, .bool x2, .int .u8 x3] => K x0 x1 x2 x3 | _ => none
theorem v7_ok (p : PV) : (∀ K : PV → R, v7 p (fun x0 x1 x2 x3 => K (.agg [.int .i64 x0, .int .i64 x1, .bool x2, .int .u8 x3])) = K p) ∨ (∀ K : PV → R, v7 p (fun x0 x1 x2 x3 => K (.agg [.int .i64 x0, .int .i64 x1, .bool x2, .int .u8 x3])) = none) := by
  unfold v7; split
  · exact .inl fun _ => rfl
  · exact .inr fun _ => rfl
@[simp] theorem v7_mk (x0 : Int) (x1 : Int) (x2 : Bool) (x3 : Int) (K : Int → Int → Bool → Int → R) : v7 (.agg [.int .i64 x0, .int .i64 x1, .bool x2, .int .u8 x3]) K = K x0 x1 x2 x3 := rfl
def v13 (p : PV) (K : ByteArray → Int → R) : R := match p with | .agg [.str x0, .int .u64 x1] => K x0 x1 | _ => none
theorem v13_ok (p : PV) : (∀ K : PV → R, v13 p (fun x0 x1 => K (.agg [.str x0, .int .u64 x1])) = K p) ∨ (∀ K : PV → R, v13 p (fun x0 x1 => K (.agg [.str x0, .int .u64 x1])) = none) := by
  unfold v13; split
  · exact .inl fun _ => rfl
  · exact .inr fun _ => rfl
@[simp] theorem v13_mk (x0 : ByteArray) (x1 : Int) (K : ByteArray → Int → R) : v13 (.agg [.str x0, .int .u64 x1]) K = K x0 x1 := rfl
def v18 (p : PV) (K : PV → R) : R := match p with | .agg [x0] => K x0 | _ => none
theorem v18_ok (p : PV) : (∀ K : PV → R, v18 p (fun x0 => K (.agg [x0])) = K p) ∨ (∀ K : PV → R, v18 p (fun x0 => K (.agg [x0])) = none) := by
  unfold v18; split
  · exact .inl fun _ => rfl
  · exact .inr fun _ => rfl
@[simp] theorem v18_mk (x0 : PV) (K : PV → R) : v18 (.agg [x0]) K = K x0 := rfl
def v23 (p : PV) (K : Int → Int → Int → List PV → R) : R := match p with | .agg [.int .i64 x0, .int .i64 x1, .int .i64 x2, .sl false 4 x3] => K x0 x1 x2 x3 | _ => none
theorem v23_ok (p : PV) : (∀ K : PV → R, v23 p (fun x0 x1 x2 x3 => K (.agg [.int .i64 x0, .int .i64 x1, .int .i64 x2, .sl false 4 x3])) = K p) ∨ (∀ K : PV → R, v23 p (fun x0 x1 x2 x3 => K (.agg [.int .i64 x0, .int .i64 x1, .int .i64 x2, .sl false 4 x3])) = none) := by
  unfold v23; split
  · exact .inl fun _ => rfl
  · exact .inr fun _ => rfl
@[simp] theorem v23_mk (x0 : Int) (x1 : Int) (x2 : Int) (x3 : List PV) (K : Int → Int → Int → List PV → R) : v23 (.agg [.int .i64 x0, .int .i64 x1, .int .i64 x2, .sl false 4 x3]) K = K x0 x1 x2 x3 := rfl
def v47 (p : PV) (K : ByteArray → Int → Int → Int → R) : R := match p with | .agg [.str x0, .int .i64 x1, .int .i64 x2, .int .i64 x3] => K x0 x1 x2 x3 | _ => none
theorem v47_ok (p : PV) : (∀ K : PV → R, v47 p (fun x0 x1 x2 x3 => K (.agg [.str x0, .int .i64 x1, .int .i64 x2, .int .i64 x3])) = K p) ∨ (∀ K : PV → R, v47 p (fun x0 x1 x2 x3 => K (.agg [.str x0, .int .i64 x1, .int .i64 x2, .int .i64 x3])) = none) := by
  unfold v47; split
  · exact .inl fun _ => rfl
  · exact .inr fun _ => rfl
@[simp] theorem v47_mk (x0 : ByteArray) (x1 : Int) (x2 : Int) (x3 : Int) (K : ByteArray → Int → Int → Int → R) : v47 (.agg [.str x0, .int .i64 x1, .int .i64 x2, .int .i64 x3]) K = K x0 x1 x2 x3 := rfl
def v50 (p : PV) (K : Int → Int → Int → R) : R := match p with | .agg [.int .u8 x0, .int .u8 x1, .int .u8 x2] => K x0 x1 x2 | _ => none
theorem v50_ok (p : PV) : (∀ K : PV → R, v50 p (fun x0 x1 x2 => K (.agg [.int .u8 x0, .int .u8 x1, .int .u8 x2])) = K p) ∨ (∀ K : PV → R, v50 p (fun x0 x1 x2 => K (.agg [.int .u8 x0, .int .u8 x1, .int .u8 x2])) = none) := by
  unfold v50; split
  · exact .inl fun _ => rfl
  · exact .inr fun _ => rfl
@[simp] theorem v50_mk (x0 : Int) (x1 : Int) (x2 : Int) (K : Int → Int → Int → R) : v50 (.agg [.int .u8 x0, .int .u8 x1, .int .u8 x2]) K = K x0 x1 x2 := rfl
def v60 (p : PV) (K : Int → Int → Int → Int → Int → Int → R) : R := match p with | .agg [.int .u8 x0, .int .u8 x1, .int .u8 x2, .int .u8 x3, .int .u8 x4, .int .u8 x5] => K x0 x1 x2 x3 x4 x5 | _ => none
theorem v60_ok (p : PV) : (∀ K : PV → R, v60 p (fun x0 x1 x2 x3 x4 x5 => K (.agg [.int .u8 x0, .int .u8 x1, .int .u8 x2, .int .u8 x3, .int .u8 x4, .int .u8 x5])) = K p) ∨ (∀ K : PV → R, v60 p (fun x0 x1 x2 x3 x4 x5 => K (.agg [.int .u8 x0, .int .u8 x1, .int .u8 x2, .int .u8 x3, .int .u8 x4, .int .u8 x5])) = none) := by
  unfold v60; split
  · exact .inl fun _ => rfl
  · exact .inr fun _ => rfl
@[simp] theorem v60_mk (x0 : Int) (x1 : Int) (x2 : Int) (x3 : Int) (x4 : Int) (x5 : Int) (K : Int → Int → Int → Int → Int → Int → R) : v60 (.agg [.int .u8 x0, .int .u8 x1, .int .u8 x2, .int .u8 x3, .int .u8 x4, .int .u8 x5]) K = K x0 x1 x2 x3 x4 x5 := rfl
def v62 (p : PV) (K : Int → Int → R) : R := match p with | .agg [.int .i8 x0, .int .i8 x1] => K x0 x1 | _ => none
theorem v62_ok (p : PV) : (∀ K : PV → R, v62 p (fun x0 x1 => K (.agg [.int .i8 x0, .int .i8 x1])) = K p) ∨ (∀ K : PV → R, v62 p (fun x0 x1 => K (.agg [.int .i8 x0, .int .i8 x1])) = none) := by
  unfold v62; split
  · exact .inl fun _ => rfl
  · exact .inr fun _ => rfl
@[simp] theorem v62_mk (x0 : Int) (x1 : Int) (K : Int → Int → R) : v62 (.agg [.int .i8 x0, .int .i8 x1]) K = K x0 x1 := rfl
def v81 (p : PV) (K : List PV → Int → Int → R) : R := match p with | .agg [.sl false 1 x0, .int .i64 x1, .int .i64 x2] => K x0 x1 x2 | _ => none
theorem v81_ok (p : PV) : (∀ K : PV → R, v81 p (fun x0 x1 x2 => K (.agg [.sl false 1 x0, .int .i64 x1, .int .i64 x2])) = K p) ∨ (∀ K : PV → R, v81 p (fun x0 x1 x2 => K (.agg [.sl false 1 x0, .int .i64 x1, .int .i64 x2])) = none) := by
  unfold v81; split
  · exact .inl fun _ => rfl
  · exact .inr fun _ => rfl
@[simp] theorem v81_mk (x0 : List PV) (x1 : Int) (x2 : Int) (K : List PV → Int → Int → R) : v81 (.agg [.sl false 1 x0, .int .i64 x1, .int .i64 x2]) K = K x0 x1 x2 := rfl
def v87 (p : PV) (K : Int → Int → R) : R := match p with | .agg [.int .i64 x0, .int .i64 x1] => K x0 x1 | _ => none
theorem v87_ok (p : PV) : (∀ K : PV → R, v87 p (fun x0 x1 => K (.agg [.int .i64 x0, .int .i64 x1])) = K p) ∨ (∀ K : PV → R, v87 p (fun x0 x1 => K (.agg [.int .i64 x0, .int .i64 x1])) = none) := by
  unfold v87; split
  · exact .inl fun _ => rfl
  · exact .inr fun _ => rfl
@[simp] theorem v87_mk (x0 : Int) (x1 : Int) (K : Int → Int → R) : v87 (.agg [.int .i64 x0, .int .i64 x1]) K = K x0 x1 := rfl
def v129 (p : PV) (K : PV → PV → PV → ByteArray → R) : R := match p with | .agg [x0, x1, x2, .str x3] => K x0 x1 x2 x3 | _ => none
theorem v129_ok (p : PV) : (∀ K : PV → R, v129 p (fun x0 x1 x2 x3 => K (.agg [x0, x1, x2, .str x3])) = K p) ∨ (∀ K : PV → R, v129 p (fun x0 x1 x2 x3 => K (.agg [x0, x1, x2, .str x3])) = none) := by
  unfold v129; split
  · exact .inl fun _ => rfl
  · exact .inr fun _ => rfl
@[simp] theorem v129_mk (x0 : PV) (x1 : PV) (x2 : PV) (x3 : ByteArray) (K : PV → PV → PV → ByteArray → R) : v129 (.agg [x0, x1, x2, .str x3]) K = K x0 x1 x2 x3 := rfl
def v131 (p : PV) (K : R) : R := match p with | .agg [] => K | _ => none
theorem v131_ok (p : PV) : (∀ K : PV → R, v131 p (K (.agg [])) = K p) ∨ (∀ K : PV → R, v131 p (K (.agg [])) = none) := by
  unfold v131; split
  · exact .inl fun _ => rfl
  · exact .inr fun _ => rfl
def v132 (p : PV) (K : R) : R := match p with | .agg [] => K | _ => none
theorem v132_ok (p : PV) : (∀ K : PV → R, v132 p (K (.agg [])) = K p) ∨ (∀ K : PV → R, v132 p (K (.agg [])) = none) := by
  unfold v132; split
  · exact .inl fun _ => rfl
  · exact .inr fun _ => rfl
def v140 (p : PV) (K : Int → Int → Int → Int → Int → Int → Int → PV → PV → Int → Int → R) : R := match p with | .agg [.int .u64 x0, .int .u64 x1, .int .u32 x2, .int .u8 x3, .int .u8 x4, .int .u8 x5, .int .u8 x6, x7, x8, .int .i32 x9, .int .i32 x10] => K x0 x1 x2 x3 x4 x5 x6 x7 x8 x9 x10 | _ => none
theorem v140_ok (p : PV) : (∀ K : PV → R, v140 p (fun x0 x1 x2 x3 x4 x5 x6 x7 x8 x9 x10 => K (.agg [.int .u64 x0, .int .u64 x1, .int .u32 x2, .int .u8 x3, .int .u8 x4, .int .u8 x5, .int .u8 x6, x7, x8, .int .i32 x9, .int .i32 x10])) = K p) ∨ (∀ K : PV → R, v140 p (fun x0 x1 x2 x3 x4 x5 x6 x7 x8 x9 x10 => K (.agg [.int .u64 x0, .int .u64 x1, .int .u32 x2, .int .u8 x3, .int .u8 x4, .int .u8 x5, .int .u8 x6, x7, x8, .int .i32 x9, .int .i32 x10])) = none) := by
  unfold v140; split
  · exact .inl fun _ => rfl
  · exact .inr fun _ => rfl
@[simp] theorem v140_mk (x0 : Int) (x1 : Int) (x2 : Int) (x3 : Int) (x4 : Int) (x5 : Int) (x6 : Int) (x7 : PV) (x8 : PV) (x9 : Int) (x10 : Int) (K : Int → Int → Int → Int → Int → Int → Int → PV → PV → Int → Int → R) : v140 (.agg [.int .u64 x0, .int .u64 x1, .int .u32 x2, .int .u8 x3, .int .u8 x4, .int .u8 x5, .int .u8 x6, x7, x8, .int .i32 x9, .int .i32 x10]) K = K x0 x1 x2 x3 x4 x5 x6 x7 x8 x9 x10 := rfl
def VVp4 (t : TypeId) (p : PV) (K : PV → R) : R :=
  bsel (Nat.beq t 138) (vI .i32 p fun n1 => K (.int .i32 n1))
    (bsel (Nat.beq t 139) (vI .i32 p fun n1 => K (.int .i32 n1))
    (bsel (Nat.beq t 140) (v140 p fun n1 n2 n3 n4 n5 n6 n7 p8 p9 n10 n11 => K (.agg [.int .u64 n1, .int .u64 n2, .int .u32 n3, .int .u8 n4, .int .u8 n5, .int .u8 n6, .int .u8 n7, p8, p9, .int .i32 n10, .int .i32 n11]))
    (bsel (Nat.beq t 141) (v140 p fun n1 n2 n3 n4 n5 n6 n7 p8 p9 n10 n11 => K (.agg [.int .u64 n1, .int .u64 n2, .int .u32 n3, .int .u8 n4, .int .u8 n5, .int .u8 n6, .int .u8 n7, p8, p9, .int .i32 n10, .int .i32 n11]))
    (K p))))
theorem VVp4_ok (t : TypeId) (p : PV) : (∀ K : PV → R, VVp4 t p K = K p) ∨ (∀ K : PV → R, VVp4 t p K = none) :=
  view_bsel (vI_ok .i32 p) (view_bsel (vI_ok .i32 p) (view_bsel (v140_ok p) (view_bsel (v140_ok p) (.inl fun _ => rfl))))
def VVp3 (t : TypeId) (p : PV) (K : PV → R) : R :=
  bsel (Nat.beq t 103) (vL false 2 p fun l1 => K (.sl false 2 l1))
    (bsel (Nat.beq t 110) (vI .i64 p fun n1 => K (.int .i64 n1))
    (bsel (Nat.beq t 117) (vI .u32 p fun n1 => K (.int .u32 n1))
    (bsel (Nat.beq t 119) (vI .u64 p fun n1 => K (.int .u64 n1))
    (bsel (Nat.beq t 120) (vI .u64 p fun n1 => K (.int .u64 n1))
    (bsel (Nat.beq t 129) (v129 p fun p1 p2 p3 s4 => K (.agg [p1, p2, p3, .str s4]))
    (bsel (Nat.beq t 130) (v129 p fun p1 p2 p3 s4 => K (.agg [p1, p2, p3, .str s4]))
    (bsel (Nat.beq t 131) (v131 p (K (.agg [])))
    (bsel (Nat.beq t 132) (v132 p (K (.agg [])))
    (bsel (Nat.beq t 133) (v132 p (K (.agg [])))
    (bsel (Nat.beq t 134) (vI .u8 p fun n1 => K (.int .u8 n1))
    (bsel (Nat.beq t 135) (vI .u8 p fun n1 => K (.int .u8 n1))
    (VVp4 t p K))))))))))))
theorem VVp3_ok (t : TypeId) (p : PV) : (∀ K : PV → R, VVp3 t p K = K p) ∨ (∀ K : PV → R, VVp3 t p K = none) :=
  view_bsel (vL_ok false 2 p) (view_bsel (vI_ok .i64 p) (view_bsel (vI_ok .u32 p) (view_bsel (vI_ok .u64 p) (view_bsel (vI_ok .u64 p) (view_bsel (v129_ok p) (view_bsel (v129_ok p) (view_bsel (v131_ok p) (view_bsel (v132_ok p) (view_bsel (v132_ok p) (view_bsel (vI_ok .u8 p) (view_bsel (vI_ok .u8 p) (VVp4_ok t p))))))))))))
def VVp2 (t : TypeId) (p : PV) (K : PV → R) : R :=
  bsel (Nat.beq t 47) (v47 p fun s1 n2 n3 n4 => K (.agg [.str s1, .int .i64 n2, .int .i64 n3, .int .i64 n4]))
    (bsel (Nat.beq t 48) (v47 p fun s1 n2 n3 n4 => K (.agg [.str s1, .int .i64 n2, .int .i64 n3, .int .i64 n4]))
    (bsel (Nat.beq t 50) (v50 p fun n1 n2 n3 => K (.agg [.int .u8 n1, .int .u8 n2, .int .u8 n3]))
    (bsel (Nat.beq t 60) (v60 p fun n1 n2 n3 n4 n5 n6 => K (.agg [.int .u8 n1, .int .u8 n2, .int .u8 n3, .int .u8 n4, .int .u8 n5, .int .u8 n6]))
    (bsel (Nat.beq t 61) (vI .i8 p fun n1 => K (.int .i8 n1))
    (bsel (Nat.beq t 62) (v62 p fun n1 n2 => K (.agg [.int .i8 n1, .int .i8 n2]))
    (bsel (Nat.beq t 65) (vL false 1 p fun l1 => K (.sl false 1 l1))
    (bsel (Nat.beq t 81) (v81 p fun l1 n2 n3 => K (.agg [.sl false 1 l1, .int .i64 n2, .int .i64 n3]))
    (bsel (Nat.beq t 82) (v81 p fun l1 n2 n3 => K (.agg [.sl false 1 l1, .int .i64 n2, .int .i64 n3]))
    (bsel (Nat.beq t 87) (v87 p fun n1 n2 => K (.agg [.int .i64 n1, .int .i64 n2]))
    (bsel (Nat.beq t 88) (v87 p fun n1 n2 => K (.agg [.int .i64 n1, .int .i64 n2]))
    (bsel (Nat.beq t 92) (vI .u64 p fun n1 => K (.int .u64 n1))
    (VVp3 t p K))))))))))))
theorem VVp2_ok (t : TypeId) (p : PV) : (∀ K : PV → R, VVp2 t p K = K p) ∨ (∀ K : PV → R, VVp2 t p K = none) :=
  view_bsel (v47_ok p) (view_bsel (v47_ok p) (view_bsel (v50_ok p) (view_bsel (v60_ok p) (view_bsel (vI_ok .i8 p) (view_bsel (v62_ok p) (view_bsel (vL_ok false 1 p) (view_bsel (v81_ok p) (view_bsel (v81_ok p) (view_bsel (v87_ok p) (view_bsel (v87_ok p) (view_bsel (vI_ok .u64 p) (VVp3_ok t p))))))))))))
def VVp1 (t : TypeId) (p : PV) (K : PV → R) : R :=
  bsel (Nat.beq t 14) (v13 p fun s1 n2 => K (.agg [.str s1, .int .u64 n2]))
    (bsel (Nat.beq t 18) (v18 p fun p1 => K (.agg [p1]))
    (bsel (Nat.beq t 19) (v18 p fun p1 => K (.agg [p1]))
    (bsel (Nat.beq t 21) (vI .i32 p fun n1 => K (.int .i32 n1))
    (bsel (Nat.beq t 22) (vL false 4 p fun l1 => K (.sl false 4 l1))
    (bsel (Nat.beq t 23) (v23 p fun n1 n2 n3 l4 => K (.agg [.int .i64 n1, .int .i64 n2, .int .i64 n3, .sl false 4 l4]))
    (bsel (Nat.beq t 24) (v23 p fun n1 n2 n3 l4 => K (.agg [.int .i64 n1, .int .i64 n2, .int .i64 n3, .sl false 4 l4]))
    (bsel (Nat.beq t 27) (vI .i64 p fun n1 => K (.int .i64 n1))
    (bsel (Nat.beq t 32) (vL false 1 p fun l1 => K (.sl false 1 l1))
    (bsel (Nat.beq t 33) (vL false 1 p fun l1 => K (.sl false 1 l1))
    (bsel (Nat.beq t 40) (vL false 2 p fun l1 => K (.sl false 2 l1))
    (bsel (Nat.beq t 41) (vL false 4 p fun l1 => K (.sl false 4 l1))
    (VVp2 t p K))))))))))))
theorem VVp1_ok (t : TypeId) (p : PV) : (∀ K : PV → R, VVp1 t p K = K p) ∨ (∀ K : PV → R, VVp1 t p K = none) :=
  view_bsel (v13_ok p) (view_bsel (v18_ok p) (view_bsel (v18_ok p) (view_bsel (vI_ok .i32 p) (view_bsel (vL_ok false 4 p) (view_bsel (v23_ok p) (view_bsel (v23_ok p) (view_bsel (vI_ok .i64 p) (view_bsel (vL_ok false 1 p) (view_bsel (vL_ok false 1 p) (view_bsel (vL_ok false 2 p) (view_bsel (vL_ok false 4 p) (VVp2_ok t p))))))))))))
def VVp0 (t : TypeId) (p : PV) (K : PV → R) : R :=
  bsel (Nat.beq t 2) (vI .i64 p fun n1 => K (.int .i64 n1))
    (bsel (Nat.beq t 3) (vI .i64 p fun n1 => K (.int .i64 n1))
    (bsel (Nat.beq t 4) (vB p fun b1 => K (.bool b1))
    (bsel (Nat.beq t 5) (vI .u8 p fun n1 => K (.int .u8 n1))
    (bsel (Nat.beq t 6) (vI .u8 p fun n1 => K (.int .u8 n1))
    (bsel (Nat.beq t 7) (v7 p fun n1 n2 b3 n4 => K (.agg [.int .i64 n1, .int .i64 n2, .bool b3, .int .u8 n4]))
    (bsel (Nat.beq t 8) (v7 p fun n1 n2 b3 n4 => K (.agg [.int .i64 n1, .int .i64 n2, .bool b3, .int .u8 n4]))
    (bsel (Nat.beq t 9) (vS p fun s1 => K (.str s1))
    (bsel (Nat.beq t 10) (vS p fun s1 => K (.str s1))
    (bsel (Nat.beq t 11) (vS p fun s1 => K (.str s1))
    (bsel (Nat.beq t 12) (vI .u64 p fun n1 => K (.int .u64 n1))
    (bsel (Nat.beq t 13) (v13 p fun s1 n2 => K (.agg [.str s1, .int .u64 n2]))
    (VVp1 t p K))))))))))))
theorem VVp0_ok (t : TypeId) (p : PV) : (∀ K : PV → R, VVp0 t p K = K p) ∨ (∀ K : PV → R, VVp0 t p K = none) :=
  view_bsel (vI_ok .i64 p) (view_bsel (vI_ok .i64 p) (view_bsel (vB_ok p) (view_bsel (vI_ok .u8 p) (view_bsel (vI_ok .u8 p) (view_bsel (v7_ok p) (view_bsel (v7_ok p) (view_bsel (vS_ok p) (view_bsel (vS_ok p) (view_bsel (vS_ok p) (view_bsel (vI_ok .u64 p) (view_bsel (v13_ok p) (VVp1_ok t p))))))))))))
def VV : TypeId → PV → (PV → R) → R := VVp0
theorem VV_ok : viewOK VV := VVp0_ok
def w_3_3 (p : PV) (K : Int → Int → R) : R := match p with | .tuple [.int .i64 n1, .int .i64 n2] => K n1 n2 | _ => none
theorem w_3_3_ok (p : PV) (h : Objs) : (∀ K : PV → Objs → R, w_3_3 p (fun n1 n2 => K (.tuple [.int .i64 n1, .int .i64 n2]) h) = K p h) ∨ (∀ K : PV → Objs → R, w_3_3 p (fun n1 n2 => K (.tuple [.int .i64 n1, .int .i64 n2]) h) = none) := by
  unfold w_3_3; split
  · exact .inl fun _ => rfl
  · exact .inr fun _ => rfl
@[simp] theorem w_3_3_mk (n1 : Int) (n2 : Int) (K : Int → Int → R) : w_3_3 (.tuple [.int .i64 n1, .int .i64 n2]) K = K n1 n2 := rfl
def w_23_3 (p : PV) (K : Int → Int → Int → List PV → Int → R) : R := match p with | .tuple [.agg [.int .i64 n1, .int .i64 n2, .int .i64 n3, .sl false 4 l4], .int .i64 n5] => K n1 n2 n3 l4 n5 | _ => none
theorem w_23_3_ok (p : PV) (h : Objs) : (∀ K : PV → Objs → R, w_23_3 p (fun n1 n2 n3 l4 n5 => K (.tuple [.agg [.int .i64 n1, .int .i64 n2, .int .i64 n3, .sl false 4 l4], .int .i64 n5]) h) = K p h) ∨ (∀ K : PV → Objs → R, w_23_3 p (fun n1 n2 n3 l4 n5 => K (.tuple [.agg [.int .i64 n1, .int .i64 n2, .int .i64 n3, .sl false 4 l4], .int .i64 n5]) h) = none) := by
  unfold w_23_3; split
  · exact .inl fun _ => rfl
  · exact .inr fun _ => rfl
@[simp] theorem w_23_3_mk (n1 : Int) (n2 : Int) (n3 : Int) (l4 : List PV) (n5 : Int) (K : Int → Int → Int → List PV → Int → R) : w_23_3 (.tuple [.agg [.int .i64 n1, .int .i64 n2, .int .i64 n3, .sl false 4 l4], .int .i64 n5]) K = K n1 n2 n3 l4 n5 := rfl
def w_33_3 (p : PV) (K : List PV → Int → R) : R := match p with | .tuple [.sl false 1 l1, .int .i64 n2] => K l1 n2 | _ => none
theorem w_33_3_ok (p : PV) (h : Objs) : (∀ K : PV → Objs → R, w_33_3 p (fun l1 n2 => K (.tuple [.sl false 1 l1, .int .i64 n2]) h) = K p h) ∨ (∀ K : PV → Objs → R, w_33_3 p (fun l1 n2 => K (.tuple [.sl false 1 l1, .int .i64 n2]) h) = none) := by
  unfold w_33_3; split
  · exact .inl fun _ => rfl
  · exact .inr fun _ => rfl
@[simp] theorem w_33_3_mk (l1 : List PV) (n2 : Int) (K : List PV → Int → R) : w_33_3 (.tuple [.sl false 1 l1, .int .i64 n2]) K = K l1 n2 := rfl
def h54_0 (p : PV) (h : Objs) (K : Int → Int → Int → List PV → Nat → List PV → R) : R := match p, h with | .agg [.int .i64 n1, .int .i64 n2, .int .i64 n3, .sl false 4 l4], [some [.slp true k5 1 l6]] => K n1 n2 n3 l4 k5 l6 | _, _ => none
theorem h54_0_ok (p : PV) (h : Objs) : (∀ K : PV → Objs → R, h54_0 p h (fun n1 n2 n3 l4 k5 l6 => K (.agg [.int .i64 n1, .int .i64 n2, .int .i64 n3, .sl false 4 l4]) [some [.slp true k5 1 l6]]) = K p h) ∨ (∀ K : PV → Objs → R, h54_0 p h (fun n1 n2 n3 l4 k5 l6 => K (.agg [.int .i64 n1, .int .i64 n2, .int .i64 n3, .sl false 4 l4]) [some [.slp true k5 1 l6]]) = none) := by
  unfold h54_0; split
  · exact .inl fun _ => rfl
  · exact .inr fun _ => rfl
@[simp] theorem h54_0_mk (n1 : Int) (n2 : Int) (n3 : Int) (l4 : List PV) (k5 : Nat) (l6 : List PV) (K : Int → Int → Int → List PV → Nat → List PV → R) : h54_0 (.agg [.int .i64 n1, .int .i64 n2, .int .i64 n3, .sl false 4 l4]) [some [.slp true k5 1 l6]] K = K n1 n2 n3 l4 k5 l6 := rfl
def h62_0 (p : PV) (h : Objs) (K : Int → Int → Int → List PV → Nat → List PV → R) : R := match p, h with | .agg [.int .i64 n1, .int .i64 n2, .int .i64 n3, .sl false 4 l4], [some [.slp true k5 1 l6]] => K n1 n2 n3 l4 k5 l6 | _, _ => none
theorem h62_0_ok (p : PV) (h : Objs) : (∀ K : PV → Objs → R, h62_0 p h (fun n1 n2 n3 l4 k5 l6 => K (.agg [.int .i64 n1, .int .i64 n2, .int .i64 n3, .sl false 4 l4]) [some [.slp true k5 1 l6]]) = K p h) ∨ (∀ K : PV → Objs → R, h62_0 p h (fun n1 n2 n3 l4 k5 l6 => K (.agg [.int .i64 n1, .int .i64 n2, .int .i64 n3, .sl false 4 l4]) [some [.slp true k5 1 l6]]) = none) := by
  unfold h62_0; split
  · exact .inl fun _ => rfl
  · exact .inr fun _ => rfl
@[simp] theorem h62_0_mk (n1 : Int) (n2 : Int) (n3 : Int) (l4 : List PV) (k5 : Nat) (l6 : List PV) (K : Int → Int → Int → List PV → Nat → List PV → R) : h62_0 (.agg [.int .i64 n1, .int .i64 n2, .int .i64 n3, .sl false 4 l4]) [some [.slp true k5 1 l6]] K = K n1 n2 n3 l4 k5 l6 := rfl
def h63_0 (p : PV) (h : Objs) (K : List PV → R) : R := match p, h with | .tuple [], [some l1] => K l1 | _, _ => none
theorem h63_0_ok (p : PV) (h : Objs) : (∀ K : PV → Objs → R, h63_0 p h (fun l1 => K (.tuple []) [some l1]) = K p h) ∨ (∀ K : PV → Objs → R, h63_0 p h (fun l1 => K (.tuple []) [some l1]) = none) := by
  unfold h63_0; split
  · exact .inl fun _ => rfl
  · exact .inr fun _ => rfl
@[simp] theorem h63_0_mk (l1 : List PV) (K : List PV → R) : h63_0 (.tuple []) [some l1] K = K l1 := rfl
def h64_0 (p : PV) (h : Objs) (K : Nat → List PV → R) : R := match p, h with | .slh 0 0 k1 1, [some l2] => K k1 l2 | _, _ => none
theorem h64_0_ok (p : PV) (h : Objs) : (∀ K : PV → Objs → R, h64_0 p h (fun k1 l2 => K (.slh 0 0 k1 1) [some l2]) = K p h) ∨ (∀ K : PV → Objs → R, h64_0 p h (fun k1 l2 => K (.slh 0 0 k1 1) [some l2]) = none) := by
  unfold h64_0; split
  · exact .inl fun _ => rfl
  · exact .inr fun _ => rfl
@[simp] theorem h64_0_mk (k1 : Nat) (l2 : List PV) (K : Nat → List PV → R) : h64_0 (.slh 0 0 k1 1) [some l2] K = K k1 l2 := rfl
def WW54 (h0 : Objs) (r : PV) (h : Objs) (K : PV → Objs → R) : R := match h0 with
  | [some [_]] => h54_0 r h (fun n1 n2 n3 l4 k5 l6 => K (.agg [.int .i64 n1, .int .i64 n2, .int .i64 n3, .sl false 4 l4]) [some [.slp true k5 1 l6]])
  | [] => v23 r fun n1 n2 n3 l4 => K (.agg [.int .i64 n1, .int .i64 n2, .int .i64 n3, .sl false 4 l4]) h
  | _ => K r h
theorem WW54_ok (h0 : Objs) (r : PV) (h : Objs) : (∀ K : PV → Objs → R, WW54 h0 r h K = K r h) ∨ (∀ K : PV → Objs → R, WW54 h0 r h K = none) := by
  unfold WW54; split
  · exact h54_0_ok r h
  · exact one_ok (v23_ok r) h
  · exact .inl fun _ => rfl
def WW62 (h0 : Objs) (r : PV) (h : Objs) (K : PV → Objs → R) : R := match h0 with
  | [some [_]] => h62_0 r h (fun n1 n2 n3 l4 k5 l6 => K (.agg [.int .i64 n1, .int .i64 n2, .int .i64 n3, .sl false 4 l4]) [some [.slp true k5 1 l6]])
  | [] => v23 r fun n1 n2 n3 l4 => K (.agg [.int .i64 n1, .int .i64 n2, .int .i64 n3, .sl false 4 l4]) h
  | _ => K r h
theorem WW62_ok (h0 : Objs) (r : PV) (h : Objs) : (∀ K : PV → Objs → R, WW62 h0 r h K = K r h) ∨ (∀ K : PV → Objs → R, WW62 h0 r h K = none) := by
  unfold WW62; split
  · exact h62_0_ok r h
  · exact one_ok (v23_ok r) h
  · exact .inl fun _ => rfl
def WW63 (h0 : Objs) (r : PV) (h : Objs) (K : PV → Objs → R) : R := match h0 with
  | [some _] => h63_0 r h (fun l1 => K (.tuple []) [some l1])
  | [] => w0 r (K (.tuple []) h)
  | _ => K r h
theorem WW63_ok (h0 : Objs) (r : PV) (h : Objs) : (∀ K : PV → Objs → R, WW63 h0 r h K = K r h) ∨ (∀ K : PV → Objs → R, WW63 h0 r h K = none) := by
  unfold WW63; split
  · exact h63_0_ok r h
  · exact w0_ok r h
  · exact .inl fun _ => rfl
def WW64 (h0 : Objs) (r : PV) (h : Objs) (K : PV → Objs → R) : R := match h0 with
  | [some _] => h64_0 r h (fun k1 l2 => K (.slh 0 0 k1 1) [some l2])
  | [] => vL false 1 r fun l1 => K (.sl false 1 l1) h
  | _ => K r h
theorem WW64_ok (h0 : Objs) (r : PV) (h : Objs) : (∀ K : PV → Objs → R, WW64 h0 r h K = K r h) ∨ (∀ K : PV → Objs → R, WW64 h0 r h K = none) := by
  unfold WW64; split
  · exact h64_0_ok r h
  · exact one_ok (vL_ok false 1 r) h
  · exact .inl fun _ => rfl
def WWp1 (g : FuncId) (h0 : Objs) (r : PV) (h : Objs) (K : PV → Objs → R) : R :=
  bsel (Nat.beq g 38) (v23 r fun n1 n2 n3 l4 => K (.agg [.int .i64 n1, .int .i64 n2, .int .i64 n3, .sl false 4 l4]) h)
    (bsel (Nat.beq g 39) (v23 r fun n1 n2 n3 l4 => K (.agg [.int .i64 n1, .int .i64 n2, .int .i64 n3, .sl false 4 l4]) h)
    (bsel (Nat.beq g 40) (v23 r fun n1 n2 n3 l4 => K (.agg [.int .i64 n1, .int .i64 n2, .int .i64 n3, .sl false 4 l4]) h)
    (bsel (Nat.beq g 51) (vI .i64 r fun n1 => K (.int .i64 n1) h)
    (bsel (Nat.beq g 54) (WW54 h0 r h K)
    (bsel (Nat.beq g 62) (WW62 h0 r h K)
    (bsel (Nat.beq g 63) (WW63 h0 r h K)
    (bsel (Nat.beq g 64) (WW64 h0 r h K)
    (K r h))))))))
theorem WWp1_ok (g : FuncId) (h0 : Objs) (r : PV) (h : Objs) : (∀ K : PV → Objs → R, WWp1 g h0 r h K = K r h) ∨ (∀ K : PV → Objs → R, WWp1 g h0 r h K = none) :=
  out_bsel (one_ok (v23_ok r) h) (out_bsel (one_ok (v23_ok r) h) (out_bsel (one_ok (v23_ok r) h) (out_bsel (one_ok (vI_ok .i64 r) h) (out_bsel (WW54_ok h0 r h) (out_bsel (WW62_ok h0 r h) (out_bsel (WW63_ok h0 r h) (out_bsel (WW64_ok h0 r h) (.inl fun _ => rfl))))))))
def WWp0 (g : FuncId) (h0 : Objs) (r : PV) (h : Objs) (K : PV → Objs → R) : R :=
  bsel (Nat.beq g 11) (vB r fun b1 => K (.bool b1) h)
    (bsel (Nat.beq g 12) (vB r fun b1 => K (.bool b1) h)
    (bsel (Nat.beq g 13) (vB r fun b1 => K (.bool b1) h)
    (bsel (Nat.beq g 14) (w_3_3 r fun n1 n2 => K (.tuple [.int .i64 n1, .int .i64 n2]) h)
    (bsel (Nat.beq g 15) (w_3_3 r fun n1 n2 => K (.tuple [.int .i64 n1, .int .i64 n2]) h)
    (bsel (Nat.beq g 17) (vB r fun b1 => K (.bool b1) h)
    (bsel (Nat.beq g 18) (v23 r fun n1 n2 n3 l4 => K (.agg [.int .i64 n1, .int .i64 n2, .int .i64 n3, .sl false 4 l4]) h)
    (bsel (Nat.beq g 19) (vB r fun b1 => K (.bool b1) h)
    (bsel (Nat.beq g 25) (w_23_3 r fun n1 n2 n3 l4 n5 => K (.tuple [.agg [.int .i64 n1, .int .i64 n2, .int .i64 n3, .sl false 4 l4], .int .i64 n5]) h)
    (bsel (Nat.beq g 35) (w_33_3 r fun l1 n2 => K (.tuple [.sl false 1 l1, .int .i64 n2]) h)
    (bsel (Nat.beq g 36) (v23 r fun n1 n2 n3 l4 => K (.agg [.int .i64 n1, .int .i64 n2, .int .i64 n3, .sl false 4 l4]) h)
    (bsel (Nat.beq g 37) (vB r fun b1 => K (.bool b1) h)
    (WWp1 g h0 r h K))))))))))))
theorem WWp0_ok (g : FuncId) (h0 : Objs) (r : PV) (h : Objs) : (∀ K : PV → Objs → R, WWp0 g h0 r h K = K r h) ∨ (∀ K : PV → Objs → R, WWp0 g h0 r h K = none) :=
  out_bsel (one_ok (vB_ok r) h) (out_bsel (one_ok (vB_ok r) h) (out_bsel (one_ok (vB_ok r) h) (out_bsel (w_3_3_ok r h) (out_bsel (w_3_3_ok r h) (out_bsel (one_ok (vB_ok r) h) (out_bsel (one_ok (v23_ok r) h) (out_bsel (one_ok (vB_ok r) h) (out_bsel (w_23_3_ok r h) (out_bsel (w_33_3_ok r h) (out_bsel (one_ok (v23_ok r) h) (out_bsel (one_ok (vB_ok r) h) (WWp1_ok g h0 r h))))))))))))
def WW : FuncId → Objs → PV → Objs → (PV → Objs → R) → R := WWp0
theorem WW_ok : outOK WW := WWp0_ok
def prmT (g : FuncId) : Prm := match g with
  | 11 => ⟨[0, 1, 3, 5, 6, 7, 8, 9, 10, 12, 13, 14], [], [], [(0, [1]), (1, [0, 0, 0, 4]), (5, [4]), (9, [1])], [(4, [0, 3]), (8, [5, 6]), (14, [5, 6, 7, 8, 9, 10]), (16, [5, 6, 9]), (20, [5, 6, 9, 13, 14]), (21, [5, 6, 9, 13, 14]), (23, [5, 6, 9, 13, 14]), (19, [5, 6, 9, 13, 14]), (24, [5, 6, 9, 13]), (7, [5, 6]), (26, [])], [(6, [5, 6]), (18, [5, 6, 9, 13, 14])], [(3, [0, 0, 0, 4]), (7, [0, 0, 0, 4])], [3], [], [], [], [29, 84]⟩
  | 12 => ⟨[1, 2, 3, 4, 5, 6, 7, 8, 9, 10, 11, 12, 13, 14, 15], [], [], [(3, [4])], [], [], [(1, [0, 0, 0, 4]), (2, [0, 0, 0, 4]), (4, [0, 0, 0, 4]), (13, [0, 0, 0, 4]), (14, [0, 0, 0, 4])], [], [], [], [], []⟩
  | 13 => ⟨[0, 1, 3], [], [], [(0, [0, 0, 0, 4])], [], [], [(1, [0, 0, 0, 4])], [1], [], [], [], []⟩
  | 14 => ⟨[0, 1, 2, 4, 6, 7], [], [], [(0, [0, 0, 0, 4])], [(4, [1, 2]), (8, [2]), (11, [4])], [], [(2, [0, 0, 0, 4])], [2], [], [], [], []⟩
  | 15 => ⟨[0, 1, 2, 6, 7, 8], [], [], [(0, [0, 0, 0, 4])], [(4, [1, 2]), (8, [2]), (11, [8])], [], [(2, [0, 0, 0, 4])], [2], [], [], [], []⟩
  | 17 => ⟨[0, 1, 2, 3, 5], [], [], [(0, [0, 0, 0, 4]), (1, [0, 0, 0, 4])], [(4, [2, 3]), (7, [2, 3, 5]), (6, [2, 3, 5]), (9, [])], [(5, [2, 3, 5])], [(2, [0, 0, 0, 4]), (3, [0, 0, 0, 4])], [2, 3], [], [], [], []⟩
  | 18 => ⟨[0, 1, 2, 6, 7], [], [], [(0, [1])], [], [], [(6, [0, 0, 0, 4])], [], [([0, 0, 0, 4], true)], [], [], []⟩
  | 19 => ⟨[0, 1], [], [], [], [], [], [], [], [], [], [], []⟩
  | 25 => ⟨[0, 1, 2, 5], [], [], [(0, [0, 0, 0, 4])], [(5, [1, 2])], [], [(1, [0, 0, 0, 4]), (2, [0, 0, 0, 4])], [1], [([0, 0, 0, 4], true), ([], true)], [], [], []⟩
  | 35 => ⟨[0, 1, 5, 6], [], [], [(0, [0, 0, 0, 4])], [(5, [1])], [], [(1, [0, 0, 0, 4]), (6, [1000001])], [1], [([1], false), ([], true)], [(7, [4000600]), (0, [1000002])], [19, 21], []⟩
  | 36 => ⟨[0, 1, 2, 3, 4, 5, 6, 7, 8, 9, 10, 11, 12, 13, 14, 15], [37, 48], [12, 13, 14, 15], [(0, [0, 0, 0, 4]), (5, [1])], [(8, [1, 2, 3, 4, 5, 6]), (7, [1, 2, 3, 4, 5, 6]), (12, [1, 2, 3, 4, 5]), (44, [2, 3, 9]), (16, [2, 3, 12, 13]), (46, [2, 3])], [(6, [1, 2, 3, 4, 5, 6])], [(1, [0, 0, 0, 4]), (2, [0, 0, 0, 4]), (3, [0, 0, 0, 4]), (7, [0, 0, 0, 4]), (8, [0, 0, 0, 4]), (9, [0, 0, 0, 4]), (11, [0, 0, 0, 4]), (12, [0, 0, 0, 4]), (13, [0, 0, 0, 4]), (14, [0, 0, 0, 4]), (15, [0, 0, 0, 4])], [1], [([0, 0, 0, 4], true)], [], [], [12, 13, 14, 15, 55, 56, 60, 61, 63, 65, 67, 69, 158, 168, 1000001, 1000002, 1000003]⟩
  | 37 => ⟨[0, 1, 2, 5], [], [], [(0, [0, 0, 0, 4])], [(4, [1, 2]), (7, [1, 2, 5]), (6, [1, 2, 5]), (9, [])], [(5, [1, 2, 5])], [(2, [0, 0, 0, 4])], [2], [], [], [], []⟩
  | 38 => ⟨[0], [], [], [], [], [], [(0, [0, 0, 0, 4])], [], [([0, 0, 0, 4], true)], [], [], []⟩
  | 39 => ⟨[0, 2, 3], [], [], [], [(5, [2, 3])], [], [(2, [0, 0, 0, 4])], [], [([0, 0, 0, 4], true)], [], [], []⟩
  | 40 => ⟨[0], [], [], [], [], [], [(0, [0, 0, 0, 4])], [], [([0, 0, 0, 4], true)], [], [], []⟩
  | 51 => ⟨[0, 1, 5], [], [], [(1, [1])], [(23, [1])], [], [], [], [], [], [], []⟩
  | 54 => ⟨[0, 1, 2, 4, 5, 7, 16, 17, 18], [23], [], [(0, [0, 0, 0, 4]), (16, [4])], [(5, [1, 4, 5, 16, 17, 18]), (7, [1, 4, 5, 16, 17, 18]), (8, [1, 4, 5])], [(4, [1, 4, 5, 16, 17, 18])], [(2, [0, 0, 0, 4]), (4, [0, 0, 0, 4]), (5, [0, 0, 0, 4]), (7, [0, 0, 0, 4])], [2], [([0, 0, 0, 4], true)], [], [26], []⟩
  | 62 => ⟨[0, 1, 2, 3], [7], [], [(0, [0, 0, 0, 4])], [(4, [2, 3])], [], [(2, [0, 0, 0, 4]), (3, [0, 0, 0, 4])], [2], [([0, 0, 0, 4], true)], [], [], []⟩
  | 63 => ⟨[0, 2], [], [], [(0, [1])], [], [], [], [], [], [], [], []⟩
  | 64 => ⟨[0, 3, 4, 5], [], [], [(0, [1]), (4, [1])], [(4, [0]), (7, [0, 3]), (12, [0, 3, 4, 5]), (11, [0, 3, 4, 5]), (15, [0, 3]), (6, [0, 3]), (17, [0])], [(5, [0, 3]), (10, [0, 3, 4, 5])], [], [], [([1], false)], [], [18, 23, 37, 42, 49, 51, 8000037, 8000042, 8000049], []⟩
  | _ => ⟨[], [], [], [], [], [], [], [], [], [], [], []⟩
noncomputable def SS : SE := ⟨Try.prog, prmT, VV, WW, CSW⟩
theorem SS_ok : SS.OK := ⟨VV_ok, WW_ok⟩
end Go.Proofs.Ytmclnnpaephkpaa.W

/-
  The table of the program: how values of each type look, what each function's slots are. Printed by a program (wip/tool/dc.py).
-/
import Derived.Test.YtiejgieiokmmfaaGreatDoorZD52c
namespace Go.Proofs.YtiejgieiokmmfaaGreatDoor
set_option linter.unusedVariables false
set_option linter.unusedSimpArgs false
set_option linter.unnecessarySimpa false
set_option linter.unusedSectionVars false
open Go.RowKit
set_option maxRecDepth 1000000
def v7 (p : PV) (K : Int → Int → Bool → Int → R) : R := match p with | .agg [.int .i64 x0, .int .i64 x1, .bool x2, .int .u8 x3] => K x0 x1 x2 x3 | _ => none
theorem v7_ok (p : PV) : (∀ K : PV → R, v7 p (fun x0 x1 x2 x3 => K (.agg [.int .i64 x0, .int .i64 x1, .bool x2, .int .u8 x3])) = K p) ∨ (∀ K : PV → R, v7 p (fun x0 x1 x2 x3 => K (.agg [.int .i64 x0, .int .i64 x1, .bool x2, .int .u8 x3])) = none) := by
  unfold v7; split
  · exact .inl fun _ => rfl
  · exact .inr fun _ => rfl
@[simp] theorem v7_mk (x0 : Int) (x1 : Int) (x2 : Bool) (x3 : Int) (K : Int → Int → Bool → Int → R) : v7 (.agg [.int .i64 x0, .int .i64 x1, .bool x2, .int .u8 x3]) K = K x0 x1 x2 x3 := rfl
def v13 (p : PV) (K : ByteArray → Int → R) : R := match p with | .agg [.str x0, .int .u64 x1] => K x0 x1 | _ => none
theorem v13_ok (p : PV) : (∀ K : PV → R, v13 p (fun x0 x1 => K (.agg [.str x0, .int .u64 x1])) = K p) ∨ (∀ K : PV → R, v13 p (fun x0 x1 => K (.agg [.str x0, .int .u64 x1])) = none) := by
  unfold v13; split
  · exact .inl fun _ => rfl
  · exact .inr fun _ => rfl
@[simp] theorem v13_mk (x0 : ByteArray) (x1 : Int) (K : ByteArray → Int → R) : v13 (.agg [.str x0, .int .u64 x1]) K = K x0 x1 := rfl
def v18 (p : PV) (K : PV → R) : R := match p with | .agg [x0] => K x0 | _ => none
theorem v18_ok (p : PV) : (∀ K : PV → R, v18 p (fun x0 => K (.agg [x0])) = K p) ∨ (∀ K : PV → R, v18 p (fun x0 => K (.agg [x0])) = none) := by
  unfold v18; split
  · exact .inl fun _ => rfl
  · exact .inr fun _ => rfl
@[simp] theorem v18_mk (x0 : PV) (K : PV → R) : v18 (.agg [x0]) K = K x0 := rfl
def v24 (p : PV) (K : Int → Int → Int → List PV → List PV → R) : R := match p with | .agg [.int .i64 x0, .int .i64 x1, .int .i64 x2, .sl false 1 x3, .sl false 2 x4] => K x0 x1 x2 x3 x4 | _ => none
theorem v24_ok (p : PV) : (∀ K : PV → R, v24 p (fun x0 x1 x2 x3 x4 => K (.agg [.int .i64 x0, .int .i64 x1, .int .i64 x2, .sl false 1 x3, .sl false 2 x4])) = K p) ∨ (∀ K : PV → R, v24 p (fun x0 x1 x2 x3 x4 => K (.agg [.int .i64 x0, .int .i64 x1, .int .i64 x2, .sl false 1 x3, .sl false 2 x4])) = none) := by
  unfold v24; split
  · exact .inl fun _ => rfl
  · exact .inr fun _ => rfl
@[simp] theorem v24_mk (x0 : Int) (x1 : Int) (x2 : Int) (x3 : List PV) (x4 : List PV) (K : Int → Int → Int → List PV → List PV → R) : v24 (.agg [.int .i64 x0, .int .i64 x1, .int .i64 x2, .sl false 1 x3, .sl false 2 x4]) K = K x0 x1 x2 x3 x4 := rfl
def v42 (p : PV) (K : Int → Int → R) : R := match p with | .agg [.int .i64 x0, .int .i64 x1] => K x0 x1 | _ => none
theorem v42_ok (p : PV) : (∀ K : PV → R, v42 p (fun x0 x1 => K (.agg [.int .i64 x0, .int .i64 x1])) = K p) ∨ (∀ K : PV → R, v42 p (fun x0 x1 => K (.agg [.int .i64 x0, .int .i64 x1])) = none) := by
  unfold v42; split
  · exact .inl fun _ => rfl
  · exact .inr fun _ => rfl
@[simp] theorem v42_mk (x0 : Int) (x1 : Int) (K : Int → Int → R) : v42 (.agg [.int .i64 x0, .int .i64 x1]) K = K x0 x1 := rfl
def v47 (p : PV) (K : List PV → List PV → R) : R := match p with | .agg [.sl false 1 x0, .sl false 1 x1] => K x0 x1 | _ => none
theorem v47_ok (p : PV) : (∀ K : PV → R, v47 p (fun x0 x1 => K (.agg [.sl false 1 x0, .sl false 1 x1])) = K p) ∨ (∀ K : PV → R, v47 p (fun x0 x1 => K (.agg [.sl false 1 x0, .sl false 1 x1])) = none) := by
  unfold v47; split
  · exact .inl fun _ => rfl
  · exact .inr fun _ => rfl
@[simp] theorem v47_mk (x0 : List PV) (x1 : List PV) (K : List PV → List PV → R) : v47 (.agg [.sl false 1 x0, .sl false 1 x1]) K = K x0 x1 := rfl
def v56 (p : PV) (K : PV → List PV → R) : R := match p with | .agg [x0, .sl false 1 x1] => K x0 x1 | _ => none
theorem v56_ok (p : PV) : (∀ K : PV → R, v56 p (fun x0 x1 => K (.agg [x0, .sl false 1 x1])) = K p) ∨ (∀ K : PV → R, v56 p (fun x0 x1 => K (.agg [x0, .sl false 1 x1])) = none) := by
  unfold v56; split
  · exact .inl fun _ => rfl
  · exact .inr fun _ => rfl
@[simp] theorem v56_mk (x0 : PV) (x1 : List PV) (K : PV → List PV → R) : v56 (.agg [x0, .sl false 1 x1]) K = K x0 x1 := rfl
def v58 (p : PV) (K : PV → List PV → R) : R := match p with | .agg [x0, .sl false 1 x1] => K x0 x1 | _ => none
theorem v58_ok (p : PV) : (∀ K : PV → R, v58 p (fun x0 x1 => K (.agg [x0, .sl false 1 x1])) = K p) ∨ (∀ K : PV → R, v58 p (fun x0 x1 => K (.agg [x0, .sl false 1 x1])) = none) := by
  unfold v58; split
  · exact .inl fun _ => rfl
  · exact .inr fun _ => rfl
@[simp] theorem v58_mk (x0 : PV) (x1 : List PV) (K : PV → List PV → R) : v58 (.agg [x0, .sl false 1 x1]) K = K x0 x1 := rfl
def v66 (p : PV) (K : Int → ByteArray → PV → PV → PV → R) : R := match p with | .agg [.int .i64 x0, .str x1, x2, x3, x4] => K x0 x1 x2 x3 x4 | _ => none
theorem v66_ok (p : PV) : (∀ K : PV → R, v66 p (fun x0 x1 x2 x3 x4 => K (.agg [.int .i64 x0, .str x1, x2, x3, x4])) = K p) ∨ (∀ K : PV → R, v66 p (fun x0 x1 x2 x3 x4 => K (.agg [.int .i64 x0, .str x1, x2, x3, x4])) = none) := by
  unfold v66; split
  · exact .inl fun _ => rfl
  · exact .inr fun _ => rfl
@[simp] theorem v66_mk (x0 : Int) (x1 : ByteArray) (x2 : PV) (x3 : PV) (x4 : PV) (K : Int → ByteArray → PV → PV → PV → R) : v66 (.agg [.int .i64 x0, .str x1, x2, x3, x4]) K = K x0 x1 x2 x3 x4 := rfl
def v74 (p : PV) (K : Int → Int → Int → List PV → List PV → PV → R) : R := match p with | .agg [.int .i64 x0, .int .i64 x1, .int .i64 x2, .sl false 1 x3, .sl false 2 x4, x5] => K x0 x1 x2 x3 x4 x5 | _ => none
theorem v74_ok (p : PV) : (∀ K : PV → R, v74 p (fun x0 x1 x2 x3 x4 x5 => K (.agg [.int .i64 x0, .int .i64 x1, .int .i64 x2, .sl false 1 x3, .sl false 2 x4, x5])) = K p) ∨ (∀ K : PV → R, v74 p (fun x0 x1 x2 x3 x4 x5 => K (.agg [.int .i64 x0, .int .i64 x1, .int .i64 x2, .sl false 1 x3, .sl false 2 x4, x5])) = none) := by
  unfold v74; split
  · exact .inl fun _ => rfl
  · exact .inr fun _ => rfl
@[simp] theorem v74_mk (x0 : Int) (x1 : Int) (x2 : Int) (x3 : List PV) (x4 : List PV) (x5 : PV) (K : Int → Int → Int → List PV → List PV → PV → R) : v74 (.agg [.int .i64 x0, .int .i64 x1, .int .i64 x2, .sl false 1 x3, .sl false 2 x4, x5]) K = K x0 x1 x2 x3 x4 x5 := rfl
def v103 (p : PV) (K : PV → PV → PV → R) : R := match p with | .agg [x0, x1, x2] => K x0 x1 x2 | _ => none
theorem v103_ok (p : PV) : (∀ K : PV → R, v103 p (fun x0 x1 x2 => K (.agg [x0, x1, x2])) = K p) ∨ (∀ K : PV → R, v103 p (fun x0 x1 x2 => K (.agg [x0, x1, x2])) = none) := by
  unfold v103; split
  · exact .inl fun _ => rfl
  · exact .inr fun _ => rfl
@[simp] theorem v103_mk (x0 : PV) (x1 : PV) (x2 : PV) (K : PV → PV → PV → R) : v103 (.agg [x0, x1, x2]) K = K x0 x1 x2 := rfl
def v107 (p : PV) (K : Int → Int → Int → R) : R := match p with | .agg [.int .i64 x0, .int .i64 x1, .int .i64 x2] => K x0 x1 x2 | _ => none
theorem v107_ok (p : PV) : (∀ K : PV → R, v107 p (fun x0 x1 x2 => K (.agg [.int .i64 x0, .int .i64 x1, .int .i64 x2])) = K p) ∨ (∀ K : PV → R, v107 p (fun x0 x1 x2 => K (.agg [.int .i64 x0, .int .i64 x1, .int .i64 x2])) = none) := by
  unfold v107; split
  · exact .inl fun _ => rfl
  · exact .inr fun _ => rfl
@[simp] theorem v107_mk (x0 : Int) (x1 : Int) (x2 : Int) (K : Int → Int → Int → R) : v107 (.agg [.int .i64 x0, .int .i64 x1, .int .i64 x2]) K = K x0 x1 x2 := rfl
def v140 (p : PV) (K : Int → Int → R) : R := match p with | .agg [.int .u8 x0, .int .u8 x1] => K x0 x1 | _ => none
theorem v140_ok (p : PV) : (∀ K : PV → R, v140 p (fun x0 x1 => K (.agg [.int .u8 x0, .int .u8 x1])) = K p) ∨ (∀ K : PV → R, v140 p (fun x0 x1 => K (.agg [.int .u8 x0, .int .u8 x1])) = none) := by
  unfold v140; split
  · exact .inl fun _ => rfl
  · exact .inr fun _ => rfl
@[simp] theorem v140_mk (x0 : Int) (x1 : Int) (K : Int → Int → R) : v140 (.agg [.int .u8 x0, .int .u8 x1]) K = K x0 x1 := rfl
def v146 (p : PV) (K : PV → PV → PV → ByteArray → R) : R := match p with | .agg [x0, x1, x2, .str x3] => K x0 x1 x2 x3 | _ => none
theorem v146_ok (p : PV) : (∀ K : PV → R, v146 p (fun x0 x1 x2 x3 => K (.agg [x0, x1, x2, .str x3])) = K p) ∨ (∀ K : PV → R, v146 p (fun x0 x1 x2 x3 => K (.agg [x0, x1, x2, .str x3])) = none) := by
  unfold v146; split
  · exact .inl fun _ => rfl
  · exact .inr fun _ => rfl
@[simp] theorem v146_mk (x0 : PV) (x1 : PV) (x2 : PV) (x3 : ByteArray) (K : PV → PV → PV → ByteArray → R) : v146 (.agg [x0, x1, x2, .str x3]) K = K x0 x1 x2 x3 := rfl
def v148 (p : PV) (K : R) : R := match p with | .agg [] => K | _ => none
theorem v148_ok (p : PV) : (∀ K : PV → R, v148 p (K (.agg [])) = K p) ∨ (∀ K : PV → R, v148 p (K (.agg [])) = none) := by
  unfold v148; split
  · exact .inl fun _ => rfl
  · exact .inr fun _ => rfl
def v149 (p : PV) (K : R) : R := match p with | .agg [] => K | _ => none
theorem v149_ok (p : PV) : (∀ K : PV → R, v149 p (K (.agg [])) = K p) ∨ (∀ K : PV → R, v149 p (K (.agg [])) = none) := by
  unfold v149; split
  · exact .inl fun _ => rfl
  · exact .inr fun _ => rfl
def v157 (p : PV) (K : Int → Int → Int → Int → Int → Int → Int → PV → PV → Int → Int → R) : R := match p with | .agg [.int .u64 x0, .int .u64 x1, .int .u32 x2, .int .u8 x3, .int .u8 x4, .int .u8 x5, .int .u8 x6, x7, x8, .int .i32 x9, .int .i32 x10] => K x0 x1 x2 x3 x4 x5 x6 x7 x8 x9 x10 | _ => none
theorem v157_ok (p : PV) : (∀ K : PV → R, v157 p (fun x0 x1 x2 x3 x4 x5 x6 x7 x8 x9 x10 => K (.agg [.int .u64 x0, .int .u64 x1, .int .u32 x2, .int .u8 x3, .int .u8 x4, .int .u8 x5, .int .u8 x6, x7, x8, .int .i32 x9, .int .i32 x10])) = K p) ∨ (∀ K : PV → R, v157 p (fun x0 x1 x2 x3 x4 x5 x6 x7 x8 x9 x10 => K (.agg [.int .u64 x0, .int .u64 x1, .int .u32 x2, .int .u8 x3, .int .u8 x4, .int .u8 x5, .int .u8 x6, x7, x8, .int .i32 x9, .int .i32 x10])) = none) := by
  unfold v157; split
  · exact .inl fun _ => rfl
  · exact .inr fun _ => rfl
@[simp] theorem v157_mk (x0 : Int) (x1 : Int) (x2 : Int) (x3 : Int) (x4 : Int) (x5 : Int) (x6 : Int) (x7 : PV) (x8 : PV) (x9 : Int) (x10 : Int) (K : Int → Int → Int → Int → Int → Int → Int → PV → PV → Int → Int → R) : v157 (.agg [.int .u64 x0, .int .u64 x1, .int .u32 x2, .int .u8 x3, .int .u8 x4, .int .u8 x5, .int .u8 x6, x7, x8, .int .i32 x9, .int .i32 x10]) K = K x0 x1 x2 x3 x4 x5 x6 x7 x8 x9 x10 := rfl
def VVp4 (t : TypeId) (p : PV) (K : PV → R) : R :=
  bsel (Nat.beq t 148) (v148 p (K (.agg [])))
    (bsel (Nat.beq t 149) (v149 p (K (.agg [])))
    (bsel (Nat.beq t 150) (v149 p (K (.agg [])))
    (bsel (Nat.beq t 152) (vI .u8 p fun n1 => K (.int .u8 n1))
    (bsel (Nat.beq t 153) (vI .u8 p fun n1 => K (.int .u8 n1))
    (bsel (Nat.beq t 155) (vI .i32 p fun n1 => K (.int .i32 n1))
    (bsel (Nat.beq t 156) (vI .i32 p fun n1 => K (.int .i32 n1))
    (bsel (Nat.beq t 157) (v157 p fun n1 n2 n3 n4 n5 n6 n7 p8 p9 n10 n11 => K (.agg [.int .u64 n1, .int .u64 n2, .int .u32 n3, .int .u8 n4, .int .u8 n5, .int .u8 n6, .int .u8 n7, p8, p9, .int .i32 n10, .int .i32 n11]))
    (bsel (Nat.beq t 158) (v157 p fun n1 n2 n3 n4 n5 n6 n7 p8 p9 n10 n11 => K (.agg [.int .u64 n1, .int .u64 n2, .int .u32 n3, .int .u8 n4, .int .u8 n5, .int .u8 n6, .int .u8 n7, p8, p9, .int .i32 n10, .int .i32 n11]))
    (K p)))))))))
theorem VVp4_ok (t : TypeId) (p : PV) : (∀ K : PV → R, VVp4 t p K = K p) ∨ (∀ K : PV → R, VVp4 t p K = none) :=
  view_bsel (v148_ok p) (view_bsel (v149_ok p) (view_bsel (v149_ok p) (view_bsel (vI_ok .u8 p) (view_bsel (vI_ok .u8 p) (view_bsel (vI_ok .i32 p) (view_bsel (vI_ok .i32 p) (view_bsel (v157_ok p) (view_bsel (v157_ok p) (.inl fun _ => rfl)))))))))
def VVp3 (t : TypeId) (p : PV) (K : PV → R) : R :=
  bsel (Nat.beq t 70) (vL false 1 p fun l1 => K (.sl false 1 l1))
    (bsel (Nat.beq t 74) (v74 p fun n1 n2 n3 l4 l5 p6 => K (.agg [.int .i64 n1, .int .i64 n2, .int .i64 n3, .sl false 1 l4, .sl false 2 l5, p6]))
    (bsel (Nat.beq t 75) (v74 p fun n1 n2 n3 l4 l5 p6 => K (.agg [.int .i64 n1, .int .i64 n2, .int .i64 n3, .sl false 1 l4, .sl false 2 l5, p6]))
    (bsel (Nat.beq t 103) (v103 p fun p1 p2 p3 => K (.agg [p1, p2, p3]))
    (bsel (Nat.beq t 107) (v107 p fun n1 n2 n3 => K (.agg [.int .i64 n1, .int .i64 n2, .int .i64 n3]))
    (bsel (Nat.beq t 112) (vI .u64 p fun n1 => K (.int .u64 n1))
    (bsel (Nat.beq t 118) (vI .u64 p fun n1 => K (.int .u64 n1))
    (bsel (Nat.beq t 127) (vI .u32 p fun n1 => K (.int .u32 n1))
    (bsel (Nat.beq t 140) (v140 p fun n1 n2 => K (.agg [.int .u8 n1, .int .u8 n2]))
    (bsel (Nat.beq t 141) (v140 p fun n1 n2 => K (.agg [.int .u8 n1, .int .u8 n2]))
    (bsel (Nat.beq t 146) (v146 p fun p1 p2 p3 s4 => K (.agg [p1, p2, p3, .str s4]))
    (bsel (Nat.beq t 147) (v146 p fun p1 p2 p3 s4 => K (.agg [p1, p2, p3, .str s4]))
    (VVp4 t p K))))))))))))
theorem VVp3_ok (t : TypeId) (p : PV) : (∀ K : PV → R, VVp3 t p K = K p) ∨ (∀ K : PV → R, VVp3 t p K = none) :=
  view_bsel (vL_ok false 1 p) (view_bsel (v74_ok p) (view_bsel (v74_ok p) (view_bsel (v103_ok p) (view_bsel (v107_ok p) (view_bsel (vI_ok .u64 p) (view_bsel (vI_ok .u64 p) (view_bsel (vI_ok .u32 p) (view_bsel (v140_ok p) (view_bsel (v140_ok p) (view_bsel (v146_ok p) (view_bsel (v146_ok p) (VVp4_ok t p))))))))))))
def VVp2 (t : TypeId) (p : PV) (K : PV → R) : R :=
  bsel (Nat.beq t 43) (v42 p fun n1 n2 => K (.agg [.int .i64 n1, .int .i64 n2]))
    (bsel (Nat.beq t 44) (vL false 1 p fun l1 => K (.sl false 1 l1))
    (bsel (Nat.beq t 47) (v47 p fun l1 l2 => K (.agg [.sl false 1 l1, .sl false 1 l2]))
    (bsel (Nat.beq t 48) (v47 p fun l1 l2 => K (.agg [.sl false 1 l1, .sl false 1 l2]))
    (bsel (Nat.beq t 55) (vL false 1 p fun l1 => K (.sl false 1 l1))
    (bsel (Nat.beq t 56) (v56 p fun p1 l2 => K (.agg [p1, .sl false 1 l2]))
    (bsel (Nat.beq t 57) (v56 p fun p1 l2 => K (.agg [p1, .sl false 1 l2]))
    (bsel (Nat.beq t 58) (v58 p fun p1 l2 => K (.agg [p1, .sl false 1 l2]))
    (bsel (Nat.beq t 59) (v58 p fun p1 l2 => K (.agg [p1, .sl false 1 l2]))
    (bsel (Nat.beq t 62) (vL false 5 p fun l1 => K (.sl false 5 l1))
    (bsel (Nat.beq t 66) (v66 p fun n1 s2 p3 p4 p5 => K (.agg [.int .i64 n1, .str s2, p3, p4, p5]))
    (bsel (Nat.beq t 67) (v66 p fun n1 s2 p3 p4 p5 => K (.agg [.int .i64 n1, .str s2, p3, p4, p5]))
    (VVp3 t p K))))))))))))
theorem VVp2_ok (t : TypeId) (p : PV) : (∀ K : PV → R, VVp2 t p K = K p) ∨ (∀ K : PV → R, VVp2 t p K = none) :=
  view_bsel (v42_ok p) (view_bsel (vL_ok false 1 p) (view_bsel (v47_ok p) (view_bsel (v47_ok p) (view_bsel (vL_ok false 1 p) (view_bsel (v56_ok p) (view_bsel (v56_ok p) (view_bsel (v58_ok p) (view_bsel (v58_ok p) (view_bsel (vL_ok false 5 p) (view_bsel (v66_ok p) (view_bsel (v66_ok p) (VVp3_ok t p))))))))))))
def VVp1 (t : TypeId) (p : PV) (K : PV → R) : R :=
  bsel (Nat.beq t 14) (v13 p fun s1 n2 => K (.agg [.str s1, .int .u64 n2]))
    (bsel (Nat.beq t 18) (v18 p fun p1 => K (.agg [p1]))
    (bsel (Nat.beq t 19) (v18 p fun p1 => K (.agg [p1]))
    (bsel (Nat.beq t 21) (vI .i32 p fun n1 => K (.int .i32 n1))
    (bsel (Nat.beq t 22) (vL false 1 p fun l1 => K (.sl false 1 l1))
    (bsel (Nat.beq t 23) (vL false 2 p fun l1 => K (.sl false 2 l1))
    (bsel (Nat.beq t 24) (v24 p fun n1 n2 n3 l4 l5 => K (.agg [.int .i64 n1, .int .i64 n2, .int .i64 n3, .sl false 1 l4, .sl false 2 l5]))
    (bsel (Nat.beq t 25) (v24 p fun n1 n2 n3 l4 l5 => K (.agg [.int .i64 n1, .int .i64 n2, .int .i64 n3, .sl false 1 l4, .sl false 2 l5]))
    (bsel (Nat.beq t 29) (vI .i64 p fun n1 => K (.int .i64 n1))
    (bsel (Nat.beq t 36) (vL false 2 p fun l1 => K (.sl false 2 l1))
    (bsel (Nat.beq t 40) (vL false 1 p fun l1 => K (.sl false 1 l1))
    (bsel (Nat.beq t 42) (v42 p fun n1 n2 => K (.agg [.int .i64 n1, .int .i64 n2]))
    (VVp2 t p K))))))))))))
theorem VVp1_ok (t : TypeId) (p : PV) : (∀ K : PV → R, VVp1 t p K = K p) ∨ (∀ K : PV → R, VVp1 t p K = none) :=
  view_bsel (v13_ok p) (view_bsel (v18_ok p) (view_bsel (v18_ok p) (view_bsel (vI_ok .i32 p) (view_bsel (vL_ok false 1 p) (view_bsel (vL_ok false 2 p) (view_bsel (v24_ok p) (view_bsel (v24_ok p) (view_bsel (vI_ok .i64 p) (view_bsel (vL_ok false 2 p) (view_bsel (vL_ok false 1 p) (view_bsel (v42_ok p) (VVp2_ok t p))))))))))))
def VVp0 (t : TypeId) (p : PV) (K : PV → R) : R :=
  bsel (Nat.beq t 2) (vI .i64 p fun n1 => K (.int .i64 n1))
    (bsel (Nat.beq t 3) (vI .i64 p fun n1 => K (.int .i64 n1))
    (bsel (Nat.beq t 4) (vB p fun b1 => K (.bool b1))
    (bsel (Nat.beq t 5) (vI .u8 p fun n1 => K (.int .u8 n1))
    (bsel (Nat.beq t 6) (vI .u8 p fun n1 => K (.int .u8 n1))
    (bsel (Nat.beq t 7) (v7 p fun n1 n2 b3 n4 => K (.agg [.int .i64 n1, .int .i64 n2, .bool b3, .int .u8 n4]))
    (bsel (Nat.beq t 8) (v7 p fun n1 n2 b3 n4 => K (.agg [.int .i64 n1, .int .i64 n2, .bool b3, .int .u8 n4]))
    (bsel (Nat.beq t 9) (vS p fun s1 => K (.str s1))
    (bsel (Nat.beq t 10) (vS p fun s1 => K (.str s1))
    (bsel (Nat.beq t 11) (vS p fun s1 => K (.str s1))
    (bsel (Nat.beq t 12) (vI .u64 p fun n1 => K (.int .u64 n1))
    (bsel (Nat.beq t 13) (v13 p fun s1 n2 => K (.agg [.str s1, .int .u64 n2]))
    (VVp1 t p K))))))))))))
theorem VVp0_ok (t : TypeId) (p : PV) : (∀ K : PV → R, VVp0 t p K = K p) ∨ (∀ K : PV → R, VVp0 t p K = none) :=
  view_bsel (vI_ok .i64 p) (view_bsel (vI_ok .i64 p) (view_bsel (vB_ok p) (view_bsel (vI_ok .u8 p) (view_bsel (vI_ok .u8 p) (view_bsel (v7_ok p) (view_bsel (v7_ok p) (view_bsel (vS_ok p) (view_bsel (vS_ok p) (view_bsel (vS_ok p) (view_bsel (vI_ok .u64 p) (view_bsel (v13_ok p) (VVp1_ok t p))))))))))))
def VV : TypeId → PV → (PV → R) → R := VVp0
theorem VV_ok : viewOK VV := VVp0_ok
def w_9_3 (p : PV) (K : ByteArray → Int → R) : R := match p with | .tuple [.str s1, .int .i64 n2] => K s1 n2 | _ => none
theorem w_9_3_ok (p : PV) (h : Objs) : (∀ K : PV → Objs → R, w_9_3 p (fun s1 n2 => K (.tuple [.str s1, .int .i64 n2]) h) = K p h) ∨ (∀ K : PV → Objs → R, w_9_3 p (fun s1 n2 => K (.tuple [.str s1, .int .i64 n2]) h) = none) := by
  unfold w_9_3; split
  · exact .inl fun _ => rfl
  · exact .inr fun _ => rfl
@[simp] theorem w_9_3_mk (s1 : ByteArray) (n2 : Int) (K : ByteArray → Int → R) : w_9_3 (.tuple [.str s1, .int .i64 n2]) K = K s1 n2 := rfl
def w_24_3_3 (p : PV) (K : Int → Int → Int → List PV → List PV → Int → Int → R) : R := match p with | .tuple [.agg [.int .i64 n1, .int .i64 n2, .int .i64 n3, .sl false 1 l4, .sl false 2 l5], .int .i64 n6, .int .i64 n7] => K n1 n2 n3 l4 l5 n6 n7 | _ => none
theorem w_24_3_3_ok (p : PV) (h : Objs) : (∀ K : PV → Objs → R, w_24_3_3 p (fun n1 n2 n3 l4 l5 n6 n7 => K (.tuple [.agg [.int .i64 n1, .int .i64 n2, .int .i64 n3, .sl false 1 l4, .sl false 2 l5], .int .i64 n6, .int .i64 n7]) h) = K p h) ∨ (∀ K : PV → Objs → R, w_24_3_3 p (fun n1 n2 n3 l4 l5 n6 n7 => K (.tuple [.agg [.int .i64 n1, .int .i64 n2, .int .i64 n3, .sl false 1 l4, .sl false 2 l5], .int .i64 n6, .int .i64 n7]) h) = none) := by
  unfold w_24_3_3; split
  · exact .inl fun _ => rfl
  · exact .inr fun _ => rfl
@[simp] theorem w_24_3_3_mk (n1 : Int) (n2 : Int) (n3 : Int) (l4 : List PV) (l5 : List PV) (n6 : Int) (n7 : Int) (K : Int → Int → Int → List PV → List PV → Int → Int → R) : w_24_3_3 (.tuple [.agg [.int .i64 n1, .int .i64 n2, .int .i64 n3, .sl false 1 l4, .sl false 2 l5], .int .i64 n6, .int .i64 n7]) K = K n1 n2 n3 l4 l5 n6 n7 := rfl
def w_36_3 (p : PV) (K : List PV → Int → R) : R := match p with | .tuple [.sl false 2 l1, .int .i64 n2] => K l1 n2 | _ => none
theorem w_36_3_ok (p : PV) (h : Objs) : (∀ K : PV → Objs → R, w_36_3 p (fun l1 n2 => K (.tuple [.sl false 2 l1, .int .i64 n2]) h) = K p h) ∨ (∀ K : PV → Objs → R, w_36_3 p (fun l1 n2 => K (.tuple [.sl false 2 l1, .int .i64 n2]) h) = none) := by
  unfold w_36_3; split
  · exact .inl fun _ => rfl
  · exact .inr fun _ => rfl
@[simp] theorem w_36_3_mk (l1 : List PV) (n2 : Int) (K : List PV → Int → R) : w_36_3 (.tuple [.sl false 2 l1, .int .i64 n2]) K = K l1 n2 := rfl
def w_44_3 (p : PV) (K : List PV → Int → R) : R := match p with | .tuple [.sl false 1 l1, .int .i64 n2] => K l1 n2 | _ => none
theorem w_44_3_ok (p : PV) (h : Objs) : (∀ K : PV → Objs → R, w_44_3 p (fun l1 n2 => K (.tuple [.sl false 1 l1, .int .i64 n2]) h) = K p h) ∨ (∀ K : PV → Objs → R, w_44_3 p (fun l1 n2 => K (.tuple [.sl false 1 l1, .int .i64 n2]) h) = none) := by
  unfold w_44_3; split
  · exact .inl fun _ => rfl
  · exact .inr fun _ => rfl
@[simp] theorem w_44_3_mk (l1 : List PV) (n2 : Int) (K : List PV → Int → R) : w_44_3 (.tuple [.sl false 1 l1, .int .i64 n2]) K = K l1 n2 := rfl
def w_47_3 (p : PV) (K : List PV → List PV → Int → R) : R := match p with | .tuple [.agg [.sl false 1 l1, .sl false 1 l2], .int .i64 n3] => K l1 l2 n3 | _ => none
theorem w_47_3_ok (p : PV) (h : Objs) : (∀ K : PV → Objs → R, w_47_3 p (fun l1 l2 n3 => K (.tuple [.agg [.sl false 1 l1, .sl false 1 l2], .int .i64 n3]) h) = K p h) ∨ (∀ K : PV → Objs → R, w_47_3 p (fun l1 l2 n3 => K (.tuple [.agg [.sl false 1 l1, .sl false 1 l2], .int .i64 n3]) h) = none) := by
  unfold w_47_3; split
  · exact .inl fun _ => rfl
  · exact .inr fun _ => rfl
@[simp] theorem w_47_3_mk (l1 : List PV) (l2 : List PV) (n3 : Int) (K : List PV → List PV → Int → R) : w_47_3 (.tuple [.agg [.sl false 1 l1, .sl false 1 l2], .int .i64 n3]) K = K l1 l2 n3 := rfl
def w_3_4 (p : PV) (K : Int → Bool → R) : R := match p with | .tuple [.int .i64 n1, .bool b2] => K n1 b2 | _ => none
theorem w_3_4_ok (p : PV) (h : Objs) : (∀ K : PV → Objs → R, w_3_4 p (fun n1 b2 => K (.tuple [.int .i64 n1, .bool b2]) h) = K p h) ∨ (∀ K : PV → Objs → R, w_3_4 p (fun n1 b2 => K (.tuple [.int .i64 n1, .bool b2]) h) = none) := by
  unfold w_3_4; split
  · exact .inl fun _ => rfl
  · exact .inr fun _ => rfl
@[simp] theorem w_3_4_mk (n1 : Int) (b2 : Bool) (K : Int → Bool → R) : w_3_4 (.tuple [.int .i64 n1, .bool b2]) K = K n1 b2 := rfl
def w_112_112 (p : PV) (K : Int → Int → R) : R := match p with | .tuple [.int .u64 n1, .int .u64 n2] => K n1 n2 | _ => none
theorem w_112_112_ok (p : PV) (h : Objs) : (∀ K : PV → Objs → R, w_112_112 p (fun n1 n2 => K (.tuple [.int .u64 n1, .int .u64 n2]) h) = K p h) ∨ (∀ K : PV → Objs → R, w_112_112 p (fun n1 n2 => K (.tuple [.int .u64 n1, .int .u64 n2]) h) = none) := by
  unfold w_112_112; split
  · exact .inl fun _ => rfl
  · exact .inr fun _ => rfl
@[simp] theorem w_112_112_mk (n1 : Int) (n2 : Int) (K : Int → Int → R) : w_112_112 (.tuple [.int .u64 n1, .int .u64 n2]) K = K n1 n2 := rfl
def w_118_118 (p : PV) (K : Int → Int → R) : R := match p with | .tuple [.int .u64 n1, .int .u64 n2] => K n1 n2 | _ => none
theorem w_118_118_ok (p : PV) (h : Objs) : (∀ K : PV → Objs → R, w_118_118 p (fun n1 n2 => K (.tuple [.int .u64 n1, .int .u64 n2]) h) = K p h) ∨ (∀ K : PV → Objs → R, w_118_118 p (fun n1 n2 => K (.tuple [.int .u64 n1, .int .u64 n2]) h) = none) := by
  unfold w_118_118; split
  · exact .inl fun _ => rfl
  · exact .inr fun _ => rfl
@[simp] theorem w_118_118_mk (n1 : Int) (n2 : Int) (K : Int → Int → R) : w_118_118 (.tuple [.int .u64 n1, .int .u64 n2]) K = K n1 n2 := rfl
def h24_0 (p : PV) (h : Objs) (K : List UInt8 → R) : R := match p, h with | .tuple [], [some [.bld 59 0, .slT y1]] => K y1 | _, _ => none
theorem h24_0_ok (p : PV) (h : Objs) : (∀ K : PV → Objs → R, h24_0 p h (fun y1 => K (.tuple []) [some [.bld 59 0, .slT y1]]) = K p h) ∨ (∀ K : PV → Objs → R, h24_0 p h (fun y1 => K (.tuple []) [some [.bld 59 0, .slT y1]]) = none) := by
  unfold h24_0; split
  · exact .inl fun _ => rfl
  · exact .inr fun _ => rfl
@[simp] theorem h24_0_mk (y1 : List UInt8) (K : List UInt8 → R) : h24_0 (.tuple []) [some [.bld 59 0, .slT y1]] K = K y1 := rfl
def h28_0 (p : PV) (h : Objs) (K : ByteArray → List PV → R) : R := match p, h with | .str s1, [some [.bld 59 0, .sl false 1 l2]] => K s1 l2 | _, _ => none
theorem h28_0_ok (p : PV) (h : Objs) : (∀ K : PV → Objs → R, h28_0 p h (fun s1 l2 => K (.str s1) [some [.bld 59 0, .sl false 1 l2]]) = K p h) ∨ (∀ K : PV → Objs → R, h28_0 p h (fun s1 l2 => K (.str s1) [some [.bld 59 0, .sl false 1 l2]]) = none) := by
  unfold h28_0; split
  · exact .inl fun _ => rfl
  · exact .inr fun _ => rfl
@[simp] theorem h28_0_mk (s1 : ByteArray) (l2 : List PV) (K : ByteArray → List PV → R) : h28_0 (.str s1) [some [.bld 59 0, .sl false 1 l2]] K = K s1 l2 := rfl
def h30_0 (p : PV) (h : Objs) (K : Bool → Int → Int → Int → List PV → List PV → List PV → R) : R := match p, h with | .bool b1, [some [.int .i64 n2, .int .i64 n3, .int .i64 n4, .sl true 1 l5, .sl true 2 l6, .bld 0 1], some [.mp l7]] => K b1 n2 n3 n4 l5 l6 l7 | _, _ => none
theorem h30_0_ok (p : PV) (h : Objs) : (∀ K : PV → Objs → R, h30_0 p h (fun b1 n2 n3 n4 l5 l6 l7 => K (.bool b1) [some [.int .i64 n2, .int .i64 n3, .int .i64 n4, .sl true 1 l5, .sl true 2 l6, .bld 0 1], some [.mp l7]]) = K p h) ∨ (∀ K : PV → Objs → R, h30_0 p h (fun b1 n2 n3 n4 l5 l6 l7 => K (.bool b1) [some [.int .i64 n2, .int .i64 n3, .int .i64 n4, .sl true 1 l5, .sl true 2 l6, .bld 0 1], some [.mp l7]]) = none) := by
  unfold h30_0; split
  · exact .inl fun _ => rfl
  · exact .inr fun _ => rfl
@[simp] theorem h30_0_mk (b1 : Bool) (n2 : Int) (n3 : Int) (n4 : Int) (l5 : List PV) (l6 : List PV) (l7 : List PV) (K : Bool → Int → Int → Int → List PV → List PV → List PV → R) : h30_0 (.bool b1) [some [.int .i64 n2, .int .i64 n3, .int .i64 n4, .sl true 1 l5, .sl true 2 l6, .bld 0 1], some [.mp l7]] K = K b1 n2 n3 n4 l5 l6 l7 := rfl
def h31_0 (p : PV) (h : Objs) (K : Bool → Int → Int → Int → List PV → List PV → List PV → R) : R := match p, h with | .bool b1, [some [.int .i64 n2, .int .i64 n3, .int .i64 n4, .sl true 1 l5, .sl true 2 l6, .bld 0 1], some [.mp l7]] => K b1 n2 n3 n4 l5 l6 l7 | _, _ => none
theorem h31_0_ok (p : PV) (h : Objs) : (∀ K : PV → Objs → R, h31_0 p h (fun b1 n2 n3 n4 l5 l6 l7 => K (.bool b1) [some [.int .i64 n2, .int .i64 n3, .int .i64 n4, .sl true 1 l5, .sl true 2 l6, .bld 0 1], some [.mp l7]]) = K p h) ∨ (∀ K : PV → Objs → R, h31_0 p h (fun b1 n2 n3 n4 l5 l6 l7 => K (.bool b1) [some [.int .i64 n2, .int .i64 n3, .int .i64 n4, .sl true 1 l5, .sl true 2 l6, .bld 0 1], some [.mp l7]]) = none) := by
  unfold h31_0; split
  · exact .inl fun _ => rfl
  · exact .inr fun _ => rfl
@[simp] theorem h31_0_mk (b1 : Bool) (n2 : Int) (n3 : Int) (n4 : Int) (l5 : List PV) (l6 : List PV) (l7 : List PV) (K : Bool → Int → Int → Int → List PV → List PV → List PV → R) : h31_0 (.bool b1) [some [.int .i64 n2, .int .i64 n3, .int .i64 n4, .sl true 1 l5, .sl true 2 l6, .bld 0 1], some [.mp l7]] K = K b1 n2 n3 n4 l5 l6 l7 := rfl
def h32_0 (p : PV) (h : Objs) (K : Bool → Int → Int → Int → List PV → List PV → List PV → R) : R := match p, h with | .bool b1, [some [.int .i64 n2, .int .i64 n3, .int .i64 n4, .sl true 1 l5, .sl true 2 l6, .bld 0 1], some [.mp l7]] => K b1 n2 n3 n4 l5 l6 l7 | _, _ => none
theorem h32_0_ok (p : PV) (h : Objs) : (∀ K : PV → Objs → R, h32_0 p h (fun b1 n2 n3 n4 l5 l6 l7 => K (.bool b1) [some [.int .i64 n2, .int .i64 n3, .int .i64 n4, .sl true 1 l5, .sl true 2 l6, .bld 0 1], some [.mp l7]]) = K p h) ∨ (∀ K : PV → Objs → R, h32_0 p h (fun b1 n2 n3 n4 l5 l6 l7 => K (.bool b1) [some [.int .i64 n2, .int .i64 n3, .int .i64 n4, .sl true 1 l5, .sl true 2 l6, .bld 0 1], some [.mp l7]]) = none) := by
  unfold h32_0; split
  · exact .inl fun _ => rfl
  · exact .inr fun _ => rfl
@[simp] theorem h32_0_mk (b1 : Bool) (n2 : Int) (n3 : Int) (n4 : Int) (l5 : List PV) (l6 : List PV) (l7 : List PV) (K : Bool → Int → Int → Int → List PV → List PV → List PV → R) : h32_0 (.bool b1) [some [.int .i64 n2, .int .i64 n3, .int .i64 n4, .sl true 1 l5, .sl true 2 l6, .bld 0 1], some [.mp l7]] K = K b1 n2 n3 n4 l5 l6 l7 := rfl
def h33_0 (p : PV) (h : Objs) (K : Int → Int → Int → Int → List PV → List PV → List PV → R) : R := match p, h with | .int .i64 n1, [some [.int .i64 n2, .int .i64 n3, .int .i64 n4, .sl true 1 l5, .sl true 2 l6, .bld 0 1], some [.mp l7]] => K n1 n2 n3 n4 l5 l6 l7 | _, _ => none
theorem h33_0_ok (p : PV) (h : Objs) : (∀ K : PV → Objs → R, h33_0 p h (fun n1 n2 n3 n4 l5 l6 l7 => K (.int .i64 n1) [some [.int .i64 n2, .int .i64 n3, .int .i64 n4, .sl true 1 l5, .sl true 2 l6, .bld 0 1], some [.mp l7]]) = K p h) ∨ (∀ K : PV → Objs → R, h33_0 p h (fun n1 n2 n3 n4 l5 l6 l7 => K (.int .i64 n1) [some [.int .i64 n2, .int .i64 n3, .int .i64 n4, .sl true 1 l5, .sl true 2 l6, .bld 0 1], some [.mp l7]]) = none) := by
  unfold h33_0; split
  · exact .inl fun _ => rfl
  · exact .inr fun _ => rfl
@[simp] theorem h33_0_mk (n1 : Int) (n2 : Int) (n3 : Int) (n4 : Int) (l5 : List PV) (l6 : List PV) (l7 : List PV) (K : Int → Int → Int → Int → List PV → List PV → List PV → R) : h33_0 (.int .i64 n1) [some [.int .i64 n2, .int .i64 n3, .int .i64 n4, .sl true 1 l5, .sl true 2 l6, .bld 0 1], some [.mp l7]] K = K n1 n2 n3 n4 l5 l6 l7 := rfl
def h39_0 (p : PV) (h : Objs) (K : List PV → List PV → R) : R := match p, h with | .sl false 1 l1, [some l2] => K l1 l2 | _, _ => none
theorem h39_0_ok (p : PV) (h : Objs) : (∀ K : PV → Objs → R, h39_0 p h (fun l1 l2 => K (.sl false 1 l1) [some l2]) = K p h) ∨ (∀ K : PV → Objs → R, h39_0 p h (fun l1 l2 => K (.sl false 1 l1) [some l2]) = none) := by
  unfold h39_0; split
  · exact .inl fun _ => rfl
  · exact .inr fun _ => rfl
@[simp] theorem h39_0_mk (l1 : List PV) (l2 : List PV) (K : List PV → List PV → R) : h39_0 (.sl false 1 l1) [some l2] K = K l1 l2 := rfl
def h41_0 (p : PV) (h : Objs) (K0 : Nat → Int → List PV → R) (K1 : List PV → Int → R) : R := match p, h with | .tuple [.slh 0 0 k1 1, .int .i64 n2], [some l3] => K0 k1 n2 l3 | .tuple [.sl false 1 l1, .int .i64 n2], [] => K1 l1 n2 | _, _ => none
theorem h41_0_ok (p : PV) (h : Objs) : (∀ K : PV → Objs → R, h41_0 p h (fun k1 n2 l3 => K (.tuple [.slh 0 0 k1 1, .int .i64 n2]) [some l3]) (fun l1 n2 => K (.tuple [.sl false 1 l1, .int .i64 n2]) []) = K p h) ∨ (∀ K : PV → Objs → R, h41_0 p h (fun k1 n2 l3 => K (.tuple [.slh 0 0 k1 1, .int .i64 n2]) [some l3]) (fun l1 n2 => K (.tuple [.sl false 1 l1, .int .i64 n2]) []) = none) := by
  unfold h41_0; split
  · exact .inl fun _ => rfl
  · exact .inl fun _ => rfl
  · exact .inr fun _ => rfl
@[simp] theorem h41_0_mk0 (k1 : Nat) (n2 : Int) (l3 : List PV) (K0 : Nat → Int → List PV → R) (K1 : List PV → Int → R) : h41_0 (.tuple [.slh 0 0 k1 1, .int .i64 n2]) [some l3] K0 K1 = K0 k1 n2 l3 := rfl
@[simp] theorem h41_0_mk1 (l1 : List PV) (n2 : Int) (K0 : Nat → Int → List PV → R) (K1 : List PV → Int → R) : h41_0 (.tuple [.sl false 1 l1, .int .i64 n2]) [] K0 K1 = K1 l1 n2 := rfl
def h45_0 (p : PV) (h : Objs) (K : Int → List UInt8 → R) : R := match p, h with | .tuple [.int .i64 n1, .raw .nilIface], [some [.bld 59 0, .slT y2]] => K n1 y2 | _, _ => none
theorem h45_0_ok (p : PV) (h : Objs) : (∀ K : PV → Objs → R, h45_0 p h (fun n1 y2 => K (.tuple [.int .i64 n1, .raw .nilIface]) [some [.bld 59 0, .slT y2]]) = K p h) ∨ (∀ K : PV → Objs → R, h45_0 p h (fun n1 y2 => K (.tuple [.int .i64 n1, .raw .nilIface]) [some [.bld 59 0, .slT y2]]) = none) := by
  unfold h45_0; split
  · exact .inl fun _ => rfl
  · exact .inr fun _ => rfl
@[simp] theorem h45_0_mk (n1 : Int) (y2 : List UInt8) (K : Int → List UInt8 → R) : h45_0 (.tuple [.int .i64 n1, .raw .nilIface]) [some [.bld 59 0, .slT y2]] K = K n1 y2 := rfl
def h47_0 (p : PV) (h : Objs) (K : List UInt8 → R) : R := match p, h with | .raw .nilIface, [some [.bld 59 0, .slT y1]] => K y1 | _, _ => none
theorem h47_0_ok (p : PV) (h : Objs) : (∀ K : PV → Objs → R, h47_0 p h (fun y1 => K (.raw .nilIface) [some [.bld 59 0, .slT y1]]) = K p h) ∨ (∀ K : PV → Objs → R, h47_0 p h (fun y1 => K (.raw .nilIface) [some [.bld 59 0, .slT y1]]) = none) := by
  unfold h47_0; split
  · exact .inl fun _ => rfl
  · exact .inr fun _ => rfl
@[simp] theorem h47_0_mk (y1 : List UInt8) (K : List UInt8 → R) : h47_0 (.raw .nilIface) [some [.bld 59 0, .slT y1]] K = K y1 := rfl
def h71_0 (p : PV) (h : Objs) (K : List UInt8 → R) : R := match p, h with | .tuple [], [some [.bld 59 0, .slT y1]] => K y1 | _, _ => none
theorem h71_0_ok (p : PV) (h : Objs) : (∀ K : PV → Objs → R, h71_0 p h (fun y1 => K (.tuple []) [some [.bld 59 0, .slT y1]]) = K p h) ∨ (∀ K : PV → Objs → R, h71_0 p h (fun y1 => K (.tuple []) [some [.bld 59 0, .slT y1]]) = none) := by
  unfold h71_0; split
  · exact .inl fun _ => rfl
  · exact .inr fun _ => rfl
@[simp] theorem h71_0_mk (y1 : List UInt8) (K : List UInt8 → R) : h71_0 (.tuple []) [some [.bld 59 0, .slT y1]] K = K y1 := rfl
def WW24 (h0 : Objs) (r : PV) (h : Objs) (K : PV → Objs → R) : R := match h0 with
  | [some [.bld 59 0, .slT _]] => h24_0 r h (fun y1 => K (.tuple []) [some [.bld 59 0, .slT y1]])
  | [] => w0 r (K (.tuple []) h)
  | _ => K r h
theorem WW24_ok (h0 : Objs) (r : PV) (h : Objs) : (∀ K : PV → Objs → R, WW24 h0 r h K = K r h) ∨ (∀ K : PV → Objs → R, WW24 h0 r h K = none) := by
  unfold WW24; split
  · exact h24_0_ok r h
  · exact w0_ok r h
  · exact .inl fun _ => rfl
def WW28 (h0 : Objs) (r : PV) (h : Objs) (K : PV → Objs → R) : R := match h0 with
  | [some [.bld 59 0, .slT _]] => h28_0 r h (fun s1 l2 => K (.str s1) [some [.bld 59 0, .sl false 1 l2]])
  | [] => vS r fun s1 => K (.str s1) h
  | _ => K r h
theorem WW28_ok (h0 : Objs) (r : PV) (h : Objs) : (∀ K : PV → Objs → R, WW28 h0 r h K = K r h) ∨ (∀ K : PV → Objs → R, WW28 h0 r h K = none) := by
  unfold WW28; split
  · exact h28_0_ok r h
  · exact one_ok (vS_ok r) h
  · exact .inl fun _ => rfl
def WW30 (h0 : Objs) (r : PV) (h : Objs) (K : PV → Objs → R) : R := match h0 with
  | [some [.int .i64 _, .int .i64 _, .int .i64 _, .sl true 1 _, .sl true 2 _, .bld 0 1], some [.mp _]] => h30_0 r h (fun b1 n2 n3 n4 l5 l6 l7 => K (.bool b1) [some [.int .i64 n2, .int .i64 n3, .int .i64 n4, .sl true 1 l5, .sl true 2 l6, .bld 0 1], some [.mp l7]])
  | [] => vB r fun b1 => K (.bool b1) h
  | _ => K r h
theorem WW30_ok (h0 : Objs) (r : PV) (h : Objs) : (∀ K : PV → Objs → R, WW30 h0 r h K = K r h) ∨ (∀ K : PV → Objs → R, WW30 h0 r h K = none) := by
  unfold WW30; split
  · exact h30_0_ok r h
  · exact one_ok (vB_ok r) h
  · exact .inl fun _ => rfl
def WW31 (h0 : Objs) (r : PV) (h : Objs) (K : PV → Objs → R) : R := match h0 with
  | [some [.int .i64 _, .int .i64 _, .int .i64 _, .sl true 1 _, .sl true 2 _, .bld 0 1], some [.mp _]] => h31_0 r h (fun b1 n2 n3 n4 l5 l6 l7 => K (.bool b1) [some [.int .i64 n2, .int .i64 n3, .int .i64 n4, .sl true 1 l5, .sl true 2 l6, .bld 0 1], some [.mp l7]])
  | [] => vB r fun b1 => K (.bool b1) h
  | _ => K r h
theorem WW31_ok (h0 : Objs) (r : PV) (h : Objs) : (∀ K : PV → Objs → R, WW31 h0 r h K = K r h) ∨ (∀ K : PV → Objs → R, WW31 h0 r h K = none) := by
  unfold WW31; split
  · exact h31_0_ok r h
  · exact one_ok (vB_ok r) h
  · exact .inl fun _ => rfl
def WW32 (h0 : Objs) (r : PV) (h : Objs) (K : PV → Objs → R) : R := match h0 with
  | [some [.int .i64 _, .int .i64 _, .int .i64 _, .sl true 1 _, .sl true 2 _, .bld 0 1], some [.mp _]] => h32_0 r h (fun b1 n2 n3 n4 l5 l6 l7 => K (.bool b1) [some [.int .i64 n2, .int .i64 n3, .int .i64 n4, .sl true 1 l5, .sl true 2 l6, .bld 0 1], some [.mp l7]])
  | [] => vB r fun b1 => K (.bool b1) h
  | _ => K r h
theorem WW32_ok (h0 : Objs) (r : PV) (h : Objs) : (∀ K : PV → Objs → R, WW32 h0 r h K = K r h) ∨ (∀ K : PV → Objs → R, WW32 h0 r h K = none) := by
  unfold WW32; split
  · exact h32_0_ok r h
  · exact one_ok (vB_ok r) h
  · exact .inl fun _ => rfl
def WW33 (h0 : Objs) (r : PV) (h : Objs) (K : PV → Objs → R) : R := match h0 with
  | [some [.int .i64 _, .int .i64 _, .int .i64 _, .sl true 1 _, .sl true 2 _, .bld 0 1], some [.mp _]] => h33_0 r h (fun n1 n2 n3 n4 l5 l6 l7 => K (.int .i64 n1) [some [.int .i64 n2, .int .i64 n3, .int .i64 n4, .sl true 1 l5, .sl true 2 l6, .bld 0 1], some [.mp l7]])
  | [] => vI .i64 r fun n1 => K (.int .i64 n1) h
  | _ => K r h
theorem WW33_ok (h0 : Objs) (r : PV) (h : Objs) : (∀ K : PV → Objs → R, WW33 h0 r h K = K r h) ∨ (∀ K : PV → Objs → R, WW33 h0 r h K = none) := by
  unfold WW33; split
  · exact h33_0_ok r h
  · exact one_ok (vI_ok .i64 r) h
  · exact .inl fun _ => rfl
def WW39 (h0 : Objs) (r : PV) (h : Objs) (K : PV → Objs → R) : R := match h0 with
  | [some _] => h39_0 r h (fun l1 l2 => K (.sl false 1 l1) [some l2])
  | [] => vL false 1 r fun l1 => K (.sl false 1 l1) h
  | _ => K r h
theorem WW39_ok (h0 : Objs) (r : PV) (h : Objs) : (∀ K : PV → Objs → R, WW39 h0 r h K = K r h) ∨ (∀ K : PV → Objs → R, WW39 h0 r h K = none) := by
  unfold WW39; split
  · exact h39_0_ok r h
  · exact one_ok (vL_ok false 1 r) h
  · exact .inl fun _ => rfl
def WW41 (h0 : Objs) (r : PV) (h : Objs) (K : PV → Objs → R) : R := match h0 with
  | [] => h41_0 r h (fun k1 n2 l3 => K (.tuple [.slh 0 0 k1 1, .int .i64 n2]) [some l3]) (fun l1 n2 => K (.tuple [.sl false 1 l1, .int .i64 n2]) [])
  | _ => K r h
theorem WW41_ok (h0 : Objs) (r : PV) (h : Objs) : (∀ K : PV → Objs → R, WW41 h0 r h K = K r h) ∨ (∀ K : PV → Objs → R, WW41 h0 r h K = none) := by
  unfold WW41; split
  · exact h41_0_ok r h
  · exact .inl fun _ => rfl
def WW45 (h0 : Objs) (r : PV) (h : Objs) (K : PV → Objs → R) : R := match h0 with
  | [some [.bld 59 0, .slT _]] => h45_0 r h (fun n1 y2 => K (.tuple [.int .i64 n1, .raw .nilIface]) [some [.bld 59 0, .slT y2]])
  | _ => K r h
theorem WW45_ok (h0 : Objs) (r : PV) (h : Objs) : (∀ K : PV → Objs → R, WW45 h0 r h K = K r h) ∨ (∀ K : PV → Objs → R, WW45 h0 r h K = none) := by
  unfold WW45; split
  · exact h45_0_ok r h
  · exact .inl fun _ => rfl
def WW47 (h0 : Objs) (r : PV) (h : Objs) (K : PV → Objs → R) : R := match h0 with
  | [some [.bld 59 0, .slT _]] => h47_0 r h (fun y1 => K (.raw .nilIface) [some [.bld 59 0, .slT y1]])
  | _ => K r h
theorem WW47_ok (h0 : Objs) (r : PV) (h : Objs) : (∀ K : PV → Objs → R, WW47 h0 r h K = K r h) ∨ (∀ K : PV → Objs → R, WW47 h0 r h K = none) := by
  unfold WW47; split
  · exact h47_0_ok r h
  · exact .inl fun _ => rfl
def WW71 (h0 : Objs) (r : PV) (h : Objs) (K : PV → Objs → R) : R := match h0 with
  | [some [.bld 59 0, .slT _]] => h71_0 r h (fun y1 => K (.tuple []) [some [.bld 59 0, .slT y1]])
  | [] => w0 r (K (.tuple []) h)
  | _ => K r h
theorem WW71_ok (h0 : Objs) (r : PV) (h : Objs) : (∀ K : PV → Objs → R, WW71 h0 r h K = K r h) ∨ (∀ K : PV → Objs → R, WW71 h0 r h K = none) := by
  unfold WW71; split
  · exact h71_0_ok r h
  · exact w0_ok r h
  · exact .inl fun _ => rfl
def WWp5 (g : FuncId) (h0 : Objs) (r : PV) (h : Objs) (K : PV → Objs → R) : R :=
  bsel (Nat.beq g 65) (w_3_4 r fun n1 b2 => K (.tuple [.int .i64 n1, .bool b2]) h)
    (bsel (Nat.beq g 66) (vL true 1 r fun l1 => K (.sl true 1 l1) h)
    (bsel (Nat.beq g 67) (vI .i64 r fun n1 => K (.int .i64 n1) h)
    (bsel (Nat.beq g 68) (vL false 1 r fun l1 => K (.sl false 1 l1) h)
    (bsel (Nat.beq g 69) (vL false 1 r fun l1 => K (.sl false 1 l1) h)
    (bsel (Nat.beq g 70) (vL true 1 r fun l1 => K (.sl true 1 l1) h)
    (bsel (Nat.beq g 71) (WW71 h0 r h K)
    (bsel (Nat.beq g 77) (w_112_112 r fun n1 n2 => K (.tuple [.int .u64 n1, .int .u64 n2]) h)
    (bsel (Nat.beq g 89) (w_118_118 r fun n1 n2 => K (.tuple [.int .u64 n1, .int .u64 n2]) h)
    (K r h)))))))))
theorem WWp5_ok (g : FuncId) (h0 : Objs) (r : PV) (h : Objs) : (∀ K : PV → Objs → R, WWp5 g h0 r h K = K r h) ∨ (∀ K : PV → Objs → R, WWp5 g h0 r h K = none) :=
  out_bsel (w_3_4_ok r h) (out_bsel (one_ok (vL_ok true 1 r) h) (out_bsel (one_ok (vI_ok .i64 r) h) (out_bsel (one_ok (vL_ok false 1 r) h) (out_bsel (one_ok (vL_ok false 1 r) h) (out_bsel (one_ok (vL_ok true 1 r) h) (out_bsel (WW71_ok h0 r h) (out_bsel (w_112_112_ok r h) (out_bsel (w_118_118_ok r h) (.inl fun _ => rfl)))))))))
def WWp4 (g : FuncId) (h0 : Objs) (r : PV) (h : Objs) (K : PV → Objs → R) : R :=
  bsel (Nat.beq g 52) (vB r fun b1 => K (.bool b1) h)
    (bsel (Nat.beq g 53) (vB r fun b1 => K (.bool b1) h)
    (bsel (Nat.beq g 54) (vB r fun b1 => K (.bool b1) h)
    (bsel (Nat.beq g 55) (vB r fun b1 => K (.bool b1) h)
    (bsel (Nat.beq g 56) (vB r fun b1 => K (.bool b1) h)
    (bsel (Nat.beq g 57) (vB r fun b1 => K (.bool b1) h)
    (bsel (Nat.beq g 58) (vB r fun b1 => K (.bool b1) h)
    (bsel (Nat.beq g 59) (vB r fun b1 => K (.bool b1) h)
    (bsel (Nat.beq g 60) (vB r fun b1 => K (.bool b1) h)
    (bsel (Nat.beq g 61) (vB r fun b1 => K (.bool b1) h)
    (bsel (Nat.beq g 63) (vI .i64 r fun n1 => K (.int .i64 n1) h)
    (bsel (Nat.beq g 64) (vB r fun b1 => K (.bool b1) h)
    (WWp5 g h0 r h K))))))))))))
theorem WWp4_ok (g : FuncId) (h0 : Objs) (r : PV) (h : Objs) : (∀ K : PV → Objs → R, WWp4 g h0 r h K = K r h) ∨ (∀ K : PV → Objs → R, WWp4 g h0 r h K = none) :=
  out_bsel (one_ok (vB_ok r) h) (out_bsel (one_ok (vB_ok r) h) (out_bsel (one_ok (vB_ok r) h) (out_bsel (one_ok (vB_ok r) h) (out_bsel (one_ok (vB_ok r) h) (out_bsel (one_ok (vB_ok r) h) (out_bsel (one_ok (vB_ok r) h) (out_bsel (one_ok (vB_ok r) h) (out_bsel (one_ok (vB_ok r) h) (out_bsel (one_ok (vB_ok r) h) (out_bsel (one_ok (vI_ok .i64 r) h) (out_bsel (one_ok (vB_ok r) h) (WWp5_ok g h0 r h))))))))))))
def WWp3 (g : FuncId) (h0 : Objs) (r : PV) (h : Objs) (K : PV → Objs → R) : R :=
  bsel (Nat.beq g 39) (WW39 h0 r h K)
    (bsel (Nat.beq g 40) (v47 r fun l1 l2 => K (.agg [.sl false 1 l1, .sl false 1 l2]) h)
    (bsel (Nat.beq g 41) (WW41 h0 r h K)
    (bsel (Nat.beq g 42) (vL false 1 r fun l1 => K (.sl false 1 l1) h)
    (bsel (Nat.beq g 43) (vI .i64 r fun n1 => K (.int .i64 n1) h)
    (bsel (Nat.beq g 44) (vI .i64 r fun n1 => K (.int .i64 n1) h)
    (bsel (Nat.beq g 45) (WW45 h0 r h K)
    (bsel (Nat.beq g 46) (vS r fun s1 => K (.str s1) h)
    (bsel (Nat.beq g 47) (WW47 h0 r h K)
    (bsel (Nat.beq g 49) (vB r fun b1 => K (.bool b1) h)
    (bsel (Nat.beq g 50) (vB r fun b1 => K (.bool b1) h)
    (bsel (Nat.beq g 51) (vB r fun b1 => K (.bool b1) h)
    (WWp4 g h0 r h K))))))))))))
theorem WWp3_ok (g : FuncId) (h0 : Objs) (r : PV) (h : Objs) : (∀ K : PV → Objs → R, WWp3 g h0 r h K = K r h) ∨ (∀ K : PV → Objs → R, WWp3 g h0 r h K = none) :=
  out_bsel (WW39_ok h0 r h) (out_bsel (one_ok (v47_ok r) h) (out_bsel (WW41_ok h0 r h) (out_bsel (one_ok (vL_ok false 1 r) h) (out_bsel (one_ok (vI_ok .i64 r) h) (out_bsel (one_ok (vI_ok .i64 r) h) (out_bsel (WW45_ok h0 r h) (out_bsel (one_ok (vS_ok r) h) (out_bsel (WW47_ok h0 r h) (out_bsel (one_ok (vB_ok r) h) (out_bsel (one_ok (vB_ok r) h) (out_bsel (one_ok (vB_ok r) h) (WWp4_ok g h0 r h))))))))))))
def WWp2 (g : FuncId) (h0 : Objs) (r : PV) (h : Objs) (K : PV → Objs → R) : R :=
  bsel (Nat.beq g 27) (vS r fun s1 => K (.str s1) h)
    (bsel (Nat.beq g 28) (WW28 h0 r h K)
    (bsel (Nat.beq g 29) (vL false 1 r fun l1 => K (.sl false 1 l1) h)
    (bsel (Nat.beq g 30) (WW30 h0 r h K)
    (bsel (Nat.beq g 31) (WW31 h0 r h K)
    (bsel (Nat.beq g 32) (WW32 h0 r h K)
    (bsel (Nat.beq g 33) (WW33 h0 r h K)
    (bsel (Nat.beq g 34) (vS r fun s1 => K (.str s1) h)
    (bsel (Nat.beq g 35) (vL false 1 r fun l1 => K (.sl false 1 l1) h)
    (bsel (Nat.beq g 36) (vS r fun s1 => K (.str s1) h)
    (bsel (Nat.beq g 37) (w_47_3 r fun l1 l2 n3 => K (.tuple [.agg [.sl false 1 l1, .sl false 1 l2], .int .i64 n3]) h)
    (bsel (Nat.beq g 38) (vL true 1 r fun l1 => K (.sl true 1 l1) h)
    (WWp3 g h0 r h K))))))))))))
theorem WWp2_ok (g : FuncId) (h0 : Objs) (r : PV) (h : Objs) : (∀ K : PV → Objs → R, WWp2 g h0 r h K = K r h) ∨ (∀ K : PV → Objs → R, WWp2 g h0 r h K = none) :=
  out_bsel (one_ok (vS_ok r) h) (out_bsel (WW28_ok h0 r h) (out_bsel (one_ok (vL_ok false 1 r) h) (out_bsel (WW30_ok h0 r h) (out_bsel (WW31_ok h0 r h) (out_bsel (WW32_ok h0 r h) (out_bsel (WW33_ok h0 r h) (out_bsel (one_ok (vS_ok r) h) (out_bsel (one_ok (vL_ok false 1 r) h) (out_bsel (one_ok (vS_ok r) h) (out_bsel (w_47_3_ok r h) (out_bsel (one_ok (vL_ok true 1 r) h) (WWp3_ok g h0 r h))))))))))))
def WWp1 (g : FuncId) (h0 : Objs) (r : PV) (h : Objs) (K : PV → Objs → R) : R :=
  bsel (Nat.beq g 15) (w_44_3 r fun l1 n2 => K (.tuple [.sl false 1 l1, .int .i64 n2]) h)
    (bsel (Nat.beq g 16) (w_44_3 r fun l1 n2 => K (.tuple [.sl false 1 l1, .int .i64 n2]) h)
    (bsel (Nat.beq g 17) (vB r fun b1 => K (.bool b1) h)
    (bsel (Nat.beq g 18) (vB r fun b1 => K (.bool b1) h)
    (bsel (Nat.beq g 19) (vB r fun b1 => K (.bool b1) h)
    (bsel (Nat.beq g 20) (vB r fun b1 => K (.bool b1) h)
    (bsel (Nat.beq g 21) (vB r fun b1 => K (.bool b1) h)
    (bsel (Nat.beq g 22) (vB r fun b1 => K (.bool b1) h)
    (bsel (Nat.beq g 23) (vI .i64 r fun n1 => K (.int .i64 n1) h)
    (bsel (Nat.beq g 24) (WW24 h0 r h K)
    (bsel (Nat.beq g 25) (vS r fun s1 => K (.str s1) h)
    (bsel (Nat.beq g 26) (vL false 5 r fun l1 => K (.sl false 5 l1) h)
    (WWp2 g h0 r h K))))))))))))
theorem WWp1_ok (g : FuncId) (h0 : Objs) (r : PV) (h : Objs) : (∀ K : PV → Objs → R, WWp1 g h0 r h K = K r h) ∨ (∀ K : PV → Objs → R, WWp1 g h0 r h K = none) :=
  out_bsel (w_44_3_ok r h) (out_bsel (w_44_3_ok r h) (out_bsel (one_ok (vB_ok r) h) (out_bsel (one_ok (vB_ok r) h) (out_bsel (one_ok (vB_ok r) h) (out_bsel (one_ok (vB_ok r) h) (out_bsel (one_ok (vB_ok r) h) (out_bsel (one_ok (vB_ok r) h) (out_bsel (one_ok (vI_ok .i64 r) h) (out_bsel (WW24_ok h0 r h) (out_bsel (one_ok (vS_ok r) h) (out_bsel (one_ok (vL_ok false 5 r) h) (WWp2_ok g h0 r h))))))))))))
def WWp0 (g : FuncId) (h0 : Objs) (r : PV) (h : Objs) (K : PV → Objs → R) : R :=
  bsel (Nat.beq g 3) (vB r fun b1 => K (.bool b1) h)
    (bsel (Nat.beq g 4) (vB r fun b1 => K (.bool b1) h)
    (bsel (Nat.beq g 5) (vB r fun b1 => K (.bool b1) h)
    (bsel (Nat.beq g 6) (vB r fun b1 => K (.bool b1) h)
    (bsel (Nat.beq g 7) (vB r fun b1 => K (.bool b1) h)
    (bsel (Nat.beq g 8) (vI .i64 r fun n1 => K (.int .i64 n1) h)
    (bsel (Nat.beq g 9) (w_9_3 r fun s1 n2 => K (.tuple [.str s1, .int .i64 n2]) h)
    (bsel (Nat.beq g 10) (w_24_3_3 r fun n1 n2 n3 l4 l5 n6 n7 => K (.tuple [.agg [.int .i64 n1, .int .i64 n2, .int .i64 n3, .sl false 1 l4, .sl false 2 l5], .int .i64 n6, .int .i64 n7]) h)
    (bsel (Nat.beq g 11) (vS r fun s1 => K (.str s1) h)
    (bsel (Nat.beq g 12) (w_36_3 r fun l1 n2 => K (.tuple [.sl false 2 l1, .int .i64 n2]) h)
    (bsel (Nat.beq g 13) (v24 r fun n1 n2 n3 l4 l5 => K (.agg [.int .i64 n1, .int .i64 n2, .int .i64 n3, .sl false 1 l4, .sl false 2 l5]) h)
    (bsel (Nat.beq g 14) (v24 r fun n1 n2 n3 l4 l5 => K (.agg [.int .i64 n1, .int .i64 n2, .int .i64 n3, .sl false 1 l4, .sl false 2 l5]) h)
    (WWp1 g h0 r h K))))))))))))
theorem WWp0_ok (g : FuncId) (h0 : Objs) (r : PV) (h : Objs) : (∀ K : PV → Objs → R, WWp0 g h0 r h K = K r h) ∨ (∀ K : PV → Objs → R, WWp0 g h0 r h K = none) :=
  out_bsel (one_ok (vB_ok r) h) (out_bsel (one_ok (vB_ok r) h) (out_bsel (one_ok (vB_ok r) h) (out_bsel (one_ok (vB_ok r) h) (out_bsel (one_ok (vB_ok r) h) (out_bsel (one_ok (vI_ok .i64 r) h) (out_bsel (w_9_3_ok r h) (out_bsel (w_24_3_3_ok r h) (out_bsel (one_ok (vS_ok r) h) (out_bsel (w_36_3_ok r h) (out_bsel (one_ok (v24_ok r) h) (out_bsel (one_ok (v24_ok r) h) (WWp1_ok g h0 r h))))))))))))
def WW : FuncId → Objs → PV → Objs → (PV → Objs → R) → R := WWp0
theorem WW_ok : outOK WW := WWp0_ok
def prmT (g : FuncId) : Prm := match g with
  | 3 => ⟨[0, 1, 2, 3, 5, 6, 7, 8, 9], [], [], [(0, [0, 0, 0, 1, 2]), (1, [0, 0, 0, 1, 2])], [(4, [2, 3]), (6, [2]), (8, [2])], [], [(2, [0, 0, 0, 1, 2]), (3, [0, 0, 0, 1, 2]), (7, [0, 0, 0, 1, 2])], [2, 3], [], [], [], [23, 24, 26, 27, 31, 32]⟩
  | 4 => ⟨[1, 2, 3, 4, 5, 6, 7, 8, 9, 10], [], [], [(1, [2]), (4, [1]), (7, [1])], [(10, [1, 4, 5, 7, 8, 9, 10])], [], [(3, [0, 0, 0, 1, 2]), (6, [0, 0, 0, 1, 2])], [], [], [], [], []⟩
  | 5 => ⟨[0, 1], [], [], [(0, [0, 0, 0, 1, 2])], [], [], [(1, [0, 0, 0, 1, 2])], [1], [], [], [], []⟩
  | 6 => ⟨[0, 1, 2, 3], [], [], [(0, [0, 0, 0, 1, 2]), (1, [0, 0, 0, 1, 2])], [], [], [(2, [0, 0, 0, 1, 2]), (3, [0, 0, 0, 1, 2])], [2, 3], [], [], [], []⟩
  | 7 => ⟨[0, 1, 2, 3, 5], [], [], [(0, [0, 0, 0, 1, 2]), (1, [0, 0, 0, 1, 2])], [(4, [2, 3]), (7, [2, 3, 5]), (6, [2, 3, 5]), (9, [])], [(5, [2, 3, 5])], [(2, [0, 0, 0, 1, 2]), (3, [0, 0, 0, 1, 2])], [2, 3], [], [], [], [50, 53, 55, 58]⟩
  | 8 => ⟨[0, 1, 3, 4, 5, 6], [], [], [(0, [0, 0, 0, 1, 2]), (3, [1])], [(6, [1, 3, 4]), (5, [1, 3, 4]), (8, [1]), (10, [1]), (12, [1]), (15, [1, 5]), (14, [1, 5]), (24, [])], [(4, [1, 3, 4]), (13, [1, 5])], [(1, [0, 0, 0, 1, 2])], [1], [], [], [], []⟩
  | 9 => ⟨[0, 1, 4, 5, 6, 7, 8, 9, 11, 12, 13, 38, 39, 40, 59, 60, 61], [], [5, 36], [(0, [0, 0, 0, 1, 2]), (6, [1]), (9, [5]), (38, [1]), (59, [2])], [(5, [1]), (11, [1, 5, 6, 38, 39, 40]), (15, [1, 5, 6, 38, 39, 40]), (16, [1, 5, 6]), (17, [1, 5]), (20, [1, 5, 9, 59, 60, 61]), (25, [1, 5, 9, 12, 13, 59, 60, 61, 7000012]), (26, [1, 5, 9, 59, 60, 61]), (27, [5])], [(10, [1, 5, 6, 38, 39, 40]), (19, [1, 5, 9, 59, 60, 61])], [(1, [0, 0, 0, 1, 2]), (5, [0, 1])], [1], [], [(16, [1000006])], [29, 47, 51], [20, 23, 26]⟩
  | 10 => ⟨[0, 2, 5, 6, 7, 8, 9, 10, 11, 35, 36, 37], [], [32], [(5, [1]), (35, [1])], [(4, [0, 2]), (6, [0, 2]), (12, [2, 5, 6, 7, 35, 36, 37]), (18, [2, 5, 6, 7, 8, 9, 10, 35, 36, 37]), (20, [2, 5, 6, 7, 35, 36, 37]), (21, [2, 5, 6, 7]), (23, [2, 7]), (26, [2, 7])], [(11, [2, 5, 6, 7, 35, 36, 37])], [(2, [0, 0, 0, 1, 2]), (7, [0, 0, 0, 1, 2])], [], [([0, 0, 0, 1, 2], true), ([], true), ([], true)], [], [], []⟩
  | 11 => ⟨[0, 1, 3, 4, 5], [], [], [(0, [0, 0, 0, 1, 2])], [(8, [1, 3, 4]), (7, [1, 3, 4]), (11, [1, 3]), (12, [1, 3]), (15, [1, 3, 5]), (14, [1, 3, 5]), (16, [3])], [(6, [1, 3, 4]), (13, [1, 3, 5])], [(1, [0, 0, 0, 1, 2])], [1], [], [], [], [7, 12, 17, 54, 58, 60, 63, 65, 68]⟩
  | 12 => ⟨[0, 1, 2, 6, 7, 8, 10, 11, 20, 21, 22], [44], [37], [(0, [0, 0, 0, 1, 2]), (1, [1]), (8, [2]), (10, [1]), (11, [1]), (20, [1])], [(5, [1, 2, 6]), (8, [2, 6, 8, 20, 21, 22]), (11, [2, 6, 8, 10, 20, 21, 22]), (15, [2, 6, 8, 20, 21, 22]), (16, [8])], [(7, [2, 6, 8, 20, 21, 22])], [(2, [0, 0, 0, 1, 2]), (6, [1, 1])], [2], [([2], false), ([], true)], [(13, [1000011])], [40], []⟩
  | 13 => ⟨[0], [], [], [], [], [], [(0, [0, 0, 0, 1, 2])], [], [([0, 0, 0, 1, 2], true)], [], [], []⟩
  | 14 => ⟨[0, 2], [], [], [(0, [2])], [], [], [(2, [0, 0, 0, 1, 2])], [], [([0, 0, 0, 1, 2], true)], [], [], []⟩
  | 15 => ⟨[0, 1, 2, 3, 4, 8, 9], [], [], [(0, [0, 0, 0, 1, 2]), (1, [1, 1]), (2, [1]), (8, [1])], [(5, [3, 8])], [], [(3, [0, 0, 0, 1, 2]), (4, [1, 1])], [3, 4], [([1], false), ([], true)], [], [14, 22, 6000014], [14]⟩
  | 16 => ⟨[0, 1, 4, 5, 6, 7, 14, 15, 16], [22], [], [(0, [0, 0, 0, 1, 2]), (5, [1]), (14, [1])], [(5, [1]), (8, [5, 14, 15, 16]), (11, [5, 14, 15, 16]), (12, [5])], [(7, [5, 14, 15, 16])], [(1, [0, 0, 0, 1, 2])], [1], [([1], false), ([], true)], [], [], []⟩
  | 17 => ⟨[0, 1, 5], [], [], [(0, [1]), (1, [1])], [(4, [0, 1]), (7, [0, 1, 5]), (6, [0, 1, 5]), (9, [])], [(5, [0, 1, 5])], [], [], [], [], [], [20, 24]⟩
  | 18 => ⟨[0, 1, 5, 12, 13], [], [], [(0, [1]), (1, [1])], [(4, [0, 1]), (6, [0, 1, 12, 13]), (9, [0, 1, 12, 13]), (10, [])], [(5, [0, 1, 12, 13])], [], [], [], [], [], [19, 23]⟩
  | 19 => ⟨[0, 1, 5, 12, 13], [], [], [(0, [2]), (1, [2])], [(4, [0, 1]), (6, [0, 1, 12, 13]), (9, [0, 1, 12, 13]), (10, [])], [(5, [0, 1, 12, 13])], [], [], [], [], [], [19, 23]⟩
  | 20 => ⟨[0, 1, 5], [], [], [(0, [1]), (1, [1])], [(4, [0, 1]), (7, [0, 1, 5]), (6, [0, 1, 5]), (9, [])], [(5, [0, 1, 5])], [], [], [], [], [], [20, 24]⟩
  | 21 => ⟨[0], [], [], [], [], [], [], [], [], [], [], []⟩
  | 22 => ⟨[0], [], [], [], [], [], [], [], [], [], [], []⟩
  | 23 => ⟨[0, 1, 3, 4, 5, 13, 14], [], [], [(0, [0, 0, 0, 1, 2])], [(5, [1]), (7, [1, 13, 14]), (11, [1, 13, 14]), (12, [])], [(6, [1, 13, 14])], [(1, [0, 0, 0, 1, 2])], [1], [], [], [], []⟩
  | 24 => ⟨[0, 1], [], [], [(1, [1])], [], [], [(0, [0, 1])], [], [], [], [9], []⟩
  | 25 => ⟨[0], [], [], [], [], [], [], [], [], [], [], []⟩
  | 26 => ⟨[], [], [], [], [], [], [], [], [([5], false)], [], [], []⟩
  | 27 => ⟨[0, 1, 2], [], [], [(0, [0, 0, 0, 1, 2])], [(6, [1, 2])], [], [(2, [0, 0, 0, 1, 2])], [2], [], [], [], []⟩
  | 28 => ⟨[0], [], [], [], [], [], [(0, [0, 1])], [], [], [], [], []⟩
  | 29 => ⟨[0, 1], [], [], [], [], [], [], [], [([1], false)], [], [], []⟩
  | 30 => ⟨[0, 1, 3, 5, 6, 7, 8, 9, 10, 11, 33], [106], [], [(1, [1]), (5, [5])], [(4, [0, 3]), (8, [0, 3, 5, 6]), (13, [0, 5, 6, 7, 8]), (21, [0, 5, 6, 7, 8, 9]), (22, [0, 5, 6, 7, 8, 9]), (25, [0, 5, 6, 8, 9, 10]), (27, [0, 5, 6, 8, 10])], [], [(0, [0, 0, 0, 1, 2, 0]), (3, [1])], [3], [], [], [], [111]⟩
  | 31 => ⟨[0, 1, 5, 6, 7, 8, 30, 31], [], [], [(1, [1])], [(4, [0, 1]), (6, [1, 30, 31]), (10, [1, 6, 7, 30, 31]), (11, [1, 30, 31]), (12, [])], [(5, [1, 30, 31])], [(0, [0, 0, 0, 1, 2, 0])], [], [], [], [34], []⟩
  | 32 => ⟨[0, 1, 6, 25, 26], [40], [], [(1, [1])], [(4, [0, 1]), (6, [0, 25, 26]), (9, [0, 6, 25]), (10, [])], [(5, [0, 25])], [(0, [0, 0, 0, 1, 2, 0])], [], [], [], [], []⟩
  | 33 => ⟨[0, 3, 4, 5, 19, 20], [], [], [], [(5, [0]), (7, [0, 19, 20]), (10, [0, 4, 19, 20]), (13, [0, 19, 20]), (14, [])], [(6, [0, 19, 20])], [(0, [0, 0, 0, 1, 2, 0])], [], [], [], [], []⟩
  | 34 => ⟨[0, 3], [], [], [], [(5, [3])], [], [], [], [], [], [], []⟩
  | 35 => ⟨[], [], [], [], [], [], [], [], [([1], false)], [], [], []⟩
  | 36 => ⟨[0, 1, 2, 3], [], [], [(0, [0, 0, 0, 1, 2])], [(8, [2, 3])], [], [(2, [0, 0, 0, 1, 2])], [2, 3], [], [], [], []⟩
  | 37 => ⟨[0, 1, 2, 4], [], [], [(0, [0, 0, 0, 1, 2])], [(5, [1, 2])], [], [(1, [0, 0, 0, 1, 2]), (2, [1, 1])], [1], [([1, 1], true), ([], true)], [], [], [12, 16]⟩
  | 38 => ⟨[0, 3, 5, 6, 8, 9, 10, 11, 25, 26, 27], [31, 35], [], [(0, [1]), (5, [1]), (6, [1]), (8, [1]), (9, [1]), (25, [1])], [(5, [0, 3, 9, 10, 11]), (9, [0, 3, 9, 10, 11]), (10, [0, 3]), (13, [6, 25, 26, 27]), (15, [6, 25, 26, 27]), (16, [6])], [(4, [0, 3, 9, 10, 11]), (12, [6, 25, 26, 27])], [], [], [([1], true)], [], [9000024], []⟩
  | 39 => ⟨[0, 1, 2, 5, 6, 7, 8, 9, 10], [17], [], [(0, [0, 0, 0, 1, 2]), (1, [1]), (5, [5]), (6, [1])], [(7, [1, 2, 5, 6, 7, 8]), (17, [1, 6])], [(6, [1, 2, 5, 6, 7, 8])], [(2, [0, 0, 0, 1, 2])], [2], [([1], false)], [], [44, 60, 63, 2000046, 2000062, 2000068], []⟩
  | 40 => ⟨[0, 1, 2, 4, 5], [], [], [(0, [0, 0, 0, 1, 2]), (1, [1])], [], [], [(2, [0, 0, 0, 1, 2]), (4, [1, 1])], [2], [([1, 1], true)], [], [], [13]⟩
  | 41 => ⟨[0, 1, 2, 3, 4, 8], [], [41], [(0, [0, 0, 0, 1, 2]), (1, [1, 1]), (2, [1])], [(5, [2, 3, 4]), (7, [2, 4])], [], [(3, [0, 0, 0, 1, 2]), (4, [1, 1])], [3, 4], [([1], false), ([], true)], [], [], []⟩
  | 42 => ⟨[0, 1, 3, 4, 5, 6, 7, 8, 9, 10, 11, 105, 106, 107], [], [18, 30, 51, 107], [(0, [0, 0, 0, 1, 2]), (4, [1]), (5, [1]), (6, [1]), (9, [1]), (105, [1])], [(10, [1, 4, 5, 6, 7]), (22, [1, 4, 5, 6, 7, 9, 105, 106, 107]), (24, [1, 4, 5, 6, 7, 9, 105, 106, 107]), (25, [1, 4, 5, 6, 7, 9]), (9, [1, 4, 5, 6, 7]), (26, [5])], [(8, [1, 4, 5, 6, 7]), (21, [1, 4, 5, 6, 7, 9, 105, 106, 107])], [(1, [0, 0, 0, 1, 2])], [1], [([1], false)], [(25, [1000009]), (26, [1000005])], [26, 49, 59, 79, 83, 87, 95, 104, 116, 121, 126], [21]⟩
  | 43 => ⟨[0, 1, 4, 11, 12], [], [], [(0, [0, 0, 0, 1, 2])], [(4, [1, 11, 12]), (7, [1, 11, 12]), (8, [1]), (12, [])], [(3, [1, 11, 12])], [(1, [0, 0, 0, 1, 2])], [1], [], [], [14], []⟩
  | 44 => ⟨[0, 1, 2, 5, 6, 7], [], [], [(0, [0, 0, 0, 1, 2]), (6, [5])], [(6, [1, 2, 5, 6]), (10, []), (11, [2, 5, 7, 7000007]), (13, [2, 5, 7, 7000007]), (15, [])], [], [(2, [0, 0, 0, 1, 2])], [2], [], [], [], [51]⟩
  | 45 => ⟨[0, 1], [12], [], [], [], [], [(0, [0, 1])], [], [], [], [], []⟩
  | 46 => ⟨[0, 1, 5, 7, 8, 10, 12, 39, 40, 41, 63, 64, 65], [], [], [(0, [1]), (39, [1]), (63, [1])], [(7, [0, 1]), (11, [0, 1, 5]), (12, [0, 1, 5]), (14, [0, 1, 5, 39, 40, 41]), (17, [0, 1, 5, 7, 39, 40, 41]), (18, [0, 1, 5, 39, 40, 41]), (19, [0, 1, 5]), (24, [1, 8, 63, 64, 65]), (27, [1, 8, 63, 64, 65]), (28, [8])], [(13, [0, 1, 5, 39, 40, 41]), (23, [1, 8, 63, 64, 65])], [(8, [0, 1])], [], [], [], [], []⟩
  | 47 => ⟨[0, 1], [11], [], [], [], [], [(0, [0, 1])], [], [], [], [], []⟩
  | 49 => ⟨[1], [], [], [], [], [], [], [], [], [], [], []⟩
  | 50 => ⟨[1], [], [], [], [], [], [], [], [], [], [], []⟩
  | 51 => ⟨[0, 1], [], [], [], [], [], [], [], [], [], [], []⟩
  | 52 => ⟨[0, 1], [], [], [], [], [], [], [], [], [], [], []⟩
  | 53 => ⟨[0, 1], [], [], [], [], [], [], [], [], [], [], []⟩
  | 54 => ⟨[0, 1], [], [], [], [], [], [], [], [], [], [], []⟩
  | 55 => ⟨[0], [], [], [], [], [], [], [], [], [], [], []⟩
  | 56 => ⟨[0], [], [], [], [], [], [], [], [], [], [], []⟩
  | 57 => ⟨[0, 1], [], [], [], [], [], [], [], [], [], [], []⟩
  | 58 => ⟨[0, 1], [], [], [], [], [], [], [], [], [], [], []⟩
  | 59 => ⟨[], [], [], [], [], [], [], [], [], [], [], []⟩
  | 60 => ⟨[0], [], [], [], [], [], [], [], [], [], [], []⟩
  | 61 => ⟨[0], [], [], [], [], [], [], [], [], [], [], []⟩
  | 63 => ⟨[0, 1, 5, 7, 8], [], [], [(0, [5])], [(4, [0, 1, 7, 8]), (7, [0, 1, 7, 8]), (8, [])], [(3, [0, 1, 7, 8])], [], [], [], [], [2000016], []⟩
  | 64 => ⟨[0, 1, 2], [], [], [], [], [], [], [2], [], [], [], [5, 6, 8]⟩
  | 65 => ⟨[0, 4, 5, 25, 26], [], [], [], [(4, [0]), (7, [0, 4, 25, 26]), (10, [0, 4, 5, 25, 26]), (11, [0, 4, 25, 26]), (12, [4])], [(6, [0, 4, 25, 26])], [], [], [], [], [], []⟩
  | 66 => ⟨[0, 1], [26], [], [(0, [1])], [(4, [0, 1]), (7, [0])], [], [], [], [([1], true)], [], [], []⟩
  | 67 => ⟨[0, 1], [], [], [(0, [0, 0, 0, 1, 2])], [], [], [(1, [0, 0, 0, 1, 2])], [1], [], [], [], []⟩
  | 68 => ⟨[0, 1, 5, 6, 7, 8], [], [30], [(0, [1]), (7, [1])], [(4, [0, 1]), (7, [0, 6]), (10, [7, 8]), (11, [7])], [(9, [7, 8])], [], [], [([1], false)], [(0, [1000004])], [], []⟩
  | 69 => ⟨[0, 1, 3, 4, 5, 14, 15, 16], [], [10], [(0, [0, 0, 0, 1, 2]), (3, [1]), (14, [2])], [(6, [3, 14, 15, 16]), (8, [3, 4, 5, 14, 15, 16]), (10, [3, 4, 5, 14, 15, 16]), (12, [3, 14, 15, 16]), (13, [3])], [(5, [3, 14, 15, 16])], [(1, [0, 0, 0, 1, 2])], [1], [([1], false)], [(13, [1000003])], [12, 23, 32, 39], []⟩
  | 70 => ⟨[0], [], [], [(0, [1])], [(4, [0])], [], [], [], [([1], true)], [], [], []⟩
  | 71 => ⟨[0], [], [], [], [], [], [(0, [0, 1])], [], [], [], [], []⟩
  | 77 => ⟨[0, 1, 6, 7, 8, 9], [], [], [], [(4, [0, 1])], [], [], [], [], [], [], []⟩
  | 89 => ⟨[0, 1, 4, 6, 7, 8, 9, 10, 11, 12, 13], [], [], [], [], [], [], [], [], [], [], []⟩
  | _ => ⟨[], [], [], [], [], [], [], [], [], [], [], []⟩
noncomputable def SS : SE := ⟨Tryz.prog, prmT, VV, WW, CS⟩
theorem SS_ok : SS.OK := ⟨VV_ok, WW_ok⟩
end Go.Proofs.YtiejgieiokmmfaaGreatDoor

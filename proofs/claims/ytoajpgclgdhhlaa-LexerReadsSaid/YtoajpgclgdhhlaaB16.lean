/-
  The table of the program: how values of each type look, what each function's slots are. Printed by a program (wip/tool/dc.py).
-/
import Derived.Test.YtoajpgclgdhhlaaD16
namespace Go.Proofs.Ytoajpgclgdhhlaa
set_option linter.unusedVariables false
set_option linter.unusedSimpArgs false
set_option linter.unnecessarySimpa false
set_option linter.unusedSectionVars false
open Go.RowKit
set_option maxRecDepth 1000000
def v7 (p : PV) (K : Int → Int → Bool → Int → R) : R := match p with | .agg [.int .i64 x0, .int .i64 x1, .bool x2, .int .u8 x3] => K x0 x1 x2 x3 | _ => none
theorem v7_ok (p : PV) : (∀ K : PV → R, v7 p (fun x0 x1 x2 x3 => K (.agg [.int .i64 x0, .int .i64 x1, .bool x2, .int .u8 x3])) = K p) ∨ (∀ K : PV → R, v7 p (fun x0 x1 x2 x3 => K (.agg [.int .i64 x0, .int .i64 x1, .bool x2, .int .u8 x3])) = none) := by
  unfold v7; split
  · exact .inl fun _ => rfl
  · exact .inr fun _ => rfl
@[simp] theorem v7_mk (x0 : Int) (x1 : Int) (x2 : Bool) (x3 : Int) (K : Int → Int → Bool → Int → R) : v7 (.agg [.int .i64 x0, .int .i64 x1, .bool x2, .int .u8 x3]) K = K x0 x1 x2 x3 := rfl
def v13 (p : PV) (K : ByteArray → Int → R) : R := match p with | .agg [.str x0, .int .u64 x1] => K x0 x1 | _ => none
theorem v13_ok (p : PV) : (∀ K : PV → R, v13 p (fun x0 x1 => K (.agg [.str x0, .int .u64 x1])) = K p) ∨ (∀ K : PV → R, v13 p (fun x0 x1 => K (.agg [.str x0, .int .u64 x1])) = none) := by
  unfold v13; split
  · exact .inl fun _ => rfl
  · exact .inr fun _ => rfl
@[simp] theorem v13_mk (x0 : ByteArray) (x1 : Int) (K : ByteArray → Int → R) : v13 (.agg [.str x0, .int .u64 x1]) K = K x0 x1 := rfl
def v18 (p : PV) (K : PV → R) : R := match p with | .agg [x0] => K x0 | _ => none
theorem v18_ok (p : PV) : (∀ K : PV → R, v18 p (fun x0 => K (.agg [x0])) = K p) ∨ (∀ K : PV → R, v18 p (fun x0 => K (.agg [x0])) = none) := by
  unfold v18; split
  · exact .inl fun _ => rfl
  · exact .inr fun _ => rfl
@[simp] theorem v18_mk (x0 : PV) (K : PV → R) : v18 (.agg [x0]) K = K x0 := rfl
def v29 (p : PV) (K : Int → ByteArray → Int → Int → Int → R) : R := match p with | .agg [.int .i64 x0, .str x1, .int .i64 x2, .int .i64 x3, .int .i64 x4] => K x0 x1 x2 x3 x4 | _ => none
theorem v29_ok (p : PV) : (∀ K : PV → R, v29 p (fun x0 x1 x2 x3 x4 => K (.agg [.int .i64 x0, .str x1, .int .i64 x2, .int .i64 x3, .int .i64 x4])) = K p) ∨ (∀ K : PV → R, v29 p (fun x0 x1 x2 x3 x4 => K (.agg [.int .i64 x0, .str x1, .int .i64 x2, .int .i64 x3, .int .i64 x4])) = none) := by
  unfold v29; split
  · exact .inl fun _ => rfl
  · exact .inr fun _ => rfl
@[simp] theorem v29_mk (x0 : Int) (x1 : ByteArray) (x2 : Int) (x3 : Int) (x4 : Int) (K : Int → ByteArray → Int → Int → Int → R) : v29 (.agg [.int .i64 x0, .str x1, .int .i64 x2, .int .i64 x3, .int .i64 x4]) K = K x0 x1 x2 x3 x4 := rfl
def v40 (p : PV) (K : Int → ByteArray → Int → Int → R) : R := match p with | .agg [.int .u8 x0, .str x1, .int .i8 x2, .int .i8 x3] => K x0 x1 x2 x3 | _ => none
theorem v40_ok (p : PV) : (∀ K : PV → R, v40 p (fun x0 x1 x2 x3 => K (.agg [.int .u8 x0, .str x1, .int .i8 x2, .int .i8 x3])) = K p) ∨ (∀ K : PV → R, v40 p (fun x0 x1 x2 x3 => K (.agg [.int .u8 x0, .str x1, .int .i8 x2, .int .i8 x3])) = none) := by
  unfold v40; split
  · exact .inl fun _ => rfl
  · exact .inr fun _ => rfl
@[simp] theorem v40_mk (x0 : Int) (x1 : ByteArray) (x2 : Int) (x3 : Int) (K : Int → ByteArray → Int → Int → R) : v40 (.agg [.int .u8 x0, .str x1, .int .i8 x2, .int .i8 x3]) K = K x0 x1 x2 x3 := rfl
def v46 (p : PV) (K : Int → ByteArray → Int → Int → Int → Bool → ByteArray → Int → R) : R := match p with | .agg [.int .i64 x0, .str x1, .int .i64 x2, .int .i64 x3, .int .i64 x4, .bool x5, .str x6, .int .i64 x7] => K x0 x1 x2 x3 x4 x5 x6 x7 | _ => none
theorem v46_ok (p : PV) : (∀ K : PV → R, v46 p (fun x0 x1 x2 x3 x4 x5 x6 x7 => K (.agg [.int .i64 x0, .str x1, .int .i64 x2, .int .i64 x3, .int .i64 x4, .bool x5, .str x6, .int .i64 x7])) = K p) ∨ (∀ K : PV → R, v46 p (fun x0 x1 x2 x3 x4 x5 x6 x7 => K (.agg [.int .i64 x0, .str x1, .int .i64 x2, .int .i64 x3, .int .i64 x4, .bool x5, .str x6, .int .i64 x7])) = none) := by
  unfold v46; split
  · exact .inl fun _ => rfl
  · exact .inr fun _ => rfl
@[simp] theorem v46_mk (x0 : Int) (x1 : ByteArray) (x2 : Int) (x3 : Int) (x4 : Int) (x5 : Bool) (x6 : ByteArray) (x7 : Int) (K : Int → ByteArray → Int → Int → Int → Bool → ByteArray → Int → R) : v46 (.agg [.int .i64 x0, .str x1, .int .i64 x2, .int .i64 x3, .int .i64 x4, .bool x5, .str x6, .int .i64 x7]) K = K x0 x1 x2 x3 x4 x5 x6 x7 := rfl
def v56 (p : PV) (K : List PV → Int → Int → Int → Int → R) : R := match p with | .agg [.sl false 5 x0, .int .i64 x1, .int .i64 x2, .int .i64 x3, .int .i64 x4] => K x0 x1 x2 x3 x4 | _ => none
theorem v56_ok (p : PV) : (∀ K : PV → R, v56 p (fun x0 x1 x2 x3 x4 => K (.agg [.sl false 5 x0, .int .i64 x1, .int .i64 x2, .int .i64 x3, .int .i64 x4])) = K p) ∨ (∀ K : PV → R, v56 p (fun x0 x1 x2 x3 x4 => K (.agg [.sl false 5 x0, .int .i64 x1, .int .i64 x2, .int .i64 x3, .int .i64 x4])) = none) := by
  unfold v56; split
  · exact .inl fun _ => rfl
  · exact .inr fun _ => rfl
@[simp] theorem v56_mk (x0 : List PV) (x1 : Int) (x2 : Int) (x3 : Int) (x4 : Int) (K : List PV → Int → Int → Int → Int → R) : v56 (.agg [.sl false 5 x0, .int .i64 x1, .int .i64 x2, .int .i64 x3, .int .i64 x4]) K = K x0 x1 x2 x3 x4 := rfl
def v67 (p : PV) (K : PV → List PV → R) : R := match p with | .agg [x0, .sl false 1 x1] => K x0 x1 | _ => none
theorem v67_ok (p : PV) : (∀ K : PV → R, v67 p (fun x0 x1 => K (.agg [x0, .sl false 1 x1])) = K p) ∨ (∀ K : PV → R, v67 p (fun x0 x1 => K (.agg [x0, .sl false 1 x1])) = none) := by
  unfold v67; split
  · exact .inl fun _ => rfl
  · exact .inr fun _ => rfl
@[simp] theorem v67_mk (x0 : PV) (x1 : List PV) (K : PV → List PV → R) : v67 (.agg [x0, .sl false 1 x1]) K = K x0 x1 := rfl
def v78 (p : PV) (K : List PV → Int → Int → Int → R) : R := match p with | .agg [.sl false 5 x0, .int .i64 x1, .int .i64 x2, .int .i64 x3] => K x0 x1 x2 x3 | _ => none
theorem v78_ok (p : PV) : (∀ K : PV → R, v78 p (fun x0 x1 x2 x3 => K (.agg [.sl false 5 x0, .int .i64 x1, .int .i64 x2, .int .i64 x3])) = K p) ∨ (∀ K : PV → R, v78 p (fun x0 x1 x2 x3 => K (.agg [.sl false 5 x0, .int .i64 x1, .int .i64 x2, .int .i64 x3])) = none) := by
  unfold v78; split
  · exact .inl fun _ => rfl
  · exact .inr fun _ => rfl
@[simp] theorem v78_mk (x0 : List PV) (x1 : Int) (x2 : Int) (x3 : Int) (K : List PV → Int → Int → Int → R) : v78 (.agg [.sl false 5 x0, .int .i64 x1, .int .i64 x2, .int .i64 x3]) K = K x0 x1 x2 x3 := rfl
def v88 (p : PV) (K : PV → PV → R) : R := match p with | .agg [x0, x1] => K x0 x1 | _ => none
theorem v88_ok (p : PV) : (∀ K : PV → R, v88 p (fun x0 x1 => K (.agg [x0, x1])) = K p) ∨ (∀ K : PV → R, v88 p (fun x0 x1 => K (.agg [x0, x1])) = none) := by
  unfold v88; split
  · exact .inl fun _ => rfl
  · exact .inr fun _ => rfl
@[simp] theorem v88_mk (x0 : PV) (x1 : PV) (K : PV → PV → R) : v88 (.agg [x0, x1]) K = K x0 x1 := rfl
def v112 (p : PV) (K : PV → PV → PV → ByteArray → R) : R := match p with | .agg [x0, x1, x2, .str x3] => K x0 x1 x2 x3 | _ => none
theorem v112_ok (p : PV) : (∀ K : PV → R, v112 p (fun x0 x1 x2 x3 => K (.agg [x0, x1, x2, .str x3])) = K p) ∨ (∀ K : PV → R, v112 p (fun x0 x1 x2 x3 => K (.agg [x0, x1, x2, .str x3])) = none) := by
  unfold v112; split
  · exact .inl fun _ => rfl
  · exact .inr fun _ => rfl
@[simp] theorem v112_mk (x0 : PV) (x1 : PV) (x2 : PV) (x3 : ByteArray) (K : PV → PV → PV → ByteArray → R) : v112 (.agg [x0, x1, x2, .str x3]) K = K x0 x1 x2 x3 := rfl
def v114 (p : PV) (K : R) : R := match p with | .agg [] => K | _ => none
theorem v114_ok (p : PV) : (∀ K : PV → R, v114 p (K (.agg [])) = K p) ∨ (∀ K : PV → R, v114 p (K (.agg [])) = none) := by
  unfold v114; split
  · exact .inl fun _ => rfl
  · exact .inr fun _ => rfl
def v115 (p : PV) (K : R) : R := match p with | .agg [] => K | _ => none
theorem v115_ok (p : PV) : (∀ K : PV → R, v115 p (K (.agg [])) = K p) ∨ (∀ K : PV → R, v115 p (K (.agg [])) = none) := by
  unfold v115; split
  · exact .inl fun _ => rfl
  · exact .inr fun _ => rfl
def v122 (p : PV) (K : Int → Int → Int → Int → Int → Int → Int → PV → PV → Int → Int → R) : R := match p with | .agg [.int .u64 x0, .int .u64 x1, .int .u32 x2, .int .u8 x3, .int .u8 x4, .int .u8 x5, .int .u8 x6, x7, x8, .int .i32 x9, .int .i32 x10] => K x0 x1 x2 x3 x4 x5 x6 x7 x8 x9 x10 | _ => none
theorem v122_ok (p : PV) : (∀ K : PV → R, v122 p (fun x0 x1 x2 x3 x4 x5 x6 x7 x8 x9 x10 => K (.agg [.int .u64 x0, .int .u64 x1, .int .u32 x2, .int .u8 x3, .int .u8 x4, .int .u8 x5, .int .u8 x6, x7, x8, .int .i32 x9, .int .i32 x10])) = K p) ∨ (∀ K : PV → R, v122 p (fun x0 x1 x2 x3 x4 x5 x6 x7 x8 x9 x10 => K (.agg [.int .u64 x0, .int .u64 x1, .int .u32 x2, .int .u8 x3, .int .u8 x4, .int .u8 x5, .int .u8 x6, x7, x8, .int .i32 x9, .int .i32 x10])) = none) := by
  unfold v122; split
  · exact .inl fun _ => rfl
  · exact .inr fun _ => rfl
@[simp] theorem v122_mk (x0 : Int) (x1 : Int) (x2 : Int) (x3 : Int) (x4 : Int) (x5 : Int) (x6 : Int) (x7 : PV) (x8 : PV) (x9 : Int) (x10 : Int) (K : Int → Int → Int → Int → Int → Int → Int → PV → PV → Int → Int → R) : v122 (.agg [.int .u64 x0, .int .u64 x1, .int .u32 x2, .int .u8 x3, .int .u8 x4, .int .u8 x5, .int .u8 x6, x7, x8, .int .i32 x9, .int .i32 x10]) K = K x0 x1 x2 x3 x4 x5 x6 x7 x8 x9 x10 := rfl
def VVp4 (t : TypeId) (p : PV) (K : PV → R) : R :=
  bsel (Nat.beq t 121) (vI .i32 p fun n1 => K (.int .i32 n1))
    (bsel (Nat.beq t 122) (v122 p fun n1 n2 n3 n4 n5 n6 n7 p8 p9 n10 n11 => K (.agg [.int .u64 n1, .int .u64 n2, .int .u32 n3, .int .u8 n4, .int .u8 n5, .int .u8 n6, .int .u8 n7, p8, p9, .int .i32 n10, .int .i32 n11]))
    (bsel (Nat.beq t 123) (v122 p fun n1 n2 n3 n4 n5 n6 n7 p8 p9 n10 n11 => K (.agg [.int .u64 n1, .int .u64 n2, .int .u32 n3, .int .u8 n4, .int .u8 n5, .int .u8 n6, .int .u8 n7, p8, p9, .int .i32 n10, .int .i32 n11]))
    (K p)))
theorem VVp4_ok (t : TypeId) (p : PV) : (∀ K : PV → R, VVp4 t p K = K p) ∨ (∀ K : PV → R, VVp4 t p K = none) :=
  view_bsel (vI_ok .i32 p) (view_bsel (v122_ok p) (view_bsel (v122_ok p) (.inl fun _ => rfl)))
def VVp3 (t : TypeId) (p : PV) (K : PV → R) : R :=
  bsel (Nat.beq t 89) (v88 p fun p1 p2 => K (.agg [p1, p2]))
    (bsel (Nat.beq t 93) (vI .u64 p fun n1 => K (.int .u64 n1))
    (bsel (Nat.beq t 104) (vI .u32 p fun n1 => K (.int .u32 n1))
    (bsel (Nat.beq t 107) (vI .u64 p fun n1 => K (.int .u64 n1))
    (bsel (Nat.beq t 112) (v112 p fun p1 p2 p3 s4 => K (.agg [p1, p2, p3, .str s4]))
    (bsel (Nat.beq t 113) (v112 p fun p1 p2 p3 s4 => K (.agg [p1, p2, p3, .str s4]))
    (bsel (Nat.beq t 114) (v114 p (K (.agg [])))
    (bsel (Nat.beq t 115) (v115 p (K (.agg [])))
    (bsel (Nat.beq t 116) (v115 p (K (.agg [])))
    (bsel (Nat.beq t 117) (vI .u8 p fun n1 => K (.int .u8 n1))
    (bsel (Nat.beq t 118) (vI .u8 p fun n1 => K (.int .u8 n1))
    (bsel (Nat.beq t 120) (vI .i32 p fun n1 => K (.int .i32 n1))
    (VVp4 t p K))))))))))))
theorem VVp3_ok (t : TypeId) (p : PV) : (∀ K : PV → R, VVp3 t p K = K p) ∨ (∀ K : PV → R, VVp3 t p K = none) :=
  view_bsel (v88_ok p) (view_bsel (vI_ok .u64 p) (view_bsel (vI_ok .u32 p) (view_bsel (vI_ok .u64 p) (view_bsel (v112_ok p) (view_bsel (v112_ok p) (view_bsel (v114_ok p) (view_bsel (v115_ok p) (view_bsel (v115_ok p) (view_bsel (vI_ok .u8 p) (view_bsel (vI_ok .u8 p) (view_bsel (vI_ok .i32 p) (VVp4_ok t p))))))))))))
def VVp2 (t : TypeId) (p : PV) (K : PV → R) : R :=
  bsel (Nat.beq t 41) (v40 p fun n1 s2 n3 n4 => K (.agg [.int .u8 n1, .str s2, .int .i8 n3, .int .i8 n4]))
    (bsel (Nat.beq t 46) (v46 p fun n1 s2 n3 n4 n5 b6 s7 n8 => K (.agg [.int .i64 n1, .str s2, .int .i64 n3, .int .i64 n4, .int .i64 n5, .bool b6, .str s7, .int .i64 n8]))
    (bsel (Nat.beq t 47) (v46 p fun n1 s2 n3 n4 n5 b6 s7 n8 => K (.agg [.int .i64 n1, .str s2, .int .i64 n3, .int .i64 n4, .int .i64 n5, .bool b6, .str s7, .int .i64 n8]))
    (bsel (Nat.beq t 50) (vL false 4 p fun l1 => K (.sl false 4 l1))
    (bsel (Nat.beq t 56) (v56 p fun l1 n2 n3 n4 n5 => K (.agg [.sl false 5 l1, .int .i64 n2, .int .i64 n3, .int .i64 n4, .int .i64 n5]))
    (bsel (Nat.beq t 57) (v56 p fun l1 n2 n3 n4 n5 => K (.agg [.sl false 5 l1, .int .i64 n2, .int .i64 n3, .int .i64 n4, .int .i64 n5]))
    (bsel (Nat.beq t 67) (v67 p fun p1 l2 => K (.agg [p1, .sl false 1 l2]))
    (bsel (Nat.beq t 68) (v67 p fun p1 l2 => K (.agg [p1, .sl false 1 l2]))
    (bsel (Nat.beq t 78) (v78 p fun l1 n2 n3 n4 => K (.agg [.sl false 5 l1, .int .i64 n2, .int .i64 n3, .int .i64 n4]))
    (bsel (Nat.beq t 79) (v78 p fun l1 n2 n3 n4 => K (.agg [.sl false 5 l1, .int .i64 n2, .int .i64 n3, .int .i64 n4]))
    (bsel (Nat.beq t 86) (vL false 2 p fun l1 => K (.sl false 2 l1))
    (bsel (Nat.beq t 88) (v88 p fun p1 p2 => K (.agg [p1, p2]))
    (VVp3 t p K))))))))))))
theorem VVp2_ok (t : TypeId) (p : PV) : (∀ K : PV → R, VVp2 t p K = K p) ∨ (∀ K : PV → R, VVp2 t p K = none) :=
  view_bsel (v40_ok p) (view_bsel (v46_ok p) (view_bsel (v46_ok p) (view_bsel (vL_ok false 4 p) (view_bsel (v56_ok p) (view_bsel (v56_ok p) (view_bsel (v67_ok p) (view_bsel (v67_ok p) (view_bsel (v78_ok p) (view_bsel (v78_ok p) (view_bsel (vL_ok false 2 p) (view_bsel (v88_ok p) (VVp3_ok t p))))))))))))
def VVp1 (t : TypeId) (p : PV) (K : PV → R) : R :=
  bsel (Nat.beq t 14) (v13 p fun s1 n2 => K (.agg [.str s1, .int .u64 n2]))
    (bsel (Nat.beq t 18) (v18 p fun p1 => K (.agg [p1]))
    (bsel (Nat.beq t 19) (v18 p fun p1 => K (.agg [p1]))
    (bsel (Nat.beq t 21) (vI .i32 p fun n1 => K (.int .i32 n1))
    (bsel (Nat.beq t 23) (vL false 1 p fun l1 => K (.sl false 1 l1))
    (bsel (Nat.beq t 24) (vL false 5 p fun l1 => K (.sl false 5 l1))
    (bsel (Nat.beq t 25) (vI .i64 p fun n1 => K (.int .i64 n1))
    (bsel (Nat.beq t 28) (vL false 1 p fun l1 => K (.sl false 1 l1))
    (bsel (Nat.beq t 29) (v29 p fun n1 s2 n3 n4 n5 => K (.agg [.int .i64 n1, .str s2, .int .i64 n3, .int .i64 n4, .int .i64 n5]))
    (bsel (Nat.beq t 30) (v29 p fun n1 s2 n3 n4 n5 => K (.agg [.int .i64 n1, .str s2, .int .i64 n3, .int .i64 n4, .int .i64 n5]))
    (bsel (Nat.beq t 39) (vI .i8 p fun n1 => K (.int .i8 n1))
    (bsel (Nat.beq t 40) (v40 p fun n1 s2 n3 n4 => K (.agg [.int .u8 n1, .str s2, .int .i8 n3, .int .i8 n4]))
    (VVp2 t p K))))))))))))
theorem VVp1_ok (t : TypeId) (p : PV) : (∀ K : PV → R, VVp1 t p K = K p) ∨ (∀ K : PV → R, VVp1 t p K = none) :=
  view_bsel (v13_ok p) (view_bsel (v18_ok p) (view_bsel (v18_ok p) (view_bsel (vI_ok .i32 p) (view_bsel (vL_ok false 1 p) (view_bsel (vL_ok false 5 p) (view_bsel (vI_ok .i64 p) (view_bsel (vL_ok false 1 p) (view_bsel (v29_ok p) (view_bsel (v29_ok p) (view_bsel (vI_ok .i8 p) (view_bsel (v40_ok p) (VVp2_ok t p))))))))))))
def VVp0 (t : TypeId) (p : PV) (K : PV → R) : R :=
  bsel (Nat.beq t 2) (vI .i64 p fun n1 => K (.int .i64 n1))
    (bsel (Nat.beq t 3) (vI .i64 p fun n1 => K (.int .i64 n1))
    (bsel (Nat.beq t 4) (vB p fun b1 => K (.bool b1))
    (bsel (Nat.beq t 5) (vI .u8 p fun n1 => K (.int .u8 n1))
    (bsel (Nat.beq t 6) (vI .u8 p fun n1 => K (.int .u8 n1))
    (bsel (Nat.beq t 7) (v7 p fun n1 n2 b3 n4 => K (.agg [.int .i64 n1, .int .i64 n2, .bool b3, .int .u8 n4]))
    (bsel (Nat.beq t 8) (v7 p fun n1 n2 b3 n4 => K (.agg [.int .i64 n1, .int .i64 n2, .bool b3, .int .u8 n4]))
    (bsel (Nat.beq t 9) (vS p fun s1 => K (.str s1))
    (bsel (Nat.beq t 10) (vS p fun s1 => K (.str s1))
    (bsel (Nat.beq t 11) (vS p fun s1 => K (.str s1))
    (bsel (Nat.beq t 12) (vI .u64 p fun n1 => K (.int .u64 n1))
    (bsel (Nat.beq t 13) (v13 p fun s1 n2 => K (.agg [.str s1, .int .u64 n2]))
    (VVp1 t p K))))))))))))
theorem VVp0_ok (t : TypeId) (p : PV) : (∀ K : PV → R, VVp0 t p K = K p) ∨ (∀ K : PV → R, VVp0 t p K = none) :=
  view_bsel (vI_ok .i64 p) (view_bsel (vI_ok .i64 p) (view_bsel (vB_ok p) (view_bsel (vI_ok .u8 p) (view_bsel (vI_ok .u8 p) (view_bsel (v7_ok p) (view_bsel (v7_ok p) (view_bsel (vS_ok p) (view_bsel (vS_ok p) (view_bsel (vS_ok p) (view_bsel (vI_ok .u64 p) (view_bsel (v13_ok p) (VVp1_ok t p))))))))))))
def VV : TypeId → PV → (PV → R) → R := VVp0
theorem VV_ok : viewOK VV := VVp0_ok
def w_24_3_3_3 (p : PV) (K : List PV → Int → Int → Int → R) : R := match p with | .tuple [.sl false 5 l1, .int .i64 n2, .int .i64 n3, .int .i64 n4] => K l1 n2 n3 n4 | _ => none
theorem w_24_3_3_3_ok (p : PV) (h : Objs) : (∀ K : PV → Objs → R, w_24_3_3_3 p (fun l1 n2 n3 n4 => K (.tuple [.sl false 5 l1, .int .i64 n2, .int .i64 n3, .int .i64 n4]) h) = K p h) ∨ (∀ K : PV → Objs → R, w_24_3_3_3 p (fun l1 n2 n3 n4 => K (.tuple [.sl false 5 l1, .int .i64 n2, .int .i64 n3, .int .i64 n4]) h) = none) := by
  unfold w_24_3_3_3; split
  · exact .inl fun _ => rfl
  · exact .inr fun _ => rfl
@[simp] theorem w_24_3_3_3_mk (l1 : List PV) (n2 : Int) (n3 : Int) (n4 : Int) (K : List PV → Int → Int → Int → R) : w_24_3_3_3 (.tuple [.sl false 5 l1, .int .i64 n2, .int .i64 n3, .int .i64 n4]) K = K l1 n2 n3 n4 := rfl
def w_29_3 (p : PV) (K : Int → ByteArray → Int → Int → Int → Int → R) : R := match p with | .tuple [.agg [.int .i64 n1, .str s2, .int .i64 n3, .int .i64 n4, .int .i64 n5], .int .i64 n6] => K n1 s2 n3 n4 n5 n6 | _ => none
theorem w_29_3_ok (p : PV) (h : Objs) : (∀ K : PV → Objs → R, w_29_3 p (fun n1 s2 n3 n4 n5 n6 => K (.tuple [.agg [.int .i64 n1, .str s2, .int .i64 n3, .int .i64 n4, .int .i64 n5], .int .i64 n6]) h) = K p h) ∨ (∀ K : PV → Objs → R, w_29_3 p (fun n1 s2 n3 n4 n5 n6 => K (.tuple [.agg [.int .i64 n1, .str s2, .int .i64 n3, .int .i64 n4, .int .i64 n5], .int .i64 n6]) h) = none) := by
  unfold w_29_3; split
  · exact .inl fun _ => rfl
  · exact .inr fun _ => rfl
@[simp] theorem w_29_3_mk (n1 : Int) (s2 : ByteArray) (n3 : Int) (n4 : Int) (n5 : Int) (n6 : Int) (K : Int → ByteArray → Int → Int → Int → Int → R) : w_29_3 (.tuple [.agg [.int .i64 n1, .str s2, .int .i64 n3, .int .i64 n4, .int .i64 n5], .int .i64 n6]) K = K n1 s2 n3 n4 n5 n6 := rfl
def h60_0 (p : PV) (h : Objs) (K : Int → ByteArray → Int → Int → Int → Int → Int → Int → R) : R := match p, h with | .agg [.int .i64 n1, .str s2, .int .i64 n3, .int .i64 n4, .int .i64 n5], [some [.int .i64 n6], some [.int .i64 n7], some [.int .i64 n8]] => K n1 s2 n3 n4 n5 n6 n7 n8 | _, _ => none
theorem h60_0_ok (p : PV) (h : Objs) : (∀ K : PV → Objs → R, h60_0 p h (fun n1 s2 n3 n4 n5 n6 n7 n8 => K (.agg [.int .i64 n1, .str s2, .int .i64 n3, .int .i64 n4, .int .i64 n5]) [some [.int .i64 n6], some [.int .i64 n7], some [.int .i64 n8]]) = K p h) ∨ (∀ K : PV → Objs → R, h60_0 p h (fun n1 s2 n3 n4 n5 n6 n7 n8 => K (.agg [.int .i64 n1, .str s2, .int .i64 n3, .int .i64 n4, .int .i64 n5]) [some [.int .i64 n6], some [.int .i64 n7], some [.int .i64 n8]]) = none) := by
  unfold h60_0; split
  · exact .inl fun _ => rfl
  · exact .inr fun _ => rfl
@[simp] theorem h60_0_mk (n1 : Int) (s2 : ByteArray) (n3 : Int) (n4 : Int) (n5 : Int) (n6 : Int) (n7 : Int) (n8 : Int) (K : Int → ByteArray → Int → Int → Int → Int → Int → Int → R) : h60_0 (.agg [.int .i64 n1, .str s2, .int .i64 n3, .int .i64 n4, .int .i64 n5]) [some [.int .i64 n6], some [.int .i64 n7], some [.int .i64 n8]] K = K n1 s2 n3 n4 n5 n6 n7 n8 := rfl
def WW60 (h0 : Objs) (r : PV) (h : Objs) (K : PV → Objs → R) : R := match h0 with
  | [some [.int .i64 _], some [.int .i64 _], some [.int .i64 _]] => h60_0 r h (fun n1 s2 n3 n4 n5 n6 n7 n8 => K (.agg [.int .i64 n1, .str s2, .int .i64 n3, .int .i64 n4, .int .i64 n5]) [some [.int .i64 n6], some [.int .i64 n7], some [.int .i64 n8]])
  | [] => v29 r fun n1 s2 n3 n4 n5 => K (.agg [.int .i64 n1, .str s2, .int .i64 n3, .int .i64 n4, .int .i64 n5]) h
  | _ => K r h
theorem WW60_ok (h0 : Objs) (r : PV) (h : Objs) : (∀ K : PV → Objs → R, WW60 h0 r h K = K r h) ∨ (∀ K : PV → Objs → R, WW60 h0 r h K = none) := by
  unfold WW60; split
  · exact h60_0_ok r h
  · exact one_ok (v29_ok r) h
  · exact .inl fun _ => rfl
def WWp1 (g : FuncId) (h0 : Objs) (r : PV) (h : Objs) (K : PV → Objs → R) : R :=
  bsel (Nat.beq g 80) (vB r fun b1 => K (.bool b1) h)
    (bsel (Nat.beq g 81) (w_29_3 r fun n1 s2 n3 n4 n5 n6 => K (.tuple [.agg [.int .i64 n1, .str s2, .int .i64 n3, .int .i64 n4, .int .i64 n5], .int .i64 n6]) h)
    (bsel (Nat.beq g 87) (vB r fun b1 => K (.bool b1) h)
    (bsel (Nat.beq g 89) (vI .i64 r fun n1 => K (.int .i64 n1) h)
    (bsel (Nat.beq g 90) (vS r fun s1 => K (.str s1) h)
    (bsel (Nat.beq g 91) (vB r fun b1 => K (.bool b1) h)
    (K r h))))))
theorem WWp1_ok (g : FuncId) (h0 : Objs) (r : PV) (h : Objs) : (∀ K : PV → Objs → R, WWp1 g h0 r h K = K r h) ∨ (∀ K : PV → Objs → R, WWp1 g h0 r h K = none) :=
  out_bsel (one_ok (vB_ok r) h) (out_bsel (w_29_3_ok r h) (out_bsel (one_ok (vB_ok r) h) (out_bsel (one_ok (vI_ok .i64 r) h) (out_bsel (one_ok (vS_ok r) h) (out_bsel (one_ok (vB_ok r) h) (.inl fun _ => rfl))))))
def WWp0 (g : FuncId) (h0 : Objs) (r : PV) (h : Objs) (K : PV → Objs → R) : R :=
  bsel (Nat.beq g 12) (w_24_3_3_3 r fun l1 n2 n3 n4 => K (.tuple [.sl false 5 l1, .int .i64 n2, .int .i64 n3, .int .i64 n4]) h)
    (bsel (Nat.beq g 58) (w0 r (K (.tuple []) h))
    (bsel (Nat.beq g 59) (vI .i64 r fun n1 => K (.int .i64 n1) h)
    (bsel (Nat.beq g 60) (WW60 h0 r h K)
    (bsel (Nat.beq g 61) (w_29_3 r fun n1 s2 n3 n4 n5 n6 => K (.tuple [.agg [.int .i64 n1, .str s2, .int .i64 n3, .int .i64 n4, .int .i64 n5], .int .i64 n6]) h)
    (bsel (Nat.beq g 62) (vL false 2 r fun l1 => K (.sl false 2 l1) h)
    (bsel (Nat.beq g 69) (vB r fun b1 => K (.bool b1) h)
    (bsel (Nat.beq g 75) (vB r fun b1 => K (.bool b1) h)
    (bsel (Nat.beq g 76) (vI .i64 r fun n1 => K (.int .i64 n1) h)
    (bsel (Nat.beq g 77) (vL false 1 r fun l1 => K (.sl false 1 l1) h)
    (bsel (Nat.beq g 78) (vB r fun b1 => K (.bool b1) h)
    (bsel (Nat.beq g 79) (w_29_3 r fun n1 s2 n3 n4 n5 n6 => K (.tuple [.agg [.int .i64 n1, .str s2, .int .i64 n3, .int .i64 n4, .int .i64 n5], .int .i64 n6]) h)
    (WWp1 g h0 r h K))))))))))))
theorem WWp0_ok (g : FuncId) (h0 : Objs) (r : PV) (h : Objs) : (∀ K : PV → Objs → R, WWp0 g h0 r h K = K r h) ∨ (∀ K : PV → Objs → R, WWp0 g h0 r h K = none) :=
  out_bsel (w_24_3_3_3_ok r h) (out_bsel (w0_ok r h) (out_bsel (one_ok (vI_ok .i64 r) h) (out_bsel (WW60_ok h0 r h) (out_bsel (w_29_3_ok r h) (out_bsel (one_ok (vL_ok false 2 r) h) (out_bsel (one_ok (vB_ok r) h) (out_bsel (one_ok (vB_ok r) h) (out_bsel (one_ok (vI_ok .i64 r) h) (out_bsel (one_ok (vL_ok false 1 r) h) (out_bsel (one_ok (vB_ok r) h) (out_bsel (w_29_3_ok r h) (WWp1_ok g h0 r h))))))))))))
def WW : FuncId → Objs → PV → Objs → (PV → Objs → R) → R := WWp0
theorem WW_ok : outOK WW := WWp0_ok
def prmT (g : FuncId) : Prm := match g with
  | 12 => ⟨[0, 2, 3, 4, 5], [22], [], [], [(4, [0]), (10, [2, 3, 4, 5])], [], [(2, [5])], [], [([5], false), ([], true), ([], true), ([], true)], [], [], []⟩
  | 31 => ⟨[0, 1], [], [], [], [], [], [], [1], [], [], [], []⟩
  | 58 => ⟨[0, 1, 3, 4, 5, 6, 7, 8, 9, 11, 12, 13, 47, 48, 49], [], [], [(47, [2])], [(2, [0, 1, 3, 4, 5]), (6, [0, 1, 3, 4, 5, 6, 7]), (5, [0, 1, 3, 4, 5, 6, 7]), (8, [0, 1, 3, 4, 5, 6]), (12, [0, 1, 3, 4, 5, 8]), (15, [0, 1, 3, 4, 5, 8, 9, 47, 48, 49]), (18, [0, 1, 3, 4, 5, 8, 9, 47, 48, 49]), (19, [0, 1, 3, 4, 5, 8, 9]), (21, [0, 1, 3, 4, 5, 12])], [(2, [0, 1, 3, 4, 5]), (4, [0, 1, 3, 4, 5, 6, 7]), (14, [0, 1, 3, 4, 5, 8, 9, 47, 48, 49])], [], [], [], [], [], []⟩
  | 59 => ⟨[0, 3, 4], [], [], [], [(5, [0, 3]), (11, [0, 3, 4]), (12, [3])], [(3, [0, 3])], [], [], [], [], [], []⟩
  | 60 => ⟨[0, 1, 2, 3, 4, 5], [], [], [], [], [], [], [], [], [], [], []⟩
  | 61 => ⟨[0, 2, 5, 6, 7, 8], [], [], [(6, [1])], [(4, [0, 2, 6, 7, 8]), (7, [0, 2, 6, 7, 8]), (8, [2])], [(3, [0, 2, 6, 7, 8])], [], [], [], [], [], []⟩
  | 62 => ⟨[], [], [], [], [], [], [], [], [([2], false)], [], [], []⟩
  | 69 => ⟨[0, 1], [], [], [], [], [], [], [], [], [], [], []⟩
  | 75 => ⟨[0], [], [], [], [], [], [], [], [], [], [], []⟩
  | 76 => ⟨[0, 1], [], [], [], [], [], [], [], [], [], [], []⟩
  | 77 => ⟨[], [], [], [], [], [], [], [], [([1], false)], [], [], []⟩
  | 78 => ⟨[0], [], [], [], [], [], [], [], [], [], [], []⟩
  | 79 => ⟨[0, 2, 4], [], [], [], [(5, [2, 4])], [], [], [], [], [], [], []⟩
  | 80 => ⟨[0], [], [], [], [], [], [], [], [], [], [], []⟩
  | 81 => ⟨[0, 2, 4, 5, 6, 27, 28], [], [], [], [(5, [2, 4]), (8, [2, 4, 5, 27, 28]), (12, [2, 4, 5, 27, 28]), (13, [2, 4, 5])], [(7, [2, 4, 5, 27, 28])], [], [], [], [], [], []⟩
  | 87 => ⟨[0, 1], [], [], [], [], [], [], [], [], [], [], []⟩
  | 89 => ⟨[0, 1], [], [], [], [], [], [], [], [], [], [], []⟩
  | 90 => ⟨[0, 1, 5, 7, 8], [], [], [], [(4, [0, 1, 7, 8]), (7, [0, 1, 7, 8]), (8, [0])], [(3, [0, 1, 7, 8])], [], [], [], [], [], []⟩
  | 91 => ⟨[0], [], [], [], [], [], [], [], [], [], [], []⟩
  | _ => ⟨[], [], [], [], [], [], [], [], [], [], [], []⟩
noncomputable def SS : SE := ⟨Try.prog, prmT, VV, WW, C16⟩
theorem SS_ok : SS.OK := ⟨VV_ok, WW_ok⟩
end Go.Proofs.Ytoajpgclgdhhlaa

/-
  The table of the program: how values of each type look, what each function's slots are. Printed by a program (wip/tool/dc.py).
-/
import Derived.Test.YtoajpgclgdhhlaaC16p
namespace Go.Proofs.Ytoajpgclgdhhlaa.W
set_option linter.unusedVariables false
set_option linter.unusedSimpArgs false
set_option linter.unnecessarySimpa false
set_option linter.unusedSectionVars false
open Go.RowKit
set_option maxRecDepth 1000000
def v7 (p : PV) (K : Int → Int → Bool → Int → R) : R := match p with | .agg [.int .i64 x0, .int .i64 x1, .bool x2, .int .u8 x3] => K x0 x1 x2 x3 | _ => none
theorem v7_ok (p : PV) : (∀ K : PV → R, v7 p (fun x0 x1 x2 x3 => K (.agg [.int .i64 x0, .int .i64 x1, .bool x2, .int .u8 x3])) = K p) ∨ (∀ K : PV → R, v7 p (fun x0 x1 x2 x3 => K (.agg [.int .i64 x0, .int .i64 x1, .bool x2, .int .u8 x3])) = none) := by
  unfold v7; split
  · exact .inl fun _ => rfl
  · exact .inr fun _ => rfl
@[simp] theorem v7_mk (x0 : Int) (x1 : Int) (x2 : Bool) (x3 : Int) (K : Int → Int → Bool → Int → R) : v7 (.agg [.int .i64 x0, .int .i64 x1, .bool x2, .int .u8 x3]) K = K x0 x1 x2 x3 := rfl
def v13 (p : PV) (K : ByteArray → Int → R) : R := match p with | .agg [.str x0, .int .u64 x1] => K x0 x1 | _ => none
theorem v13_ok (p : PV) : (∀ K : PV → R, v13 p (fun x0 x1 => K (.agg [.str x0, .int .u64 x1])) = K p) ∨ (∀ K : PV → R, v13 p (fun x0 x1 => K (.agg [.str x0, .int .u64 x1])) = none) := by
  unfold v13; split
  · exact .inl fun _ => rfl
  · exact .inr fun _ => rfl
@[simp] theorem v13_mk (x0 : ByteArray) (x1 : Int) (K : ByteArray → Int → R) : v13 (.agg [.str x0, .int .u64 x1]) K = K x0 x1 := rfl
def v18 (p : PV) (K : PV → R) : R := match p with | .agg [x0] => K x0 | _ => none
theorem v18_ok (p : PV) : (∀ K : PV → R, v18 p (fun x0 => K (.agg [x0])) = K p) ∨ (∀ K : PV → R, v18 p (fun x0 => K (.agg [x0])) = none) := by
  unfold v18; split
  · exact .inl fun _ => rfl
  · exact .inr fun _ => rfl
@[simp] theorem v18_mk (x0 : PV) (K : PV → R) : v18 (.agg [x0]) K = K x0 := rfl
def v29 (p : PV) (K : Int → ByteArray → Int → Int → Int → R) : R := match p with | .agg [.int .i64 x0, .str x1, .int .i64 x2, .int .i64 x3, .int .i64 x4] => K x0 x1 x2 x3 x4 | _ => none
theorem v29_ok (p : PV) : (∀ K : PV → R, v29 p (fun x0 x1 x2 x3 x4 => K (.agg [.int .i64 x0, .str x1, .int .i64 x2, .int .i64 x3, .int .i64 x4])) = K p) ∨ (∀ K : PV → R, v29 p (fun x0 x1 x2 x3 x4 => K (.agg [.int .i64 x0, .str x1, .int .i64 x2, .int .i64 x3, .int .i64 x4])) = none) := by
  unfold v29; split
  · exact .inl fun _ => rfl
  · exact .inr fun _ => rfl
@[simp] theorem v29_mk (x0 : Int) (x1 : ByteArray) (x2 : Int) (x3 : Int) (x4 : Int) (K : Int → ByteArray → Int → Int → Int → R) : v29 (.agg [.int .i64 x0, .str x1, .int .i64 x2, .int .i64 x3, .int .i64 x4]) K = K x0 x1 x2 x3 x4 := rfl
def v40 (p : PV) (K : Int → ByteArray → Int → Int → R) : R := match p with | .agg [.int .u8 x0, .str x1, .int .i8 x2, .int .i8 x3] => K x0 x1 x2 x3 | _ => none
theorem v40_ok (p : PV) : (∀ K : PV → R, v40 p (fun x0 x1 x2 x3 => K (.agg [.int .u8 x0, .str x1, .int .i8 x2, .int .i8 x3])) = K p) ∨ (∀ K : PV → R, v40 p (fun x0 x1 x2 x3 => K (.agg [.int .u8 x0, .str x1, .int .i8 x2, .int .i8 x3])) = none) := by
  unfold v40; split
  · exact .inl fun _ => rfl
  · exact .inr fun _ => rfl
@[simp] theorem v40_mk (x0 : Int) (x1 : ByteArray) (x2 : Int) (x3 : Int) (K : Int → ByteArray → Int → Int → R) : v40 (.agg [.int .u8 x0, .str x1, .int .i8 x2, .int .i8 x3]) K = K x0 x1 x2 x3 := rfl
def v46 (p : PV) (K : Int → ByteArray → Int → Int → Int → Bool → ByteArray → Int → R) : R := match p with | .agg [.int .i64 x0, .str x1, .int .i64 x2, .int .i64 x3, .int .i64 x4, .bool x5, .str x6, .int .i64 x7] => K x0 x1 x2 x3 x4 x5 x6 x7 | _ => none
theorem v46_ok (p : PV) : (∀ K : PV → R, v46 p (fun x0 x1 x2 x3 x4 x5 x6 x7 => K (.agg [.int .i64 x0, .str x1, .int .i64 x2, .int .i64 x3, .int .i64 x4, .bool x5, .str x6, .int .i64 x7])) = K p) ∨ (∀ K : PV → R, v46 p (fun x0 x1 x2 x3 x4 x5 x6 x7 => K (.agg [.int .i64 x0, .str x1, .int .i64 x2, .int .i64 x3, .int .i64 x4, .bool x5, .str x6, .int .i64 x7])) = none) := by
  unfold v46; split
  · exact .inl fun _ => rfl
  · exact .inr fun _ => rfl
@[simp] theorem v46_mk (x0 : Int) (x1 : ByteArray) (x2 : Int) (x3 : Int) (x4 : Int) (x5 : Bool) (x6 : ByteArray) (x7 : Int) (K : Int → ByteArray → Int → Int → Int → Bool → ByteArray → Int → R) : v46 (.agg [.int .i64 x0, .str x1, .int .i64 x2, .int .i64 x3, .int .i64 x4, .bool x5, .str x6, .int .i64 x7]) K = K x0 x1 x2 x3 x4 x5 x6 x7 := rfl
def v56 (p : PV) (K : List PV → Int → Int → Int → Int → R) : R := match p with | .agg [.sl false 5 x0, .int .i64 x1, .int .i64 x2, .int .i64 x3, .int .i64 x4] => K x0 x1 x2 x3 x4 | _ => none
theorem v56_ok (p : PV) : (∀ K : PV → R, v56 p (fun x0 x1 x2 x3 x4 => K (.agg [.sl false 5 x0, .int .i64 x1, .int .i64 x2, .int .i64 x3, .int .i64 x4])) = K p) ∨ (∀ K : PV → R, v56 p (fun x0 x1 x2 x3 x4 => K (.agg [.sl false 5 x0, .int .i64 x1, .int .i64 x2, .int .i64 x3, .int .i64 x4])) = none) := by
  unfold v56; split
  · exact .inl fun _ => rfl
  · exact .inr fun _ => rfl
@[simp] theorem v56_mk (x0 : List PV) (x1 : Int) (x2 : Int) (x3 : Int) (x4 : Int) (K : List PV → Int → Int → Int → Int → R) : v56 (.agg [.sl false 5 x0, .int .i64 x1, .int .i64 x2, .int .i64 x3, .int .i64 x4]) K = K x0 x1 x2 x3 x4 := rfl
def v67 (p : PV) (K : PV → List PV → R) : R := match p with | .agg [x0, .sl false 1 x1] => K x0 x1 | _ => none
theorem v67_ok (p : PV) : (∀ K : PV → R, v67 p (fun x0 x1 => K (.agg [x0, .sl false 1 x1])) = K p) ∨ (∀ K : PV → R, v67 p (fun x0 x1 => K (.agg [x0, .sl false 1 x1])) = none) := by
  unfold v67; split
  · exact .inl fun _ => rfl
  · exact .inr fun _ => rfl
@[simp] theorem v67_mk (x0 : PV) (x1 : List PV) (K : PV → List PV → R) : v67 (.agg [x0, .sl false 1 x1]) K = K x0 x1 := rfl
def v78 (p : PV) (K : List PV → Int → Int → Int → R) : R := match p with | .agg [.sl false 5 x0, .int .i64 x1, .int .i64 x2, .int .i64 x3] => K x0 x1 x2 x3 | _ => none
theorem v78_ok (p : PV) : (∀ K : PV → R, v78 p (fun x0 x1 x2 x3 => K (.agg [.sl false 5 x0, .int .i64 x1, .int .i64 x2, .int .i64 x3])) = K p) ∨ (∀ K : PV → R, v78 p (fun x0 x1 x2 x3 => K (.agg [.sl false 5 x0, .int .i64 x1, .int .i64 x2, .int .i64 x3])) = none) := by
  unfold v78; split
  · exact .inl fun _ => rfl
  · exact .inr fun _ => rfl
@[simp] theorem v78_mk (x0 : List PV) (x1 : Int) (x2 : Int) (x3 : Int) (K : List PV → Int → Int → Int → R) : v78 (.agg [.sl false 5 x0, .int .i64 x1, .int .i64 x2, .int .i64 x3]) K = K x0 x1 x2 x3 := rfl
def v88 (p : PV) (K : PV → PV → R) : R := match p with | .agg [x0, x1] => K x0 x1 | _ => none
theorem v88_ok (p : PV) : (∀ K : PV → R, v88 p (fun x0 x1 => K (.agg [x0, x1])) = K p) ∨ (∀ K : PV → R, v88 p (fun x0 x1 => K (.agg [x0, x1])) = none) := by
  unfold v88; split
  · exact .inl fun _ => rfl
  · exact .inr fun _ => rfl
@[simp] theorem v88_mk (x0 : PV) (x1 : PV) (K : PV → PV → R) : v88 (.agg [x0, x1]) K = K x0 x1 := rfl
def v112 (p : PV) (K : PV → PV → PV → ByteArray → R) : R := match p with | .agg [x0, x1, x2, .str x3] => K x0 x1 x2 x3 | _ => none
theorem v112_ok (p : PV) : (∀ K : PV → R, v112 p (fun x0 x1 x2 x3 => K (.agg [x0, x1, x2, .str x3])) = K p) ∨ (∀ K : PV → R, v112 p (fun x0 x1 x2 x3 => K (.agg [x0, x1, x2, .str x3])) = none) := by
  unfold v112; split
  · exact .inl fun _ => rfl
  · exact .inr fun _ => rfl
@[simp] theorem v112_mk (x0 : PV) (x1 : PV) (x2 : PV) (x3 : ByteArray) (K : PV → PV → PV → ByteArray → R) : v112 (.agg [x0, x1, x2, .str x3]) K = K x0 x1 x2 x3 := rfl
def v114 (p : PV) (K : R) : R := match p with | .agg [] => K | _ => none
theorem v114_ok (p : PV) : (∀ K : PV → R, v114 p (K (.agg [])) = K p) ∨ (∀ K : PV → R, v114 p (K (.agg [])) = none) := by
  unfold v114; split
  · exact .inl fun _ => rfl
  · exact .inr fun _ => rfl
def v115 (p : PV) (K : R) : R := match p with | .agg [] => K | _ => none
theorem v115_ok (p : PV) : (∀ K : PV → R, v115 p (K (.agg [])) = K p) ∨ (∀ K : PV → R, v115 p (K (.agg [])) = none) := by
  unfold v115; split
  · exact .inl fun _ => rfl
  · exact .inr fun _ => rfl
def v122 (p : PV) (K : Int → Int → Int → Int → Int → Int → Int → PV → PV → Int → Int → R) : R := match p with | .agg [.int .u64 x0, .int .u64 x1, .int .u32 x2, .int .u8 x3, .int .u8 x4, .int .u8 x5, .int .u8 x6, x7, x8, .int .i32 x9, .int .i32 x10] => K x0 x1 x2 x3 x4 x5 x6 x7 x8 x9 x10 | _ => none
theorem v122_ok (p : PV) : (∀ K : PV → R, v122 p (fun x0 x1 x2 x3 x4 x5 x6 x7 x8 x9 x10 => K (.agg [.int .u64 x0, .int .u64 x1, .int .u32 x2, .int .u8 x3, .int .u8 x4, .int .u8 x5, .int .u8 x6, x7, x8, .int .i32 x9, .int .i32 x10])) = K p) ∨ (∀ K : PV → R, v122 p (fun x0 x1 x2 x3 x4 x5 x6 x7 x8 x9 x10 => K (.agg [.int .u64 x0, .int .u64 x1, .int .u32 x2, .int .u8 x3, .int .u8 x4, .int .u8 x5, .int .u8 x6, x7, x8, .int .i32 x9, .int .i32 x10])) = none) := by
  unfold v122; split
  · exact .inl fun _ => rfl
  · exact .inr fun _ => rfl
@[simp] theorem v122_mk (x0 : Int) (x1 : Int) (x2 : Int) (x3 : Int) (x4 : Int) (x5 : Int) (x6 : Int) (x7 : PV) (x8 : PV) (x9 : Int) (x10 : Int) (K : Int → Int → Int → Int → Int → Int → Int → PV → PV → Int → Int → R) : v122 (.agg [.int .u64 x0, .int .u64 x1, .int .u32 x2, .int .u8 x3, .int .u8 x4, .int .u8 x5, .int .u8 x6, x7, x8, .int .i32 x9, .int .i32 x10]) K = K x0 x1 x2 x3 x4 x5 x6 x7 x8 x9 x10 := rfl
def VVp4 (t : TypeId) (p : PV) (K : PV → R) : R :=
  bsel (Nat.beq t 121) (vI .i32 p fun n1 => K (.int .i32 n1))
    (bsel (Nat.beq t 122) (v122 p fun n1 n2 n3 n4 n5 n6 n7 p8 p9 n10 n11 => K (.agg [.int .u64 n1, .int .u64 n2, .int .u32 n3, .int .u8 n4, .int .u8 n5, .int .u8 n6, .int .u8 n7, p8, p9, .int .i32 n10, .int .i32 n11]))
    (bsel (Nat.beq t 123) (v122 p fun n1 n2 n3 n4 n5 n6 n7 p8 p9 n10 n11 => K (.agg [.int .u64 n1, .int .u64 n2, .int .u32 n3, .int .u8 n4, .int .u8 n5, .int .u8 n6, .int .u8 n7, p8, p9, .int .i32 n10, .int .i32 n11]))
    (K p)))
theorem VVp4_ok (t : TypeId) (p : PV) : (∀ K : PV → R, VVp4 t p K = K p) ∨ (∀ K : PV → R, VVp4 t p K = none) :=
  view_bsel (vI_ok .i32 p) (view_bsel (v122_ok p) (view_bsel (v122_ok p) (.inl fun _ => rfl)))
def VVp3 (t : TypeId) (p : PV) (K : PV → R) : R :=
  bsel (Nat.beq t 89) (v88 p fun p1 p2 => K (.agg [p1, p2]))
    (bsel (Nat.beq t 93) (vI .u64 p fun n1 => K (.int .u64 n1))
    (bsel (Nat.beq t 104) (vI .u32 p fun n1 => K (.int .u32 n1))
    (bsel (Nat.beq t 107) (vI .u64 p fun n1 => K (.int .u64 n1))
    (bsel (Nat.beq t 112) (v112 p fun p1 p2 p3 s4 => K (.agg [p1, p2, p3, .str s4]))
    (bsel (Nat.beq t 113) (v112 p fun p1 p2 p3 s4 => K (.agg [p1, p2, p3, .str s4]))
    (bsel (Nat.beq t 114) (v114 p (K (.agg [])))
    (bsel (Nat.beq t 115) (v115 p (K (.agg [])))
    (bsel (Nat.beq t 116) (v115 p (K (.agg [])))
    (bsel (Nat.beq t 117) (vI .u8 p fun n1 => K (.int .u8 n1))
    (bsel (Nat.beq t 118) (vI .u8 p fun n1 => K (.int .u8 n1))
    (bsel (Nat.beq t 120) (vI .i32 p fun n1 => K (.int .i32 n1))
    (VVp4 t p K))))))))))))
theorem VVp3_ok (t : TypeId) (p : PV) : (∀ K : PV → R, VVp3 t p K = K p) ∨ (∀ K : PV → R, VVp3 t p K = none) :=
  view_bsel (v88_ok p) (view_bsel (vI_ok .u64 p) (view_bsel (vI_ok .u32 p) (view_bsel (vI_ok .u64 p) (view_bsel (v112_ok p) (view_bsel (v112_ok p) (view_bsel (v114_ok p) (view_bsel (v115_ok p) (view_bsel (v115_ok p) (view_bsel (vI_ok .u8 p) (view_bsel (vI_ok .u8 p) (view_bsel (vI_ok .i32 p) (VVp4_ok t p))))))))))))
def VVp2 (t : TypeId) (p : PV) (K : PV → R) : R :=
  bsel (Nat.beq t 41) (v40 p fun n1 s2 n3 n4 => K (.agg [.int .u8 n1, .str s2, .int .i8 n3, .int .i8 n4]))
    (bsel (Nat.beq t 46) (v46 p fun n1 s2 n3 n4 n5 b6 s7 n8 => K (.agg [.int .i64 n1, .str s2, .int .i64 n3, .int .i64 n4, .int .i64 n5, .bool b6, .str s7, .int .i64 n8]))
    (bsel (Nat.beq t 47) (v46 p fun n1 s2 n3 n4 n5 b6 s7 n8 => K (.agg [.int .i64 n1, .str s2, .int .i64 n3, .int .i64 n4, .int .i64 n5, .bool b6, .str s7, .int .i64 n8]))
    (bsel (Nat.beq t 50) (vL false 4 p fun l1 => K (.sl false 4 l1))
    (bsel (Nat.beq t 56) (v56 p fun l1 n2 n3 n4 n5 => K (.agg [.sl false 5 l1, .int .i64 n2, .int .i64 n3, .int .i64 n4, .int .i64 n5]))
    (bsel (Nat.beq t 57) (v56 p fun l1 n2 n3 n4 n5 => K (.agg [.sl false 5 l1, .int .i64 n2, .int .i64 n3, .int .i64 n4, .int .i64 n5]))
    (bsel (Nat.beq t 67) (v67 p fun p1 l2 => K (.agg [p1, .sl false 1 l2]))
    (bsel (Nat.beq t 68) (v67 p fun p1 l2 => K (.agg [p1, .sl false 1 l2]))
    (bsel (Nat.beq t 78) (v78 p fun l1 n2 n3 n4 => K (.agg [.sl false 5 l1, .int .i64 n2, .int .i64 n3, .int .i64 n4]))
    (bsel (Nat.beq t 79) (v78 p fun l1 n2 n3 n4 => K (.agg [.sl false 5 l1, .int .i64 n2, .int .i64 n3, .int .i64 n4]))
    (bsel (Nat.beq t 86) (vL false 2 p fun l1 => K (.sl false 2 l1))
    (bsel (Nat.beq t 88) (v88 p fun p1 p2 => K (.agg [p1, p2]))
    (VVp3 t p K))))))))))))
theorem VVp2_ok (t : TypeId) (p : PV) : (∀ K : PV → R, VVp2 t p K = K p) ∨ (∀ K : PV → R, VVp2 t p K = none) :=
  view_bsel (v40_ok p) (view_bsel (v46_ok p) (view_bsel (v46_ok p) (view_bsel (vL_ok false 4 p) (view_bsel (v56_ok p) (view_bsel (v56_ok p) (view_bsel (v67_ok p) (view_bsel (v67_ok p) (view_bsel (v78_ok p) (view_bsel (v78_ok p) (view_bsel (vL_ok false 2 p) (view_bsel (v88_ok p) (VVp3_ok t p))))))))))))
def VVp1 (t : TypeId) (p : PV) (K : PV → R) : R :=
  bsel (Nat.beq t 14) (v13 p fun s1 n2 => K (.agg [.str s1, .int .u64 n2]))
    (bsel (Nat.beq t 18) (v18 p fun p1 => K (.agg [p1]))
    (bsel (Nat.beq t 19) (v18 p fun p1 => K (.agg [p1]))
    (bsel (Nat.beq t 21) (vI .i32 p fun n1 => K (.int .i32 n1))
    (bsel (Nat.beq t 23) (vL false 1 p fun l1 => K (.sl false 1 l1))
    (bsel (Nat.beq t 24) (vL false 5 p fun l1 => K (.sl false 5 l1))
    (bsel (Nat.beq t 25) (vI .i64 p fun n1 => K (.int .i64 n1))
    (bsel (Nat.beq t 28) (vL false 1 p fun l1 => K (.sl false 1 l1))
    (bsel (Nat.beq t 29) (v29 p fun n1 s2 n3 n4 n5 => K (.agg [.int .i64 n1, .str s2, .int .i64 n3, .int .i64 n4, .int .i64 n5]))
    (bsel (Nat.beq t 30) (v29 p fun n1 s2 n3 n4 n5 => K (.agg [.int .i64 n1, .str s2, .int .i64 n3, .int .i64 n4, .int .i64 n5]))
    (bsel (Nat.beq t 39) (vI .i8 p fun n1 => K (.int .i8 n1))
    (bsel (Nat.beq t 40) (v40 p fun n1 s2 n3 n4 => K (.agg [.int .u8 n1, .str s2, .int .i8 n3, .int .i8 n4]))
    (VVp2 t p K))))))))))))
theorem VVp1_ok (t : TypeId) (p : PV) : (∀ K : PV → R, VVp1 t p K = K p) ∨ (∀ K : PV → R, VVp1 t p K = none) :=
  view_bsel (v13_ok p) (view_bsel (v18_ok p) (view_bsel (v18_ok p) (view_bsel (vI_ok .i32 p) (view_bsel (vL_ok false 1 p) (view_bsel (vL_ok false 5 p) (view_bsel (vI_ok .i64 p) (view_bsel (vL_ok false 1 p) (view_bsel (v29_ok p) (view_bsel (v29_ok p) (view_bsel (vI_ok .i8 p) (view_bsel (v40_ok p) (VVp2_ok t p))))))))))))
def VVp0 (t : TypeId) (p : PV) (K : PV → R) : R :=
  bsel (Nat.beq t 2) (vI .i64 p fun n1 => K (.int .i64 n1))
    (bsel (Nat.beq t 3) (vI .i64 p fun n1 => K (.int .i64 n1))
    (bsel (Nat.beq t 4) (vB p fun b1 => K (.bool b1))
    (bsel (Nat.beq t 5) (vI .u8 p fun n1 => K (.int .u8 n1))
    (bsel (Nat.beq t 6) (vI .u8 p fun n1 => K (.int .u8 n1))
    (bsel (Nat.beq t 7) (v7 p fun n1 n2 b3 n4 => K (.agg [.int .i64 n1, .int .i64 n2, .bool b3, .int .u8 n4]))
    (bsel (Nat.beq t 8) (v7 p fun n1 n2 b3 n4 => K (.agg [.int .i64 n1, .int .i64 n2, .bool b3, .int .u8 n4]))
    (bsel (Nat.beq t 9) (vS p fun s1 => K (.str s1))
    (bsel (Nat.beq t 10) (vS p fun s1 => K (.str s1))
    (bsel (Nat.beq t 11) (vS p fun s1 => K (.str s1))
    (bsel (Nat.beq t 12) (vI .u64 p fun n1 => K (.int .u64 n1))
    (bsel (Nat.beq t 13) (v13 p fun s1 n2 => K (.agg [.str s1, .int .u64 n2]))
    (VVp1 t p K))))))))))))
theorem VVp0_ok (t : TypeId) (p : PV) : (∀ K : PV → R, VVp0 t p K = K p) ∨ (∀ K : PV → R, VVp0 t p K = none) :=
  view_bsel (vI_ok .i64 p) (view_bsel (vI_ok .i64 p) (view_bsel (vB_ok p) (view_bsel (vI_ok .u8 p) (view_bsel (vI_ok .u8 p) (view_bsel (v7_ok p) (view_bsel (v7_ok p) (view_bsel (vS_ok p) (view_bsel (vS_ok p) (view_bsel (vS_ok p) (view_bsel (vI_ok .u64 p) (view_bsel (v13_ok p) (VVp1_ok t p))))))))))))
def VV : TypeId → PV → (PV → R) → R := VVp0
theorem VV_ok : viewOK VV := VVp0_ok
def w_24_3_3_3 (p : PV) (K : List PV → Int → Int → Int → R) : R := match p with | .tuple [.sl false 5 l1, .int .i64 n2, .int .i64 n3, .int .i64 n4] => K l1 n2 n3 n4 | _ => none
theorem w_24_3_3_3_ok (p : PV) (h : Objs) : (∀ K : PV → Objs → R, w_24_3_3_3 p (fun l1 n2 n3 n4 => K (.tuple [.sl false 5 l1, .int .i64 n2, .int .i64 n3, .int .i64 n4]) h) = K p h) ∨ (∀ K : PV → Objs → R, w_24_3_3_3 p (fun l1 n2 n3 n4 => K (.tuple [.sl false 5 l1, .int .i64 n2, .int .i64 n3, .int .i64 n4]) h) = none) := by
  unfold w_24_3_3_3; split
  · exact .inl fun _ => rfl
  · exact .inr fun _ => rfl
@[simp] theorem w_24_3_3_3_mk (l1 : List PV) (n2 : Int) (n3 : Int) (n4 : Int) (K : List PV → Int → Int → Int → R) : w_24_3_3_3 (.tuple [.sl false 5 l1, .int .i64 n2, .int .i64 n3, .int .i64 n4]) K = K l1 n2 n3 n4 := rfl
def w_9_3 (p : PV) (K : ByteArray → Int → R) : R := match p with | .tuple [.str s1, .int .i64 n2] => K s1 n2 | _ => none
theorem w_9_3_ok (p : PV) (h : Objs) : (∀ K : PV → Objs → R, w_9_3 p (fun s1 n2 => K (.tuple [.str s1, .int .i64 n2]) h) = K p h) ∨ (∀ K : PV → Objs → R, w_9_3 p (fun s1 n2 => K (.tuple [.str s1, .int .i64 n2]) h) = none) := by
  unfold w_9_3; split
  · exact .inl fun _ => rfl
  · exact .inr fun _ => rfl
@[simp] theorem w_9_3_mk (s1 : ByteArray) (n2 : Int) (K : ByteArray → Int → R) : w_9_3 (.tuple [.str s1, .int .i64 n2]) K = K s1 n2 := rfl
def w_3_3_3 (p : PV) (K : Int → Int → Int → R) : R := match p with | .tuple [.int .i64 n1, .int .i64 n2, .int .i64 n3] => K n1 n2 n3 | _ => none
theorem w_3_3_3_ok (p : PV) (h : Objs) : (∀ K : PV → Objs → R, w_3_3_3 p (fun n1 n2 n3 => K (.tuple [.int .i64 n1, .int .i64 n2, .int .i64 n3]) h) = K p h) ∨ (∀ K : PV → Objs → R, w_3_3_3 p (fun n1 n2 n3 => K (.tuple [.int .i64 n1, .int .i64 n2, .int .i64 n3]) h) = none) := by
  unfold w_3_3_3; split
  · exact .inl fun _ => rfl
  · exact .inr fun _ => rfl
@[simp] theorem w_3_3_3_mk (n1 : Int) (n2 : Int) (n3 : Int) (K : Int → Int → Int → R) : w_3_3_3 (.tuple [.int .i64 n1, .int .i64 n2, .int .i64 n3]) K = K n1 n2 n3 := rfl
def w_29_3 (p : PV) (K : Int → ByteArray → Int → Int → Int → Int → R) : R := match p with | .tuple [.agg [.int .i64 n1, .str s2, .int .i64 n3, .int .i64 n4, .int .i64 n5], .int .i64 n6] => K n1 s2 n3 n4 n5 n6 | _ => none
theorem w_29_3_ok (p : PV) (h : Objs) : (∀ K : PV → Objs → R, w_29_3 p (fun n1 s2 n3 n4 n5 n6 => K (.tuple [.agg [.int .i64 n1, .str s2, .int .i64 n3, .int .i64 n4, .int .i64 n5], .int .i64 n6]) h) = K p h) ∨ (∀ K : PV → Objs → R, w_29_3 p (fun n1 s2 n3 n4 n5 n6 => K (.tuple [.agg [.int .i64 n1, .str s2, .int .i64 n3, .int .i64 n4, .int .i64 n5], .int .i64 n6]) h) = none) := by
  unfold w_29_3; split
  · exact .inl fun _ => rfl
  · exact .inr fun _ => rfl
@[simp] theorem w_29_3_mk (n1 : Int) (s2 : ByteArray) (n3 : Int) (n4 : Int) (n5 : Int) (n6 : Int) (K : Int → ByteArray → Int → Int → Int → Int → R) : w_29_3 (.tuple [.agg [.int .i64 n1, .str s2, .int .i64 n3, .int .i64 n4, .int .i64 n5], .int .i64 n6]) K = K n1 s2 n3 n4 n5 n6 := rfl
def h22_0 (p : PV) (h : Objs) (K : Int → R) : R := match p, h with | .tuple [], [some [.int .i64 n1]] => K n1 | _, _ => none
theorem h22_0_ok (p : PV) (h : Objs) : (∀ K : PV → Objs → R, h22_0 p h (fun n1 => K (.tuple []) [some [.int .i64 n1]]) = K p h) ∨ (∀ K : PV → Objs → R, h22_0 p h (fun n1 => K (.tuple []) [some [.int .i64 n1]]) = none) := by
  unfold h22_0; split
  · exact .inl fun _ => rfl
  · exact .inr fun _ => rfl
@[simp] theorem h22_0_mk (n1 : Int) (K : Int → R) : h22_0 (.tuple []) [some [.int .i64 n1]] K = K n1 := rfl
def h22_1 (p : PV) (h : Objs) (K : ByteArray → Int → R) : R := match p, h with | .tuple [], [some [.str s1], some [.int .i64 n2]] => K s1 n2 | _, _ => none
theorem h22_1_ok (p : PV) (h : Objs) : (∀ K : PV → Objs → R, h22_1 p h (fun s1 n2 => K (.tuple []) [some [.str s1], some [.int .i64 n2]]) = K p h) ∨ (∀ K : PV → Objs → R, h22_1 p h (fun s1 n2 => K (.tuple []) [some [.str s1], some [.int .i64 n2]]) = none) := by
  unfold h22_1; split
  · exact .inl fun _ => rfl
  · exact .inr fun _ => rfl
@[simp] theorem h22_1_mk (s1 : ByteArray) (n2 : Int) (K : ByteArray → Int → R) : h22_1 (.tuple []) [some [.str s1], some [.int .i64 n2]] K = K s1 n2 := rfl
def h36_0 (p : PV) (h : Objs) (K : Bool → List UInt8 → R) : R := match p, h with | .tuple [], [some [.bool b1], some [.bld 68 1, .slT y2]] => K b1 y2 | _, _ => none
theorem h36_0_ok (p : PV) (h : Objs) : (∀ K : PV → Objs → R, h36_0 p h (fun b1 y2 => K (.tuple []) [some [.bool b1], some [.bld 68 1, .slT y2]]) = K p h) ∨ (∀ K : PV → Objs → R, h36_0 p h (fun b1 y2 => K (.tuple []) [some [.bool b1], some [.bld 68 1, .slT y2]]) = none) := by
  unfold h36_0; split
  · exact .inl fun _ => rfl
  · exact .inr fun _ => rfl
@[simp] theorem h36_0_mk (b1 : Bool) (y2 : List UInt8) (K : Bool → List UInt8 → R) : h36_0 (.tuple []) [some [.bool b1], some [.bld 68 1, .slT y2]] K = K b1 y2 := rfl
def h37_0 (p : PV) (h : Objs) (K : List UInt8 → R) : R := match p, h with | .raw .nilIface, [some [.bld 68 0, .slT y1]] => K y1 | _, _ => none
theorem h37_0_ok (p : PV) (h : Objs) : (∀ K : PV → Objs → R, h37_0 p h (fun y1 => K (.raw .nilIface) [some [.bld 68 0, .slT y1]]) = K p h) ∨ (∀ K : PV → Objs → R, h37_0 p h (fun y1 => K (.raw .nilIface) [some [.bld 68 0, .slT y1]]) = none) := by
  unfold h37_0; split
  · exact .inl fun _ => rfl
  · exact .inr fun _ => rfl
@[simp] theorem h37_0_mk (y1 : List UInt8) (K : List UInt8 → R) : h37_0 (.raw .nilIface) [some [.bld 68 0, .slT y1]] K = K y1 := rfl
def h38_0 (p : PV) (h : Objs) (K : Int → List UInt8 → R) : R := match p, h with | .tuple [.int .i64 n1, .raw .nilIface], [some [.bld 68 0, .slT y2]] => K n1 y2 | _, _ => none
theorem h38_0_ok (p : PV) (h : Objs) : (∀ K : PV → Objs → R, h38_0 p h (fun n1 y2 => K (.tuple [.int .i64 n1, .raw .nilIface]) [some [.bld 68 0, .slT y2]]) = K p h) ∨ (∀ K : PV → Objs → R, h38_0 p h (fun n1 y2 => K (.tuple [.int .i64 n1, .raw .nilIface]) [some [.bld 68 0, .slT y2]]) = none) := by
  unfold h38_0; split
  · exact .inl fun _ => rfl
  · exact .inr fun _ => rfl
@[simp] theorem h38_0_mk (n1 : Int) (y2 : List UInt8) (K : Int → List UInt8 → R) : h38_0 (.tuple [.int .i64 n1, .raw .nilIface]) [some [.bld 68 0, .slT y2]] K = K n1 y2 := rfl
def h40_0 (p : PV) (h : Objs) (K : ByteArray → List PV → R) : R := match p, h with | .str s1, [some [.bld 68 0, .sl false 1 l2]] => K s1 l2 | _, _ => none
theorem h40_0_ok (p : PV) (h : Objs) : (∀ K : PV → Objs → R, h40_0 p h (fun s1 l2 => K (.str s1) [some [.bld 68 0, .sl false 1 l2]]) = K p h) ∨ (∀ K : PV → Objs → R, h40_0 p h (fun s1 l2 => K (.str s1) [some [.bld 68 0, .sl false 1 l2]]) = none) := by
  unfold h40_0; split
  · exact .inl fun _ => rfl
  · exact .inr fun _ => rfl
@[simp] theorem h40_0_mk (s1 : ByteArray) (l2 : List PV) (K : ByteArray → List PV → R) : h40_0 (.str s1) [some [.bld 68 0, .sl false 1 l2]] K = K s1 l2 := rfl
def h63_0 (p : PV) (h : Objs) (K : Nat → List PV → R) : R := match p, h with | .slh 0 0 k1 5, [some l2] => K k1 l2 | _, _ => none
theorem h63_0_ok (p : PV) (h : Objs) : (∀ K : PV → Objs → R, h63_0 p h (fun k1 l2 => K (.slh 0 0 k1 5) [some l2]) = K p h) ∨ (∀ K : PV → Objs → R, h63_0 p h (fun k1 l2 => K (.slh 0 0 k1 5) [some l2]) = none) := by
  unfold h63_0; split
  · exact .inl fun _ => rfl
  · exact .inr fun _ => rfl
@[simp] theorem h63_0_mk (k1 : Nat) (l2 : List PV) (K : Nat → List PV → R) : h63_0 (.slh 0 0 k1 5) [some l2] K = K k1 l2 := rfl
def h67_0 (p : PV) (h : Objs) (K : List UInt8 → R) : R := match p, h with | .tuple [], [some [.bld 68 0, .slT y1]] => K y1 | _, _ => none
theorem h67_0_ok (p : PV) (h : Objs) : (∀ K : PV → Objs → R, h67_0 p h (fun y1 => K (.tuple []) [some [.bld 68 0, .slT y1]]) = K p h) ∨ (∀ K : PV → Objs → R, h67_0 p h (fun y1 => K (.tuple []) [some [.bld 68 0, .slT y1]]) = none) := by
  unfold h67_0; split
  · exact .inl fun _ => rfl
  · exact .inr fun _ => rfl
@[simp] theorem h67_0_mk (y1 : List UInt8) (K : List UInt8 → R) : h67_0 (.tuple []) [some [.bld 68 0, .slT y1]] K = K y1 := rfl
def WW22 (h0 : Objs) (r : PV) (h : Objs) (K : PV → Objs → R) : R := match h0 with
  | [some [.int .i64 _]] => h22_0 r h (fun n1 => K (.tuple []) [some [.int .i64 n1]])
  | [some [.str _], some [.int .i64 _]] => h22_1 r h (fun s1 n2 => K (.tuple []) [some [.str s1], some [.int .i64 n2]])
  | [] => w0 r (K (.tuple []) h)
  | _ => K r h
theorem WW22_ok (h0 : Objs) (r : PV) (h : Objs) : (∀ K : PV → Objs → R, WW22 h0 r h K = K r h) ∨ (∀ K : PV → Objs → R, WW22 h0 r h K = none) := by
  unfold WW22; split
  · exact h22_0_ok r h
  · exact h22_1_ok r h
  · exact w0_ok r h
  · exact .inl fun _ => rfl
def WW36 (h0 : Objs) (r : PV) (h : Objs) (K : PV → Objs → R) : R := match h0 with
  | [some [.bool _], some [.bld 68 1, .slT _]] => h36_0 r h (fun b1 y2 => K (.tuple []) [some [.bool b1], some [.bld 68 1, .slT y2]])
  | [] => w0 r (K (.tuple []) h)
  | _ => K r h
theorem WW36_ok (h0 : Objs) (r : PV) (h : Objs) : (∀ K : PV → Objs → R, WW36 h0 r h K = K r h) ∨ (∀ K : PV → Objs → R, WW36 h0 r h K = none) := by
  unfold WW36; split
  · exact h36_0_ok r h
  · exact w0_ok r h
  · exact .inl fun _ => rfl
def WW37 (h0 : Objs) (r : PV) (h : Objs) (K : PV → Objs → R) : R := match h0 with
  | [some [.bld 68 0, .slT _]] => h37_0 r h (fun y1 => K (.raw .nilIface) [some [.bld 68 0, .slT y1]])
  | _ => K r h
theorem WW37_ok (h0 : Objs) (r : PV) (h : Objs) : (∀ K : PV → Objs → R, WW37 h0 r h K = K r h) ∨ (∀ K : PV → Objs → R, WW37 h0 r h K = none) := by
  unfold WW37; split
  · exact h37_0_ok r h
  · exact .inl fun _ => rfl
def WW38 (h0 : Objs) (r : PV) (h : Objs) (K : PV → Objs → R) : R := match h0 with
  | [some [.bld 68 0, .slT _]] => h38_0 r h (fun n1 y2 => K (.tuple [.int .i64 n1, .raw .nilIface]) [some [.bld 68 0, .slT y2]])
  | _ => K r h
theorem WW38_ok (h0 : Objs) (r : PV) (h : Objs) : (∀ K : PV → Objs → R, WW38 h0 r h K = K r h) ∨ (∀ K : PV → Objs → R, WW38 h0 r h K = none) := by
  unfold WW38; split
  · exact h38_0_ok r h
  · exact .inl fun _ => rfl
def WW40 (h0 : Objs) (r : PV) (h : Objs) (K : PV → Objs → R) : R := match h0 with
  | [some [.bld 68 0, .slT _]] => h40_0 r h (fun s1 l2 => K (.str s1) [some [.bld 68 0, .sl false 1 l2]])
  | [] => vS r fun s1 => K (.str s1) h
  | _ => K r h
theorem WW40_ok (h0 : Objs) (r : PV) (h : Objs) : (∀ K : PV → Objs → R, WW40 h0 r h K = K r h) ∨ (∀ K : PV → Objs → R, WW40 h0 r h K = none) := by
  unfold WW40; split
  · exact h40_0_ok r h
  · exact one_ok (vS_ok r) h
  · exact .inl fun _ => rfl
def WW63 (h0 : Objs) (r : PV) (h : Objs) (K : PV → Objs → R) : R := match h0 with
  | [some _] => h63_0 r h (fun k1 l2 => K (.slh 0 0 k1 5) [some l2])
  | [] => vL false 5 r fun l1 => K (.sl false 5 l1) h
  | _ => K r h
theorem WW63_ok (h0 : Objs) (r : PV) (h : Objs) : (∀ K : PV → Objs → R, WW63 h0 r h K = K r h) ∨ (∀ K : PV → Objs → R, WW63 h0 r h K = none) := by
  unfold WW63; split
  · exact h63_0_ok r h
  · exact one_ok (vL_ok false 5 r) h
  · exact .inl fun _ => rfl
def WW67 (h0 : Objs) (r : PV) (h : Objs) (K : PV → Objs → R) : R := match h0 with
  | [some [.bld 68 0, .slT _]] => h67_0 r h (fun y1 => K (.tuple []) [some [.bld 68 0, .slT y1]])
  | [] => w0 r (K (.tuple []) h)
  | _ => K r h
theorem WW67_ok (h0 : Objs) (r : PV) (h : Objs) : (∀ K : PV → Objs → R, WW67 h0 r h K = K r h) ∨ (∀ K : PV → Objs → R, WW67 h0 r h K = none) := by
  unfold WW67; split
  · exact h67_0_ok r h
  · exact w0_ok r h
  · exact .inl fun _ => rfl
def WWp4 (g : FuncId) (h0 : Objs) (r : PV) (h : Objs) (K : PV → Objs → R) : R :=
  bsel (Nat.beq g 74) (vI .i64 r fun n1 => K (.int .i64 n1) h)
    (bsel (Nat.beq g 82) (vI .i64 r fun n1 => K (.int .i64 n1) h)
    (bsel (Nat.beq g 88) (vL false 1 r fun l1 => K (.sl false 1 l1) h)
    (K r h)))
theorem WWp4_ok (g : FuncId) (h0 : Objs) (r : PV) (h : Objs) : (∀ K : PV → Objs → R, WWp4 g h0 r h K = K r h) ∨ (∀ K : PV → Objs → R, WWp4 g h0 r h K = none) :=
  out_bsel (one_ok (vI_ok .i64 r) h) (out_bsel (one_ok (vI_ok .i64 r) h) (out_bsel (one_ok (vL_ok false 1 r) h) (.inl fun _ => rfl)))
def WWp3 (g : FuncId) (h0 : Objs) (r : PV) (h : Objs) (K : PV → Objs → R) : R :=
  bsel (Nat.beq g 46) (w0 r (K (.tuple []) h))
    (bsel (Nat.beq g 47) (vS r fun s1 => K (.str s1) h)
    (bsel (Nat.beq g 48) (vI .i64 r fun n1 => K (.int .i64 n1) h)
    (bsel (Nat.beq g 49) (w0 r (K (.tuple []) h))
    (bsel (Nat.beq g 50) (w0 r (K (.tuple []) h))
    (bsel (Nat.beq g 63) (WW63 h0 r h K)
    (bsel (Nat.beq g 64) (vL true 5 r fun l1 => K (.sl true 5 l1) h)
    (bsel (Nat.beq g 65) (vB r fun b1 => K (.bool b1) h)
    (bsel (Nat.beq g 67) (WW67 h0 r h K)
    (bsel (Nat.beq g 71) (vB r fun b1 => K (.bool b1) h)
    (bsel (Nat.beq g 72) (vS r fun s1 => K (.str s1) h)
    (bsel (Nat.beq g 73) (vB r fun b1 => K (.bool b1) h)
    (WWp4 g h0 r h K))))))))))))
theorem WWp3_ok (g : FuncId) (h0 : Objs) (r : PV) (h : Objs) : (∀ K : PV → Objs → R, WWp3 g h0 r h K = K r h) ∨ (∀ K : PV → Objs → R, WWp3 g h0 r h K = none) :=
  out_bsel (w0_ok r h) (out_bsel (one_ok (vS_ok r) h) (out_bsel (one_ok (vI_ok .i64 r) h) (out_bsel (w0_ok r h) (out_bsel (w0_ok r h) (out_bsel (WW63_ok h0 r h) (out_bsel (one_ok (vL_ok true 5 r) h) (out_bsel (one_ok (vB_ok r) h) (out_bsel (WW67_ok h0 r h) (out_bsel (one_ok (vB_ok r) h) (out_bsel (one_ok (vS_ok r) h) (out_bsel (one_ok (vB_ok r) h) (WWp4_ok g h0 r h))))))))))))
def WWp2 (g : FuncId) (h0 : Objs) (r : PV) (h : Objs) (K : PV → Objs → R) : R :=
  bsel (Nat.beq g 34) (vB r fun b1 => K (.bool b1) h)
    (bsel (Nat.beq g 35) (vB r fun b1 => K (.bool b1) h)
    (bsel (Nat.beq g 36) (WW36 h0 r h K)
    (bsel (Nat.beq g 37) (WW37 h0 r h K)
    (bsel (Nat.beq g 38) (WW38 h0 r h K)
    (bsel (Nat.beq g 39) (vS r fun s1 => K (.str s1) h)
    (bsel (Nat.beq g 40) (WW40 h0 r h K)
    (bsel (Nat.beq g 41) (vL false 5 r fun l1 => K (.sl false 5 l1) h)
    (bsel (Nat.beq g 42) (w_29_3 r fun n1 s2 n3 n4 n5 n6 => K (.tuple [.agg [.int .i64 n1, .str s2, .int .i64 n3, .int .i64 n4, .int .i64 n5], .int .i64 n6]) h)
    (bsel (Nat.beq g 43) (vB r fun b1 => K (.bool b1) h)
    (bsel (Nat.beq g 44) (v29 r fun n1 s2 n3 n4 n5 => K (.agg [.int .i64 n1, .str s2, .int .i64 n3, .int .i64 n4, .int .i64 n5]) h)
    (bsel (Nat.beq g 45) (vB r fun b1 => K (.bool b1) h)
    (WWp3 g h0 r h K))))))))))))
theorem WWp2_ok (g : FuncId) (h0 : Objs) (r : PV) (h : Objs) : (∀ K : PV → Objs → R, WWp2 g h0 r h K = K r h) ∨ (∀ K : PV → Objs → R, WWp2 g h0 r h K = none) :=
  out_bsel (one_ok (vB_ok r) h) (out_bsel (one_ok (vB_ok r) h) (out_bsel (WW36_ok h0 r h) (out_bsel (WW37_ok h0 r h) (out_bsel (WW38_ok h0 r h) (out_bsel (one_ok (vS_ok r) h) (out_bsel (WW40_ok h0 r h) (out_bsel (one_ok (vL_ok false 5 r) h) (out_bsel (w_29_3_ok r h) (out_bsel (one_ok (vB_ok r) h) (out_bsel (one_ok (v29_ok r) h) (out_bsel (one_ok (vB_ok r) h) (WWp3_ok g h0 r h))))))))))))
def WWp1 (g : FuncId) (h0 : Objs) (r : PV) (h : Objs) (K : PV → Objs → R) : R :=
  bsel (Nat.beq g 16) (w_9_3 r fun s1 n2 => K (.tuple [.str s1, .int .i64 n2]) h)
    (bsel (Nat.beq g 17) (w_9_3 r fun s1 n2 => K (.tuple [.str s1, .int .i64 n2]) h)
    (bsel (Nat.beq g 18) (vB r fun b1 => K (.bool b1) h)
    (bsel (Nat.beq g 19) (vB r fun b1 => K (.bool b1) h)
    (bsel (Nat.beq g 20) (w_24_3_3_3 r fun l1 n2 n3 n4 => K (.tuple [.sl false 5 l1, .int .i64 n2, .int .i64 n3, .int .i64 n4]) h)
    (bsel (Nat.beq g 21) (vB r fun b1 => K (.bool b1) h)
    (bsel (Nat.beq g 22) (WW22 h0 r h K)
    (bsel (Nat.beq g 24) (w_3_3_3 r fun n1 n2 n3 => K (.tuple [.int .i64 n1, .int .i64 n2, .int .i64 n3]) h)
    (bsel (Nat.beq g 25) (v46 r fun n1 s2 n3 n4 n5 b6 s7 n8 => K (.agg [.int .i64 n1, .str s2, .int .i64 n3, .int .i64 n4, .int .i64 n5, .bool b6, .str s7, .int .i64 n8]) h)
    (bsel (Nat.beq g 29) (v29 r fun n1 s2 n3 n4 n5 => K (.agg [.int .i64 n1, .str s2, .int .i64 n3, .int .i64 n4, .int .i64 n5]) h)
    (bsel (Nat.beq g 32) (vL false 5 r fun l1 => K (.sl false 5 l1) h)
    (bsel (Nat.beq g 33) (vS r fun s1 => K (.str s1) h)
    (WWp2 g h0 r h K))))))))))))
theorem WWp1_ok (g : FuncId) (h0 : Objs) (r : PV) (h : Objs) : (∀ K : PV → Objs → R, WWp1 g h0 r h K = K r h) ∨ (∀ K : PV → Objs → R, WWp1 g h0 r h K = none) :=
  out_bsel (w_9_3_ok r h) (out_bsel (w_9_3_ok r h) (out_bsel (one_ok (vB_ok r) h) (out_bsel (one_ok (vB_ok r) h) (out_bsel (w_24_3_3_3_ok r h) (out_bsel (one_ok (vB_ok r) h) (out_bsel (WW22_ok h0 r h) (out_bsel (w_3_3_3_ok r h) (out_bsel (one_ok (v46_ok r) h) (out_bsel (one_ok (v29_ok r) h) (out_bsel (one_ok (vL_ok false 5 r) h) (out_bsel (one_ok (vS_ok r) h) (WWp2_ok g h0 r h))))))))))))
def WWp0 (g : FuncId) (h0 : Objs) (r : PV) (h : Objs) (K : PV → Objs → R) : R :=
  bsel (Nat.beq g 3) (vB r fun b1 => K (.bool b1) h)
    (bsel (Nat.beq g 4) (vB r fun b1 => K (.bool b1) h)
    (bsel (Nat.beq g 5) (vB r fun b1 => K (.bool b1) h)
    (bsel (Nat.beq g 6) (vB r fun b1 => K (.bool b1) h)
    (bsel (Nat.beq g 7) (vB r fun b1 => K (.bool b1) h)
    (bsel (Nat.beq g 8) (vB r fun b1 => K (.bool b1) h)
    (bsel (Nat.beq g 9) (vB r fun b1 => K (.bool b1) h)
    (bsel (Nat.beq g 11) (vB r fun b1 => K (.bool b1) h)
    (bsel (Nat.beq g 12) (w_24_3_3_3 r fun l1 n2 n3 n4 => K (.tuple [.sl false 5 l1, .int .i64 n2, .int .i64 n3, .int .i64 n4]) h)
    (bsel (Nat.beq g 13) (vB r fun b1 => K (.bool b1) h)
    (bsel (Nat.beq g 14) (w_9_3 r fun s1 n2 => K (.tuple [.str s1, .int .i64 n2]) h)
    (bsel (Nat.beq g 15) (w_9_3 r fun s1 n2 => K (.tuple [.str s1, .int .i64 n2]) h)
    (WWp1 g h0 r h K))))))))))))
theorem WWp0_ok (g : FuncId) (h0 : Objs) (r : PV) (h : Objs) : (∀ K : PV → Objs → R, WWp0 g h0 r h K = K r h) ∨ (∀ K : PV → Objs → R, WWp0 g h0 r h K = none) :=
  out_bsel (one_ok (vB_ok r) h) (out_bsel (one_ok (vB_ok r) h) (out_bsel (one_ok (vB_ok r) h) (out_bsel (one_ok (vB_ok r) h) (out_bsel (one_ok (vB_ok r) h) (out_bsel (one_ok (vB_ok r) h) (out_bsel (one_ok (vB_ok r) h) (out_bsel (one_ok (vB_ok r) h) (out_bsel (w_24_3_3_3_ok r h) (out_bsel (one_ok (vB_ok r) h) (out_bsel (w_9_3_ok r h) (out_bsel (w_9_3_ok r h) (WWp1_ok g h0 r h))))))))))))
def WW : FuncId → Objs → PV → Objs → (PV → Objs → R) → R := WWp0
theorem WW_ok : outOK WW := WWp0_ok
def prmT (g : FuncId) : Prm := match g with
  | 3 => ⟨[0, 3, 4, 5, 6, 7, 8, 9, 10, 11, 12, 13, 14, 15, 16, 17, 18, 19], [], [27, 39], [(4, [1]), (6, [1]), (8, [5]), (12, [5]), (16, [5])], [(4, [0]), (9, [3, 4, 5]), (8, [3, 4, 5]), (10, [3, 4]), (14, [3, 4, 6, 7]), (13, [3, 4, 6, 7]), (15, [3, 4, 6]), (20, [8, 9, 10, 11, 12, 13, 14, 15, 16, 17, 18, 19])], [(7, [3, 4, 5]), (12, [3, 4, 6, 7])], [], [], [], [(15, [1000004, 1000006])], [36, 48], []⟩
  | 4 => ⟨[0, 3, 4, 5, 6, 7, 8, 9, 10], [], [], [(0, [5])], [(4, [0])], [], [], [], [], [], [], []⟩
  | 5 => ⟨[0, 3, 6, 7, 8, 9, 10, 11], [], [], [(3, [5])], [(4, [0]), (7, [0, 3]), (11, [0, 3, 7, 8, 9, 10]), (15, [0, 3, 7, 8, 9, 10]), (16, [0, 3, 7, 8, 9, 10]), (10, [0, 3, 7, 8, 9, 10]), (19, [3, 9])], [(9, [0, 3, 7, 8, 9, 10])], [], [], [], [], [], []⟩
  | 6 => ⟨[0, 1, 5, 8, 9, 12, 13, 14, 15, 16, 17, 18, 21], [100], [], [(5, [5]), (9, [5]), (15, [5]), (18, [5])], [(4, [0, 1]), (8, [0, 1, 5, 9]), (12, [0, 1, 5, 9, 13, 14]), (11, [0, 1, 5, 9, 13, 14]), (14, [0, 1, 5, 9, 13]), (18, [0, 1, 9, 13, 15, 16]), (17, [0, 1, 9, 13, 15, 16]), (21, [0, 1, 15])], [(10, [0, 1, 5, 9, 13, 14]), (16, [0, 1, 9, 13, 15, 16])], [], [], [], [], [], []⟩
  | 7 => ⟨[0, 1, 5, 8, 9, 10, 11, 14], [], [], [(1, [1]), (5, [5]), (11, [5])], [(4, [0, 1]), (7, [1, 5]), (11, [1, 5, 9, 10]), (10, [1, 5, 9, 10]), (14, [5, 9])], [(9, [1, 5, 9, 10])], [], [], [], [], [], []⟩
  | 8 => ⟨[0, 3, 4, 5, 6, 7, 8, 9, 10, 11], [], [], [(3, [5]), (7, [5])], [(4, [0]), (9, [3, 4, 5, 6, 7, 8, 9, 10, 11]), (8, [3, 4, 5, 6, 7, 8, 9, 10, 11]), (11, [3, 4, 5, 6, 7, 8, 9, 10])], [(7, [3, 4, 5, 6, 7, 8, 9, 10, 11])], [], [], [], [], [], []⟩
  | 9 => ⟨[0, 1, 3, 4, 5, 6, 7], [], [], [], [(4, [1])], [], [], [1], [], [], [], []⟩
  | 11 => ⟨[1, 4, 8, 10, 11, 12, 13, 16, 17, 18], [], [], [(1, [5]), (13, [5])], [(7, [1])], [], [], [], [], [], [], []⟩
  | 12 => ⟨[0, 2, 3, 4, 5], [22], [], [], [(4, [0]), (10, [2, 3, 4, 5])], [], [(2, [5])], [], [([5], false), ([], true), ([], true), ([], true)], [], [], []⟩
  | 13 => ⟨[0, 3], [], [], [(0, [5])], [(5, [0, 3]), (4, [0, 3]), (7, [0])], [(3, [0, 3])], [], [], [], [], [], []⟩
  | 14 => ⟨[0, 4, 6, 7, 8, 11, 14, 15, 16], [20], [], [(0, [5]), (4, [1]), (8, [5]), (14, [5])], [(6, [0, 4, 14, 15, 16]), (8, [0, 4, 14, 15, 16]), (9, [0, 4]), (13, [7])], [(5, [0, 4, 14, 15, 16])], [], [], [], [], [], []⟩
  | 15 => ⟨[0, 5, 6, 7, 8, 9, 10, 12, 23, 24, 25, 67], [], [6], [(0, [5]), (23, [5])], [(5, [0]), (11, [6, 7, 8, 9, 10, 23, 24, 25]), (15, [6, 7, 8, 9, 10, 12, 23, 24, 25]), (19, [6, 7, 8, 10, 12, 23, 24, 25]), (28, [6, 7, 8, 9, 10, 23, 24, 25]), (29, [6, 10])], [(10, [6, 7, 8, 9, 10, 23, 24, 25])], [(6, [0, 1])], [], [], [], [], []⟩
  | 16 => ⟨[0, 4, 5, 6, 7, 10], [], [], [(0, [5]), (5, [5]), (7, [5])], [(7, [4, 5, 6]), (9, [4, 5, 6]), (6, [4, 5, 6]), (10, [4, 5]), (13, [4])], [(5, [4, 5, 6])], [], [], [], [], [], []⟩
  | 17 => ⟨[0, 5, 6, 7, 8, 9, 10, 11, 12, 13], [], [], [(0, [5]), (10, [5])], [(5, [0]), (10, [6, 7, 8, 9, 10, 11]), (13, [6, 7, 8, 9, 10, 11, 12]), (15, [6, 7, 8, 9, 10, 11, 12]), (19, [6, 7, 8, 10, 11, 12, 13]), (18, [6, 7, 8, 10, 11, 12, 13]), (22, [6, 7, 8, 10, 11, 12]), (25, [6, 7, 8, 9, 10, 11, 12]), (9, [6, 7, 8, 9, 10, 11]), (27, [6, 7]), (29, [6])], [(8, [6, 7, 8, 9, 10, 11]), (17, [6, 7, 8, 10, 11, 12, 13])], [], [], [], [], [], []⟩
  | 18 => ⟨[0, 1, 5], [], [], [(0, [5]), (1, [5])], [(4, [0, 1]), (7, [0, 1, 5]), (6, [0, 1, 5]), (9, [])], [(5, [0, 1, 5])], [], [], [], [], [], []⟩
  | 19 => ⟨[0, 1, 5], [], [], [(0, [5]), (1, [5])], [(4, [0, 1]), (7, [0, 1, 5]), (6, [0, 1, 5]), (9, [])], [(5, [0, 1, 5])], [], [], [], [], [], []⟩
  | 20 => ⟨[0, 6, 7, 8, 9, 10, 11], [93, 107], [], [(6, [5])], [(4, [0]), (8, [0, 6, 7, 8, 9]), (15, [0, 6, 7, 8, 9]), (16, [0, 6, 7, 8, 9]), (19, [0, 6, 7, 8, 9, 10]), (22, [6, 7, 8])], [(7, [0, 6, 7, 8, 9]), (14, [0, 6, 7, 8, 9])], [], [], [([5], false), ([], true), ([], true), ([], true)], [], [], []⟩
  | 21 => ⟨[0, 3, 4, 5, 7, 8], [], [], [], [(4, [0, 7, 8]), (9, [0, 7, 8]), (10, [0])], [(3, [0, 7, 8])], [], [], [], [], [], []⟩
  | 22 => ⟨[0, 1], [], [], [], [(2, [0, 1]), (4, [0, 1])], [(3, [0, 1])], [(0, [5, 0, 0, 0])], [], [], [], [], []⟩
  | 24 => ⟨[0], [], [], [], [(6, [0])], [], [(0, [5, 0, 0, 0])], [], [], [], [], []⟩
  | 25 => ⟨[0, 1, 2, 3, 4, 5, 6, 9], [], [], [], [(25, [4])], [], [(0, [5, 0, 0, 0])], [2, 3], [], [], [], []⟩
  | 29 => ⟨[0, 2], [], [], [], [(6, [0, 2])], [], [(0, [5, 0, 0, 0])], [], [], [], [], []⟩
  | 32 => ⟨[0], [], [4], [(0, [5])], [], [], [], [], [([5], false)], [(0, [1000002])], [5], []⟩
  | 33 => ⟨[0, 1, 5, 7, 8, 10, 12, 39, 40, 41, 63, 64, 65], [], [], [(0, [1]), (39, [1]), (63, [1])], [(7, [0, 1]), (11, [0, 1, 5]), (12, [0, 1, 5]), (14, [0, 1, 5, 39, 40, 41]), (17, [0, 1, 5, 7, 39, 40, 41]), (18, [0, 1, 5, 39, 40, 41]), (19, [0, 1, 5]), (24, [1, 8, 63, 64, 65]), (27, [1, 8, 63, 64, 65]), (28, [8])], [(13, [0, 1, 5, 39, 40, 41]), (23, [1, 8, 63, 64, 65])], [(8, [0, 1])], [], [], [], [], []⟩
  | 34 => ⟨[0, 1, 2, 7, 8, 9, 15, 16, 17], [], [], [(0, [5]), (1, [5]), (15, [5])], [(4, [0, 1, 2]), (6, [1, 2, 15, 16, 17]), (10, [1, 2, 15, 16, 17]), (11, [])], [(5, [1, 2, 15, 16, 17])], [], [], [], [], [], []⟩
  | 35 => ⟨[0, 1, 2, 3], [], [], [], [], [], [], [2, 3], [], [], [], []⟩
  | 36 => ⟨[0, 1], [], [], [], [], [], [], [], [], [], [], []⟩
  | 37 => ⟨[0, 1], [11], [], [], [], [], [(0, [0, 1])], [], [], [], [], []⟩
  | 38 => ⟨[0, 1], [12], [], [], [], [], [(0, [0, 1])], [], [], [], [], []⟩
  | 39 => ⟨[0, 1, 5, 6, 7, 8, 9, 10, 11, 42], [], [], [], [(7, [0, 1]), (9, [0, 1]), (12, [0, 6]), (15, [0, 7]), (31, [0, 7]), (36, [0, 7, 8]), (40, [7, 8, 9]), (42, [9])], [(39, [7, 8, 9])], [(9, [0, 1])], [], [], [], [], []⟩
  | 40 => ⟨[0], [], [], [], [], [], [(0, [0, 1])], [], [], [], [], []⟩
  | 41 => ⟨[0, 3, 4], [17], [], [(0, [5]), (3, [5])], [(6, [0, 3, 4]), (5, [0, 3, 4]), (8, [3])], [(4, [0, 3, 4])], [], [], [([5], false)], [], [], []⟩
  | 42 => ⟨[0, 2, 4, 5, 6], [], [], [], [(4, [0, 2, 4]), (5, [0, 2, 4]), (9, [2]), (14, [0, 2, 4]), (17, [0, 2, 4, 6]), (16, [0, 2, 4, 6]), (19, [0, 2, 4]), (21, [0, 2, 4]), (23, [0, 2, 4])], [(3, [0, 2, 4]), (15, [0, 2, 4, 6])], [], [], [], [], [], []⟩
  | 43 => ⟨[0, 1, 5], [], [], [], [(5, [5])], [], [(0, [5, 0, 0, 0])], [], [], [], [], []⟩
  | 44 => ⟨[0, 2, 3], [], [], [], [(5, [2, 3])], [], [(0, [5, 0, 0, 0])], [], [], [], [], []⟩
  | 45 => ⟨[0, 1, 5], [], [], [], [], [], [(0, [5, 0, 0, 0])], [], [], [], [], []⟩
  | 46 => ⟨[0, 1], [], [], [], [], [], [(0, [5, 0, 0, 0])], [], [], [], [], []⟩
  | 47 => ⟨[0], [], [], [], [(5, [0])], [], [(0, [5, 0, 0, 0])], [], [], [], [], []⟩
  | 48 => ⟨[0, 1, 2, 7, 8, 9, 10], [], [], [], [(7, [0, 1, 2, 7]), (11, [0, 1, 2, 7, 9]), (15, [0, 10])], [], [(0, [5, 0, 0, 0])], [], [], [], [], []⟩
  | 49 => ⟨[0], [], [], [], [], [], [(0, [5, 0, 0, 0])], [], [], [], [], []⟩
  | 50 => ⟨[0, 1, 4], [], [], [], [(2, [0, 1])], [], [(0, [5, 0, 0, 0])], [], [], [], [], []⟩
  | 63 => ⟨[0, 1, 5, 6, 7], [], [], [(0, [5])], [(5, [0, 1, 5]), (8, [0, 1, 5, 6]), (7, [0, 1, 5, 6]), (12, [0, 5])], [(6, [0, 1, 5, 6])], [], [], [([5], false)], [], [24, 33], [10]⟩
  | 64 => ⟨[0], [], [], [(0, [5])], [(4, [0])], [], [], [], [([5], true)], [], [], []⟩
  | 65 => ⟨[0, 1], [], [], [], [], [], [], [1], [], [], [], []⟩
  | 67 => ⟨[0], [], [], [], [], [], [(0, [0, 1])], [], [], [], [], []⟩
  | 71 => ⟨[0], [], [], [], [], [], [], [], [], [], [], []⟩
  | 72 => ⟨[0, 4, 5, 6, 7], [], [], [(5, [1])], [(4, [0, 5, 6, 7]), (7, [0, 5, 6, 7]), (8, [])], [(3, [0, 5, 6, 7])], [], [], [], [], [], []⟩
  | 73 => ⟨[0], [], [], [], [], [], [], [], [], [], [], []⟩
  | 74 => ⟨[0, 3, 4], [], [], [], [(6, [0, 3, 4]), (5, [0, 3, 4]), (7, [3])], [(4, [0, 3, 4])], [], [], [], [], [], []⟩
  | 82 => ⟨[0, 1, 5, 7, 8], [], [], [(0, [5])], [(4, [0, 1, 7, 8]), (7, [0, 1, 7, 8]), (8, [])], [(3, [0, 1, 7, 8])], [], [], [], [], [], []⟩
  | 88 => ⟨[], [], [], [], [], [], [], [], [([1], false)], [], [], []⟩
  | _ => ⟨[], [], [], [], [], [], [], [], [], [], [], []⟩
noncomputable def SS : SE := ⟨Try.prog, prmT, VV, WW, CS⟩
theorem SS_ok : SS.OK := ⟨VV_ok, WW_ok⟩
end Go.Proofs.Ytoajpgclgdhhlaa.W

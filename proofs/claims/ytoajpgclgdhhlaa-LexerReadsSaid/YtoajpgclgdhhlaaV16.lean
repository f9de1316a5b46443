/-
  The table of the program: how values of each type look, what each function's slots are. Printed by a program (wip/tool/dc.py).
-/
import Derived.Test.YtoajpgclgdhhlaaC16xa
namespace Go.Proofs.Ytoajpgclgdhhlaa.V
set_option linter.unusedVariables false
set_option linter.unusedSimpArgs false
set_option linter.unnecessarySimpa false
set_option linter.unusedSectionVars false
open Go.RowKit
set_option maxRecDepth 1000000
def v7 (p : PV) (K : Int → Int → Bool → Int → R) : R := match p with | .agg [.int .i64 x0, .int .i64 x1, .bool x2, .int .u8 x3] => K x0 x1 x2 x3 | _ => none
theorem v7_ok (p : PV) : (∀ K : PV → R, v7 p (fun x0 x1 x2 x3 => K (.agg [.int .i64 x0, .int .i64 x1, .bool x2, .int .u8 x3])) = K p) ∨ (∀ K : PV → R, v7 p (fun x0 x1 x2 x3 => K (.agg [.int .i64 x0, .int .i64 x1, .bool x2, .int .u8 x3])) = none) := by
  unfold v7; split
  · exact .inl fun _ => rfl
  · exact .inr fun _ => rfl
@[simp] theorem v7_mk (x0 : Int) (x1 : Int) (x2 : Bool) (x3 : Int) (K : Int → Int → Bool → Int → R) : v7 (.agg [.int .i64 x0, .int .i64 x1, .bool x2, .int .u8 x3]) K = K x0 x1 x2 x3 := rfl
def v13 (p : PV) (K : ByteArray → Int → R) : R := match p with | .agg [.str x0, .int .u64 x1] => K x0 x1 | _ => none
theorem v13_ok (p : PV) : (∀ K : PV → R, v13 p (fun x0 x1 => K (.agg [.str x0, .int .u64 x1])) = K p) ∨ (∀ K : PV → R, v13 p (fun x0 x1 => K (.agg [.str x0, .int .u64 x1])) = none) := by
  unfold v13; split
  · exact .inl fun _ => rfl
  · exact .inr fun _ => rfl
@[simp] theorem v13_mk (x0 : ByteArray) (x1 : Int) (K : ByteArray → Int → R) : v13 (.agg [.str x0, .int .u64 x1]) K = K x0 x1 := rfl
def v18 (p : PV) (K : PV → R) : R := match p with | .agg [x0] => K x0 | _ => none
theorem v18_ok (p : PV) : (∀ K : PV → R, v18 p (fun x0 => K (.agg [x0])) = K p) ∨ (∀ K : PV → R, v18 p (fun x0 => K (.agg [x0])) = none) := by
  unfold v18; split
  · exact .inl fun _ => rfl
  · exact .inr fun _ => rfl
@[simp] theorem v18_mk (x0 : PV) (K : PV → R) : v18 (.agg [x0]) K = K x0 := rfl
def v29 (p : PV) (K : Int → ByteArray → Int → Int → Int → R) : R := match p with | .agg [.int .i64 x0, .str x1, .int .i64 x2, .int .i64 x3, .int .i64 x4] => K x0 x1 x2 x3 x4 | _ => none
theorem v29_ok (p : PV) : (∀ K : PV → R, v29 p (fun x0 x1 x2 x3 x4 => K (.agg [.int .i64 x0, .str x1, .int .i64 x2, .int .i64 x3, .int .i64 x4])) = K p) ∨ (∀ K : PV → R, v29 p (fun x0 x1 x2 x3 x4 => K (.agg [.int .i64 x0, .str x1, .int .i64 x2, .int .i64 x3, .int .i64 x4])) = none) := by
  unfold v29; split
  · exact .inl fun _ => rfl
  · exact .inr fun _ => rfl
@[simp] theorem v29_mk (x0 : Int) (x1 : ByteArray) (x2 : Int) (x3 : Int) (x4 : Int) (K : Int → ByteArray → Int → Int → Int → R) : v29 (.agg [.int .i64 x0, .str x1, .int .i64 x2, .int .i64 x3, .int .i64 x4]) K = K x0 x1 x2 x3 x4 := rfl
def v40 (p : PV) (K : Int → ByteArray → Int → Int → R) : R := match p with | .agg [.int .u8 x0, .str x1, .int .i8 x2, .int .i8 x3] => K x0 x1 x2 x3 | _ => none
theorem v40_ok (p : PV) : (∀ K : PV → R, v40 p (fun x0 x1 x2 x3 => K (.agg [.int .u8 x0, .str x1, .int .i8 x2, .int .i8 x3])) = K p) ∨ (∀ K : PV → R, v40 p (fun x0 x1 x2 x3 => K (.agg [.int .u8 x0, .str x1, .int .i8 x2, .int .i8 x3])) = none) := by
  unfold v40; split
  · exact .inl fun _ => rfl
  · exact .inr fun _ => rfl
@[simp] theorem v40_mk (x0 : Int) (x1 : ByteArray) (x2 : Int) (x3 : Int) (K : Int → ByteArray → Int → Int → R) : v40 (.agg [.int .u8 x0, .str x1, .int .i8 x2, .int .i8 x3]) K = K x0 x1 x2 x3 := rfl
def v46 (p : PV) (K : Int → ByteArray → Int → Int → Int → Bool → ByteArray → Int → R) : R := match p with | .agg [.int .i64 x0, .str x1, .int .i64 x2, .int .i64 x3, .int .i64 x4, .bool x5, .str x6, .int .i64 x7] => K x0 x1 x2 x3 x4 x5 x6 x7 | _ => none
theorem v46_ok (p : PV) : (∀ K : PV → R, v46 p (fun x0 x1 x2 x3 x4 x5 x6 x7 => K (.agg [.int .i64 x0, .str x1, .int .i64 x2, .int .i64 x3, .int .i64 x4, .bool x5, .str x6, .int .i64 x7])) = K p) ∨ (∀ K : PV → R, v46 p (fun x0 x1 x2 x3 x4 x5 x6 x7 => K (.agg [.int .i64 x0, .str x1, .int .i64 x2, .int .i64 x3, .int .i64 x4, .bool x5, .str x6, .int .i64 x7])) = none) := by
  unfold v46; split
  · exact .inl fun _ => rfl
  · exact .inr fun _ => rfl
@[simp] theorem v46_mk (x0 : Int) (x1 : ByteArray) (x2 : Int) (x3 : Int) (x4 : Int) (x5 : Bool) (x6 : ByteArray) (x7 : Int) (K : Int → ByteArray → Int → Int → Int → Bool → ByteArray → Int → R) : v46 (.agg [.int .i64 x0, .str x1, .int .i64 x2, .int .i64 x3, .int .i64 x4, .bool x5, .str x6, .int .i64 x7]) K = K x0 x1 x2 x3 x4 x5 x6 x7 := rfl
def v56 (p : PV) (K : List PV → Int → Int → Int → Int → R) : R := match p with | .agg [.sl false 5 x0, .int .i64 x1, .int .i64 x2, .int .i64 x3, .int .i64 x4] => K x0 x1 x2 x3 x4 | _ => none
theorem v56_ok (p : PV) : (∀ K : PV → R, v56 p (fun x0 x1 x2 x3 x4 => K (.agg [.sl false 5 x0, .int .i64 x1, .int .i64 x2, .int .i64 x3, .int .i64 x4])) = K p) ∨ (∀ K : PV → R, v56 p (fun x0 x1 x2 x3 x4 => K (.agg [.sl false 5 x0, .int .i64 x1, .int .i64 x2, .int .i64 x3, .int .i64 x4])) = none) := by
  unfold v56; split
  · exact .inl fun _ => rfl
  · exact .inr fun _ => rfl
@[simp] theorem v56_mk (x0 : List PV) (x1 : Int) (x2 : Int) (x3 : Int) (x4 : Int) (K : List PV → Int → Int → Int → Int → R) : v56 (.agg [.sl false 5 x0, .int .i64 x1, .int .i64 x2, .int .i64 x3, .int .i64 x4]) K = K x0 x1 x2 x3 x4 := rfl
def v67 (p : PV) (K : PV → List PV → R) : R := match p with | .agg [x0, .sl false 1 x1] => K x0 x1 | _ => none
theorem v67_ok (p : PV) : (∀ K : PV → R, v67 p (fun x0 x1 => K (.agg [x0, .sl false 1 x1])) = K p) ∨ (∀ K : PV → R, v67 p (fun x0 x1 => K (.agg [x0, .sl false 1 x1])) = none) := by
  unfold v67; split
  · exact .inl fun _ => rfl
  · exact .inr fun _ => rfl
@[simp] theorem v67_mk (x0 : PV) (x1 : List PV) (K : PV → List PV → R) : v67 (.agg [x0, .sl false 1 x1]) K = K x0 x1 := rfl
def v78 (p : PV) (K : List PV → Int → Int → Int → R) : R := match p with | .agg [.sl false 5 x0, .int .i64 x1, .int .i64 x2, .int .i64 x3] => K x0 x1 x2 x3 | _ => none
theorem v78_ok (p : PV) : (∀ K : PV → R, v78 p (fun x0 x1 x2 x3 => K (.agg [.sl false 5 x0, .int .i64 x1, .int .i64 x2, .int .i64 x3])) = K p) ∨ (∀ K : PV → R, v78 p (fun x0 x1 x2 x3 => K (.agg [.sl false 5 x0, .int .i64 x1, .int .i64 x2, .int .i64 x3])) = none) := by
  unfold v78; split
  · exact .inl fun _ => rfl
  · exact .inr fun _ => rfl
@[simp] theorem v78_mk (x0 : List PV) (x1 : Int) (x2 : Int) (x3 : Int) (K : List PV → Int → Int → Int → R) : v78 (.agg [.sl false 5 x0, .int .i64 x1, .int .i64 x2, .int .i64 x3]) K = K x0 x1 x2 x3 := rfl
def v88 (p : PV) (K : PV → PV → R) : R := match p with | .agg [x0, x1] => K x0 x1 | _ => none
theorem v88_ok (p : PV) : (∀ K : PV → R, v88 p (fun x0 x1 => K (.agg [x0, x1])) = K p) ∨ (∀ K : PV → R, v88 p (fun x0 x1 => K (.agg [x0, x1])) = none) := by
  unfold v88; split
  · exact .inl fun _ => rfl
  · exact .inr fun _ => rfl
@[simp] theorem v88_mk (x0 : PV) (x1 : PV) (K : PV → PV → R) : v88 (.agg [x0, x1]) K = K x0 x1 := rfl
def v112 (p : PV) (K : PV → PV → PV → ByteArray → R) : R := match p with | .agg [x0, x1, x2, .str x3] => K x0 x1 x2 x3 | _ => none
theorem v112_ok (p : PV) : (∀ K : PV → R, v112 p (fun x0 x1 x2 x3 => K (.agg [x0, x1, x2, .str x3])) = K p) ∨ (∀ K : PV → R, v112 p (fun x0 x1 x2 x3 => K (.agg [x0, x1, x2, .str x3])) = none) := by
  unfold v112; split
  · exact .inl fun _ => rfl
  · exact .inr fun _ => rfl
@[simp] theorem v112_mk (x0 : PV) (x1 : PV) (x2 : PV) (x3 : ByteArray) (K : PV → PV → PV → ByteArray → R) : v112 (.agg [x0, x1, x2, .str x3]) K = K x0 x1 x2 x3 := rfl
def v114 (p : PV) (K : R) : R := match p with | .agg [] => K | _ => none
theorem v114_ok (p : PV) : (∀ K : PV → R, v114 p (K (.agg [])) = K p) ∨ (∀ K : PV → R, v114 p (K (.agg [])) = none) := by
  unfold v114; split
  · exact .inl fun _ => rfl
  · exact .inr fun _ => rfl
def v115 (p : PV) (K : R) : R := match p with | .agg [] => K | _ => none
theorem v115_ok (p : PV) : (∀ K : PV → R, v115 p (K (.agg [])) = K p) ∨ (∀ K : PV → R, v115 p (K (.agg [])) = none) := by
  unfold v115; split
  · exact .inl fun _ => rfl
  · exact .inr fun _ => rfl
def v122 (p : PV) (K : Int → Int → Int → Int → Int → Int → Int → PV → PV → Int → Int → R) : R := match p with | .agg [.int .u64 x0, .int .u64 x1, .int .u32 x2, .int .u8 x3, .int .u8 x4, .int .u8 x5, .int .u8 x6, x7, x8, .int .i32 x9, .int .i32 x10] => K x0 x1 x2 x3 x4 x5 x6 x7 x8 x9 x10 | _ => none
theorem v122_ok (p : PV) : (∀ K : PV → R, v122 p (fun x0 x1 x2 x3 x4 x5 x6 x7 x8 x9 x10 => K (.agg [.int .u64 x0, .int .u64 x1, .int .u32 x2, .int .u8 x3, .int .u8 x4, .int .u8 x5, .int .u8 x6, x7, x8, .int .i32 x9, .int .i32 x10])) = K p) ∨ (∀ K : PV → R, v122 p (fun x0 x1 x2 x3 x4 x5 x6 x7 x8 x9 x10 => K (.agg [.int .u64 x0, .int .u64 x1, .int .u32 x2, .int .u8 x3, .int .u8 x4, .int .u8 x5, .int .u8 x6, x7, x8, .int .i32 x9, .int .i32 x10])) = none) := by
  unfold v122; split
  · exact .inl fun _ => rfl
  · exact .inr fun _ => rfl
@[simp] theorem v122_mk (x0 : Int) (x1 : Int) (x2 : Int) (x3 : Int) (x4 : Int) (x5 : Int) (x6 : Int) (x7 : PV) (x8 : PV) (x9 : Int) (x10 : Int) (K : Int → Int → Int → Int → Int → Int → Int → PV → PV → Int → Int → R) : v122 (.agg [.int .u64 x0, .int .u64 x1, .int .u32 x2, .int .u8 x3, .int .u8 x4, .int .u8 x5, .int .u8 x6, x7, x8, .int .i32 x9, .int .i32 x10]) K = K x0 x1 x2 x3 x4 x5 x6 x7 x8 x9 x10 := rfl
def VVp4 (t : TypeId) (p : PV) (K : PV → R) : R :=
  bsel (Nat.beq t 121) (vI .i32 p fun n1 => K (.int .i32 n1))
    (bsel (Nat.beq t 122) (v122 p fun n1 n2 n3 n4 n5 n6 n7 p8 p9 n10 n11 => K (.agg [.int .u64 n1, .int .u64 n2, .int .u32 n3, .int .u8 n4, .int .u8 n5, .int .u8 n6, .int .u8 n7, p8, p9, .int .i32 n10, .int .i32 n11]))
    (bsel (Nat.beq t 123) (v122 p fun n1 n2 n3 n4 n5 n6 n7 p8 p9 n10 n11 => K (.agg [.int .u64 n1, .int .u64 n2, .int .u32 n3, .int .u8 n4, .int .u8 n5, .int .u8 n6, .int .u8 n7, p8, p9, .int .i32 n10, .int .i32 n11]))
    (K p)))
theorem VVp4_ok (t : TypeId) (p : PV) : (∀ K : PV → R, VVp4 t p K = K p) ∨ (∀ K : PV → R, VVp4 t p K = none) :=
  view_bsel (vI_ok .i32 p) (view_bsel (v122_ok p) (view_bsel (v122_ok p) (.inl fun _ => rfl)))
def VVp3 (t : TypeId) (p : PV) (K : PV → R) : R :=
  bsel (Nat.beq t 89) (v88 p fun p1 p2 => K (.agg [p1, p2]))
    (bsel (Nat.beq t 93) (vI .u64 p fun n1 => K (.int .u64 n1))
    (bsel (Nat.beq t 104) (vI .u32 p fun n1 => K (.int .u32 n1))
    (bsel (Nat.beq t 107) (vI .u64 p fun n1 => K (.int .u64 n1))
    (bsel (Nat.beq t 112) (v112 p fun p1 p2 p3 s4 => K (.agg [p1, p2, p3, .str s4]))
    (bsel (Nat.beq t 113) (v112 p fun p1 p2 p3 s4 => K (.agg [p1, p2, p3, .str s4]))
    (bsel (Nat.beq t 114) (v114 p (K (.agg [])))
    (bsel (Nat.beq t 115) (v115 p (K (.agg [])))
    (bsel (Nat.beq t 116) (v115 p (K (.agg [])))
    (bsel (Nat.beq t 117) (vI .u8 p fun n1 => K (.int .u8 n1))
    (bsel (Nat.beq t 118) (vI .u8 p fun n1 => K (.int .u8 n1))
    (bsel (Nat.beq t 120) (vI .i32 p fun n1 => K (.int .i32 n1))
    (VVp4 t p K))))))))))))
theorem VVp3_ok (t : TypeId) (p : PV) : (∀ K : PV → R, VVp3 t p K = K p) ∨ (∀ K : PV → R, VVp3 t p K = none) :=
  view_bsel (v88_ok p) (view_bsel (vI_ok .u64 p) (view_bsel (vI_ok .u32 p) (view_bsel (vI_ok .u64 p) (view_bsel (v112_ok p) (view_bsel (v112_ok p) (view_bsel (v114_ok p) (view_bsel (v115_ok p) (view_bsel (v115_ok p) (view_bsel (vI_ok .u8 p) (view_bsel (vI_ok .u8 p) (view_bsel (vI_ok .i32 p) (VVp4_ok t p))))))))))))
def VVp2 (t : TypeId) (p : PV) (K : PV → R) : R :=
  bsel (Nat.beq t 41) (v40 p fun n1 s2 n3 n4 => K (.agg [.int .u8 n1, .str s2, .int .i8 n3, .int .i8 n4]))
    (bsel (Nat.beq t 46) (v46 p fun n1 s2 n3 n4 n5 b6 s7 n8 => K (.agg [.int .i64 n1, .str s2, .int .i64 n3, .int .i64 n4, .int .i64 n5, .bool b6, .str s7, .int .i64 n8]))
    (bsel (Nat.beq t 47) (v46 p fun n1 s2 n3 n4 n5 b6 s7 n8 => K (.agg [.int .i64 n1, .str s2, .int .i64 n3, .int .i64 n4, .int .i64 n5, .bool b6, .str s7, .int .i64 n8]))
    (bsel (Nat.beq t 50) (vL false 4 p fun l1 => K (.sl false 4 l1))
    (bsel (Nat.beq t 56) (v56 p fun l1 n2 n3 n4 n5 => K (.agg [.sl false 5 l1, .int .i64 n2, .int .i64 n3, .int .i64 n4, .int .i64 n5]))
    (bsel (Nat.beq t 57) (v56 p fun l1 n2 n3 n4 n5 => K (.agg [.sl false 5 l1, .int .i64 n2, .int .i64 n3, .int .i64 n4, .int .i64 n5]))
    (bsel (Nat.beq t 67) (v67 p fun p1 l2 => K (.agg [p1, .sl false 1 l2]))
    (bsel (Nat.beq t 68) (v67 p fun p1 l2 => K (.agg [p1, .sl false 1 l2]))
    (bsel (Nat.beq t 78) (v78 p fun l1 n2 n3 n4 => K (.agg [.sl false 5 l1, .int .i64 n2, .int .i64 n3, .int .i64 n4]))
    (bsel (Nat.beq t 79) (v78 p fun l1 n2 n3 n4 => K (.agg [.sl false 5 l1, .int .i64 n2, .int .i64 n3, .int .i64 n4]))
    (bsel (Nat.beq t 86) (vL false 2 p fun l1 => K (.sl false 2 l1))
    (bsel (Nat.beq t 88) (v88 p fun p1 p2 => K (.agg [p1, p2]))
    (VVp3 t p K))))))))))))
theorem VVp2_ok (t : TypeId) (p : PV) : (∀ K : PV → R, VVp2 t p K = K p) ∨ (∀ K : PV → R, VVp2 t p K = none) :=
  view_bsel (v40_ok p) (view_bsel (v46_ok p) (view_bsel (v46_ok p) (view_bsel (vL_ok false 4 p) (view_bsel (v56_ok p) (view_bsel (v56_ok p) (view_bsel (v67_ok p) (view_bsel (v67_ok p) (view_bsel (v78_ok p) (view_bsel (v78_ok p) (view_bsel (vL_ok false 2 p) (view_bsel (v88_ok p) (VVp3_ok t p))))))))))))
def VVp1 (t : TypeId) (p : PV) (K : PV → R) : R :=
  bsel (Nat.beq t 14) (v13 p fun s1 n2 => K (.agg [.str s1, .int .u64 n2]))
    (bsel (Nat.beq t 18) (v18 p fun p1 => K (.agg [p1]))
    (bsel (Nat.beq t 19) (v18 p fun p1 => K (.agg [p1]))
    (bsel (Nat.beq t 21) (vI .i32 p fun n1 => K (.int .i32 n1))
    (bsel (Nat.beq t 23) (vL false 1 p fun l1 => K (.sl false 1 l1))
    (bsel (Nat.beq t 24) (vL false 5 p fun l1 => K (.sl false 5 l1))
    (bsel (Nat.beq t 25) (vI .i64 p fun n1 => K (.int .i64 n1))
    (bsel (Nat.beq t 28) (vL false 1 p fun l1 => K (.sl false 1 l1))
    (bsel (Nat.beq t 29) (v29 p fun n1 s2 n3 n4 n5 => K (.agg [.int .i64 n1, .str s2, .int .i64 n3, .int .i64 n4, .int .i64 n5]))
    (bsel (Nat.beq t 30) (v29 p fun n1 s2 n3 n4 n5 => K (.agg [.int .i64 n1, .str s2, .int .i64 n3, .int .i64 n4, .int .i64 n5]))
    (bsel (Nat.beq t 39) (vI .i8 p fun n1 => K (.int .i8 n1))
    (bsel (Nat.beq t 40) (v40 p fun n1 s2 n3 n4 => K (.agg [.int .u8 n1, .str s2, .int .i8 n3, .int .i8 n4]))
    (VVp2 t p K))))))))))))
theorem VVp1_ok (t : TypeId) (p : PV) : (∀ K : PV → R, VVp1 t p K = K p) ∨ (∀ K : PV → R, VVp1 t p K = none) :=
  view_bsel (v13_ok p) (view_bsel (v18_ok p) (view_bsel (v18_ok p) (view_bsel (vI_ok .i32 p) (view_bsel (vL_ok false 1 p) (view_bsel (vL_ok false 5 p) (view_bsel (vI_ok .i64 p) (view_bsel (vL_ok false 1 p) (view_bsel (v29_ok p) (view_bsel (v29_ok p) (view_bsel (vI_ok .i8 p) (view_bsel (v40_ok p) (VVp2_ok t p))))))))))))
def VVp0 (t : TypeId) (p : PV) (K : PV → R) : R :=
  bsel (Nat.beq t 2) (vI .i64 p fun n1 => K (.int .i64 n1))
    (bsel (Nat.beq t 3) (vI .i64 p fun n1 => K (.int .i64 n1))
    (bsel (Nat.beq t 4) (vB p fun b1 => K (.bool b1))
    (bsel (Nat.beq t 5) (vI .u8 p fun n1 => K (.int .u8 n1))
    (bsel (Nat.beq t 6) (vI .u8 p fun n1 => K (.int .u8 n1))
    (bsel (Nat.beq t 7) (v7 p fun n1 n2 b3 n4 => K (.agg [.int .i64 n1, .int .i64 n2, .bool b3, .int .u8 n4]))
    (bsel (Nat.beq t 8) (v7 p fun n1 n2 b3 n4 => K (.agg [.int .i64 n1, .int .i64 n2, .bool b3, .int .u8 n4]))
    (bsel (Nat.beq t 9) (vS p fun s1 => K (.str s1))
    (bsel (Nat.beq t 10) (vS p fun s1 => K (.str s1))
    (bsel (Nat.beq t 11) (vS p fun s1 => K (.str s1))
    (bsel (Nat.beq t 12) (vI .u64 p fun n1 => K (.int .u64 n1))
    (bsel (Nat.beq t 13) (v13 p fun s1 n2 => K (.agg [.str s1, .int .u64 n2]))
    (VVp1 t p K))))))))))))
theorem VVp0_ok (t : TypeId) (p : PV) : (∀ K : PV → R, VVp0 t p K = K p) ∨ (∀ K : PV → R, VVp0 t p K = none) :=
  view_bsel (vI_ok .i64 p) (view_bsel (vI_ok .i64 p) (view_bsel (vB_ok p) (view_bsel (vI_ok .u8 p) (view_bsel (vI_ok .u8 p) (view_bsel (v7_ok p) (view_bsel (v7_ok p) (view_bsel (vS_ok p) (view_bsel (vS_ok p) (view_bsel (vS_ok p) (view_bsel (vI_ok .u64 p) (view_bsel (v13_ok p) (VVp1_ok t p))))))))))))
def VV : TypeId → PV → (PV → R) → R := VVp0
theorem VV_ok : viewOK VV := VVp0_ok
def w_24_3_3_3 (p : PV) (K : List PV → Int → Int → Int → R) : R := match p with | .tuple [.sl false 5 l1, .int .i64 n2, .int .i64 n3, .int .i64 n4] => K l1 n2 n3 n4 | _ => none
theorem w_24_3_3_3_ok (p : PV) (h : Objs) : (∀ K : PV → Objs → R, w_24_3_3_3 p (fun l1 n2 n3 n4 => K (.tuple [.sl false 5 l1, .int .i64 n2, .int .i64 n3, .int .i64 n4]) h) = K p h) ∨ (∀ K : PV → Objs → R, w_24_3_3_3 p (fun l1 n2 n3 n4 => K (.tuple [.sl false 5 l1, .int .i64 n2, .int .i64 n3, .int .i64 n4]) h) = none) := by
  unfold w_24_3_3_3; split
  · exact .inl fun _ => rfl
  · exact .inr fun _ => rfl
@[simp] theorem w_24_3_3_3_mk (l1 : List PV) (n2 : Int) (n3 : Int) (n4 : Int) (K : List PV → Int → Int → Int → R) : w_24_3_3_3 (.tuple [.sl false 5 l1, .int .i64 n2, .int .i64 n3, .int .i64 n4]) K = K l1 n2 n3 n4 := rfl
def w_3_3_3 (p : PV) (K : Int → Int → Int → R) : R := match p with | .tuple [.int .i64 n1, .int .i64 n2, .int .i64 n3] => K n1 n2 n3 | _ => none
theorem w_3_3_3_ok (p : PV) (h : Objs) : (∀ K : PV → Objs → R, w_3_3_3 p (fun n1 n2 n3 => K (.tuple [.int .i64 n1, .int .i64 n2, .int .i64 n3]) h) = K p h) ∨ (∀ K : PV → Objs → R, w_3_3_3 p (fun n1 n2 n3 => K (.tuple [.int .i64 n1, .int .i64 n2, .int .i64 n3]) h) = none) := by
  unfold w_3_3_3; split
  · exact .inl fun _ => rfl
  · exact .inr fun _ => rfl
@[simp] theorem w_3_3_3_mk (n1 : Int) (n2 : Int) (n3 : Int) (K : Int → Int → Int → R) : w_3_3_3 (.tuple [.int .i64 n1, .int .i64 n2, .int .i64 n3]) K = K n1 n2 n3 := rfl
def h22_0 (p : PV) (h : Objs) (K : List PV → Int → Int → Int → ByteArray → Int → R) : R := match p, h with | .tuple [], [some [.sl false 5 l1, .int .i64 n2, .int .i64 n3, .int .i64 n4], some [.str s5], some [.ptr 0 0], some [.int .i64 n6]] => K l1 n2 n3 n4 s5 n6 | _, _ => none
theorem h22_0_ok (p : PV) (h : Objs) : (∀ K : PV → Objs → R, h22_0 p h (fun l1 n2 n3 n4 s5 n6 => K (.tuple []) [some [.sl false 5 l1, .int .i64 n2, .int .i64 n3, .int .i64 n4], some [.str s5], some [.ptr 0 0], some [.int .i64 n6]]) = K p h) ∨ (∀ K : PV → Objs → R, h22_0 p h (fun l1 n2 n3 n4 s5 n6 => K (.tuple []) [some [.sl false 5 l1, .int .i64 n2, .int .i64 n3, .int .i64 n4], some [.str s5], some [.ptr 0 0], some [.int .i64 n6]]) = none) := by
  unfold h22_0; split
  · exact .inl fun _ => rfl
  · exact .inr fun _ => rfl
@[simp] theorem h22_0_mk (l1 : List PV) (n2 : Int) (n3 : Int) (n4 : Int) (s5 : ByteArray) (n6 : Int) (K : List PV → Int → Int → Int → ByteArray → Int → R) : h22_0 (.tuple []) [some [.sl false 5 l1, .int .i64 n2, .int .i64 n3, .int .i64 n4], some [.str s5], some [.ptr 0 0], some [.int .i64 n6]] K = K l1 n2 n3 n4 s5 n6 := rfl
def h24_0 (p : PV) (h : Objs) (K : Int → Int → Int → List PV → Int → Int → Int → R) : R := match p, h with | .tuple [.int .i64 n1, .int .i64 n2, .int .i64 n3], [some [.sl false 5 l4, .int .i64 n5, .int .i64 n6, .int .i64 n7]] => K n1 n2 n3 l4 n5 n6 n7 | _, _ => none
theorem h24_0_ok (p : PV) (h : Objs) : (∀ K : PV → Objs → R, h24_0 p h (fun n1 n2 n3 l4 n5 n6 n7 => K (.tuple [.int .i64 n1, .int .i64 n2, .int .i64 n3]) [some [.sl false 5 l4, .int .i64 n5, .int .i64 n6, .int .i64 n7]]) = K p h) ∨ (∀ K : PV → Objs → R, h24_0 p h (fun n1 n2 n3 l4 n5 n6 n7 => K (.tuple [.int .i64 n1, .int .i64 n2, .int .i64 n3]) [some [.sl false 5 l4, .int .i64 n5, .int .i64 n6, .int .i64 n7]]) = none) := by
  unfold h24_0; split
  · exact .inl fun _ => rfl
  · exact .inr fun _ => rfl
@[simp] theorem h24_0_mk (n1 : Int) (n2 : Int) (n3 : Int) (l4 : List PV) (n5 : Int) (n6 : Int) (n7 : Int) (K : Int → Int → Int → List PV → Int → Int → Int → R) : h24_0 (.tuple [.int .i64 n1, .int .i64 n2, .int .i64 n3]) [some [.sl false 5 l4, .int .i64 n5, .int .i64 n6, .int .i64 n7]] K = K n1 n2 n3 l4 n5 n6 n7 := rfl
def h25_0 (p : PV) (h : Objs) (K : Int → ByteArray → Int → Int → Int → Bool → ByteArray → Int → List PV → Int → Int → Int → R) : R := match p, h with | .agg [.int .i64 n1, .str s2, .int .i64 n3, .int .i64 n4, .int .i64 n5, .bool b6, .str s7, .int .i64 n8], [some [.sl false 5 l9, .int .i64 n10, .int .i64 n11, .int .i64 n12]] => K n1 s2 n3 n4 n5 b6 s7 n8 l9 n10 n11 n12 | _, _ => none
theorem h25_0_ok (p : PV) (h : Objs) : (∀ K : PV → Objs → R, h25_0 p h (fun n1 s2 n3 n4 n5 b6 s7 n8 l9 n10 n11 n12 => K (.agg [.int .i64 n1, .str s2, .int .i64 n3, .int .i64 n4, .int .i64 n5, .bool b6, .str s7, .int .i64 n8]) [some [.sl false 5 l9, .int .i64 n10, .int .i64 n11, .int .i64 n12]]) = K p h) ∨ (∀ K : PV → Objs → R, h25_0 p h (fun n1 s2 n3 n4 n5 b6 s7 n8 l9 n10 n11 n12 => K (.agg [.int .i64 n1, .str s2, .int .i64 n3, .int .i64 n4, .int .i64 n5, .bool b6, .str s7, .int .i64 n8]) [some [.sl false 5 l9, .int .i64 n10, .int .i64 n11, .int .i64 n12]]) = none) := by
  unfold h25_0; split
  · exact .inl fun _ => rfl
  · exact .inr fun _ => rfl
@[simp] theorem h25_0_mk (n1 : Int) (s2 : ByteArray) (n3 : Int) (n4 : Int) (n5 : Int) (b6 : Bool) (s7 : ByteArray) (n8 : Int) (l9 : List PV) (n10 : Int) (n11 : Int) (n12 : Int) (K : Int → ByteArray → Int → Int → Int → Bool → ByteArray → Int → List PV → Int → Int → Int → R) : h25_0 (.agg [.int .i64 n1, .str s2, .int .i64 n3, .int .i64 n4, .int .i64 n5, .bool b6, .str s7, .int .i64 n8]) [some [.sl false 5 l9, .int .i64 n10, .int .i64 n11, .int .i64 n12]] K = K n1 s2 n3 n4 n5 b6 s7 n8 l9 n10 n11 n12 := rfl
def h26_0 (p : PV) (h : Objs) (K : List PV → Int → Int → Int → R) : R := match p, h with | .ptr 0 0, [some [.sl false 5 l1, .int .i64 n2, .int .i64 n3, .int .i64 n4]] => K l1 n2 n3 n4 | _, _ => none
theorem h26_0_ok (p : PV) (h : Objs) : (∀ K : PV → Objs → R, h26_0 p h (fun l1 n2 n3 n4 => K (.ptr 0 0) [some [.sl false 5 l1, .int .i64 n2, .int .i64 n3, .int .i64 n4]]) = K p h) ∨ (∀ K : PV → Objs → R, h26_0 p h (fun l1 n2 n3 n4 => K (.ptr 0 0) [some [.sl false 5 l1, .int .i64 n2, .int .i64 n3, .int .i64 n4]]) = none) := by
  unfold h26_0; split
  · exact .inl fun _ => rfl
  · exact .inr fun _ => rfl
@[simp] theorem h26_0_mk (l1 : List PV) (n2 : Int) (n3 : Int) (n4 : Int) (K : List PV → Int → Int → Int → R) : h26_0 (.ptr 0 0) [some [.sl false 5 l1, .int .i64 n2, .int .i64 n3, .int .i64 n4]] K = K l1 n2 n3 n4 := rfl
def h27_0 (p : PV) (h : Objs) (K : List PV → Int → Int → Int → Int → R) : R := match p, h with | .ptr 0 0, [some [.sl false 5 l1, .int .i64 n2, .int .i64 n3, .int .i64 n4, .int .i64 n5]] => K l1 n2 n3 n4 n5 | _, _ => none
theorem h27_0_ok (p : PV) (h : Objs) : (∀ K : PV → Objs → R, h27_0 p h (fun l1 n2 n3 n4 n5 => K (.ptr 0 0) [some [.sl false 5 l1, .int .i64 n2, .int .i64 n3, .int .i64 n4, .int .i64 n5]]) = K p h) ∨ (∀ K : PV → Objs → R, h27_0 p h (fun l1 n2 n3 n4 n5 => K (.ptr 0 0) [some [.sl false 5 l1, .int .i64 n2, .int .i64 n3, .int .i64 n4, .int .i64 n5]]) = none) := by
  unfold h27_0; split
  · exact .inl fun _ => rfl
  · exact .inr fun _ => rfl
@[simp] theorem h27_0_mk (l1 : List PV) (n2 : Int) (n3 : Int) (n4 : Int) (n5 : Int) (K : List PV → Int → Int → Int → Int → R) : h27_0 (.ptr 0 0) [some [.sl false 5 l1, .int .i64 n2, .int .i64 n3, .int .i64 n4, .int .i64 n5]] K = K l1 n2 n3 n4 n5 := rfl
def h28_0 (p : PV) (h : Objs) (K : Int → ByteArray → Int → Int → Int → Bool → ByteArray → Int → List PV → Int → Int → Int → Int → R) : R := match p, h with | .agg [.int .i64 n1, .str s2, .int .i64 n3, .int .i64 n4, .int .i64 n5, .bool b6, .str s7, .int .i64 n8], [some [.sl false 5 l9, .int .i64 n10, .int .i64 n11, .int .i64 n12, .int .i64 n13]] => K n1 s2 n3 n4 n5 b6 s7 n8 l9 n10 n11 n12 n13 | _, _ => none
theorem h28_0_ok (p : PV) (h : Objs) : (∀ K : PV → Objs → R, h28_0 p h (fun n1 s2 n3 n4 n5 b6 s7 n8 l9 n10 n11 n12 n13 => K (.agg [.int .i64 n1, .str s2, .int .i64 n3, .int .i64 n4, .int .i64 n5, .bool b6, .str s7, .int .i64 n8]) [some [.sl false 5 l9, .int .i64 n10, .int .i64 n11, .int .i64 n12, .int .i64 n13]]) = K p h) ∨ (∀ K : PV → Objs → R, h28_0 p h (fun n1 s2 n3 n4 n5 b6 s7 n8 l9 n10 n11 n12 n13 => K (.agg [.int .i64 n1, .str s2, .int .i64 n3, .int .i64 n4, .int .i64 n5, .bool b6, .str s7, .int .i64 n8]) [some [.sl false 5 l9, .int .i64 n10, .int .i64 n11, .int .i64 n12, .int .i64 n13]]) = none) := by
  unfold h28_0; split
  · exact .inl fun _ => rfl
  · exact .inr fun _ => rfl
@[simp] theorem h28_0_mk (n1 : Int) (s2 : ByteArray) (n3 : Int) (n4 : Int) (n5 : Int) (b6 : Bool) (s7 : ByteArray) (n8 : Int) (l9 : List PV) (n10 : Int) (n11 : Int) (n12 : Int) (n13 : Int) (K : Int → ByteArray → Int → Int → Int → Bool → ByteArray → Int → List PV → Int → Int → Int → Int → R) : h28_0 (.agg [.int .i64 n1, .str s2, .int .i64 n3, .int .i64 n4, .int .i64 n5, .bool b6, .str s7, .int .i64 n8]) [some [.sl false 5 l9, .int .i64 n10, .int .i64 n11, .int .i64 n12, .int .i64 n13]] K = K n1 s2 n3 n4 n5 b6 s7 n8 l9 n10 n11 n12 n13 := rfl
def h29_0 (p : PV) (h : Objs) (K : Int → ByteArray → Int → Int → Int → List PV → Int → Int → Int → R) : R := match p, h with | .agg [.int .i64 n1, .str s2, .int .i64 n3, .int .i64 n4, .int .i64 n5], [some [.sl false 5 l6, .int .i64 n7, .int .i64 n8, .int .i64 n9]] => K n1 s2 n3 n4 n5 l6 n7 n8 n9 | _, _ => none
theorem h29_0_ok (p : PV) (h : Objs) : (∀ K : PV → Objs → R, h29_0 p h (fun n1 s2 n3 n4 n5 l6 n7 n8 n9 => K (.agg [.int .i64 n1, .str s2, .int .i64 n3, .int .i64 n4, .int .i64 n5]) [some [.sl false 5 l6, .int .i64 n7, .int .i64 n8, .int .i64 n9]]) = K p h) ∨ (∀ K : PV → Objs → R, h29_0 p h (fun n1 s2 n3 n4 n5 l6 n7 n8 n9 => K (.agg [.int .i64 n1, .str s2, .int .i64 n3, .int .i64 n4, .int .i64 n5]) [some [.sl false 5 l6, .int .i64 n7, .int .i64 n8, .int .i64 n9]]) = none) := by
  unfold h29_0; split
  · exact .inl fun _ => rfl
  · exact .inr fun _ => rfl
@[simp] theorem h29_0_mk (n1 : Int) (s2 : ByteArray) (n3 : Int) (n4 : Int) (n5 : Int) (l6 : List PV) (n7 : Int) (n8 : Int) (n9 : Int) (K : Int → ByteArray → Int → Int → Int → List PV → Int → Int → Int → R) : h29_0 (.agg [.int .i64 n1, .str s2, .int .i64 n3, .int .i64 n4, .int .i64 n5]) [some [.sl false 5 l6, .int .i64 n7, .int .i64 n8, .int .i64 n9]] K = K n1 s2 n3 n4 n5 l6 n7 n8 n9 := rfl
def h30_0 (p : PV) (h : Objs) (K : Int → ByteArray → Int → Int → Int → List PV → Int → Int → Int → Int → R) : R := match p, h with | .agg [.int .i64 n1, .str s2, .int .i64 n3, .int .i64 n4, .int .i64 n5], [some [.sl false 5 l6, .int .i64 n7, .int .i64 n8, .int .i64 n9, .int .i64 n10]] => K n1 s2 n3 n4 n5 l6 n7 n8 n9 n10 | _, _ => none
theorem h30_0_ok (p : PV) (h : Objs) : (∀ K : PV → Objs → R, h30_0 p h (fun n1 s2 n3 n4 n5 l6 n7 n8 n9 n10 => K (.agg [.int .i64 n1, .str s2, .int .i64 n3, .int .i64 n4, .int .i64 n5]) [some [.sl false 5 l6, .int .i64 n7, .int .i64 n8, .int .i64 n9, .int .i64 n10]]) = K p h) ∨ (∀ K : PV → Objs → R, h30_0 p h (fun n1 s2 n3 n4 n5 l6 n7 n8 n9 n10 => K (.agg [.int .i64 n1, .str s2, .int .i64 n3, .int .i64 n4, .int .i64 n5]) [some [.sl false 5 l6, .int .i64 n7, .int .i64 n8, .int .i64 n9, .int .i64 n10]]) = none) := by
  unfold h30_0; split
  · exact .inl fun _ => rfl
  · exact .inr fun _ => rfl
@[simp] theorem h30_0_mk (n1 : Int) (s2 : ByteArray) (n3 : Int) (n4 : Int) (n5 : Int) (l6 : List PV) (n7 : Int) (n8 : Int) (n9 : Int) (n10 : Int) (K : Int → ByteArray → Int → Int → Int → List PV → Int → Int → Int → Int → R) : h30_0 (.agg [.int .i64 n1, .str s2, .int .i64 n3, .int .i64 n4, .int .i64 n5]) [some [.sl false 5 l6, .int .i64 n7, .int .i64 n8, .int .i64 n9, .int .i64 n10]] K = K n1 s2 n3 n4 n5 l6 n7 n8 n9 n10 := rfl
def h43_0 (p : PV) (h : Objs) (K : Bool → List PV → Int → Int → Int → R) : R := match p, h with | .bool b1, [some [.sl false 5 l2, .int .i64 n3, .int .i64 n4, .int .i64 n5]] => K b1 l2 n3 n4 n5 | _, _ => none
theorem h43_0_ok (p : PV) (h : Objs) : (∀ K : PV → Objs → R, h43_0 p h (fun b1 l2 n3 n4 n5 => K (.bool b1) [some [.sl false 5 l2, .int .i64 n3, .int .i64 n4, .int .i64 n5]]) = K p h) ∨ (∀ K : PV → Objs → R, h43_0 p h (fun b1 l2 n3 n4 n5 => K (.bool b1) [some [.sl false 5 l2, .int .i64 n3, .int .i64 n4, .int .i64 n5]]) = none) := by
  unfold h43_0; split
  · exact .inl fun _ => rfl
  · exact .inr fun _ => rfl
@[simp] theorem h43_0_mk (b1 : Bool) (l2 : List PV) (n3 : Int) (n4 : Int) (n5 : Int) (K : Bool → List PV → Int → Int → Int → R) : h43_0 (.bool b1) [some [.sl false 5 l2, .int .i64 n3, .int .i64 n4, .int .i64 n5]] K = K b1 l2 n3 n4 n5 := rfl
def h44_0 (p : PV) (h : Objs) (K : Int → ByteArray → Int → Int → Int → List PV → Int → Int → Int → R) : R := match p, h with | .agg [.int .i64 n1, .str s2, .int .i64 n3, .int .i64 n4, .int .i64 n5], [some [.sl false 5 l6, .int .i64 n7, .int .i64 n8, .int .i64 n9]] => K n1 s2 n3 n4 n5 l6 n7 n8 n9 | _, _ => none
theorem h44_0_ok (p : PV) (h : Objs) : (∀ K : PV → Objs → R, h44_0 p h (fun n1 s2 n3 n4 n5 l6 n7 n8 n9 => K (.agg [.int .i64 n1, .str s2, .int .i64 n3, .int .i64 n4, .int .i64 n5]) [some [.sl false 5 l6, .int .i64 n7, .int .i64 n8, .int .i64 n9]]) = K p h) ∨ (∀ K : PV → Objs → R, h44_0 p h (fun n1 s2 n3 n4 n5 l6 n7 n8 n9 => K (.agg [.int .i64 n1, .str s2, .int .i64 n3, .int .i64 n4, .int .i64 n5]) [some [.sl false 5 l6, .int .i64 n7, .int .i64 n8, .int .i64 n9]]) = none) := by
  unfold h44_0; split
  · exact .inl fun _ => rfl
  · exact .inr fun _ => rfl
@[simp] theorem h44_0_mk (n1 : Int) (s2 : ByteArray) (n3 : Int) (n4 : Int) (n5 : Int) (l6 : List PV) (n7 : Int) (n8 : Int) (n9 : Int) (K : Int → ByteArray → Int → Int → Int → List PV → Int → Int → Int → R) : h44_0 (.agg [.int .i64 n1, .str s2, .int .i64 n3, .int .i64 n4, .int .i64 n5]) [some [.sl false 5 l6, .int .i64 n7, .int .i64 n8, .int .i64 n9]] K = K n1 s2 n3 n4 n5 l6 n7 n8 n9 := rfl
def h45_0 (p : PV) (h : Objs) (K : Bool → List PV → Int → Int → Int → R) : R := match p, h with | .bool b1, [some [.sl false 5 l2, .int .i64 n3, .int .i64 n4, .int .i64 n5]] => K b1 l2 n3 n4 n5 | _, _ => none
theorem h45_0_ok (p : PV) (h : Objs) : (∀ K : PV → Objs → R, h45_0 p h (fun b1 l2 n3 n4 n5 => K (.bool b1) [some [.sl false 5 l2, .int .i64 n3, .int .i64 n4, .int .i64 n5]]) = K p h) ∨ (∀ K : PV → Objs → R, h45_0 p h (fun b1 l2 n3 n4 n5 => K (.bool b1) [some [.sl false 5 l2, .int .i64 n3, .int .i64 n4, .int .i64 n5]]) = none) := by
  unfold h45_0; split
  · exact .inl fun _ => rfl
  · exact .inr fun _ => rfl
@[simp] theorem h45_0_mk (b1 : Bool) (l2 : List PV) (n3 : Int) (n4 : Int) (n5 : Int) (K : Bool → List PV → Int → Int → Int → R) : h45_0 (.bool b1) [some [.sl false 5 l2, .int .i64 n3, .int .i64 n4, .int .i64 n5]] K = K b1 l2 n3 n4 n5 := rfl
def h46_0 (p : PV) (h : Objs) (K : List PV → Int → Int → Int → R) : R := match p, h with | .tuple [], [some [.sl false 5 l1, .int .i64 n2, .int .i64 n3, .int .i64 n4]] => K l1 n2 n3 n4 | _, _ => none
theorem h46_0_ok (p : PV) (h : Objs) : (∀ K : PV → Objs → R, h46_0 p h (fun l1 n2 n3 n4 => K (.tuple []) [some [.sl false 5 l1, .int .i64 n2, .int .i64 n3, .int .i64 n4]]) = K p h) ∨ (∀ K : PV → Objs → R, h46_0 p h (fun l1 n2 n3 n4 => K (.tuple []) [some [.sl false 5 l1, .int .i64 n2, .int .i64 n3, .int .i64 n4]]) = none) := by
  unfold h46_0; split
  · exact .inl fun _ => rfl
  · exact .inr fun _ => rfl
@[simp] theorem h46_0_mk (l1 : List PV) (n2 : Int) (n3 : Int) (n4 : Int) (K : List PV → Int → Int → Int → R) : h46_0 (.tuple []) [some [.sl false 5 l1, .int .i64 n2, .int .i64 n3, .int .i64 n4]] K = K l1 n2 n3 n4 := rfl
def h47_0 (p : PV) (h : Objs) (K : ByteArray → List PV → Int → Int → Int → R) : R := match p, h with | .str s1, [some [.sl false 5 l2, .int .i64 n3, .int .i64 n4, .int .i64 n5]] => K s1 l2 n3 n4 n5 | _, _ => none
theorem h47_0_ok (p : PV) (h : Objs) : (∀ K : PV → Objs → R, h47_0 p h (fun s1 l2 n3 n4 n5 => K (.str s1) [some [.sl false 5 l2, .int .i64 n3, .int .i64 n4, .int .i64 n5]]) = K p h) ∨ (∀ K : PV → Objs → R, h47_0 p h (fun s1 l2 n3 n4 n5 => K (.str s1) [some [.sl false 5 l2, .int .i64 n3, .int .i64 n4, .int .i64 n5]]) = none) := by
  unfold h47_0; split
  · exact .inl fun _ => rfl
  · exact .inr fun _ => rfl
@[simp] theorem h47_0_mk (s1 : ByteArray) (l2 : List PV) (n3 : Int) (n4 : Int) (n5 : Int) (K : ByteArray → List PV → Int → Int → Int → R) : h47_0 (.str s1) [some [.sl false 5 l2, .int .i64 n3, .int .i64 n4, .int .i64 n5]] K = K s1 l2 n3 n4 n5 := rfl
def h48_0 (p : PV) (h : Objs) (K : Int → List PV → Int → Int → Int → R) : R := match p, h with | .int .i64 n1, [some [.sl false 5 l2, .int .i64 n3, .int .i64 n4, .int .i64 n5]] => K n1 l2 n3 n4 n5 | _, _ => none
theorem h48_0_ok (p : PV) (h : Objs) : (∀ K : PV → Objs → R, h48_0 p h (fun n1 l2 n3 n4 n5 => K (.int .i64 n1) [some [.sl false 5 l2, .int .i64 n3, .int .i64 n4, .int .i64 n5]]) = K p h) ∨ (∀ K : PV → Objs → R, h48_0 p h (fun n1 l2 n3 n4 n5 => K (.int .i64 n1) [some [.sl false 5 l2, .int .i64 n3, .int .i64 n4, .int .i64 n5]]) = none) := by
  unfold h48_0; split
  · exact .inl fun _ => rfl
  · exact .inr fun _ => rfl
@[simp] theorem h48_0_mk (n1 : Int) (l2 : List PV) (n3 : Int) (n4 : Int) (n5 : Int) (K : Int → List PV → Int → Int → Int → R) : h48_0 (.int .i64 n1) [some [.sl false 5 l2, .int .i64 n3, .int .i64 n4, .int .i64 n5]] K = K n1 l2 n3 n4 n5 := rfl
def h49_0 (p : PV) (h : Objs) (K : List PV → Int → Int → Int → R) : R := match p, h with | .tuple [], [some [.sl false 5 l1, .int .i64 n2, .int .i64 n3, .int .i64 n4]] => K l1 n2 n3 n4 | _, _ => none
theorem h49_0_ok (p : PV) (h : Objs) : (∀ K : PV → Objs → R, h49_0 p h (fun l1 n2 n3 n4 => K (.tuple []) [some [.sl false 5 l1, .int .i64 n2, .int .i64 n3, .int .i64 n4]]) = K p h) ∨ (∀ K : PV → Objs → R, h49_0 p h (fun l1 n2 n3 n4 => K (.tuple []) [some [.sl false 5 l1, .int .i64 n2, .int .i64 n3, .int .i64 n4]]) = none) := by
  unfold h49_0; split
  · exact .inl fun _ => rfl
  · exact .inr fun _ => rfl
@[simp] theorem h49_0_mk (l1 : List PV) (n2 : Int) (n3 : Int) (n4 : Int) (K : List PV → Int → Int → Int → R) : h49_0 (.tuple []) [some [.sl false 5 l1, .int .i64 n2, .int .i64 n3, .int .i64 n4]] K = K l1 n2 n3 n4 := rfl
def h50_0 (p : PV) (h : Objs) (K : List PV → Int → Int → Int → R) : R := match p, h with | .tuple [], [some [.sl false 5 l1, .int .i64 n2, .int .i64 n3, .int .i64 n4]] => K l1 n2 n3 n4 | _, _ => none
theorem h50_0_ok (p : PV) (h : Objs) : (∀ K : PV → Objs → R, h50_0 p h (fun l1 n2 n3 n4 => K (.tuple []) [some [.sl false 5 l1, .int .i64 n2, .int .i64 n3, .int .i64 n4]]) = K p h) ∨ (∀ K : PV → Objs → R, h50_0 p h (fun l1 n2 n3 n4 => K (.tuple []) [some [.sl false 5 l1, .int .i64 n2, .int .i64 n3, .int .i64 n4]]) = none) := by
  unfold h50_0; split
  · exact .inl fun _ => rfl
  · exact .inr fun _ => rfl
@[simp] theorem h50_0_mk (l1 : List PV) (n2 : Int) (n3 : Int) (n4 : Int) (K : List PV → Int → Int → Int → R) : h50_0 (.tuple []) [some [.sl false 5 l1, .int .i64 n2, .int .i64 n3, .int .i64 n4]] K = K l1 n2 n3 n4 := rfl
def h51_0 (p : PV) (h : Objs) (K : ByteArray → Int → List PV → Int → Int → Int → R) : R := match p, h with | .tuple [], [some [.str s1], some [.ptr 3 0], some [.int .i64 n2], some [.sl false 5 l3, .int .i64 n4, .int .i64 n5, .int .i64 n6]] => K s1 n2 l3 n4 n5 n6 | _, _ => none
theorem h51_0_ok (p : PV) (h : Objs) : (∀ K : PV → Objs → R, h51_0 p h (fun s1 n2 l3 n4 n5 n6 => K (.tuple []) [some [.str s1], some [.ptr 3 0], some [.int .i64 n2], some [.sl false 5 l3, .int .i64 n4, .int .i64 n5, .int .i64 n6]]) = K p h) ∨ (∀ K : PV → Objs → R, h51_0 p h (fun s1 n2 l3 n4 n5 n6 => K (.tuple []) [some [.str s1], some [.ptr 3 0], some [.int .i64 n2], some [.sl false 5 l3, .int .i64 n4, .int .i64 n5, .int .i64 n6]]) = none) := by
  unfold h51_0; split
  · exact .inl fun _ => rfl
  · exact .inr fun _ => rfl
@[simp] theorem h51_0_mk (s1 : ByteArray) (n2 : Int) (l3 : List PV) (n4 : Int) (n5 : Int) (n6 : Int) (K : ByteArray → Int → List PV → Int → Int → Int → R) : h51_0 (.tuple []) [some [.str s1], some [.ptr 3 0], some [.int .i64 n2], some [.sl false 5 l3, .int .i64 n4, .int .i64 n5, .int .i64 n6]] K = K s1 n2 l3 n4 n5 n6 := rfl
def h52_0 (p : PV) (h : Objs) (K : Int → ByteArray → Int → Int → Int → List PV → Int → Int → Int → Int → R) : R := match p, h with | .agg [.int .i64 n1, .str s2, .int .i64 n3, .int .i64 n4, .int .i64 n5], [some [.sl false 5 l6, .int .i64 n7, .int .i64 n8, .int .i64 n9, .int .i64 n10]] => K n1 s2 n3 n4 n5 l6 n7 n8 n9 n10 | _, _ => none
theorem h52_0_ok (p : PV) (h : Objs) : (∀ K : PV → Objs → R, h52_0 p h (fun n1 s2 n3 n4 n5 l6 n7 n8 n9 n10 => K (.agg [.int .i64 n1, .str s2, .int .i64 n3, .int .i64 n4, .int .i64 n5]) [some [.sl false 5 l6, .int .i64 n7, .int .i64 n8, .int .i64 n9, .int .i64 n10]]) = K p h) ∨ (∀ K : PV → Objs → R, h52_0 p h (fun n1 s2 n3 n4 n5 l6 n7 n8 n9 n10 => K (.agg [.int .i64 n1, .str s2, .int .i64 n3, .int .i64 n4, .int .i64 n5]) [some [.sl false 5 l6, .int .i64 n7, .int .i64 n8, .int .i64 n9, .int .i64 n10]]) = none) := by
  unfold h52_0; split
  · exact .inl fun _ => rfl
  · exact .inr fun _ => rfl
@[simp] theorem h52_0_mk (n1 : Int) (s2 : ByteArray) (n3 : Int) (n4 : Int) (n5 : Int) (l6 : List PV) (n7 : Int) (n8 : Int) (n9 : Int) (n10 : Int) (K : Int → ByteArray → Int → Int → Int → List PV → Int → Int → Int → Int → R) : h52_0 (.agg [.int .i64 n1, .str s2, .int .i64 n3, .int .i64 n4, .int .i64 n5]) [some [.sl false 5 l6, .int .i64 n7, .int .i64 n8, .int .i64 n9, .int .i64 n10]] K = K n1 s2 n3 n4 n5 l6 n7 n8 n9 n10 := rfl
def h53_0 (p : PV) (h : Objs) (K : Bool → List PV → Int → Int → Int → Int → R) : R := match p, h with | .bool b1, [some [.sl false 5 l2, .int .i64 n3, .int .i64 n4, .int .i64 n5, .int .i64 n6]] => K b1 l2 n3 n4 n5 n6 | _, _ => none
theorem h53_0_ok (p : PV) (h : Objs) : (∀ K : PV → Objs → R, h53_0 p h (fun b1 l2 n3 n4 n5 n6 => K (.bool b1) [some [.sl false 5 l2, .int .i64 n3, .int .i64 n4, .int .i64 n5, .int .i64 n6]]) = K p h) ∨ (∀ K : PV → Objs → R, h53_0 p h (fun b1 l2 n3 n4 n5 n6 => K (.bool b1) [some [.sl false 5 l2, .int .i64 n3, .int .i64 n4, .int .i64 n5, .int .i64 n6]]) = none) := by
  unfold h53_0; split
  · exact .inl fun _ => rfl
  · exact .inr fun _ => rfl
@[simp] theorem h53_0_mk (b1 : Bool) (l2 : List PV) (n3 : Int) (n4 : Int) (n5 : Int) (n6 : Int) (K : Bool → List PV → Int → Int → Int → Int → R) : h53_0 (.bool b1) [some [.sl false 5 l2, .int .i64 n3, .int .i64 n4, .int .i64 n5, .int .i64 n6]] K = K b1 l2 n3 n4 n5 n6 := rfl
def h54_0 (p : PV) (h : Objs) (K : Bool → List PV → Int → Int → Int → Int → R) : R := match p, h with | .bool b1, [some [.sl false 5 l2, .int .i64 n3, .int .i64 n4, .int .i64 n5, .int .i64 n6]] => K b1 l2 n3 n4 n5 n6 | _, _ => none
theorem h54_0_ok (p : PV) (h : Objs) : (∀ K : PV → Objs → R, h54_0 p h (fun b1 l2 n3 n4 n5 n6 => K (.bool b1) [some [.sl false 5 l2, .int .i64 n3, .int .i64 n4, .int .i64 n5, .int .i64 n6]]) = K p h) ∨ (∀ K : PV → Objs → R, h54_0 p h (fun b1 l2 n3 n4 n5 n6 => K (.bool b1) [some [.sl false 5 l2, .int .i64 n3, .int .i64 n4, .int .i64 n5, .int .i64 n6]]) = none) := by
  unfold h54_0; split
  · exact .inl fun _ => rfl
  · exact .inr fun _ => rfl
@[simp] theorem h54_0_mk (b1 : Bool) (l2 : List PV) (n3 : Int) (n4 : Int) (n5 : Int) (n6 : Int) (K : Bool → List PV → Int → Int → Int → Int → R) : h54_0 (.bool b1) [some [.sl false 5 l2, .int .i64 n3, .int .i64 n4, .int .i64 n5, .int .i64 n6]] K = K b1 l2 n3 n4 n5 n6 := rfl
def h55_0 (p : PV) (h : Objs) (K : List PV → Int → Int → Int → Int → R) : R := match p, h with | .tuple [], [some [.sl false 5 l1, .int .i64 n2, .int .i64 n3, .int .i64 n4, .int .i64 n5]] => K l1 n2 n3 n4 n5 | _, _ => none
theorem h55_0_ok (p : PV) (h : Objs) : (∀ K : PV → Objs → R, h55_0 p h (fun l1 n2 n3 n4 n5 => K (.tuple []) [some [.sl false 5 l1, .int .i64 n2, .int .i64 n3, .int .i64 n4, .int .i64 n5]]) = K p h) ∨ (∀ K : PV → Objs → R, h55_0 p h (fun l1 n2 n3 n4 n5 => K (.tuple []) [some [.sl false 5 l1, .int .i64 n2, .int .i64 n3, .int .i64 n4, .int .i64 n5]]) = none) := by
  unfold h55_0; split
  · exact .inl fun _ => rfl
  · exact .inr fun _ => rfl
@[simp] theorem h55_0_mk (l1 : List PV) (n2 : Int) (n3 : Int) (n4 : Int) (n5 : Int) (K : List PV → Int → Int → Int → Int → R) : h55_0 (.tuple []) [some [.sl false 5 l1, .int .i64 n2, .int .i64 n3, .int .i64 n4, .int .i64 n5]] K = K l1 n2 n3 n4 n5 := rfl
def h56_0 (p : PV) (h : Objs) (K : ByteArray → List PV → Int → Int → Int → Int → R) : R := match p, h with | .str s1, [some [.sl false 5 l2, .int .i64 n3, .int .i64 n4, .int .i64 n5, .int .i64 n6]] => K s1 l2 n3 n4 n5 n6 | _, _ => none
theorem h56_0_ok (p : PV) (h : Objs) : (∀ K : PV → Objs → R, h56_0 p h (fun s1 l2 n3 n4 n5 n6 => K (.str s1) [some [.sl false 5 l2, .int .i64 n3, .int .i64 n4, .int .i64 n5, .int .i64 n6]]) = K p h) ∨ (∀ K : PV → Objs → R, h56_0 p h (fun s1 l2 n3 n4 n5 n6 => K (.str s1) [some [.sl false 5 l2, .int .i64 n3, .int .i64 n4, .int .i64 n5, .int .i64 n6]]) = none) := by
  unfold h56_0; split
  · exact .inl fun _ => rfl
  · exact .inr fun _ => rfl
@[simp] theorem h56_0_mk (s1 : ByteArray) (l2 : List PV) (n3 : Int) (n4 : Int) (n5 : Int) (n6 : Int) (K : ByteArray → List PV → Int → Int → Int → Int → R) : h56_0 (.str s1) [some [.sl false 5 l2, .int .i64 n3, .int .i64 n4, .int .i64 n5, .int .i64 n6]] K = K s1 l2 n3 n4 n5 n6 := rfl
def h57_0 (p : PV) (h : Objs) (K : Int → List PV → Int → Int → Int → Int → R) : R := match p, h with | .int .i64 n1, [some [.sl false 5 l2, .int .i64 n3, .int .i64 n4, .int .i64 n5, .int .i64 n6]] => K n1 l2 n3 n4 n5 n6 | _, _ => none
theorem h57_0_ok (p : PV) (h : Objs) : (∀ K : PV → Objs → R, h57_0 p h (fun n1 l2 n3 n4 n5 n6 => K (.int .i64 n1) [some [.sl false 5 l2, .int .i64 n3, .int .i64 n4, .int .i64 n5, .int .i64 n6]]) = K p h) ∨ (∀ K : PV → Objs → R, h57_0 p h (fun n1 l2 n3 n4 n5 n6 => K (.int .i64 n1) [some [.sl false 5 l2, .int .i64 n3, .int .i64 n4, .int .i64 n5, .int .i64 n6]]) = none) := by
  unfold h57_0; split
  · exact .inl fun _ => rfl
  · exact .inr fun _ => rfl
@[simp] theorem h57_0_mk (n1 : Int) (l2 : List PV) (n3 : Int) (n4 : Int) (n5 : Int) (n6 : Int) (K : Int → List PV → Int → Int → Int → Int → R) : h57_0 (.int .i64 n1) [some [.sl false 5 l2, .int .i64 n3, .int .i64 n4, .int .i64 n5, .int .i64 n6]] K = K n1 l2 n3 n4 n5 n6 := rfl
def WW22 (h0 : Objs) (r : PV) (h : Objs) (K : PV → Objs → R) : R := match h0 with
  | [some [.sl false 5 _, .int .i64 _, .int .i64 _, .int .i64 _], some [.str _], some [.ptr 0 0], some [.int .i64 _]] => h22_0 r h (fun l1 n2 n3 n4 s5 n6 => K (.tuple []) [some [.sl false 5 l1, .int .i64 n2, .int .i64 n3, .int .i64 n4], some [.str s5], some [.ptr 0 0], some [.int .i64 n6]])
  | [] => w0 r (K (.tuple []) h)
  | _ => K r h
theorem WW22_ok (h0 : Objs) (r : PV) (h : Objs) : (∀ K : PV → Objs → R, WW22 h0 r h K = K r h) ∨ (∀ K : PV → Objs → R, WW22 h0 r h K = none) := by
  unfold WW22; split
  · exact h22_0_ok r h
  · exact w0_ok r h
  · exact .inl fun _ => rfl
def WW24 (h0 : Objs) (r : PV) (h : Objs) (K : PV → Objs → R) : R := match h0 with
  | [some [.sl false 5 _, .int .i64 _, .int .i64 _, .int .i64 _]] => h24_0 r h (fun n1 n2 n3 l4 n5 n6 n7 => K (.tuple [.int .i64 n1, .int .i64 n2, .int .i64 n3]) [some [.sl false 5 l4, .int .i64 n5, .int .i64 n6, .int .i64 n7]])
  | [] => w_3_3_3 r fun n1 n2 n3 => K (.tuple [.int .i64 n1, .int .i64 n2, .int .i64 n3]) h
  | _ => K r h
theorem WW24_ok (h0 : Objs) (r : PV) (h : Objs) : (∀ K : PV → Objs → R, WW24 h0 r h K = K r h) ∨ (∀ K : PV → Objs → R, WW24 h0 r h K = none) := by
  unfold WW24; split
  · exact h24_0_ok r h
  · exact w_3_3_3_ok r h
  · exact .inl fun _ => rfl
def WW25 (h0 : Objs) (r : PV) (h : Objs) (K : PV → Objs → R) : R := match h0 with
  | [some [.sl false 5 _, .int .i64 _, .int .i64 _, .int .i64 _]] => h25_0 r h (fun n1 s2 n3 n4 n5 b6 s7 n8 l9 n10 n11 n12 => K (.agg [.int .i64 n1, .str s2, .int .i64 n3, .int .i64 n4, .int .i64 n5, .bool b6, .str s7, .int .i64 n8]) [some [.sl false 5 l9, .int .i64 n10, .int .i64 n11, .int .i64 n12]])
  | [] => v46 r fun n1 s2 n3 n4 n5 b6 s7 n8 => K (.agg [.int .i64 n1, .str s2, .int .i64 n3, .int .i64 n4, .int .i64 n5, .bool b6, .str s7, .int .i64 n8]) h
  | _ => K r h
theorem WW25_ok (h0 : Objs) (r : PV) (h : Objs) : (∀ K : PV → Objs → R, WW25 h0 r h K = K r h) ∨ (∀ K : PV → Objs → R, WW25 h0 r h K = none) := by
  unfold WW25; split
  · exact h25_0_ok r h
  · exact one_ok (v46_ok r) h
  · exact .inl fun _ => rfl
def WW26 (h0 : Objs) (r : PV) (h : Objs) (K : PV → Objs → R) : R := match h0 with
  | [] => h26_0 r h (fun l1 n2 n3 n4 => K (.ptr 0 0) [some [.sl false 5 l1, .int .i64 n2, .int .i64 n3, .int .i64 n4]])
  | _ => K r h
theorem WW26_ok (h0 : Objs) (r : PV) (h : Objs) : (∀ K : PV → Objs → R, WW26 h0 r h K = K r h) ∨ (∀ K : PV → Objs → R, WW26 h0 r h K = none) := by
  unfold WW26; split
  · exact h26_0_ok r h
  · exact .inl fun _ => rfl
def WW27 (h0 : Objs) (r : PV) (h : Objs) (K : PV → Objs → R) : R := match h0 with
  | [] => h27_0 r h (fun l1 n2 n3 n4 n5 => K (.ptr 0 0) [some [.sl false 5 l1, .int .i64 n2, .int .i64 n3, .int .i64 n4, .int .i64 n5]])
  | _ => K r h
theorem WW27_ok (h0 : Objs) (r : PV) (h : Objs) : (∀ K : PV → Objs → R, WW27 h0 r h K = K r h) ∨ (∀ K : PV → Objs → R, WW27 h0 r h K = none) := by
  unfold WW27; split
  · exact h27_0_ok r h
  · exact .inl fun _ => rfl
def WW28 (h0 : Objs) (r : PV) (h : Objs) (K : PV → Objs → R) : R := match h0 with
  | [some [.sl false 5 _, .int .i64 _, .int .i64 _, .int .i64 _, .int .i64 _]] => h28_0 r h (fun n1 s2 n3 n4 n5 b6 s7 n8 l9 n10 n11 n12 n13 => K (.agg [.int .i64 n1, .str s2, .int .i64 n3, .int .i64 n4, .int .i64 n5, .bool b6, .str s7, .int .i64 n8]) [some [.sl false 5 l9, .int .i64 n10, .int .i64 n11, .int .i64 n12, .int .i64 n13]])
  | [] => v46 r fun n1 s2 n3 n4 n5 b6 s7 n8 => K (.agg [.int .i64 n1, .str s2, .int .i64 n3, .int .i64 n4, .int .i64 n5, .bool b6, .str s7, .int .i64 n8]) h
  | _ => K r h
theorem WW28_ok (h0 : Objs) (r : PV) (h : Objs) : (∀ K : PV → Objs → R, WW28 h0 r h K = K r h) ∨ (∀ K : PV → Objs → R, WW28 h0 r h K = none) := by
  unfold WW28; split
  · exact h28_0_ok r h
  · exact one_ok (v46_ok r) h
  · exact .inl fun _ => rfl
def WW29 (h0 : Objs) (r : PV) (h : Objs) (K : PV → Objs → R) : R := match h0 with
  | [some [.sl false 5 _, .int .i64 _, .int .i64 _, .int .i64 _]] => h29_0 r h (fun n1 s2 n3 n4 n5 l6 n7 n8 n9 => K (.agg [.int .i64 n1, .str s2, .int .i64 n3, .int .i64 n4, .int .i64 n5]) [some [.sl false 5 l6, .int .i64 n7, .int .i64 n8, .int .i64 n9]])
  | [] => v29 r fun n1 s2 n3 n4 n5 => K (.agg [.int .i64 n1, .str s2, .int .i64 n3, .int .i64 n4, .int .i64 n5]) h
  | _ => K r h
theorem WW29_ok (h0 : Objs) (r : PV) (h : Objs) : (∀ K : PV → Objs → R, WW29 h0 r h K = K r h) ∨ (∀ K : PV → Objs → R, WW29 h0 r h K = none) := by
  unfold WW29; split
  · exact h29_0_ok r h
  · exact one_ok (v29_ok r) h
  · exact .inl fun _ => rfl
def WW30 (h0 : Objs) (r : PV) (h : Objs) (K : PV → Objs → R) : R := match h0 with
  | [some [.sl false 5 _, .int .i64 _, .int .i64 _, .int .i64 _, .int .i64 _]] => h30_0 r h (fun n1 s2 n3 n4 n5 l6 n7 n8 n9 n10 => K (.agg [.int .i64 n1, .str s2, .int .i64 n3, .int .i64 n4, .int .i64 n5]) [some [.sl false 5 l6, .int .i64 n7, .int .i64 n8, .int .i64 n9, .int .i64 n10]])
  | [] => v29 r fun n1 s2 n3 n4 n5 => K (.agg [.int .i64 n1, .str s2, .int .i64 n3, .int .i64 n4, .int .i64 n5]) h
  | _ => K r h
theorem WW30_ok (h0 : Objs) (r : PV) (h : Objs) : (∀ K : PV → Objs → R, WW30 h0 r h K = K r h) ∨ (∀ K : PV → Objs → R, WW30 h0 r h K = none) := by
  unfold WW30; split
  · exact h30_0_ok r h
  · exact one_ok (v29_ok r) h
  · exact .inl fun _ => rfl
def WW43 (h0 : Objs) (r : PV) (h : Objs) (K : PV → Objs → R) : R := match h0 with
  | [some [.sl false 5 _, .int .i64 _, .int .i64 _, .int .i64 _]] => h43_0 r h (fun b1 l2 n3 n4 n5 => K (.bool b1) [some [.sl false 5 l2, .int .i64 n3, .int .i64 n4, .int .i64 n5]])
  | [] => vB r fun b1 => K (.bool b1) h
  | _ => K r h
theorem WW43_ok (h0 : Objs) (r : PV) (h : Objs) : (∀ K : PV → Objs → R, WW43 h0 r h K = K r h) ∨ (∀ K : PV → Objs → R, WW43 h0 r h K = none) := by
  unfold WW43; split
  · exact h43_0_ok r h
  · exact one_ok (vB_ok r) h
  · exact .inl fun _ => rfl
def WW44 (h0 : Objs) (r : PV) (h : Objs) (K : PV → Objs → R) : R := match h0 with
  | [some [.sl false 5 _, .int .i64 _, .int .i64 _, .int .i64 _]] => h44_0 r h (fun n1 s2 n3 n4 n5 l6 n7 n8 n9 => K (.agg [.int .i64 n1, .str s2, .int .i64 n3, .int .i64 n4, .int .i64 n5]) [some [.sl false 5 l6, .int .i64 n7, .int .i64 n8, .int .i64 n9]])
  | [] => v29 r fun n1 s2 n3 n4 n5 => K (.agg [.int .i64 n1, .str s2, .int .i64 n3, .int .i64 n4, .int .i64 n5]) h
  | _ => K r h
theorem WW44_ok (h0 : Objs) (r : PV) (h : Objs) : (∀ K : PV → Objs → R, WW44 h0 r h K = K r h) ∨ (∀ K : PV → Objs → R, WW44 h0 r h K = none) := by
  unfold WW44; split
  · exact h44_0_ok r h
  · exact one_ok (v29_ok r) h
  · exact .inl fun _ => rfl
def WW45 (h0 : Objs) (r : PV) (h : Objs) (K : PV → Objs → R) : R := match h0 with
  | [some [.sl false 5 _, .int .i64 _, .int .i64 _, .int .i64 _]] => h45_0 r h (fun b1 l2 n3 n4 n5 => K (.bool b1) [some [.sl false 5 l2, .int .i64 n3, .int .i64 n4, .int .i64 n5]])
  | [] => vB r fun b1 => K (.bool b1) h
  | _ => K r h
theorem WW45_ok (h0 : Objs) (r : PV) (h : Objs) : (∀ K : PV → Objs → R, WW45 h0 r h K = K r h) ∨ (∀ K : PV → Objs → R, WW45 h0 r h K = none) := by
  unfold WW45; split
  · exact h45_0_ok r h
  · exact one_ok (vB_ok r) h
  · exact .inl fun _ => rfl
def WW46 (h0 : Objs) (r : PV) (h : Objs) (K : PV → Objs → R) : R := match h0 with
  | [some [.sl false 5 _, .int .i64 _, .int .i64 _, .int .i64 _]] => h46_0 r h (fun l1 n2 n3 n4 => K (.tuple []) [some [.sl false 5 l1, .int .i64 n2, .int .i64 n3, .int .i64 n4]])
  | [] => w0 r (K (.tuple []) h)
  | _ => K r h
theorem WW46_ok (h0 : Objs) (r : PV) (h : Objs) : (∀ K : PV → Objs → R, WW46 h0 r h K = K r h) ∨ (∀ K : PV → Objs → R, WW46 h0 r h K = none) := by
  unfold WW46; split
  · exact h46_0_ok r h
  · exact w0_ok r h
  · exact .inl fun _ => rfl
def WW47 (h0 : Objs) (r : PV) (h : Objs) (K : PV → Objs → R) : R := match h0 with
  | [some [.sl false 5 _, .int .i64 _, .int .i64 _, .int .i64 _]] => h47_0 r h (fun s1 l2 n3 n4 n5 => K (.str s1) [some [.sl false 5 l2, .int .i64 n3, .int .i64 n4, .int .i64 n5]])
  | [] => vS r fun s1 => K (.str s1) h
  | _ => K r h
theorem WW47_ok (h0 : Objs) (r : PV) (h : Objs) : (∀ K : PV → Objs → R, WW47 h0 r h K = K r h) ∨ (∀ K : PV → Objs → R, WW47 h0 r h K = none) := by
  unfold WW47; split
  · exact h47_0_ok r h
  · exact one_ok (vS_ok r) h
  · exact .inl fun _ => rfl
def WW48 (h0 : Objs) (r : PV) (h : Objs) (K : PV → Objs → R) : R := match h0 with
  | [some [.sl false 5 _, .int .i64 _, .int .i64 _, .int .i64 _]] => h48_0 r h (fun n1 l2 n3 n4 n5 => K (.int .i64 n1) [some [.sl false 5 l2, .int .i64 n3, .int .i64 n4, .int .i64 n5]])
  | [] => vI .i64 r fun n1 => K (.int .i64 n1) h
  | _ => K r h
theorem WW48_ok (h0 : Objs) (r : PV) (h : Objs) : (∀ K : PV → Objs → R, WW48 h0 r h K = K r h) ∨ (∀ K : PV → Objs → R, WW48 h0 r h K = none) := by
  unfold WW48; split
  · exact h48_0_ok r h
  · exact one_ok (vI_ok .i64 r) h
  · exact .inl fun _ => rfl
def WW49 (h0 : Objs) (r : PV) (h : Objs) (K : PV → Objs → R) : R := match h0 with
  | [some [.sl false 5 _, .int .i64 _, .int .i64 _, .int .i64 _]] => h49_0 r h (fun l1 n2 n3 n4 => K (.tuple []) [some [.sl false 5 l1, .int .i64 n2, .int .i64 n3, .int .i64 n4]])
  | [] => w0 r (K (.tuple []) h)
  | _ => K r h
theorem WW49_ok (h0 : Objs) (r : PV) (h : Objs) : (∀ K : PV → Objs → R, WW49 h0 r h K = K r h) ∨ (∀ K : PV → Objs → R, WW49 h0 r h K = none) := by
  unfold WW49; split
  · exact h49_0_ok r h
  · exact w0_ok r h
  · exact .inl fun _ => rfl
def WW50 (h0 : Objs) (r : PV) (h : Objs) (K : PV → Objs → R) : R := match h0 with
  | [some [.sl false 5 _, .int .i64 _, .int .i64 _, .int .i64 _]] => h50_0 r h (fun l1 n2 n3 n4 => K (.tuple []) [some [.sl false 5 l1, .int .i64 n2, .int .i64 n3, .int .i64 n4]])
  | [] => w0 r (K (.tuple []) h)
  | _ => K r h
theorem WW50_ok (h0 : Objs) (r : PV) (h : Objs) : (∀ K : PV → Objs → R, WW50 h0 r h K = K r h) ∨ (∀ K : PV → Objs → R, WW50 h0 r h K = none) := by
  unfold WW50; split
  · exact h50_0_ok r h
  · exact w0_ok r h
  · exact .inl fun _ => rfl
def WW51 (h0 : Objs) (r : PV) (h : Objs) (K : PV → Objs → R) : R := match h0 with
  | [some [.str _], some [.ptr 3 0], some [.int .i64 _], some [.sl false 5 _, .int .i64 _, .int .i64 _, .int .i64 _]] => h51_0 r h (fun s1 n2 l3 n4 n5 n6 => K (.tuple []) [some [.str s1], some [.ptr 3 0], some [.int .i64 n2], some [.sl false 5 l3, .int .i64 n4, .int .i64 n5, .int .i64 n6]])
  | [] => w0 r (K (.tuple []) h)
  | _ => K r h
theorem WW51_ok (h0 : Objs) (r : PV) (h : Objs) : (∀ K : PV → Objs → R, WW51 h0 r h K = K r h) ∨ (∀ K : PV → Objs → R, WW51 h0 r h K = none) := by
  unfold WW51; split
  · exact h51_0_ok r h
  · exact w0_ok r h
  · exact .inl fun _ => rfl
def WW52 (h0 : Objs) (r : PV) (h : Objs) (K : PV → Objs → R) : R := match h0 with
  | [some [.sl false 5 _, .int .i64 _, .int .i64 _, .int .i64 _, .int .i64 _]] => h52_0 r h (fun n1 s2 n3 n4 n5 l6 n7 n8 n9 n10 => K (.agg [.int .i64 n1, .str s2, .int .i64 n3, .int .i64 n4, .int .i64 n5]) [some [.sl false 5 l6, .int .i64 n7, .int .i64 n8, .int .i64 n9, .int .i64 n10]])
  | [] => v29 r fun n1 s2 n3 n4 n5 => K (.agg [.int .i64 n1, .str s2, .int .i64 n3, .int .i64 n4, .int .i64 n5]) h
  | _ => K r h
theorem WW52_ok (h0 : Objs) (r : PV) (h : Objs) : (∀ K : PV → Objs → R, WW52 h0 r h K = K r h) ∨ (∀ K : PV → Objs → R, WW52 h0 r h K = none) := by
  unfold WW52; split
  · exact h52_0_ok r h
  · exact one_ok (v29_ok r) h
  · exact .inl fun _ => rfl
def WW53 (h0 : Objs) (r : PV) (h : Objs) (K : PV → Objs → R) : R := match h0 with
  | [some [.sl false 5 _, .int .i64 _, .int .i64 _, .int .i64 _, .int .i64 _]] => h53_0 r h (fun b1 l2 n3 n4 n5 n6 => K (.bool b1) [some [.sl false 5 l2, .int .i64 n3, .int .i64 n4, .int .i64 n5, .int .i64 n6]])
  | [] => vB r fun b1 => K (.bool b1) h
  | _ => K r h
theorem WW53_ok (h0 : Objs) (r : PV) (h : Objs) : (∀ K : PV → Objs → R, WW53 h0 r h K = K r h) ∨ (∀ K : PV → Objs → R, WW53 h0 r h K = none) := by
  unfold WW53; split
  · exact h53_0_ok r h
  · exact one_ok (vB_ok r) h
  · exact .inl fun _ => rfl
def WW54 (h0 : Objs) (r : PV) (h : Objs) (K : PV → Objs → R) : R := match h0 with
  | [some [.sl false 5 _, .int .i64 _, .int .i64 _, .int .i64 _, .int .i64 _]] => h54_0 r h (fun b1 l2 n3 n4 n5 n6 => K (.bool b1) [some [.sl false 5 l2, .int .i64 n3, .int .i64 n4, .int .i64 n5, .int .i64 n6]])
  | [] => vB r fun b1 => K (.bool b1) h
  | _ => K r h
theorem WW54_ok (h0 : Objs) (r : PV) (h : Objs) : (∀ K : PV → Objs → R, WW54 h0 r h K = K r h) ∨ (∀ K : PV → Objs → R, WW54 h0 r h K = none) := by
  unfold WW54; split
  · exact h54_0_ok r h
  · exact one_ok (vB_ok r) h
  · exact .inl fun _ => rfl
def WW55 (h0 : Objs) (r : PV) (h : Objs) (K : PV → Objs → R) : R := match h0 with
  | [some [.sl false 5 _, .int .i64 _, .int .i64 _, .int .i64 _, .int .i64 _]] => h55_0 r h (fun l1 n2 n3 n4 n5 => K (.tuple []) [some [.sl false 5 l1, .int .i64 n2, .int .i64 n3, .int .i64 n4, .int .i64 n5]])
  | [] => w0 r (K (.tuple []) h)
  | _ => K r h
theorem WW55_ok (h0 : Objs) (r : PV) (h : Objs) : (∀ K : PV → Objs → R, WW55 h0 r h K = K r h) ∨ (∀ K : PV → Objs → R, WW55 h0 r h K = none) := by
  unfold WW55; split
  · exact h55_0_ok r h
  · exact w0_ok r h
  · exact .inl fun _ => rfl
def WW56 (h0 : Objs) (r : PV) (h : Objs) (K : PV → Objs → R) : R := match h0 with
  | [some [.sl false 5 _, .int .i64 _, .int .i64 _, .int .i64 _, .int .i64 _]] => h56_0 r h (fun s1 l2 n3 n4 n5 n6 => K (.str s1) [some [.sl false 5 l2, .int .i64 n3, .int .i64 n4, .int .i64 n5, .int .i64 n6]])
  | [] => vS r fun s1 => K (.str s1) h
  | _ => K r h
theorem WW56_ok (h0 : Objs) (r : PV) (h : Objs) : (∀ K : PV → Objs → R, WW56 h0 r h K = K r h) ∨ (∀ K : PV → Objs → R, WW56 h0 r h K = none) := by
  unfold WW56; split
  · exact h56_0_ok r h
  · exact one_ok (vS_ok r) h
  · exact .inl fun _ => rfl
def WW57 (h0 : Objs) (r : PV) (h : Objs) (K : PV → Objs → R) : R := match h0 with
  | [some [.sl false 5 _, .int .i64 _, .int .i64 _, .int .i64 _, .int .i64 _]] => h57_0 r h (fun n1 l2 n3 n4 n5 n6 => K (.int .i64 n1) [some [.sl false 5 l2, .int .i64 n3, .int .i64 n4, .int .i64 n5, .int .i64 n6]])
  | [] => vI .i64 r fun n1 => K (.int .i64 n1) h
  | _ => K r h
theorem WW57_ok (h0 : Objs) (r : PV) (h : Objs) : (∀ K : PV → Objs → R, WW57 h0 r h K = K r h) ∨ (∀ K : PV → Objs → R, WW57 h0 r h K = none) := by
  unfold WW57; split
  · exact h57_0_ok r h
  · exact one_ok (vI_ok .i64 r) h
  · exact .inl fun _ => rfl
def WWp2 (g : FuncId) (h0 : Objs) (r : PV) (h : Objs) (K : PV → Objs → R) : R :=
  bsel (Nat.beq g 55) (WW55 h0 r h K)
    (bsel (Nat.beq g 56) (WW56 h0 r h K)
    (bsel (Nat.beq g 57) (WW57 h0 r h K)
    (K r h)))
theorem WWp2_ok (g : FuncId) (h0 : Objs) (r : PV) (h : Objs) : (∀ K : PV → Objs → R, WWp2 g h0 r h K = K r h) ∨ (∀ K : PV → Objs → R, WWp2 g h0 r h K = none) :=
  out_bsel (WW55_ok h0 r h) (out_bsel (WW56_ok h0 r h) (out_bsel (WW57_ok h0 r h) (.inl fun _ => rfl)))
def WWp1 (g : FuncId) (h0 : Objs) (r : PV) (h : Objs) (K : PV → Objs → R) : R :=
  bsel (Nat.beq g 43) (WW43 h0 r h K)
    (bsel (Nat.beq g 44) (WW44 h0 r h K)
    (bsel (Nat.beq g 45) (WW45 h0 r h K)
    (bsel (Nat.beq g 46) (WW46 h0 r h K)
    (bsel (Nat.beq g 47) (WW47 h0 r h K)
    (bsel (Nat.beq g 48) (WW48 h0 r h K)
    (bsel (Nat.beq g 49) (WW49 h0 r h K)
    (bsel (Nat.beq g 50) (WW50 h0 r h K)
    (bsel (Nat.beq g 51) (WW51 h0 r h K)
    (bsel (Nat.beq g 52) (WW52 h0 r h K)
    (bsel (Nat.beq g 53) (WW53 h0 r h K)
    (bsel (Nat.beq g 54) (WW54 h0 r h K)
    (WWp2 g h0 r h K))))))))))))
theorem WWp1_ok (g : FuncId) (h0 : Objs) (r : PV) (h : Objs) : (∀ K : PV → Objs → R, WWp1 g h0 r h K = K r h) ∨ (∀ K : PV → Objs → R, WWp1 g h0 r h K = none) :=
  out_bsel (WW43_ok h0 r h) (out_bsel (WW44_ok h0 r h) (out_bsel (WW45_ok h0 r h) (out_bsel (WW46_ok h0 r h) (out_bsel (WW47_ok h0 r h) (out_bsel (WW48_ok h0 r h) (out_bsel (WW49_ok h0 r h) (out_bsel (WW50_ok h0 r h) (out_bsel (WW51_ok h0 r h) (out_bsel (WW52_ok h0 r h) (out_bsel (WW53_ok h0 r h) (out_bsel (WW54_ok h0 r h) (WWp2_ok g h0 r h))))))))))))
def WWp0 (g : FuncId) (h0 : Objs) (r : PV) (h : Objs) (K : PV → Objs → R) : R :=
  bsel (Nat.beq g 10) (vB r fun b1 => K (.bool b1) h)
    (bsel (Nat.beq g 11) (vB r fun b1 => K (.bool b1) h)
    (bsel (Nat.beq g 12) (w_24_3_3_3 r fun l1 n2 n3 n4 => K (.tuple [.sl false 5 l1, .int .i64 n2, .int .i64 n3, .int .i64 n4]) h)
    (bsel (Nat.beq g 20) (w_24_3_3_3 r fun l1 n2 n3 n4 => K (.tuple [.sl false 5 l1, .int .i64 n2, .int .i64 n3, .int .i64 n4]) h)
    (bsel (Nat.beq g 22) (WW22 h0 r h K)
    (bsel (Nat.beq g 24) (WW24 h0 r h K)
    (bsel (Nat.beq g 25) (WW25 h0 r h K)
    (bsel (Nat.beq g 26) (WW26 h0 r h K)
    (bsel (Nat.beq g 27) (WW27 h0 r h K)
    (bsel (Nat.beq g 28) (WW28 h0 r h K)
    (bsel (Nat.beq g 29) (WW29 h0 r h K)
    (bsel (Nat.beq g 30) (WW30 h0 r h K)
    (WWp1 g h0 r h K))))))))))))
theorem WWp0_ok (g : FuncId) (h0 : Objs) (r : PV) (h : Objs) : (∀ K : PV → Objs → R, WWp0 g h0 r h K = K r h) ∨ (∀ K : PV → Objs → R, WWp0 g h0 r h K = none) :=
  out_bsel (one_ok (vB_ok r) h) (out_bsel (one_ok (vB_ok r) h) (out_bsel (w_24_3_3_3_ok r h) (out_bsel (w_24_3_3_3_ok r h) (out_bsel (WW22_ok h0 r h) (out_bsel (WW24_ok h0 r h) (out_bsel (WW25_ok h0 r h) (out_bsel (WW26_ok h0 r h) (out_bsel (WW27_ok h0 r h) (out_bsel (WW28_ok h0 r h) (out_bsel (WW29_ok h0 r h) (out_bsel (WW30_ok h0 r h) (WWp1_ok g h0 r h))))))))))))
def WW : FuncId → Objs → PV → Objs → (PV → Objs → R) → R := WWp0
theorem WW_ok : outOK WW := WWp0_ok
def prmT (g : FuncId) : Prm := match g with
  | 10 => ⟨[0, 1, 5, 6, 7, 8, 9, 10], [], [], [(1, [4])], [(4, [0, 1]), (8, [1, 5, 6, 7]), (10, [1, 5, 6, 7]), (12, [1, 5, 6, 7]), (7, [1, 5, 6, 7]), (15, [])], [(6, [1, 5, 6, 7])], [], [], [], [], [25, 27, 46, 52, 56, 58], [25, 27, 45, 51]⟩
  | 11 => ⟨[1, 4, 8, 10, 11, 12, 13, 16, 17, 18], [], [], [(1, [5]), (13, [5])], [(7, [1])], [], [], [], [], [], [], []⟩
  | 12 => ⟨[0, 2, 3, 4, 5], [22], [], [], [(4, [0]), (10, [2, 3, 4, 5])], [], [(2, [5])], [], [([5], false), ([], true), ([], true), ([], true)], [], [], []⟩
  | 20 => ⟨[0, 6, 7, 8, 9, 10, 11], [93, 107], [], [(6, [5])], [(4, [0]), (8, [0, 6, 7, 8, 9]), (15, [0, 6, 7, 8, 9]), (16, [0, 6, 7, 8, 9]), (19, [0, 6, 7, 8, 9, 10]), (22, [6, 7, 8])], [(7, [0, 6, 7, 8, 9]), (14, [0, 6, 7, 8, 9])], [], [], [([5], false), ([], true), ([], true), ([], true)], [], [], []⟩
  | 22 => ⟨[0, 1], [], [], [], [(2, [0, 1]), (4, [0, 1])], [(3, [0, 1])], [(0, [5, 0, 0, 0])], [], [], [], [], []⟩
  | 24 => ⟨[0], [], [], [], [(6, [0])], [], [(0, [5, 0, 0, 0])], [], [], [], [], []⟩
  | 25 => ⟨[0, 1, 2, 3, 4, 5, 6, 9], [], [], [], [(25, [4])], [], [(0, [5, 0, 0, 0])], [3], [], [], [], []⟩
  | 26 => ⟨[0, 3, 4, 5, 6], [], [], [(3, [5])], [], [], [], [], [], [], [], []⟩
  | 27 => ⟨[0, 3, 4, 5, 6], [], [], [(3, [5])], [], [], [], [], [], [], [], []⟩
  | 28 => ⟨[0, 1, 3, 4, 5, 6, 9], [], [], [], [(6, [0, 4, 5, 6]), (8, [4, 5, 6]), (29, [4])], [(5, [0, 4, 5, 6])], [(0, [5, 0, 0, 0, 0])], [3], [], [], [], []⟩
  | 29 => ⟨[0, 2], [], [], [], [(6, [0, 2])], [], [(0, [5, 0, 0, 0])], [], [], [], [], []⟩
  | 30 => ⟨[0, 2], [], [], [], [(4, [0, 2])], [], [(0, [5, 0, 0, 0, 0])], [], [], [], [], []⟩
  | 43 => ⟨[0, 1, 5], [], [], [], [(5, [5])], [], [(0, [5, 0, 0, 0])], [], [], [], [], []⟩
  | 44 => ⟨[0, 2, 3], [], [], [], [(5, [2, 3])], [], [(0, [5, 0, 0, 0])], [], [], [], [], []⟩
  | 45 => ⟨[0, 1, 5], [], [], [], [], [], [(0, [5, 0, 0, 0])], [], [], [], [], []⟩
  | 46 => ⟨[0, 1], [], [], [], [], [], [(0, [5, 0, 0, 0])], [], [], [], [], []⟩
  | 47 => ⟨[0], [], [], [], [(5, [0])], [], [(0, [5, 0, 0, 0])], [], [], [], [], []⟩
  | 48 => ⟨[0, 1, 2, 7, 8, 9, 10], [], [], [], [(7, [0, 1, 2, 7]), (11, [0, 1, 2, 7, 9]), (15, [0, 10])], [], [(0, [5, 0, 0, 0])], [], [], [], [], []⟩
  | 49 => ⟨[0], [], [], [], [], [], [(0, [5, 0, 0, 0])], [], [], [], [], []⟩
  | 50 => ⟨[0, 1, 4], [], [29, 32, 33], [], [(2, [0, 1])], [], [(0, [5, 0, 0, 0])], [], [], [], [], [24, 26, 1000001]⟩
  | 51 => ⟨[0, 1, 2], [], [], [], [], [], [], [], [], [], [5], [3, 4, 1000000, 1000001]⟩
  | 52 => ⟨[0, 2, 3], [], [], [], [(5, [2, 3])], [], [(0, [5, 0, 0, 0, 0])], [], [], [], [], []⟩
  | 53 => ⟨[0, 1, 5], [], [], [], [], [], [(0, [5, 0, 0, 0, 0])], [], [], [], [], []⟩
  | 54 => ⟨[0, 1, 5], [], [], [], [(5, [5])], [], [(0, [5, 0, 0, 0, 0])], [], [], [], [], []⟩
  | 55 => ⟨[0, 1, 4], [], [25, 27, 29], [], [], [], [(0, [5, 0, 0, 0, 0])], [], [], [], [], [20, 22, 1000001]⟩
  | 56 => ⟨[0], [], [], [], [(5, [0])], [], [(0, [5, 0, 0, 0, 0])], [], [], [], [], []⟩
  | 57 => ⟨[0, 1, 2, 7, 8, 9], [], [], [], [(5, [0, 1, 2, 7]), (13, [])], [], [(0, [5, 0, 0, 0, 0])], [], [], [], [], []⟩
  | _ => ⟨[], [], [], [], [], [], [], [], [], [], [], []⟩
noncomputable def SS : SE := ⟨Try.prog, prmT, VV, WW, CV⟩
theorem SS_ok : SS.OK := ⟨VV_ok, WW_ok⟩
end Go.Proofs.Ytoajpgclgdhhlaa.V

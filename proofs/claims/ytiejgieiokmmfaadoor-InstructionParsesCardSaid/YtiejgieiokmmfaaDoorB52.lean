/-
  The table of the program: how values of each type look, what each function's slots are. Printed by a program (wip/tool/dc.py).
-/
import Derived.Test.YtiejgieiokmmfaaDoorD52c
namespace Go.Proofs.YtiejgieiokmmfaaDoor
set_option linter.unusedVariables false
set_option linter.unusedSimpArgs false
set_option linter.unnecessarySimpa false
set_option linter.unusedSectionVars false
open Go.RowKit
set_option maxRecDepth 1000000
def v7 (p : PV) (K : Int → Int → Bool → Int → R) : R := match p with | .agg [.int .i64 x0, .int .i64 x1, .bool x2, .int .u8 x3] => K x0 x1 x2 x3 | _ => none
theorem v7_ok (p : PV) : (∀ K : PV → R, v7 p (fun x0 x1 x2 x3 => K (.agg [.int .i64 x0, .int .i64 x1, .bool x2, .int .u8 x3])) = K p) ∨ (∀ K : PV → R, v7 p (fun x0 x1 x2 x3 => K (.agg [.int .i64 x0, .int .i64 x1, .bool x2, .int .u8 x3])) = none) := by
  unfold v7; split
  · exact .inl fun _ => rfl
  · exact .inr fun _ => rfl
@[simp] theorem v7_mk (x0 : Int) (x1 : Int) (x2 : Bool) (x3 : Int) (K : Int → Int → Bool → Int → R) : v7 (.agg [.int .i64 x0, .int .i64 x1, .bool x2, .int .u8 x3]) K = K x0 x1 x2 x3 := rfl
def v13 (p : PV) (K : ByteArray → Int → R) : R := match p with | .agg [.str x0, .int .u64 x1] => K x0 x1 | _ => none
theorem v13_ok (p : PV) : (∀ K : PV → R, v13 p (fun x0 x1 => K (.agg [.str x0, .int .u64 x1])) = K p) ∨ (∀ K : PV → R, v13 p (fun x0 x1 => K (.agg [.str x0, .int .u64 x1])) = none) := by
  unfold v13; split
  · exact .inl fun _ => rfl
  · exact .inr fun _ => rfl
@[simp] theorem v13_mk (x0 : ByteArray) (x1 : Int) (K : ByteArray → Int → R) : v13 (.agg [.str x0, .int .u64 x1]) K = K x0 x1 := rfl
def v18 (p : PV) (K : PV → R) : R := match p with | .agg [x0] => K x0 | _ => none
theorem v18_ok (p : PV) : (∀ K : PV → R, v18 p (fun x0 => K (.agg [x0])) = K p) ∨ (∀ K : PV → R, v18 p (fun x0 => K (.agg [x0])) = none) := by
  unfold v18; split
  · exact .inl fun _ => rfl
  · exact .inr fun _ => rfl
@[simp] theorem v18_mk (x0 : PV) (K : PV → R) : v18 (.agg [x0]) K = K x0 := rfl
def v23 (p : PV) (K : Int → List PV → R) : R := match p with | .agg [.int .u8 x0, .sl false 2 x1] => K x0 x1 | _ => none
theorem v23_ok (p : PV) : (∀ K : PV → R, v23 p (fun x0 x1 => K (.agg [.int .u8 x0, .sl false 2 x1])) = K p) ∨ (∀ K : PV → R, v23 p (fun x0 x1 => K (.agg [.int .u8 x0, .sl false 2 x1])) = none) := by
  unfold v23; split
  · exact .inl fun _ => rfl
  · exact .inr fun _ => rfl
@[simp] theorem v23_mk (x0 : Int) (x1 : List PV) (K : Int → List PV → R) : v23 (.agg [.int .u8 x0, .sl false 2 x1]) K = K x0 x1 := rfl
def v29 (p : PV) (K : Int → Int → Int → List PV → List PV → R) : R := match p with | .agg [.int .i64 x0, .int .i64 x1, .int .i64 x2, .sl false 1 x3, .sl false 2 x4] => K x0 x1 x2 x3 x4 | _ => none
theorem v29_ok (p : PV) : (∀ K : PV → R, v29 p (fun x0 x1 x2 x3 x4 => K (.agg [.int .i64 x0, .int .i64 x1, .int .i64 x2, .sl false 1 x3, .sl false 2 x4])) = K p) ∨ (∀ K : PV → R, v29 p (fun x0 x1 x2 x3 x4 => K (.agg [.int .i64 x0, .int .i64 x1, .int .i64 x2, .sl false 1 x3, .sl false 2 x4])) = none) := by
  unfold v29; split
  · exact .inl fun _ => rfl
  · exact .inr fun _ => rfl
@[simp] theorem v29_mk (x0 : Int) (x1 : Int) (x2 : Int) (x3 : List PV) (x4 : List PV) (K : Int → Int → Int → List PV → List PV → R) : v29 (.agg [.int .i64 x0, .int .i64 x1, .int .i64 x2, .sl false 1 x3, .sl false 2 x4]) K = K x0 x1 x2 x3 x4 := rfl
def v32 (p : PV) (K : List PV → List PV → R) : R := match p with | .agg [.sl false 1 x0, .sl false 1 x1] => K x0 x1 | _ => none
theorem v32_ok (p : PV) : (∀ K : PV → R, v32 p (fun x0 x1 => K (.agg [.sl false 1 x0, .sl false 1 x1])) = K p) ∨ (∀ K : PV → R, v32 p (fun x0 x1 => K (.agg [.sl false 1 x0, .sl false 1 x1])) = none) := by
  unfold v32; split
  · exact .inl fun _ => rfl
  · exact .inr fun _ => rfl
@[simp] theorem v32_mk (x0 : List PV) (x1 : List PV) (K : List PV → List PV → R) : v32 (.agg [.sl false 1 x0, .sl false 1 x1]) K = K x0 x1 := rfl
def v57 (p : PV) (K : Int → Int → R) : R := match p with | .agg [.int .i64 x0, .int .i64 x1] => K x0 x1 | _ => none
theorem v57_ok (p : PV) : (∀ K : PV → R, v57 p (fun x0 x1 => K (.agg [.int .i64 x0, .int .i64 x1])) = K p) ∨ (∀ K : PV → R, v57 p (fun x0 x1 => K (.agg [.int .i64 x0, .int .i64 x1])) = none) := by
  unfold v57; split
  · exact .inl fun _ => rfl
  · exact .inr fun _ => rfl
@[simp] theorem v57_mk (x0 : Int) (x1 : Int) (K : Int → Int → R) : v57 (.agg [.int .i64 x0, .int .i64 x1]) K = K x0 x1 := rfl
def v69 (p : PV) (K : Bool → Bool → Bool → Bool → Bool → Bool → Bool → Bool → R) : R := match p with | .agg [.bool x0, .bool x1, .bool x2, .bool x3, .bool x4, .bool x5, .bool x6, .bool x7] => K x0 x1 x2 x3 x4 x5 x6 x7 | _ => none
theorem v69_ok (p : PV) : (∀ K : PV → R, v69 p (fun x0 x1 x2 x3 x4 x5 x6 x7 => K (.agg [.bool x0, .bool x1, .bool x2, .bool x3, .bool x4, .bool x5, .bool x6, .bool x7])) = K p) ∨ (∀ K : PV → R, v69 p (fun x0 x1 x2 x3 x4 x5 x6 x7 => K (.agg [.bool x0, .bool x1, .bool x2, .bool x3, .bool x4, .bool x5, .bool x6, .bool x7])) = none) := by
  unfold v69; split
  · exact .inl fun _ => rfl
  · exact .inr fun _ => rfl
@[simp] theorem v69_mk (x0 : Bool) (x1 : Bool) (x2 : Bool) (x3 : Bool) (x4 : Bool) (x5 : Bool) (x6 : Bool) (x7 : Bool) (K : Bool → Bool → Bool → Bool → Bool → Bool → Bool → Bool → R) : v69 (.agg [.bool x0, .bool x1, .bool x2, .bool x3, .bool x4, .bool x5, .bool x6, .bool x7]) K = K x0 x1 x2 x3 x4 x5 x6 x7 := rfl
def v75 (p : PV) (K : Int → Int → R) : R := match p with | .agg [.int .u8 x0, .int .u8 x1] => K x0 x1 | _ => none
theorem v75_ok (p : PV) : (∀ K : PV → R, v75 p (fun x0 x1 => K (.agg [.int .u8 x0, .int .u8 x1])) = K p) ∨ (∀ K : PV → R, v75 p (fun x0 x1 => K (.agg [.int .u8 x0, .int .u8 x1])) = none) := by
  unfold v75; split
  · exact .inl fun _ => rfl
  · exact .inr fun _ => rfl
@[simp] theorem v75_mk (x0 : Int) (x1 : Int) (K : Int → Int → R) : v75 (.agg [.int .u8 x0, .int .u8 x1]) K = K x0 x1 := rfl
def v90 (p : PV) (K : Int → Int → Int → List PV → List PV → PV → R) : R := match p with | .agg [.int .i64 x0, .int .i64 x1, .int .i64 x2, .sl false 1 x3, .sl false 2 x4, x5] => K x0 x1 x2 x3 x4 x5 | _ => none
theorem v90_ok (p : PV) : (∀ K : PV → R, v90 p (fun x0 x1 x2 x3 x4 x5 => K (.agg [.int .i64 x0, .int .i64 x1, .int .i64 x2, .sl false 1 x3, .sl false 2 x4, x5])) = K p) ∨ (∀ K : PV → R, v90 p (fun x0 x1 x2 x3 x4 x5 => K (.agg [.int .i64 x0, .int .i64 x1, .int .i64 x2, .sl false 1 x3, .sl false 2 x4, x5])) = none) := by
  unfold v90; split
  · exact .inl fun _ => rfl
  · exact .inr fun _ => rfl
@[simp] theorem v90_mk (x0 : Int) (x1 : Int) (x2 : Int) (x3 : List PV) (x4 : List PV) (x5 : PV) (K : Int → Int → Int → List PV → List PV → PV → R) : v90 (.agg [.int .i64 x0, .int .i64 x1, .int .i64 x2, .sl false 1 x3, .sl false 2 x4, x5]) K = K x0 x1 x2 x3 x4 x5 := rfl
def v100 (p : PV) (K : PV → List PV → R) : R := match p with | .agg [x0, .sl false 1 x1] => K x0 x1 | _ => none
theorem v100_ok (p : PV) : (∀ K : PV → R, v100 p (fun x0 x1 => K (.agg [x0, .sl false 1 x1])) = K p) ∨ (∀ K : PV → R, v100 p (fun x0 x1 => K (.agg [x0, .sl false 1 x1])) = none) := by
  unfold v100; split
  · exact .inl fun _ => rfl
  · exact .inr fun _ => rfl
@[simp] theorem v100_mk (x0 : PV) (x1 : List PV) (K : PV → List PV → R) : v100 (.agg [x0, .sl false 1 x1]) K = K x0 x1 := rfl
def v102 (p : PV) (K : PV → List PV → R) : R := match p with | .agg [x0, .sl false 1 x1] => K x0 x1 | _ => none
theorem v102_ok (p : PV) : (∀ K : PV → R, v102 p (fun x0 x1 => K (.agg [x0, .sl false 1 x1])) = K p) ∨ (∀ K : PV → R, v102 p (fun x0 x1 => K (.agg [x0, .sl false 1 x1])) = none) := by
  unfold v102; split
  · exact .inl fun _ => rfl
  · exact .inr fun _ => rfl
@[simp] theorem v102_mk (x0 : PV) (x1 : List PV) (K : PV → List PV → R) : v102 (.agg [x0, .sl false 1 x1]) K = K x0 x1 := rfl
def v110 (p : PV) (K : Int → ByteArray → PV → PV → PV → R) : R := match p with | .agg [.int .i64 x0, .str x1, x2, x3, x4] => K x0 x1 x2 x3 x4 | _ => none
theorem v110_ok (p : PV) : (∀ K : PV → R, v110 p (fun x0 x1 x2 x3 x4 => K (.agg [.int .i64 x0, .str x1, x2, x3, x4])) = K p) ∨ (∀ K : PV → R, v110 p (fun x0 x1 x2 x3 x4 => K (.agg [.int .i64 x0, .str x1, x2, x3, x4])) = none) := by
  unfold v110; split
  · exact .inl fun _ => rfl
  · exact .inr fun _ => rfl
@[simp] theorem v110_mk (x0 : Int) (x1 : ByteArray) (x2 : PV) (x3 : PV) (x4 : PV) (K : Int → ByteArray → PV → PV → PV → R) : v110 (.agg [.int .i64 x0, .str x1, x2, x3, x4]) K = K x0 x1 x2 x3 x4 := rfl
def v116 (p : PV) (K : Int → Int → Int → R) : R := match p with | .agg [.int .i64 x0, .int .i64 x1, .int .i64 x2] => K x0 x1 x2 | _ => none
theorem v116_ok (p : PV) : (∀ K : PV → R, v116 p (fun x0 x1 x2 => K (.agg [.int .i64 x0, .int .i64 x1, .int .i64 x2])) = K p) ∨ (∀ K : PV → R, v116 p (fun x0 x1 x2 => K (.agg [.int .i64 x0, .int .i64 x1, .int .i64 x2])) = none) := by
  unfold v116; split
  · exact .inl fun _ => rfl
  · exact .inr fun _ => rfl
@[simp] theorem v116_mk (x0 : Int) (x1 : Int) (x2 : Int) (K : Int → Int → Int → R) : v116 (.agg [.int .i64 x0, .int .i64 x1, .int .i64 x2]) K = K x0 x1 x2 := rfl
def v123 (p : PV) (K : PV → PV → PV → R) : R := match p with | .agg [x0, x1, x2] => K x0 x1 x2 | _ => none
theorem v123_ok (p : PV) : (∀ K : PV → R, v123 p (fun x0 x1 x2 => K (.agg [x0, x1, x2])) = K p) ∨ (∀ K : PV → R, v123 p (fun x0 x1 x2 => K (.agg [x0, x1, x2])) = none) := by
  unfold v123; split
  · exact .inl fun _ => rfl
  · exact .inr fun _ => rfl
@[simp] theorem v123_mk (x0 : PV) (x1 : PV) (x2 : PV) (K : PV → PV → PV → R) : v123 (.agg [x0, x1, x2]) K = K x0 x1 x2 := rfl
def v181 (p : PV) (K : Int → Int → R) : R := match p with | .agg [.int .u8 x0, .int .u8 x1] => K x0 x1 | _ => none
theorem v181_ok (p : PV) : (∀ K : PV → R, v181 p (fun x0 x1 => K (.agg [.int .u8 x0, .int .u8 x1])) = K p) ∨ (∀ K : PV → R, v181 p (fun x0 x1 => K (.agg [.int .u8 x0, .int .u8 x1])) = none) := by
  unfold v181; split
  · exact .inl fun _ => rfl
  · exact .inr fun _ => rfl
@[simp] theorem v181_mk (x0 : Int) (x1 : Int) (K : Int → Int → R) : v181 (.agg [.int .u8 x0, .int .u8 x1]) K = K x0 x1 := rfl
def v187 (p : PV) (K : PV → PV → PV → ByteArray → R) : R := match p with | .agg [x0, x1, x2, .str x3] => K x0 x1 x2 x3 | _ => none
theorem v187_ok (p : PV) : (∀ K : PV → R, v187 p (fun x0 x1 x2 x3 => K (.agg [x0, x1, x2, .str x3])) = K p) ∨ (∀ K : PV → R, v187 p (fun x0 x1 x2 x3 => K (.agg [x0, x1, x2, .str x3])) = none) := by
  unfold v187; split
  · exact .inl fun _ => rfl
  · exact .inr fun _ => rfl
@[simp] theorem v187_mk (x0 : PV) (x1 : PV) (x2 : PV) (x3 : ByteArray) (K : PV → PV → PV → ByteArray → R) : v187 (.agg [x0, x1, x2, .str x3]) K = K x0 x1 x2 x3 := rfl
def v189 (p : PV) (K : R) : R := match p with | .agg [] => K | _ => none
theorem v189_ok (p : PV) : (∀ K : PV → R, v189 p (K (.agg [])) = K p) ∨ (∀ K : PV → R, v189 p (K (.agg [])) = none) := by
  unfold v189; split
  · exact .inl fun _ => rfl
  · exact .inr fun _ => rfl
def v190 (p : PV) (K : R) : R := match p with | .agg [] => K | _ => none
theorem v190_ok (p : PV) : (∀ K : PV → R, v190 p (K (.agg [])) = K p) ∨ (∀ K : PV → R, v190 p (K (.agg [])) = none) := by
  unfold v190; split
  · exact .inl fun _ => rfl
  · exact .inr fun _ => rfl
def v198 (p : PV) (K : Int → Int → Int → Int → Int → Int → Int → PV → PV → Int → Int → R) : R := match p with | .agg [.int .u64 x0, .int .u64 x1, .int .u32 x2, .int .u8 x3, .int .u8 x4, .int .u8 x5, .int .u8 x6, x7, x8, .int .i32 x9, .int .i32 x10] => K x0 x1 x2 x3 x4 x5 x6 x7 x8 x9 x10 | _ => none
theorem v198_ok (p : PV) : (∀ K : PV → R, v198 p (fun x0 x1 x2 x3 x4 x5 x6 x7 x8 x9 x10 => K (.agg [.int .u64 x0, .int .u64 x1, .int .u32 x2, .int .u8 x3, .int .u8 x4, .int .u8 x5, .int .u8 x6, x7, x8, .int .i32 x9, .int .i32 x10])) = K p) ∨ (∀ K : PV → R, v198 p (fun x0 x1 x2 x3 x4 x5 x6 x7 x8 x9 x10 => K (.agg [.int .u64 x0, .int .u64 x1, .int .u32 x2, .int .u8 x3, .int .u8 x4, .int .u8 x5, .int .u8 x6, x7, x8, .int .i32 x9, .int .i32 x10])) = none) := by
  unfold v198; split
  · exact .inl fun _ => rfl
  · exact .inr fun _ => rfl
@[simp] theorem v198_mk (x0 : Int) (x1 : Int) (x2 : Int) (x3 : Int) (x4 : Int) (x5 : Int) (x6 : Int) (x7 : PV) (x8 : PV) (x9 : Int) (x10 : Int) (K : Int → Int → Int → Int → Int → Int → Int → PV → PV → Int → Int → R) : v198 (.agg [.int .u64 x0, .int .u64 x1, .int .u32 x2, .int .u8 x3, .int .u8 x4, .int .u8 x5, .int .u8 x6, x7, x8, .int .i32 x9, .int .i32 x10]) K = K x0 x1 x2 x3 x4 x5 x6 x7 x8 x9 x10 := rfl
def VVp5 (t : TypeId) (p : PV) (K : PV → R) : R :=
  bsel (Nat.beq t 196) (vI .i32 p fun n1 => K (.int .i32 n1))
    (bsel (Nat.beq t 197) (vI .i32 p fun n1 => K (.int .i32 n1))
    (bsel (Nat.beq t 198) (v198 p fun n1 n2 n3 n4 n5 n6 n7 p8 p9 n10 n11 => K (.agg [.int .u64 n1, .int .u64 n2, .int .u32 n3, .int .u8 n4, .int .u8 n5, .int .u8 n6, .int .u8 n7, p8, p9, .int .i32 n10, .int .i32 n11]))
    (bsel (Nat.beq t 199) (v198 p fun n1 n2 n3 n4 n5 n6 n7 p8 p9 n10 n11 => K (.agg [.int .u64 n1, .int .u64 n2, .int .u32 n3, .int .u8 n4, .int .u8 n5, .int .u8 n6, .int .u8 n7, p8, p9, .int .i32 n10, .int .i32 n11]))
    (K p))))
theorem VVp5_ok (t : TypeId) (p : PV) : (∀ K : PV → R, VVp5 t p K = K p) ∨ (∀ K : PV → R, VVp5 t p K = none) :=
  view_bsel (vI_ok .i32 p) (view_bsel (vI_ok .i32 p) (view_bsel (v198_ok p) (view_bsel (v198_ok p) (.inl fun _ => rfl))))
def VVp4 (t : TypeId) (p : PV) (K : PV → R) : R :=
  bsel (Nat.beq t 148) (vI .u32 p fun n1 => K (.int .u32 n1))
    (bsel (Nat.beq t 150) (vI .u64 p fun n1 => K (.int .u64 n1))
    (bsel (Nat.beq t 161) (vI .u64 p fun n1 => K (.int .u64 n1))
    (bsel (Nat.beq t 181) (v181 p fun n1 n2 => K (.agg [.int .u8 n1, .int .u8 n2]))
    (bsel (Nat.beq t 182) (v181 p fun n1 n2 => K (.agg [.int .u8 n1, .int .u8 n2]))
    (bsel (Nat.beq t 187) (v187 p fun p1 p2 p3 s4 => K (.agg [p1, p2, p3, .str s4]))
    (bsel (Nat.beq t 188) (v187 p fun p1 p2 p3 s4 => K (.agg [p1, p2, p3, .str s4]))
    (bsel (Nat.beq t 189) (v189 p (K (.agg [])))
    (bsel (Nat.beq t 190) (v190 p (K (.agg [])))
    (bsel (Nat.beq t 191) (v190 p (K (.agg [])))
    (bsel (Nat.beq t 193) (vI .u8 p fun n1 => K (.int .u8 n1))
    (bsel (Nat.beq t 194) (vI .u8 p fun n1 => K (.int .u8 n1))
    (VVp5 t p K))))))))))))
theorem VVp4_ok (t : TypeId) (p : PV) : (∀ K : PV → R, VVp4 t p K = K p) ∨ (∀ K : PV → R, VVp4 t p K = none) :=
  view_bsel (vI_ok .u32 p) (view_bsel (vI_ok .u64 p) (view_bsel (vI_ok .u64 p) (view_bsel (v181_ok p) (view_bsel (v181_ok p) (view_bsel (v187_ok p) (view_bsel (v187_ok p) (view_bsel (v189_ok p) (view_bsel (v190_ok p) (view_bsel (v190_ok p) (view_bsel (vI_ok .u8 p) (view_bsel (vI_ok .u8 p) (VVp5_ok t p))))))))))))
def VVp3 (t : TypeId) (p : PV) (K : PV → R) : R :=
  bsel (Nat.beq t 90) (v90 p fun n1 n2 n3 l4 l5 p6 => K (.agg [.int .i64 n1, .int .i64 n2, .int .i64 n3, .sl false 1 l4, .sl false 2 l5, p6]))
    (bsel (Nat.beq t 91) (v90 p fun n1 n2 n3 l4 l5 p6 => K (.agg [.int .i64 n1, .int .i64 n2, .int .i64 n3, .sl false 1 l4, .sl false 2 l5, p6]))
    (bsel (Nat.beq t 100) (v100 p fun p1 l2 => K (.agg [p1, .sl false 1 l2]))
    (bsel (Nat.beq t 101) (v100 p fun p1 l2 => K (.agg [p1, .sl false 1 l2]))
    (bsel (Nat.beq t 102) (v102 p fun p1 l2 => K (.agg [p1, .sl false 1 l2]))
    (bsel (Nat.beq t 103) (v102 p fun p1 l2 => K (.agg [p1, .sl false 1 l2]))
    (bsel (Nat.beq t 106) (vL false 5 p fun l1 => K (.sl false 5 l1))
    (bsel (Nat.beq t 110) (v110 p fun n1 s2 p3 p4 p5 => K (.agg [.int .i64 n1, .str s2, p3, p4, p5]))
    (bsel (Nat.beq t 111) (v110 p fun n1 s2 p3 p4 p5 => K (.agg [.int .i64 n1, .str s2, p3, p4, p5]))
    (bsel (Nat.beq t 116) (v116 p fun n1 n2 n3 => K (.agg [.int .i64 n1, .int .i64 n2, .int .i64 n3]))
    (bsel (Nat.beq t 123) (v123 p fun p1 p2 p3 => K (.agg [p1, p2, p3]))
    (bsel (Nat.beq t 140) (vI .i64 p fun n1 => K (.int .i64 n1))
    (VVp4 t p K))))))))))))
theorem VVp3_ok (t : TypeId) (p : PV) : (∀ K : PV → R, VVp3 t p K = K p) ∨ (∀ K : PV → R, VVp3 t p K = none) :=
  view_bsel (v90_ok p) (view_bsel (v90_ok p) (view_bsel (v100_ok p) (view_bsel (v100_ok p) (view_bsel (v102_ok p) (view_bsel (v102_ok p) (view_bsel (vL_ok false 5 p) (view_bsel (v110_ok p) (view_bsel (v110_ok p) (view_bsel (v116_ok p) (view_bsel (v123_ok p) (view_bsel (vI_ok .i64 p) (VVp4_ok t p))))))))))))
def VVp2 (t : TypeId) (p : PV) (K : PV → R) : R :=
  bsel (Nat.beq t 32) (v32 p fun l1 l2 => K (.agg [.sl false 1 l1, .sl false 1 l2]))
    (bsel (Nat.beq t 33) (v32 p fun l1 l2 => K (.agg [.sl false 1 l1, .sl false 1 l2]))
    (bsel (Nat.beq t 34) (vI .i64 p fun n1 => K (.int .i64 n1))
    (bsel (Nat.beq t 38) (vL false 1 p fun l1 => K (.sl false 1 l1))
    (bsel (Nat.beq t 40) (vL false 2 p fun l1 => K (.sl false 2 l1))
    (bsel (Nat.beq t 43) (vL false 1 p fun l1 => K (.sl false 1 l1))
    (bsel (Nat.beq t 47) (vI .u64 p fun n1 => K (.int .u64 n1))
    (bsel (Nat.beq t 57) (v57 p fun n1 n2 => K (.agg [.int .i64 n1, .int .i64 n2]))
    (bsel (Nat.beq t 58) (v57 p fun n1 n2 => K (.agg [.int .i64 n1, .int .i64 n2]))
    (bsel (Nat.beq t 69) (v69 p fun b1 b2 b3 b4 b5 b6 b7 b8 => K (.agg [.bool b1, .bool b2, .bool b3, .bool b4, .bool b5, .bool b6, .bool b7, .bool b8]))
    (bsel (Nat.beq t 75) (v75 p fun n1 n2 => K (.agg [.int .u8 n1, .int .u8 n2]))
    (bsel (Nat.beq t 86) (vL false 1 p fun l1 => K (.sl false 1 l1))
    (VVp3 t p K))))))))))))
theorem VVp2_ok (t : TypeId) (p : PV) : (∀ K : PV → R, VVp2 t p K = K p) ∨ (∀ K : PV → R, VVp2 t p K = none) :=
  view_bsel (v32_ok p) (view_bsel (v32_ok p) (view_bsel (vI_ok .i64 p) (view_bsel (vL_ok false 1 p) (view_bsel (vL_ok false 2 p) (view_bsel (vL_ok false 1 p) (view_bsel (vI_ok .u64 p) (view_bsel (v57_ok p) (view_bsel (v57_ok p) (view_bsel (v69_ok p) (view_bsel (v75_ok p) (view_bsel (vL_ok false 1 p) (VVp3_ok t p))))))))))))
def VVp1 (t : TypeId) (p : PV) (K : PV → R) : R :=
  bsel (Nat.beq t 14) (v13 p fun s1 n2 => K (.agg [.str s1, .int .u64 n2]))
    (bsel (Nat.beq t 18) (v18 p fun p1 => K (.agg [p1]))
    (bsel (Nat.beq t 19) (v18 p fun p1 => K (.agg [p1]))
    (bsel (Nat.beq t 21) (vI .i32 p fun n1 => K (.int .i32 n1))
    (bsel (Nat.beq t 22) (vL false 2 p fun l1 => K (.sl false 2 l1))
    (bsel (Nat.beq t 23) (v23 p fun n1 l2 => K (.agg [.int .u8 n1, .sl false 2 l2]))
    (bsel (Nat.beq t 24) (v23 p fun n1 l2 => K (.agg [.int .u8 n1, .sl false 2 l2]))
    (bsel (Nat.beq t 25) (vL false 1 p fun l1 => K (.sl false 1 l1))
    (bsel (Nat.beq t 27) (vL false 1 p fun l1 => K (.sl false 1 l1))
    (bsel (Nat.beq t 28) (vL false 2 p fun l1 => K (.sl false 2 l1))
    (bsel (Nat.beq t 29) (v29 p fun n1 n2 n3 l4 l5 => K (.agg [.int .i64 n1, .int .i64 n2, .int .i64 n3, .sl false 1 l4, .sl false 2 l5]))
    (bsel (Nat.beq t 30) (v29 p fun n1 n2 n3 l4 l5 => K (.agg [.int .i64 n1, .int .i64 n2, .int .i64 n3, .sl false 1 l4, .sl false 2 l5]))
    (VVp2 t p K))))))))))))
theorem VVp1_ok (t : TypeId) (p : PV) : (∀ K : PV → R, VVp1 t p K = K p) ∨ (∀ K : PV → R, VVp1 t p K = none) :=
  view_bsel (v13_ok p) (view_bsel (v18_ok p) (view_bsel (v18_ok p) (view_bsel (vI_ok .i32 p) (view_bsel (vL_ok false 2 p) (view_bsel (v23_ok p) (view_bsel (v23_ok p) (view_bsel (vL_ok false 1 p) (view_bsel (vL_ok false 1 p) (view_bsel (vL_ok false 2 p) (view_bsel (v29_ok p) (view_bsel (v29_ok p) (VVp2_ok t p))))))))))))
def VVp0 (t : TypeId) (p : PV) (K : PV → R) : R :=
  bsel (Nat.beq t 2) (vI .i64 p fun n1 => K (.int .i64 n1))
    (bsel (Nat.beq t 3) (vI .i64 p fun n1 => K (.int .i64 n1))
    (bsel (Nat.beq t 4) (vB p fun b1 => K (.bool b1))
    (bsel (Nat.beq t 5) (vI .u8 p fun n1 => K (.int .u8 n1))
    (bsel (Nat.beq t 6) (vI .u8 p fun n1 => K (.int .u8 n1))
    (bsel (Nat.beq t 7) (v7 p fun n1 n2 b3 n4 => K (.agg [.int .i64 n1, .int .i64 n2, .bool b3, .int .u8 n4]))
    (bsel (Nat.beq t 8) (v7 p fun n1 n2 b3 n4 => K (.agg [.int .i64 n1, .int .i64 n2, .bool b3, .int .u8 n4]))
    (bsel (Nat.beq t 9) (vS p fun s1 => K (.str s1))
    (bsel (Nat.beq t 10) (vS p fun s1 => K (.str s1))
    (bsel (Nat.beq t 11) (vS p fun s1 => K (.str s1))
    (bsel (Nat.beq t 12) (vI .u64 p fun n1 => K (.int .u64 n1))
    (bsel (Nat.beq t 13) (v13 p fun s1 n2 => K (.agg [.str s1, .int .u64 n2]))
    (VVp1 t p K))))))))))))
theorem VVp0_ok (t : TypeId) (p : PV) : (∀ K : PV → R, VVp0 t p K = K p) ∨ (∀ K : PV → R, VVp0 t p K = none) :=
  view_bsel (vI_ok .i64 p) (view_bsel (vI_ok .i64 p) (view_bsel (vB_ok p) (view_bsel (vI_ok .u8 p) (view_bsel (vI_ok .u8 p) (view_bsel (v7_ok p) (view_bsel (v7_ok p) (view_bsel (vS_ok p) (view_bsel (vS_ok p) (view_bsel (vS_ok p) (view_bsel (vI_ok .u64 p) (view_bsel (v13_ok p) (VVp1_ok t p))))))))))))
def VV : TypeId → PV → (PV → R) → R := VVp0
theorem VV_ok : viewOK VV := VVp0_ok
def w_32_3 (p : PV) (K : List PV → List PV → Int → R) : R := match p with | .tuple [.agg [.sl false 1 l1, .sl false 1 l2], .int .i64 n3] => K l1 l2 n3 | _ => none
theorem w_32_3_ok (p : PV) (h : Objs) : (∀ K : PV → Objs → R, w_32_3 p (fun l1 l2 n3 => K (.tuple [.agg [.sl false 1 l1, .sl false 1 l2], .int .i64 n3]) h) = K p h) ∨ (∀ K : PV → Objs → R, w_32_3 p (fun l1 l2 n3 => K (.tuple [.agg [.sl false 1 l1, .sl false 1 l2], .int .i64 n3]) h) = none) := by
  unfold w_32_3; split
  · exact .inl fun _ => rfl
  · exact .inr fun _ => rfl
@[simp] theorem w_32_3_mk (l1 : List PV) (l2 : List PV) (n3 : Int) (K : List PV → List PV → Int → R) : w_32_3 (.tuple [.agg [.sl false 1 l1, .sl false 1 l2], .int .i64 n3]) K = K l1 l2 n3 := rfl
def w_40_3 (p : PV) (K : List PV → Int → R) : R := match p with | .tuple [.sl false 2 l1, .int .i64 n2] => K l1 n2 | _ => none
theorem w_40_3_ok (p : PV) (h : Objs) : (∀ K : PV → Objs → R, w_40_3 p (fun l1 n2 => K (.tuple [.sl false 2 l1, .int .i64 n2]) h) = K p h) ∨ (∀ K : PV → Objs → R, w_40_3 p (fun l1 n2 => K (.tuple [.sl false 2 l1, .int .i64 n2]) h) = none) := by
  unfold w_40_3; split
  · exact .inl fun _ => rfl
  · exact .inr fun _ => rfl
@[simp] theorem w_40_3_mk (l1 : List PV) (n2 : Int) (K : List PV → Int → R) : w_40_3 (.tuple [.sl false 2 l1, .int .i64 n2]) K = K l1 n2 := rfl
def w_32_43 (p : PV) (K : List PV → List PV → List PV → R) : R := match p with | .tuple [.agg [.sl false 1 l1, .sl false 1 l2], .sl false 1 l3] => K l1 l2 l3 | _ => none
theorem w_32_43_ok (p : PV) (h : Objs) : (∀ K : PV → Objs → R, w_32_43 p (fun l1 l2 l3 => K (.tuple [.agg [.sl false 1 l1, .sl false 1 l2], .sl false 1 l3]) h) = K p h) ∨ (∀ K : PV → Objs → R, w_32_43 p (fun l1 l2 l3 => K (.tuple [.agg [.sl false 1 l1, .sl false 1 l2], .sl false 1 l3]) h) = none) := by
  unfold w_32_43; split
  · exact .inl fun _ => rfl
  · exact .inr fun _ => rfl
@[simp] theorem w_32_43_mk (l1 : List PV) (l2 : List PV) (l3 : List PV) (K : List PV → List PV → List PV → R) : w_32_43 (.tuple [.agg [.sl false 1 l1, .sl false 1 l2], .sl false 1 l3]) K = K l1 l2 l3 := rfl
def w_43_3 (p : PV) (K : List PV → Int → R) : R := match p with | .tuple [.sl false 1 l1, .int .i64 n2] => K l1 n2 | _ => none
theorem w_43_3_ok (p : PV) (h : Objs) : (∀ K : PV → Objs → R, w_43_3 p (fun l1 n2 => K (.tuple [.sl false 1 l1, .int .i64 n2]) h) = K p h) ∨ (∀ K : PV → Objs → R, w_43_3 p (fun l1 n2 => K (.tuple [.sl false 1 l1, .int .i64 n2]) h) = none) := by
  unfold w_43_3; split
  · exact .inl fun _ => rfl
  · exact .inr fun _ => rfl
@[simp] theorem w_43_3_mk (l1 : List PV) (n2 : Int) (K : List PV → Int → R) : w_43_3 (.tuple [.sl false 1 l1, .int .i64 n2]) K = K l1 n2 := rfl
def w_29_3 (p : PV) (K : Int → Int → Int → List PV → List PV → Int → R) : R := match p with | .tuple [.agg [.int .i64 n1, .int .i64 n2, .int .i64 n3, .sl false 1 l4, .sl false 2 l5], .int .i64 n6] => K n1 n2 n3 l4 l5 n6 | _ => none
theorem w_29_3_ok (p : PV) (h : Objs) : (∀ K : PV → Objs → R, w_29_3 p (fun n1 n2 n3 l4 l5 n6 => K (.tuple [.agg [.int .i64 n1, .int .i64 n2, .int .i64 n3, .sl false 1 l4, .sl false 2 l5], .int .i64 n6]) h) = K p h) ∨ (∀ K : PV → Objs → R, w_29_3 p (fun n1 n2 n3 l4 l5 n6 => K (.tuple [.agg [.int .i64 n1, .int .i64 n2, .int .i64 n3, .sl false 1 l4, .sl false 2 l5], .int .i64 n6]) h) = none) := by
  unfold w_29_3; split
  · exact .inl fun _ => rfl
  · exact .inr fun _ => rfl
@[simp] theorem w_29_3_mk (n1 : Int) (n2 : Int) (n3 : Int) (l4 : List PV) (l5 : List PV) (n6 : Int) (K : Int → Int → Int → List PV → List PV → Int → R) : w_29_3 (.tuple [.agg [.int .i64 n1, .int .i64 n2, .int .i64 n3, .sl false 1 l4, .sl false 2 l5], .int .i64 n6]) K = K n1 n2 n3 l4 l5 n6 := rfl
def w_29_3_3 (p : PV) (K : Int → Int → Int → List PV → List PV → Int → Int → R) : R := match p with | .tuple [.agg [.int .i64 n1, .int .i64 n2, .int .i64 n3, .sl false 1 l4, .sl false 2 l5], .int .i64 n6, .int .i64 n7] => K n1 n2 n3 l4 l5 n6 n7 | _ => none
theorem w_29_3_3_ok (p : PV) (h : Objs) : (∀ K : PV → Objs → R, w_29_3_3 p (fun n1 n2 n3 l4 l5 n6 n7 => K (.tuple [.agg [.int .i64 n1, .int .i64 n2, .int .i64 n3, .sl false 1 l4, .sl false 2 l5], .int .i64 n6, .int .i64 n7]) h) = K p h) ∨ (∀ K : PV → Objs → R, w_29_3_3 p (fun n1 n2 n3 l4 l5 n6 n7 => K (.tuple [.agg [.int .i64 n1, .int .i64 n2, .int .i64 n3, .sl false 1 l4, .sl false 2 l5], .int .i64 n6, .int .i64 n7]) h) = none) := by
  unfold w_29_3_3; split
  · exact .inl fun _ => rfl
  · exact .inr fun _ => rfl
@[simp] theorem w_29_3_3_mk (n1 : Int) (n2 : Int) (n3 : Int) (l4 : List PV) (l5 : List PV) (n6 : Int) (n7 : Int) (K : Int → Int → Int → List PV → List PV → Int → Int → R) : w_29_3_3 (.tuple [.agg [.int .i64 n1, .int .i64 n2, .int .i64 n3, .sl false 1 l4, .sl false 2 l5], .int .i64 n6, .int .i64 n7]) K = K n1 n2 n3 l4 l5 n6 n7 := rfl
def w_43_43_3 (p : PV) (K : List PV → List PV → Int → R) : R := match p with | .tuple [.sl false 1 l1, .sl false 1 l2, .int .i64 n3] => K l1 l2 n3 | _ => none
theorem w_43_43_3_ok (p : PV) (h : Objs) : (∀ K : PV → Objs → R, w_43_43_3 p (fun l1 l2 n3 => K (.tuple [.sl false 1 l1, .sl false 1 l2, .int .i64 n3]) h) = K p h) ∨ (∀ K : PV → Objs → R, w_43_43_3 p (fun l1 l2 n3 => K (.tuple [.sl false 1 l1, .sl false 1 l2, .int .i64 n3]) h) = none) := by
  unfold w_43_43_3; split
  · exact .inl fun _ => rfl
  · exact .inr fun _ => rfl
@[simp] theorem w_43_43_3_mk (l1 : List PV) (l2 : List PV) (n3 : Int) (K : List PV → List PV → Int → R) : w_43_43_3 (.tuple [.sl false 1 l1, .sl false 1 l2, .int .i64 n3]) K = K l1 l2 n3 := rfl
def w_9_3 (p : PV) (K : ByteArray → Int → R) : R := match p with | .tuple [.str s1, .int .i64 n2] => K s1 n2 | _ => none
theorem w_9_3_ok (p : PV) (h : Objs) : (∀ K : PV → Objs → R, w_9_3 p (fun s1 n2 => K (.tuple [.str s1, .int .i64 n2]) h) = K p h) ∨ (∀ K : PV → Objs → R, w_9_3 p (fun s1 n2 => K (.tuple [.str s1, .int .i64 n2]) h) = none) := by
  unfold w_9_3; split
  · exact .inl fun _ => rfl
  · exact .inr fun _ => rfl
@[simp] theorem w_9_3_mk (s1 : ByteArray) (n2 : Int) (K : ByteArray → Int → R) : w_9_3 (.tuple [.str s1, .int .i64 n2]) K = K s1 n2 := rfl
def w_3_4 (p : PV) (K : Int → Bool → R) : R := match p with | .tuple [.int .i64 n1, .bool b2] => K n1 b2 | _ => none
theorem w_3_4_ok (p : PV) (h : Objs) : (∀ K : PV → Objs → R, w_3_4 p (fun n1 b2 => K (.tuple [.int .i64 n1, .bool b2]) h) = K p h) ∨ (∀ K : PV → Objs → R, w_3_4 p (fun n1 b2 => K (.tuple [.int .i64 n1, .bool b2]) h) = none) := by
  unfold w_3_4; split
  · exact .inl fun _ => rfl
  · exact .inr fun _ => rfl
@[simp] theorem w_3_4_mk (n1 : Int) (b2 : Bool) (K : Int → Bool → R) : w_3_4 (.tuple [.int .i64 n1, .bool b2]) K = K n1 b2 := rfl
def w_47_47 (p : PV) (K : Int → Int → R) : R := match p with | .tuple [.int .u64 n1, .int .u64 n2] => K n1 n2 | _ => none
theorem w_47_47_ok (p : PV) (h : Objs) : (∀ K : PV → Objs → R, w_47_47 p (fun n1 n2 => K (.tuple [.int .u64 n1, .int .u64 n2]) h) = K p h) ∨ (∀ K : PV → Objs → R, w_47_47 p (fun n1 n2 => K (.tuple [.int .u64 n1, .int .u64 n2]) h) = none) := by
  unfold w_47_47; split
  · exact .inl fun _ => rfl
  · exact .inr fun _ => rfl
@[simp] theorem w_47_47_mk (n1 : Int) (n2 : Int) (K : Int → Int → R) : w_47_47 (.tuple [.int .u64 n1, .int .u64 n2]) K = K n1 n2 := rfl
def w_150_150 (p : PV) (K : Int → Int → R) : R := match p with | .tuple [.int .u64 n1, .int .u64 n2] => K n1 n2 | _ => none
theorem w_150_150_ok (p : PV) (h : Objs) : (∀ K : PV → Objs → R, w_150_150 p (fun n1 n2 => K (.tuple [.int .u64 n1, .int .u64 n2]) h) = K p h) ∨ (∀ K : PV → Objs → R, w_150_150 p (fun n1 n2 => K (.tuple [.int .u64 n1, .int .u64 n2]) h) = none) := by
  unfold w_150_150; split
  · exact .inl fun _ => rfl
  · exact .inr fun _ => rfl
@[simp] theorem w_150_150_mk (n1 : Int) (n2 : Int) (K : Int → Int → R) : w_150_150 (.tuple [.int .u64 n1, .int .u64 n2]) K = K n1 n2 := rfl
def h40_0 (p : PV) (h : Objs) (K : List PV → List PV → R) : R := match p, h with | .sl false 1 l1, [some l2] => K l1 l2 | _, _ => none
theorem h40_0_ok (p : PV) (h : Objs) : (∀ K : PV → Objs → R, h40_0 p h (fun l1 l2 => K (.sl false 1 l1) [some l2]) = K p h) ∨ (∀ K : PV → Objs → R, h40_0 p h (fun l1 l2 => K (.sl false 1 l1) [some l2]) = none) := by
  unfold h40_0; split
  · exact .inl fun _ => rfl
  · exact .inr fun _ => rfl
@[simp] theorem h40_0_mk (l1 : List PV) (l2 : List PV) (K : List PV → List PV → R) : h40_0 (.sl false 1 l1) [some l2] K = K l1 l2 := rfl
def h42_0 (p : PV) (h : Objs) (K : List PV → List PV → R) : R := match p, h with | .sl false 1 l1, [some l2] => K l1 l2 | _, _ => none
theorem h42_0_ok (p : PV) (h : Objs) : (∀ K : PV → Objs → R, h42_0 p h (fun l1 l2 => K (.sl false 1 l1) [some l2]) = K p h) ∨ (∀ K : PV → Objs → R, h42_0 p h (fun l1 l2 => K (.sl false 1 l1) [some l2]) = none) := by
  unfold h42_0; split
  · exact .inl fun _ => rfl
  · exact .inr fun _ => rfl
@[simp] theorem h42_0_mk (l1 : List PV) (l2 : List PV) (K : List PV → List PV → R) : h42_0 (.sl false 1 l1) [some l2] K = K l1 l2 := rfl
def h43_0 (p : PV) (h : Objs) (K0 : Nat → Int → List PV → R) (K1 : List PV → Int → R) : R := match p, h with | .tuple [.slh 0 0 k1 1, .int .i64 n2], [some l3] => K0 k1 n2 l3 | .tuple [.sl false 1 l1, .int .i64 n2], [] => K1 l1 n2 | _, _ => none
theorem h43_0_ok (p : PV) (h : Objs) : (∀ K : PV → Objs → R, h43_0 p h (fun k1 n2 l3 => K (.tuple [.slh 0 0 k1 1, .int .i64 n2]) [some l3]) (fun l1 n2 => K (.tuple [.sl false 1 l1, .int .i64 n2]) []) = K p h) ∨ (∀ K : PV → Objs → R, h43_0 p h (fun k1 n2 l3 => K (.tuple [.slh 0 0 k1 1, .int .i64 n2]) [some l3]) (fun l1 n2 => K (.tuple [.sl false 1 l1, .int .i64 n2]) []) = none) := by
  unfold h43_0; split
  · exact .inl fun _ => rfl
  · exact .inl fun _ => rfl
  · exact .inr fun _ => rfl
@[simp] theorem h43_0_mk0 (k1 : Nat) (n2 : Int) (l3 : List PV) (K0 : Nat → Int → List PV → R) (K1 : List PV → Int → R) : h43_0 (.tuple [.slh 0 0 k1 1, .int .i64 n2]) [some l3] K0 K1 = K0 k1 n2 l3 := rfl
@[simp] theorem h43_0_mk1 (l1 : List PV) (n2 : Int) (K0 : Nat → Int → List PV → R) (K1 : List PV → Int → R) : h43_0 (.tuple [.sl false 1 l1, .int .i64 n2]) [] K0 K1 = K1 l1 n2 := rfl
def h53_0 (p : PV) (h : Objs) (K : Bool → Int → Int → Int → List PV → List PV → List PV → R) : R := match p, h with | .bool b1, [some [.int .i64 n2, .int .i64 n3, .int .i64 n4, .sl true 1 l5, .sl true 2 l6, .bld 0 1], some [.mp l7]] => K b1 n2 n3 n4 l5 l6 l7 | _, _ => none
theorem h53_0_ok (p : PV) (h : Objs) : (∀ K : PV → Objs → R, h53_0 p h (fun b1 n2 n3 n4 l5 l6 l7 => K (.bool b1) [some [.int .i64 n2, .int .i64 n3, .int .i64 n4, .sl true 1 l5, .sl true 2 l6, .bld 0 1], some [.mp l7]]) = K p h) ∨ (∀ K : PV → Objs → R, h53_0 p h (fun b1 n2 n3 n4 l5 l6 l7 => K (.bool b1) [some [.int .i64 n2, .int .i64 n3, .int .i64 n4, .sl true 1 l5, .sl true 2 l6, .bld 0 1], some [.mp l7]]) = none) := by
  unfold h53_0; split
  · exact .inl fun _ => rfl
  · exact .inr fun _ => rfl
@[simp] theorem h53_0_mk (b1 : Bool) (n2 : Int) (n3 : Int) (n4 : Int) (l5 : List PV) (l6 : List PV) (l7 : List PV) (K : Bool → Int → Int → Int → List PV → List PV → List PV → R) : h53_0 (.bool b1) [some [.int .i64 n2, .int .i64 n3, .int .i64 n4, .sl true 1 l5, .sl true 2 l6, .bld 0 1], some [.mp l7]] K = K b1 n2 n3 n4 l5 l6 l7 := rfl
def h54_0 (p : PV) (h : Objs) (K : Bool → Int → Int → Int → List PV → List PV → List PV → R) : R := match p, h with | .bool b1, [some [.int .i64 n2, .int .i64 n3, .int .i64 n4, .sl true 1 l5, .sl true 2 l6, .bld 0 1], some [.mp l7]] => K b1 n2 n3 n4 l5 l6 l7 | _, _ => none
theorem h54_0_ok (p : PV) (h : Objs) : (∀ K : PV → Objs → R, h54_0 p h (fun b1 n2 n3 n4 l5 l6 l7 => K (.bool b1) [some [.int .i64 n2, .int .i64 n3, .int .i64 n4, .sl true 1 l5, .sl true 2 l6, .bld 0 1], some [.mp l7]]) = K p h) ∨ (∀ K : PV → Objs → R, h54_0 p h (fun b1 n2 n3 n4 l5 l6 l7 => K (.bool b1) [some [.int .i64 n2, .int .i64 n3, .int .i64 n4, .sl true 1 l5, .sl true 2 l6, .bld 0 1], some [.mp l7]]) = none) := by
  unfold h54_0; split
  · exact .inl fun _ => rfl
  · exact .inr fun _ => rfl
@[simp] theorem h54_0_mk (b1 : Bool) (n2 : Int) (n3 : Int) (n4 : Int) (l5 : List PV) (l6 : List PV) (l7 : List PV) (K : Bool → Int → Int → Int → List PV → List PV → List PV → R) : h54_0 (.bool b1) [some [.int .i64 n2, .int .i64 n3, .int .i64 n4, .sl true 1 l5, .sl true 2 l6, .bld 0 1], some [.mp l7]] K = K b1 n2 n3 n4 l5 l6 l7 := rfl
def h55_0 (p : PV) (h : Objs) (K : Bool → Int → Int → Int → List PV → List PV → List PV → R) : R := match p, h with | .bool b1, [some [.int .i64 n2, .int .i64 n3, .int .i64 n4, .sl true 1 l5, .sl true 2 l6, .bld 0 1], some [.mp l7]] => K b1 n2 n3 n4 l5 l6 l7 | _, _ => none
theorem h55_0_ok (p : PV) (h : Objs) : (∀ K : PV → Objs → R, h55_0 p h (fun b1 n2 n3 n4 l5 l6 l7 => K (.bool b1) [some [.int .i64 n2, .int .i64 n3, .int .i64 n4, .sl true 1 l5, .sl true 2 l6, .bld 0 1], some [.mp l7]]) = K p h) ∨ (∀ K : PV → Objs → R, h55_0 p h (fun b1 n2 n3 n4 l5 l6 l7 => K (.bool b1) [some [.int .i64 n2, .int .i64 n3, .int .i64 n4, .sl true 1 l5, .sl true 2 l6, .bld 0 1], some [.mp l7]]) = none) := by
  unfold h55_0; split
  · exact .inl fun _ => rfl
  · exact .inr fun _ => rfl
@[simp] theorem h55_0_mk (b1 : Bool) (n2 : Int) (n3 : Int) (n4 : Int) (l5 : List PV) (l6 : List PV) (l7 : List PV) (K : Bool → Int → Int → Int → List PV → List PV → List PV → R) : h55_0 (.bool b1) [some [.int .i64 n2, .int .i64 n3, .int .i64 n4, .sl true 1 l5, .sl true 2 l6, .bld 0 1], some [.mp l7]] K = K b1 n2 n3 n4 l5 l6 l7 := rfl
def h56_0 (p : PV) (h : Objs) (K : Int → Int → Int → Int → List PV → List PV → List PV → R) : R := match p, h with | .int .i64 n1, [some [.int .i64 n2, .int .i64 n3, .int .i64 n4, .sl true 1 l5, .sl true 2 l6, .bld 0 1], some [.mp l7]] => K n1 n2 n3 n4 l5 l6 l7 | _, _ => none
theorem h56_0_ok (p : PV) (h : Objs) : (∀ K : PV → Objs → R, h56_0 p h (fun n1 n2 n3 n4 l5 l6 l7 => K (.int .i64 n1) [some [.int .i64 n2, .int .i64 n3, .int .i64 n4, .sl true 1 l5, .sl true 2 l6, .bld 0 1], some [.mp l7]]) = K p h) ∨ (∀ K : PV → Objs → R, h56_0 p h (fun n1 n2 n3 n4 l5 l6 l7 => K (.int .i64 n1) [some [.int .i64 n2, .int .i64 n3, .int .i64 n4, .sl true 1 l5, .sl true 2 l6, .bld 0 1], some [.mp l7]]) = none) := by
  unfold h56_0; split
  · exact .inl fun _ => rfl
  · exact .inr fun _ => rfl
@[simp] theorem h56_0_mk (n1 : Int) (n2 : Int) (n3 : Int) (n4 : Int) (l5 : List PV) (l6 : List PV) (l7 : List PV) (K : Int → Int → Int → Int → List PV → List PV → List PV → R) : h56_0 (.int .i64 n1) [some [.int .i64 n2, .int .i64 n3, .int .i64 n4, .sl true 1 l5, .sl true 2 l6, .bld 0 1], some [.mp l7]] K = K n1 n2 n3 n4 l5 l6 l7 := rfl
def h57_0 (p : PV) (h : Objs) (K : Bool → Int → Int → Int → List PV → List PV → R) : R := match p, h with | .bool b1, [some [.int .i64 n2, .int .i64 n3, .int .i64 n4, .sl true 1 l5, .sl true 2 l6]] => K b1 n2 n3 n4 l5 l6 | _, _ => none
theorem h57_0_ok (p : PV) (h : Objs) : (∀ K : PV → Objs → R, h57_0 p h (fun b1 n2 n3 n4 l5 l6 => K (.bool b1) [some [.int .i64 n2, .int .i64 n3, .int .i64 n4, .sl true 1 l5, .sl true 2 l6]]) = K p h) ∨ (∀ K : PV → Objs → R, h57_0 p h (fun b1 n2 n3 n4 l5 l6 => K (.bool b1) [some [.int .i64 n2, .int .i64 n3, .int .i64 n4, .sl true 1 l5, .sl true 2 l6]]) = none) := by
  unfold h57_0; split
  · exact .inl fun _ => rfl
  · exact .inr fun _ => rfl
@[simp] theorem h57_0_mk (b1 : Bool) (n2 : Int) (n3 : Int) (n4 : Int) (l5 : List PV) (l6 : List PV) (K : Bool → Int → Int → Int → List PV → List PV → R) : h57_0 (.bool b1) [some [.int .i64 n2, .int .i64 n3, .int .i64 n4, .sl true 1 l5, .sl true 2 l6]] K = K b1 n2 n3 n4 l5 l6 := rfl
def h59_0 (p : PV) (h : Objs) (K : List PV → R) : R := match p, h with | .tuple [], [some l1] => K l1 | _, _ => none
theorem h59_0_ok (p : PV) (h : Objs) : (∀ K : PV → Objs → R, h59_0 p h (fun l1 => K (.tuple []) [some l1]) = K p h) ∨ (∀ K : PV → Objs → R, h59_0 p h (fun l1 => K (.tuple []) [some l1]) = none) := by
  unfold h59_0; split
  · exact .inl fun _ => rfl
  · exact .inr fun _ => rfl
@[simp] theorem h59_0_mk (l1 : List PV) (K : List PV → R) : h59_0 (.tuple []) [some l1] K = K l1 := rfl
def h60_0 (p : PV) (h : Objs) (K : Nat → List PV → R) : R := match p, h with | .slh 0 0 k1 1, [some l2] => K k1 l2 | _, _ => none
theorem h60_0_ok (p : PV) (h : Objs) : (∀ K : PV → Objs → R, h60_0 p h (fun k1 l2 => K (.slh 0 0 k1 1) [some l2]) = K p h) ∨ (∀ K : PV → Objs → R, h60_0 p h (fun k1 l2 => K (.slh 0 0 k1 1) [some l2]) = none) := by
  unfold h60_0; split
  · exact .inl fun _ => rfl
  · exact .inr fun _ => rfl
@[simp] theorem h60_0_mk (k1 : Nat) (l2 : List PV) (K : Nat → List PV → R) : h60_0 (.slh 0 0 k1 1) [some l2] K = K k1 l2 := rfl
def h61_0 (p : PV) (h : Objs) (K : List UInt8 → R) : R := match p, h with | .tuple [], [some [.bld 103 0, .slT y1]] => K y1 | _, _ => none
theorem h61_0_ok (p : PV) (h : Objs) : (∀ K : PV → Objs → R, h61_0 p h (fun y1 => K (.tuple []) [some [.bld 103 0, .slT y1]]) = K p h) ∨ (∀ K : PV → Objs → R, h61_0 p h (fun y1 => K (.tuple []) [some [.bld 103 0, .slT y1]]) = none) := by
  unfold h61_0; split
  · exact .inl fun _ => rfl
  · exact .inr fun _ => rfl
@[simp] theorem h61_0_mk (y1 : List UInt8) (K : List UInt8 → R) : h61_0 (.tuple []) [some [.bld 103 0, .slT y1]] K = K y1 := rfl
def h65_0 (p : PV) (h : Objs) (K : ByteArray → List PV → R) : R := match p, h with | .str s1, [some [.bld 103 0, .sl false 1 l2]] => K s1 l2 | _, _ => none
theorem h65_0_ok (p : PV) (h : Objs) : (∀ K : PV → Objs → R, h65_0 p h (fun s1 l2 => K (.str s1) [some [.bld 103 0, .sl false 1 l2]]) = K p h) ∨ (∀ K : PV → Objs → R, h65_0 p h (fun s1 l2 => K (.str s1) [some [.bld 103 0, .sl false 1 l2]]) = none) := by
  unfold h65_0; split
  · exact .inl fun _ => rfl
  · exact .inr fun _ => rfl
@[simp] theorem h65_0_mk (s1 : ByteArray) (l2 : List PV) (K : ByteArray → List PV → R) : h65_0 (.str s1) [some [.bld 103 0, .sl false 1 l2]] K = K s1 l2 := rfl
def h77_0 (p : PV) (h : Objs) (K : Int → List UInt8 → R) : R := match p, h with | .tuple [.int .i64 n1, .raw .nilIface], [some [.bld 103 0, .slT y2]] => K n1 y2 | _, _ => none
theorem h77_0_ok (p : PV) (h : Objs) : (∀ K : PV → Objs → R, h77_0 p h (fun n1 y2 => K (.tuple [.int .i64 n1, .raw .nilIface]) [some [.bld 103 0, .slT y2]]) = K p h) ∨ (∀ K : PV → Objs → R, h77_0 p h (fun n1 y2 => K (.tuple [.int .i64 n1, .raw .nilIface]) [some [.bld 103 0, .slT y2]]) = none) := by
  unfold h77_0; split
  · exact .inl fun _ => rfl
  · exact .inr fun _ => rfl
@[simp] theorem h77_0_mk (n1 : Int) (y2 : List UInt8) (K : Int → List UInt8 → R) : h77_0 (.tuple [.int .i64 n1, .raw .nilIface]) [some [.bld 103 0, .slT y2]] K = K n1 y2 := rfl
def h79_0 (p : PV) (h : Objs) (K : List UInt8 → R) : R := match p, h with | .raw .nilIface, [some [.bld 103 0, .slT y1]] => K y1 | _, _ => none
theorem h79_0_ok (p : PV) (h : Objs) : (∀ K : PV → Objs → R, h79_0 p h (fun y1 => K (.raw .nilIface) [some [.bld 103 0, .slT y1]]) = K p h) ∨ (∀ K : PV → Objs → R, h79_0 p h (fun y1 => K (.raw .nilIface) [some [.bld 103 0, .slT y1]]) = none) := by
  unfold h79_0; split
  · exact .inl fun _ => rfl
  · exact .inr fun _ => rfl
@[simp] theorem h79_0_mk (y1 : List UInt8) (K : List UInt8 → R) : h79_0 (.raw .nilIface) [some [.bld 103 0, .slT y1]] K = K y1 := rfl
def h109_0 (p : PV) (h : Objs) (K : List UInt8 → R) : R := match p, h with | .tuple [], [some [.bld 103 0, .slT y1]] => K y1 | _, _ => none
theorem h109_0_ok (p : PV) (h : Objs) : (∀ K : PV → Objs → R, h109_0 p h (fun y1 => K (.tuple []) [some [.bld 103 0, .slT y1]]) = K p h) ∨ (∀ K : PV → Objs → R, h109_0 p h (fun y1 => K (.tuple []) [some [.bld 103 0, .slT y1]]) = none) := by
  unfold h109_0; split
  · exact .inl fun _ => rfl
  · exact .inr fun _ => rfl
@[simp] theorem h109_0_mk (y1 : List UInt8) (K : List UInt8 → R) : h109_0 (.tuple []) [some [.bld 103 0, .slT y1]] K = K y1 := rfl
def WW40 (h0 : Objs) (r : PV) (h : Objs) (K : PV → Objs → R) : R := match h0 with
  | [some _] => h40_0 r h (fun l1 l2 => K (.sl false 1 l1) [some l2])
  | [] => vL false 1 r fun l1 => K (.sl false 1 l1) h
  | _ => K r h
theorem WW40_ok (h0 : Objs) (r : PV) (h : Objs) : (∀ K : PV → Objs → R, WW40 h0 r h K = K r h) ∨ (∀ K : PV → Objs → R, WW40 h0 r h K = none) := by
  unfold WW40; split
  · exact h40_0_ok r h
  · exact one_ok (vL_ok false 1 r) h
  · exact .inl fun _ => rfl
def WW42 (h0 : Objs) (r : PV) (h : Objs) (K : PV → Objs → R) : R := match h0 with
  | [some _] => h42_0 r h (fun l1 l2 => K (.sl false 1 l1) [some l2])
  | [] => vL false 1 r fun l1 => K (.sl false 1 l1) h
  | _ => K r h
theorem WW42_ok (h0 : Objs) (r : PV) (h : Objs) : (∀ K : PV → Objs → R, WW42 h0 r h K = K r h) ∨ (∀ K : PV → Objs → R, WW42 h0 r h K = none) := by
  unfold WW42; split
  · exact h42_0_ok r h
  · exact one_ok (vL_ok false 1 r) h
  · exact .inl fun _ => rfl
def WW43 (h0 : Objs) (r : PV) (h : Objs) (K : PV → Objs → R) : R := match h0 with
  | [] => h43_0 r h (fun k1 n2 l3 => K (.tuple [.slh 0 0 k1 1, .int .i64 n2]) [some l3]) (fun l1 n2 => K (.tuple [.sl false 1 l1, .int .i64 n2]) [])
  | _ => K r h
theorem WW43_ok (h0 : Objs) (r : PV) (h : Objs) : (∀ K : PV → Objs → R, WW43 h0 r h K = K r h) ∨ (∀ K : PV → Objs → R, WW43 h0 r h K = none) := by
  unfold WW43; split
  · exact h43_0_ok r h
  · exact .inl fun _ => rfl
def WW53 (h0 : Objs) (r : PV) (h : Objs) (K : PV → Objs → R) : R := match h0 with
  | [some [.int .i64 _, .int .i64 _, .int .i64 _, .sl true 1 _, .sl true 2 _, .bld 0 1], some [.mp _]] => h53_0 r h (fun b1 n2 n3 n4 l5 l6 l7 => K (.bool b1) [some [.int .i64 n2, .int .i64 n3, .int .i64 n4, .sl true 1 l5, .sl true 2 l6, .bld 0 1], some [.mp l7]])
  | [] => vB r fun b1 => K (.bool b1) h
  | _ => K r h
theorem WW53_ok (h0 : Objs) (r : PV) (h : Objs) : (∀ K : PV → Objs → R, WW53 h0 r h K = K r h) ∨ (∀ K : PV → Objs → R, WW53 h0 r h K = none) := by
  unfold WW53; split
  · exact h53_0_ok r h
  · exact one_ok (vB_ok r) h
  · exact .inl fun _ => rfl
def WW54 (h0 : Objs) (r : PV) (h : Objs) (K : PV → Objs → R) : R := match h0 with
  | [some [.int .i64 _, .int .i64 _, .int .i64 _, .sl true 1 _, .sl true 2 _, .bld 0 1], some [.mp _]] => h54_0 r h (fun b1 n2 n3 n4 l5 l6 l7 => K (.bool b1) [some [.int .i64 n2, .int .i64 n3, .int .i64 n4, .sl true 1 l5, .sl true 2 l6, .bld 0 1], some [.mp l7]])
  | [] => vB r fun b1 => K (.bool b1) h
  | _ => K r h
theorem WW54_ok (h0 : Objs) (r : PV) (h : Objs) : (∀ K : PV → Objs → R, WW54 h0 r h K = K r h) ∨ (∀ K : PV → Objs → R, WW54 h0 r h K = none) := by
  unfold WW54; split
  · exact h54_0_ok r h
  · exact one_ok (vB_ok r) h
  · exact .inl fun _ => rfl
def WW55 (h0 : Objs) (r : PV) (h : Objs) (K : PV → Objs → R) : R := match h0 with
  | [some [.int .i64 _, .int .i64 _, .int .i64 _, .sl true 1 _, .sl true 2 _, .bld 0 1], some [.mp _]] => h55_0 r h (fun b1 n2 n3 n4 l5 l6 l7 => K (.bool b1) [some [.int .i64 n2, .int .i64 n3, .int .i64 n4, .sl true 1 l5, .sl true 2 l6, .bld 0 1], some [.mp l7]])
  | [] => vB r fun b1 => K (.bool b1) h
  | _ => K r h
theorem WW55_ok (h0 : Objs) (r : PV) (h : Objs) : (∀ K : PV → Objs → R, WW55 h0 r h K = K r h) ∨ (∀ K : PV → Objs → R, WW55 h0 r h K = none) := by
  unfold WW55; split
  · exact h55_0_ok r h
  · exact one_ok (vB_ok r) h
  · exact .inl fun _ => rfl
def WW56 (h0 : Objs) (r : PV) (h : Objs) (K : PV → Objs → R) : R := match h0 with
  | [some [.int .i64 _, .int .i64 _, .int .i64 _, .sl true 1 _, .sl true 2 _, .bld 0 1], some [.mp _]] => h56_0 r h (fun n1 n2 n3 n4 l5 l6 l7 => K (.int .i64 n1) [some [.int .i64 n2, .int .i64 n3, .int .i64 n4, .sl true 1 l5, .sl true 2 l6, .bld 0 1], some [.mp l7]])
  | [] => vI .i64 r fun n1 => K (.int .i64 n1) h
  | _ => K r h
theorem WW56_ok (h0 : Objs) (r : PV) (h : Objs) : (∀ K : PV → Objs → R, WW56 h0 r h K = K r h) ∨ (∀ K : PV → Objs → R, WW56 h0 r h K = none) := by
  unfold WW56; split
  · exact h56_0_ok r h
  · exact one_ok (vI_ok .i64 r) h
  · exact .inl fun _ => rfl
def WW57 (h0 : Objs) (r : PV) (h : Objs) (K : PV → Objs → R) : R := match h0 with
  | [some [.int .i64 _, .int .i64 _, .int .i64 _, .sl true 1 _, .sl true 2 _]] => h57_0 r h (fun b1 n2 n3 n4 l5 l6 => K (.bool b1) [some [.int .i64 n2, .int .i64 n3, .int .i64 n4, .sl true 1 l5, .sl true 2 l6]])
  | [] => vB r fun b1 => K (.bool b1) h
  | _ => K r h
theorem WW57_ok (h0 : Objs) (r : PV) (h : Objs) : (∀ K : PV → Objs → R, WW57 h0 r h K = K r h) ∨ (∀ K : PV → Objs → R, WW57 h0 r h K = none) := by
  unfold WW57; split
  · exact h57_0_ok r h
  · exact one_ok (vB_ok r) h
  · exact .inl fun _ => rfl
def WW59 (h0 : Objs) (r : PV) (h : Objs) (K : PV → Objs → R) : R := match h0 with
  | [some _] => h59_0 r h (fun l1 => K (.tuple []) [some l1])
  | [] => w0 r (K (.tuple []) h)
  | _ => K r h
theorem WW59_ok (h0 : Objs) (r : PV) (h : Objs) : (∀ K : PV → Objs → R, WW59 h0 r h K = K r h) ∨ (∀ K : PV → Objs → R, WW59 h0 r h K = none) := by
  unfold WW59; split
  · exact h59_0_ok r h
  · exact w0_ok r h
  · exact .inl fun _ => rfl
def WW60 (h0 : Objs) (r : PV) (h : Objs) (K : PV → Objs → R) : R := match h0 with
  | [some _] => h60_0 r h (fun k1 l2 => K (.slh 0 0 k1 1) [some l2])
  | [] => vL false 1 r fun l1 => K (.sl false 1 l1) h
  | _ => K r h
theorem WW60_ok (h0 : Objs) (r : PV) (h : Objs) : (∀ K : PV → Objs → R, WW60 h0 r h K = K r h) ∨ (∀ K : PV → Objs → R, WW60 h0 r h K = none) := by
  unfold WW60; split
  · exact h60_0_ok r h
  · exact one_ok (vL_ok false 1 r) h
  · exact .inl fun _ => rfl
def WW61 (h0 : Objs) (r : PV) (h : Objs) (K : PV → Objs → R) : R := match h0 with
  | [some [.bld 103 0, .slT _]] => h61_0 r h (fun y1 => K (.tuple []) [some [.bld 103 0, .slT y1]])
  | [] => w0 r (K (.tuple []) h)
  | _ => K r h
theorem WW61_ok (h0 : Objs) (r : PV) (h : Objs) : (∀ K : PV → Objs → R, WW61 h0 r h K = K r h) ∨ (∀ K : PV → Objs → R, WW61 h0 r h K = none) := by
  unfold WW61; split
  · exact h61_0_ok r h
  · exact w0_ok r h
  · exact .inl fun _ => rfl
def WW65 (h0 : Objs) (r : PV) (h : Objs) (K : PV → Objs → R) : R := match h0 with
  | [some [.bld 103 0, .slT _]] => h65_0 r h (fun s1 l2 => K (.str s1) [some [.bld 103 0, .sl false 1 l2]])
  | [] => vS r fun s1 => K (.str s1) h
  | _ => K r h
theorem WW65_ok (h0 : Objs) (r : PV) (h : Objs) : (∀ K : PV → Objs → R, WW65 h0 r h K = K r h) ∨ (∀ K : PV → Objs → R, WW65 h0 r h K = none) := by
  unfold WW65; split
  · exact h65_0_ok r h
  · exact one_ok (vS_ok r) h
  · exact .inl fun _ => rfl
def WW77 (h0 : Objs) (r : PV) (h : Objs) (K : PV → Objs → R) : R := match h0 with
  | [some [.bld 103 0, .slT _]] => h77_0 r h (fun n1 y2 => K (.tuple [.int .i64 n1, .raw .nilIface]) [some [.bld 103 0, .slT y2]])
  | _ => K r h
theorem WW77_ok (h0 : Objs) (r : PV) (h : Objs) : (∀ K : PV → Objs → R, WW77 h0 r h K = K r h) ∨ (∀ K : PV → Objs → R, WW77 h0 r h K = none) := by
  unfold WW77; split
  · exact h77_0_ok r h
  · exact .inl fun _ => rfl
def WW79 (h0 : Objs) (r : PV) (h : Objs) (K : PV → Objs → R) : R := match h0 with
  | [some [.bld 103 0, .slT _]] => h79_0 r h (fun y1 => K (.raw .nilIface) [some [.bld 103 0, .slT y1]])
  | _ => K r h
theorem WW79_ok (h0 : Objs) (r : PV) (h : Objs) : (∀ K : PV → Objs → R, WW79 h0 r h K = K r h) ∨ (∀ K : PV → Objs → R, WW79 h0 r h K = none) := by
  unfold WW79; split
  · exact h79_0_ok r h
  · exact .inl fun _ => rfl
def WW109 (h0 : Objs) (r : PV) (h : Objs) (K : PV → Objs → R) : R := match h0 with
  | [some [.bld 103 0, .slT _]] => h109_0 r h (fun y1 => K (.tuple []) [some [.bld 103 0, .slT y1]])
  | [] => w0 r (K (.tuple []) h)
  | _ => K r h
theorem WW109_ok (h0 : Objs) (r : PV) (h : Objs) : (∀ K : PV → Objs → R, WW109 h0 r h K = K r h) ∨ (∀ K : PV → Objs → R, WW109 h0 r h K = none) := by
  unfold WW109; split
  · exact h109_0_ok r h
  · exact w0_ok r h
  · exact .inl fun _ => rfl
def WWp7 (g : FuncId) (h0 : Objs) (r : PV) (h : Objs) (K : PV → Objs → R) : R :=
  bsel (Nat.beq g 91) (vB r fun b1 => K (.bool b1) h)
    (bsel (Nat.beq g 92) (vB r fun b1 => K (.bool b1) h)
    (bsel (Nat.beq g 93) (vB r fun b1 => K (.bool b1) h)
    (bsel (Nat.beq g 94) (w_47_47 r fun n1 n2 => K (.tuple [.int .u64 n1, .int .u64 n2]) h)
    (bsel (Nat.beq g 109) (WW109 h0 r h K)
    (bsel (Nat.beq g 113) (w_150_150 r fun n1 n2 => K (.tuple [.int .u64 n1, .int .u64 n2]) h)
    (K r h))))))
theorem WWp7_ok (g : FuncId) (h0 : Objs) (r : PV) (h : Objs) : (∀ K : PV → Objs → R, WWp7 g h0 r h K = K r h) ∨ (∀ K : PV → Objs → R, WWp7 g h0 r h K = none) :=
  out_bsel (one_ok (vB_ok r) h) (out_bsel (one_ok (vB_ok r) h) (out_bsel (one_ok (vB_ok r) h) (out_bsel (w_47_47_ok r h) (out_bsel (WW109_ok h0 r h) (out_bsel (w_150_150_ok r h) (.inl fun _ => rfl))))))
def WWp6 (g : FuncId) (h0 : Objs) (r : PV) (h : Objs) (K : PV → Objs → R) : R :=
  bsel (Nat.beq g 78) (vS r fun s1 => K (.str s1) h)
    (bsel (Nat.beq g 79) (WW79 h0 r h K)
    (bsel (Nat.beq g 81) (vB r fun b1 => K (.bool b1) h)
    (bsel (Nat.beq g 82) (vB r fun b1 => K (.bool b1) h)
    (bsel (Nat.beq g 83) (vB r fun b1 => K (.bool b1) h)
    (bsel (Nat.beq g 84) (vB r fun b1 => K (.bool b1) h)
    (bsel (Nat.beq g 85) (vB r fun b1 => K (.bool b1) h)
    (bsel (Nat.beq g 86) (vB r fun b1 => K (.bool b1) h)
    (bsel (Nat.beq g 87) (vB r fun b1 => K (.bool b1) h)
    (bsel (Nat.beq g 88) (vB r fun b1 => K (.bool b1) h)
    (bsel (Nat.beq g 89) (vB r fun b1 => K (.bool b1) h)
    (bsel (Nat.beq g 90) (vB r fun b1 => K (.bool b1) h)
    (WWp7 g h0 r h K))))))))))))
theorem WWp6_ok (g : FuncId) (h0 : Objs) (r : PV) (h : Objs) : (∀ K : PV → Objs → R, WWp6 g h0 r h K = K r h) ∨ (∀ K : PV → Objs → R, WWp6 g h0 r h K = none) :=
  out_bsel (one_ok (vS_ok r) h) (out_bsel (WW79_ok h0 r h) (out_bsel (one_ok (vB_ok r) h) (out_bsel (one_ok (vB_ok r) h) (out_bsel (one_ok (vB_ok r) h) (out_bsel (one_ok (vB_ok r) h) (out_bsel (one_ok (vB_ok r) h) (out_bsel (one_ok (vB_ok r) h) (out_bsel (one_ok (vB_ok r) h) (out_bsel (one_ok (vB_ok r) h) (out_bsel (one_ok (vB_ok r) h) (out_bsel (one_ok (vB_ok r) h) (WWp7_ok g h0 r h))))))))))))
def WWp5 (g : FuncId) (h0 : Objs) (r : PV) (h : Objs) (K : PV → Objs → R) : R :=
  bsel (Nat.beq g 63) (vL false 5 r fun l1 => K (.sl false 5 l1) h)
    (bsel (Nat.beq g 64) (vS r fun s1 => K (.str s1) h)
    (bsel (Nat.beq g 65) (WW65 h0 r h K)
    (bsel (Nat.beq g 66) (vL true 1 r fun l1 => K (.sl true 1 l1) h)
    (bsel (Nat.beq g 67) (vI .i64 r fun n1 => K (.int .i64 n1) h)
    (bsel (Nat.beq g 68) (vL false 1 r fun l1 => K (.sl false 1 l1) h)
    (bsel (Nat.beq g 70) (vI .i64 r fun n1 => K (.int .i64 n1) h)
    (bsel (Nat.beq g 71) (vB r fun b1 => K (.bool b1) h)
    (bsel (Nat.beq g 72) (w_3_4 r fun n1 b2 => K (.tuple [.int .i64 n1, .bool b2]) h)
    (bsel (Nat.beq g 73) (w_3_4 r fun n1 b2 => K (.tuple [.int .i64 n1, .bool b2]) h)
    (bsel (Nat.beq g 74) (vL false 1 r fun l1 => K (.sl false 1 l1) h)
    (bsel (Nat.beq g 77) (WW77 h0 r h K)
    (WWp6 g h0 r h K))))))))))))
theorem WWp5_ok (g : FuncId) (h0 : Objs) (r : PV) (h : Objs) : (∀ K : PV → Objs → R, WWp5 g h0 r h K = K r h) ∨ (∀ K : PV → Objs → R, WWp5 g h0 r h K = none) :=
  out_bsel (one_ok (vL_ok false 5 r) h) (out_bsel (one_ok (vS_ok r) h) (out_bsel (WW65_ok h0 r h) (out_bsel (one_ok (vL_ok true 1 r) h) (out_bsel (one_ok (vI_ok .i64 r) h) (out_bsel (one_ok (vL_ok false 1 r) h) (out_bsel (one_ok (vI_ok .i64 r) h) (out_bsel (one_ok (vB_ok r) h) (out_bsel (w_3_4_ok r h) (out_bsel (w_3_4_ok r h) (out_bsel (one_ok (vL_ok false 1 r) h) (out_bsel (WW77_ok h0 r h) (WWp6_ok g h0 r h))))))))))))
def WWp4 (g : FuncId) (h0 : Objs) (r : PV) (h : Objs) (K : PV → Objs → R) : R :=
  bsel (Nat.beq g 51) (vI .i64 r fun n1 => K (.int .i64 n1) h)
    (bsel (Nat.beq g 52) (vL false 1 r fun l1 => K (.sl false 1 l1) h)
    (bsel (Nat.beq g 53) (WW53 h0 r h K)
    (bsel (Nat.beq g 54) (WW54 h0 r h K)
    (bsel (Nat.beq g 55) (WW55 h0 r h K)
    (bsel (Nat.beq g 56) (WW56 h0 r h K)
    (bsel (Nat.beq g 57) (WW57 h0 r h K)
    (bsel (Nat.beq g 58) (vL false 1 r fun l1 => K (.sl false 1 l1) h)
    (bsel (Nat.beq g 59) (WW59 h0 r h K)
    (bsel (Nat.beq g 60) (WW60 h0 r h K)
    (bsel (Nat.beq g 61) (WW61 h0 r h K)
    (bsel (Nat.beq g 62) (vS r fun s1 => K (.str s1) h)
    (WWp5 g h0 r h K))))))))))))
theorem WWp4_ok (g : FuncId) (h0 : Objs) (r : PV) (h : Objs) : (∀ K : PV → Objs → R, WWp4 g h0 r h K = K r h) ∨ (∀ K : PV → Objs → R, WWp4 g h0 r h K = none) :=
  out_bsel (one_ok (vI_ok .i64 r) h) (out_bsel (one_ok (vL_ok false 1 r) h) (out_bsel (WW53_ok h0 r h) (out_bsel (WW54_ok h0 r h) (out_bsel (WW55_ok h0 r h) (out_bsel (WW56_ok h0 r h) (out_bsel (WW57_ok h0 r h) (out_bsel (one_ok (vL_ok false 1 r) h) (out_bsel (WW59_ok h0 r h) (out_bsel (WW60_ok h0 r h) (out_bsel (WW61_ok h0 r h) (out_bsel (one_ok (vS_ok r) h) (WWp5_ok g h0 r h))))))))))))
def WWp3 (g : FuncId) (h0 : Objs) (r : PV) (h : Objs) (K : PV → Objs → R) : R :=
  bsel (Nat.beq g 39) (vL true 1 r fun l1 => K (.sl true 1 l1) h)
    (bsel (Nat.beq g 40) (WW40 h0 r h K)
    (bsel (Nat.beq g 41) (v32 r fun l1 l2 => K (.agg [.sl false 1 l1, .sl false 1 l2]) h)
    (bsel (Nat.beq g 42) (WW42 h0 r h K)
    (bsel (Nat.beq g 43) (WW43 h0 r h K)
    (bsel (Nat.beq g 44) (vL false 1 r fun l1 => K (.sl false 1 l1) h)
    (bsel (Nat.beq g 45) (vL false 1 r fun l1 => K (.sl false 1 l1) h)
    (bsel (Nat.beq g 46) (vL true 1 r fun l1 => K (.sl true 1 l1) h)
    (bsel (Nat.beq g 47) (vL false 1 r fun l1 => K (.sl false 1 l1) h)
    (bsel (Nat.beq g 48) (vB r fun b1 => K (.bool b1) h)
    (bsel (Nat.beq g 49) (vB r fun b1 => K (.bool b1) h)
    (bsel (Nat.beq g 50) (vI .i64 r fun n1 => K (.int .i64 n1) h)
    (WWp4 g h0 r h K))))))))))))
theorem WWp3_ok (g : FuncId) (h0 : Objs) (r : PV) (h : Objs) : (∀ K : PV → Objs → R, WWp3 g h0 r h K = K r h) ∨ (∀ K : PV → Objs → R, WWp3 g h0 r h K = none) :=
  out_bsel (one_ok (vL_ok true 1 r) h) (out_bsel (WW40_ok h0 r h) (out_bsel (one_ok (v32_ok r) h) (out_bsel (WW42_ok h0 r h) (out_bsel (WW43_ok h0 r h) (out_bsel (one_ok (vL_ok false 1 r) h) (out_bsel (one_ok (vL_ok false 1 r) h) (out_bsel (one_ok (vL_ok true 1 r) h) (out_bsel (one_ok (vL_ok false 1 r) h) (out_bsel (one_ok (vB_ok r) h) (out_bsel (one_ok (vB_ok r) h) (out_bsel (one_ok (vI_ok .i64 r) h) (WWp4_ok g h0 r h))))))))))))
def WWp2 (g : FuncId) (h0 : Objs) (r : PV) (h : Objs) (K : PV → Objs → R) : R :=
  bsel (Nat.beq g 27) (w_29_3_3 r fun n1 n2 n3 l4 l5 n6 n7 => K (.tuple [.agg [.int .i64 n1, .int .i64 n2, .int .i64 n3, .sl false 1 l4, .sl false 2 l5], .int .i64 n6, .int .i64 n7]) h)
    (bsel (Nat.beq g 28) (w_43_3 r fun l1 n2 => K (.tuple [.sl false 1 l1, .int .i64 n2]) h)
    (bsel (Nat.beq g 29) (w_43_3 r fun l1 n2 => K (.tuple [.sl false 1 l1, .int .i64 n2]) h)
    (bsel (Nat.beq g 30) (w_43_43_3 r fun l1 l2 n3 => K (.tuple [.sl false 1 l1, .sl false 1 l2, .int .i64 n3]) h)
    (bsel (Nat.beq g 31) (vB r fun b1 => K (.bool b1) h)
    (bsel (Nat.beq g 32) (vB r fun b1 => K (.bool b1) h)
    (bsel (Nat.beq g 33) (vB r fun b1 => K (.bool b1) h)
    (bsel (Nat.beq g 34) (vI .i64 r fun n1 => K (.int .i64 n1) h)
    (bsel (Nat.beq g 35) (w_9_3 r fun s1 n2 => K (.tuple [.str s1, .int .i64 n2]) h)
    (bsel (Nat.beq g 36) (v29 r fun n1 n2 n3 l4 l5 => K (.agg [.int .i64 n1, .int .i64 n2, .int .i64 n3, .sl false 1 l4, .sl false 2 l5]) h)
    (bsel (Nat.beq g 37) (v29 r fun n1 n2 n3 l4 l5 => K (.agg [.int .i64 n1, .int .i64 n2, .int .i64 n3, .sl false 1 l4, .sl false 2 l5]) h)
    (bsel (Nat.beq g 38) (vB r fun b1 => K (.bool b1) h)
    (WWp3 g h0 r h K))))))))))))
theorem WWp2_ok (g : FuncId) (h0 : Objs) (r : PV) (h : Objs) : (∀ K : PV → Objs → R, WWp2 g h0 r h K = K r h) ∨ (∀ K : PV → Objs → R, WWp2 g h0 r h K = none) :=
  out_bsel (w_29_3_3_ok r h) (out_bsel (w_43_3_ok r h) (out_bsel (w_43_3_ok r h) (out_bsel (w_43_43_3_ok r h) (out_bsel (one_ok (vB_ok r) h) (out_bsel (one_ok (vB_ok r) h) (out_bsel (one_ok (vB_ok r) h) (out_bsel (one_ok (vI_ok .i64 r) h) (out_bsel (w_9_3_ok r h) (out_bsel (one_ok (v29_ok r) h) (out_bsel (one_ok (v29_ok r) h) (out_bsel (one_ok (vB_ok r) h) (WWp3_ok g h0 r h))))))))))))
def WWp1 (g : FuncId) (h0 : Objs) (r : PV) (h : Objs) (K : PV → Objs → R) : R :=
  bsel (Nat.beq g 15) (w_40_3 r fun l1 n2 => K (.tuple [.sl false 2 l1, .int .i64 n2]) h)
    (bsel (Nat.beq g 16) (w_32_43 r fun l1 l2 l3 => K (.tuple [.agg [.sl false 1 l1, .sl false 1 l2], .sl false 1 l3]) h)
    (bsel (Nat.beq g 17) (w_32_3 r fun l1 l2 n3 => K (.tuple [.agg [.sl false 1 l1, .sl false 1 l2], .int .i64 n3]) h)
    (bsel (Nat.beq g 18) (w_43_3 r fun l1 n2 => K (.tuple [.sl false 1 l1, .int .i64 n2]) h)
    (bsel (Nat.beq g 19) (vB r fun b1 => K (.bool b1) h)
    (bsel (Nat.beq g 20) (w_29_3 r fun n1 n2 n3 l4 l5 n6 => K (.tuple [.agg [.int .i64 n1, .int .i64 n2, .int .i64 n3, .sl false 1 l4, .sl false 2 l5], .int .i64 n6]) h)
    (bsel (Nat.beq g 21) (vL false 1 r fun l1 => K (.sl false 1 l1) h)
    (bsel (Nat.beq g 22) (vB r fun b1 => K (.bool b1) h)
    (bsel (Nat.beq g 23) (vB r fun b1 => K (.bool b1) h)
    (bsel (Nat.beq g 24) (vB r fun b1 => K (.bool b1) h)
    (bsel (Nat.beq g 25) (vI .i64 r fun n1 => K (.int .i64 n1) h)
    (bsel (Nat.beq g 26) (w_29_3_3 r fun n1 n2 n3 l4 l5 n6 n7 => K (.tuple [.agg [.int .i64 n1, .int .i64 n2, .int .i64 n3, .sl false 1 l4, .sl false 2 l5], .int .i64 n6, .int .i64 n7]) h)
    (WWp2 g h0 r h K))))))))))))
theorem WWp1_ok (g : FuncId) (h0 : Objs) (r : PV) (h : Objs) : (∀ K : PV → Objs → R, WWp1 g h0 r h K = K r h) ∨ (∀ K : PV → Objs → R, WWp1 g h0 r h K = none) :=
  out_bsel (w_40_3_ok r h) (out_bsel (w_32_43_ok r h) (out_bsel (w_32_3_ok r h) (out_bsel (w_43_3_ok r h) (out_bsel (one_ok (vB_ok r) h) (out_bsel (w_29_3_ok r h) (out_bsel (one_ok (vL_ok false 1 r) h) (out_bsel (one_ok (vB_ok r) h) (out_bsel (one_ok (vB_ok r) h) (out_bsel (one_ok (vB_ok r) h) (out_bsel (one_ok (vI_ok .i64 r) h) (out_bsel (w_29_3_3_ok r h) (WWp2_ok g h0 r h))))))))))))
def WWp0 (g : FuncId) (h0 : Objs) (r : PV) (h : Objs) (K : PV → Objs → R) : R :=
  bsel (Nat.beq g 3) (vB r fun b1 => K (.bool b1) h)
    (bsel (Nat.beq g 4) (vB r fun b1 => K (.bool b1) h)
    (bsel (Nat.beq g 5) (vB r fun b1 => K (.bool b1) h)
    (bsel (Nat.beq g 6) (vB r fun b1 => K (.bool b1) h)
    (bsel (Nat.beq g 7) (vB r fun b1 => K (.bool b1) h)
    (bsel (Nat.beq g 8) (vB r fun b1 => K (.bool b1) h)
    (bsel (Nat.beq g 9) (vB r fun b1 => K (.bool b1) h)
    (bsel (Nat.beq g 10) (vB r fun b1 => K (.bool b1) h)
    (bsel (Nat.beq g 11) (v29 r fun n1 n2 n3 l4 l5 => K (.agg [.int .i64 n1, .int .i64 n2, .int .i64 n3, .sl false 1 l4, .sl false 2 l5]) h)
    (bsel (Nat.beq g 12) (w_32_3 r fun l1 l2 n3 => K (.tuple [.agg [.sl false 1 l1, .sl false 1 l2], .int .i64 n3]) h)
    (bsel (Nat.beq g 13) (vB r fun b1 => K (.bool b1) h)
    (bsel (Nat.beq g 14) (vL false 1 r fun l1 => K (.sl false 1 l1) h)
    (WWp1 g h0 r h K))))))))))))
theorem WWp0_ok (g : FuncId) (h0 : Objs) (r : PV) (h : Objs) : (∀ K : PV → Objs → R, WWp0 g h0 r h K = K r h) ∨ (∀ K : PV → Objs → R, WWp0 g h0 r h K = none) :=
  out_bsel (one_ok (vB_ok r) h) (out_bsel (one_ok (vB_ok r) h) (out_bsel (one_ok (vB_ok r) h) (out_bsel (one_ok (vB_ok r) h) (out_bsel (one_ok (vB_ok r) h) (out_bsel (one_ok (vB_ok r) h) (out_bsel (one_ok (vB_ok r) h) (out_bsel (one_ok (vB_ok r) h) (out_bsel (one_ok (v29_ok r) h) (out_bsel (w_32_3_ok r h) (out_bsel (one_ok (vB_ok r) h) (out_bsel (one_ok (vL_ok false 1 r) h) (WWp1_ok g h0 r h))))))))))))
def WW : FuncId → Objs → PV → Objs → (PV → Objs → R) → R := WWp0
theorem WW_ok : outOK WW := WWp0_ok
def prmT (g : FuncId) : Prm := match g with
  | 3 => ⟨[0, 1, 2, 5, 6, 7, 8, 9, 10, 11, 13, 14], [47, 64], [], [(0, [0, 2]), (1, [1]), (8, [1]), (10, [2])], [(4, [1, 2]), (8, [1, 5, 6]), (12, [1, 5, 6, 8, 9]), (11, [1, 5, 6, 8, 9]), (13, [1, 5, 6, 8]), (17, [5, 6, 8, 10]), (20, [5, 6, 8, 10, 14]), (19, [5, 6, 8, 10, 14]), (23, [])], [(10, [1, 5, 6, 8, 9]), (18, [5, 6, 8, 10, 14])], [(2, [0, 2]), (5, [0, 0, 0, 1, 2]), (6, [1, 1])], [2], [], [], [], [96, 103]⟩
  | 4 => ⟨[0, 1, 2, 3, 7, 8, 9, 10, 11, 12, 13, 14, 16, 18, 20], [], [9, 13, 15, 17], [(0, [0, 2]), (11, [1]), (14, [1])], [(4, [1, 2, 3]), (11, [2, 7, 8])], [], [(3, [0, 2]), (7, [0, 0, 0, 1, 2]), (8, [1, 1]), (9, [1, 1]), (13, [1, 1])], [3], [], [], [], [9, 13, 15, 17, 34, 35, 43, 44, 52, 53, 79, 80, 93, 96, 103, 105, 1000000, 1000001]⟩
  | 5 => ⟨[0, 1, 3, 4, 5, 6, 7, 8, 9, 10, 11, 12], [92], [28], [(0, [0, 2]), (6, [1]), (7, [1])], [(4, [1, 7]), (12, [3, 4, 5, 6, 7, 8, 9]), (11, [3, 4, 5, 6, 7, 8, 9]), (15, [3, 4, 5, 6, 7, 8]), (21, [3, 4, 5, 6, 7, 10, 11]), (24, [3, 4, 5, 6, 7, 10, 11, 12]), (20, [3, 4, 5, 6, 7, 10, 11]), (26, [4, 5, 7, 10])], [(10, [3, 4, 5, 6, 7, 8, 9]), (19, [3, 4, 5, 6, 7, 10, 11])], [(1, [0, 2]), (3, [0, 0, 0, 1, 2]), (4, [0, 0, 0, 1, 2]), (10, [0, 0, 0, 1, 2])], [1], [], [], [39, 57, 78], []⟩
  | 6 => ⟨[0, 3, 4, 5, 6, 7, 8], [], [], [], [(4, [0])], [], [(3, [0, 0, 0, 1, 2]), (6, [0, 0, 0, 1, 2])], [], [], [], [], []⟩
  | 7 => ⟨[0, 1, 3, 4, 5, 6, 7, 8, 9, 10, 11, 12, 13, 14, 15, 16, 17, 18, 19, 20], [55, 62, 130, 135], [], [(0, [0, 2]), (4, [1]), (6, [1]), (8, [1]), (9, [1]), (11, [1]), (12, [1]), (13, [1]), (14, [1]), (15, [1])], [(4, [1]), (13, [3, 4, 5, 6, 7, 8, 9, 10, 11, 12, 13, 14, 15, 16]), (15, [3, 4, 5, 6, 7, 8, 9, 10, 11, 12, 13, 14, 15, 16]), (12, [3, 4, 5, 6, 7, 8, 9, 10, 11, 12, 13, 14, 15, 16]), (17, [3, 4, 5, 6, 7, 8, 9, 10, 11, 12, 13, 14, 15]), (20, [3, 4, 5, 6, 7, 8, 9, 10, 11, 12, 13, 14, 15, 17]), (24, [3, 4, 5, 6, 7, 8, 9, 10, 11, 12, 13, 14, 15, 17, 18, 19, 20]), (23, [3, 4, 5, 6, 7, 8, 9, 10, 11, 12, 13, 14, 15, 17, 18, 19, 20]), (26, [3, 4, 5, 6, 7, 8, 9, 10, 11, 12, 13, 14, 15, 17, 18, 19]), (28, [3, 4, 5, 6, 7, 8, 9, 10, 11, 12, 13, 14, 15, 17, 19]), (19, [3, 4, 5, 6, 7, 8, 9, 10, 11, 12, 13, 14, 15, 17]), (30, [4, 5, 6, 7, 8, 9, 10, 12, 13, 14, 15])], [(11, [3, 4, 5, 6, 7, 8, 9, 10, 11, 12, 13, 14, 15, 16]), (18, [3, 4, 5, 6, 7, 8, 9, 10, 11, 12, 13, 14, 15, 17]), (22, [3, 4, 5, 6, 7, 8, 9, 10, 11, 12, 13, 14, 15, 17, 18, 19, 20])], [(1, [0, 2]), (3, [0, 0, 0, 1, 2])], [1], [], [], [], []⟩
  | 8 => ⟨[0, 1, 2, 5, 6, 7, 8, 9, 10, 11, 12, 13, 14, 15, 17, 18, 19, 20, 21, 23, 24, 25, 26, 27, 28, 29, 30, 131, 132, 133], [52], [], [(0, [0, 2]), (1, [1]), (8, [1]), (10, [2]), (12, [2]), (14, [1]), (17, [1]), (25, [1]), (29, [1]), (30, [1]), (131, [1])], [(4, [1, 2]), (10, [1, 5, 6, 7, 8, 9]), (9, [1, 5, 6, 7, 8, 9]), (11, [1, 5, 6, 7, 8]), (18, [5, 8, 10, 12, 17, 19]), (21, [5, 8, 10, 12, 19, 21, 131, 132, 133, 7000021]), (24, [5, 8, 10, 12, 19, 21, 23, 131, 132, 133, 7000021]), (25, [5, 8, 10, 12, 19, 21, 131, 132, 133, 7000021]), (26, [5, 8, 10, 12, 19, 21, 7000021]), (29, [5, 8, 10, 12, 19, 21, 24, 7000021]), (32, [5, 8, 10, 12, 19, 21, 24, 25, 7000021]), (35, [5, 8, 10, 12, 19, 21, 24, 25, 27, 7000021]), (34, [5, 8, 10, 12, 19, 21, 24, 25, 27, 7000021]), (37, [5, 8, 10, 12, 19, 21, 24, 7000021]), (40, [5, 8, 10, 12, 19, 21, 24, 28, 7000021]), (39, [5, 8, 10, 12, 19, 21, 24, 28, 7000021]), (43, [5, 8, 10, 12, 19, 21, 24, 7000021]), (28, [5, 8, 10, 12, 19, 21, 24, 7000021]), (44, [])], [(8, [1, 5, 6, 7, 8, 9]), (20, [5, 8, 10, 12, 19, 21, 131, 132, 133, 7000021]), (27, [5, 8, 10, 12, 19, 21, 24, 7000021]), (33, [5, 8, 10, 12, 19, 21, 24, 25, 27, 7000021]), (38, [5, 8, 10, 12, 19, 21, 24, 28, 7000021])], [(2, [0, 2]), (5, [0, 0, 0, 1, 2]), (6, [0, 0, 0, 1, 2]), (19, [1, 1])], [2], [], [], [144, 236], [158, 168, 172, 181, 190, 203, 208, 226, 232, 243, 247]⟩
  | 9 => ⟨[0, 1, 3, 4, 5, 6, 7, 8, 9, 10, 11, 12, 13, 14, 15, 16, 17, 18, 19, 20, 21, 22], [], [], [(0, [0, 0, 0, 1, 2]), (8, [2]), (10, [1]), (12, [1]), (14, [1]), (18, [1]), (19, [1])], [(4, [1]), (7, [1, 3]), (9, [1, 3])], [], [(1, [0, 0, 0, 1, 2]), (4, [1, 1]), (6, [1, 1]), (16, [0, 0, 0, 1, 2])], [1], [], [], [], []⟩
  | 10 => ⟨[1, 2, 3, 4, 5, 6, 7, 8, 9, 10], [], [], [(1, [2]), (4, [1]), (7, [1])], [(10, [1, 4, 5, 7, 8, 9, 10])], [], [(3, [0, 0, 0, 1, 2]), (6, [0, 0, 0, 1, 2])], [], [], [], [], []⟩
  | 11 => ⟨[0, 1, 2, 3, 4, 5, 6], [82], [], [(0, [0, 2])], [(7, [1, 2, 3, 4, 5]), (12, [1, 2, 3, 4, 5, 6]), (6, [1, 2, 3, 4, 5]), (13, [2, 3])], [(5, [1, 2, 3, 4, 5])], [(1, [0, 2]), (2, [0, 0, 0, 1, 2]), (3, [0, 0, 0, 1, 2])], [1], [([0, 0, 0, 1, 2], true)], [], [], [31, 35, 40, 44]⟩
  | 12 => ⟨[0, 1, 2, 4], [], [], [(0, [0, 0, 0, 1, 2])], [(5, [1, 2])], [], [(1, [0, 0, 0, 1, 2]), (2, [1, 1])], [1], [([1, 1], true), ([], true)], [], [], [12, 16]⟩
  | 13 => ⟨[0, 1, 2, 3], [], [], [(0, [1, 1]), (1, [1, 1])], [], [], [(2, [1, 1]), (3, [1, 1])], [2, 3], [], [], [], []⟩
  | 14 => ⟨[0, 1, 5, 6], [12], [], [(5, [1])], [(6, [0, 1, 5, 6]), (5, [0, 1, 5, 6]), (7, [5])], [(4, [0, 1, 5, 6])], [], [], [([1], false)], [], [], []⟩
  | 15 => ⟨[0, 1, 2, 6, 7, 8, 10, 11, 20, 21, 22], [44], [37], [(0, [0, 0, 0, 1, 2]), (1, [1]), (8, [2]), (10, [1]), (11, [1]), (20, [1])], [(5, [1, 2, 6]), (8, [2, 6, 8, 20, 21, 22]), (11, [2, 6, 8, 10, 20, 21, 22]), (15, [2, 6, 8, 20, 21, 22]), (16, [8])], [(7, [2, 6, 8, 20, 21, 22])], [(2, [0, 0, 0, 1, 2]), (6, [1, 1])], [2], [([2], false), ([], true)], [(13, [1000011])], [40], []⟩
  | 16 => ⟨[0, 1, 2, 3, 4, 6, 8, 9, 10, 11], [], [5000012], [(0, [0, 0, 0, 1, 2]), (1, [1, 1]), (2, [1]), (8, [1]), (9, [1])], [], [], [(3, [0, 0, 0, 1, 2]), (4, [1, 1]), (6, [1, 1])], [3, 4], [([1, 1], true), ([1], false)], [(3, [3500008]), (4, [1000008])], [23], [16, 19, 25, 27, 29]⟩
  | 17 => ⟨[0, 1, 2, 3, 4, 6, 8, 9], [], [], [(0, [0, 0, 0, 1, 2]), (1, [1, 1]), (2, [1]), (8, [1])], [(5, [3, 6, 8])], [], [(3, [0, 0, 0, 1, 2]), (4, [1, 1]), (6, [1, 1])], [3, 4], [([1, 1], true), ([], true)], [(6, [1000008])], [14, 23, 6000014], [14]⟩
  | 18 => ⟨[0, 1, 2, 3, 4, 8, 9], [], [], [(0, [0, 0, 0, 1, 2]), (1, [1, 1]), (2, [1]), (8, [1])], [(5, [3, 8])], [], [(3, [0, 0, 0, 1, 2]), (4, [1, 1])], [3, 4], [([1], false), ([], true)], [], [14, 22, 6000014], [14]⟩
  | 19 => ⟨[0, 1, 5], [], [], [(0, [1]), (1, [1])], [(4, [0, 1]), (7, [0, 1, 5]), (6, [0, 1, 5]), (9, [])], [(5, [0, 1, 5])], [], [], [], [], [], [20, 24]⟩
  | 20 => ⟨[0, 1, 2, 4, 5, 6, 7, 8, 9, 10, 11, 12, 39, 40, 41, 79, 80, 81], [64], [37], [(0, [0, 0, 0, 1, 2]), (5, [1]), (6, [1]), (8, [1]), (39, [2]), (79, [2])], [(5, [1, 2]), (10, [1, 2, 5, 6, 7, 8, 39, 40, 41]), (14, [1, 2, 5, 6, 7, 8, 39, 40, 41]), (15, [1, 2, 7, 8]), (18, [2, 7, 8, 79, 80, 81]), (21, [2, 7, 8, 79, 80, 81]), (22, [2, 7])], [(9, [1, 2, 5, 6, 7, 8, 39, 40, 41]), (17, [2, 7, 8, 79, 80, 81])], [(1, [0, 0, 0, 1, 2]), (2, [0, 0, 0, 1, 2]), (7, [0, 0, 0, 0, 1000002])], [1], [([0, 0, 0, 1, 2], true), ([], true)], [(16, [4000704]), (22, [5000704])], [51, 77, 84, 95, 97, 98], [19, 21, 24, 26, 28, 30]⟩
  | 21 => ⟨[0, 1, 3, 4, 5, 6], [], [11], [(0, [0, 0, 0, 1, 2]), (3, [1]), (5, [1])], [(7, [1, 3, 4]), (11, [1, 3, 4, 5, 6]), (10, [1, 3, 4, 5, 6]), (6, [1, 3, 4]), (12, [3])], [(5, [1, 3, 4]), (9, [1, 3, 4, 5, 6])], [(1, [0, 0, 0, 1, 2])], [1], [([1], false)], [(12, [1000003])], [13, 31, 41], []⟩
  | 22 => ⟨[0, 1, 2], [], [], [(0, [0, 0, 0, 1, 2])], [], [], [(2, [0, 0, 0, 1, 2])], [2], [], [], [], [5, 9, 12, 16, 20, 24, 28]⟩
  | 23 => ⟨[0], [], [], [], [], [], [], [], [], [], [], []⟩
  | 24 => ⟨[0, 1, 2, 3, 5], [], [], [(0, [0, 0, 0, 1, 2]), (1, [0, 0, 0, 1, 2])], [(4, [2, 3]), (7, [2, 3, 5]), (6, [2, 3, 5]), (9, [])], [(5, [2, 3, 5])], [(2, [0, 0, 0, 1, 2]), (3, [0, 0, 0, 1, 2])], [2, 3], [], [], [], [50, 53, 55, 58]⟩
  | 25 => ⟨[0, 1, 3, 4, 5, 13, 14], [], [], [(0, [0, 0, 0, 1, 2])], [(5, [1]), (7, [1, 13, 14]), (11, [1, 13, 14]), (12, [])], [(6, [1, 13, 14])], [(1, [0, 0, 0, 1, 2])], [1], [], [], [], []⟩
  | 26 => ⟨[0, 2, 5, 6, 7, 8, 9, 10, 11, 35, 36, 37], [], [32], [(5, [1]), (35, [1])], [(4, [0, 2]), (6, [0, 2]), (12, [2, 5, 6, 7, 35, 36, 37]), (18, [2, 5, 6, 7, 8, 9, 10, 35, 36, 37]), (20, [2, 5, 6, 7, 35, 36, 37]), (21, [2, 5, 6, 7]), (23, [2, 7]), (26, [2, 7])], [(11, [2, 5, 6, 7, 35, 36, 37])], [(2, [0, 0, 0, 1, 2]), (7, [0, 0, 0, 1, 2])], [], [([0, 0, 0, 1, 2], true), ([], true), ([], true)], [], [], []⟩
  | 27 => ⟨[0, 2, 5, 6, 7, 8], [], [], [], [(4, [0, 2]), (6, [0, 2]), (10, [0, 2, 5, 6]), (12, [0, 2, 5, 6, 7]), (13, [0, 2, 5, 6, 7]), (15, [0, 2, 5, 6, 7]), (9, [0, 2, 5, 6]), (18, [2, 5]), (21, [2, 5])], [(8, [0, 2, 5, 6]), (11, [0, 2, 5, 6, 7])], [(2, [0, 0, 0, 1, 2]), (5, [0, 0, 0, 1, 2])], [], [([0, 0, 0, 1, 2], true), ([], true), ([], true)], [], [], []⟩
  | 28 => ⟨[0, 1, 4, 5, 6, 7, 18, 19, 20], [27], [], [(0, [0, 0, 0, 1, 2]), (5, [1]), (18, [1])], [(5, [1]), (8, [5, 18, 19, 20]), (11, [5, 18, 19, 20]), (12, [5])], [(7, [5, 18, 19, 20])], [(1, [0, 0, 0, 1, 2])], [1], [([1], false), ([], true)], [], [], [13, 16]⟩
  | 29 => ⟨[0, 1, 4, 5, 6, 7, 14, 15, 16], [22], [], [(0, [0, 0, 0, 1, 2]), (5, [1]), (14, [1])], [(5, [1]), (8, [5, 14, 15, 16]), (11, [5, 14, 15, 16]), (12, [5])], [(7, [5, 14, 15, 16])], [(1, [0, 0, 0, 1, 2])], [1], [([1], false), ([], true)], [], [], []⟩
  | 30 => ⟨[0, 1, 2, 3, 5, 6, 7, 8, 17, 18, 19], [24, 44], [], [(0, [0, 0, 0, 1, 2]), (2, [1000001]), (3, [1000001]), (6, [1]), (17, [2])], [(5, [1, 2, 3]), (8, [2, 3, 6, 17, 18, 19]), (13, [2, 3, 6, 17, 18, 19]), (14, [2, 3])], [(7, [2, 3, 6, 17, 18, 19])], [(1, [0, 0, 0, 1, 2])], [1], [([1], false), ([1], false), ([], true)], [(0, [1000002, 1000003]), (14, [3000002, 3000003])], [51, 53, 55, 57], []⟩
  | 31 => ⟨[0], [], [], [], [], [], [], [], [], [], [], []⟩
  | 32 => ⟨[0], [], [], [], [], [], [], [], [], [], [], []⟩
  | 33 => ⟨[0, 1], [], [], [(0, [0, 0, 0, 1, 2])], [], [], [(1, [0, 0, 0, 1, 2])], [1], [], [], [], []⟩
  | 34 => ⟨[0, 1, 3, 4, 5, 6], [], [], [(0, [0, 0, 0, 1, 2]), (3, [1])], [(6, [1, 3, 4]), (5, [1, 3, 4]), (8, [1]), (10, [1]), (12, [1]), (15, [1, 5]), (14, [1, 5]), (24, [])], [(4, [1, 3, 4]), (13, [1, 5])], [(1, [0, 0, 0, 1, 2])], [1], [], [], [], []⟩
  | 35 => ⟨[0, 1, 4, 5, 6, 7, 8, 9, 11, 12, 13, 38, 39, 40, 59, 60, 61], [], [5, 36], [(0, [0, 0, 0, 1, 2]), (6, [1]), (9, [5]), (38, [1]), (59, [2])], [(5, [1]), (11, [1, 5, 6, 38, 39, 40]), (15, [1, 5, 6, 38, 39, 40]), (16, [1, 5, 6]), (17, [1, 5]), (20, [1, 5, 9, 59, 60, 61]), (25, [1, 5, 9, 12, 13, 59, 60, 61, 7000012]), (26, [1, 5, 9, 59, 60, 61]), (27, [5])], [(10, [1, 5, 6, 38, 39, 40]), (19, [1, 5, 9, 59, 60, 61])], [(1, [0, 0, 0, 1, 2]), (5, [0, 1])], [1], [], [(16, [1000006])], [29, 47, 51], [20, 23, 26]⟩
  | 36 => ⟨[0], [], [], [], [], [], [(0, [0, 0, 0, 1, 2])], [], [([0, 0, 0, 1, 2], true)], [], [], []⟩
  | 37 => ⟨[0, 2], [], [], [(0, [2])], [], [], [(2, [0, 0, 0, 1, 2])], [], [([0, 0, 0, 1, 2], true)], [], [], []⟩
  | 38 => ⟨[0, 1, 5], [], [], [(0, [1]), (1, [1])], [(4, [0, 1]), (7, [0, 1, 5]), (6, [0, 1, 5]), (9, [])], [(5, [0, 1, 5])], [], [], [], [], [], [20, 24]⟩
  | 39 => ⟨[0, 3, 5, 6, 8, 9, 10, 11, 25, 26, 27], [31, 35], [], [(0, [1]), (5, [1]), (6, [1]), (8, [1]), (9, [1]), (25, [1])], [(5, [0, 3, 9, 10, 11]), (9, [0, 3, 9, 10, 11]), (10, [0, 3]), (13, [6, 25, 26, 27]), (15, [6, 25, 26, 27]), (16, [6])], [(4, [0, 3, 9, 10, 11]), (12, [6, 25, 26, 27])], [], [], [([1], true)], [], [9000024], []⟩
  | 40 => ⟨[0, 1, 2, 5, 6, 7, 8, 9, 10], [17], [], [(0, [0, 0, 0, 1, 2]), (1, [1]), (5, [5]), (6, [1])], [(7, [1, 2, 5, 6, 7, 8]), (17, [1, 6])], [(6, [1, 2, 5, 6, 7, 8])], [(2, [0, 0, 0, 1, 2])], [2], [([1], false)], [], [44, 60, 63, 2000046, 2000062, 2000068], []⟩
  | 41 => ⟨[0, 1, 2, 4, 5], [], [], [(0, [0, 0, 0, 1, 2]), (1, [1])], [], [], [(2, [0, 0, 0, 1, 2]), (4, [1, 1])], [2], [([1, 1], true)], [], [], [13]⟩
  | 42 => ⟨[0, 1, 2, 5, 6, 7, 8, 9, 27], [20], [], [(0, [0, 0, 0, 1, 2]), (1, [1]), (5, [1])], [(6, [1, 2, 5, 6, 7]), (38, [1, 2, 5, 6, 9]), (39, [1, 5])], [(5, [1, 2, 5, 6, 7])], [(2, [0, 0, 0, 1, 2])], [2], [([1], false)], [], [33, 40, 50, 60, 71, 81, 91, 99, 108, 113, 122, 128], []⟩
  | 43 => ⟨[0, 1, 2, 3, 4, 8], [], [41], [(0, [0, 0, 0, 1, 2]), (1, [1, 1]), (2, [1])], [(5, [2, 3, 4]), (7, [2, 4])], [], [(3, [0, 0, 0, 1, 2]), (4, [1, 1])], [3, 4], [([1], false), ([], true)], [], [], []⟩
  | 44 => ⟨[0, 1, 3, 4, 5, 14, 15, 16], [], [10], [(0, [0, 0, 0, 1, 2]), (3, [1]), (14, [2])], [(6, [3, 14, 15, 16]), (8, [3, 4, 5, 14, 15, 16]), (10, [3, 4, 5, 14, 15, 16]), (12, [3, 14, 15, 16]), (13, [3])], [(5, [3, 14, 15, 16])], [(1, [0, 0, 0, 1, 2])], [1], [([1], false)], [(13, [1000003])], [12, 23, 32, 39], []⟩
  | 45 => ⟨[0, 1, 3, 4, 5, 6, 7, 8, 9, 10, 11, 105, 106, 107], [], [18, 30, 51, 107], [(0, [0, 0, 0, 1, 2]), (4, [1]), (5, [1]), (6, [1]), (9, [1]), (105, [1])], [(10, [1, 4, 5, 6, 7]), (22, [1, 4, 5, 6, 7, 9, 105, 106, 107]), (24, [1, 4, 5, 6, 7, 9, 105, 106, 107]), (25, [1, 4, 5, 6, 7, 9]), (9, [1, 4, 5, 6, 7]), (26, [5])], [(8, [1, 4, 5, 6, 7]), (21, [1, 4, 5, 6, 7, 9, 105, 106, 107])], [(1, [0, 0, 0, 1, 2])], [1], [([1], false)], [(25, [1000009]), (26, [1000005])], [26, 49, 59, 79, 83, 87, 95, 104, 116, 121, 126], [21]⟩
  | 46 => ⟨[0], [], [], [(0, [1])], [(4, [0])], [], [], [], [([1], true)], [], [], []⟩
  | 47 => ⟨[0, 1, 2, 5], [], [], [(0, [0, 0, 0, 1, 2])], [(7, [1])], [], [(2, [0, 0, 0, 1, 2])], [2], [([1], false)], [], [], []⟩
  | 48 => ⟨[0], [], [], [], [], [], [], [], [], [], [], []⟩
  | 49 => ⟨[0, 1, 2, 3, 7, 8, 9], [], [], [(0, [0, 0, 0, 1, 2]), (8, [1])], [(4, [1, 2, 3]), (7, [1, 2, 3, 7]), (9, [1, 2, 3]), (13, [2, 3, 8, 9]), (12, [2, 3, 8, 9]), (15, [])], [(11, [2, 3, 8, 9])], [(3, [0, 0, 0, 1, 2])], [3], [], [], [], [47, 51]⟩
  | 50 => ⟨[0, 1, 4, 11, 12], [], [], [(0, [0, 0, 0, 1, 2])], [(4, [1, 11, 12]), (7, [1, 11, 12]), (8, [1]), (12, [])], [(3, [1, 11, 12])], [(1, [0, 0, 0, 1, 2])], [1], [], [], [14], []⟩
  | 51 => ⟨[0, 1, 2, 5, 6, 7], [], [], [(0, [0, 0, 0, 1, 2]), (6, [5])], [(6, [1, 2, 5, 6]), (10, []), (11, [2, 5, 7, 7000007]), (13, [2, 5, 7, 7000007]), (15, [])], [], [(2, [0, 0, 0, 1, 2])], [2], [], [], [], [51]⟩
  | 52 => ⟨[0, 1], [], [], [], [], [], [], [], [([1], false)], [], [], []⟩
  | 53 => ⟨[0, 1, 3, 5, 6, 7, 8, 9, 10, 11, 33], [106], [], [(1, [1]), (5, [5])], [(4, [0, 3]), (8, [0, 3, 5, 6]), (13, [0, 5, 6, 7, 8]), (21, [0, 5, 6, 7, 8, 9]), (22, [0, 5, 6, 7, 8, 9]), (25, [0, 5, 6, 8, 9, 10]), (27, [0, 5, 6, 8, 10])], [], [(0, [0, 0, 0, 1, 2, 0]), (3, [1])], [3], [], [], [], [111]⟩
  | 54 => ⟨[0, 1, 5, 6, 7, 8, 30, 31], [], [], [(1, [1])], [(4, [0, 1]), (6, [1, 30, 31]), (10, [1, 6, 7, 30, 31]), (11, [1, 30, 31]), (12, [])], [(5, [1, 30, 31])], [(0, [0, 0, 0, 1, 2, 0])], [], [], [], [34], []⟩
  | 55 => ⟨[0, 1, 6, 25, 26], [40], [], [(1, [1])], [(4, [0, 1]), (6, [0, 25, 26]), (9, [0, 6, 25]), (10, [])], [(5, [0, 25])], [(0, [0, 0, 0, 1, 2, 0])], [], [], [], [], []⟩
  | 56 => ⟨[0, 3, 4, 5, 19, 20], [], [], [], [(5, [0]), (7, [0, 19, 20]), (10, [0, 4, 19, 20]), (13, [0, 19, 20]), (14, [])], [(6, [0, 19, 20])], [(0, [0, 0, 0, 1, 2, 0])], [], [], [], [], []⟩
  | 57 => ⟨[0, 1, 2, 7, 8, 9, 10, 11, 12, 13, 14, 15, 16, 17, 18, 19, 20, 21, 204], [126, 182, 258], [], [(2, [1])], [(5, [0, 2]), (13, [0, 2]), (16, [0, 2, 13]), (18, [0, 2, 13]), (15, [0, 2, 13]), (19, []), (20, [0, 2]), (22, [0, 2]), (26, [0, 2, 14, 15]), (25, [0, 2, 14, 15]), (28, [0, 2, 14]), (30, [0, 2, 14]), (35, [0, 2, 14]), (44, [0, 14, 18, 19, 20, 21]), (47, [0, 14, 19])], [(14, [0, 2, 13]), (24, [0, 2, 14, 15])], [(0, [0, 0, 0, 1, 2])], [], [], [], [], [129, 156, 159]⟩
  | 58 => ⟨[0, 3, 4, 5], [16, 27], [], [(3, [1])], [(7, [0, 3, 4, 5]), (9, [0, 3, 4, 5]), (6, [0, 3, 4, 5]), (10, [3, 4])], [(5, [0, 3, 4, 5])], [], [], [([1], false)], [], [], []⟩
  | 59 => ⟨[0, 2], [], [], [(0, [1])], [], [], [], [], [], [], [], []⟩
  | 60 => ⟨[0, 3, 4, 5], [], [], [(0, [1]), (4, [1])], [(4, [0]), (7, [0, 3]), (12, [0, 3, 4, 5]), (11, [0, 3, 4, 5]), (15, [0, 3]), (6, [0, 3]), (17, [0])], [(5, [0, 3]), (10, [0, 3, 4, 5])], [], [], [([1], false)], [], [18, 23, 37, 42, 49, 51, 8000037, 8000042, 8000049], []⟩
  | 61 => ⟨[0, 1], [], [], [(1, [1])], [], [], [(0, [0, 1])], [], [], [], [9], []⟩
  | 62 => ⟨[0], [], [], [], [], [], [], [], [], [], [], []⟩
  | 63 => ⟨[], [], [], [], [], [], [], [], [([5], false)], [], [], []⟩
  | 64 => ⟨[0, 1, 2], [], [], [(0, [0, 0, 0, 1, 2])], [(6, [1, 2])], [], [(2, [0, 0, 0, 1, 2])], [2], [], [], [], []⟩
  | 65 => ⟨[0], [], [], [], [], [], [(0, [0, 1])], [], [], [], [], []⟩
  | 66 => ⟨[0, 1], [26], [], [(0, [1])], [(4, [0, 1]), (7, [0])], [], [], [], [([1], true)], [], [], []⟩
  | 67 => ⟨[0, 1], [], [], [(0, [0, 0, 0, 1, 2])], [], [], [(1, [0, 0, 0, 1, 2])], [1], [], [], [], []⟩
  | 68 => ⟨[0, 1, 5, 6, 7, 8], [], [30], [(0, [1]), (7, [1])], [(4, [0, 1]), (7, [0, 6]), (10, [7, 8]), (11, [7])], [(9, [7, 8])], [], [], [([1], false)], [(0, [1000004])], [], []⟩
  | 70 => ⟨[0, 1, 5, 7, 8], [], [], [(0, [5])], [(4, [0, 1, 7, 8]), (7, [0, 1, 7, 8]), (8, [])], [(3, [0, 1, 7, 8])], [], [], [], [], [2000016], []⟩
  | 71 => ⟨[0, 1, 2], [], [], [], [], [], [], [2], [], [], [], [5, 6, 8]⟩
  | 72 => ⟨[0, 4, 5, 25, 26], [], [], [], [(4, [0]), (7, [0, 4, 25, 26]), (10, [0, 4, 5, 25, 26]), (11, [0, 4, 25, 26]), (12, [4])], [(6, [0, 4, 25, 26])], [], [], [], [], [], []⟩
  | 73 => ⟨[0, 4, 5], [], [], [], [(4, [0]), (8, [0, 4, 5]), (10, [0, 4, 5]), (7, [0, 4, 5]), (11, [4])], [(6, [0, 4, 5])], [], [], [], [], [], []⟩
  | 74 => ⟨[], [], [], [], [], [], [], [], [([1], false)], [], [], []⟩
  | 77 => ⟨[0, 1], [12], [], [], [], [], [(0, [0, 1])], [], [], [], [], []⟩
  | 78 => ⟨[0, 1, 5, 7, 8, 10, 12, 39, 40, 41, 63, 64, 65], [], [], [(0, [1]), (39, [1]), (63, [1])], [(7, [0, 1]), (11, [0, 1, 5]), (12, [0, 1, 5]), (14, [0, 1, 5, 39, 40, 41]), (17, [0, 1, 5, 7, 39, 40, 41]), (18, [0, 1, 5, 39, 40, 41]), (19, [0, 1, 5]), (24, [1, 8, 63, 64, 65]), (27, [1, 8, 63, 64, 65]), (28, [8])], [(13, [0, 1, 5, 39, 40, 41]), (23, [1, 8, 63, 64, 65])], [(8, [0, 1])], [], [], [], [], []⟩
  | 79 => ⟨[0, 1], [11], [], [], [], [], [(0, [0, 1])], [], [], [], [], []⟩
  | 81 => ⟨[1], [], [], [], [], [], [], [], [], [], [], []⟩
  | 82 => ⟨[1], [], [], [], [], [], [], [], [], [], [], []⟩
  | 83 => ⟨[0, 1], [], [], [], [], [], [], [], [], [], [], []⟩
  | 84 => ⟨[0, 1], [], [], [], [], [], [], [], [], [], [], []⟩
  | 85 => ⟨[0, 1], [], [], [], [], [], [], [], [], [], [], []⟩
  | 86 => ⟨[0, 1], [], [], [], [], [], [], [], [], [], [], []⟩
  | 87 => ⟨[0], [], [], [], [], [], [], [], [], [], [], []⟩
  | 88 => ⟨[0], [], [], [], [], [], [], [], [], [], [], []⟩
  | 89 => ⟨[0, 1], [], [], [], [], [], [], [], [], [], [], []⟩
  | 90 => ⟨[0, 1], [], [], [], [], [], [], [], [], [], [], []⟩
  | 91 => ⟨[], [], [], [], [], [], [], [], [], [], [], []⟩
  | 92 => ⟨[0], [], [], [], [], [], [], [], [], [], [], []⟩
  | 93 => ⟨[0], [], [], [], [], [], [], [], [], [], [], []⟩
  | 94 => ⟨[0, 1, 6, 7, 8, 9], [], [], [], [(4, [0, 1])], [], [], [], [], [], [], []⟩
  | 109 => ⟨[0], [], [], [], [], [], [(0, [0, 1])], [], [], [], [], []⟩
  | 113 => ⟨[0, 1, 4, 6, 7, 8, 9, 10, 11, 12, 13], [], [], [], [], [], [], [], [], [], [], []⟩
  | _ => ⟨[], [], [], [], [], [], [], [], [], [], [], []⟩
noncomputable def SS : SE := ⟨Tryd.prog, prmT, VV, WW, CS⟩
theorem SS_ok : SS.OK := ⟨VV_ok, WW_ok⟩
end Go.Proofs.YtiejgieiokmmfaaDoor

/-
  Functions as equations. Printed by a program (wip/tool/dc.py).
-/
import Derived.Test.YtoajpgclgdhhlaaW16
namespace Go.Proofs.Ytoajpgclgdhhlaa.W
set_option linter.unusedVariables false
set_option linter.unusedSimpArgs false
set_option linter.unnecessarySimpa false
set_option linter.unusedSectionVars false
open Go.RowKit
set_option maxRecDepth 1000000
/-! overseer/lexer.Pretty -/
noncomputable def g15_c : Code := bodyOf Try.f15
noncomputable def g15_E : AE := SS.ae 15 83
noncomputable def g15_X : XE := SS.xe SS.CC SS.LL g15_E 0
noncomputable def g15_K0 : AX → ASt → R := retK SS.P Try.f15.results.toList (SS.prm 15).ro 0 []
noncomputable def g15_c1 : Code := Code.sub [true, true, true, true, true, true, true] g15_c
noncomputable def g15_K1 : AX → ASt → R := thenK (joinX g15_E 0 g15_c1 (exK g15_X g15_c1 g15_K0)) g15_K0
noncomputable def g15_K2 : AX → ASt → R := blkK 0 g15_K1
noncomputable def g15_c2 : Code := Code.sub [true, true, true, true, true, true, false, true, false, false] g15_c
noncomputable def g15_K3 : AX → ASt → R := thenK (fun σ => SS.LL g15_E 0 [6, 7, 8, 9, 10, 23, 24, 25] 2 g15_c2 g15_K2 (σ.gc [6, 7, 8, 9, 10, 23, 24, 25] 2)) g15_K2
noncomputable def g15_c3 : Code := Code.sub [true, true, true, true, true, true, false, true, false, false, true, true, true] g15_c
noncomputable def g15_K4 : AX → ASt → R := thenK (joinX g15_E 0 g15_c3 (exK g15_X g15_c3 g15_K3)) g15_K3
noncomputable def g15_K5 : AX → ASt → R := blkK 1 g15_K4
noncomputable def g15_c4 : Code := Code.sub [true, true, true, true, true, true, false, true, false, false, true, true, false, false, true, true] g15_c
noncomputable def g15_c5 : Code := Code.sub [true, true, true, true, true, true, false, true, false, false, true, true, false, false, true, true, true] g15_c
noncomputable def g15_L10 (x23 : List PV) (x7 : Int) (x9 : ByteArray) (x25 : Int) (o0_1 : List UInt8) (o1_0 : Bool) : R := SS.LL g15_E 0 [6, 7, 8, 9, 10, 23, 24, 25] 2 g15_c2 g15_K2 ⟨[(6, .ptr 0 0), (7, .int .i64 x7), (8, .ptr 1 0), (9, .str x9), (10, .func (.func 36) [] [.ptr 1 0, .ptr 0 0]), (23, .sl false 5 x23), (24, .int .i64 (x23.length : Int)), (25, .int .i64 x25)], [some [.bld 68 0, .slT o0_1], some [.bool o1_0]]⟩
noncomputable def g15_J15 (x23 : List PV) (o0_1 : List UInt8) (o1_0 : Bool) (o2_0 : Int) (o2_1 : ByteArray) (o2_2 : Int) (o2_3 : Int) (o2_4 : Int) (x7 : Int) (x9 : ByteArray) (x25 : Int) : R := exK g15_X g15_c4 g15_K5 ⟨[(6, .ptr 0 0), (7, .int .i64 x7), (8, .ptr 1 0), (9, .str x9), (10, .func (.func 36) [] [.ptr 1 0, .ptr 0 0]), (12, .ptr 2 0), (23, .sl false 5 x23), (24, .int .i64 (x23.length : Int)), (25, .int .i64 x25)], [some [.bld 68 0, .slT o0_1], some [.bool o1_0], some [.int .i64 o2_0, .str o2_1, .int .i64 o2_2, .int .i64 o2_3, .int .i64 o2_4]]⟩
noncomputable def g15_J19 (x23 : List PV) (o0_1 : List UInt8) (o1_0 : Bool) (o2_0 : Int) (o2_1 : ByteArray) (o2_2 : Int) (o2_3 : Int) (o2_4 : Int) (x7 : Int) (x25 : Int) : R := exK g15_X g15_c5 g15_K5 ⟨[(6, .ptr 0 0), (7, .int .i64 x7), (8, .ptr 1 0), (10, .func (.func 36) [] [.ptr 1 0, .ptr 0 0]), (12, .ptr 2 0), (23, .sl false 5 x23), (24, .int .i64 (x23.length : Int)), (25, .int .i64 x25)], [some [.bld 68 0, .slT o0_1], some [.bool o1_0], some [.int .i64 o2_0, .str o2_1, .int .i64 o2_2, .int .i64 o2_3, .int .i64 o2_4]]⟩
theorem g15_L10_eq (x23 : List PV) (x7 : Int) (x9 : ByteArray) (x25 : Int) (o0_1 : List UInt8) (o1_0 : Bool) : g15_L10 x23 x7 x9 x25 o0_1 o1_0 =
    bsel (decide (x25 < (x23.length : Int))) (lgetX x23 x25 fun e1 => v29 e1 fun n2 s3 n4 n5 n6 => bsel (s3.toList == (⟨#[125]⟩ : ByteArray).toList) (clH SS.CC 36 [.ptr 0 0, .ptr 1 0] [some [.bool o1_0], some [.bld 68 1, .slT o0_1]] fun r9 h10 => h36_0 r9 h10 fun b7 y8 => g15_J15 x23 y8 b7 n2 s3 n4 n5 n6 (if (0 : Int) > (IntKind.i64.wrap (x7 - 1)) then (0 : Int) else (IntKind.i64.wrap (x7 - 1))) x9 x25) (g15_J15 x23 o0_1 o1_0 n2 s3 n4 n5 n6 x7 x9 x25)) (clH SS.CC 36 [.ptr 0 0, .ptr 1 0] [some [.bool o1_0], some [.bld 68 1, .slT o0_1]] fun r13 h14 => h36_0 r13 h14 fun b11 y12 => clH SS.CC 40 [.ptr 0 0] [some [.bld 68 0, .slT y12]] fun r17 h18 => h40_0 r17 h18 fun s15 l16 => some (.tuple [.str s15, .int .i64 0], [])) := (LL_eq SS_ok (by decide) (by kernel_rfl) (by kernel_rfl)).trans (by kernel_rfl)
theorem g15_J15_eq (x23 : List PV) (o0_1 : List UInt8) (o1_0 : Bool) (o2_0 : Int) (o2_1 : ByteArray) (o2_2 : Int) (o2_3 : Int) (o2_4 : Int) (x7 : Int) (x9 : ByteArray) (x25 : Int) : g15_J15 x23 o0_1 o1_0 o2_0 o2_1 o2_2 o2_3 o2_4 x7 x9 x25 =
    bsel o1_0 (clX SS.CC 39 [.str ⟨#[32, 32]⟩, .int .i64 x7] fun r2 => vS r2 fun s1 => clH SS.CC 38 [.ptr 0 0, .str s1] [some [.bld 68 0, .slT o0_1]] fun r5 h6 => h38_0 r5 h6 fun n3 y4 => g15_J19 x23 y4 o1_0 o2_0 o2_1 o2_2 o2_3 o2_4 x7 x25) (bsel (!(o2_1.toList == (⟨#[44]⟩ : ByteArray).toList)) (bsel (!(o2_1.toList == (⟨#[59]⟩ : ByteArray).toList)) (bsel (!(o2_1.toList == (⟨#[41]⟩ : ByteArray).toList)) (bsel (!(x9.toList == (⟨#[40]⟩ : ByteArray).toList)) (clH SS.CC 37 [.ptr 0 0, .int .u8 32] [some [.bld 68 0, .slT o0_1]] fun r8 h9 => h37_0 r8 h9 fun y7 => g15_J19 x23 y7 o1_0 o2_0 o2_1 o2_2 o2_3 o2_4 x7 x25) (g15_J19 x23 o0_1 o1_0 o2_0 o2_1 o2_2 o2_3 o2_4 x7 x25)) (g15_J19 x23 o0_1 o1_0 o2_0 o2_1 o2_2 o2_3 o2_4 x7 x25)) (g15_J19 x23 o0_1 o1_0 o2_0 o2_1 o2_2 o2_3 o2_4 x7 x25)) (g15_J19 x23 o0_1 o1_0 o2_0 o2_1 o2_2 o2_3 o2_4 x7 x25)) := by kernel_rfl
theorem g15_J19_eq (x23 : List PV) (o0_1 : List UInt8) (o1_0 : Bool) (o2_0 : Int) (o2_1 : ByteArray) (o2_2 : Int) (o2_3 : Int) (o2_4 : Int) (x7 : Int) (x25 : Int) : g15_J19 x23 o0_1 o1_0 o2_0 o2_1 o2_2 o2_3 o2_4 x7 x25 =
    clH SS.CC 38 [.ptr 0 0, .str o2_1] [some [.bld 68 0, .slT o0_1]] fun r3 h4 => h38_0 r3 h4 fun n1 y2 => bsel (o2_1.toList == (⟨#[123]⟩ : ByteArray).toList) (clH SS.CC 36 [.ptr 0 0, .ptr 1 0] [some [.bool false], some [.bld 68 1, .slT y2]] fun r7 h8 => h36_0 r7 h8 fun b5 y6 => g15_L10 x23 (IntKind.i64.wrap (x7 + 1)) o2_1 (IntKind.i64.wrap (x25 + 1)) y6 b5) (bsel (o2_1.toList == (⟨#[125]⟩ : ByteArray).toList) (clH SS.CC 36 [.ptr 0 0, .ptr 1 0] [some [.bool false], some [.bld 68 1, .slT y2]] fun r11 h12 => h36_0 r11 h12 fun b9 y10 => g15_L10 x23 x7 o2_1 (IntKind.i64.wrap (x25 + 1)) y10 b9) (bsel (o2_1.toList == (⟨#[59]⟩ : ByteArray).toList) (clH SS.CC 36 [.ptr 0 0, .ptr 1 0] [some [.bool false], some [.bld 68 1, .slT y2]] fun r15 h16 => h36_0 r15 h16 fun b13 y14 => g15_L10 x23 x7 o2_1 (IntKind.i64.wrap (x25 + 1)) y14 b13) (g15_L10 x23 x7 o2_1 (IntKind.i64.wrap (x25 + 1)) y2 false))) := by kernel_rfl
theorem g15_eq (a0 : List PV) : SS.CC 15 [.sl false 5 a0] [] =
    clX SS.CC 14 [.sl false 5 a0] fun r3 => w_9_3 r3 fun s1 n2 => bsel (n2 != 0) (some (.tuple [.str ⟨#[]⟩, .int .i64 n2], [])) (clX SS.CC 32 [.sl false 5 a0] fun r5 => vL false 5 r5 fun l4 => g15_L10 l4 0 ⟨#[]⟩ 0 [] true) := (CC_run SS_ok rfl).trans (by kernel_rfl)
/-! overseer/overseerlaw16.pretty -/
noncomputable def g17_c : Code := bodyOf Try.f17
noncomputable def g17_E : AE := SS.ae 17 106
noncomputable def g17_X : XE := SS.xe SS.CC SS.LL g17_E 0
noncomputable def g17_K0 : AX → ASt → R := retK SS.P Try.f17.results.toList (SS.prm 17).ro 0 []
noncomputable def g17_c1 : Code := Code.sub [true, true, true, true, true] g17_c
noncomputable def g17_K1 : AX → ASt → R := thenK (joinX g17_E 0 g17_c1 (exK g17_X g17_c1 g17_K0)) g17_K0
noncomputable def g17_K2 : AX → ASt → R := blkK 0 g17_K1
noncomputable def g17_c2 : Code := Code.sub [true, true, true, true, false, true, false, false] g17_c
noncomputable def g17_K3 : AX → ASt → R := thenK (fun σ => SS.LL g17_E 0 [6, 7, 8, 9, 10, 11] 0 g17_c2 g17_K2 (σ.gc [6, 7, 8, 9, 10, 11] 0)) g17_K2
noncomputable def g17_c3 : Code := Code.sub [true, true, true, true, false, true, false, false, true, true] g17_c
noncomputable def g17_K4 : AX → ASt → R := thenK (joinX g17_E 0 g17_c3 (exK g17_X g17_c3 g17_K3)) g17_K3
noncomputable def g17_K5 : AX → ASt → R := blkK 1 g17_K4
noncomputable def g17_c4 : Code := Code.sub [true, true, true, true, false, true, false, false, true, false, false, true, true] g17_c
noncomputable def g17_c5 : Code := Code.sub [true, true, true, true, false, true, false, false, true, false, false, true, true, true] g17_c
noncomputable def g17_c6 : Code := Code.sub [true, true, true, true, false, true, false, false, true, false, false, true, true, true, true] g17_c
noncomputable def g17_K6 : AX → ASt → R := thenK (joinX g17_E 0 g17_c6 (exK g17_X g17_c6 g17_K5)) g17_K5
noncomputable def g17_K7 : AX → ASt → R := blkK 2 g17_K6
noncomputable def g17_K8 : AX → ASt → R := blkK 3 g17_K7
noncomputable def g17_c7 : Code := Code.sub [true, true, true, true, false, true, false, false, true, false, false, true, true, true, false, false, true, false, true, false, false] g17_c
noncomputable def g17_c8 : Code := Code.sub [true, true, true, true, false, true, false, false, true, false, false, true, true, true, true, true, true] g17_c
noncomputable def g17_L8 (x10 : List PV) (x6 : ByteArray) (x8 : Int) (x9 : ByteArray) (x11 : Int) (x7 : ByteArray) : R := SS.LL g17_E 0 [6, 7, 8, 9, 10, 11] 0 g17_c2 g17_K2 ⟨[(6, .str x6), (7, .str x7), (8, .int .i64 x8), (9, .str x9), (10, .sl false 5 x10), (11, .int .i64 x11)], []⟩
noncomputable def g17_J13 (x10 : List PV) (x12 : ByteArray) (x6 : ByteArray) (x8 : Int) (x9 : ByteArray) (x11 : Int) (x7 : ByteArray) : R := exK g17_X g17_c4 g17_K5 ⟨[(6, .str x6), (7, .str x7), (8, .int .i64 x8), (9, .str x9), (10, .sl false 5 x10), (11, .int .i64 x11), (12, .str x12)], []⟩
noncomputable def g17_J15 (x10 : List PV) (x12 : ByteArray) (x6 : ByteArray) (x7 : ByteArray) (x8 : Int) (x9 : ByteArray) (x11 : Int) : R := exK g17_X g17_c5 g17_K5 ⟨[(6, .str x6), (7, .str x7), (8, .int .i64 x8), (9, .str x9), (10, .sl false 5 x10), (11, .int .i64 x11), (12, .str x12)], []⟩
noncomputable def g17_L17 (x10 : List PV) (x12 : ByteArray) (x6 : ByteArray) (x7 : ByteArray) (x8 : Int) (x11 : Int) (x13 : Int) : R := SS.LL g17_E 0 [6, 7, 8, 10, 11, 12, 13] 0 g17_c7 g17_K8 ⟨[(6, .str x6), (7, .str x7), (8, .int .i64 x8), (10, .sl false 5 x10), (11, .int .i64 x11), (12, .str x12), (13, .int .i64 x13)], []⟩
noncomputable def g17_J22 (x10 : List PV) (x12 : ByteArray) (x6 : ByteArray) (x7 : ByteArray) (x8 : Int) (x11 : Int) : R := exK g17_X g17_c6 g17_K5 ⟨[(6, .str x6), (7, .str x7), (8, .int .i64 x8), (10, .sl false 5 x10), (11, .int .i64 x11), (12, .str x12)], []⟩
noncomputable def g17_J25 (x9 : ByteArray) (x10 : List PV) (x8 : Int) (x6 : ByteArray) (x7 : ByteArray) (x11 : Int) : R := exK g17_X g17_c8 g17_K5 ⟨[(6, .str x6), (7, .str x7), (8, .int .i64 x8), (9, .str x9), (10, .sl false 5 x10), (11, .int .i64 x11), (12, .str x9)], []⟩
theorem g17_L8_eq (x10 : List PV) (x6 : ByteArray) (x8 : Int) (x9 : ByteArray) (x11 : Int) (x7 : ByteArray) : g17_L8 x10 x6 x8 x9 x11 x7 =
    bsel (decide (x11 < (x10.length : Int))) (lgetX x10 x11 fun e1 => v29 e1 fun n2 s3 n4 n5 n6 => bsel (s3.toList == (⟨#[125]⟩ : ByteArray).toList) (bsel (!(x7.toList == (⟨#[]⟩ : ByteArray).toList)) (chk (decide (x6.size + x7.size ≤ LIM)) (chk (decide ((x6 ++ x7).size + (⟨#[10]⟩ : ByteArray).size ≤ LIM)) (g17_J13 x10 s3 ((x6 ++ x7) ++ (⟨#[10]⟩ : ByteArray)) x8 x9 x11 ⟨#[]⟩))) (g17_J13 x10 s3 x6 x8 x9 x11 x7)) (g17_J13 x10 s3 x6 x8 x9 x11 x7)) (bsel (!(x7.toList == (⟨#[]⟩ : ByteArray).toList)) (chk (decide (x6.size + x7.size ≤ LIM)) (chk (decide ((x6 ++ x7).size + (⟨#[10]⟩ : ByteArray).size ≤ LIM)) (some (.tuple [.str ((x6 ++ x7) ++ (⟨#[10]⟩ : ByteArray)), .int .i64 0], [])))) (some (.tuple [.str x6, .int .i64 0], []))) := (LL_eq SS_ok (by decide) (by kernel_rfl) (by kernel_rfl)).trans (by kernel_rfl)
theorem g17_J13_eq (x10 : List PV) (x12 : ByteArray) (x6 : ByteArray) (x8 : Int) (x9 : ByteArray) (x11 : Int) (x7 : ByteArray) : g17_J13 x10 x12 x6 x8 x9 x11 x7 =
    bsel (x12.toList == (⟨#[125]⟩ : ByteArray).toList) (g17_J15 x10 x12 x6 x7 (if (IntKind.i64.wrap (x8 - 1)) > (0 : Int) then (IntKind.i64.wrap (x8 - 1)) else (0 : Int)) x9 x11) (g17_J15 x10 x12 x6 x7 x8 x9 x11) := by kernel_rfl
theorem g17_J15_eq (x10 : List PV) (x12 : ByteArray) (x6 : ByteArray) (x7 : ByteArray) (x8 : Int) (x9 : ByteArray) (x11 : Int) : g17_J15 x10 x12 x6 x7 x8 x9 x11 =
    bsel (x7.toList == (⟨#[]⟩ : ByteArray).toList) (g17_L17 x10 x12 x6 x7 x8 x11 0) (bsel (!(x12.toList == (⟨#[44]⟩ : ByteArray).toList)) (bsel (!(x12.toList == (⟨#[59]⟩ : ByteArray).toList)) (bsel (!(x12.toList == (⟨#[41]⟩ : ByteArray).toList)) (bsel (!(x9.toList == (⟨#[40]⟩ : ByteArray).toList)) (chk (decide (x7.size + (⟨#[32]⟩ : ByteArray).size ≤ LIM)) (g17_J22 x10 x12 x6 (x7 ++ (⟨#[32]⟩ : ByteArray)) x8 x11)) (g17_J22 x10 x12 x6 x7 x8 x11)) (g17_J22 x10 x12 x6 x7 x8 x11)) (g17_J22 x10 x12 x6 x7 x8 x11)) (g17_J22 x10 x12 x6 x7 x8 x11)) := by kernel_rfl
theorem g17_L17_eq (x10 : List PV) (x12 : ByteArray) (x6 : ByteArray) (x7 : ByteArray) (x8 : Int) (x11 : Int) (x13 : Int) : g17_L17 x10 x12 x6 x7 x8 x11 x13 =
    bsel (decide (x13 < x8)) (chk (decide (x7.size + (⟨#[32, 32]⟩ : ByteArray).size ≤ LIM)) (g17_L17 x10 x12 x6 (x7 ++ (⟨#[32, 32]⟩ : ByteArray)) x8 x11 (IntKind.i64.wrap (x13 + 1)))) (g17_J22 x10 x12 x6 x7 x8 x11) := (LL_eq SS_ok (by decide) (by kernel_rfl) (by kernel_rfl)).trans (by kernel_rfl)
theorem g17_J22_eq (x10 : List PV) (x12 : ByteArray) (x6 : ByteArray) (x7 : ByteArray) (x8 : Int) (x11 : Int) : g17_J22 x10 x12 x6 x7 x8 x11 =
    chk (decide (x7.size + x12.size ≤ LIM)) (bsel (x12.toList == (⟨#[123]⟩ : ByteArray).toList) (g17_J25 x12 x10 (IntKind.i64.wrap (x8 + 1)) x6 (x7 ++ x12) x11) (g17_J25 x12 x10 x8 x6 (x7 ++ x12) x11)) := by kernel_rfl
theorem g17_J25_eq (x9 : ByteArray) (x10 : List PV) (x8 : Int) (x6 : ByteArray) (x7 : ByteArray) (x11 : Int) : g17_J25 x9 x10 x8 x6 x7 x11 =
    bsel (x9.toList == (⟨#[123]⟩ : ByteArray).toList) (chk (decide (x6.size + x7.size ≤ LIM)) (chk (decide ((x6 ++ x7).size + (⟨#[10]⟩ : ByteArray).size ≤ LIM)) (g17_L8 x10 ((x6 ++ x7) ++ (⟨#[10]⟩ : ByteArray)) x8 x9 (IntKind.i64.wrap (x11 + 1)) ⟨#[]⟩))) (bsel (x9.toList == (⟨#[59]⟩ : ByteArray).toList) (chk (decide (x6.size + x7.size ≤ LIM)) (chk (decide ((x6 ++ x7).size + (⟨#[10]⟩ : ByteArray).size ≤ LIM)) (g17_L8 x10 ((x6 ++ x7) ++ (⟨#[10]⟩ : ByteArray)) x8 x9 (IntKind.i64.wrap (x11 + 1)) ⟨#[]⟩))) (bsel (x9.toList == (⟨#[125]⟩ : ByteArray).toList) (chk (decide (x6.size + x7.size ≤ LIM)) (chk (decide ((x6 ++ x7).size + (⟨#[10]⟩ : ByteArray).size ≤ LIM)) (g17_L8 x10 ((x6 ++ x7) ++ (⟨#[10]⟩ : ByteArray)) x8 x9 (IntKind.i64.wrap (x11 + 1)) ⟨#[]⟩))) (g17_L8 x10 x6 x8 x9 (IntKind.i64.wrap (x11 + 1)) x7))) := by kernel_rfl
theorem g17_eq (a0 : List PV) : SS.CC 17 [.sl false 5 a0] [] =
    clX SS.CC 16 [.sl false 5 a0] fun r3 => w_9_3 r3 fun s1 n2 => bsel (n2 != 0) (some (.tuple [.str ⟨#[]⟩, .int .i64 n2], [])) (clX SS.CC 41 [.sl false 5 a0] fun r5 => vL false 5 r5 fun l4 => g17_L8 l4 ⟨#[]⟩ 0 ⟨#[]⟩ 0 ⟨#[]⟩) := (CC_run SS_ok rfl).trans (by kernel_rfl)
/-! overseer/lexer.Pretty$1 -/
noncomputable def g36_c : Code := bodyOf Try.f36
noncomputable def g36_E : AE := SS.ae 36 5
noncomputable def g36_X : XE := SS.xe SS.CC SS.LL g36_E 2
theorem g36_eq (h0_0 : Bool) (h1_1 : List UInt8) : SS.CC 36 [.ptr 0 0, .ptr 1 0] [some [.bool h0_0], some [.bld 68 1, .slT h1_1]] =
    bsel (!h0_0) (clH SS.CC 37 [.ptr 0 0, .int .u8 10] [some [.bld 68 0, .slT h1_1]] fun r2 h3 => h37_0 r2 h3 fun y1 => some (.tuple [], [some [.bool true], some [.bld 68 1, .slT y1]])) (some (.tuple [], [some [.bool h0_0], some [.bld 68 1, .slT h1_1]])) := (CC_run SS_ok rfl).trans (by kernel_rfl)
/-! (*strings.Builder).WriteString -/
noncomputable def g38_c : Code := bodyOf Try.f38
noncomputable def g38_E : AE := SS.ae 38 19
noncomputable def g38_X : XE := SS.xe SS.CC SS.LL g38_E 1
theorem g38_eq (a1 : ByteArray) (h0_1 : List UInt8) : SS.CC 38 [.ptr 0 0, .str a1] [some [.bld 68 0, .slT h0_1]] =
    clH SS.CC 67 [.ptr 0 0] [some [.bld 68 0, .slT h0_1]] fun r2 h3 => h67_0 r2 h3 fun y1 => chk (decide (y1.length + a1.size ≤ LIM)) (some (.tuple [.int .i64 (a1.size : Int), .raw .nilIface], [some [.bld 68 0, .slT (y1 ++ a1.data.toList)]])) := (CC_run SS_ok rfl).trans (by kernel_rfl)
/-! (*strings.Builder).WriteByte -/
noncomputable def g37_c : Code := bodyOf Try.f37
noncomputable def g37_E : AE := SS.ae 37 17
noncomputable def g37_X : XE := SS.xe SS.CC SS.LL g37_E 1
theorem g37_eq (a1 : Int) (h0_1 : List UInt8) : SS.CC 37 [.ptr 0 0, .int .u8 a1] [some [.bld 68 0, .slT h0_1]] =
    clH SS.CC 67 [.ptr 0 0] [some [.bld 68 0, .slT h0_1]] fun r2 h3 => h67_0 r2 h3 fun y1 => chk (decide (y1.length + 1 ≤ LIM) && decide ((0 : Int) ≤ a1) && decide (a1 < (256 : Int))) (some (.raw .nilIface, [some [.bld 68 0, .slT (y1 ++ [UInt8.ofNat (Int.toNat a1)])]])) := (CC_run SS_ok rfl).trans (by kernel_rfl)
end Go.Proofs.Ytoajpgclgdhhlaa.W

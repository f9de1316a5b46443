/-
  Functions as equations. Printed by a program (wip/tool/dc.py).
-/
import Derived.Test.YtiejgieiokmmfaaGreatDoorZB52
namespace Go.Proofs.YtiejgieiokmmfaaGreatDoor
set_option linter.unusedVariables false
set_option linter.unusedSimpArgs false
set_option linter.unnecessarySimpa false
set_option linter.unusedSectionVars false
open Go.RowKit
set_option maxRecDepth 1000000
/-! overseer/instruction.Text -/
noncomputable def g9_c : Code := bodyOf Tryz.f9
noncomputable def g9_E : AE := SS.ae 9 89
noncomputable def g9_X : XE := SS.xe SS.CC SS.LL g9_E 0
noncomputable def g9_K0 : AX → ASt → R := retK SS.P Tryz.f9.results.toList (SS.prm 9).ro 0 []
noncomputable def g9_c1 : Code := Code.sub [true, true, true, true, true] g9_c
noncomputable def g9_K1 : AX → ASt → R := thenK (joinX g9_E 0 g9_c1 (exK g9_X g9_c1 g9_K0)) g9_K0
noncomputable def g9_c2 : Code := Code.sub [true, true, true, true, false, true, false, true, true] g9_c
noncomputable def g9_K2 : AX → ASt → R := thenK (joinX g9_E 0 g9_c2 (exK g9_X g9_c2 g9_K1)) g9_K1
noncomputable def g9_K3 : AX → ASt → R := blkK 0 g9_K2
noncomputable def g9_c3 : Code := Code.sub [true, true, true, true, false, true, false, true, false, true, false, false] g9_c
noncomputable def g9_c4 : Code := Code.sub [true, true, true, true, true, true, true] g9_c
noncomputable def g9_K4 : AX → ASt → R := thenK (joinX g9_E 0 g9_c4 (exK g9_X g9_c4 g9_K0)) g9_K0
noncomputable def g9_K5 : AX → ASt → R := blkK 2 g9_K4
noncomputable def g9_c5 : Code := Code.sub [true, true, true, true, true, true, false, true, false, false] g9_c
noncomputable def g9_L10 (x1 : Int) (x1_a : Int) (x1_b : Int) (x1_c : List PV) (x1_d : List PV) (o0_1 : List UInt8) (x40 : Int) (o1 : List PV) : R := SS.LL g9_E 0 [1, 5, 6, 38, 39, 40] 2 g9_c3 g9_K3 ⟨[(1, .cst (.agg [.int .i64 x1, .int .i64 x1_a, .int .i64 x1_b, .sl false 1 x1_c, .sl false 2 x1_d])), (5, .ptr 0 0), (6, .slh 1 0 ((x1_c.length : Int).toNat) 1), (38, .sl false 1 x1_c), (39, .int .i64 (x1_c.length : Int)), (40, .int .i64 x40)], [some [.bld 59 0, .slT o0_1], some o1]⟩
noncomputable def g9_J17 (x1 : Int) (x1_a : Int) (x1_b : Int) (x1_c : List PV) (x1_d : List PV) (o0_1 : List UInt8) : R := exK g9_X g9_c1 g9_K0 ⟨[(1, .cst (.agg [.int .i64 x1, .int .i64 x1_a, .int .i64 x1_b, .sl false 1 x1_c, .sl false 2 x1_d])), (5, .ptr 0 0)], [some [.bld 59 0, .slT o0_1]]⟩
noncomputable def g9_L19 (x1 : Int) (x1_a : Int) (x1_b : Int) (x1_c : List PV) (x1_d : List PV) (x9 : List PV) (o0_1 : List UInt8) (x61 : Int) : R := SS.LL g9_E 0 [1, 5, 9, 59, 60, 61] 1 g9_c5 g9_K5 ⟨[(1, .cst (.agg [.int .i64 x1, .int .i64 x1_a, .int .i64 x1_b, .sl false 1 x1_c, .sl false 2 x1_d])), (5, .ptr 0 0), (9, .sl false 5 x9), (59, .sl false 2 x1_d), (60, .int .i64 (x1_d.length : Int)), (61, .int .i64 x61)], [some [.bld 59 0, .slT o0_1]]⟩
theorem g9_L10_eq (x1 : Int) (x1_a : Int) (x1_b : Int) (x1_c : List PV) (x1_d : List PV) (o0_1 : List UInt8) (x40 : Int) (o1 : List PV) : g9_L10 x1 x1_a x1_b x1_c x1_d o0_1 x40 o1 =
    chk (o1.all flC && true) (bsel (decide (x40 < (x1_c.length : Int))) (chk (o1.all flC && true) (lgetX x1_c x40 fun e1 => vB e1 fun b2 => chk (decide (0 ≤ x40) && decide (x40 < ((x1_c.length : Int).toNat : Int))) (chk (decide (x40.toNat < o1.length)) (bsel b2 (chk (decide (0 ≤ x40) && decide (x40 < ((x1_c.length : Int).toNat : Int))) (chk (decide (x40.toNat < (o1.set x40.toNat (.int .u8 48)).length)) (chk (((o1.set x40.toNat (.int .u8 48)).set x40.toNat (.int .u8 49)).all flC && true) (g9_L10 x1 x1_a x1_b x1_c x1_d o0_1 (IntKind.i64.wrap (x40 + 1)) ((o1.set x40.toNat (.int .u8 48)).set x40.toNat (.int .u8 49)))))) (chk ((o1.set x40.toNat (.int .u8 48)).all flC && true) (g9_L10 x1 x1_a x1_b x1_c x1_d o0_1 (IntKind.i64.wrap (x40 + 1)) (o1.set x40.toNat (.int .u8 48)))))))) (chk (decide (((x1_c.length : Int).toNat) * 1 ≤ o1.length) && decide (0 < 1) && o1.all fun p => p.one && p.flat) (chk (bytesP (chunkP 1 o1 ((x1_c.length : Int).toNat))) (clH SS.CC 24 [.ptr 0 0, .sl false 1 [.str ⟨#[115, 116, 97, 114, 116]⟩, .str (strOf (chunkP 1 o1 ((x1_c.length : Int).toNat)))]] [some [.bld 59 0, .slT o0_1]] fun r4 h5 => h24_0 r4 h5 fun y3 => g9_J17 x1 x1_a x1_b x1_c x1_d y3)))) := (LL_eq SS_ok (by decide) (by kernel_rfl) (by kernel_rfl)).trans (by kernel_rfl)
theorem g9_J17_eq (x1 : Int) (x1_a : Int) (x1_b : Int) (x1_c : List PV) (x1_d : List PV) (o0_1 : List UInt8) : g9_J17 x1 x1_a x1_b x1_c x1_d o0_1 =
    clX SS.CC 26 [] fun r2 => vL false 5 r2 fun l1 => g9_L19 x1 x1_a x1_b x1_c x1_d l1 o0_1 0 := by kernel_rfl
theorem g9_L19_eq (x1 : Int) (x1_a : Int) (x1_b : Int) (x1_c : List PV) (x1_d : List PV) (x9 : List PV) (o0_1 : List UInt8) (x61 : Int) : g9_L19 x1 x1_a x1_b x1_c x1_d x9 o0_1 x61 =
    bsel (decide (x61 < (x1_d.length : Int))) (lgetX x1_d x61 fun e1 => v42 e1 fun n2 n3 => lgetX x9 (IntKind.i64.wrap (n2 - 1)) fun e4 => v66 e4 fun n5 s6 p7 p8 p9 => chk ([.int .i64 n5, .str s6, p7, p8, p9].all PV.one) (clX SS.CC 25 [.int .i64 n3] fun r11 => vS r11 fun s10 => fnX (PV.un (PV.un (PV.un p9))) fun b12 => bsel (b12 == true) (clX SS.CC 27 [.agg [.int .i64 x1, .int .i64 x1_a, .int .i64 x1_b, .sl false 1 x1_c, .sl false 2 x1_d], .int .i64 n3] fun r14 => vS r14 fun s13 => chk ([.int .i64 n5, .str s6, (PV.un p7), (PV.un p8), (PV.un p9)].all flC && true) (clH SS.CC 24 [.ptr 0 0, .sl false 1 [.str s6, .str s13]] [some [.bld 59 0, .slT o0_1]] fun r16 h17 => h24_0 r16 h17 fun y15 => g9_L19 x1 x1_a x1_b x1_c x1_d x9 y15 (IntKind.i64.wrap (x61 + 1)))) (chk ([.int .i64 n5, .str s6, (PV.un p7), (PV.un p8), (PV.un p9)].all flC && true) (clH SS.CC 24 [.ptr 0 0, .sl false 1 [.str s6, .str s10]] [some [.bld 59 0, .slT o0_1]] fun r19 h20 => h24_0 r19 h20 fun y18 => g9_L19 x1 x1_a x1_b x1_c x1_d x9 y18 (IntKind.i64.wrap (x61 + 1)))))) (clH SS.CC 28 [.ptr 0 0] [some [.bld 59 0, .slT o0_1]] fun r23 h24 => h28_0 r23 h24 fun s21 l22 => some (.tuple [.str s21, .int .i64 0], [])) := (LL_eq SS_ok (by decide) (by kernel_rfl) (by kernel_rfl)).trans (by kernel_rfl)
theorem g9_eq (a0 : Int) (a0_1 : Int) (a0_2 : Int) (a0_3 : List PV) (a0_4 : List PV) : SS.CC 9 [.agg [.int .i64 a0, .int .i64 a0_1, .int .i64 a0_2, .sl false 1 a0_3, .sl false 2 a0_4]] [] =
    clX SS.CC 23 [.agg [.int .i64 a0, .int .i64 a0_1, .int .i64 a0_2, .sl false 1 a0_3, .sl false 2 a0_4]] fun r2 => vI .i64 r2 fun n1 => bsel (n1 != 0) (some (.tuple [.str ⟨#[]⟩, .int .i64 n1], [])) (clX SS.CC 25 [.int .i64 a0] fun r4 => vS r4 fun s3 => clX SS.CC 25 [.int .i64 a0_1] fun r6 => vS r6 fun s5 => clX SS.CC 25 [.int .i64 a0_2] fun r8 => vS r8 fun s7 => clH SS.CC 24 [.ptr 0 0, .sl false 1 [.str ⟨#[112, 114, 111, 103, 114, 97, 109]⟩, .str s3, .str s5, .str s7]] [some [.bld 59 0, .slT []]] fun r10 h11 => h24_0 r10 h11 fun y9 => bsel (decide (0 < a0_2)) (chk (decide ((a0_3.length : Int) = (a0_3.length : Int)) && decide (0 ≤ (a0_3.length : Int)) && decide ((a0_3.length : Int) ≤ 1073741824)) (g9_L10 a0 a0_1 a0_2 a0_3 a0_4 y9 0 (List.replicate ((a0_3.length : Int).toNat) (.int .u8 0 : PV)))) (g9_J17 a0 a0_1 a0_2 a0_3 a0_4 y9)) := (CC_run SS_ok rfl).trans (by kernel_rfl)
/-! (*overseer/instruction.printer).line -/
noncomputable def g24_c : Code := bodyOf Tryz.f24
noncomputable def g24_E : AE := SS.ae 24 14
noncomputable def g24_X : XE := SS.xe SS.CC SS.LL g24_E 1
theorem g24_eq (a1 : List PV) (h0_1 : List UInt8) : SS.CC 24 [.ptr 0 0, .sl false 1 a1] [some [.bld 59 0, .slT h0_1]] =
    clX SS.CC 46 [.sl false 1 a1, .str ⟨#[32]⟩] fun r2 => vS r2 fun s1 => clH SS.CC 45 [.ptr 0 0, .str s1] [some [.bld 59 0, .slT h0_1]] fun r5 h6 => h45_0 r5 h6 fun n3 y4 => clH SS.CC 47 [.ptr 0 0, .int .u8 10] [some [.bld 59 0, .slT y4]] fun r8 h9 => h47_0 r8 h9 fun y7 => some (.tuple [], [some [.bld 59 0, .slT y7]]) := (CC_run SS_ok rfl).trans (by kernel_rfl)
/-! overseer/instruction.bit -/
noncomputable def g27_c : Code := bodyOf Tryz.f27
noncomputable def g27_E : AE := SS.ae 27 36
noncomputable def g27_X : XE := SS.xe SS.CC SS.LL g27_E 0
theorem g27_eq (a0 : Int) (a0_1 : Int) (a0_2 : Int) (a0_3 : List PV) (a0_4 : List PV) (a1 : Int) : SS.CC 27 [.agg [.int .i64 a0, .int .i64 a0_1, .int .i64 a0_2, .sl false 1 a0_3, .sl false 2 a0_4], .int .i64 a1] [] =
    bsel (decide (a1 < a0)) (clX SS.CC 25 [.int .i64 a1] fun r2 => vS r2 fun s1 => chk (decide ((⟨#[73]⟩ : ByteArray).size + s1.size ≤ LIM)) (some (.str ((⟨#[73]⟩ : ByteArray) ++ s1), []))) (bsel (decide (a1 < (IntKind.i64.wrap (a0 + a0_1)))) (clX SS.CC 25 [.int .i64 (IntKind.i64.wrap (a1 - a0))] fun r4 => vS r4 fun s3 => chk (decide ((⟨#[81]⟩ : ByteArray).size + s3.size ≤ LIM)) (some (.str ((⟨#[81]⟩ : ByteArray) ++ s3), []))) (clX SS.CC 25 [.int .i64 (IntKind.i64.wrap ((IntKind.i64.wrap (a1 - a0)) - a0_1))] fun r6 => vS r6 fun s5 => chk (decide ((⟨#[77]⟩ : ByteArray).size + s5.size ≤ LIM)) (some (.str ((⟨#[77]⟩ : ByteArray) ++ s5), [])))) := (CC_run SS_ok rfl).trans (by kernel_rfl)
/-! (*strings.Builder).WriteString -/
noncomputable def g45_c : Code := bodyOf Tryz.f45
noncomputable def g45_E : AE := SS.ae 45 19
noncomputable def g45_X : XE := SS.xe SS.CC SS.LL g45_E 1
theorem g45_eq (a1 : ByteArray) (h0_1 : List UInt8) : SS.CC 45 [.ptr 0 0, .str a1] [some [.bld 59 0, .slT h0_1]] =
    clH SS.CC 71 [.ptr 0 0] [some [.bld 59 0, .slT h0_1]] fun r2 h3 => h71_0 r2 h3 fun y1 => chk (decide (y1.length + a1.size ≤ LIM)) (some (.tuple [.int .i64 (a1.size : Int), .raw .nilIface], [some [.bld 59 0, .slT (y1 ++ a1.data.toList)]])) := (CC_run SS_ok rfl).trans (by kernel_rfl)
/-! (*strings.Builder).WriteByte -/
noncomputable def g47_c : Code := bodyOf Tryz.f47
noncomputable def g47_E : AE := SS.ae 47 17
noncomputable def g47_X : XE := SS.xe SS.CC SS.LL g47_E 1
theorem g47_eq (a1 : Int) (h0_1 : List UInt8) : SS.CC 47 [.ptr 0 0, .int .u8 a1] [some [.bld 59 0, .slT h0_1]] =
    clH SS.CC 71 [.ptr 0 0] [some [.bld 59 0, .slT h0_1]] fun r2 h3 => h71_0 r2 h3 fun y1 => chk (decide (y1.length + 1 ≤ LIM) && decide ((0 : Int) ≤ a1) && decide (a1 < (256 : Int))) (some (.raw .nilIface, [some [.bld 59 0, .slT (y1 ++ [UInt8.ofNat (Int.toNat a1)])]])) := (CC_run SS_ok rfl).trans (by kernel_rfl)
end Go.Proofs.YtiejgieiokmmfaaGreatDoor

/-
  Functions as equations. Printed by a program (wip/tool/dc.py).
-/
import Derived.Test.YtoajpgclgdhhlaaV16
namespace Go.Proofs.Ytoajpgclgdhhlaa.V
set_option linter.unusedVariables false
set_option linter.unusedSimpArgs false
set_option linter.unnecessarySimpa false
set_option linter.unusedSectionVars false
open Go.RowKit
set_option maxRecDepth 1000000
/-! overseer/overseerlaw16.LexerReads -/
noncomputable def g10_c : Code := bodyOf Try.f10
noncomputable def g10_E : AE := SS.ae 10 109
noncomputable def g10_X : XE := SS.xe SS.CC SS.LL g10_E 0
noncomputable def g10_K0 : AX → ASt → R := retK SS.P Try.f10.results.toList (SS.prm 10).ro 0 []
noncomputable def g10_c1 : Code := Code.sub [true, true, true, true] g10_c
noncomputable def g10_K1 : AX → ASt → R := thenK (joinX g10_E 0 g10_c1 (exK g10_X g10_c1 g10_K0)) g10_K0
noncomputable def g10_K2 : AX → ASt → R := blkK 0 g10_K1
noncomputable def g10_c2 : Code := Code.sub [true, true, true, false, true, false, false] g10_c
noncomputable def g10_L6 (x1 : List PV) (o0_0 : List PV) (o0_1 : Int) (o0_2 : Int) (o0_3 : Int) (o1_0 : List PV) (o1_1 : Int) (o1_2 : Int) (o1_3 : Int) (o1_4 : Int) (x7 : Int) : R := SS.LL g10_E 0 [1, 5, 6, 7] 2 g10_c2 g10_K2 ⟨[(1, .sl false 4 x1), (5, .ptr 0 0), (6, .ptr 1 0), (7, .int .i64 x7)], [some [.sl false 5 o0_0, .int .i64 o0_1, .int .i64 o0_2, .int .i64 o0_3], some [.sl false 5 o1_0, .int .i64 o1_1, .int .i64 o1_2, .int .i64 o1_3, .int .i64 o1_4]]⟩
theorem g10_L6_eq (x1 : List PV) (o0_0 : List PV) (o0_1 : Int) (o0_2 : Int) (o0_3 : Int) (o1_0 : List PV) (o1_1 : Int) (o1_2 : Int) (o1_3 : Int) (o1_4 : Int) (x7 : Int) : g10_L6 x1 o0_0 o0_1 o0_2 o0_3 o1_0 o1_1 o1_2 o1_3 o1_4 x7 =
    bsel (decide (x7 < (x1.length : Int))) (lgetX x1 x7 fun e1 => v40 e1 fun n2 s3 n4 n5 => bsel (decide (20 < (s3.size : Int))) (some (.bool true, [])) (lgetX x1 x7 fun e6 => v40 e6 fun n7 s8 n9 n10 => clH SS.CC 25 [.ptr 0 0, .agg [.int .u8 n7, .str s8, .int .i8 n9, .int .i8 n10]] [some [.sl false 5 o0_0, .int .i64 o0_1, .int .i64 o0_2, .int .i64 o0_3]] fun r23 h24 => h25_0 r23 h24 fun n11 s12 n13 n14 n15 b16 s17 n18 l19 n20 n21 n22 => lgetX x1 x7 fun e25 => v40 e25 fun n26 s27 n28 n29 => clH SS.CC 28 [.ptr 0 0, .agg [.int .u8 n26, .str s27, .int .i8 n28, .int .i8 n29]] [some [.sl false 5 o1_0, .int .i64 o1_1, .int .i64 o1_2, .int .i64 o1_3, .int .i64 o1_4]] fun r43 h44 => h28_0 r43 h44 fun n30 s31 n32 n33 n34 b35 s36 n37 l38 n39 n40 n41 n42 => bsel (!(((n11 == n30) && ((s12.toList == s31.toList) && ((n13 == n32) && ((n14 == n33) && ((n15 == n34) && true))))) && ((b16 == b35) && ((s17.toList == s36.toList) && ((n18 == n37) && true))))) (some (.bool false, [])) (clH SS.CC 29 [.ptr 0 0] [some [.sl false 5 l19, .int .i64 n20, .int .i64 n21, .int .i64 n22]] fun r54 h55 => h29_0 r54 h55 fun n45 s46 n47 n48 n49 l50 n51 n52 n53 => clH SS.CC 30 [.ptr 0 0] [some [.sl false 5 l38, .int .i64 n39, .int .i64 n40, .int .i64 n41, .int .i64 n42]] fun r66 h67 => h30_0 r66 h67 fun n56 s57 n58 n59 n60 l61 n62 n63 n64 n65 => bsel (!((n45 == n56) && ((s46.toList == s57.toList) && ((n47 == n58) && ((n48 == n59) && ((n49 == n60) && true)))))) (some (.bool false, [])) (clH SS.CC 24 [.ptr 0 0] [some [.sl false 5 l50, .int .i64 n51, .int .i64 n52, .int .i64 n53]] fun r75 h76 => h24_0 r75 h76 fun n68 n69 n70 l71 n72 n73 n74 => bsel (n70 != n65) (some (.bool false, [])) (bsel (n65 == 0) (bsel ((IntKind.i64.wrap (n68 + n69)) != 0) (some (.bool false, [])) (bsel (n65 != 0) (bsel (n68 != n63) (some (.bool false, [])) (bsel (n69 != n64) (some (.bool false, [])) (g10_L6 x1 l71 n72 n73 n74 l61 n62 n63 n64 n65 (IntKind.i64.wrap (x7 + 1))))) (g10_L6 x1 l71 n72 n73 n74 l61 n62 n63 n64 n65 (IntKind.i64.wrap (x7 + 1))))) (bsel (n65 != 0) (bsel (n68 != n63) (some (.bool false, [])) (bsel (n69 != n64) (some (.bool false, [])) (g10_L6 x1 l71 n72 n73 n74 l61 n62 n63 n64 n65 (IntKind.i64.wrap (x7 + 1))))) (g10_L6 x1 l71 n72 n73 n74 l61 n62 n63 n64 n65 (IntKind.i64.wrap (x7 + 1))))))))) (some (.bool true, [])) := (LL_eq SS_ok (by decide) (by kernel_rfl) (by kernel_rfl)).trans (by kernel_rfl)
theorem g10_eq (a0 : ByteArray) (a1 : List PV) : SS.CC 10 [.str a0, .sl false 4 a1] [] =
    clX SS.CC 11 [] fun r2 => vB r2 fun b1 => bsel (!b1) (clX SS.CC 11 [] fun r4 => vB r4 fun b3 => some (.bool b3, [])) (bsel (decide (200 < (a0.size : Int))) (clX SS.CC 11 [] fun r6 => vB r6 fun b5 => some (.bool b5, [])) (bsel (decide (20 < (a1.length : Int))) (clX SS.CC 11 [] fun r8 => vB r8 fun b7 => some (.bool b7, [])) (clH SS.CC 26 [.str a0] [] fun r13 h14 => h26_0 r13 h14 fun l9 n10 n11 n12 => clH SS.CC 27 [.str a0] [] fun r20 h21 => h27_0 r20 h21 fun l15 n16 n17 n18 n19 => g10_L6 a1 l9 n10 n11 n12 l15 n16 n17 n18 n19 0))) := (CC_run SS_ok rfl).trans (by kernel_rfl)
/-! overseer/lexer.New -/
noncomputable def g26_c : Code := bodyOf Try.f26
noncomputable def g26_E : AE := SS.ae 26 20
noncomputable def g26_X : XE := SS.xe SS.CC SS.LL g26_E 0
theorem g26_eq (a0 : ByteArray) : SS.CC 26 [.str a0] [] =
    clX SS.CC 12 [.str a0] fun r5 => w_24_3_3_3 r5 fun l1 n2 n3 n4 => some (.ptr 0 0, [some [.sl false 5 l1, .int .i64 n2, .int .i64 n3, .int .i64 n4]]) := (CC_run SS_ok rfl).trans (by kernel_rfl)
/-! overseer/overseerlaw16.start -/
noncomputable def g27_c : Code := bodyOf Try.f27
noncomputable def g27_E : AE := SS.ae 27 20
noncomputable def g27_X : XE := SS.xe SS.CC SS.LL g27_E 0
theorem g27_eq (a0 : ByteArray) : SS.CC 27 [.str a0] [] =
    clX SS.CC 20 [.str a0] fun r5 => w_24_3_3_3 r5 fun l1 n2 n3 n4 => some (.ptr 0 0, [some [.sl false 5 l1, .int .i64 0, .int .i64 n2, .int .i64 n3, .int .i64 n4]]) := (CC_run SS_ok rfl).trans (by kernel_rfl)
/-! overseer/overseerlaw16.call -/
noncomputable def g25_c : Code := bodyOf Try.f25
noncomputable def g25_E : AE := SS.ae 25 75
noncomputable def g25_X : XE := SS.xe SS.CC SS.LL g25_E 1
theorem g25_eq (a1 : Int) (a1_1 : ByteArray) (a1_2 : Int) (a1_3 : Int) (h0_0 : List PV) (h0_1 : Int) (h0_2 : Int) (h0_3 : Int) : SS.CC 25 [.ptr 0 0, .agg [.int .u8 a1, .str a1_1, .int .i8 a1_2, .int .i8 a1_3]] [some [.sl false 5 h0_0, .int .i64 h0_1, .int .i64 h0_2, .int .i64 h0_3]] =
    bsel ((Int.tmod a1 10) == 0) (clH SS.CC 29 [.ptr 0 0] [some [.sl false 5 h0_0, .int .i64 h0_1, .int .i64 h0_2, .int .i64 h0_3]] fun r10 h11 => h29_0 r10 h11 fun n1 s2 n3 n4 n5 l6 n7 n8 n9 => some (.agg [.int .i64 n1, .str s2, .int .i64 n3, .int .i64 n4, .int .i64 n5, .bool false, .str ⟨#[]⟩, .int .i64 0], [some [.sl false 5 l6, .int .i64 n7, .int .i64 n8, .int .i64 n9]])) (bsel ((Int.tmod a1 10) == 1) (clH SS.CC 44 [.ptr 0 0] [some [.sl false 5 h0_0, .int .i64 h0_1, .int .i64 h0_2, .int .i64 h0_3]] fun r21 h22 => h44_0 r21 h22 fun n12 s13 n14 n15 n16 l17 n18 n19 n20 => some (.agg [.int .i64 n12, .str s13, .int .i64 n14, .int .i64 n15, .int .i64 n16, .bool false, .str ⟨#[]⟩, .int .i64 0], [some [.sl false 5 l17, .int .i64 n18, .int .i64 n19, .int .i64 n20]])) (bsel ((Int.tmod a1 10) == 2) (clH SS.CC 45 [.ptr 0 0, .str a1_1] [some [.sl false 5 h0_0, .int .i64 h0_1, .int .i64 h0_2, .int .i64 h0_3]] fun r28 h29 => h45_0 r28 h29 fun b23 l24 n25 n26 n27 => some (.agg [.int .i64 0, .str ⟨#[]⟩, .int .i64 0, .int .i64 0, .int .i64 0, .bool b23, .str ⟨#[]⟩, .int .i64 0], [some [.sl false 5 l24, .int .i64 n25, .int .i64 n26, .int .i64 n27]])) (bsel ((Int.tmod a1 10) == 3) (clH SS.CC 43 [.ptr 0 0, .str a1_1] [some [.sl false 5 h0_0, .int .i64 h0_1, .int .i64 h0_2, .int .i64 h0_3]] fun r35 h36 => h43_0 r35 h36 fun b30 l31 n32 n33 n34 => some (.agg [.int .i64 0, .str ⟨#[]⟩, .int .i64 0, .int .i64 0, .int .i64 0, .bool b30, .str ⟨#[]⟩, .int .i64 0], [some [.sl false 5 l31, .int .i64 n32, .int .i64 n33, .int .i64 n34]])) (bsel ((Int.tmod a1 10) == 4) (clH SS.CC 46 [.ptr 0 0, .str a1_1] [some [.sl false 5 h0_0, .int .i64 h0_1, .int .i64 h0_2, .int .i64 h0_3]] fun r41 h42 => h46_0 r41 h42 fun l37 n38 n39 n40 => some (.agg [.int .i64 0, .str ⟨#[]⟩, .int .i64 0, .int .i64 0, .int .i64 0, .bool false, .str ⟨#[]⟩, .int .i64 0], [some [.sl false 5 l37, .int .i64 n38, .int .i64 n39, .int .i64 n40]])) (bsel ((Int.tmod a1 10) == 5) (clH SS.CC 47 [.ptr 0 0] [some [.sl false 5 h0_0, .int .i64 h0_1, .int .i64 h0_2, .int .i64 h0_3]] fun r48 h49 => h47_0 r48 h49 fun s43 l44 n45 n46 n47 => some (.agg [.int .i64 0, .str ⟨#[]⟩, .int .i64 0, .int .i64 0, .int .i64 0, .bool false, .str s43, .int .i64 0], [some [.sl false 5 l44, .int .i64 n45, .int .i64 n46, .int .i64 n47]])) (bsel ((Int.tmod a1 10) == 6) (clH SS.CC 48 [.ptr 0 0, .int .i64 (IntKind.i64.wrap a1_2), .int .i64 (IntKind.i64.wrap a1_3)] [some [.sl false 5 h0_0, .int .i64 h0_1, .int .i64 h0_2, .int .i64 h0_3]] fun r55 h56 => h48_0 r55 h56 fun n50 l51 n52 n53 n54 => some (.agg [.int .i64 0, .str ⟨#[]⟩, .int .i64 0, .int .i64 0, .int .i64 0, .bool false, .str ⟨#[]⟩, .int .i64 n50], [some [.sl false 5 l51, .int .i64 n52, .int .i64 n53, .int .i64 n54]])) (bsel ((Int.tmod a1 10) == 7) (clH SS.CC 49 [.ptr 0 0] [some [.sl false 5 h0_0, .int .i64 h0_1, .int .i64 h0_2, .int .i64 h0_3]] fun r61 h62 => h49_0 r61 h62 fun l57 n58 n59 n60 => some (.agg [.int .i64 0, .str ⟨#[]⟩, .int .i64 0, .int .i64 0, .int .i64 0, .bool false, .str ⟨#[]⟩, .int .i64 0], [some [.sl false 5 l57, .int .i64 n58, .int .i64 n59, .int .i64 n60]])) (bsel ((Int.tmod a1 10) == 8) (clH SS.CC 50 [.ptr 0 0, .int .i64 (IntKind.i64.wrap (BitVec.ofInt 64 (IntKind.i64.wrap a1_2) &&& BitVec.ofInt 64 15).toNat)] [some [.sl false 5 h0_0, .int .i64 h0_1, .int .i64 h0_2, .int .i64 h0_3]] fun r67 h68 => h50_0 r67 h68 fun l63 n64 n65 n66 => some (.agg [.int .i64 0, .str ⟨#[]⟩, .int .i64 0, .int .i64 0, .int .i64 0, .bool false, .str ⟨#[]⟩, .int .i64 0], [some [.sl false 5 l63, .int .i64 n64, .int .i64 n65, .int .i64 n66]])) (clH SS.CC 22 [.ptr 0 0, .func (.func 51) [] [.ptr 1 0, .ptr 2 0, .ptr 3 0]] [some [.sl false 5 h0_0, .int .i64 h0_1, .int .i64 h0_2, .int .i64 h0_3], some [.str ⟨#[]⟩], some [.ptr 0 0], some [.int .i64 0]] fun r75 h76 => h22_0 r75 h76 fun l69 n70 n71 n72 s73 n74 => some (.agg [.int .i64 0, .str ⟨#[]⟩, .int .i64 0, .int .i64 0, .int .i64 0, .bool false, .str s73, .int .i64 n74], [some [.sl false 5 l69, .int .i64 n70, .int .i64 n71, .int .i64 n72]])))))))))) := (CC_run SS_ok rfl).trans (by kernel_rfl)
/-! (*overseer/lexer.Reader).Peek -/
noncomputable def g29_c : Code := bodyOf Try.f29
noncomputable def g29_E : AE := SS.ae 29 28
noncomputable def g29_X : XE := SS.xe SS.CC SS.LL g29_E 1
theorem g29_eq (h0_0 : List PV) (h0_1 : Int) (h0_2 : Int) (h0_3 : Int) : SS.CC 29 [.ptr 0 0] [some [.sl false 5 h0_0, .int .i64 h0_1, .int .i64 h0_2, .int .i64 h0_3]] =
    bsel (h0_3 != 0) (some (.agg [.int .i64 4, .str ⟨#[]⟩, .int .i64 0, .int .i64 h0_1, .int .i64 h0_2], [some [.sl false 5 h0_0, .int .i64 h0_1, .int .i64 h0_2, .int .i64 h0_3]])) (lgetX h0_0 0 fun e1 => v29 e1 fun n2 s3 n4 n5 n6 => some (.agg [.int .i64 n2, .str s3, .int .i64 n4, .int .i64 n5, .int .i64 n6], [some [.sl false 5 h0_0, .int .i64 h0_1, .int .i64 h0_2, .int .i64 h0_3]])) := (CC_run SS_ok rfl).trans (by kernel_rfl)
/-! (*overseer/lexer.Reader).Error -/
noncomputable def g24_c : Code := bodyOf Try.f24
noncomputable def g24_E : AE := SS.ae 24 26
noncomputable def g24_X : XE := SS.xe SS.CC SS.LL g24_E 1
theorem g24_eq (h0_0 : List PV) (h0_1 : Int) (h0_2 : Int) (h0_3 : Int) : SS.CC 24 [.ptr 0 0] [some [.sl false 5 h0_0, .int .i64 h0_1, .int .i64 h0_2, .int .i64 h0_3]] =
    bsel (h0_3 == 0) (some (.tuple [.int .i64 0, .int .i64 0, .int .i64 0], [some [.sl false 5 h0_0, .int .i64 h0_1, .int .i64 h0_2, .int .i64 h0_3]])) (some (.tuple [.int .i64 h0_1, .int .i64 h0_2, .int .i64 h0_3], [some [.sl false 5 h0_0, .int .i64 h0_1, .int .i64 h0_2, .int .i64 h0_3]])) := (CC_run SS_ok rfl).trans (by kernel_rfl)
/-! (*overseer/lexer.Reader).Next -/
noncomputable def g44_c : Code := bodyOf Try.f44
noncomputable def g44_E : AE := SS.ae 44 29
noncomputable def g44_X : XE := SS.xe SS.CC SS.LL g44_E 1
theorem g44_eq (h0_0 : List PV) (h0_1 : Int) (h0_2 : Int) (h0_3 : Int) : SS.CC 44 [.ptr 0 0] [some [.sl false 5 h0_0, .int .i64 h0_1, .int .i64 h0_2, .int .i64 h0_3]] =
    clH SS.CC 29 [.ptr 0 0] [some [.sl false 5 h0_0, .int .i64 h0_1, .int .i64 h0_2, .int .i64 h0_3]] fun r10 h11 => h29_0 r10 h11 fun n1 s2 n3 n4 n5 l6 n7 n8 n9 => bsel (n9 == 0) (bsel (n1 != 4) (chk (decide (0 ≤ 1) && decide (1 ≤ (l6.length : Int))) (some (.agg [.int .i64 n1, .str s2, .int .i64 n3, .int .i64 n4, .int .i64 n5], [some [.sl false 5 (l6.drop (1 : Int).toNat), .int .i64 n7, .int .i64 n8, .int .i64 n9]]))) (some (.agg [.int .i64 n1, .str s2, .int .i64 n3, .int .i64 n4, .int .i64 n5], [some [.sl false 5 l6, .int .i64 n7, .int .i64 n8, .int .i64 n9]]))) (some (.agg [.int .i64 n1, .str s2, .int .i64 n3, .int .i64 n4, .int .i64 n5], [some [.sl false 5 l6, .int .i64 n7, .int .i64 n8, .int .i64 n9]])) := (CC_run SS_ok rfl).trans (by kernel_rfl)
/-! (*overseer/lexer.Reader).Is -/
noncomputable def g45_c : Code := bodyOf Try.f45
noncomputable def g45_E : AE := SS.ae 45 22
noncomputable def g45_X : XE := SS.xe SS.CC SS.LL g45_E 1
theorem g45_eq (a1 : ByteArray) (h0_0 : List PV) (h0_1 : Int) (h0_2 : Int) (h0_3 : Int) : SS.CC 45 [.ptr 0 0, .str a1] [some [.sl false 5 h0_0, .int .i64 h0_1, .int .i64 h0_2, .int .i64 h0_3]] =
    clH SS.CC 29 [.ptr 0 0] [some [.sl false 5 h0_0, .int .i64 h0_1, .int .i64 h0_2, .int .i64 h0_3]] fun r10 h11 => h29_0 r10 h11 fun n1 s2 n3 n4 n5 l6 n7 n8 n9 => bsel (n1 == 1) (some (.bool (s2.toList == a1.toList), [some [.sl false 5 l6, .int .i64 n7, .int .i64 n8, .int .i64 n9]])) (bsel (n1 == 3) (some (.bool (s2.toList == a1.toList), [some [.sl false 5 l6, .int .i64 n7, .int .i64 n8, .int .i64 n9]])) (some (.bool false, [some [.sl false 5 l6, .int .i64 n7, .int .i64 n8, .int .i64 n9]]))) := (CC_run SS_ok rfl).trans (by kernel_rfl)
/-! (*overseer/lexer.Reader).Take -/
noncomputable def g43_c : Code := bodyOf Try.f43
noncomputable def g43_E : AE := SS.ae 43 13
noncomputable def g43_X : XE := SS.xe SS.CC SS.LL g43_E 1
theorem g43_eq (a1 : ByteArray) (h0_0 : List PV) (h0_1 : Int) (h0_2 : Int) (h0_3 : Int) : SS.CC 43 [.ptr 0 0, .str a1] [some [.sl false 5 h0_0, .int .i64 h0_1, .int .i64 h0_2, .int .i64 h0_3]] =
    clH SS.CC 45 [.ptr 0 0, .str a1] [some [.sl false 5 h0_0, .int .i64 h0_1, .int .i64 h0_2, .int .i64 h0_3]] fun r6 h7 => h45_0 r6 h7 fun b1 l2 n3 n4 n5 => bsel b1 (clH SS.CC 44 [.ptr 0 0] [some [.sl false 5 l2, .int .i64 n3, .int .i64 n4, .int .i64 n5]] fun r17 h18 => h44_0 r17 h18 fun n8 s9 n10 n11 n12 l13 n14 n15 n16 => some (.bool b1, [some [.sl false 5 l13, .int .i64 n14, .int .i64 n15, .int .i64 n16]])) (some (.bool b1, [some [.sl false 5 l2, .int .i64 n3, .int .i64 n4, .int .i64 n5]])) := (CC_run SS_ok rfl).trans (by kernel_rfl)
/-! (*overseer/lexer.Reader).Expect -/
noncomputable def g46_c : Code := bodyOf Try.f46
noncomputable def g46_E : AE := SS.ae 46 10
noncomputable def g46_X : XE := SS.xe SS.CC SS.LL g46_E 1
theorem g46_eq (a1 : ByteArray) (h0_0 : List PV) (h0_1 : Int) (h0_2 : Int) (h0_3 : Int) : SS.CC 46 [.ptr 0 0, .str a1] [some [.sl false 5 h0_0, .int .i64 h0_1, .int .i64 h0_2, .int .i64 h0_3]] =
    clH SS.CC 43 [.ptr 0 0, .str a1] [some [.sl false 5 h0_0, .int .i64 h0_1, .int .i64 h0_2, .int .i64 h0_3]] fun r6 h7 => h43_0 r6 h7 fun b1 l2 n3 n4 n5 => bsel (!b1) (clH SS.CC 50 [.ptr 0 0, .int .i64 14] [some [.sl false 5 l2, .int .i64 n3, .int .i64 n4, .int .i64 n5]] fun r12 h13 => h50_0 r12 h13 fun l8 n9 n10 n11 => some (.tuple [], [some [.sl false 5 l8, .int .i64 n9, .int .i64 n10, .int .i64 n11]])) (some (.tuple [], [some [.sl false 5 l2, .int .i64 n3, .int .i64 n4, .int .i64 n5]])) := (CC_run SS_ok rfl).trans (by kernel_rfl)
/-! (*overseer/lexer.Reader).Name -/
noncomputable def g47_c : Code := bodyOf Try.f47
noncomputable def g47_E : AE := SS.ae 47 12
noncomputable def g47_X : XE := SS.xe SS.CC SS.LL g47_E 1
theorem g47_eq (h0_0 : List PV) (h0_1 : Int) (h0_2 : Int) (h0_3 : Int) : SS.CC 47 [.ptr 0 0] [some [.sl false 5 h0_0, .int .i64 h0_1, .int .i64 h0_2, .int .i64 h0_3]] =
    clH SS.CC 29 [.ptr 0 0] [some [.sl false 5 h0_0, .int .i64 h0_1, .int .i64 h0_2, .int .i64 h0_3]] fun r10 h11 => h29_0 r10 h11 fun n1 s2 n3 n4 n5 l6 n7 n8 n9 => bsel (n1 != 1) (clH SS.CC 50 [.ptr 0 0, .int .i64 14] [some [.sl false 5 l6, .int .i64 n7, .int .i64 n8, .int .i64 n9]] fun r16 h17 => h50_0 r16 h17 fun l12 n13 n14 n15 => some (.str ⟨#[]⟩, [some [.sl false 5 l12, .int .i64 n13, .int .i64 n14, .int .i64 n15]])) (clH SS.CC 44 [.ptr 0 0] [some [.sl false 5 l6, .int .i64 n7, .int .i64 n8, .int .i64 n9]] fun r27 h28 => h44_0 r27 h28 fun n18 s19 n20 n21 n22 l23 n24 n25 n26 => some (.str s19, [some [.sl false 5 l23, .int .i64 n24, .int .i64 n25, .int .i64 n26]])) := (CC_run SS_ok rfl).trans (by kernel_rfl)
/-! (*overseer/lexer.Reader).Int -/
noncomputable def g48_c : Code := bodyOf Try.f48
noncomputable def g48_E : AE := SS.ae 48 47
noncomputable def g48_X : XE := SS.xe SS.CC SS.LL g48_E 1
noncomputable def g48_K0 : AX → ASt → R := retK SS.P Try.f48.results.toList (SS.prm 48).ro 1 []
noncomputable def g48_c1 : Code := Code.sub [true, true, true] g48_c
noncomputable def g48_J7 (x1 : Int) (x2 : Int) (o0_0 : List PV) (o0_1 : Int) (o0_2 : Int) (o0_3 : Int) (x7 : Int) : R := exK g48_X g48_c1 g48_K0 ⟨[(0, .ptr 0 0), (1, .int .i64 x1), (2, .int .i64 x2), (7, .int .i64 x7)], [some [.sl false 5 o0_0, .int .i64 o0_1, .int .i64 o0_2, .int .i64 o0_3]]⟩
theorem g48_J7_eq (x1 : Int) (x2 : Int) (o0_0 : List PV) (o0_1 : Int) (o0_2 : Int) (o0_3 : Int) (x7 : Int) : g48_J7 x1 x2 o0_0 o0_1 o0_2 o0_3 x7 =
    clH SS.CC 29 [.ptr 0 0] [some [.sl false 5 o0_0, .int .i64 o0_1, .int .i64 o0_2, .int .i64 o0_3]] fun r10 h11 => h29_0 r10 h11 fun n1 s2 n3 n4 n5 l6 n7 n8 n9 => bsel (n1 != 2) (clH SS.CC 50 [.ptr 0 0, .int .i64 14] [some [.sl false 5 l6, .int .i64 n7, .int .i64 n8, .int .i64 n9]] fun r16 h17 => h50_0 r16 h17 fun l12 n13 n14 n15 => some (.int .i64 0, [some [.sl false 5 l12, .int .i64 n13, .int .i64 n14, .int .i64 n15]])) (bsel (decide ((IntKind.i64.wrap (x7 * n3)) < x1)) (clH SS.CC 50 [.ptr 0 0, .int .i64 2] [some [.sl false 5 l6, .int .i64 n7, .int .i64 n8, .int .i64 n9]] fun r22 h23 => h50_0 r22 h23 fun l18 n19 n20 n21 => some (.int .i64 0, [some [.sl false 5 l18, .int .i64 n19, .int .i64 n20, .int .i64 n21]])) (bsel (decide (x2 < (IntKind.i64.wrap (x7 * n3)))) (clH SS.CC 50 [.ptr 0 0, .int .i64 2] [some [.sl false 5 l6, .int .i64 n7, .int .i64 n8, .int .i64 n9]] fun r28 h29 => h50_0 r28 h29 fun l24 n25 n26 n27 => some (.int .i64 0, [some [.sl false 5 l24, .int .i64 n25, .int .i64 n26, .int .i64 n27]])) (clH SS.CC 44 [.ptr 0 0] [some [.sl false 5 l6, .int .i64 n7, .int .i64 n8, .int .i64 n9]] fun r39 h40 => h44_0 r39 h40 fun n30 s31 n32 n33 n34 l35 n36 n37 n38 => some (.int .i64 (IntKind.i64.wrap (x7 * n3)), [some [.sl false 5 l35, .int .i64 n36, .int .i64 n37, .int .i64 n38]])))) := by kernel_rfl
theorem g48_eq (a1 : Int) (a2 : Int) (h0_0 : List PV) (h0_1 : Int) (h0_2 : Int) (h0_3 : Int) : SS.CC 48 [.ptr 0 0, .int .i64 a1, .int .i64 a2] [some [.sl false 5 h0_0, .int .i64 h0_1, .int .i64 h0_2, .int .i64 h0_3]] =
    clH SS.CC 29 [.ptr 0 0] [some [.sl false 5 h0_0, .int .i64 h0_1, .int .i64 h0_2, .int .i64 h0_3]] fun r10 h11 => h29_0 r10 h11 fun n1 s2 n3 n4 n5 l6 n7 n8 n9 => bsel (n1 == 3) (bsel (s2.toList == (⟨#[45]⟩ : ByteArray).toList) (clH SS.CC 44 [.ptr 0 0] [some [.sl false 5 l6, .int .i64 n7, .int .i64 n8, .int .i64 n9]] fun r21 h22 => h44_0 r21 h22 fun n12 s13 n14 n15 n16 l17 n18 n19 n20 => g48_J7 a1 a2 l17 n18 n19 n20 (-1)) (g48_J7 a1 a2 l6 n7 n8 n9 1)) (g48_J7 a1 a2 l6 n7 n8 n9 1) := (CC_run SS_ok rfl).trans (by kernel_rfl)
/-! (*overseer/lexer.Reader).Finish -/
noncomputable def g49_c : Code := bodyOf Try.f49
noncomputable def g49_E : AE := SS.ae 49 8
noncomputable def g49_X : XE := SS.xe SS.CC SS.LL g49_E 1
theorem g49_eq (h0_0 : List PV) (h0_1 : Int) (h0_2 : Int) (h0_3 : Int) : SS.CC 49 [.ptr 0 0] [some [.sl false 5 h0_0, .int .i64 h0_1, .int .i64 h0_2, .int .i64 h0_3]] =
    clH SS.CC 29 [.ptr 0 0] [some [.sl false 5 h0_0, .int .i64 h0_1, .int .i64 h0_2, .int .i64 h0_3]] fun r10 h11 => h29_0 r10 h11 fun n1 s2 n3 n4 n5 l6 n7 n8 n9 => bsel (n1 != 4) (clH SS.CC 50 [.ptr 0 0, .int .i64 14] [some [.sl false 5 l6, .int .i64 n7, .int .i64 n8, .int .i64 n9]] fun r16 h17 => h50_0 r16 h17 fun l12 n13 n14 n15 => some (.tuple [], [some [.sl false 5 l12, .int .i64 n13, .int .i64 n14, .int .i64 n15]])) (some (.tuple [], [some [.sl false 5 l6, .int .i64 n7, .int .i64 n8, .int .i64 n9]])) := (CC_run SS_ok rfl).trans (by kernel_rfl)
/-! (*overseer/lexer.Reader).List -/
noncomputable def g22_c : Code := bodyOf Try.f22
noncomputable def g22_E : AE := SS.ae 22 19
noncomputable def g22_X : XE := SS.xe SS.CC SS.LL g22_E 4
noncomputable def g22_K0 : AX → ASt → R := retK SS.P Try.f22.results.toList (SS.prm 22).ro 4 []
noncomputable def g22_K1 : AX → ASt → R := blkK 0 g22_K0
noncomputable def g22_c1 : Code := Code.sub [true, true, false, false] g22_c
noncomputable def g22_L3 (o0_0 : List PV) (o0_1 : Int) (o0_2 : Int) (o0_3 : Int) (o1_0 : ByteArray) (o3_0 : Int) : R := SS.LL g22_E 4 [0, 1] 4 g22_c1 g22_K1 ⟨[(0, .ptr 0 0), (1, .func (.func 51) [] [.ptr 1 0, .ptr 2 0, .ptr 3 0])], [some [.sl false 5 o0_0, .int .i64 o0_1, .int .i64 o0_2, .int .i64 o0_3], some [.str o1_0], some [.ptr 0 0], some [.int .i64 o3_0]]⟩
theorem g22_L3_eq (o0_0 : List PV) (o0_1 : Int) (o0_2 : Int) (o0_3 : Int) (o1_0 : ByteArray) (o3_0 : Int) : g22_L3 o0_0 o0_1 o0_2 o0_3 o1_0 o3_0 =
    bsel (o0_3 == 0) (clH SS.CC 43 [.ptr 0 0, .str ⟨#[44]⟩] [some [.sl false 5 o0_0, .int .i64 o0_1, .int .i64 o0_2, .int .i64 o0_3]] fun r6 h7 => h43_0 r6 h7 fun b1 l2 n3 n4 n5 => bsel b1 (clH SS.CC 51 [.ptr 0 0, .ptr 1 0, .ptr 2 0] [some [.str o1_0], some [.ptr 3 0], some [.int .i64 o3_0], some [.sl false 5 l2, .int .i64 n3, .int .i64 n4, .int .i64 n5]] fun r14 h15 => h51_0 r14 h15 fun s8 n9 l10 n11 n12 n13 => g22_L3 l10 n11 n12 n13 s8 n9) (some (.tuple [], [some [.sl false 5 l2, .int .i64 n3, .int .i64 n4, .int .i64 n5], some [.str o1_0], some [.ptr 0 0], some [.int .i64 o3_0]]))) (some (.tuple [], [some [.sl false 5 o0_0, .int .i64 o0_1, .int .i64 o0_2, .int .i64 o0_3], some [.str o1_0], some [.ptr 0 0], some [.int .i64 o3_0]])) := (LL_eq SS_ok (by decide) (by kernel_rfl) (by kernel_rfl)).trans (by kernel_rfl)
theorem g22_eq (h0_0 : List PV) (h0_1 : Int) (h0_2 : Int) (h0_3 : Int) (h1_0 : ByteArray) (h3_0 : Int) : SS.CC 22 [.ptr 0 0, .func (.func 51) [] [.ptr 1 0, .ptr 2 0, .ptr 3 0]] [some [.sl false 5 h0_0, .int .i64 h0_1, .int .i64 h0_2, .int .i64 h0_3], some [.str h1_0], some [.ptr 0 0], some [.int .i64 h3_0]] =
    clH SS.CC 51 [.ptr 0 0, .ptr 1 0, .ptr 2 0] [some [.str h1_0], some [.ptr 3 0], some [.int .i64 h3_0], some [.sl false 5 h0_0, .int .i64 h0_1, .int .i64 h0_2, .int .i64 h0_3]] fun r7 h8 => h51_0 r7 h8 fun s1 n2 l3 n4 n5 n6 => g22_L3 l3 n4 n5 n6 s1 n2 := (CC_run SS_ok rfl).trans (by kernel_rfl)
/-! overseer/overseerlaw16.call$1 -/
noncomputable def g51_c : Code := bodyOf Try.f51
noncomputable def g51_E : AE := SS.ae 51 10
noncomputable def g51_X : XE := SS.xe SS.CC SS.LL g51_E 4
theorem g51_eq (h0_0 : ByteArray) (h2_0 : Int) (h3_0 : List PV) (h3_1 : Int) (h3_2 : Int) (h3_3 : Int) : SS.CC 51 [.ptr 0 0, .ptr 1 0, .ptr 2 0] [some [.str h0_0], some [.ptr 3 0], some [.int .i64 h2_0], some [.sl false 5 h3_0, .int .i64 h3_1, .int .i64 h3_2, .int .i64 h3_3]] =
    clH SS.CC 47 [.ptr 0 0] [some [.sl false 5 h3_0, .int .i64 h3_1, .int .i64 h3_2, .int .i64 h3_3]] fun r6 h7 => h47_0 r6 h7 fun s1 l2 n3 n4 n5 => chk (decide (h0_0.size + s1.size ≤ LIM)) (chk (decide ((h0_0 ++ s1).size + (⟨#[44]⟩ : ByteArray).size ≤ LIM)) (some (.tuple [], [some [.str ((h0_0 ++ s1) ++ (⟨#[44]⟩ : ByteArray))], some [.ptr 3 0], some [.int .i64 (IntKind.i64.wrap (h2_0 + 1))], some [.sl false 5 l2, .int .i64 n3, .int .i64 n4, .int .i64 n5]]))) := (CC_run SS_ok rfl).trans (by kernel_rfl)
end Go.Proofs.Ytoajpgclgdhhlaa.V

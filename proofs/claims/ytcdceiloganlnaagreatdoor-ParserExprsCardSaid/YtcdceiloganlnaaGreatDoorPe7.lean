/- A part of the proof: HO17, W17r, R17, W17x, W17m, W17y, E17, O17, O17w, F17, F17b, F17c. -/
import Derived.Test.YtcdceiloganlnaaGreatDoorPe6
import Derived.Test.YtcdceiloganlnaaGreatDoorPe5
import Derived.Test.YtcdceiloganlnaaGreatDoorPe4
import Derived.ProofKit
import Derived.SizedLaws
import Derived.ChangeArms
import Derived.OpenShut
import Derived.ChangeOld
import Derived.Deep.DeepHandedRow
import Derived.Lib.LaidTab
import Derived.Shelf.LaysM
import Derived.Test.YtcdceiloganlnaaGreatDoorRows
import Derived.Test.YtcdceiloganlnaaGreatDoorCards
import Derived.Test.YtcdceiloganlnaaGreatDoorTie
import Derived.Stop.LaidErr
import Derived.JoinedOf
set_option linter.unusedVariables false
set_option linter.unusedSimpArgs false
set_option linter.unnecessarySimpa false
set_option linter.unusedSectionVars false
namespace Go.Proofs.YtcdceiloganlnaaGreatDoor.W
open Go.RowKit
theorem clHv {C : Cal} {g : FuncId} {a : List PV} {h : Objs} {F : PV → Objs → R} {r : PV} {h' : Objs} {v : R} (e : C g a h = some (r, h')) (e2 : F r h' = v) : clH C g a h F = v := by unfold clH; rw [e]; exact e2
theorem clXv {C : Cal} {g : FuncId} {a : List PV} {F : PV → R} {r : PV} {v : R} (e : C g a [] = some (r, [])) (e2 : F r = v) : clX C g a F = v := by unfold clX; rw [e]; exact e2
theorem G1_of {g : FuncId} {a : List PV} {n1 : Int} {K : RS.F (.ti .i64) R} (e : SS.CC g a [] = some (.int .i64 n1, [])) : G1 g a K = K n1 := clXv e rfl
theorem G13_of {g : FuncId} {a : List PV} {n1 : List PV} {n2 : Int} {n3 : Int} {n4 : Int} {K : RS.F (.t [(false, [.L false 5]), (false, [.I .i64]), (false, [.I .i64]), (false, [.I .i64])]) R} (e : SS.CC g a [] = some (.tuple [.sl false 5 n1, .int .i64 n2, .int .i64 n3, .int .i64 n4], [])) : G13 g a K = K ((n1, ()), (n2, ()), (n3, ()), (n4, ()), ()) := clXv e rfl
theorem G2_of {g : FuncId} {a : List PV} {s1 : ByteArray} {K : RS.F (.ts) R} (e : SS.CC g a [] = some (.str s1, [])) : G2 g a K = K s1 := clXv e rfl
theorem G20_of {g : FuncId} {a : List PV} {x1 : Sh.V S1} {K : RS.F (.g S1) R} (e : SS.CC g a [] = some (A1 x1, [])) : G20 g a K = K x1 := clXv e rfl
theorem G3_of {g : FuncId} {a : List PV} {b1 : Bool} {K : RS.F (.tb) R} (e : SS.CC g a [] = some (.bool b1, [])) : G3 g a K = K b1 := clXv e rfl
theorem G4_of {g : FuncId} {a : List PV} {l1 : List PV} {K : RS.F (.tl false 1) R} (e : SS.CC g a [] = some (.sl false 1 l1, [])) : G4 g a K = K l1 := clXv e rfl
theorem G5_of {g : FuncId} {a : List PV} {x1 : Sh.V S1} {n2 : Int} {n3 : Int} {n4 : Int} {K : RS.F (.t [(true, S1), (false, [.I .i64]), (false, [.I .i64]), (false, [.I .i64])]) R} (e : SS.CC g a [] = some (.tuple [A1 x1, .int .i64 n2, .int .i64 n3, .int .i64 n4], [])) : G5 g a K = K (x1, (n2, ()), (n3, ()), (n4, ()), ()) := clXv e rfl
theorem G7_of {g : FuncId} {a : List PV} {l1 : List PV} {K : RS.F (.tl true 1) R} (e : SS.CC g a [] = some (.sl true 1 l1, [])) : G7 g a K = K l1 := clXv e rfl
theorem H115_of {g : FuncId} {a : List PV} {h : Objs} {n1 : Int} {y2 : Sh.V S18} {y3 : Sh.V S16} {K : RS.F (.ti .i64) (obF [.c S18, .c S16])} (e : SS.CC g a h = some (.int .i64 n1, [O18 y2, O16 y3])) : H115 g a h K = K n1 y2 y3 := clHv e rfl
theorem H116_of {g : FuncId} {a : List PV} {h : Objs} {x1 : Sh.V S1} {y2 : Sh.V S71} {y3 : Sh.V S38} {y4 : Sh.V S16} {K : RS.F (.g S1) (obF [.c S71, .z S36, .c S38, .c S16])} (e : SS.CC g a h = some (A1 x1, [O71 y2, some [.ptr 0 0], O38 y3, O16 y4])) : H116 g a h K = K x1 y2 y3 y4 := clHv e rfl
theorem H117_of {g : FuncId} {a : List PV} {h : Objs} {x1 : Sh.V S1} {y2 : Sh.V S38} {y3 : Sh.V S71} {y4 : Sh.V S16} {K : RS.F (.g S1) (obF [.z S50, .c S38, .c S71, .c S16])} (e : SS.CC g a h = some (A1 x1, [some [.ptr 2 0], O38 y2, O71 y3, O16 y4])) : H117 g a h K = K x1 y2 y3 y4 := clHv e rfl
theorem H14_of {g : FuncId} {a : List PV} {h : Objs} {y1 : Sh.V S16} {K : RS.F (.z (.pt 0 0)) (obF [.c S16])} (e : SS.CC g a h = some (.ptr 0 0, [O16 y1])) : H14 g a h K = K y1 := clHv e rfl
theorem H15_of {g : FuncId} {a : List PV} {h : Objs} {x1 : Sh.V S1} {y2 : Sh.V S17} {y3 : Sh.V S16} {K : RS.F (.g S1) (obF [.c S17, .c S16])} (e : SS.CC g a h = some (A1 x1, [O17 y2, O16 y3])) : H15 g a h K = K x1 y2 y3 := clHv e rfl
theorem H16_of {g : FuncId} {a : List PV} {h : Objs} {y1 : Sh.V S16} {K : RS.F (.t []) (obF [.c S16])} (e : SS.CC g a h = some (.tuple [], [O16 y1])) : H16 g a h K = K () y1 := clHv e rfl
theorem H17_of {g : FuncId} {a : List PV} {h : Objs} {n1 : Int} {n2 : Int} {n3 : Int} {y4 : Sh.V S16} {K : RS.F (.t [(false, [.I .i64]), (false, [.I .i64]), (false, [.I .i64])]) (obF [.c S16])} (e : SS.CC g a h = some (.tuple [.int .i64 n1, .int .i64 n2, .int .i64 n3], [O16 y4])) : H17 g a h K = K ((n1, ()), (n2, ()), (n3, ()), ()) y4 := clHv e rfl
theorem H18_of {g : FuncId} {a : List PV} {h : Objs} {x1 : Sh.V S1} {y2 : Sh.V S18} {y3 : Sh.V S16} {K : RS.F (.g S1) (obF [.c S18, .c S16])} (e : SS.CC g a h = some (A1 x1, [O18 y2, O16 y3])) : H18 g a h K = K x1 y2 y3 := clHv e rfl
theorem H24_of {g : FuncId} {a : List PV} {h : Objs} {x1 : Sh.V S30} {y2 : Sh.V S16} {K : RS.F (.g S30) (obF [.c S16])} (e : SS.CC g a h = some (A30 x1, [O16 y2])) : H24 g a h K = K x1 y2 := clHv e rfl
theorem H26_of {g : FuncId} {a : List PV} {h : Objs} {s1 : ByteArray} {y2 : Sh.V S16} {K : RS.F (.ts) (obF [.c S16])} (e : SS.CC g a h = some (.str s1, [O16 y2])) : H26 g a h K = K s1 y2 := clHv e rfl
theorem H34_of {g : FuncId} {a : List PV} {h : Objs} {b1 : Bool} {y2 : Sh.V S16} {K : RS.F (.tb) (obF [.c S16])} (e : SS.CC g a h = some (.bool b1, [O16 y2])) : H34 g a h K = K b1 y2 := clHv e rfl
theorem H35_of {g : FuncId} {a : List PV} {h : Objs} {x1 : Sh.V S1} {y2 : Sh.V S41} {y3 : Sh.V S16} {K : RS.F (.g S1) (obF [.c S41, .z S36, .c S16])} (e : SS.CC g a h = some (A1 x1, [O41 y2, some [.ptr 0 0], O16 y3])) : H35 g a h K = K x1 y2 y3 := clHv e rfl
theorem H52_of {g : FuncId} {a : List PV} {h : Objs} {n1 : Int} {n2 : Bool} {n3 : Bool} {y4 : Sh.V S17} {y5 : Sh.V S16} {K : RS.F (.t [(false, [.I .i64]), (false, [.B]), (false, [.B])]) (obF [.c S17, .c S16])} (e : SS.CC g a h = some (.tuple [.int .i64 n1, .bool n2, .bool n3], [O17 y4, O16 y5])) : H52 g a h K = K ((n1, ()), (n2, ()), (n3, ()), ()) y4 y5 := clHv e rfl
theorem H53_of {g : FuncId} {a : List PV} {h : Objs} {l1 : List PV} {K : RS.F (.t []) (obF [.a])} (e : SS.CC g a h = some (.tuple [], [some l1])) : H53 g a h K = K () l1 := clHv e rfl
theorem H54_of {g : FuncId} {a : List PV} {h : Objs} {b1 : Bool} {y2 : Sh.V S18} {y3 : Sh.V S16} {K : RS.F (.tb) (obF [.c S18, .c S16])} (e : SS.CC g a h = some (.bool b1, [O18 y2, O16 y3])) : H54 g a h K = K b1 y2 y3 := clHv e rfl
theorem H55_of {g : FuncId} {a : List PV} {h : Objs} {n1 : Int} {y2 : Sh.V S41} {y3 : Sh.V S16} {K : RS.F (.ti .i64) (obF [.z S43, .c S41, .c S16])} (e : SS.CC g a h = some (.int .i64 n1, [some [.ptr 1 0], O41 y2, O16 y3])) : H55 g a h K = K n1 y2 y3 := clHv e rfl
theorem H56_of {g : FuncId} {a : List PV} {h : Objs} {x1 : Sh.V S1} {y2 : Sh.V S41} {y3 : Sh.V S16} {K : RS.F (.g S1) (obF [.z S43, .c S41, .c S16])} (e : SS.CC g a h = some (A1 x1, [some [.ptr 1 0], O41 y2, O16 y3])) : H56 g a h K = K x1 y2 y3 := clHv e rfl
theorem H65_of {g : FuncId} {a : List PV} {h : Objs} {n1 : Int} {y2 : Sh.V S17} {y3 : Sh.V S16} {K : RS.F (.ti .i64) (obF [.c S17, .c S16])} (e : SS.CC g a h = some (.int .i64 n1, [O17 y2, O16 y3])) : H65 g a h K = K n1 y2 y3 := clHv e rfl
theorem H66_of {g : FuncId} {a : List PV} {h : Objs} {x1 : Sh.V S1} {y2 : Sh.V S59} {y3 : Sh.V S16} {K : RS.F (.g S1) (obF [.c S59, .z S36, .c S16])} (e : SS.CC g a h = some (A1 x1, [O59 y2, some [.ptr 0 0], O16 y3])) : H66 g a h K = K x1 y2 y3 := clHv e rfl
theorem H67_of {g : FuncId} {a : List PV} {h : Objs} {n1 : Int} {y2 : Sh.V S16} {K : RS.F (.ti .i64) (obF [.c S16])} (e : SS.CC g a h = some (.int .i64 n1, [O16 y2])) : H67 g a h K = K n1 y2 := clHv e rfl
theorem H68_of {g : FuncId} {a : List PV} {h : Objs} {b1 : Bool} {y2 : Sh.V S41} {y3 : Sh.V S16} {K : RS.F (.tb) (obF [.z S43, .c S41, .c S16])} (e : SS.CC g a h = some (.bool b1, [some [.ptr 1 0], O41 y2, O16 y3])) : H68 g a h K = K b1 y2 y3 := clHv e rfl
theorem H88_of {g : FuncId} {a : List PV} {h : Objs} {x1 : Sh.V S1} {y2 : Sh.V S59} {y3 : Sh.V S16} {K : RS.F (.g S1) (obF [.z S43, .c S59, .c S16])} (e : SS.CC g a h = some (A1 x1, [some [.ptr 1 0], O59 y2, O16 y3])) : H88 g a h K = K x1 y2 y3 := clHv e rfl
theorem H89_of {g : FuncId} {a : List PV} {h : Objs} {y1 : Sh.V S59} {y2 : Sh.V S16} {K : RS.F (.t []) (obF [.z S43, .c S59, .c S16])} (e : SS.CC g a h = some (.tuple [], [some [.ptr 1 0], O59 y1, O16 y2])) : H89 g a h K = K () y1 y2 := clHv e rfl
end Go.Proofs.YtcdceiloganlnaaGreatDoor.W
namespace Go.Proofs.YtcdceiloganlnaaGreatDoor.W
open Go.RowKit
set_option maxRecDepth 1000000
noncomputable section
theorem g100_eq (a0 : ByteArray) : SS.CC 100 [.str a0] [] =
 G13 99 [.str a0] fun u1 => some (.ptr 0 0, [O16 (u1.1.1, u1.2.1.1, u1.2.2.1.1, u1.2.2.2.1.1, ())]) := cc
theorem g103_eq (h0 : Sh.V S16) : SS.CC 103 [.ptr 0 0] [O16 h0] =
 H24 131 [.ptr 0 0] [O16 h0] fun u1 u6 => bsel (u1.1 != 4) (H16 133 [.ptr 0 0, .int .i64 14] [O16 u6] fun _ u12 => some (.tuple [], [O16 u12])) (some (.tuple [], [O16 u6])) := cc
theorem g104_eq (h0 : Sh.V S16) : SS.CC 104 [.ptr 0 0] [O16 h0] =
 bsel (h0.2.2.2.1 == 0) (some (.tuple [.int .i64 0, .int .i64 0, .int .i64 0], [O16 h0])) (some (.tuple [.int .i64 h0.2.1, .int .i64 h0.2.2.1, .int .i64 h0.2.2.2.1], [O16 h0])) := cc
theorem g128_eq (a1 : ByteArray) (h0 : Sh.V S16) : SS.CC 128 [.ptr 0 0, .str a1] [O16 h0] =
 H34 197 [.ptr 0 0, .str a1] [O16 h0] fun b1 u2 => bsel (!b1) (H16 133 [.ptr 0 0, .int .i64 14] [O16 u2] fun _ u8 => some (.tuple [], [O16 u8])) (some (.tuple [], [O16 u2])) := cc
theorem g129_eq (h0 : Sh.V S16) : SS.CC 129 [.ptr 0 0] [O16 h0] =
 H24 131 [.ptr 0 0] [O16 h0] fun u1 u6 => bsel (u1.1 != 1) (H16 133 [.ptr 0 0, .int .i64 14] [O16 u6] fun _ u12 => some (.str ⟨#[]⟩, [O16 u12])) (H24 220 [.ptr 0 0] [O16 u6] fun u18 u23 => some (.str u18.2.1, [O16 u23])) := cc
theorem g131_eq (h0 : Sh.V S16) : SS.CC 131 [.ptr 0 0] [O16 h0] =
 bsel (h0.2.2.2.1 != 0) (some (A30 (4, ⟨#[]⟩, 0, h0.2.1, h0.2.2.1, ()), [O16 h0])) (lgV S30 h0.1 0 fun u2 => some (A30 u2, [O16 h0])) := cc
theorem g133_eq (a1 : Int) (h0 : Sh.V S16) : SS.CC 133 [.ptr 0 0, .int .i64 a1] [O16 h0] =
 agX fun ag => bsel (h0.2.2.2.1 != 0) (some (.tuple [], [O16 h0])) (bsel (a1 == 0) (some (.tuple [], [O16 h0])) (H24 131 [.ptr 0 0] [O16 h0] fun u1 u6 => ag 1 (some (.tuple [], [O16 (u6.1, u1.2.2.2.1, u1.2.2.2.2.1, a1, ())])))) := agF cc
theorem g197_eq (a1 : ByteArray) (h0 : Sh.V S16) : SS.CC 197 [.ptr 0 0, .str a1] [O16 h0] =
 H34 257 [.ptr 0 0, .str a1] [O16 h0] fun b1 u2 => bsel b1 (H24 220 [.ptr 0 0] [O16 u2] fun u8 u13 => some (.bool b1, [O16 u13])) (some (.bool b1, [O16 u2])) := cc
theorem g220_eq (h0 : Sh.V S16) : SS.CC 220 [.ptr 0 0] [O16 h0] =
 H24 131 [.ptr 0 0] [O16 h0] fun u1 u6 => bsel (u6.2.2.2.1 == 0) (bsel (u1.1 != 4) (chk (decide (0 ≤ 1) && decide (1 ≤ (u6.1.length : Int))) (some (A30 u1, [O16 ((u6.1.drop (1 : Int).toNat), u6.2.1, u6.2.2.1, u6.2.2.2.1, ())]))) (some (A30 u1, [O16 u6]))) (some (A30 u1, [O16 u6])) := cc
theorem g257_eq (a1 : ByteArray) (h0 : Sh.V S16) : SS.CC 257 [.ptr 0 0, .str a1] [O16 h0] =
 H24 131 [.ptr 0 0] [O16 h0] fun u1 u6 => bsel (u1.1 == 1) (some (.bool (u1.2.1.toList == a1.toList), [O16 u6])) (bsel (u1.1 == 3) (some (.bool (u1.2.1.toList == a1.toList), [O16 u6])) (some (.bool false, [O16 u6]))) := cc
def g276_K0 : KT := SS.rK Tryz.f276 276 1 []
def g276_J7 (x1 : Int) (x2 : Int) (q0 : Sh.V S16) (x7 : Int) : R := exK (SS.xX 276 47 1) (cS Tryz.f276 15) g276_K0 ⟨[(0, .ptr 0 0), (1, .int .i64 x1), (2, .int .i64 x2), (7, .int .i64 x7)], [O16 q0]⟩
theorem g276_J7_eq (x1 : Int) (x2 : Int) (q0 : Sh.V S16) (x7 : Int) : g276_J7 x1 x2 q0 x7 =
 H24 131 [.ptr 0 0] [O16 q0] fun u1 u6 => bsel (u1.1 != 2) (H16 133 [.ptr 0 0, .int .i64 14] [O16 u6] fun _ u12 => some (.int .i64 0, [O16 u12])) (bsel (decide ((IntKind.i64.wrap (x7 * u1.2.2.1)) < x1)) (H16 133 [.ptr 0 0, .int .i64 2] [O16 u6] fun _ u18 => some (.int .i64 0, [O16 u18])) (bsel (decide (x2 < (IntKind.i64.wrap (x7 * u1.2.2.1)))) (H16 133 [.ptr 0 0, .int .i64 2] [O16 u6] fun _ u24 => some (.int .i64 0, [O16 u24])) (H24 220 [.ptr 0 0] [O16 u6] fun u30 u35 => some (.int .i64 (IntKind.i64.wrap (x7 * u1.2.2.1)), [O16 u35])))) := by kernel_rfl
theorem g276_eq (a1 : Int) (a2 : Int) (h0 : Sh.V S16) : SS.CC 276 [.ptr 0 0, .int .i64 a1, .int .i64 a2] [O16 h0] =
 H24 131 [.ptr 0 0] [O16 h0] fun u1 u6 => bsel (u1.1 == 3) (bsel (u1.2.1.toList == (⟨#[45]⟩ : ByteArray).toList) (H24 220 [.ptr 0 0] [O16 u6] fun u12 u17 => g276_J7 a1 a2 u17 (-1)) (g276_J7 a1 a2 u6 1)) (g276_J7 a1 a2 u6 1) := cc
end
end Go.Proofs.YtcdceiloganlnaaGreatDoor.W
namespace Go.Proofs.YtcdceiloganlnaaGreatDoor.W
open Go.RowKit
set_option maxRecDepth 1000000
structure RA where
 toks : List Tok
 line : Int
 col : Int
 e : Int
abbrev tk (t : Tok) : Sh.V S30 := (t.kind, bs t.text, t.value, t.line, t.col, ())
abbrev RA.v (A : RA) : Sh.V S16 := (A.toks.map tokP, A.line, A.col, A.e, ())
def TokOK (t : Tok) : Prop := (t.kind = 1 ∧ t.text ∉ symsL) ∨ (t.kind = 2 ∧ 0 ≤ t.value ∧ t.value ≤ 65536) ∨ (t.kind = 3 ∧ t.text ∈ symsL)
def ToksOK : List Tok → Prop
 | [] => False
 | t :: l => (t.kind = 4 ∧ l = []) ∨ (TokOK t ∧ ToksOK l)
def RA.ok (A : RA) : Prop := A.e = 0 → ToksOK A.toks
def RA.endT (A : RA) : Tok := ⟨4, [], 0, A.line, A.col⟩
def RA.pk (A : RA) : Tok := if A.e = 0 then A.toks.headD A.endT else A.endT
theorem RA.ok.ne {A : RA} (h : A.ok) (he : A.e = 0) : ∃ t tl, A.toks = t :: tl := by
 have := h he
 match hA : A.toks with
 | [] => rw [hA] at this; exact this.elim
 | t :: tl => exact ⟨t, tl, rfl⟩
theorem bne0 {n : Int} (h : n = 0) : (n != 0) = false := by simp [h]
theorem bne1 {n : Int} (h : n ≠ 0) : (n != 0) = true := by simp [h]
theorem beq0 {n : Int} (h : n = 0) : (n == 0) = true := by simp [h]
theorem beq1 {n : Int} (h : n ≠ 0) : (n == 0) = false := by simp [h]
theorem peek {A : RA} (h : A.ok) : SS.CC 131 [.ptr 0 0] [O16 A.v] = some (A30 (tk A.pk), [O16 A.v]) := by
 rw [g131_eq]
 dsimp only
 unfold RA.pk
 by_cases he : A.e = 0
 ·obtain ⟨t, tl, ht⟩ := h.ne he
  rw [bne0 he, bsel_false, if_pos he, ht]; rfl
 ·rw [bne1 he, bsel_true, if_neg he]; rfl
theorem pk4 {A : RA} (he : A.e ≠ 0) : A.pk.kind = 4 := by unfold RA.pk; rw [if_neg he]; rfl
def RA.next (A : RA) : RA := if A.e = 0 ∧ A.pk.kind ≠ 4 then { A with toks := A.toks.drop 1 } else A
theorem next {A : RA} (h : A.ok) : SS.CC 220 [.ptr 0 0] [O16 A.v] = some (A30 (tk A.pk), [O16 A.next.v]) := by
 rw [g220_eq, H24_of (peek h)]
 dsimp only
 unfold RA.next
 by_cases he : A.e = 0
 ·obtain ⟨t, tl, ht⟩ := h.ne he
  rw [beq0 he, bsel_true]
  by_cases hk : A.pk.kind = 4
  ·rw [show (A.pk.kind != 4) = false by simp [hk], bsel_false, if_neg (by simp [hk])]
  ·have hl : (A.toks.map tokP).length = tl.length + 1 := by rw [ht]; simp
   have hc : (decide ((0 : Int) ≤ 1) && decide ((1 : Int) ≤ ((A.toks.map tokP).length : Int))) = true := by rw [decT (by omega), decT (by rw [hl]; omega)]; rfl
   rw [show (A.pk.kind != 4) = true by simp [hk], bsel_true, if_pos ⟨he, hk⟩]
   refine (chk_of hc).trans ?_
   show some (A30 (tk A.pk), [O16 ((A.toks.map tokP).drop 1, A.line, A.col, A.e, ())]) = some (A30 (tk A.pk), [O16 ((A.toks.drop 1).map tokP, A.line, A.col, A.e, ())])
   rw [List.map_drop]
 ·rw [beq1 he, bsel_false, if_neg (by simp [he])]
theorem RA.ok.next {A : RA} (h : A.ok) : A.next.ok := by
 unfold RA.next
 split
 ·rename_i c
  intro he
  obtain ⟨t, tl, ht⟩ := h.ne c.1
  have h1 := h c.1
  have hp : A.pk = t := by unfold RA.pk; rw [if_pos c.1, ht]; rfl
  rw [hp] at c
  show ToksOK (A.toks.drop 1)
  rw [ht] at h1 ⊢
  rcases h1 with ⟨h1, _⟩ | h1
  ·exact absurd h1 c.2
  ·exact h1.2
 ·exact h
def RA.is (A : RA) (x : List UInt8) : Bool := (A.pk.kind == 1 || A.pk.kind == 3) && A.pk.text == x
theorem isc {A : RA} (h : A.ok) (b : ByteArray) : SS.CC 257 [.ptr 0 0, .str b] [O16 A.v] = some (.bool (A.is b.data.toList), [O16 A.v]) := by
 rw [g257_eq, H24_of (peek h)]
 dsimp only
 rw [bs_toList, ByteArray.toList_eq b]
 unfold RA.is
 cases A.pk.kind == 1 <;> cases A.pk.kind == 3 <;> rfl
def RA.take (A : RA) (x : List UInt8) : RA := bif A.is x then A.next else A
theorem takec {A : RA} (h : A.ok) (b : ByteArray) : SS.CC 197 [.ptr 0 0, .str b] [O16 A.v] = some (.bool (A.is b.data.toList), [O16 (A.take b.data.toList).v]) := by
 rw [g197_eq, H34_of (isc h b)]
 unfold RA.take
 cases A.is b.data.toList with
 | true => rw [bsel_true, H24_of (next h)]; rfl
 | false => rw [bsel_false]; rfl
theorem RA.ok.take {A : RA} (h : A.ok) (x : List UInt8) : (A.take x).ok := by
 unfold RA.take
 cases A.is x with
 | true => exact h.next
 | false => exact h
def RA.fail (A : RA) (n : Int) : RA := if A.e = 0 ∧ n ≠ 0 then { A with line := A.pk.line, col := A.pk.col, e := n } else A
theorem failc {A : RA} (h : A.ok) (n : Int) : SS.CC 133 [.ptr 0 0, .int .i64 n] [O16 A.v] = some (.tuple [], [O16 (A.fail n).v]) := by
 rw [g133_eq]
 dsimp only [agX]
 unfold RA.fail
 by_cases he : A.e = 0
 ·rw [bne0 he, bsel_false]
  by_cases hn : n = 0
  ·rw [beq0 hn, bsel_true, if_neg (by simp [hn])]
  ·rw [beq1 hn, bsel_false, H24_of (peek h), if_pos ⟨he, hn⟩]
 ·rw [bne1 he, bsel_true, if_neg (by simp [he])]
theorem fail_e {A : RA} {n : Int} (hn : n ≠ 0) : (A.fail n).e ≠ 0 := by
 unfold RA.fail
 by_cases he : A.e = 0
 ·rw [if_pos ⟨he, hn⟩]; exact hn
 ·rw [if_neg (by simp [he])]; exact he
theorem ok_e {A : RA} (h : A.e ≠ 0) : A.ok := fun e => absurd e h
theorem RA.ok.fail {A : RA} (h : A.ok) (n : Int) : (A.fail n).ok := by
 by_cases hn : n = 0
 ·unfold RA.fail; rw [if_neg (by simp [hn])]; exact h
 ·exact ok_e (fail_e hn)
theorem next_bad {A : RA} (h : A.e ≠ 0) : A.next = A := by unfold RA.next; rw [if_neg (by simp [h])]
theorem fail_bad {A : RA} (h : A.e ≠ 0) (n : Int) : A.fail n = A := by unfold RA.fail; rw [if_neg (by simp [h])]
theorem next_e (A : RA) : A.next.e = A.e := by unfold RA.next; split <;> rfl
def RA.exp (A : RA) (x : List UInt8) : RA := bif A.is x then A.next else A.fail 14
theorem expc {A : RA} (h : A.ok) (b : ByteArray) : SS.CC 128 [.ptr 0 0, .str b] [O16 A.v] = some (.tuple [], [O16 (A.exp b.data.toList).v]) := by
 rw [g128_eq, H34_of (takec h b)]
 unfold RA.take RA.exp
 cases A.is b.data.toList with
 | true => rfl
 | false => show bsel true _ _ = _; rw [bsel_true, cond_false, H16_of (failc h 14)]; rfl
theorem RA.ok.exp {A : RA} (h : A.ok) (x : List UInt8) : (A.exp x).ok := by
 unfold RA.exp
 cases A.is x with
 | true => exact h.next
 | false => exact h.fail 14
def RA.name (A : RA) : RA := if A.pk.kind = 1 then A.next else A.fail 14
def RA.nameS (A : RA) : List UInt8 := if A.pk.kind = 1 then A.pk.text else []
theorem namec {A : RA} (h : A.ok) : SS.CC 129 [.ptr 0 0] [O16 A.v] = some (.str (bs A.nameS), [O16 A.name.v]) := by
 rw [g129_eq, H24_of (peek h)]
 dsimp only
 unfold RA.name RA.nameS
 by_cases hk : A.pk.kind = 1
 ·rw [show (A.pk.kind != 1) = false by simp [hk], bsel_false, H24_of (next h), if_pos hk, if_pos hk]
 ·rw [show (A.pk.kind != 1) = true by simp [hk], bsel_true, H16_of (failc h 14), if_neg hk, if_neg hk]; rfl
theorem RA.ok.name {A : RA} (h : A.ok) : A.name.ok := by
 unfold RA.name; split
 ·exact h.next
 ·exact h.fail 14
def RA.num (A : RA) (sg lo hi : Int) : RA := if A.pk.kind = 2 then (if IntKind.i64.wrap (sg * A.pk.value) < lo ∨ hi < IntKind.i64.wrap (sg * A.pk.value) then A.fail 2 else A.next) else A.fail 14
def RA.numV (A : RA) (sg lo hi : Int) : Int := if A.pk.kind = 2 then (if IntKind.i64.wrap (sg * A.pk.value) < lo ∨ hi < IntKind.i64.wrap (sg * A.pk.value) then 0 else IntKind.i64.wrap (sg * A.pk.value)) else 0
theorem numc {A : RA} (h : A.ok) (sg lo hi : Int) : g276_J7 lo hi A.v sg = some (.int .i64 (A.numV sg lo hi), [O16 (A.num sg lo hi).v]) := by
 rw [g276_J7_eq, H24_of (peek h)]
 dsimp only
 unfold RA.num RA.numV
 by_cases hk : A.pk.kind = 2
 ·rw [show (A.pk.kind != 2) = false by simp [hk], bsel_false, if_pos hk, if_pos hk]
  by_cases h1 : IntKind.i64.wrap (sg * A.pk.value) < lo
  ·rw [decT h1, bsel_true, H16_of (failc h 2), if_pos (.inl h1), if_pos (.inl h1)]
  ·rw [decF h1, bsel_false]
   by_cases h2 : hi < IntKind.i64.wrap (sg * A.pk.value)
   ·rw [decT h2, bsel_true, H16_of (failc h 2), if_pos (.inr h2), if_pos (.inr h2)]
   ·have : ¬ (IntKind.i64.wrap (sg * A.pk.value) < lo ∨ hi < IntKind.i64.wrap (sg * A.pk.value)) := by simp [h1, h2]
    rw [decF h2, bsel_false, H24_of (next h), if_neg this, if_neg this]
 ·rw [show (A.pk.kind != 2) = true by simp [hk], bsel_true, H16_of (failc h 14), if_neg hk, if_neg hk]
theorem RA.ok.num {A : RA} (h : A.ok) (sg lo hi : Int) : (A.num sg lo hi).ok := by
 unfold RA.num; split
 ·split
  ·exact h.fail 2
  ·exact h.next
 ·exact h.fail 14
def RA.mi (A : RA) : Bool := A.pk.kind == 3 && A.pk.text == [45]
def RA.int (A : RA) (lo hi : Int) : RA := bif A.mi then A.next.num (-1) lo hi else A.num 1 lo hi
def RA.intV (A : RA) (lo hi : Int) : Int := bif A.mi then A.next.numV (-1) lo hi else A.numV 1 lo hi
theorem intc {A : RA} (h : A.ok) (lo hi : Int) : SS.CC 276 [.ptr 0 0, .int .i64 lo, .int .i64 hi] [O16 A.v] = some (.int .i64 (A.intV lo hi), [O16 (A.int lo hi).v]) := by
 rw [g276_eq, H24_of (peek h)]
 dsimp only
 rw [bs_toList, ByteArray.toList_eq ⟨#[45]⟩]
 show bsel (A.pk.kind == 3) (bsel (A.pk.text == [45]) _ _) _ = _
 unfold RA.int RA.intV RA.mi
 cases A.pk.kind == 3 with
 | false => rw [bsel_false, Bool.false_and, cond_false, cond_false]; exact numc h 1 lo hi
 | true =>
  rw [bsel_true, Bool.true_and]
  cases A.pk.text == [45] with
  | false => rw [bsel_false, cond_false, cond_false]; exact numc h 1 lo hi
  | true => rw [bsel_true, cond_true, cond_true, H24_of (next h)]; exact numc h.next (-1) lo hi
theorem RA.ok.int {A : RA} (h : A.ok) (lo hi : Int) : (A.int lo hi).ok := by
 unfold RA.int
 cases A.mi with
 | true => exact h.next.num _ _ _
 | false => exact h.num _ _ _
def RA.fin (A : RA) : RA := if A.pk.kind = 4 then A else A.fail 14
theorem finc {A : RA} (h : A.ok) : SS.CC 103 [.ptr 0 0] [O16 A.v] = some (.tuple [], [O16 A.fin.v]) := by
 rw [g103_eq, H24_of (peek h)]
 dsimp only
 unfold RA.fin
 by_cases hk : A.pk.kind = 4
 ·rw [show (A.pk.kind != 4) = false by simp [hk], bsel_false, if_pos hk]
 ·rw [show (A.pk.kind != 4) = true by simp [hk], bsel_true, H16_of (failc h 14), if_neg hk]
theorem RA.ok.fin {A : RA} (h : A.ok) : A.fin.ok := by
 unfold RA.fin; split
 ·exact h
 ·exact h.fail 14
theorem errc (A : RA) : SS.CC 104 [.ptr 0 0] [O16 A.v] = some (.tuple [.int .i64 (if A.e = 0 then 0 else A.line), .int .i64 (if A.e = 0 then 0 else A.col), .int .i64 A.e], [O16 A.v]) := by
 rw [g104_eq]
 dsimp only
 by_cases he : A.e = 0
 ·rw [beq0 he, bsel_true, if_pos he, if_pos he, he]
 ·rw [beq1 he, bsel_false, if_neg he, if_neg he]
theorem num_range : ∀ {l : List UInt8} {n m : Nat}, numL l n = some m → n ≤ 65536 → m ≤ 65536
 | [], n, m, h, h2 => by simp [numL] at h; omega
 | b :: l, n, m, h, h2 => by
  rw [numL] at h
  split at h
  ·cases h
  ·exact num_range h (by omega)
theorem let_notsym {l : List UInt8} {b : UInt8} (h : isLet b.toNat = true) : b :: l ∉ symsL := by
 intro hm
 have : ∀ x ∈ symsL, ∀ b l, x = b :: l → isLet b.toNat = false := by
  intro x hx b l e
  subst e
  revert hx
  simp only [symsL, List.mem_cons, List.cons.injEq, List.not_mem_nil, or_false]
  rintro (⟨rfl, _⟩ | ⟨rfl, _⟩ | ⟨rfl, _⟩ | ⟨rfl, _⟩ | ⟨rfl, _⟩ | ⟨rfl, _⟩ | ⟨rfl, _⟩ | ⟨rfl, _⟩ | ⟨rfl, _⟩ | ⟨rfl, _⟩ | ⟨rfl, _⟩ | ⟨rfl, _⟩ | ⟨rfl, _⟩ | ⟨rfl, _⟩ | ⟨rfl, _⟩ | ⟨rfl, _⟩ | ⟨rfl, _⟩ | ⟨rfl, _⟩ | ⟨rfl, _⟩ | ⟨rfl, _⟩ | ⟨rfl, _⟩ | ⟨rfl, _⟩ | ⟨rfl, _⟩ | ⟨rfl, _⟩ | ⟨rfl, _⟩ | ⟨rfl, _⟩) <;> decide
 rw [this _ hm b l rfl] at h
 cases h
theorem read_tokOK {l : List UInt8} (h : (readS l).2 = 0) (line col : Int) : TokOK ((readS l).1.at line col) := by
 unfold readS at h ⊢
 match l, h with
 | [], h => exact absurd h (by decide)
 | b :: r, h =>
  dsimp only at h ⊢
  cases hd : isDig b.toNat with
  | true =>
   rw [hd, if_pos rfl] at h
   rw [if_pos rfl]
   unfold numberS at h ⊢
   split at h
   ·cases h
   ·rename_i c1
    rw [if_neg c1]
    split at h
    ·cases h
    ·rename_i c2
     rw [if_neg c2]
     split at h
     ·cases h
     ·rename_i n hn
      have h2 := num_range hn (by omega)
      exact .inr (.inl ⟨rfl, by show (0 : Int) ≤ (n : Int); omega, by show (n : Int) ≤ 65536; omega⟩)
  | false =>
   rw [hd] at h
   simp only [Bool.false_eq_true, if_false] at h ⊢
   cases hw : isLet b.toNat with
   | true =>
    rw [hw] at h
    simp only [if_true] at h ⊢
    unfold wordS at h ⊢
    split at h
    ·cases h
    ·rename_i c
     rw [if_neg c]
     refine .inl ⟨rfl, ?_⟩
     show runS isW (b :: r) ∉ symsL
     unfold runS
     rw [List.takeWhile_cons, show isW b.toNat = true by simp [isW, hw], if_pos rfl]
     exact let_notsym hw
   | false =>
    rw [hw] at h
    simp only [Bool.false_eq_true, if_false] at h ⊢
    unfold symbolS at h ⊢
    cases hs : symOf (b :: r) with
    | none => rw [hs] at h; exact absurd h (by decide)
    | some x => exact .inr (.inr ⟨rfl, (symOf_mem hs).1⟩)
theorem toksOK_app : ∀ {a b : List Tok}, (∀ t, t ∈ a → TokOK t) → ToksOK b → ToksOK (a ++ b)
 | [], _, _, h => h
 | t :: a, b, ha, h => .inr ⟨ha t (by simp), toksOK_app (fun x hx => ha x (by simp [hx])) h⟩
theorem scan_ok : ∀ (f : Nat) (rest : List UInt8) (i line start : Nat) (acc ts : List Tok), (∀ t, t ∈ acc → TokOK t) → scanS f rest i line start acc = .ok ts → ToksOK ts
 | 0, _, _, _, _, _, _, _, h => by cases h
 | f + 1, rest, i, line, start, acc, ts, ha, h => by
  rw [scanS] at h
  split at h
  ·injection h with h
   rw [← h]
   exact toksOK_app ha (.inl ⟨rfl, rfl⟩)
  ·split at h
   ·rename_i c
    refine scan_ok f _ _ _ _ _ ts (fun t ht => ?_) h
    rcases List.mem_append.1 ht with ht | ht
    ·exact ha t ht
    ·simp only [List.mem_singleton] at ht
     rw [ht]
     exact read_tokOK c _ _
   ·cases h
theorem scanT_ok {l : List UInt8} {ts : List Tok} (h : scanT l = .ok ts) : ToksOK ts := by
 unfold scanT at h
 split at h
 ·cases h
 ·exact scan_ok _ _ _ _ _ _ _ (fun _ h => by cases h) h
def newA (l : List UInt8) : RA := match scanT l with | .ok ts => ⟨ts, 0, 0, 0⟩ | .err a b e => ⟨[], a, b, e⟩
theorem newc (l : List UInt8) : SS.CC 100 [.str (bs l)] [] = some (.ptr 0 0, [O16 (newA l).v]) := by
 have h99 : SS.CC 99 [.str (bs l)] [] = some (scanP (scanT l), []) := by
  rw [CC_eq SS_ok]; rfl
 rw [g100_eq]
 unfold newA
 cases hs : scanT l with
 | ok ts => rw [hs] at h99; exact (G13_of (show SS.CC 99 [.str (bs l)] [] = some (.tuple [.sl false 5 (ts.map tokP), .int .i64 0, .int .i64 0, .int .i64 0], []) from h99)).trans rfl
 | err a b e => rw [hs] at h99; exact (G13_of (show SS.CC 99 [.str (bs l)] [] = some (.tuple [.sl false 5 [], .int .i64 a, .int .i64 b, .int .i64 e], []) from h99)).trans rfl
theorem scan_err : ∀ (f : Nat) (rest : List UInt8) (i line start : Nat) (acc : List Tok) (a b : Int), rest.length < f → scanS f rest i line start acc ≠ .err a b 0
 | 0, rest, _, _, _, _, _, _, hf => by omega
 | f + 1, rest, i, line, start, acc, a, b, hf => by
  rw [scanS]
  split
  ·intro h; cases h
  ·rename_i b' r hd
   have hl : (rest.drop (skipS false rest)).length = (b' :: r).length := by rw [hd]
   rw [List.length_drop] at hl
   split
   ·rename_i c
    have := read_len c
    exact scan_err f _ _ _ _ _ _ _ (by rw [List.length_drop]; omega)
   ·rename_i c
    intro h; injection h with _ _ h; exact c h
theorem newA_ok (l : List UInt8) : (newA l).ok := by
 unfold newA
 cases hs : scanT l with
 | ok ts => exact fun _ => scanT_ok hs
 | err a b e =>
  refine ok_e (fun h => ?_)
  have h : e = 0 := h
  subst h
  revert hs
  unfold scanT
  split
  ·intro h; cases h
  ·exact scan_err _ _ _ _ _ _ _ _ (by omega)
end Go.Proofs.YtcdceiloganlnaaGreatDoor.W
namespace Go.Proofs.YtcdceiloganlnaaGreatDoor.W
open Go.RowKit
set_option maxRecDepth 1000000
noncomputable section
theorem g102_eq (h0 : Sh.V S17) (h1 : Sh.V S16) : SS.CC 102 [.ptr 0 0] [O17 h0, O16 h1] =
 H15 196 [.ptr 0 0, .int .i64 1] [O17 h0, O16 h1] fun u1 u5 u7 => H34 197 [.ptr 0 0, .str ⟨#[63]⟩] [O16 u7] fun b13 u14 => bsel (!b13) (some (A1 u1, [O17 u5, O16 u14])) (H15 102 [.ptr 0 0] [O17 u5, O16 u14] fun u20 u24 u26 => H16 128 [.ptr 0 0, .str ⟨#[58]⟩] [O16 u26] fun _ u32 => H15 102 [.ptr 0 0] [O17 u24, O16 u32] fun u38 u42 u44 => some (A1 (13, 0, 0, [A1 u1, A1 u20, A1 u38], ()), [O17 u42, O16 u44])) := cc
def g196_K0 : KT := SS.rK Tryz.f196 196 2 []
def g196_K1 : KT := blkK 0 g196_K0
def g196_K2 : KT := SS.lK 196 48 2 [0, 1, 4, 5] 4 (cS Tryz.f196 39) g196_K1
def g196_K3 : KT := blkK 1 g196_K2
def g196_L5 (x1 : Int) (q0 : Sh.V S17) (q1 : Sh.V S16) (q3 : Sh.V S1) : R := SS.LL (SS.ae 196 48) 2 [0, 1, 4, 5] 4 (cS Tryz.f196 39) g196_K1 ⟨[(0, .ptr 0 0), (1, .int .i64 x1), (4, .ptr 2 0), (5, .ptr 3 0)], [O17 q0, O16 q1, O52 (0, 0, 0, [], ()), O1 q3]⟩
def g196_J12 (x1 : Int) (x6 : Int) (q0 : Sh.V S17) (q1 : Sh.V S16) (q3 : Sh.V S1) (x9 : List PV) : R := exK (SS.xX 196 48 2) (cS Tryz.f196 4039) g196_K3 ⟨[(0, .ptr 0 0), (1, .int .i64 x1), (4, .ptr 2 0), (5, .ptr 3 0), (6, .int .i64 x6), (9, .sl false 4 x9)], [O17 q0, O16 q1, O52 (0, 0, 0, [], ()), O1 q3]⟩
theorem g196_L5_eq (x1 : Int) (q0 : Sh.V S17) (q1 : Sh.V S16) (q3 : Sh.V S1) : g196_L5 x1 q0 q1 q3 =
 H52 255 [.ptr 0 0, .int .i64 x1] [O17 q0, O16 q1] fun u1 u4 u6 => bsel (!u1.2.2.1.1) (some (A1 q3, [O17 u4, O16 u6])) (H24 220 [.ptr 0 0] [O16 u6] fun u12 u17 => H15 196 [.ptr 0 0, .int .i64 (IntKind.i64.wrap (x1 + 1))] [O17 u4, O16 u17] fun u23 u27 u29 => bsel u1.2.1.1 (chk (([.int .i64 q3.1, .int .i64 q3.2.1, .int .i64 q3.2.2.1, .sl false 4 q3.2.2.2.1, .int .i64 u23.1, .int .i64 u23.2.1, .int .i64 u23.2.2.1, .sl false 4 u23.2.2.2.1] : List PV).all flC && true) (H53 256 [.slh 0 0 2 4] [some [.int .i64 q3.1, .int .i64 q3.2.1, .int .i64 q3.2.2.1, .sl false 4 q3.2.2.2.1, .int .i64 u23.1, .int .i64 u23.2.1, .int .i64 u23.2.2.1, .sl false 4 u23.2.2.2.1]] fun _ l35 => chk (l35.all flC && true) (chk (decide (2 * 4 ≤ l35.length) && decide (0 < 4) && l35.all fun p => p.one && p.flat) (g196_J12 x1 u1.1.1 u27 u29 q3 (chunkP 4 l35 2))))) (chk (decide (2 * 4 ≤ ([.int .i64 q3.1, .int .i64 q3.2.1, .int .i64 q3.2.2.1, .sl false 4 q3.2.2.2.1, .int .i64 u23.1, .int .i64 u23.2.1, .int .i64 u23.2.2.1, .sl false 4 u23.2.2.2.1] : List PV).length) && decide (0 < 4) && ([.int .i64 q3.1, .int .i64 q3.2.1, .int .i64 q3.2.2.1, .sl false 4 q3.2.2.2.1, .int .i64 u23.1, .int .i64 u23.2.1, .int .i64 u23.2.2.1, .sl false 4 u23.2.2.2.1] : List PV).all fun p => p.one && p.flat) (g196_J12 x1 u1.1.1 u27 u29 q3 (chunkP 4 ([.int .i64 q3.1, .int .i64 q3.2.1, .int .i64 q3.2.2.1, .sl false 4 q3.2.2.2.1, .int .i64 u23.1, .int .i64 u23.2.1, .int .i64 u23.2.2.1, .sl false 4 u23.2.2.2.1] : List PV) 2)))) := ll
theorem g196_J12_eq (x1 : Int) (x6 : Int) (q0 : Sh.V S17) (q1 : Sh.V S16) (q3 : Sh.V S1) (x9 : List PV) : g196_J12 x1 x6 q0 q1 q3 x9 =
 bsel (x1 == 3) (some (A1 (x6, 0, 0, x9, ()), [O17 q0, O16 q1])) (g196_L5 x1 q0 q1 (x6, 0, 0, x9, ())) := by kernel_rfl
theorem g196_eq (a1 : Int) (h0 : Sh.V S17) (h1 : Sh.V S16) : SS.CC 196 [.ptr 0 0, .int .i64 a1] [O17 h0, O16 h1] =
 bsel (a1 == 6) (H15 254 [.ptr 0 0] [O17 h0, O16 h1] fun u1 u5 u7 => some (A1 u1, [O17 u5, O16 u7])) (H15 196 [.ptr 0 0, .int .i64 (IntKind.i64.wrap (a1 + 1))] [O17 h0, O16 h1] fun u13 u17 u19 => g196_L5 a1 u17 u19 u13) := cc
def g254_K0 : KT := SS.rK Tryz.f254 254 2 []
def g254_J14 (q0 : Sh.V S17) (q1 : Sh.V S16) : R := exK (SS.xX 254 74 2) (cS Tryz.f254 7) g254_K0 ⟨[(1, .ptr 2 0), (2, .ptr 3 0)], [O17 q0, O16 q1, some [.ptr 0 0], O52 (0, 0, 0, [], ())]⟩
theorem g254_J14_eq (q0 : Sh.V S17) (q1 : Sh.V S16) : g254_J14 q0 q1 =
 H65 311 [.ptr 0 0, .sl false 1 q0.2.1] [O17 q0, O16 q1] fun n1 u2 u4 => some (A1 (1, 0, n1, [], ()), [O17 u2, O16 u4]) := by kernel_rfl
theorem g254_eq (h0 : Sh.V S17) (h1 : Sh.V S16) : SS.CC 254 [.ptr 0 0] [O17 h0, O16 h1] =
 H34 257 [.ptr 0 0, .str ⟨#[33]⟩] [O16 h1] fun b1 u2 => bsel b1 (H24 131 [.ptr 0 0] [O16 u2] fun u8 u13 => bsel (u8.1 == 3) (H66 307 [.ptr 0 0, .func (.func 308) [] [.ptr 1 0]] [O59 h0, some [.ptr 0 0], O16 u13] fun u19 u23 u25 => some (A1 u19, [O17 u23, O16 u25])) (H34 257 [.ptr 0 0, .str ⟨#[45]⟩] [O16 u13] fun b31 u32 => bsel b31 (H66 307 [.ptr 0 0, .func (.func 309) [] [.ptr 1 0]] [O59 h0, some [.ptr 0 0], O16 u32] fun u38 u42 u44 => some (A1 u38, [O17 u42, O16 u44])) (H34 257 [.ptr 0 0, .str ⟨#[40]⟩] [O16 u32] fun b50 u51 => bsel b50 (H66 307 [.ptr 0 0, .func (.func 310) [] [.ptr 1 0]] [O59 h0, some [.ptr 0 0], O16 u51] fun u57 u61 u63 => some (A1 u57, [O17 u61, O16 u63])) (H24 131 [.ptr 0 0] [O16 u51] fun u69 u74 => bsel (u69.1 == 2) (H67 276 [.ptr 0 0, .int .i64 0, .int .i64 65536] [O16 u74] fun n80 u81 => some (A1 (0, n80, 0, [], ()), [O17 h0, O16 u81])) (H34 197 [.ptr 0 0, .str ⟨#[116, 114, 117, 101]⟩] [O16 u74] fun b87 u88 => bsel b87 (G20 116 [] fun u94 => some (A1 u94, [O17 h0, O16 u88])) (H34 197 [.ptr 0 0, .str ⟨#[102, 97, 108, 115, 101]⟩] [O16 u88] fun b99 u100 => bsel b99 (G20 117 [] fun u106 => some (A1 u106, [O17 h0, O16 u100])) (g254_J14 h0 u100))))))) (H34 257 [.ptr 0 0, .str ⟨#[45]⟩] [O16 u2] fun b111 u112 => bsel b111 (H66 307 [.ptr 0 0, .func (.func 309) [] [.ptr 1 0]] [O59 h0, some [.ptr 0 0], O16 u112] fun u118 u122 u124 => some (A1 u118, [O17 u122, O16 u124])) (H34 257 [.ptr 0 0, .str ⟨#[40]⟩] [O16 u112] fun b130 u131 => bsel b130 (H66 307 [.ptr 0 0, .func (.func 310) [] [.ptr 1 0]] [O59 h0, some [.ptr 0 0], O16 u131] fun u137 u141 u143 => some (A1 u137, [O17 u141, O16 u143])) (H24 131 [.ptr 0 0] [O16 u131] fun u149 u154 => bsel (u149.1 == 2) (H67 276 [.ptr 0 0, .int .i64 0, .int .i64 65536] [O16 u154] fun n160 u161 => some (A1 (0, n160, 0, [], ()), [O17 h0, O16 u161])) (H34 197 [.ptr 0 0, .str ⟨#[116, 114, 117, 101]⟩] [O16 u154] fun b167 u168 => bsel b167 (G20 116 [] fun u174 => some (A1 u174, [O17 h0, O16 u168])) (H34 197 [.ptr 0 0, .str ⟨#[102, 97, 108, 115, 101]⟩] [O16 u168] fun b179 u180 => bsel b179 (G20 117 [] fun u186 => some (A1 u186, [O17 h0, O16 u180])) (g254_J14 h0 u180)))))) := cc
theorem g255_eq (a1 : Int) (h0 : Sh.V S17) (h1 : Sh.V S16) : SS.CC 255 [.ptr 0 0, .int .i64 a1] [O17 h0, O16 h1] =
 H24 131 [.ptr 0 0] [O16 h1] fun u1 u6 => bsel (u1.1 != 3) (some (.tuple [.int .i64 0, .bool false, .bool false], [O17 h0, O16 u6])) (mapX none [.str ⟨#[33, 61]⟩, A60 (3, 7, false, ()), .str ⟨#[38, 38]⟩, A60 (2, 11, false, ()), .str ⟨#[42]⟩, A60 (5, 4, false, ()), .str ⟨#[43]⟩, A60 (4, 2, false, ()), .str ⟨#[45]⟩, A60 (4, 3, false, ()), .str ⟨#[60]⟩, A60 (3, 8, false, ()), .str ⟨#[60, 61]⟩, A60 (3, 9, false, ()), .str ⟨#[61, 61]⟩, A60 (3, 6, false, ()), .str ⟨#[62]⟩, A60 (3, 8, true, ()), .str ⟨#[62, 61]⟩, A60 (3, 9, true, ()), .str ⟨#[124, 124]⟩, A60 (1, 12, false, ())] (.str u1.2.1) (fun e12 => gvV S60 e12 fun u13 => some (.tuple [.int .i64 u13.2.1, .bool u13.2.2.1, .bool (u13.1 == a1)], [O17 h0, O16 u6])) (some (.tuple [.int .i64 0, .bool false, .bool false], [O17 h0, O16 u6]))) := cc
def g256_K0 : KT := SS.rK Tryz.f256 256 1 [0]
def g256_K1 : KT := blkK 0 g256_K0
def g256_L2 (o0 : List PV) (x2 : Int) (x3 : Int) : R := SS.LL (SS.ae 256 28) 1 [0, 2, 3] 1 (cS Tryz.f256 9) g256_K1 ⟨[(0, .slh 0 0 2 4), (2, .int .i64 x2), (3, .int .i64 x3)], [some o0]⟩
theorem g256_L2_eq (o0 : List PV) (x2 : Int) (x3 : Int) : g256_L2 o0 x2 x3 =
 chk (o0.all flC && true) (bsel (decide (x2 < x3)) (chk (o0.all flC && true) (chk (decide (0 ≤ x3) && decide (x3 < 2)) (chk (decide ((0 + x3.toNat * 4) + 4 ≤ o0.length)) (gvV S1 (.agg (((o0.drop (0 + x3.toNat * 4)).take 4).map PV.un)) fun u1 => chk (decide (0 ≤ x2) && decide (x2 < 2)) (chk (decide ((0 + x2.toNat * 4) + 4 ≤ o0.length)) (gvV S1 (.agg (((o0.drop (0 + x2.toNat * 4)).take 4).map PV.un)) fun u5 => chk (decide (0 ≤ x2) && decide (x2 < 2)) (chk (decide ((0 + x2.toNat * 4) + 4 ≤ o0.length)) (chk (decide (0 ≤ x3) && decide (x3 < 2)) (chk (decide ((0 + x3.toNat * 4) + 4 ≤ (o0.take (0 + x2.toNat * 4) ++ (([.int .i64 u1.1, .int .i64 u1.2.1, .int .i64 u1.2.2.1, .sl false 4 u1.2.2.2.1] : List PV) : List PV) ++ o0.drop ((0 + x2.toNat * 4) + 4)).length)) (chk (((o0.take (0 + x2.toNat * 4) ++ (([.int .i64 u1.1, .int .i64 u1.2.1, .int .i64 u1.2.2.1, .sl false 4 u1.2.2.2.1] : List PV) : List PV) ++ o0.drop ((0 + x2.toNat * 4) + 4)).take (0 + x3.toNat * 4) ++ (([.int .i64 u5.1, .int .i64 u5.2.1, .int .i64 u5.2.2.1, .sl false 4 u5.2.2.2.1] : List PV) : List PV) ++ (o0.take (0 + x2.toNat * 4) ++ (([.int .i64 u1.1, .int .i64 u1.2.1, .int .i64 u1.2.2.1, .sl false 4 u1.2.2.2.1] : List PV) : List PV) ++ o0.drop ((0 + x2.toNat * 4) + 4)).drop ((0 + x3.toNat * 4) + 4)).all flC && true) (g256_L2 ((o0.take (0 + x2.toNat * 4) ++ (([.int .i64 u1.1, .int .i64 u1.2.1, .int .i64 u1.2.2.1, .sl false 4 u1.2.2.2.1] : List PV) : List PV) ++ o0.drop ((0 + x2.toNat * 4) + 4)).take (0 + x3.toNat * 4) ++ (([.int .i64 u5.1, .int .i64 u5.2.1, .int .i64 u5.2.2.1, .sl false 4 u5.2.2.2.1] : List PV) : List PV) ++ (o0.take (0 + x2.toNat * 4) ++ (([.int .i64 u1.1, .int .i64 u1.2.1, .int .i64 u1.2.2.1, .sl false 4 u1.2.2.2.1] : List PV) : List PV) ++ o0.drop ((0 + x2.toNat * 4) + 4)).drop ((0 + x3.toNat * 4) + 4)) (IntKind.i64.wrap (x2 + 1)) (IntKind.i64.wrap (x3 - 1))))))))))))) (chk (o0.all flC && true) (some (.tuple [], [some o0])))) := ll
theorem g256_eq (h0 : List PV) : SS.CC 256 [.slh 0 0 2 4] [some h0] =
 g256_L2 h0 0 1 := cc
theorem g307_eq (h0 : Sh.V S59) (h2 : Sh.V S16) : SS.CC 307 [.ptr 0 0, .func (.func 308) [] [.ptr 1 0]] [O59 h0, some [.ptr 0 0], O16 h2] =
 bsel (h0.1 == 32) (H16 133 [.ptr 0 0, .int .i64 3] [O16 h2] fun _ u1 => some (A1 (0, 0, 0, [], ()), [O59 h0, some [.ptr 0 0], O16 u1])) (H24 220 [.ptr 0 0] [O16 h2] fun u7 u12 => H88 308 [.ptr 0 0] [some [.ptr 1 0], O59 (IntKind.i64.wrap (h0.1 + 1), h0.2.1, ()), O16 u12] fun u18 u22 u24 => H89 335 [.ptr 0 0] [some [.ptr 1 0], O59 u22, O16 u24] fun _ u30 u32 => some (A1 u18, [O59 u30, some [.ptr 0 0], O16 u32])) := cc
theorem g307_1i_eq (h0 : Sh.V S59) (h2 : Sh.V S16) : SS.CC 307 [.ptr 0 0, .func (.func 309) [] [.ptr 1 0]] [O59 h0, some [.ptr 0 0], O16 h2] =
 bsel (h0.1 == 32) (H16 133 [.ptr 0 0, .int .i64 3] [O16 h2] fun _ u1 => some (A1 (0, 0, 0, [], ()), [O59 h0, some [.ptr 0 0], O16 u1])) (H24 220 [.ptr 0 0] [O16 h2] fun u7 u12 => H88 309 [.ptr 0 0] [some [.ptr 1 0], O59 (IntKind.i64.wrap (h0.1 + 1), h0.2.1, ()), O16 u12] fun u18 u22 u24 => H89 335 [.ptr 0 0] [some [.ptr 1 0], O59 u22, O16 u24] fun _ u30 u32 => some (A1 u18, [O59 u30, some [.ptr 0 0], O16 u32])) := cc
theorem g307_2i_eq (h0 : Sh.V S59) (h2 : Sh.V S16) : SS.CC 307 [.ptr 0 0, .func (.func 310) [] [.ptr 1 0]] [O59 h0, some [.ptr 0 0], O16 h2] =
 bsel (h0.1 == 32) (H16 133 [.ptr 0 0, .int .i64 3] [O16 h2] fun _ u1 => some (A1 (0, 0, 0, [], ()), [O59 h0, some [.ptr 0 0], O16 u1])) (H24 220 [.ptr 0 0] [O16 h2] fun u7 u12 => H88 310 [.ptr 0 0] [some [.ptr 1 0], O59 (IntKind.i64.wrap (h0.1 + 1), h0.2.1, ()), O16 u12] fun u18 u22 u24 => H89 335 [.ptr 0 0] [some [.ptr 1 0], O59 u22, O16 u24] fun _ u30 u32 => some (A1 u18, [O59 u30, some [.ptr 0 0], O16 u32])) := cc
theorem g308_eq (h1 : Sh.V S59) (h2 : Sh.V S16) : SS.CC 308 [.ptr 0 0] [some [.ptr 1 0], O59 h1, O16 h2] =
 H15 254 [.ptr 0 0] [O17 h1, O16 h2] fun u1 u5 u7 => some (A1 (10, 0, 0, [A1 u1], ()), [some [.ptr 1 0], O59 u5, O16 u7]) := cc
theorem g309_eq (h1 : Sh.V S59) (h2 : Sh.V S16) : SS.CC 309 [.ptr 0 0] [some [.ptr 1 0], O59 h1, O16 h2] =
 H24 131 [.ptr 0 0] [O16 h2] fun u1 u6 => bsel (u1.1 == 2) (H67 276 [.ptr 0 0, .int .i64 0, .int .i64 65536] [O16 u6] fun n12 u13 => some (A1 (0, IntKind.i64.wrap (0 - n12), 0, [], ()), [some [.ptr 1 0], O59 h1, O16 u13])) (H15 254 [.ptr 0 0] [O17 h1, O16 u6] fun u19 u23 u25 => some (A1 (5, 0, 0, [A1 u19], ()), [some [.ptr 1 0], O59 u23, O16 u25])) := cc
theorem g310_eq (h1 : Sh.V S59) (h2 : Sh.V S16) : SS.CC 310 [.ptr 0 0] [some [.ptr 1 0], O59 h1, O16 h2] =
 H15 102 [.ptr 0 0] [O17 h1, O16 h2] fun u1 u5 u7 => H16 128 [.ptr 0 0, .str ⟨#[41]⟩] [O16 u7] fun _ u13 => some (A1 u1, [some [.ptr 1 0], O59 u5, O16 u13]) := cc
def g311_K0 : KT := SS.rK Tryz.f311 311 2 []
def g311_J5 (x5 : Int) (q0 : Sh.V S17) (q1 : Sh.V S16) : R := exK (SS.xX 311 37 2) (cS Tryz.f311 15) g311_K0 ⟨[(0, .ptr 0 0), (5, .int .i64 x5)], [O17 q0, O16 q1]⟩
theorem g311_J5_eq (x5 : Int) (q0 : Sh.V S17) (q1 : Sh.V S16) : g311_J5 x5 q0 q1 =
 H26 129 [.ptr 0 0] [O16 q1] fun s1 u2 => some (.int .i64 (if (0 : Int) > x5 then (0 : Int) else x5), [O17 q0, O16 u2]) := by kernel_rfl
theorem g311_eq (a1 : List PV) (h0 : Sh.V S17) (h1 : Sh.V S16) : SS.CC 311 [.ptr 0 0, .sl false 1 a1] [O17 h0, O16 h1] =
 H24 131 [.ptr 0 0] [O16 h1] fun u1 u6 => G1 108 [.sl false 1 a1, .str u1.2.1] fun n12 => H24 131 [.ptr 0 0] [O16 u6] fun u14 u19 => bsel (u14.1 == 1) (bsel (decide (n12 < 0)) (H16 133 [.ptr 0 0, .int .i64 9] [O16 u19] fun _ u25 => g311_J5 n12 h0 u25) (g311_J5 n12 h0 u19)) (g311_J5 n12 h0 u19) := cc
theorem g335_eq (h1 : Sh.V S59) (h2 : Sh.V S16) : SS.CC 335 [.ptr 0 0] [some [.ptr 1 0], O59 h1, O16 h2] =
 some (.tuple [], [some [.ptr 1 0], O59 (IntKind.i64.wrap (h1.1 - 1), h1.2.1, ()), O16 h2]) := cc
end
end Go.Proofs.YtcdceiloganlnaaGreatDoor.W
namespace Go.Proofs.YtcdceiloganlnaaGreatDoor.W
open Go.RowKit
set_option maxRecDepth 1000000
noncomputable section
theorem g105_eq (h0 : Sh.V S18) (h1 : Sh.V S16) : SS.CC 105 [.ptr 0 0] [O18 h0, O16 h1] =
 H35 198 [.ptr 0 0, .sl false 1 [.int .i64 12], .func (.func 199) [] [.ptr 1 0]] [O41 h0, some [.ptr 0 0], O16 h1] fun u1 u5 u14 => H34 197 [.ptr 0 0, .str ⟨#[63]⟩] [O16 u14] fun b20 u21 => bsel (!b20) (some (A1 u1, [O18 u5, O16 u21])) (H18 105 [.ptr 0 0] [O18 u5, O16 u21] fun u27 u31 u40 => H16 128 [.ptr 0 0, .str ⟨#[58]⟩] [O16 u40] fun _ u46 => H18 105 [.ptr 0 0] [O18 u31, O16 u46] fun u52 u56 u65 => some (A1 (13, 0, 0, [A1 u1, A1 u27, A1 u52], ()), [O18 u56, O16 u65])) := cc
def g198_K0 : KT := SS.rK Tryz.f198 198 3 []
def g198_K1 : KT := SS.jK 198 34 3 (cS Tryz.f198 15) g198_K0
def g198_K2 : KT := blkK 0 g198_K1
def g198_L3 (x1 : List PV) (q0 : Sh.V S41) (q2 : Sh.V S16) (q5 : Sh.V S1) : R := SS.LL (SS.ae 198 34) 3 [1, 2, 3, 6, 7] 6 (cS Tryz.f198 35) g198_K2 ⟨[(1, .sl false 1 x1), (2, .func (.func 199) [] [.ptr 1 0]), (3, .ptr 3 0), (6, .ptr 4 0), (7, .ptr 5 0)], [O41 q0, some [.ptr 0 0], O16 q2, some [.ptr 0 0], O52 (0, 0, 0, [], ()), O1 q5]⟩
theorem g198_L3_eq (x1 : List PV) (q0 : Sh.V S41) (q2 : Sh.V S16) (q5 : Sh.V S1) : g198_L3 x1 q0 q2 q5 =
 agX fun ag => H54 214 [.ptr 0 0] [O18 q0, O16 q2] fun b1 u2 u11 => bsel (!b1) (H55 258 [.sl false 1 x1, .func (.func 259) [] [.ptr 0 0]] [some [.ptr 1 0], O41 u2, O16 u11] fun n17 u18 u27 => bsel (decide (n17 < 0)) (some (A1 q5, [O41 u18, some [.ptr 0 0], O16 u27])) (H24 220 [.ptr 0 0] [O16 u27] fun u33 u38 => lgetX x1 n17 fun e44 => vI .i64 e44 fun n45 => ag 1 (H56 199 [.ptr 0 0] [some [.ptr 1 0], O41 u18, O16 u38] fun u46 u50 u59 => g198_L3 x1 u50 u59 (n45, 0, 0, [A1 q5, A1 u46], ())))) (some (A1 q5, [O41 u2, some [.ptr 0 0], O16 u11])) := agF ll
theorem g198_eq (a1 : List PV) (h0 : Sh.V S41) (h2 : Sh.V S16) : SS.CC 198 [.ptr 0 0, .sl false 1 a1, .func (.func 199) [] [.ptr 1 0]] [O41 h0, some [.ptr 0 0], O16 h2] =
 H56 199 [.ptr 0 0] [some [.ptr 1 0], O41 h0, O16 h2] fun u1 u5 u14 => g198_L3 a1 u5 u14 u1 := cc
def g198_1i_K0 : KT := SS.rK Tryz.f198 198 2 []
def g198_1i_K1 : KT := SS.jK 198 34 2 (cS Tryz.f198 15) g198_1i_K0
def g198_1i_K2 : KT := blkK 0 g198_1i_K1
def g198_1i_L3 (x1 : List PV) (q0 : Sh.V S18) (q1 : Sh.V S16) (q4 : Sh.V S1) : R := SS.LL (SS.ae 198 34) 2 [1, 2, 3, 6, 7] 5 (cS Tryz.f198 35) g198_1i_K2 ⟨[(1, .sl false 1 x1), (2, .func (.func 200) [.ptr 0 0] []), (3, .ptr 2 0), (6, .ptr 3 0), (7, .ptr 4 0)], [O18 q0, O16 q1, some [.ptr 0 0], O52 (0, 0, 0, [], ()), O1 q4]⟩
theorem g198_1i_L3_eq (x1 : List PV) (q0 : Sh.V S18) (q1 : Sh.V S16) (q4 : Sh.V S1) : g198_1i_L3 x1 q0 q1 q4 =
 agX fun ag => H54 214 [.ptr 0 0] [O18 q0, O16 q1] fun b1 u2 u11 => bsel (!b1) (H55 258 [.sl false 1 x1, .func (.func 259) [] [.ptr 0 0]] [some [.ptr 1 0], O41 u2, O16 u11] fun n17 u18 u27 => bsel (decide (n17 < 0)) (some (A1 q4, [O18 u18, O16 u27])) (H24 220 [.ptr 0 0] [O16 u27] fun u33 u38 => lgetX x1 n17 fun e44 => vI .i64 e44 fun n45 => ag 1 (H18 200 [.ptr 0 0] [O18 u18, O16 u38] fun u46 u50 u59 => g198_1i_L3 x1 u50 u59 (n45, 0, 0, [A1 q4, A1 u46], ())))) (some (A1 q4, [O18 u2, O16 u11])) := agF ll
theorem g198_1i_eq (a1 : List PV) (h0 : Sh.V S18) (h1 : Sh.V S16) : SS.CC 198 [.ptr 0 0, .sl false 1 a1, .func (.func 200) [.ptr 0 0] []] [O18 h0, O16 h1] =
 H18 200 [.ptr 0 0] [O18 h0, O16 h1] fun u1 u5 u14 => g198_1i_L3 a1 u5 u14 u1 := cc
def g198_3i_K0 : KT := SS.rK Tryz.f198 198 3 []
def g198_3i_K1 : KT := SS.jK 198 34 3 (cS Tryz.f198 15) g198_3i_K0
def g198_3i_K2 : KT := blkK 0 g198_3i_K1
def g198_3i_L3 (x1 : List PV) (q0 : Sh.V S41) (q2 : Sh.V S16) (q5 : Sh.V S1) : R := SS.LL (SS.ae 198 34) 3 [1, 2, 3, 6, 7] 6 (cS Tryz.f198 35) g198_3i_K2 ⟨[(1, .sl false 1 x1), (2, .func (.func 312) [] [.ptr 1 0]), (3, .ptr 3 0), (6, .ptr 4 0), (7, .ptr 5 0)], [O41 q0, some [.ptr 0 0], O16 q2, some [.ptr 0 0], O52 (0, 0, 0, [], ()), O1 q5]⟩
theorem g198_3i_L3_eq (x1 : List PV) (q0 : Sh.V S41) (q2 : Sh.V S16) (q5 : Sh.V S1) : g198_3i_L3 x1 q0 q2 q5 =
 agX fun ag => H54 214 [.ptr 0 0] [O18 q0, O16 q2] fun b1 u2 u11 => bsel (!b1) (H55 258 [.sl false 1 x1, .func (.func 259) [] [.ptr 0 0]] [some [.ptr 1 0], O41 u2, O16 u11] fun n17 u18 u27 => bsel (decide (n17 < 0)) (some (A1 q5, [O41 u18, some [.ptr 0 0], O16 u27])) (H24 220 [.ptr 0 0] [O16 u27] fun u33 u38 => lgetX x1 n17 fun e44 => vI .i64 e44 fun n45 => ag 1 (H56 312 [.ptr 0 0] [some [.ptr 1 0], O41 u18, O16 u38] fun u46 u50 u59 => g198_3i_L3 x1 u50 u59 (n45, 0, 0, [A1 q5, A1 u46], ())))) (some (A1 q5, [O41 u2, some [.ptr 0 0], O16 u11])) := agF ll
theorem g198_3i_eq (a1 : List PV) (h0 : Sh.V S41) (h2 : Sh.V S16) : SS.CC 198 [.ptr 0 0, .sl false 1 a1, .func (.func 312) [] [.ptr 1 0]] [O41 h0, some [.ptr 0 0], O16 h2] =
 H56 312 [.ptr 0 0] [some [.ptr 1 0], O41 h0, O16 h2] fun u1 u5 u14 => g198_3i_L3 a1 u5 u14 u1 := cc
def g198_5i_K0 : KT := SS.rK Tryz.f198 198 2 []
def g198_5i_K1 : KT := SS.jK 198 34 2 (cS Tryz.f198 15) g198_5i_K0
def g198_5i_K2 : KT := blkK 0 g198_5i_K1
def g198_5i_L3 (x1 : List PV) (q0 : Sh.V S18) (q1 : Sh.V S16) (q4 : Sh.V S1) : R := SS.LL (SS.ae 198 34) 2 [1, 2, 3, 6, 7] 5 (cS Tryz.f198 35) g198_5i_K2 ⟨[(1, .sl false 1 x1), (2, .func (.func 313) [.ptr 0 0] []), (3, .ptr 2 0), (6, .ptr 3 0), (7, .ptr 4 0)], [O18 q0, O16 q1, some [.ptr 0 0], O52 (0, 0, 0, [], ()), O1 q4]⟩
theorem g198_5i_L3_eq (x1 : List PV) (q0 : Sh.V S18) (q1 : Sh.V S16) (q4 : Sh.V S1) : g198_5i_L3 x1 q0 q1 q4 =
 agX fun ag => H54 214 [.ptr 0 0] [O18 q0, O16 q1] fun b1 u2 u11 => bsel (!b1) (H55 258 [.sl false 1 x1, .func (.func 259) [] [.ptr 0 0]] [some [.ptr 1 0], O41 u2, O16 u11] fun n17 u18 u27 => bsel (decide (n17 < 0)) (some (A1 q4, [O18 u18, O16 u27])) (H24 220 [.ptr 0 0] [O16 u27] fun u33 u38 => lgetX x1 n17 fun e44 => vI .i64 e44 fun n45 => ag 1 (H18 313 [.ptr 0 0] [O18 u18, O16 u38] fun u46 u50 u59 => g198_5i_L3 x1 u50 u59 (n45, 0, 0, [A1 q4, A1 u46], ())))) (some (A1 q4, [O18 u2, O16 u11])) := agF ll
theorem g198_5i_eq (a1 : List PV) (h0 : Sh.V S18) (h1 : Sh.V S16) : SS.CC 198 [.ptr 0 0, .sl false 1 a1, .func (.func 313) [.ptr 0 0] []] [O18 h0, O16 h1] =
 H18 313 [.ptr 0 0] [O18 h0, O16 h1] fun u1 u5 u14 => g198_5i_L3 a1 u5 u14 u1 := cc
theorem g199_eq (h1 : Sh.V S41) (h2 : Sh.V S16) : SS.CC 199 [.ptr 0 0] [some [.ptr 1 0], O41 h1, O16 h2] =
 H18 198 [.ptr 0 0, .sl false 1 [.int .i64 11], .func (.func 200) [.ptr 0 0] []] [O18 h1, O16 h2] fun u1 u5 u14 => some (A1 u1, [some [.ptr 1 0], O41 u5, O16 u14]) := cc
def g200_K0 : KT := SS.rK Tryz.f200 200 2 []
def g200_K1 : KT := SS.jK 200 49 2 (cS Tryz.f200 15) g200_K0
def g200_K2 : KT := blkK 0 g200_K1
def g200_L4 (q0 : Sh.V S18) (q1 : Sh.V S16) (q3 : Sh.V S1) (x10 : Int) : R := SS.LL (SS.ae 200 49) 2 [0, 2, 3, 8, 9, 10] 4 (cS Tryz.f200 75) g200_K2 ⟨[(0, .ptr 0 0), (2, .ptr 2 0), (3, .ptr 3 0), (8, .sl true 1 [.int .i64 6, .int .i64 7, .int .i64 9, .int .i64 8]), (9, .int .i64 4), (10, .int .i64 x10)], [O18 q0, O16 q1, O52 (0, 0, 0, [], ()), O1 q3]⟩
theorem g200_L4_eq (q0 : Sh.V S18) (q1 : Sh.V S16) (q3 : Sh.V S1) (x10 : Int) : g200_L4 q0 q1 q3 x10 =
 bsel (decide (x10 < 4)) (lgetX [.int .i64 6, .int .i64 7, .int .i64 9, .int .i64 8] x10 fun e1 => vI .i64 e1 fun n2 => G2 118 [.int .i64 n2] fun s3 => H34 197 [.ptr 0 0, .str s3] [O16 q1] fun b5 u6 => bsel b5 (H18 260 [.ptr 0 0] [O18 q0, O16 u6] fun u12 u16 u25 => some (A1 (n2, 0, 0, [A1 q3, A1 u12], ()), [O18 u16, O16 u25])) (g200_L4 q0 u6 q3 (IntKind.i64.wrap (x10 + 1)))) (H34 197 [.ptr 0 0, .str ⟨#[62, 61]⟩] [O16 q1] fun b31 u32 => bsel b31 (H18 260 [.ptr 0 0] [O18 q0, O16 u32] fun u38 u42 u51 => some (A1 (9, 0, 0, [A1 u38, A1 q3], ()), [O18 u42, O16 u51])) (H34 197 [.ptr 0 0, .str ⟨#[62]⟩] [O16 u32] fun b57 u58 => bsel b57 (H18 260 [.ptr 0 0] [O18 q0, O16 u58] fun u64 u68 u77 => some (A1 (8, 0, 0, [A1 u64, A1 q3], ()), [O18 u68, O16 u77])) (some (A1 q3, [O18 q0, O16 u58])))) := ll
theorem g200_eq (h0 : Sh.V S18) (h1 : Sh.V S16) : SS.CC 200 [.ptr 0 0] [O18 h0, O16 h1] =
 H18 260 [.ptr 0 0] [O18 h0, O16 h1] fun u1 u5 u14 => g200_L4 u5 u14 u1 0 := cc
theorem g214_1i_eq (h0 : Sh.V S18) (h1 : Sh.V S16) : SS.CC 214 [.ptr 0 0] [O18 h0, O16 h1] =
 H17 104 [.ptr 0 0] [O16 h1] fun u1 u4 => some (.bool (u1.2.2.1.1 != 0), [O18 h0, O16 u4]) := cc
def g258_K0 : KT := SS.rK Tryz.f258 258 3 []
def g258_K1 : KT := SS.jK 258 19 3 (cS Tryz.f258 7) g258_K0
def g258_K2 : KT := blkK 0 g258_K1
def g258_L3 (x0 : List PV) (q1 : Sh.V S41) (q2 : Sh.V S16) (x8 : Int) : R := SS.LL (SS.ae 258 19) 3 [0, 1, 7, 8] 3 (cS Tryz.f258 37) g258_K2 ⟨[(0, .sl false 1 x0), (1, .func (.func 259) [] [.ptr 0 0]), (7, .int .i64 (x0.length : Int)), (8, .int .i64 x8)], [some [.ptr 1 0], O41 q1, O16 q2]⟩
theorem g258_L3_eq (x0 : List PV) (q1 : Sh.V S41) (q2 : Sh.V S16) (x8 : Int) : g258_L3 x0 q1 q2 x8 =
 bsel (decide (x8 < (x0.length : Int))) (lgetX x0 x8 fun e1 => vI .i64 e1 fun n2 => H68 259 [.int .i64 n2, .ptr 0 0] [some [.ptr 1 0], O41 q1, O16 q2] fun b3 u4 u13 => bsel b3 (some (.int .i64 x8, [some [.ptr 1 0], O41 u4, O16 u13])) (g258_L3 x0 u4 u13 (IntKind.i64.wrap (x8 + 1)))) (some (.int .i64 (-1), [some [.ptr 1 0], O41 q1, O16 q2])) := ll
theorem g258_eq (a0 : List PV) (h1 : Sh.V S41) (h2 : Sh.V S16) : SS.CC 258 [.sl false 1 a0, .func (.func 259) [] [.ptr 0 0]] [some [.ptr 1 0], O41 h1, O16 h2] =
 g258_L3 a0 h1 h2 0 := cc
theorem g259_eq (a0 : Int) (h1 : Sh.V S41) (h2 : Sh.V S16) : SS.CC 259 [.int .i64 a0, .ptr 0 0] [some [.ptr 1 0], O41 h1, O16 h2] =
 G2 118 [.int .i64 a0] fun s1 => H34 257 [.ptr 0 0, .str s1] [O16 h2] fun b3 u4 => some (.bool b3, [some [.ptr 1 0], O41 h1, O16 u4]) := cc
theorem g260_eq (h0 : Sh.V S18) (h1 : Sh.V S16) : SS.CC 260 [.ptr 0 0] [O18 h0, O16 h1] =
 H35 198 [.ptr 0 0, .sl false 1 [.int .i64 2, .int .i64 3], .func (.func 312) [] [.ptr 1 0]] [O41 h0, some [.ptr 0 0], O16 h1] fun u1 u5 u14 => some (A1 u1, [O18 u5, O16 u14]) := cc
theorem g312_eq (h1 : Sh.V S41) (h2 : Sh.V S16) : SS.CC 312 [.ptr 0 0] [some [.ptr 1 0], O41 h1, O16 h2] =
 H18 198 [.ptr 0 0, .sl false 1 [.int .i64 4], .func (.func 313) [.ptr 0 0] []] [O18 h1, O16 h2] fun u1 u5 u14 => some (A1 u1, [some [.ptr 1 0], O41 u5, O16 u14]) := cc
def g313_K0 : KT := SS.rK Tryz.f313 313 2 []
def g313_J22 (q0 : Sh.V S18) (q1 : Sh.V S16) : R := exK (SS.xX 313 99 2) (cS Tryz.f313 7) g313_K0 ⟨[(1, .ptr 2 0), (2, .ptr 3 0)], [O18 q0, O16 q1, some [.ptr 0 0], O52 (0, 0, 0, [], ())]⟩
theorem g313_J22_eq (q0 : Sh.V S18) (q1 : Sh.V S16) : g313_J22 q0 q1 =
 H115 339 [.ptr 0 0, .sl false 1 q0.2.2.2.2.2.2.2.1] [O18 q0, O16 q1] fun n1 u2 u11 => some (A1 (1, 0, (if (0 : Int) > n1 then (0 : Int) else n1), [], ()), [O18 u2, O16 u11]) := by kernel_rfl
theorem g313_eq (h0 : Sh.V S18) (h1 : Sh.V S16) : SS.CC 313 [.ptr 0 0] [O18 h0, O16 h1] =
 H24 131 [.ptr 0 0] [O16 h1] fun u1 u6 => H34 257 [.ptr 0 0, .str ⟨#[33]⟩] [O16 u6] fun b12 u13 => bsel b12 (H18 336 [.ptr 0 0, .func (.func 313) [.ptr 0 0] []] [O18 h0, O16 u13] fun u19 u23 u32 => some (A1 (10, 0, 0, [A1 u19], ()), [O18 u23, O16 u32])) (H34 257 [.ptr 0 0, .str ⟨#[45]⟩] [O16 u13] fun b38 u39 => bsel b38 (H116 336 [.ptr 0 0, .func (.func 337) [] [.ptr 1 0, .ptr 2 0]] [O71 h0, some [.ptr 0 0], O38 (false, ()), O16 u39] fun u45 u49 u58 u59 => bsel u58.1 (some (A1 (0, IntKind.i64.wrap (0 - u45.2.1), 0, [], ()), [O18 u49, O16 u59])) (some (A1 (5, 0, 0, [A1 u45], ()), [O18 u49, O16 u59]))) (H34 257 [.ptr 0 0, .str ⟨#[40]⟩] [O16 u39] fun b65 u66 => bsel b65 (H35 336 [.ptr 0 0, .func (.func 338) [] [.ptr 1 0]] [O41 h0, some [.ptr 0 0], O16 u66] fun u72 u76 u85 => some (A1 u72, [O18 u76, O16 u85])) (bsel (u1.1 == 2) (H24 220 [.ptr 0 0] [O16 u66] fun u91 u96 => some (A1 (0, u1.2.2.1, 0, [], ()), [O18 h0, O16 u96])) (bsel (u1.1 == 1) (bsel (u1.2.1.toList == (⟨#[116, 114, 117, 101]⟩ : ByteArray).toList) (H24 220 [.ptr 0 0] [O16 u66] fun u102 u107 => G20 116 [] fun u113 => some (A1 u113, [O18 h0, O16 u107])) (bsel (u1.1 == 1) (bsel (u1.2.1.toList == (⟨#[102, 97, 108, 115, 101]⟩ : ByteArray).toList) (H24 220 [.ptr 0 0] [O16 u66] fun u118 u123 => G20 117 [] fun u129 => some (A1 u129, [O18 h0, O16 u123])) (g313_J22 h0 u66)) (g313_J22 h0 u66))) (bsel (u1.1 == 1) (bsel (u1.2.1.toList == (⟨#[102, 97, 108, 115, 101]⟩ : ByteArray).toList) (H24 220 [.ptr 0 0] [O16 u66] fun u134 u139 => G20 117 [] fun u145 => some (A1 u145, [O18 h0, O16 u139])) (g313_J22 h0 u66)) (g313_J22 h0 u66)))))) := cc
theorem g336_eq (h0 : Sh.V S18) (h1 : Sh.V S16) : SS.CC 336 [.ptr 0 0, .func (.func 313) [.ptr 0 0] []] [O18 h0, O16 h1] =
 bsel (h0.2.2.2.2.2.2.2.2.1 == 32) (H16 133 [.ptr 0 0, .int .i64 3] [O16 h1] fun _ u1 => some (A1 (0, 0, 0, [], ()), [O18 h0, O16 u1])) (H24 220 [.ptr 0 0] [O16 h1] fun u7 u12 => H18 313 [.ptr 0 0] [O18 (h0.1, h0.2.1, h0.2.2.1, h0.2.2.2.1, h0.2.2.2.2.1, h0.2.2.2.2.2.1, h0.2.2.2.2.2.2.1, h0.2.2.2.2.2.2.2.1, IntKind.i64.wrap (h0.2.2.2.2.2.2.2.2.1 + 1), ()), O16 u12] fun u18 u22 u31 => some (A1 u18, [O18 (u22.1, u22.2.1, u22.2.2.1, u22.2.2.2.1, u22.2.2.2.2.1, u22.2.2.2.2.2.1, u22.2.2.2.2.2.2.1, u22.2.2.2.2.2.2.2.1, IntKind.i64.wrap (u22.2.2.2.2.2.2.2.2.1 - 1), ()), O16 u31])) := cc
theorem g336_1i_eq (h0 : Sh.V S71) (h2_0 : Bool) (h3 : Sh.V S16) : SS.CC 336 [.ptr 0 0, .func (.func 337) [] [.ptr 1 0, .ptr 2 0]] [O71 h0, some [.ptr 0 0], O38 (h2_0, ()), O16 h3] =
 bsel (h0.2.2.2.2.2.2.2.2.1 == 32) (H16 133 [.ptr 0 0, .int .i64 3] [O16 h3] fun _ u1 => some (A1 (0, 0, 0, [], ()), [O71 h0, some [.ptr 0 0], O38 (h2_0, ()), O16 u1])) (H24 220 [.ptr 0 0] [O16 h3] fun u7 u12 => H117 337 [.ptr 0 0, .ptr 1 0] [some [.ptr 2 0], O38 (h2_0, ()), O71 (h0.1, h0.2.1, h0.2.2.1, h0.2.2.2.1, h0.2.2.2.2.1, h0.2.2.2.2.2.1, h0.2.2.2.2.2.2.1, h0.2.2.2.2.2.2.2.1, IntKind.i64.wrap (h0.2.2.2.2.2.2.2.2.1 + 1), ()), O16 u12] fun u18 u22 u23 u32 => some (A1 u18, [O71 (u23.1, u23.2.1, u23.2.2.1, u23.2.2.2.1, u23.2.2.2.2.1, u23.2.2.2.2.2.1, u23.2.2.2.2.2.2.1, u23.2.2.2.2.2.2.2.1, IntKind.i64.wrap (u23.2.2.2.2.2.2.2.2.1 - 1), ()), some [.ptr 0 0], O38 u22, O16 u32])) := cc
theorem g336_2i_eq (h0 : Sh.V S41) (h2 : Sh.V S16) : SS.CC 336 [.ptr 0 0, .func (.func 338) [] [.ptr 1 0]] [O41 h0, some [.ptr 0 0], O16 h2] =
 bsel (h0.2.2.2.2.2.2.2.2.1 == 32) (H16 133 [.ptr 0 0, .int .i64 3] [O16 h2] fun _ u1 => some (A1 (0, 0, 0, [], ()), [O41 h0, some [.ptr 0 0], O16 u1])) (H24 220 [.ptr 0 0] [O16 h2] fun u7 u12 => H56 338 [.ptr 0 0] [some [.ptr 1 0], O41 (h0.1, h0.2.1, h0.2.2.1, h0.2.2.2.1, h0.2.2.2.2.1, h0.2.2.2.2.2.1, h0.2.2.2.2.2.2.1, h0.2.2.2.2.2.2.2.1, IntKind.i64.wrap (h0.2.2.2.2.2.2.2.2.1 + 1), ()), O16 u12] fun u18 u22 u31 => some (A1 u18, [O41 (u22.1, u22.2.1, u22.2.2.1, u22.2.2.2.1, u22.2.2.2.2.1, u22.2.2.2.2.2.1, u22.2.2.2.2.2.2.1, u22.2.2.2.2.2.2.2.1, IntKind.i64.wrap (u22.2.2.2.2.2.2.2.2.1 - 1), ()), some [.ptr 0 0], O16 u31])) := cc
theorem g337_eq (h1_0 : Bool) (h2 : Sh.V S71) (h3 : Sh.V S16) : SS.CC 337 [.ptr 0 0, .ptr 1 0] [some [.ptr 2 0], O38 (h1_0, ()), O71 h2, O16 h3] =
 H24 131 [.ptr 0 0] [O16 h3] fun u1 u6 => H18 313 [.ptr 0 0] [O18 h2, O16 u6] fun u12 u16 u25 => some (A1 u12, [some [.ptr 2 0], O38 ((u1.1 == 2), ()), O71 u16, O16 u25]) := cc
theorem g338_eq (h1 : Sh.V S41) (h2 : Sh.V S16) : SS.CC 338 [.ptr 0 0] [some [.ptr 1 0], O41 h1, O16 h2] =
 H18 105 [.ptr 0 0] [O18 h1, O16 h2] fun u1 u5 u14 => H16 128 [.ptr 0 0, .str ⟨#[41]⟩] [O16 u14] fun _ u20 => some (A1 u1, [some [.ptr 1 0], O41 u5, O16 u20]) := cc
def g339_1i_K0 : KT := SS.rK Tryz.f339 339 2 []
def g339_1i_J5 (x1 : List PV) (q0 : Sh.V S18) (q1 : Sh.V S16) : R := exK (SS.xX 339 33 2) (cS Tryz.f339 7) g339_1i_K0 ⟨[(0, .ptr 0 0), (1, .sl false 1 x1)], [O18 q0, O16 q1]⟩
theorem g339_1i_J5_eq (x1 : List PV) (q0 : Sh.V S18) (q1 : Sh.V S16) : g339_1i_J5 x1 q0 q1 =
 H26 129 [.ptr 0 0] [O16 q1] fun s1 u2 => G1 108 [.sl false 1 x1, .str s1] fun n8 => some (.int .i64 n8, [O18 q0, O16 u2]) := by kernel_rfl
theorem g339_1i_eq (a1 : List PV) (h0 : Sh.V S18) (h1 : Sh.V S16) : SS.CC 339 [.ptr 0 0, .sl false 1 a1] [O18 h0, O16 h1] =
 H24 131 [.ptr 0 0] [O16 h1] fun u1 u6 => bsel (u1.1 == 1) (G3 25 [.sl false 1 a1, .str u1.2.1] fun b12 => bsel (!b12) (H16 133 [.ptr 0 0, .int .i64 9] [O16 u6] fun _ u14 => g339_1i_J5 a1 h0 u14) (g339_1i_J5 a1 h0 u6)) (g339_1i_J5 a1 h0 u6) := cc
theorem g118_eq (a0 : Int) : SS.CC 118 [.int .i64 a0] [] =
 bsel (a0 == 2) (some (.str ⟨#[43]⟩, [])) (bsel (a0 == 3) (some (.str ⟨#[45]⟩, [])) (bsel (a0 == 4) (some (.str ⟨#[42]⟩, [])) (bsel (a0 == 6) (some (.str ⟨#[61, 61]⟩, [])) (bsel (a0 == 7) (some (.str ⟨#[33, 61]⟩, [])) (bsel (a0 == 8) (some (.str ⟨#[60]⟩, [])) (bsel (a0 == 9) (some (.str ⟨#[60, 61]⟩, [])) (bsel (a0 == 11) (some (.str ⟨#[38, 38]⟩, [])) (some (.str ⟨#[124, 124]⟩, []))))))))) := cc
end
end Go.Proofs.YtcdceiloganlnaaGreatDoor.W
namespace Go.Proofs.YtcdceiloganlnaaGreatDoor.W
open Go.RowKit
set_option maxRecDepth 1000000
noncomputable section
theorem g4_eq (a0 : ByteArray) (a1 : Int) : SS.CC 4 [.str a0, .int .u8 a1] [] =
 G3 12 [] fun b1 => bsel (!b1) (G3 12 [] fun b3 => some (.bool b3, [])) (bsel (decide (500 < (a0.size : Int))) (G3 12 [] fun b5 => some (.bool b5, [])) (G4 20 [.int .u8 120, .int .i64 (IntKind.i64.wrap (Int.tmod a1 4))] fun l7 => G5 21 [.sl false 1 l7, .str a0] fun u9 => G5 22 [.sl false 1 l7, .str a0] fun u17 => bsel (u9.2.2.2.1.1 == u17.2.2.2.1.1) (bsel (u9.2.1.1 == u17.2.1.1) (bsel (u9.2.2.1.1 == u17.2.2.1.1) (G3 23 [A1 u9.1, A1 u17.1] fun b25 => some (.bool b25, [])) (some (.bool false, []))) (some (.bool false, []))) (some (.bool false, [])))) := cc
theorem g21_eq (a0 : List PV) (a1 : ByteArray) : SS.CC 21 [.sl false 1 a0, .str a1] [] =
 H14 100 [.str a1] [] fun u1 => G7 101 [.sl false 1 a0] fun l7 => H15 102 [.ptr 0 0] [O17 (0, l7, ()), O16 u1] fun u9 u13 u15 => H16 103 [.ptr 0 0] [O16 u15] fun _ u21 => H17 104 [.ptr 0 0] [O16 u21] fun u27 u30 => bsel (u27.2.2.1.1 != 0) (some (.tuple [A1 (0, 0, 0, [], ()), .int .i64 u27.1.1, .int .i64 u27.2.1.1, .int .i64 u27.2.2.1.1], [])) (some (.tuple [A1 u9, .int .i64 0, .int .i64 0, .int .i64 0], [])) := cc
theorem g22_eq (a0 : List PV) (a1 : ByteArray) : SS.CC 22 [.sl false 1 a0, .str a1] [] =
 H14 100 [.str a1] [] fun u1 => H18 105 [.ptr 0 0] [O18 (⟨#[]⟩, [], [], [], [], [], [], a0, 0, ()), O16 u1] fun u7 u11 u20 => H16 103 [.ptr 0 0] [O16 u20] fun _ u26 => H17 104 [.ptr 0 0] [O16 u26] fun u32 u35 => bsel (u32.2.2.1.1 != 0) (some (.tuple [A1 (0, 0, 0, [], ()), .int .i64 u32.1.1, .int .i64 u32.2.1.1, .int .i64 u32.2.2.1.1], [])) (some (.tuple [A1 u7, .int .i64 0, .int .i64 0, .int .i64 0], [])) := cc
theorem g23_eq (a0 : Sh.V S1) (a1 : Sh.V S1) : SS.CC 23 [A1 a0, A1 a1] [] =
 bsel (a0.1 == a1.1) (bsel (a0.2.1 == a1.2.1) (bsel (a0.2.2.1 == a1.2.2.1) (G3 106 [.sl false 4 a0.2.2.2.1, .sl false 4 a1.2.2.2.1, .func (.func 23) [] []] fun b1 => some (.bool b1, [])) (some (.bool false, []))) (some (.bool false, []))) (some (.bool false, [])) := cc
theorem g25_eq (a0 : List PV) (a1 : ByteArray) : SS.CC 25 [.sl false 1 a0, .str a1] [] =
 G1 108 [.sl false 1 a0, .str a1] fun n1 => some (.bool (decide (0 ≤ n1)), []) := cc
theorem g101_eq (a0 : List PV) : SS.CC 101 [.sl false 1 a0] [] =
 nilX a0 fun b1 => bsel (b1 == true) (some (.sl true 1 [], [])) (chk (decide (0 + a0.length ≤ LIM)) (some (.sl true 1 a0, []))) := cc
def g106_K0 : KT := SS.rK Tryz.f106 106 0 []
def g106_K1 : KT := SS.jK 106 32 0 (cS Tryz.f106 15) g106_K0
def g106_K2 : KT := blkK 0 g106_K1
def g106_L5 (x1 : List PV) (x15 : List PV) (x17 : Int) : R := SS.LL (SS.ae 106 32) 0 [1, 2, 15, 16, 17] 0 (cS Tryz.f106 75) g106_K2 ⟨[(1, .sl false 4 x1), (2, .func (.func 23) [] []), (15, .sl false 4 x15), (16, .int .i64 (x15.length : Int)), (17, .int .i64 x17)], []⟩
theorem g106_L5_eq (x1 : List PV) (x15 : List PV) (x17 : Int) : g106_L5 x1 x15 x17 =
 bsel (decide (x17 < (x15.length : Int))) (lgV S1 x15 x17 fun u2 => lgV S1 x1 x17 fun u7 => G3 23 [A1 u2, A1 u7] fun b11 => bsel (!b11) (some (.bool false, [])) (g106_L5 x1 x15 (IntKind.i64.wrap (x17 + 1)))) (some (.bool true, [])) := ll
theorem g106_eq (a0 : List PV) (a1 : List PV) : SS.CC 106 [.sl false 4 a0, .sl false 4 a1, .func (.func 23) [] []] [] =
 bsel ((a0.length : Int) != (a1.length : Int)) (some (.bool false, [])) (g106_L5 a1 a0 0) := cc
def g108_K0 : KT := SS.rK Tryz.f108 108 0 []
def g108_K1 : KT := SS.jK 108 19 0 (cS Tryz.f108 7) g108_K0
def g108_K2 : KT := blkK 0 g108_K1
def g108_L3 (x0 : List PV) (x1 : ByteArray) (x8 : Int) : R := SS.LL (SS.ae 108 19) 0 [0, 1, 7, 8] 0 (cS Tryz.f108 37) g108_K2 ⟨[(0, .sl false 1 x0), (1, .str x1), (7, .int .i64 (x0.length : Int)), (8, .int .i64 x8)], []⟩
theorem g108_L3_eq (x0 : List PV) (x1 : ByteArray) (x8 : Int) : g108_L3 x0 x1 x8 =
 bsel (decide (x8 < (x0.length : Int))) (lgetX x0 x8 fun e1 => vS e1 fun s2 => bsel (x1.toList == s2.toList) (some (.int .i64 x8, [])) (g108_L3 x0 x1 (IntKind.i64.wrap (x8 + 1)))) (some (.int .i64 (-1), [])) := ll
theorem g108_eq (a0 : List PV) (a1 : ByteArray) : SS.CC 108 [.sl false 1 a0, .str a1] [] =
 g108_L3 a0 a1 0 := cc
theorem g116_eq : SS.CC 116 [] [] =
 some (A1 (6, 0, 0, [A1 (0, 0, 0, [], ()), A1 (0, 0, 0, [], ())], ()), []) := cc
theorem g117_eq : SS.CC 117 [] [] =
 some (A1 (7, 0, 0, [A1 (0, 0, 0, [], ()), A1 (0, 0, 0, [], ())], ()), []) := cc
end
end Go.Proofs.YtcdceiloganlnaaGreatDoor.W
namespace Go.Proofs.YtcdceiloganlnaaGreatDoor.W
open Go.RowKit
set_option maxRecDepth 1000000
inductive EX where
 | node (op val idx : Int) (args : List EX)
inductive EX.Fit : EX → Prop
 | mk {o v i : Int} {l : List EX} : l.length ≤ 3 → (∀ e, e ∈ l → EX.Fit e) → EX.Fit (.node o v i l)
inductive EX.Len : EX → Prop
 | mk {o v i : Int} {l : List EX} : l.length ≤ 70368744177664 → (-9223372036854775808 ≤ v ∧ v ≤ 9223372036854775807) → (-9223372036854775808 ≤ o ∧ o ≤ 9223372036854775807) → (-9223372036854775808 ≤ i ∧ i ≤ 9223372036854775807) → (∀ e, e ∈ l → EX.Len e) → EX.Len (.node o v i l)
theorem fit0 {o v i : Int} : (EX.node o v i []).Fit := .mk (by decide) (by simp)
theorem fit1 {o v i : Int} {a : EX} (h : a.Fit) : (EX.node o v i [a]).Fit := .mk (by simp) (by simpa using h)
theorem fit2 {o v i : Int} {a b : EX} (h : a.Fit) (h2 : b.Fit) : (EX.node o v i [a, b]).Fit := .mk (by simp) (by simp [h, h2])
theorem fit3 {o v i : Int} {a b c : EX} (h : a.Fit) (h2 : b.Fit) (h3 : c.Fit) : (EX.node o v i [a, b, c]).Fit := .mk (by simp) (by simp [h, h2, h3])
mutual
def ev : EX → Sh.V S1
 | .node o x i l => (o, x, i, evL l, ())
def evL : List EX → List PV
 | [] => []
 | e :: l => A1 (ev e) :: evL l
end
theorem evL_map : ∀ l : List EX, evL l = l.map fun e => A1 (ev e)
 | [] => rfl
 | e :: l => by rw [evL, evL_map l]; rfl
theorem ev_n (o x i : Int) (l : List EX) : ev (.node o x i l) = (o, x, i, evL l, ()) := by rw [ev]
abbrev un0 (o : Int) (a : EX) : EX := .node o 0 0 [a]
abbrev bi0 (o : Int) (a b : EX) : EX := .node o 0 0 [a, b]
theorem ev1 (o : Int) (a : EX) : ev (un0 o a) = (o, 0, 0, [A1 (ev a)], ()) := by rw [ev]; rfl
theorem ev2 (o : Int) (a b : EX) : ev (bi0 o a b) = (o, 0, 0, [A1 (ev a), A1 (ev b)], ()) := by rw [ev]; rfl
theorem ev3 (o : Int) (a b c : EX) : ev (.node o 0 0 [a, b, c]) = (o, 0, 0, [A1 (ev a), A1 (ev b), A1 (ev c)], ()) := by rw [ev]; rfl
def zE : EX := .node 0 0 0 []
def nE (n : Int) : EX := .node 0 n 0 []
def vE (n : Int) : EX := .node 1 0 n []
def tE : EX := .node 6 0 0 [zE, zE]
def fE : EX := .node 7 0 0 [zE, zE]
theorem ev_nE (n : Int) : ev (nE n) = (0, n, 0, [], ()) := rfl
theorem ev_vE (n : Int) : ev (vE n) = (1, 0, n, [], ()) := rfl
theorem c116 : SS.CC 116 [] [] = some (A1 (ev tE), []) := g116_eq
theorem c117 : SS.CC 117 [] [] = some (A1 (ev fE), []) := g117_eq
def nmP (l : List ByteArray) : List PV := l.map .str
def idxB (s : ByteArray) : List ByteArray → Nat → Int
 | [], _ => -1
 | x :: l, k => if s = x then (k : Int) else idxB s l (k + 1)
theorem beqB (s x : ByteArray) : (s.toList == x.toList) = decide (s = x) := by
 rw [ByteArray.toList_eq, ByteArray.toList_eq]
 by_cases h : s = x
 ·simp [h]
 ·have : s.data ≠ x.data := fun e => h (ByteArray.ext e)
  rw [decF h]
  simpa using this
theorem idx_loop (all : List ByteArray) (hn : all.length < 1000000000000) (s : ByteArray) : ∀ (l : List ByteArray) (k : Nat), all.drop k = l → k ≤ all.length → g108_L3 (nmP all) s (k : Int) = some (.int .i64 (idxB s l k), [])
 | [], k, h, hk => by
  have : all.length ≤ k := List.drop_eq_nil_iff.1 h
  rw [g108_L3_eq, decF (by unfold nmP; rw [List.length_map]; omega), bsel_false]; rfl
 | x :: l, k, h, hk => by
  have hlt : k < all.length := by
   rcases Nat.lt_or_ge k all.length with h' | h'
   ·exact h'
   ·rw [List.drop_eq_nil_of_le h'] at h; cases h
  have hg : all[k]? = some x := by
   have := congrArg (fun l => l[0]?) h
   simpa using this
  rw [g108_L3_eq, decT (by unfold nmP; rw [List.length_map]; omega), bsel_true, lgetX_of (e := .str x) (by omega) (by unfold nmP; rw [Int.toNat_natCast, List.getElem?_map, hg]; rfl), vS_mk, beqB]
  rw [idxB]
  by_cases e : s = x
  ·rw [decT e, bsel_true, if_pos e]
  ·rw [decF e, bsel_false, if_neg e, wrap64 (by omega) (by omega), show ((k : Int) + 1) = ((k + 1 : Nat) : Int) by omega]
   exact idx_loop all hn s l (k + 1) (by rw [← List.drop_drop, h]; rfl) (by omega)
theorem idxc (l : List ByteArray) (hn : l.length < 1000000000000) (s : ByteArray) : SS.CC 108 [.sl false 1 (nmP l), .str s] [] = some (.int .i64 (idxB s l 0), []) := by
 rw [g108_eq]; exact idx_loop l hn s l 0 rfl (Nat.zero_le _)
theorem hasc (l : List ByteArray) (hn : l.length < 1000000000000) (s : ByteArray) : SS.CC 25 [.sl false 1 (nmP l), .str s] [] = some (.bool (decide (0 ≤ idxB s l 0)), []) := by
 rw [g25_eq, G1_of (idxc l hn s)]
def opT (x : List UInt8) : Int × Int × Bool :=
 if x = [124, 124] then (1, 12, false) else if x = [38, 38] then (2, 11, false) else if x = [61, 61] then (3, 6, false) else if x = [33, 61] then (3, 7, false)
 else if x = [60] then (3, 8, false) else if x = [60, 61] then (3, 9, false) else if x = [62] then (3, 8, true) else if x = [62, 61] then (3, 9, true)
 else if x = [43] then (4, 2, false) else if x = [45] then (4, 3, false) else if x = [42] then (5, 4, false) else (0, 0, false)
theorem pk_tok {A : RA} (h : A.ok) : TokOK A.pk ∨ A.pk.kind = 4 := by
 by_cases he : A.e = 0
 ·obtain ⟨t, tl, ht⟩ := h.ne he
  have h1 := h he
  have hp : A.pk = t := by unfold RA.pk; rw [if_pos he, ht]; rfl
  rw [hp]; rw [ht] at h1
  rcases h1 with ⟨h1, _⟩ | h1
  ·exact .inr h1
  ·exact .inl h1.1
 ·exact .inr (pk4 he)
theorem pk_sym {A : RA} (h : A.ok) (h3 : A.pk.kind = 3) : A.pk.text ∈ symsL := by
 rcases pk_tok h with (⟨h1, _⟩ | ⟨h1, _⟩ | ⟨_, h1⟩) | h1
 ·omega
 ·omega
 ·exact h1
 ·omega
theorem is_sym {A : RA} (h : A.ok) {x : List UInt8} (hx : x ∈ symsL) : A.is x = (A.pk.kind == 3 && A.pk.text == x) := by
 unfold RA.is
 by_cases h1 : A.pk.kind = 1
 ·have ht : A.pk.text ≠ x := by
   rcases pk_tok h with (⟨_, h2⟩ | ⟨h2, _⟩ | ⟨h2, _⟩) | h2
   ·exact fun e => h2 (e ▸ hx)
   all_goals omega
  rw [show (A.pk.text == x) = false by simpa using ht, Bool.and_false, Bool.and_false]
 ·rw [show (A.pk.kind == 1) = false by simpa using h1, Bool.false_or]
def RA.opIs (A : RA) (lv : Int) : Bool := A.pk.kind == 3 && (opT A.pk.text).1 == lv
abbrev pc (d : Int) (v : List PV) : Sh.V S17 := (d, v, ())
theorem opm : ∀ x, x ∈ symsL → ∀ (lv : Int) (K : Int → Int → Bool → R) (N : R), mapX none [.str ⟨#[33, 61]⟩, A60 (3, 7, false, ()), .str ⟨#[38, 38]⟩, A60 (2, 11, false, ()), .str ⟨#[42]⟩, A60 (5, 4, false, ()), .str ⟨#[43]⟩, A60 (4, 2, false, ()), .str ⟨#[45]⟩, A60 (4, 3, false, ()), .str ⟨#[60]⟩, A60 (3, 8, false, ()), .str ⟨#[60, 61]⟩, A60 (3, 9, false, ()), .str ⟨#[61, 61]⟩, A60 (3, 6, false, ()), .str ⟨#[62]⟩, A60 (3, 8, true, ()), .str ⟨#[62, 61]⟩, A60 (3, 9, true, ()), .str ⟨#[124, 124]⟩, A60 (1, 12, false, ())] (.str (bs x)) (fun e => gvV S60 e fun u => K u.1 u.2.1 u.2.2.1) N = if (opT x).1 = 0 then N else K (opT x).1 (opT x).2.1 (opT x).2.2 := by
 intro x hx lv K N
 revert hx
 simp only [symsL, List.mem_cons, List.not_mem_nil, or_false]
 rintro (rfl | rfl | rfl | rfl | rfl | rfl | rfl | rfl | rfl | rfl | rfl | rfl | rfl | rfl | rfl | rfl | rfl | rfl | rfl | rfl | rfl | rfl | rfl | rfl | rfl | rfl) <;> kernel_rfl
theorem opc {A : RA} (h : A.ok) (d : Int) (v : List PV) (lv : Int) (hl : 0 < lv) : ∃ o x, SS.CC 255 [.ptr 0 0, .int .i64 lv] [O17 (pc d v), O16 A.v] = some (.tuple [.int .i64 o, .bool x, .bool (A.opIs lv)], [O17 (pc d v), O16 A.v]) ∧ (A.opIs lv = true → o = (opT A.pk.text).2.1 ∧ x = (opT A.pk.text).2.2) := by
 rw [g255_eq, H24_of (peek h)]
 dsimp only
 unfold RA.opIs
 by_cases h3 : A.pk.kind = 3
 ·rw [show (A.pk.kind != 3) = false by simp [h3], bsel_false, show (A.pk.kind == 3) = true by simp [h3]]
  have := opm _ (pk_sym h h3) lv (fun a b c => some (.tuple [.int .i64 b, .bool c, .bool (a == lv)], [O17 (pc d v), O16 A.v])) (some (.tuple [.int .i64 0, .bool false, .bool false], [O17 (pc d v), O16 A.v]))
  rw [this]
  by_cases h0 : (opT A.pk.text).1 = 0
  ·rw [if_pos h0]
   refine ⟨0, false, ?_, ?_⟩
   ·rw [h0, show ((0 : Int) == lv) = false by simp; omega]; rfl
   ·rw [h0, show ((0 : Int) == lv) = false by simp; omega]; intro c; cases c
  ·rw [if_neg h0]
   exact ⟨_, _, by rw [Bool.true_and], fun _ => ⟨rfl, rfl⟩⟩
 ·rw [show (A.pk.kind != 3) = true by simp [h3], bsel_true, show (A.pk.kind == 3) = false by simp [h3]]
  exact ⟨0, false, rfl, fun c => by cases c⟩
end Go.Proofs.YtcdceiloganlnaaGreatDoor.W
namespace Go.Proofs.YtcdceiloganlnaaGreatDoor
open Go.RowKit Go.ChangeShapes Go.WideShapes Go.ChangeAt
set_option maxRecDepth 100000
theorem own14 : ownKnob Tryz.prog.godebug = none := by kernel_rfl
theorem laidOut14 : laidOutB Tryz.prog = true := by kernel_rfl
theorem mixed17 : Tryz.prog.follows .mixedOrders = true := by kernel_rfl
theorem ev_of {g : FuncId} {args : List PV} {r : PV} (h : W.SS.CC g args [] = Ret r) : Ev Tryz.prog g args [] r [] :=
 CC_sound mixed17 W.SS_ok CS_ok g args [] r [] h
theorem reps0 {M : Mem} {B : Blk} : Reps M B [] [] := reps_nil.2 rfl
theorem repsC {M : Mem} {B : Blk} {p : PV} {ps : List PV} {u : Value} {us : List Value} (h : Rep M B p u) (h2 : Reps M B ps us) : Reps M B (p :: ps) (u :: us) := reps_cons.2 ⟨u, us, rfl, h, h2⟩
def cover14 : List TypeId := [3, 5, 9, 42, 40, 34]
theorem cover14_ok : closedB Tryz.prog cover14 = true := by kernel_rfl
theorem agU : aggT Tryz.prog 5 = false := by kernel_rfl
theorem agS : aggT Tryz.prog 9 = false := by kernel_rfl
theorem shp_u8 {fuel : Nat} {ps : List PV} (h : Shp Tryz.prog fuel 5 ps) : ∃ c : UInt8, ps = [.int .u8 (c.toNat : Int)] := by
 cases fuel with
 | zero => exact h.elim
 | succ fuel =>
  simp only [Shp, Tryz.underlying5] at h
  obtain ⟨n, rfl, hn⟩ := h
  simp [Lit.wf, IntKind.min, IntKind.max, IntKind.signed, IntKind.bits] at hn
  refine ⟨UInt8.ofNat n.toNat, ?_⟩
  have : ((UInt8.ofNat n.toNat).toNat : Int) = n := by
   rw [UInt8.toNat_ofNat']
   omega
  rw [this]
theorem shp_str {fuel : Nat} {ps : List PV} (h : Shp Tryz.prog fuel 9 ps) : ∃ s : ByteArray, ps = [.str s] ∧ s.size ≤ reachBytes := by
 cases fuel with
 | zero => exact h.elim
 | succ fuel =>
  simp only [Shp, Tryz.underlying9] at h
  exact h
theorem shpe_u8 {fuel : Nat} {ps : List PV} (h : Shp Tryz.prog fuel 5 ps) : ∃ c : UInt8, elemP Tryz.prog 5 ps = .int .u8 (c.toNat : Int) ∧ True := by
 obtain ⟨c, rfl⟩ := shp_u8 h
 exact ⟨c, by simp [elemP, agU], trivial⟩
theorem shpe_str {fuel : Nat} {ps : List PV} (h : Shp Tryz.prog fuel 9 ps) : ∃ s : ByteArray, elemP Tryz.prog 9 ps = .str s ∧ s.size ≤ reachBytes := by
 obtain ⟨s, rfl, hs⟩ := shp_str h
 exact ⟨s, by simp [elemP, agS], hs⟩
end Go.Proofs.YtcdceiloganlnaaGreatDoor
namespace Go.Proofs.YtcdceiloganlnaaGreatDoor
open Go.RowKit Go.ChangeShapes Go.WideShapes Go.ChangeAt
set_option maxRecDepth 100000
def litsOne : DataW Unit → List Value
 | .lit (.int k n) => [Value.int k n]
 | _ => []
def litsTwo : DataW Unit → List Value
 | .agg l => l.flatMap litsOne
 | d => litsOne d
def litsAll : DataW Unit → Array Value
 | .agg l => (l.flatMap litsTwo).toArray
 | _ => #[]
def putTabs (g : Nat) (d : DataW Unit) (h : Array Obj) : Array Obj := h.modify g fun
 | .cells _ t frozen => .cells (litsAll d) t frozen
 | o => o
noncomputable def laidWorld6 (os : Os) : World :=
 { World.holding Tryz.prog os ⟨#[], #[], []⟩ with heap := putTabs 2 Rows.laid_unicode_utf8_first (putTabs 3 Rows.laid_unicode_utf8_acceptRanges (putTabs 4 Rows.laid_math_bits_deBruijn32tab (putTabs 5 Rows.laid_math_bits_deBruijn64tab (putTabs 1 Rows.laid_internal_strconv_uint64pow10 (World.holding Tryz.prog os ⟨#[], #[], []⟩).heap)))) }
theorem pow_laid {H : Type} : (Rows.laid_internal_strconv_uint64pow10 : DataW H) = Lib.tabData .u64 Lib.pow10Tab := by kernel_rfl
def Tryz.laysM144_ren:Go.Shelf.Ren:=⟨fun|144=>41|143=>157|219=>236|217=>293|225=>294|224=>295|267=>296|266=>331|314=>332|n=>n,fun|46=>175|146=>261|51=>260|n=>n,fun|1=>0|n=>n⟩
theorem Tryz.laysM144 : LaysM.n144 Tryz.prog Tryz.laysM144_ren:=by constructor<;>first|kernel_rfl|(intro w;kernel_rfl)|exact fun w h => Go.Proofs.cell_of_shapedOpen_int (zero := #[.int .i64 0]) (t := 3) h (of_decide_eq_true (by kernel_rfl)) (by kernel_rfl) rfl (by kernel_rfl) (by kernel_rfl) Tryz.underlying3|(constructor<;>first|kernel_rfl|(intro w;kernel_rfl))
theorem gw_of {W : World} {rest : List (String × DataW Unit)} (h1 : laidMet Tryz.prog (("internal/strconv.uint64pow10", Rows.laid_internal_strconv_uint64pow10) :: rest) W) (hs : W.ShapedOpen Tryz.prog) : GW W := by
 rw [pow_laid] at h1
 have ht := Lib.tabIs_of_head (g := 1) (t := 336) (e := 263) (n := 20) (by kernel_rfl) (by kernel_rfl) (by kernel_rfl) (by kernel_rfl) (by kernel_rfl) (by kernel_rfl) h1
 obtain ⟨m, hm⟩ := Tryz.laysM144.s1_3 W hs
 have hm : W.cell? ⟨0, 0, none⟩ = some (.int .i64 m) := by
  rw [show 0 = Tryz.laysM144_ren.g 1 by kernel_rfl]; exact hm
 refine ⟨m, fun b o v hg => ?_⟩
 unfold Glob at hg
 have e : tabsG m = [(0, [Value.int .i64 m]), (1, Lib.pow10Tab.map (Value.int .u64))] := rfl
 rw [e] at hg
 by_cases hb : b = 0
 ·subst hb
  have hg : ([Value.int .i64 m] : List Value)[o]? = some v := hg
  match o, hg with
  | 0, hg =>
   cases hg
   exact whole0_some.2 ⟨hm, rfl⟩
  | o + 1, hg => cases hg
 ·by_cases hc : b = 1
  ·subst hc
   have hg : (Lib.pow10Tab.map (Value.int .u64))[o]? = some v := hg
   rw [List.getElem?_map] at hg
   obtain ⟨z, hz, rfl⟩ := Option.map_eq_some_iff.1 hg
   have ho : o < Lib.pow10Tab.length := (List.getElem?_eq_some_iff.1 hz).1
   have hc := ht.cell (g := 1) (by kernel_rfl) o ho
   refine whole0_some.2 ⟨?_, rfl⟩
   rw [hc, List.getD_eq_getElem?_getD, hz]; rfl
  ·have h1 : (b == 0) = false := by simpa using hb
   have h2 : (b == 1) = false := by simpa using hc
   simp [List.lookup, h1, h2] at hg
theorem joined_parts {P : Program} {f : FuncId} {fn : Func} {s : ChangeSpec} {c : OpenClaim}
 (h1 : (c.wf (OpenSpec.ofChange s) && laidOutB P && mapsRowed P && fn.params.all (P.readableRec ·) && namedTie P c.named s.vars && (c.stops == []) && (P.stops == []) && (c.knobs == []) && (P.stopKnobs == [])) = true)
 (h2 : (c.inPlace == P.inPlace f) = true) (h3 : (c.unfollowed == P.unfollowed f) = true) (h4 : (c.recurses == P.recurses f) = true) (h5 : (c.named == P.varsNamed f) = true)
 (h6 : ((c.maps == (fn.params.toList ++ s.plain.varTypes P).any (P.mapsRec ·)) && (c.ifaces == (fn.params.toList ++ s.plain.varTypes P).any (P.ifacesRec ·)) && (c.mapsOut == P.mapsAmong fn.resultTypes.toList) &&
  (c.loops == (fn.params.toList ++ s.plain.varTypes P).any (P.loopsFrom ·)) && (c.wideKeys == (fn.params.toList ++ s.plain.varTypes P ++ fn.resultTypes.toList).any (P.wideKeysFrom ·)) &&
  s.vars.all (P.varReadable ·) && fn.resultTypes.all (fun t => P.readableRec t && decide (t < P.types.size)) && (c.ifacesOut == fn.resultTypes.toList.any (P.ifacesRec ·)) && (c.loopsOut == fn.resultTypes.toList.any (P.loopsFrom ·)) && (c.plainKeys == P.plainKeys) && c.shortTexts.isNone && P.stopsHeard && P.mayEnter && (c.lifted == P.liftsFinal) && (P.make == some c.make) && (c.kinds == (if c.domain.isEmpty then [] else fn.params.toList.map fun t => match P.underlying t with | some (.int k) => some k | _ => none)) && (c.pinned == c.pinnedBy) &&
  (c.veiled == (fn.params.toList ++ s.plain.varTypes P ++ fn.resultTypes.toList).any (P.veiledRec ·)) && c.veiledFits P fn.params.toList (fn.params.toList ++ s.plain.varTypes P ++ fn.resultTypes.toList)) = true) : joinedFacts P f fn s c = true := by
 unfold joinedFacts
 simp only [Bool.and_eq_true, and_assoc] at h1 h6 ⊢
 exact ⟨h1.1, h1.2.1, h1.2.2.1, h1.2.2.2.1, h1.2.2.2.2.1, h1.2.2.2.2.2.1, h1.2.2.2.2.2.2.1, h1.2.2.2.2.2.2.2.1, h1.2.2.2.2.2.2.2.2, h2, h3, h4, h5, h6⟩
end Go.Proofs.YtcdceiloganlnaaGreatDoor
namespace Go.Proofs.YtcdceiloganlnaaGreatDoor.W
open Go.RowKit
set_option maxRecDepth 1000000
def RA.N (A : RA) : Nat := if A.e = 0 then A.toks.length else 0
theorem N_bad {A : RA} (h : A.e ≠ 0) : A.N = 0 := by unfold RA.N; rw [if_neg h]
structure Le (A A' : RA) : Prop where
 ok : A'.ok
 bad : A.e ≠ 0 → A' = A
 le : A'.N ≤ A.N
theorem Le.refl {A : RA} (h : A.ok) : Le A A := ⟨h, fun _ => rfl, Nat.le_refl _⟩
theorem Le.trans {A B C : RA} (h : Le A B) (k : Le B C) : Le A C := ⟨k.ok, fun e => by
 have h1 := h.bad e
 rw [h1] at k
 exact k.bad e, Nat.le_trans k.le h.le⟩
theorem Le.e0 {A B : RA} (h : Le A B) (e : B.e = 0) : A.e = 0 := by
 by_cases c : A.e = 0
 ·exact c
 ·rw [h.bad c] at e; exact absurd e c
theorem kind_e {A : RA} (hk : A.pk.kind ≠ 4) : A.e = 0 := by
 by_cases c : A.e = 0
 ·exact c
 ·exact absurd (pk4 c) hk
theorem next_lt {A : RA} (h : A.ok) (hk : A.pk.kind ≠ 4) : A.next.e = 0 ∧ A.next.N < A.N := by
 have he := kind_e hk
 obtain ⟨t, tl, ht⟩ := h.ne he
 have hn : A.next.e = 0 := by rw [next_e, he]
 have hd : A.next.toks = A.toks.drop 1 := by unfold RA.next; rw [if_pos ⟨he, hk⟩]
 refine ⟨hn, ?_⟩
 unfold RA.N
 rw [if_pos hn, if_pos he, hd, ht]
 simp
theorem Le.next {A : RA} (h : A.ok) : Le A A.next := ⟨h.next, fun e => next_bad e, by
 by_cases hk : A.pk.kind = 4
 ·have : A.next = A := by unfold RA.next; rw [if_neg (by simp [hk])]
  rw [this]; exact Nat.le_refl _
 ·exact Nat.le_of_lt (next_lt h hk).2⟩
theorem Le.fail {A : RA} (h : A.ok) {n : Int} (hn : n ≠ 0) : Le A (A.fail n) := ⟨h.fail n, fun e => fail_bad e n, by rw [N_bad (fail_e hn)]; exact Nat.zero_le _⟩
theorem Le.exp {A : RA} (h : A.ok) (x : List UInt8) : Le A (A.exp x) := by
 unfold RA.exp
 cases A.is x with
 | true => exact .next h
 | false => exact .fail h (by decide)
theorem Le.take {A : RA} (h : A.ok) (x : List UInt8) : Le A (A.take x) := by
 unfold RA.take
 cases A.is x with
 | true => exact .next h
 | false => exact .refl h
theorem Le.name {A : RA} (h : A.ok) : Le A A.name := by
 unfold RA.name
 split
 ·exact .next h
 ·exact .fail h (by decide)
theorem is_kind {A : RA} {x : List UInt8} (h : A.is x = true) : A.pk.kind ≠ 4 := by
 intro c
 unfold RA.is at h
 rw [c] at h
 simp at h
theorem take_is {A : RA} {x : List UInt8} (h : A.is x = true) : A.take x = A.next := by unfold RA.take; rw [h]; rfl
theorem take_no {A : RA} {x : List UInt8} (h : A.is x = false) : A.take x = A := by unfold RA.take; rw [h]; rfl
theorem is_sk {A : RA} (h : A.ok) {x : List UInt8} (hx : x ∈ symsL) (hi : A.is x = true) : A.pk.kind = 3 ∧ A.pk.text = x := by
 rw [is_sym h hx, Bool.and_eq_true] at hi
 exact ⟨by simpa using hi.1, by simpa using hi.2⟩
theorem is_wk {A : RA} (h : A.ok) {x : List UInt8} (hx : x ∉ symsL) : A.is x = (A.pk.kind == 1 && A.pk.text == x) := by
 unfold RA.is
 by_cases h3 : A.pk.kind = 3
 ·have : A.pk.text ≠ x := fun e => hx (e ▸ pk_sym h h3)
  rw [show (A.pk.text == x) = false by simpa using this, Bool.and_false, Bool.and_false]
 ·rw [show (A.pk.kind == 3) = false by simpa using h3, Bool.or_false]
def RA.kp (A : RA) (l : List ByteArray) : RA := if A.pk.kind = 1 ∧ idxB (bs A.pk.text) l 0 < 0 then A.fail 9 else A
def RA.kn (A : RA) (l : List ByteArray) : RA := (A.kp l).name
def RA.knI (A : RA) (l : List ByteArray) : Int := if (0 : Int) > idxB (bs A.pk.text) l 0 then 0 else idxB (bs A.pk.text) l 0
theorem kp_y {A : RA} {l : List ByteArray} (hk : A.pk.kind = 1) (hi : idxB (bs A.pk.text) l 0 < 0) : A.kp l = A.fail 9 := by unfold RA.kp; rw [if_pos ⟨hk, hi⟩]
theorem kp_n {A : RA} {l : List ByteArray} (c : ¬ (A.pk.kind = 1 ∧ idxB (bs A.pk.text) l 0 < 0)) : A.kp l = A := by unfold RA.kp; rw [if_neg c]
theorem RA.ok.kp {A : RA} (h : A.ok) (l : List ByteArray) : (A.kp l).ok := by
 unfold RA.kp; split
 ·exact h.fail 9
 ·exact h
theorem Le.kn {A : RA} (h : A.ok) (l : List ByteArray) : Le A (A.kn l) := by
 unfold RA.kn
 refine Le.trans ?_ (Le.name (h.kp l))
 unfold RA.kp; split
 ·exact .fail h (by decide)
 ·exact .refl h
theorem knc {A : RA} (h : A.ok) (q : Sh.V S17) (l : List ByteArray) (hl : l.length < 1000000000000) : SS.CC 311 [.ptr 0 0, .sl false 1 (nmP l)] [O17 q, O16 A.v] = some (.int .i64 (A.knI l), [O17 q, O16 (A.kn l).v]) := by
 rw [g311_eq, H24_of (peek h)]
 try dsimp only
 rw [G1_of (idxc l hl _), H24_of (peek h)]
 try dsimp only
 unfold RA.kn RA.knI
 by_cases hk : A.pk.kind = 1
 ·rw [show (A.pk.kind == 1) = true by simp [hk], bsel_true]
  by_cases hi : idxB (bs A.pk.text) l 0 < 0
  ·rw [decT hi, bsel_true, H16_of (failc h 9), kp_y hk hi]
   try dsimp only
   rw [g311_J5_eq, H26_of (namec (h.fail 9))]
  ·rw [decF hi, bsel_false, kp_n (fun c => hi c.2), g311_J5_eq, H26_of (namec h)]
 ·rw [show (A.pk.kind == 1) = false by simp [hk], bsel_false, kp_n (fun c => hk c.1), g311_J5_eq, H26_of (namec h)]
theorem fdc {A : RA} (h : A.ok) (q : Sh.V S18) (l : List ByteArray) (hl : l.length < 1000000000000) : SS.CC 339 [.ptr 0 0, .sl false 1 (nmP l)] [O18 q, O16 A.v] = some (.int .i64 (idxB (bs (A.kp l).nameS) l 0), [O18 q, O16 (A.kn l).v]) := by
 rw [g339_1i_eq, H24_of (peek h)]
 try dsimp only
 unfold RA.kn
 by_cases hk : A.pk.kind = 1
 ·rw [show (A.pk.kind == 1) = true by simp [hk], bsel_true, G3_of (hasc l hl _)]
  by_cases hi : idxB (bs A.pk.text) l 0 < 0
  ·rw [decF (by omega), Bool.not_false, bsel_true, H16_of (failc h 9), kp_y hk hi]
   try dsimp only
   rw [g339_1i_J5_eq, H26_of (namec (h.fail 9)), G1_of (idxc l hl _)]
  ·rw [decT (by omega), Bool.not_true, bsel_false, kp_n (fun c => hi c.2), g339_1i_J5_eq, H26_of (namec h), G1_of (idxc l hl _)]
 ·rw [show (A.pk.kind == 1) = false by simp [hk], bsel_false, kp_n (fun c => hk c.1), g339_1i_J5_eq, H26_of (namec h), G1_of (idxc l hl _)]
theorem name_bad {A : RA} (h : A.e ≠ 0) : A.name.e ≠ 0 := by
 unfold RA.name
 rw [if_neg (by rw [pk4 h]; decide), fail_bad h]
 exact h
theorem kn_ok {A : RA} {l : List ByteArray} (h : A.ok) (e : (A.kn l).e = 0) : A.kp l = A ∧ A.pk.kind = 1 ∧ 0 ≤ idxB (bs A.pk.text) l 0 ∧ A.kn l = A.next ∧ (A.kp l).nameS = A.pk.text := by
 have hp : A.kp l = A := by
  unfold RA.kp
  split
  ·rename_i c
   refine absurd e ?_
   unfold RA.kn RA.kp
   rw [if_pos c]
   exact name_bad (fail_e (by decide))
  ·rfl
 have hk : A.pk.kind = 1 := by
  by_cases c : A.pk.kind = 1
  ·exact c
  ·unfold RA.kn at e; rw [hp] at e; unfold RA.name at e; rw [if_neg c] at e
   exact absurd e (fail_e (by decide))
 refine ⟨hp, hk, ?_, ?_, ?_⟩
 ·by_cases c : 0 ≤ idxB (bs A.pk.text) l 0
  ·exact c
  ·refine absurd e ?_
   unfold RA.kn RA.kp
   rw [if_pos ⟨hk, by omega⟩]
   exact name_bad (fail_e (by decide))
 ·unfold RA.kn; rw [hp]; unfold RA.name; rw [if_pos hk]
 ·rw [hp]; unfold RA.nameS; rw [if_pos hk]
theorem knfd {A : RA} {l : List ByteArray} (h : A.ok) (e : (A.kn l).e = 0) : (if (0 : Int) > idxB (bs (A.kp l).nameS) l 0 then 0 else idxB (bs (A.kp l).nameS) l 0) = A.knI l ∧ (A.kn l).N < A.N := by
 obtain ⟨h1, h2, h3, h4, h5⟩ := kn_ok h e
 rw [h5, h4]
 exact ⟨rfl, (next_lt h (by omega)).2⟩
theorem is33 {A : RA} (h : A.ok) : SS.CC 257 [.ptr 0 0, .str ⟨#[33]⟩] [O16 A.v] = some (.bool (A.is [33]), [O16 A.v]) := isc h _
theorem is45 {A : RA} (h : A.ok) : SS.CC 257 [.ptr 0 0, .str ⟨#[45]⟩] [O16 A.v] = some (.bool (A.is [45]), [O16 A.v]) := isc h _
theorem is40 {A : RA} (h : A.ok) : SS.CC 257 [.ptr 0 0, .str ⟨#[40]⟩] [O16 A.v] = some (.bool (A.is [40]), [O16 A.v]) := isc h _
theorem tk63 {A : RA} (h : A.ok) : SS.CC 197 [.ptr 0 0, .str ⟨#[63]⟩] [O16 A.v] = some (.bool (A.is [63]), [O16 (A.take [63]).v]) := takec h _
abbrev trueB : List UInt8 := [116, 114, 117, 101]
abbrev falseB : List UInt8 := [102, 97, 108, 115, 101]
theorem tkT {A : RA} (h : A.ok) : SS.CC 197 [.ptr 0 0, .str ⟨#[116, 114, 117, 101]⟩] [O16 A.v] = some (.bool (A.is trueB), [O16 (A.take trueB).v]) := takec h _
theorem tkF {A : RA} (h : A.ok) : SS.CC 197 [.ptr 0 0, .str ⟨#[102, 97, 108, 115, 101]⟩] [O16 A.v] = some (.bool (A.is falseB), [O16 (A.take falseB).v]) := takec h _
theorem ex58 {A : RA} (h : A.ok) : SS.CC 128 [.ptr 0 0, .str ⟨#[58]⟩] [O16 A.v] = some (.tuple [], [O16 (A.exp [58]).v]) := expc h _
theorem ex41 {A : RA} (h : A.ok) : SS.CC 128 [.ptr 0 0, .str ⟨#[41]⟩] [O16 A.v] = some (.tuple [], [O16 (A.exp [41]).v]) := expc h _
theorem nest_lim {g : FuncId} {v : List PV} {A : RA} (h : A.ok)
 (he : ∀ (h0 : Sh.V S59) (h2 : Sh.V S16), SS.CC 307 [.ptr 0 0, .func (.func g) [] [.ptr 1 0]] [O59 h0, some [.ptr 0 0], O16 h2] =
  bsel (h0.1 == 32) (H16 133 [.ptr 0 0, .int .i64 3] [O16 h2] fun _ u1 => some (A1 (0, 0, 0, [], ()), [O59 h0, some [.ptr 0 0], O16 u1])) (H24 220 [.ptr 0 0] [O16 h2] fun u7 u12 => H88 g [.ptr 0 0] [some [.ptr 1 0], O59 (IntKind.i64.wrap (h0.1 + 1), h0.2.1, ()), O16 u12] fun u18 u22 u24 => H89 335 [.ptr 0 0] [some [.ptr 1 0], O59 u22, O16 u24] fun _ u30 u32 => some (A1 u18, [O59 u30, some [.ptr 0 0], O16 u32]))) :
 SS.CC 307 [.ptr 0 0, .func (.func g) [] [.ptr 1 0]] [O59 (pc 32 v), some [.ptr 0 0], O16 A.v] = some (A1 (ev zE), [O59 (pc 32 v), some [.ptr 0 0], O16 (A.fail 3).v]) := by
 rw [he]
 show bsel true _ _ = _
 rw [bsel_true, H16_of (failc h 3)]
 rfl
theorem decc (d : Int) (v : List PV) (A : RA) (h1 : 0 ≤ d) (h2 : d < 32) : SS.CC 335 [.ptr 0 0] [some [.ptr 1 0], O59 (pc (d + 1) v), O16 A.v] = some (.tuple [], [some [.ptr 1 0], O59 (pc d v), O16 A.v]) := by
 rw [g335_eq]
 show (some (PV.tuple [], [some [.ptr 1 0], O59 (IntKind.i64.wrap (d + 1 - 1), v, ()), O16 A.v]) : R) = _
 rw [wrap64 (by omega) (by omega), show d + 1 - 1 = d by omega]
theorem nestc {g : FuncId} {v : List PV} {A B : RA} {x : EX} {d : Int} (h1 : 0 ≤ d) (h2 : d < 32) (h : A.ok)
 (he : ∀ (h0 : Sh.V S59) (h2 : Sh.V S16), SS.CC 307 [.ptr 0 0, .func (.func g) [] [.ptr 1 0]] [O59 h0, some [.ptr 0 0], O16 h2] =
  bsel (h0.1 == 32) (H16 133 [.ptr 0 0, .int .i64 3] [O16 h2] fun _ u1 => some (A1 (0, 0, 0, [], ()), [O59 h0, some [.ptr 0 0], O16 u1])) (H24 220 [.ptr 0 0] [O16 h2] fun u7 u12 => H88 g [.ptr 0 0] [some [.ptr 1 0], O59 (IntKind.i64.wrap (h0.1 + 1), h0.2.1, ()), O16 u12] fun u18 u22 u24 => H89 335 [.ptr 0 0] [some [.ptr 1 0], O59 u22, O16 u24] fun _ u30 u32 => some (A1 u18, [O59 u30, some [.ptr 0 0], O16 u32])))
 (hg : SS.CC g [.ptr 0 0] [some [.ptr 1 0], O59 (pc (d + 1) v), O16 A.next.v] = some (A1 (ev x), [some [.ptr 1 0], O59 (pc (d + 1) v), O16 B.v])) :
 SS.CC 307 [.ptr 0 0, .func (.func g) [] [.ptr 1 0]] [O59 (pc d v), some [.ptr 0 0], O16 A.v] = some (A1 (ev x), [O59 (pc d v), some [.ptr 0 0], O16 B.v]) := by
 rw [he, show ((pc d v).1 == 32) = false by simp; omega, bsel_false, H24_of (next h)]
 try dsimp only
 rw [show IntKind.i64.wrap (d + 1) = d + 1 from wrap64 (by omega) (by omega), H88_of hg]
 try dsimp only
 rw [H89_of (decc d v B h1 h2)]
end Go.Proofs.YtcdceiloganlnaaGreatDoor.W
namespace Go.Proofs.YtcdceiloganlnaaGreatDoor.W
open Go.RowKit
set_option maxRecDepth 1000000
abbrev MF := ByteArray × List PV × List PV × List PV × List PV × List PV × List PV
abbrev md (F : MF) (v : List PV) (d : Int) : Sh.V S18 := (F.1, F.2.1, F.2.2.1, F.2.2.2.1, F.2.2.2.2.1, F.2.2.2.2.2.1, F.2.2.2.2.2.2, v, d, ())
structure Out (A A' : RA) (x y : EX) : Prop extends Le A A' where
 eq : A'.e = 0 → x = y
 lt : A'.e = 0 → A'.N < A.N
 fit : x.Fit
theorem Out.bad' {A A' : RA} {x y : EX} (h : Le A A') (e : A'.e ≠ 0) (f : x.Fit) : Out A A' x y := ⟨h, fun c => absurd c e, fun c => absurd c e, f⟩
section
variable {F : MF} {v : List PV} {d : Int} {A B : RA} {x : EX}
theorem deep_lim (h : A.ok) : SS.CC 336 [.ptr 0 0, .func (.func 313) [.ptr 0 0] []] [O18 (md F v 32), O16 A.v] = some (A1 (ev zE), [O18 (md F v 32), O16 (A.fail 3).v]) := by
 rw [g336_eq]
 show bsel true _ _ = _
 rw [bsel_true, H16_of (failc h 3)]
 rfl
theorem deep1_lim (h : A.ok) (b : Bool) : SS.CC 336 [.ptr 0 0, .func (.func 337) [] [.ptr 1 0, .ptr 2 0]] [O71 (md F v 32), some [.ptr 0 0], O38 (b, ()), O16 A.v] = some (A1 (ev zE), [O71 (md F v 32), some [.ptr 0 0], O38 (b, ()), O16 (A.fail 3).v]) := by
 rw [g336_1i_eq]
 show bsel true _ _ = _
 rw [bsel_true, H16_of (failc h 3)]
 rfl
theorem deep2_lim (h : A.ok) : SS.CC 336 [.ptr 0 0, .func (.func 338) [] [.ptr 1 0]] [O41 (md F v 32), some [.ptr 0 0], O16 A.v] = some (A1 (ev zE), [O41 (md F v 32), some [.ptr 0 0], O16 (A.fail 3).v]) := by
 rw [g336_2i_eq]
 show bsel true _ _ = _
 rw [bsel_true, H16_of (failc h 3)]
 rfl
theorem ne32 (h : d < 32) : (d == 32) = false := by simp; omega
theorem wr1 (h1 : 0 ≤ d) (h2 : d < 32) : IntKind.i64.wrap (d + 1) = d + 1 := wrap64 (by omega) (by omega)
theorem wr2 (h1 : 0 ≤ d) (h2 : d < 32) : IntKind.i64.wrap (d + 1 - 1) = d := by rw [wrap64 (by omega) (by omega)]; omega
theorem deepc (h1 : 0 ≤ d) (h2 : d < 32) (h : A.ok) (hg : SS.CC 313 [.ptr 0 0] [O18 (md F v (d + 1)), O16 A.next.v] = some (A1 (ev x), [O18 (md F v (d + 1)), O16 B.v])) :
 SS.CC 336 [.ptr 0 0, .func (.func 313) [.ptr 0 0] []] [O18 (md F v d), O16 A.v] = some (A1 (ev x), [O18 (md F v d), O16 B.v]) := by
 rw [g336_eq]
 show bsel (d == 32) _ (H24 220 [.ptr 0 0] [O16 A.v] fun u7 u12 => H18 313 [.ptr 0 0] [O18 (md F v (IntKind.i64.wrap (d + 1))), O16 u12] _) = _
 rw [ne32 h2, bsel_false, H24_of (next h)]
 try dsimp only
 rw [wr1 h1 h2, H18_of hg]
 show some (A1 (ev x), [O18 (md F v (IntKind.i64.wrap (d + 1 - 1))), O16 B.v]) = _
 rw [wr2 h1 h2]
theorem deep1c (h1 : 0 ≤ d) (h2 : d < 32) (h : A.ok) (b : Bool) (hg : SS.CC 313 [.ptr 0 0] [O18 (md F v (d + 1)), O16 A.next.v] = some (A1 (ev x), [O18 (md F v (d + 1)), O16 B.v])) :
 SS.CC 336 [.ptr 0 0, .func (.func 337) [] [.ptr 1 0, .ptr 2 0]] [O71 (md F v d), some [.ptr 0 0], O38 (b, ()), O16 A.v] = some (A1 (ev x), [O71 (md F v d), some [.ptr 0 0], O38 ((A.next.pk.kind == 2), ()), O16 B.v]) := by
 have hi : SS.CC 337 [.ptr 0 0, .ptr 1 0] [some [.ptr 2 0], O38 (b, ()), O71 (md F v (d + 1)), O16 A.next.v] = some (A1 (ev x), [some [.ptr 2 0], O38 ((A.next.pk.kind == 2), ()), O71 (md F v (d + 1)), O16 B.v]) := by
  rw [g337_eq, H24_of (peek h.next)]
  try dsimp only
  rw [H18_of hg]
 rw [g336_1i_eq]
 show bsel (d == 32) _ (H24 220 [.ptr 0 0] [O16 A.v] fun u7 u12 => H117 337 [.ptr 0 0, .ptr 1 0] [some [.ptr 2 0], O38 (b, ()), O71 (md F v (IntKind.i64.wrap (d + 1))), O16 u12] _) = _
 rw [ne32 h2, bsel_false, H24_of (next h)]
 try dsimp only
 rw [wr1 h1 h2, H117_of hi]
 show some (A1 (ev x), [O71 (md F v (IntKind.i64.wrap (d + 1 - 1))), some [.ptr 0 0], O38 ((A.next.pk.kind == 2), ()), O16 B.v]) = _
 rw [wr2 h1 h2]
theorem deep2c (h1 : 0 ≤ d) (h2 : d < 32) (h : A.ok) (hB : B.ok) (hg : SS.CC 105 [.ptr 0 0] [O18 (md F v (d + 1)), O16 A.next.v] = some (A1 (ev x), [O18 (md F v (d + 1)), O16 B.v])) :
 SS.CC 336 [.ptr 0 0, .func (.func 338) [] [.ptr 1 0]] [O41 (md F v d), some [.ptr 0 0], O16 A.v] = some (A1 (ev x), [O41 (md F v d), some [.ptr 0 0], O16 (B.exp [41]).v]) := by
 have hi : SS.CC 338 [.ptr 0 0] [some [.ptr 1 0], O41 (md F v (d + 1)), O16 A.next.v] = some (A1 (ev x), [some [.ptr 1 0], O41 (md F v (d + 1)), O16 (B.exp [41]).v]) := by
  rw [g338_eq, H18_of hg]
  try dsimp only
  rw [H16_of (ex41 hB)]
 rw [g336_2i_eq]
 show bsel (d == 32) _ (H24 220 [.ptr 0 0] [O16 A.v] fun u7 u12 => H56 338 [.ptr 0 0] [some [.ptr 1 0], O41 (md F v (IntKind.i64.wrap (d + 1))), O16 u12] _) = _
 rw [ne32 h2, bsel_false, H24_of (next h)]
 try dsimp only
 rw [wr1 h1 h2, H56_of hi]
 show some (A1 (ev x), [O41 (md F v (IntKind.i64.wrap (d + 1 - 1))), some [.ptr 0 0], O16 (B.exp [41]).v]) = _
 rw [wr2 h1 h2]
theorem c308 (e1 : SS.CC 254 [.ptr 0 0] [O17 (pc d v), O16 A.v] = some (A1 (ev x), [O17 (pc d v), O16 B.v])) : SS.CC 308 [.ptr 0 0] [some [.ptr 1 0], O59 (pc d v), O16 A.v] = some (A1 (ev (un0 10 x)), [some [.ptr 1 0], O59 (pc d v), O16 B.v]) := by
 rw [g308_eq, H15_of e1, ev1]
theorem c310 (hB : B.ok) (e1 : SS.CC 102 [.ptr 0 0] [O17 (pc d v), O16 A.v] = some (A1 (ev x), [O17 (pc d v), O16 B.v])) : SS.CC 310 [.ptr 0 0] [some [.ptr 1 0], O59 (pc d v), O16 A.v] = some (A1 (ev x), [some [.ptr 1 0], O59 (pc d v), O16 (B.exp [41]).v]) := by
 rw [g310_eq, H15_of e1]
 try dsimp only
 rw [H16_of (ex41 hB)]
theorem c309m (h : A.ok) (hk : A.pk.kind ≠ 2) (e1 : SS.CC 254 [.ptr 0 0] [O17 (pc d v), O16 A.v] = some (A1 (ev x), [O17 (pc d v), O16 B.v])) : SS.CC 309 [.ptr 0 0] [some [.ptr 1 0], O59 (pc d v), O16 A.v] = some (A1 (ev (un0 5 x)), [some [.ptr 1 0], O59 (pc d v), O16 B.v]) := by
 rw [g309_eq, H24_of (peek h)]
 try dsimp only
 rw [show (A.pk.kind == 2) = false by simpa using hk, bsel_false, H15_of e1, ev1]
theorem is_num (hk : A.pk.kind = 2) (t : List UInt8) : A.is t = false := by unfold RA.is; rw [hk]; rfl
theorem num_val (h : A.ok) (hk : A.pk.kind = 2) : 0 ≤ A.pk.value ∧ A.pk.value ≤ 65536 := by
 rcases pk_tok h with (⟨h1, _⟩ | ⟨_, h1⟩ | ⟨h1, _⟩) | h1
 ·omega
 ·exact h1
 ·omega
 ·omega
theorem int_num (h : A.ok) (hk : A.pk.kind = 2) : A.intV 0 65536 = A.pk.value ∧ A.int 0 65536 = A.next := by
 obtain ⟨h1, h2⟩ := num_val h hk
 have hm : A.mi = false := by unfold RA.mi; rw [hk]; rfl
 have hw : IntKind.i64.wrap (1 * A.pk.value) = A.pk.value := by rw [Int.one_mul]; exact wrap64 (by omega) (by omega)
 unfold RA.intV RA.int
 rw [hm, cond_false, cond_false]
 unfold RA.numV RA.num
 rw [if_pos hk, if_pos hk, hw, if_neg (by omega), if_neg (by omega)]
 exact ⟨rfl, rfl⟩
theorem c309n (h : A.ok) (hk : A.pk.kind = 2) : SS.CC 309 [.ptr 0 0] [some [.ptr 1 0], O59 (pc d v), O16 A.v] = some (A1 (ev (nE (IntKind.i64.wrap (0 - A.pk.value)))), [some [.ptr 1 0], O59 (pc d v), O16 A.next.v]) := by
 rw [g309_eq, H24_of (peek h)]
 try dsimp only
 rw [show (A.pk.kind == 2) = true by simp [hk], bsel_true, H67_of (intc h 0 65536), (int_num h hk).1, (int_num h hk).2, ev_nE]
theorem opnum (h : A.ok) (hk : A.pk.kind = 2) : SS.CC 313 [.ptr 0 0] [O18 (md F v d), O16 A.v] = some (A1 (ev (nE A.pk.value)), [O18 (md F v d), O16 A.next.v]) := by
 rw [g313_eq, H24_of (peek h)]
 try dsimp only
 rw [H34_of (is33 h)]
 try dsimp only
 rw [is_num hk, bsel_false, H34_of (is45 h)]
 try dsimp only
 rw [is_num hk, bsel_false, H34_of (is40 h)]
 try dsimp only
 rw [is_num hk, bsel_false, show (A.pk.kind == 2) = true by simp [hk], bsel_true, H24_of (next h), ev_nE]
end
theorem tlT : (⟨#[116, 114, 117, 101]⟩ : ByteArray).toList = trueB := ByteArray.toList_eq _
theorem tlF : (⟨#[102, 97, 108, 115, 101]⟩ : ByteArray).toList = falseB := ByteArray.toList_eq _
theorem un_rest {l : List ByteArray} {d : Int} {A : RA} (hA : A.ok) (c33 : A.is [33] = false) (c45 : A.is [45] = false) (c40 : A.is [40] = false) (hk : ¬A.pk.kind = 2) : SS.CC 254 [.ptr 0 0] [O17 (pc d (nmP l)), O16 A.v] = bsel (A.is trueB) (some (A1 (ev tE), [O17 (pc d (nmP l)), O16 (A.take trueB).v])) (H34 197 [.ptr 0 0, .str ⟨#[102, 97, 108, 115, 101]⟩] [O16 (A.take trueB).v] fun b99 u100 => bsel b99 (G20 117 [] fun u106 => some (A1 u106, [O17 (pc d (nmP l)), O16 u100])) (g254_J14 (pc d (nmP l)) u100)) := by
 rw [g254_eq, H34_of (is33 hA)]
 try dsimp only
 rw [c33, bsel_false, H34_of (is45 hA)]
 try dsimp only
 rw [c45, bsel_false, H34_of (is40 hA)]
 try dsimp only
 rw [c40, bsel_false, H24_of (peek hA)]
 try dsimp only
 rw [show (A.pk.kind == 2) = false by simpa using hk, bsel_false, H34_of (tkT hA)]
 try dsimp only
 rw [G20_of c116]
theorem op_rest {F : MF} {l : List ByteArray} {d : Int} {A : RA} (hA : A.ok) (c33 : A.is [33] = false) (c45 : A.is [45] = false) (c40 : A.is [40] = false) (hk : ¬A.pk.kind = 2) : SS.CC 313 [.ptr 0 0] [O18 (md F (nmP l) d), O16 A.v] = bsel (A.is trueB) (some (A1 (ev tE), [O18 (md F (nmP l) d), O16 A.next.v])) (bsel (A.is falseB) (some (A1 (ev fE), [O18 (md F (nmP l) d), O16 A.next.v])) (g313_J22 (md F (nmP l) d) A.v)) := by
 rw [g313_eq, H24_of (peek hA)]
 try dsimp only
 rw [H34_of (is33 hA)]
 try dsimp only
 rw [c33, bsel_false, H34_of (is45 hA)]
 try dsimp only
 rw [c45, bsel_false, H34_of (is40 hA)]
 try dsimp only
 rw [c40, bsel_false, show (A.pk.kind == 2) = false by simpa using hk, bsel_false, H24_of (next hA)]
 try dsimp only
 rw [G20_of c116, H24_of (next hA)]
 try dsimp only
 rw [G20_of c117, bs_toList, tlT, tlF, is_wk hA (x := trueB) (by decide), is_wk hA (x := falseB) (by decide)]
 cases A.pk.kind == 1 <;> cases A.pk.text == trueB <;> cases A.pk.text == falseB <;> simp only [bsel_true, bsel_false, Bool.false_and, Bool.true_and]
def SimU (F : MF) (l : List ByteArray) (n : Nat) : Prop := ∀ d : Int, 0 ≤ d → d ≤ 32 → ∀ A : RA, A.ok → A.N ≤ n → ∃ A' x y,
 SS.CC 254 [.ptr 0 0] [O17 (pc d (nmP l)), O16 A.v] = some (A1 (ev x), [O17 (pc d (nmP l)), O16 A'.v]) ∧
 SS.CC 313 [.ptr 0 0] [O18 (md F (nmP l) d), O16 A.v] = some (A1 (ev y), [O18 (md F (nmP l) d), O16 A'.v]) ∧ Out A A' x y
def SimX (F : MF) (l : List ByteArray) (n : Nat) : Prop := ∀ d : Int, 0 ≤ d → d ≤ 32 → ∀ A : RA, A.ok → A.N ≤ n → ∃ A' x y,
 SS.CC 102 [.ptr 0 0] [O17 (pc d (nmP l)), O16 A.v] = some (A1 (ev x), [O17 (pc d (nmP l)), O16 A'.v]) ∧
 SS.CC 105 [.ptr 0 0] [O18 (md F (nmP l) d), O16 A.v] = some (A1 (ev y), [O18 (md F (nmP l) d), O16 A'.v]) ∧ Out A A' x y
theorem simU {F : MF} {l : List ByteArray} (hl : l.length < 1000000000000) {n : Nat} (ihU : ∀ m, m < n → SimU F l m) (ihX : ∀ m, m < n → SimX F l m) : SimU F l n := by
 intro d h1 h2 A hA hn
 cases c33 : A.is [33] with
 | true =>
  have hs := is_sk hA (x := [33]) (by decide) c33
  have hlt := next_lt hA (is_kind c33)
  by_cases hd : d = 32
  ·subst hd
   refine ⟨A.fail 3, zE, un0 10 zE, ?_, ?_, .bad' (.fail hA (by decide)) (fail_e (by decide)) fit0⟩
   ·rw [g254_eq, H34_of (is33 hA)]
    try dsimp only
    rw [c33, bsel_true, H24_of (peek hA)]
    try dsimp only
    rw [show (A.pk.kind == 3) = true by simp [hs.1], bsel_true, H66_of (nest_lim hA g307_eq)]
   ·rw [g313_eq, H24_of (peek hA)]
    try dsimp only
    rw [H34_of (is33 hA)]
    try dsimp only
    rw [c33, bsel_true, H18_of (deep_lim hA), ev1]
  ·obtain ⟨B, x, y, e1, e2, ho⟩ := ihU A.next.N (by omega) (d + 1) (by omega) (by omega) A.next hA.next (Nat.le_refl _)
   refine ⟨B, un0 10 x, un0 10 y, ?_, ?_, ⟨(Le.next hA).trans ho.toLe, fun e => by rw [ho.eq e], fun e => Nat.lt_trans (ho.lt e) hlt.2, fit1 ho.fit⟩⟩
   ·rw [g254_eq, H34_of (is33 hA)]
    try dsimp only
    rw [c33, bsel_true, H24_of (peek hA)]
    try dsimp only
    rw [show (A.pk.kind == 3) = true by simp [hs.1], bsel_true, H66_of (nestc h1 (by omega) hA g307_eq (c308 e1))]
   ·rw [g313_eq, H24_of (peek hA)]
    try dsimp only
    rw [H34_of (is33 hA)]
    try dsimp only
    rw [c33, bsel_true, H18_of (deepc h1 (by omega) hA e2), ev1]
 | false =>
  cases c45 : A.is [45] with
  | true =>
   have hlt := next_lt hA (is_kind c45)
   by_cases hd : d = 32
   ·subst hd
    refine ⟨A.fail 3, zE, un0 5 zE, ?_, ?_, .bad' (.fail hA (by decide)) (fail_e (by decide)) fit0⟩
    ·rw [g254_eq, H34_of (is33 hA)]
     try dsimp only
     rw [c33, bsel_false, H34_of (is45 hA)]
     try dsimp only
     rw [c45, bsel_true, H66_of (nest_lim hA g307_1i_eq)]
    ·rw [g313_eq, H24_of (peek hA)]
     try dsimp only
     rw [H34_of (is33 hA)]
     try dsimp only
     rw [c33, bsel_false, H34_of (is45 hA)]
     try dsimp only
     rw [c45, bsel_true, H116_of (deep1_lim hA false)]
     show bsel false _ _ = _
     rw [bsel_false, ev1]
   ·by_cases hk : A.next.pk.kind = 2
    ·have hlt2 := next_lt hA.next (show A.next.pk.kind ≠ 4 by omega)
     refine ⟨A.next.next, nE (IntKind.i64.wrap (0 - A.next.pk.value)), nE (IntKind.i64.wrap (0 - A.next.pk.value)), ?_, ?_, ⟨(Le.next hA).trans (Le.next hA.next), fun _ => rfl, fun _ => Nat.lt_trans hlt2.2 hlt.2, fit0⟩⟩
     ·rw [g254_eq, H34_of (is33 hA)]
      try dsimp only
      rw [c33, bsel_false, H34_of (is45 hA)]
      try dsimp only
      rw [c45, bsel_true, H66_of (nestc h1 (by omega) hA g307_1i_eq (c309n hA.next hk))]
     ·rw [g313_eq, H24_of (peek hA)]
      try dsimp only
      rw [H34_of (is33 hA)]
      try dsimp only
      rw [c33, bsel_false, H34_of (is45 hA)]
      try dsimp only
      rw [c45, bsel_true, H116_of (deep1c h1 (by omega) hA false (opnum hA.next hk))]
      try dsimp only
      rw [show (A.next.pk.kind == 2) = true by simp [hk], bsel_true]
      rfl
    ·obtain ⟨B, x, y, e1, e2, ho⟩ := ihU A.next.N (by omega) (d + 1) (by omega) (by omega) A.next hA.next (Nat.le_refl _)
     refine ⟨B, un0 5 x, un0 5 y, ?_, ?_, ⟨(Le.next hA).trans ho.toLe, fun e => by rw [ho.eq e], fun e => Nat.lt_trans (ho.lt e) hlt.2, fit1 ho.fit⟩⟩
     ·rw [g254_eq, H34_of (is33 hA)]
      try dsimp only
      rw [c33, bsel_false, H34_of (is45 hA)]
      try dsimp only
      rw [c45, bsel_true, H66_of (nestc h1 (by omega) hA g307_1i_eq (c309m hA.next hk e1))]
     ·rw [g313_eq, H24_of (peek hA)]
      try dsimp only
      rw [H34_of (is33 hA)]
      try dsimp only
      rw [c33, bsel_false, H34_of (is45 hA)]
      try dsimp only
      rw [c45, bsel_true, H116_of (deep1c h1 (by omega) hA false e2)]
      try dsimp only
      rw [show (A.next.pk.kind == 2) = false by simpa using hk, bsel_false, ev1]
  | false =>
   cases c40 : A.is [40] with
   | true =>
    have hlt := next_lt hA (is_kind c40)
    by_cases hd : d = 32
    ·subst hd
     refine ⟨A.fail 3, zE, zE, ?_, ?_, .bad' (.fail hA (by decide)) (fail_e (by decide)) fit0⟩
     ·rw [g254_eq, H34_of (is33 hA)]
      try dsimp only
      rw [c33, bsel_false, H34_of (is45 hA)]
      try dsimp only
      rw [c45, bsel_false, H34_of (is40 hA)]
      try dsimp only
      rw [c40, bsel_true, H66_of (nest_lim hA g307_2i_eq)]
     ·rw [g313_eq, H24_of (peek hA)]
      try dsimp only
      rw [H34_of (is33 hA)]
      try dsimp only
      rw [c33, bsel_false, H34_of (is45 hA)]
      try dsimp only
      rw [c45, bsel_false, H34_of (is40 hA)]
      try dsimp only
      rw [c40, bsel_true, H35_of (deep2_lim hA)]
    ·obtain ⟨B, x, y, e1, e2, ho⟩ := ihX A.next.N (by omega) (d + 1) (by omega) (by omega) A.next hA.next (Nat.le_refl _)
     have hx := Le.exp ho.ok [41]
     refine ⟨B.exp [41], x, y, ?_, ?_, ⟨((Le.next hA).trans ho.toLe).trans hx, fun e => ho.eq (hx.e0 e), fun e => Nat.lt_of_le_of_lt hx.le (Nat.lt_trans (ho.lt (hx.e0 e)) hlt.2), ho.fit⟩⟩
     ·rw [g254_eq, H34_of (is33 hA)]
      try dsimp only
      rw [c33, bsel_false, H34_of (is45 hA)]
      try dsimp only
      rw [c45, bsel_false, H34_of (is40 hA)]
      try dsimp only
      rw [c40, bsel_true, H66_of (nestc h1 (by omega) hA g307_2i_eq (c310 ho.ok e1))]
     ·rw [g313_eq, H24_of (peek hA)]
      try dsimp only
      rw [H34_of (is33 hA)]
      try dsimp only
      rw [c33, bsel_false, H34_of (is45 hA)]
      try dsimp only
      rw [c45, bsel_false, H34_of (is40 hA)]
      try dsimp only
      rw [c40, bsel_true, H35_of (deep2c h1 (by omega) hA ho.ok e2)]
   | false =>
    by_cases hk : A.pk.kind = 2
    ·have hlt := next_lt hA (show A.pk.kind ≠ 4 by omega)
     refine ⟨A.next, nE A.pk.value, nE A.pk.value, ?_, opnum hA hk, ⟨Le.next hA, fun _ => rfl, fun _ => hlt.2, fit0⟩⟩
     rw [g254_eq, H34_of (is33 hA)]
     try dsimp only
     rw [c33, bsel_false, H34_of (is45 hA)]
     try dsimp only
     rw [c45, bsel_false, H34_of (is40 hA)]
     try dsimp only
     rw [c40, bsel_false, H24_of (peek hA)]
     try dsimp only
     rw [show (A.pk.kind == 2) = true by simp [hk], bsel_true, H67_of (intc hA 0 65536), (int_num hA hk).1, (int_num hA hk).2, ev_nE]
    ·have e254 := un_rest (l := l) (d := d) hA c33 c45 c40 hk
     have e313 := op_rest (F := F) (l := l) (d := d) hA c33 c45 c40 hk
     cases cT : A.is trueB with
     | true =>
      have hlt := next_lt hA (is_kind cT)
      refine ⟨A.next, tE, tE, ?_, ?_, ⟨Le.next hA, fun _ => rfl, fun _ => hlt.2, fit2 fit0 fit0⟩⟩
      ·rw [e254, cT, bsel_true, take_is cT]
      ·rw [e313, cT, bsel_true]
     | false =>
      cases cF : A.is falseB with
      | true =>
       have hlt := next_lt hA (is_kind cF)
       refine ⟨A.next, fE, fE, ?_, ?_, ⟨Le.next hA, fun _ => rfl, fun _ => hlt.2, fit2 fit0 fit0⟩⟩
       ·rw [e254, cT, bsel_false, take_no cT, H34_of (tkF hA)]
        try dsimp only
        rw [cF, bsel_true, G20_of c117, take_is cF]
       ·rw [e313, cT, bsel_false, cF, bsel_true]
      | false =>
       refine ⟨A.kn l, vE (A.knI l), vE (if (0 : Int) > idxB (bs (A.kp l).nameS) l 0 then 0 else idxB (bs (A.kp l).nameS) l 0), ?_, ?_, ⟨Le.kn hA l, fun e => by rw [(knfd hA e).1], fun e => (knfd hA e).2, fit0⟩⟩
       ·rw [e254, cT, bsel_false, take_no cT, H34_of (tkF hA)]
        try dsimp only
        rw [cF, bsel_false, take_no cF, g254_J14_eq, H65_of (knc hA (pc d (nmP l)) l hl), ev_vE]
       ·rw [e313, cT, bsel_false, cF, bsel_false, g313_J22_eq, H115_of (fdc hA (md F (nmP l) d) l hl), ev_vE]
end Go.Proofs.YtcdceiloganlnaaGreatDoor.W
namespace Go.Proofs.YtcdceiloganlnaaGreatDoor.W
open Go.RowKit
set_option maxRecDepth 1000000
def sgn (o : Int) : List UInt8 := if o = 2 then [43] else if o = 3 then [45] else if o = 4 then [42] else if o = 6 then [61, 61] else if o = 7 then [33, 61] else if o = 8 then [60] else if o = 9 then [60, 61] else if o = 11 then [38, 38] else [124, 124]
theorem sgc (o : Int) : SS.CC 118 [.int .i64 o] [] = some (.str (bs (sgn o)), []) := by
 rw [g118_eq]
 unfold sgn
 simp only [bsel_ite, beq_iff_eq]
 repeat' split
 all_goals rfl
theorem sgn_sym (o : Int) : sgn o ∈ symsL := by
 unfold sgn
 repeat' split
 all_goals decide
def RA.ix (A : RA) : List Int → Nat → Int
 | [], _ => -1
 | o :: l, k => bif A.is (sgn o) then (k : Int) else A.ix l (k + 1)
abbrev opP (l : List Int) : List PV := l.map fun o => .int .i64 o
theorem hasOp {A : RA} (h : A.ok) (q : Sh.V S18) (o : Int) : SS.CC 259 [.int .i64 o, .ptr 0 0] [some [.ptr 1 0], O41 q, O16 A.v] = some (.bool (A.is (sgn o)), [some [.ptr 1 0], O41 q, O16 A.v]) := by
 rw [g259_eq, G2_of (sgc o), H34_of (isc h _)]
 rfl
theorem ix_loop {A : RA} (h : A.ok) (q : Sh.V S18) (all : List Int) (hn : all.length < 1000000000000) : ∀ (l : List Int) (k : Nat), all.drop k = l → k ≤ all.length → g258_L3 (opP all) q A.v (k : Int) = some (.int .i64 (A.ix l k), [some [.ptr 1 0], O41 q, O16 A.v])
 | [], k, hd, hk => by
  have : all.length ≤ k := List.drop_eq_nil_iff.1 hd
  rw [g258_L3_eq, decF (by rw [List.length_map]; omega), bsel_false]; rfl
 | o :: l, k, hd, hk => by
  have hlt : k < all.length := by
   rcases Nat.lt_or_ge k all.length with h' | h'
   ·exact h'
   ·rw [List.drop_eq_nil_of_le h'] at hd; cases hd
  have hg : all[k]? = some o := by
   have := congrArg (fun l => l[0]?) hd
   simpa using this
  rw [g258_L3_eq, decT (by rw [List.length_map]; omega), bsel_true, lgetX_of (e := .int .i64 o) (by omega) (by rw [Int.toNat_natCast, List.getElem?_map, hg]; rfl), vI_mk, H68_of (hasOp h q o)]
  try dsimp only
  rw [RA.ix]
  cases A.is (sgn o) with
  | true => rfl
  | false =>
   rw [bsel_false, cond_false, wrap64 (by omega) (by omega), show ((k : Int) + 1) = ((k + 1 : Nat) : Int) by omega]
   exact ix_loop h q all hn l (k + 1) (by rw [← List.drop_drop, hd]; rfl) (by omega)
theorem ixc {A : RA} (h : A.ok) (q : Sh.V S18) (l : List Int) (hn : l.length < 1000000000000) : SS.CC 258 [.sl false 1 (opP l), .func (.func 259) [] [.ptr 0 0]] [some [.ptr 1 0], O41 q, O16 A.v] = some (.int .i64 (A.ix l 0), [some [.ptr 1 0], O41 q, O16 A.v]) := by
 rw [g258_eq]; exact ix_loop h q l hn l 0 rfl (Nat.zero_le _)
def ixT (t : List UInt8) : List Int → Nat → Int
 | [], _ => -1
 | o :: l, k => bif t == sgn o then (k : Int) else ixT t l (k + 1)
theorem ix_T {A : RA} (h : A.ok) (h3 : A.pk.kind = 3) : ∀ (l : List Int) (k : Nat), A.ix l k = ixT A.pk.text l k
 | [], _ => rfl
 | o :: l, k => by rw [RA.ix, ixT, is_sym h (sgn_sym o), h3, ix_T h h3 l]; rfl
theorem ix_no {A : RA} (h : A.ok) (h3 : A.pk.kind ≠ 3) : ∀ (l : List Int) (k : Nat), A.ix l k = -1
 | [], _ => rfl
 | o :: l, k => by rw [RA.ix, is_sym h (sgn_sym o), show (A.pk.kind == 3) = false by simpa using h3, Bool.false_and, cond_false]; exact ix_no h h3 l _
def OpsOK (lv : Int) (ops : List Int) : Prop := ∀ t, t ∈ symsL → ((opT t).1 = lv → ∃ k ∈ [0, 1], ixT t ops 0 = ((k : Nat) : Int) ∧ ops[k]? = some (opT t).2.1 ∧ (opT t).2.2 = false) ∧ ((opT t).1 ≠ lv → ixT t ops 0 = -1)
theorem ops1 : OpsOK 1 [12] := by unfold OpsOK; decide
theorem ops2 : OpsOK 2 [11] := by unfold OpsOK; decide
theorem ops4 : OpsOK 4 [2, 3] := by unfold OpsOK; decide
theorem ops5 : OpsOK 5 [4] := by unfold OpsOK; decide
theorem ops_yes {A : RA} {lv : Int} {ops : List Int} (h : A.ok) (ho : OpsOK lv ops) (c : A.opIs lv = true) : A.pk.kind ≠ 4 ∧ (∃ k : Nat, A.ix ops 0 = (k : Int) ∧ ops[k]? = some (opT A.pk.text).2.1) ∧ (opT A.pk.text).2.2 = false := by
 unfold RA.opIs at c
 rw [Bool.and_eq_true] at c
 have h3 : A.pk.kind = 3 := by simpa using c.1
 obtain ⟨k, _, k1, k2, k3⟩ := (ho _ (pk_sym h h3)).1 (by simpa using c.2)
 exact ⟨by omega, ⟨k, by rw [ix_T h h3]; exact k1, k2⟩, k3⟩
theorem ops_no {A : RA} {lv : Int} {ops : List Int} (h : A.ok) (ho : OpsOK lv ops) (c : A.opIs lv = false) : A.ix ops 0 = -1 := by
 by_cases h3 : A.pk.kind = 3
 ·rw [ix_T h h3]
  refine (ho _ (pk_sym h h3)).2 fun e => ?_
  unfold RA.opIs at c
  rw [h3, e] at c
  simp at c
 ·exact ix_no h h3 _ _
abbrev RDt := Sh.V S18 → Sh.V S16 → (Sh.V S1 → Sh.V S18 → Sh.V S16 → R) → R
noncomputable def RD313 : RDt := fun a b K => H18 313 [.ptr 0 0] [O18 a, O16 b] K
noncomputable def RD200 : RDt := fun a b K => H18 200 [.ptr 0 0] [O18 a, O16 b] K
noncomputable def RD260 : RDt := fun a b K => H18 260 [.ptr 0 0] [O18 a, O16 b] K
noncomputable def RD199 : RDt := fun a b K => H56 199 [.ptr 0 0] [some [.ptr 1 0], O41 a, O16 b] K
noncomputable def RD312 : RDt := fun a b K => H56 312 [.ptr 0 0] [some [.ptr 1 0], O41 a, O16 b] K
abbrev Fint := Sh.V S1 → Sh.V S18 → Sh.V S16 → R
def fin18 : Fint := fun u a b => some (A1 u, [O18 a, O16 b])
def fin41 : Fint := fun u a b => some (A1 u, [O41 a, some [.ptr 0 0], O16 b])
def SimL (F : MF) (l : List ByteArray) (n : Nat) (d lv : Int) (RD : RDt) : Prop := ∀ A : RA, A.ok → A.N ≤ n → ∃ A' x y,
 SS.CC 196 [.ptr 0 0, .int .i64 lv] [O17 (pc d (nmP l)), O16 A.v] = some (A1 (ev x), [O17 (pc d (nmP l)), O16 A'.v]) ∧
 (∀ K, RD (md F (nmP l) d) A.v K = K (ev y) (md F (nmP l) d) A'.v) ∧ Out A A' x y
theorem failedc (q : Sh.V S18) (A : RA) : SS.CC 214 [.ptr 0 0] [O18 q, O16 A.v] = some (.bool (A.e != 0), [O18 q, O16 A.v]) := by
 rw [g214_1i_eq, H17_of (errc A)]
section
variable {F : MF} {l : List ByteArray} {d : Int}
theorem chunk2 (a b : Sh.V S1) : chunkP 4 ([.int .i64 a.1, .int .i64 a.2.1, .int .i64 a.2.2.1, .sl false 4 a.2.2.2.1, .int .i64 b.1, .int .i64 b.2.1, .int .i64 b.2.2.1, .sl false 4 b.2.2.2.1] : List PV) 2 = [A1 a, A1 b] := rfl
theorem chunk2_ok (a b : Sh.V S1) : (decide (2 * 4 ≤ ([.int .i64 a.1, .int .i64 a.2.1, .int .i64 a.2.2.1, .sl false 4 a.2.2.2.1, .int .i64 b.1, .int .i64 b.2.1, .int .i64 b.2.2.1, .sl false 4 b.2.2.2.1] : List PV).length) && decide (0 < 4) && ([.int .i64 a.1, .int .i64 a.2.1, .int .i64 a.2.2.1, .sl false 4 a.2.2.2.1, .int .i64 b.1, .int .i64 b.2.1, .int .i64 b.2.2.1, .sl false 4 b.2.2.2.1] : List PV).all fun p => p.one && p.flat) = true := rfl
theorem l5_round {A B : RA} {lv : Int} {x x1 : EX} {v : List PV} (h : A.ok) (h0 : 0 < lv) (h6 : lv < 6) (c : A.opIs lv = true) (hx : (opT A.pk.text).2.2 = false)
 (e : SS.CC 196 [.ptr 0 0, .int .i64 (lv + 1)] [O17 (pc d v), O16 A.next.v] = some (A1 (ev x1), [O17 (pc d v), O16 B.v])) :
 g196_L5 lv (pc d v) A.v (ev x) = bsel (lv == 3) (some (A1 (ev (bi0 (opT A.pk.text).2.1 x x1)), [O17 (pc d v), O16 B.v])) (g196_L5 lv (pc d v) B.v (ev (bi0 (opT A.pk.text).2.1 x x1))) := by
 obtain ⟨o, xc, e1, e2⟩ := opc h d v lv h0
 obtain ⟨e3, e4⟩ := e2 c
 rw [hx] at e4
 subst e3 e4
 rw [g196_L5_eq, H52_of e1]
 try dsimp only
 rw [c, Bool.not_true, bsel_false, H24_of (next h)]
 try dsimp only
 rw [wrap64 (by omega) (by omega), H15_of e]
 try dsimp only
 rw [bsel_false, chk_of (chunk2_ok (ev x) (ev x1)), chunk2, g196_J12_eq, ev2]
theorem l5_stop {A : RA} {lv : Int} {x : EX} {v : List PV} (h : A.ok) (h0 : 0 < lv) (c : A.opIs lv = false) : g196_L5 lv (pc d v) A.v (ev x) = some (A1 (ev x), [O17 (pc d v), O16 A.v]) := by
 obtain ⟨o, xc, e1, _⟩ := opc h d v lv h0
 rw [g196_L5_eq, H52_of e1]
 try dsimp only
 rw [c, Bool.not_false, bsel_true]
theorem chain {lv : Int} {ops : List Int} {L : Sh.V S18 → Sh.V S16 → Sh.V S1 → R} {fin : Fint} {RD : RDt} {n : Nat} (h0 : 0 < lv) (h6 : lv < 6) (h3 : lv ≠ 3) (ho : OpsOK lv ops) (hl : ops.length < 1000000000000)
 (hE : ∀ q0 q1 q4, L q0 q1 q4 = H54 214 [.ptr 0 0] [O18 q0, O16 q1] fun b1 u2 u11 => bsel (!b1) (H55 258 [.sl false 1 (opP ops), .func (.func 259) [] [.ptr 0 0]] [some [.ptr 1 0], O41 u2, O16 u11] fun n17 u18 u27 => bsel (decide (n17 < 0)) (fin q4 u18 u27) (H24 220 [.ptr 0 0] [O16 u27] fun u33 u38 => lgetX (opP ops) n17 fun e44 => vI .i64 e44 fun n45 => RD u18 u38 fun u46 u50 u59 => L u50 u59 (n45, 0, 0, [A1 q4, A1 u46], ()))) (fin q4 u2 u11))
 (hS : SimL F l n d (lv + 1) RD) : ∀ (m : Nat) (A : RA) (x y : EX), A.ok → A.N ≤ m → m ≤ n → (A.e = 0 → x = y) → x.Fit → ∃ A' x' y',
  g196_L5 lv (pc d (nmP l)) A.v (ev x) = some (A1 (ev x'), [O17 (pc d (nmP l)), O16 A'.v]) ∧ L (md F (nmP l) d) A.v (ev y) = fin (ev y') (md F (nmP l) d) A'.v ∧ Le A A' ∧ (A'.e = 0 → x' = y') ∧ x'.Fit := by
 intro m
 induction m using Nat.strongRecOn with
 | _ m ih =>
  intro A x y hA hm hmn hxy hfit
  cases c : A.opIs lv with
  | false =>
   refine ⟨A, x, y, l5_stop hA h0 c, ?_, .refl hA, hxy, hfit⟩
   rw [hE, H54_of (failedc _ A)]
   try dsimp only
   cases A.e != 0 with
   | true => rw [Bool.not_true, bsel_false]
   | false =>
    rw [Bool.not_false, bsel_true, H55_of (ixc hA _ ops hl), ops_no hA ho c]
    rfl
  | true =>
   obtain ⟨k4, ⟨k, k1, k2⟩, k3⟩ := ops_yes hA ho c
   have he := kind_e k4
   have hlt := next_lt hA k4
   obtain ⟨B, x1, y1, e1, e2, o1⟩ := hS A.next hA.next (by omega)
   have hB := o1.le
   obtain ⟨A', x', y', f1, f2, f3, f4⟩ := ih B.N (by omega) B (bi0 (opT A.pk.text).2.1 x x1) (bi0 (opT A.pk.text).2.1 y y1) o1.ok (Nat.le_refl _) (by omega) (fun e => by rw [o1.eq e, hxy he]) (fit2 hfit o1.fit)
   refine ⟨A', x', y', ?_, ?_, ((Le.next hA).trans o1.toLe).trans f3, f4⟩
   ·rw [l5_round hA h0 h6 c k3 e1, show (lv == 3) = false by simpa using h3, bsel_false, f1]
   ·rw [hE, H54_of (failedc _ A)]
    try dsimp only
    rw [show (A.e != 0) = false by simp [he], Bool.not_false, bsel_true, H55_of (ixc hA _ ops hl), k1]
    try dsimp only
    rw [decF (by omega), bsel_false, H24_of (next hA)]
    try dsimp only
    rw [lgetX_of (e := .int .i64 (opT A.pk.text).2.1) (by omega) (by rw [Int.toNat_natCast, List.getElem?_map, k2]; rfl), vI_mk, e2, ← f2, ev2]
theorem lvl {lv : Int} {ops : List Int} {L : Sh.V S18 → Sh.V S16 → Sh.V S1 → R} {fin : Fint} {RD : RDt} {n : Nat} (h0 : 0 < lv) (h6 : lv < 6) (h3 : lv ≠ 3) (ho : OpsOK lv ops) (hl : ops.length < 1000000000000)
 (hE : ∀ q0 q1 q4, L q0 q1 q4 = H54 214 [.ptr 0 0] [O18 q0, O16 q1] fun b1 u2 u11 => bsel (!b1) (H55 258 [.sl false 1 (opP ops), .func (.func 259) [] [.ptr 0 0]] [some [.ptr 1 0], O41 u2, O16 u11] fun n17 u18 u27 => bsel (decide (n17 < 0)) (fin q4 u18 u27) (H24 220 [.ptr 0 0] [O16 u27] fun u33 u38 => lgetX (opP ops) n17 fun e44 => vI .i64 e44 fun n45 => RD u18 u38 fun u46 u50 u59 => L u50 u59 (n45, 0, 0, [A1 q4, A1 u46], ()))) (fin q4 u2 u11))
 (hS : SimL F l n d (lv + 1) RD) (A : RA) (hA : A.ok) (hn : A.N ≤ n) : ∃ A' x y,
  SS.CC 196 [.ptr 0 0, .int .i64 lv] [O17 (pc d (nmP l)), O16 A.v] = some (A1 (ev x), [O17 (pc d (nmP l)), O16 A'.v]) ∧ (RD (md F (nmP l) d) A.v fun u a b => L a b u) = fin (ev y) (md F (nmP l) d) A'.v ∧ Out A A' x y := by
 obtain ⟨B, x1, y1, e1, e2, o1⟩ := hS A hA hn
 obtain ⟨A', x', y', f1, f2, f3, f4, f5⟩ := chain h0 h6 h3 ho hl hE hS B.N B x1 y1 o1.ok (Nat.le_refl _) (Nat.le_trans o1.le hn) o1.eq o1.fit
 refine ⟨A', x', y', ?_, ?_, ⟨o1.toLe.trans f3, f4, fun e => Nat.lt_of_le_of_lt f3.le (o1.lt (f3.e0 e)), f5⟩⟩
 ·rw [g196_eq, show (lv == 6) = false by simp; omega, bsel_false, wrap64 (by omega) (by omega), H15_of e1]
  exact f1
 ·rw [e2]; exact f2
theorem sim6 {n : Nat} (hd1 : 0 ≤ d) (hd2 : d ≤ 32) (hU : SimU F l n) : SimL F l n d 6 RD313 := by
 intro A hA hn
 obtain ⟨B, x, y, e1, e2, o⟩ := hU d hd1 hd2 A hA hn
 refine ⟨B, x, y, ?_, fun K => ?_, o⟩
 ·rw [g196_eq]
  show bsel true _ _ = _
  rw [bsel_true, H15_of e1]
 ·unfold RD313; rw [H18_of e2]
theorem sim5 {n : Nat} (h : SimL F l n d 6 RD313) : SimL F l n d 5 RD312 := by
 intro A hA hn
 obtain ⟨B, x, y, e1, e2, o⟩ := lvl (lv := 5) (L := g198_5i_L3 (opP [4])) (fin := fin18) (by decide) (by decide) (by decide) ops5 (by decide) (fun q0 q1 q4 => g198_5i_L3_eq _ q0 q1 q4) h A hA hn
 refine ⟨B, x, y, e1, fun K => ?_, o⟩
 have e3 : SS.CC 198 [.ptr 0 0, .sl false 1 [.int .i64 4], .func (.func 313) [.ptr 0 0] []] [O18 (md F (nmP l) d), O16 A.v] = some (A1 (ev y), [O18 (md F (nmP l) d), O16 B.v]) := (g198_5i_eq _ _ _).trans e2
 have e4 : SS.CC 312 [.ptr 0 0] [some [.ptr 1 0], O41 (md F (nmP l) d), O16 A.v] = some (A1 (ev y), [some [.ptr 1 0], O41 (md F (nmP l) d), O16 B.v]) := by rw [g312_eq, H18_of e3]
 unfold RD312; rw [H56_of e4]
theorem sim4 {n : Nat} (h : SimL F l n d 5 RD312) : SimL F l n d 4 RD260 := by
 intro A hA hn
 obtain ⟨B, x, y, e1, e2, o⟩ := lvl (lv := 4) (L := g198_3i_L3 (opP [2, 3])) (fin := fin41) (by decide) (by decide) (by decide) ops4 (by decide) (fun q0 q1 q4 => g198_3i_L3_eq _ q0 q1 q4) h A hA hn
 refine ⟨B, x, y, e1, fun K => ?_, o⟩
 have e3 : SS.CC 198 [.ptr 0 0, .sl false 1 [.int .i64 2, .int .i64 3], .func (.func 312) [] [.ptr 1 0]] [O41 (md F (nmP l) d), some [.ptr 0 0], O16 A.v] = some (A1 (ev y), [O41 (md F (nmP l) d), some [.ptr 0 0], O16 B.v]) := (g198_3i_eq _ _ _).trans e2
 have e4 : SS.CC 260 [.ptr 0 0] [O18 (md F (nmP l) d), O16 A.v] = some (A1 (ev y), [O18 (md F (nmP l) d), O16 B.v]) := by rw [g260_eq, H35_of e3]
 unfold RD260; rw [H18_of e4]
theorem revc (a b : Sh.V S1) : SS.CC 256 [.slh 0 0 2 4] [some [.int .i64 a.1, .int .i64 a.2.1, .int .i64 a.2.2.1, .sl false 4 a.2.2.2.1, .int .i64 b.1, .int .i64 b.2.1, .int .i64 b.2.2.1, .sl false 4 b.2.2.2.1]] = some (.tuple [], [some [.int .i64 b.1, .int .i64 b.2.1, .int .i64 b.2.2.1, .sl false 4 b.2.2.2.1, .int .i64 a.1, .int .i64 a.2.1, .int .i64 a.2.2.1, .sl false 4 a.2.2.2.1]]) := by
 rw [g256_eq, g256_L2_eq]
 refine Eq.trans (b := g256_L2 [.int .i64 b.1, .int .i64 b.2.1, .int .i64 b.2.2.1, .sl false 4 b.2.2.2.1, .int .i64 a.1, .int .i64 a.2.1, .int .i64 a.2.2.1, .sl false 4 a.2.2.2.1] 1 0) rfl ?_
 rw [g256_L2_eq]
 rfl
theorem l5_exch {A B : RA} {x x1 : EX} {v : List PV} (h : A.ok) (c : A.opIs 3 = true) (hx : (opT A.pk.text).2.2 = true)
 (e : SS.CC 196 [.ptr 0 0, .int .i64 4] [O17 (pc d v), O16 A.next.v] = some (A1 (ev x1), [O17 (pc d v), O16 B.v])) :
 g196_L5 3 (pc d v) A.v (ev x) = some (A1 (ev (bi0 (opT A.pk.text).2.1 x1 x)), [O17 (pc d v), O16 B.v]) := by
 obtain ⟨o, xc, e1, e2⟩ := opc h d v 3 (by decide)
 obtain ⟨e3, e4⟩ := e2 c
 rw [hx] at e4
 subst e3 e4
 rw [g196_L5_eq, H52_of e1]
 try dsimp only
 rw [c, Bool.not_true, bsel_false, H24_of (next h)]
 try dsimp only
 rw [wrap64 (by omega) (by omega), H15_of (show SS.CC 196 [.ptr 0 0, .int .i64 (3 + 1)] [O17 (pc d v), O16 A.next.v] = _ from e)]
 try dsimp only
 rw [bsel_true]
 refine (chk_of rfl).trans ?_
 rw [H53_of (revc (ev x) (ev x1))]
 try dsimp only
 refine (chk_of rfl).trans ((chk_of (chunk2_ok (ev x1) (ev x))).trans ?_)
 rw [chunk2, g196_J12_eq, ev2]
 rfl
theorem l4_no {B : RA} {q : Sh.V S18} {y : EX} (h : B.ok) {i : Nat} {o : Int} (hi : i < 4) (ho : ([.int .i64 6, .int .i64 7, .int .i64 9, .int .i64 8] : List PV)[i]? = some (.int .i64 o)) (c : B.is (sgn o) = false) : g200_L4 q B.v (ev y) (i : Int) = g200_L4 q B.v (ev y) ((i + 1 : Nat) : Int) := by
 rw [g200_L4_eq, decT (by omega), bsel_true, lgetX_of (e := .int .i64 o) (by omega) (by rw [Int.toNat_natCast]; exact ho), vI_mk, G2_of (sgc o), H34_of (takec h (bs (sgn o)))]
 try dsimp only
 rw [show (bs (sgn o)).data.toList = sgn o from rfl, c, bsel_false, take_no c, wrap64 (by omega) (by omega)]
 rfl
theorem l4_yes {B C : RA} {q : Sh.V S18} {y y1 : EX} (h : B.ok) {i : Nat} {o : Int} (hi : i < 4) (ho : ([.int .i64 6, .int .i64 7, .int .i64 9, .int .i64 8] : List PV)[i]? = some (.int .i64 o)) (c : B.is (sgn o) = true) (e : ∀ K, RD260 q B.next.v K = K (ev y1) q C.v) : g200_L4 q B.v (ev y) (i : Int) = some (A1 (ev (bi0 o y y1)), [O18 q, O16 C.v]) := by
 rw [g200_L4_eq, decT (by omega), bsel_true, lgetX_of (e := .int .i64 o) (by omega) (by rw [Int.toNat_natCast]; exact ho), vI_mk, G2_of (sgc o), H34_of (takec h (bs (sgn o)))]
 try dsimp only
 rw [show (bs (sgn o)).data.toList = sgn o from rfl, c, bsel_true, take_is c, ev2]
 exact e _
theorem l4_end {B : RA} {q : Sh.V S18} {y : EX} (h : B.ok) : g200_L4 q B.v (ev y) 4 = bsel (B.is [62, 61]) (RD260 q (B.take [62, 61]).v fun u38 u42 u51 => some (A1 (9, 0, 0, [A1 u38, A1 (ev y)], ()), [O18 u42, O16 u51])) (H34 197 [.ptr 0 0, .str ⟨#[62]⟩] [O16 (B.take [62, 61]).v] fun b57 u58 => bsel b57 (RD260 q u58 fun u64 u68 u77 => some (A1 (8, 0, 0, [A1 u64, A1 (ev y)], ()), [O18 u68, O16 u77])) (some (A1 (ev y), [O18 q, O16 u58]))) := by
 rw [g200_L4_eq, decF (by omega), bsel_false, H34_of (takec h _)]
 rfl
theorem lev3 : ∀ t, t ∈ symsL → (opT t).1 = 3 → t = [61, 61] ∨ t = [33, 61] ∨ t = [60, 61] ∨ t = [60] ∨ t = [62, 61] ∨ t = [62] := by decide
theorem sim3 {n : Nat} (h : SimL F l n d 4 RD260) : SimL F l n d 3 RD200 := by
 intro A hA hn
 obtain ⟨B, x, y, e1, e2, o1⟩ := h A hA hn
 have hB := o1.ok
 have hc : ∀ r, g196_L5 3 (pc d (nmP l)) B.v (ev x) = r → SS.CC 196 [.ptr 0 0, .int .i64 3] [O17 (pc d (nmP l)), O16 A.v] = r := fun r hr => by
  rw [g196_eq]
  show bsel false _ (H15 196 [.ptr 0 0, .int .i64 (IntKind.i64.wrap (3 + 1))] _ _) = _
  rw [bsel_false, wrap64 (by decide) (by decide), H15_of (show SS.CC 196 [.ptr 0 0, .int .i64 (3 + 1)] [O17 (pc d (nmP l)), O16 A.v] = _ from e1)]
  exact hr
 have hm : ∀ {C : RA} {z : EX}, g200_L4 (md F (nmP l) d) B.v (ev y) 0 = some (A1 (ev z), [O18 (md F (nmP l) d), O16 C.v]) → ∀ K, RD200 (md F (nmP l) d) A.v K = K (ev z) (md F (nmP l) d) C.v := fun {C z} hr K => by
  have : SS.CC 200 [.ptr 0 0] [O18 (md F (nmP l) d), O16 A.v] = some (A1 (ev z), [O18 (md F (nmP l) d), O16 C.v]) := by rw [g200_eq]; exact (e2 _).trans hr
  unfold RD200; rw [H18_of this]
 cases c : B.opIs 3 with
 | false =>
  have no : ∀ s, s ∈ symsL → (opT s).1 = 3 → B.is s = false := fun s hs h3 => by
   cases ci : B.is s with
   | false => rfl
   | true =>
    obtain ⟨k1, k2⟩ := is_sk hB hs ci
    unfold RA.opIs at c
    rw [k1, k2, h3] at c
    cases c
  refine ⟨B, x, y, hc _ (l5_stop hB (by decide) c), hm ?_, o1⟩
  rw [show (0 : Int) = ((0 : Nat) : Int) from rfl, l4_no hB (i := 0) (o := 6) (by decide) rfl (no _ (by decide) rfl), l4_no hB (i := 1) (o := 7) (by decide) rfl (no _ (by decide) rfl), l4_no hB (i := 2) (o := 9) (by decide) rfl (no _ (by decide) rfl), l4_no hB (i := 3) (o := 8) (by decide) rfl (no _ (by decide) rfl),
   show ((3 + 1 : Nat) : Int) = 4 from rfl, l4_end hB, no [62, 61] (by decide) rfl, bsel_false, take_no (no [62, 61] (by decide) rfl), H34_of (takec hB _)]
  try dsimp only
  rw [no [62] (by decide) rfl, bsel_false, take_no (no [62] (by decide) rfl)]
 | true =>
  have c' := c
  unfold RA.opIs at c'
  rw [Bool.and_eq_true] at c'
  have h3 : B.pk.kind = 3 := by simpa using c'.1
  have hlt := next_lt hB (show B.pk.kind ≠ 4 by omega)
  have hle := o1.le
  obtain ⟨C, x1, y1, f1, f2, o2⟩ := h B.next hB.next (by omega)
  have he : B.e = 0 := kind_e (by omega)
  have hle2 := o2.le
  have hlt0 := o1.lt he
  have isE : ∀ s, s ∈ symsL → B.is s = (B.pk.text == s) := fun s hs => by rw [is_sym hB hs, h3]; rfl
  have hout : ∀ {u w : EX}, (C.e = 0 → u = w) → u.Fit → Out A C u w := fun hu hf => ⟨(o1.toLe.trans (Le.next hB)).trans o2.toLe, hu, fun _ => by omega, hf⟩
  have hxy : C.e = 0 → x = y ∧ x1 = y1 := fun e => ⟨o1.eq he, o2.eq e⟩
  rcases lev3 _ (pk_sym hB h3) (by simpa using c'.2) with ht | ht | ht | ht | ht | ht
  ·have hr := l5_round (x := x) hB (by decide) (by decide) c (by rw [ht]; rfl) f1
   rw [ht] at hr
   refine ⟨C, bi0 6 x x1, bi0 6 y y1, hc _ hr, hm ?_, hout (fun e => by rw [(hxy e).1, (hxy e).2]) (fit2 o1.fit o2.fit)⟩
   exact l4_yes hB (i := 0) (by decide) rfl (by rw [isE _ (sgn_sym _), ht]; rfl) f2
  ·have hr := l5_round (x := x) hB (by decide) (by decide) c (by rw [ht]; rfl) f1
   rw [ht] at hr
   refine ⟨C, bi0 7 x x1, bi0 7 y y1, hc _ hr, hm ?_, hout (fun e => by rw [(hxy e).1, (hxy e).2]) (fit2 o1.fit o2.fit)⟩
   rw [show (0 : Int) = ((0 : Nat) : Int) from rfl, l4_no hB (i := 0) (o := 6) (by decide) rfl (by rw [isE _ (sgn_sym _), ht]; rfl)]
   exact l4_yes hB (i := 1) (by decide) rfl (by rw [isE _ (sgn_sym _), ht]; rfl) f2
  ·have hr := l5_round (x := x) hB (by decide) (by decide) c (by rw [ht]; rfl) f1
   rw [ht] at hr
   refine ⟨C, bi0 9 x x1, bi0 9 y y1, hc _ hr, hm ?_, hout (fun e => by rw [(hxy e).1, (hxy e).2]) (fit2 o1.fit o2.fit)⟩
   rw [show (0 : Int) = ((0 : Nat) : Int) from rfl, l4_no hB (i := 0) (o := 6) (by decide) rfl (by rw [isE _ (sgn_sym _), ht]; rfl), l4_no hB (i := 1) (o := 7) (by decide) rfl (by rw [isE _ (sgn_sym _), ht]; rfl)]
   exact l4_yes hB (i := 2) (by decide) rfl (by rw [isE _ (sgn_sym _), ht]; rfl) f2
  ·have hr := l5_round (x := x) hB (by decide) (by decide) c (by rw [ht]; rfl) f1
   rw [ht] at hr
   refine ⟨C, bi0 8 x x1, bi0 8 y y1, hc _ hr, hm ?_, hout (fun e => by rw [(hxy e).1, (hxy e).2]) (fit2 o1.fit o2.fit)⟩
   rw [show (0 : Int) = ((0 : Nat) : Int) from rfl, l4_no hB (i := 0) (o := 6) (by decide) rfl (by rw [isE _ (sgn_sym _), ht]; rfl), l4_no hB (i := 1) (o := 7) (by decide) rfl (by rw [isE _ (sgn_sym _), ht]; rfl), l4_no hB (i := 2) (o := 9) (by decide) rfl (by rw [isE _ (sgn_sym _), ht]; rfl)]
   exact l4_yes hB (i := 3) (by decide) rfl (by rw [isE _ (sgn_sym _), ht]; rfl) f2
  ·have hr := l5_exch (x := x) hB c (by rw [ht]; rfl) f1
   rw [ht] at hr
   refine ⟨C, bi0 9 x1 x, bi0 9 y1 y, hc _ hr, hm ?_, hout (fun e => by rw [(hxy e).1, (hxy e).2]) (fit2 o2.fit o1.fit)⟩
   have ci : B.is [62, 61] = true := by rw [isE _ (by decide), ht]; rfl
   rw [show (0 : Int) = ((0 : Nat) : Int) from rfl, l4_no hB (i := 0) (o := 6) (by decide) rfl (by rw [isE _ (sgn_sym _), ht]; rfl), l4_no hB (i := 1) (o := 7) (by decide) rfl (by rw [isE _ (sgn_sym _), ht]; rfl), l4_no hB (i := 2) (o := 9) (by decide) rfl (by rw [isE _ (sgn_sym _), ht]; rfl), l4_no hB (i := 3) (o := 8) (by decide) rfl (by rw [isE _ (sgn_sym _), ht]; rfl),
    show ((3 + 1 : Nat) : Int) = 4 from rfl, l4_end hB, ci, bsel_true, take_is ci, f2, ev2]
  ·have hr := l5_exch (x := x) hB c (by rw [ht]; rfl) f1
   rw [ht] at hr
   refine ⟨C, bi0 8 x1 x, bi0 8 y1 y, hc _ hr, hm ?_, hout (fun e => by rw [(hxy e).1, (hxy e).2]) (fit2 o2.fit o1.fit)⟩
   have ci : B.is [62, 61] = false := by rw [isE _ (by decide), ht]; rfl
   have cj : B.is [62] = true := by rw [isE _ (by decide), ht]; rfl
   rw [show (0 : Int) = ((0 : Nat) : Int) from rfl, l4_no hB (i := 0) (o := 6) (by decide) rfl (by rw [isE _ (sgn_sym _), ht]; rfl), l4_no hB (i := 1) (o := 7) (by decide) rfl (by rw [isE _ (sgn_sym _), ht]; rfl), l4_no hB (i := 2) (o := 9) (by decide) rfl (by rw [isE _ (sgn_sym _), ht]; rfl), l4_no hB (i := 3) (o := 8) (by decide) rfl (by rw [isE _ (sgn_sym _), ht]; rfl),
    show ((3 + 1 : Nat) : Int) = 4 from rfl, l4_end hB, ci, bsel_false, take_no ci, H34_of (takec hB _)]
   try dsimp only
   rw [cj, bsel_true, take_is cj, f2, ev2]
theorem sim2 {n : Nat} (h : SimL F l n d 3 RD200) : SimL F l n d 2 RD199 := by
 intro A hA hn
 obtain ⟨B, x, y, e1, e2, o⟩ := lvl (lv := 2) (L := g198_1i_L3 (opP [11])) (fin := fin18) (by decide) (by decide) (by decide) ops2 (by decide) (fun q0 q1 q4 => g198_1i_L3_eq _ q0 q1 q4) h A hA hn
 refine ⟨B, x, y, e1, fun K => ?_, o⟩
 have e3 : SS.CC 198 [.ptr 0 0, .sl false 1 [.int .i64 11], .func (.func 200) [.ptr 0 0] []] [O18 (md F (nmP l) d), O16 A.v] = some (A1 (ev y), [O18 (md F (nmP l) d), O16 B.v]) := (g198_1i_eq _ _ _).trans e2
 have e4 : SS.CC 199 [.ptr 0 0] [some [.ptr 1 0], O41 (md F (nmP l) d), O16 A.v] = some (A1 (ev y), [some [.ptr 1 0], O41 (md F (nmP l) d), O16 B.v]) := by rw [g199_eq, H18_of e3]
 unfold RD199; rw [H56_of e4]
theorem sim1 {n : Nat} (h : SimL F l n d 2 RD199) (A : RA) (hA : A.ok) (hn : A.N ≤ n) : ∃ A' x y,
 SS.CC 196 [.ptr 0 0, .int .i64 1] [O17 (pc d (nmP l)), O16 A.v] = some (A1 (ev x), [O17 (pc d (nmP l)), O16 A'.v]) ∧
 SS.CC 198 [.ptr 0 0, .sl false 1 [.int .i64 12], .func (.func 199) [] [.ptr 1 0]] [O41 (md F (nmP l) d), some [.ptr 0 0], O16 A.v] = some (A1 (ev y), [O41 (md F (nmP l) d), some [.ptr 0 0], O16 A'.v]) ∧ Out A A' x y := by
 obtain ⟨B, x, y, e1, e2, o⟩ := lvl (lv := 1) (L := g198_L3 (opP [12])) (fin := fin41) (by decide) (by decide) (by decide) ops1 (by decide) (fun q0 q1 q4 => g198_L3_eq _ q0 q1 q4) h A hA hn
 exact ⟨B, x, y, e1, (g198_eq _ _ _).trans e2, o⟩
theorem simX {n : Nat} (hU : SimU F l n) (ih : ∀ m, m < n → SimX F l m) : SimX F l n := by
 intro d h1 h2 A hA hn
 obtain ⟨B, x, y, e1, e2, o1⟩ := sim1 (sim2 (sim3 (sim4 (sim5 (sim6 h1 h2 hU))))) A hA hn
 have hB := o1.ok
 cases c : B.is [63] with
 | false =>
  refine ⟨B, x, y, ?_, ?_, o1⟩
  ·rw [g102_eq, H15_of e1]
   try dsimp only
   rw [H34_of (tk63 hB)]
   try dsimp only
   rw [c, Bool.not_false, bsel_true, take_no c]
  ·rw [g105_eq, H35_of e2]
   try dsimp only
   rw [H34_of (tk63 hB)]
   try dsimp only
   rw [c, Bool.not_false, bsel_true, take_no c]
 | true =>
  have hlt := next_lt hB (is_kind c)
  have hle := o1.le
  obtain ⟨C, x2, y2, f1, f2, o2⟩ := ih B.next.N (by omega) d h1 h2 B.next hB.next (Nat.le_refl _)
  have hE := Le.exp o2.ok [58]
  have hle2 := o2.le
  have hle3 := hE.le
  obtain ⟨D, x3, y3, k1, k2, o3⟩ := ih (C.exp [58]).N (by omega) d h1 h2 (C.exp [58]) hE.ok (Nat.le_refl _)
  have hle4 := o3.le
  refine ⟨D, .node 13 0 0 [x, x2, x3], .node 13 0 0 [y, y2, y3], ?_, ?_, ⟨(((o1.toLe.trans (Le.next hB)).trans o2.toLe).trans hE).trans o3.toLe, fun e => ?_, fun e => by omega, fit3 o1.fit o2.fit o3.fit⟩⟩
  ·rw [g102_eq, H15_of e1]
   try dsimp only
   rw [H34_of (tk63 hB)]
   try dsimp only
   rw [c, Bool.not_true, bsel_false, take_is c, H15_of f1]
   try dsimp only
   rw [H16_of (ex58 o2.ok)]
   try dsimp only
   rw [H15_of k1, ev3]
  ·rw [g105_eq, H35_of e2]
   try dsimp only
   rw [H34_of (tk63 hB)]
   try dsimp only
   rw [c, Bool.not_true, bsel_false, take_is c, H18_of f2]
   try dsimp only
   rw [H16_of (ex58 o2.ok)]
   try dsimp only
   rw [H18_of k2, ev3]
  ·have ec := hE.e0 (o3.e0 e)
   rw [o3.eq e, o2.eq ec, o1.eq (kind_e (is_kind c))]
end
theorem simAll {F : MF} {l : List ByteArray} (hl : l.length < 1000000000000) : ∀ n, SimU F l n ∧ SimX F l n := by
 intro n
 induction n using Nat.strongRecOn with
 | _ n ih =>
  have hU := simU hl (fun m hm => (ih m hm).1) (fun m hm => (ih m hm).2)
  exact ⟨hU, simX hU fun m hm => (ih m hm).2⟩
end Go.Proofs.YtcdceiloganlnaaGreatDoor.W

/- A part of the proof. -/
import Derived.Test.YtcdceiloganlnaaGreatDoorPf5
import Derived.Test.YtcdceiloganlnaaGreatDoorPf6
import Derived.Test.YtcdceiloganlnaaGreatDoorPf4
set_option linter.unusedVariables false
set_option linter.unusedSimpArgs false
set_option linter.unnecessarySimpa false
set_option linter.unusedSectionVars false
noncomputable section
open Go.IntKind (i64)
namespace Go.Proofs.YtcdceiloganlnaaGreatDoor.W
open Go.RowKit
set_option maxRecDepth 1000000
theorem bGU {s:bTB} {T:List Tok} (h:uC s = .ok T):Zz s=mk0 T:=by unfold Zz; rw[h]; rfl
theorem known:SS.CC 12 [] []=some (.bool true,[]):=k52
theorem aKT {s:bTB}:∀ (l:List (bTB)) (k:Nat),(0<=qB (bs s) (qw l) k↔s∈l)
 | [],k=>by
  constructor
  .intro h;have:(0:Int) <= -1:=h;omega
  .intro h; cases h
 | a::l,k=>by
  show 0<=(if bs s=bs a then (k:Int) else qB (bs s) (qw l) (k+1))↔_;by_cases h:bs s=bs a
  .rw[aS h];exact ⟨fun _=>by rw[aEB h]; simp,fun _=>by omega⟩
  .rw[aQ h,aKT l (k+1),jV];exact ⟨fun hm => .inr hm,fun hm=>hm.resolve_left fun e=>h (by rw[e])⟩
theorem a1Y {g:FuncId} {a:bTA} {l1:bTA} {K:RS.F (.tl true 3) R} (e:SS.CC g a []=some (.sl true 3 l1,[])):WT g a K=K l1:=rZ e rfl
theorem aTW {g:FuncId} {a:bTA} {h:aG} {y1:Sh.V gY} {y2:Sh.V mD} {K:RS.F (.t []) (di [.c gY,.z kV,.c mD])} (e:SS.CC g a h=some (.tuple [],[aF y1,some [bT8],xh y2])):H28 g a h K=K () y1 y2:=fP e rfl
theorem aTX {g:FuncId} {a:bTA} {h:aG} {y1:Sh.V gY} {y2:Sh.V kz} {K:RS.F (.t []) (di [.c gY,.z kV,.c kz])} (e:SS.CC g a h=some (.tuple [],[aF y1,some [bT8],xk y2])):H29 g a h K=K () y1 y2:=fP e rfl
theorem Qi {g:FuncId} {a:bTA} {h:aG} {y1:Sh.V Am} {y2:Sh.V NK} {K:RS.F (.t []) (di [.c Am,.c NK])} (e:SS.CC g a h=some (.tuple [],[mV y1,Aj y2])):Md g a h K=K () y1 y2:=fP e rfl
theorem aTY {g:FuncId} {a:bTA} {h:aG} {s1:bT9} {y2:Sh.V Qs} {K:RS.F (.ts) (di [.c Qs])} (e:SS.CC g a h=some (.str s1,[some (mkS Qs y2)])):H31 g a h K=K s1 y2:=fP e rfl
theorem aCV {g:FuncId} {a:bTA} {h:aG} {n1:Int} {y2:Sh.V uK} {K:RS.F (.t [(false,[.I .i64]),(false,[.ni])]) (di [.c uK])} (e:SS.CC g a h=some (.tuple [bT6 n1,.raw .nilIface],[oO y2])):H32 g a h K=K ((n1,()),(),()) y2:=fP e rfl
theorem aCW {g:FuncId} {a:bTA} {h:aG} {y1:Sh.V uK} {K:RS.F (.z (.ni)) (di [.c uK])} (e:SS.CC g a h=some (.raw .nilIface,[oO y1])):H33 g a h K=K y1:=fP e rfl
theorem aCX {g:FuncId} {a:bTA} {h:aG} {b1:Bool} {y2:Sh.V S7} {K:RS.F (.tb) (di [.c S7])} (e:SS.CC g a h=some (.bool b1,[O7 y2])):H44 g a h K=K b1 y2:=fP e rfl
theorem aTZ {g:FuncId} {a:bTA} {h:aG} {y1:Sh.V gY} {y2:Sh.V vC} {y3:Sh.V S9} {K:RS.F (.t []) (di [.c gY,.z kV,.c vC,.c S9])} (e:SS.CC g a h=some (.tuple [],[aF y1,some [bT8],ig y2,O9 y3])):H45 g a h K=K () y1 y2 y3:=fP e rfl
theorem aT' {g:FuncId} {a:bTA} {h:aG} {y1:Sh.V gY} {K:RS.F (.t []) (di [.c gY,.z kV])} (e:SS.CC g a h=some (.tuple [],[aF y1,some [bT8]])):H46 g a h K=K () y1:=fP e rfl
theorem aCY {g:FuncId} {a:bTA} {h:aG} {y1:Sh.V mD} {y2:Sh.V gY} {K:RS.F (.t []) (di [.z lV,.c mD,.c gY])} (e:SS.CC g a h=some (.tuple [],[some [.ptr 2 0],xh y1,aF y2])):H47 g a h K=K () y1 y2:=fP e rfl
theorem aCZ {g:FuncId} {a:bTA} {h:aG} {y1:Sh.V kz} {y2:Sh.V gY} {K:RS.F (.t []) (di [.z lV,.c kz,.c gY])} (e:SS.CC g a h=some (.tuple [],[some [.ptr 2 0],xk y1,aF y2])):H48 g a h K=K () y1 y2:=fP e rfl
theorem aC' {g:FuncId} {a:bTA} {h:aG} {y1:Sh.V uK} {K:RS.F (.t []) (di [.c uK])} (e:SS.CC g a h=some (.tuple [],[oO y1])):H51 g a h K=K () y1:=fP e rfl
theorem aU1 {g:FuncId} {a:bTA} {h:aG} {n1:Int} {y2:Sh.V S7} {K:RS.F (.ti .i64) (di [.c S7])} (e:SS.CC g a h=some (bT6 n1,[O7 y2])):H63 g a h K=K n1 y2:=fP e rfl
theorem aD0 {g:FuncId} {a:bTA} {h:aG} {y1:Sh.V vC} {y2:Sh.V S9} {y3:Sh.V gY} {K:RS.F (.t []) (di [.z jS,.c vC,.c S9,.c gY])} (e:SS.CC g a h=some (.tuple [],[some [.ptr 3 0],ig y1,O9 y2,aF y3])):H64 g a h K=K () y1 y2 y3:=fP e rfl
section
theorem b2D (a0:Sh.V S0):SS.CC 18 [A0 a0] []=WT 45 [.sl false 3 a0.2.2.2.1] fun l1=>chk (decide (l1.length+a0.2.2.2.2.1.length<=bC)) (G4 59 [.sl false 3 (l1 ++ a0.2.2.2.2.1),.func (.func 60) [] []] fun l3=>G4 61 [.sl false 9 a0.2.2.1,.func (.func 62) [] []] fun l5=>G4 63 [.sl false 2 a0.2.2.2.2.2.1,.func (.func 64) [] []] fun l7=>G4 65 [.sl false 3 a0.2.2.2.2.2.2.1,.func (.func 66) [] []] fun l9=>G1 67 [bT7 [.func (.func 68) [] [.cst (A0 a0)],.func (.func 70) [] [.cst (A0 a0)],.func (.func 71) [] [.cst (A0 a0)],.func (.func 72) [] [.cst (A0 a0),.cst (bT7 l5)],.func (.func 79) [] [.cst (.sl false 3 (l1 ++ a0.2.2.2.2.1)),.cst (bT7 l3)],.func (.func 85) [] [.cst (A0 a0),.cst (bT7 l7)],.func (.func 93) [] [.cst (A0 a0),.cst (bT7 l9)]]] fun n11=>some (bT6 n11,[])):=cc
theorem b8R (a0:bTA):SS.CC 43 [bT7 a0,.func (.func 192) [] []] []=G1 158 [bT7 a0,.func (.func 192) [] []] fun n1=>some (.bool (decide (0<=n1)),[]):=cc
theorem b8S (a0:bTA):SS.CC 45 [.sl false 3 a0] []=IE a0 fun b1=>aA (b1==true) (some (.sl true 3 [],[])) (chk (decide (0+a0.length<=bC)) (some (.sl true 3 a0,[]))):=cc
def b8T:KT:=SS.rK Tryz.f46 46 0 []
def b8U:KT:=SS.jK 46 51 0 (cS Tryz.f46 31) b8T
def b8V:KT:=bI 0 b8U
def TE (x10:bTA) (x12:Int) (aJ:bTA):R:=SS.LL (SS.ae 46 51) 0 [3,10,11,12] 1 (cS Tryz.f46 151) b8V ⟨[(3,.cO 0 0),(10,.sl false 5 x10),(11,bT6 (x10.length:Int)),(12,bT6 x12)],[O33 (aJ,())]⟩
theorem aJ6 (x10:bTA) (x12:Int) (aJ:bTA):TE x10 x12 aJ=aA (decide (x12<(x10.length:Int))) (bf S4 x10 x12 fun u2=>G3 26 [.str u2.1] fun b7=>aA (!b7) (some (bT6 7,[])) ((fun w=>IA none aJ (.str u2.1) (fun e9=>vB e9 fun b10=>aA b10 (some (bT6 8,[])) w) w) (aA (decide (u2.2.2.2.2.1<0)) (some (bT6 2,[])) (aA (decide (4<u2.2.2.2.2.1)) (some (bT6 2,[])) (aA (u2.2.2.2.2.1 != 0) (aA u2.2.1 (some (bT6 13,[])) (aA u2.2.2.1 (some (bT6 13,[])) (chk (qo none aJ (.str u2.1)&&true) (TE x10 (i64.wrap (x12+1)) (jW none aJ (.str u2.1) (.bool true)))))) (chk (qo none aJ (.str u2.1)&&true) (TE x10 (i64.wrap (x12+1)) (jW none aJ (.str u2.1) (.bool true))))))))) (some (bT6 0,[])):=ll
theorem b8W (a0:bTA):SS.CC 46 [.sl false 5 a0] []=aA (decide (32<(a0.length:Int))) (some (bT6 3,[])) (TE a0 0 []):=cc
def b9Q:KT:=SS.rK Tryz.f59 59 0 []
def b9R:KT:=SS.jK 59 22 0 (cS Tryz.f59 15) b9Q
def b9S:KT:=bI 0 b9R
def Yp (x8:bTA) (x5:bTA) (x10:Int):R:=SS.LL (SS.ae 59 22) 0 [1,5,8,9,10] 0 (cS Tryz.f59 75) b9S ⟨[(1,.func (.func 60) [] []),(5,.sl true 1 x5),(8,.sl false 3 x8),(9,bT6 (x8.length:Int)),(10,bT6 x10)],[]⟩
theorem aJH (x8:bTA) (x5:bTA) (x10:Int):Yp x8 x5 x10=aA (decide (x10<(x8.length:Int))) (bf S8 x8 x10 fun u2=>G2 60 [A8 u2] fun s5=>chk (decide (x5.length+1<=bC)) (Yp x8 (x5 ++ ([.str s5]:bTA)) (i64.wrap (x10+1)))) (some (bT7 x5,[])):=ll
theorem b9T (a0:bTA):SS.CC 59 [.sl false 3 a0,.func (.func 60) [] []] []=Yp a0 [] 0:=cc
theorem b9U (a0:Sh.V S8):SS.CC 60 [A8 a0] []=some (.str a0.1,[]):=cc
def b9Z:KT:=SS.rK Tryz.f61 61 0 []
def b9':KT:=SS.jK 61 22 0 (cS Tryz.f61 15) b9Z
def bA0:KT:=bI 0 b9'
def Yr (x8:bTA) (x5:bTA) (x10:Int):R:=SS.LL (SS.ae 61 22) 0 [1,5,8,9,10] 0 (cS Tryz.f61 75) bA0 ⟨[(1,.func (.func 62) [] []),(5,.sl true 1 x5),(8,.sl false 9 x8),(9,bT6 (x8.length:Int)),(10,bT6 x10)],[]⟩
theorem aJJ (x8:bTA) (x5:bTA) (x10:Int):Yr x8 x5 x10=aA (decide (x10<(x8.length:Int))) (bf S5 x8 x10 fun u2=>G2 62 [A5 u2] fun s11=>chk (decide (x5.length+1<=bC)) (Yr x8 (x5 ++ ([.str s11]:bTA)) (i64.wrap (x10+1)))) (some (bT7 x5,[])):=ll
theorem bA1 (a0:bTA):SS.CC 61 [.sl false 9 a0,.func (.func 62) [] []] []=Yr a0 [] 0:=cc
theorem bA2 (a0:Sh.V S5):SS.CC 62 [A5 a0] []=some (.str a0.1,[]):=cc
def bA7:KT:=SS.rK Tryz.f63 63 0 []
def bA8:KT:=SS.jK 63 22 0 (cS Tryz.f63 15) bA7
def bA9:KT:=bI 0 bA8
def Yu (x8:bTA) (x5:bTA) (x10:Int):R:=SS.LL (SS.ae 63 22) 0 [1,5,8,9,10] 0 (cS Tryz.f63 75) bA9 ⟨[(1,.func (.func 64) [] []),(5,.sl true 1 x5),(8,.sl false 2 x8),(9,bT6 (x8.length:Int)),(10,bT6 x10)],[]⟩
theorem aJL (x8:bTA) (x5:bTA) (x10:Int):Yu x8 x5 x10=aA (decide (x10<(x8.length:Int))) (bf mD x8 x10 fun u2=>G2 64 [GZ u2] fun s4=>chk (decide (x5.length+1<=bC)) (Yu x8 (x5 ++ ([.str s4]:bTA)) (i64.wrap (x10+1)))) (some (bT7 x5,[])):=ll
theorem bAA (a0:bTA):SS.CC 63 [.sl false 2 a0,.func (.func 64) [] []] []=Yu a0 [] 0:=cc
theorem bAB (a0:Sh.V mD):SS.CC 64 [GZ a0] []=some (.str a0.1,[]):=cc
def bAG:KT:=SS.rK Tryz.f65 65 0 []
def bAH:KT:=SS.jK 65 22 0 (cS Tryz.f65 15) bAG
def bAI:KT:=bI 0 bAH
def Yw (x8:bTA) (x5:bTA) (x10:Int):R:=SS.LL (SS.ae 65 22) 0 [1,5,8,9,10] 0 (cS Tryz.f65 75) bAI ⟨[(1,.func (.func 66) [] []),(5,.sl true 1 x5),(8,.sl false 3 x8),(9,bT6 (x8.length:Int)),(10,bT6 x10)],[]⟩
theorem aJN (x8:bTA) (x5:bTA) (x10:Int):Yw x8 x5 x10=aA (decide (x10<(x8.length:Int))) (bf kz x8 x10 fun u2=>G2 66 [zh u2] fun s5=>chk (decide (x5.length+1<=bC)) (Yw x8 (x5 ++ ([.str s5]:bTA)) (i64.wrap (x10+1)))) (some (bT7 x5,[])):=ll
theorem bAJ (a0:bTA):SS.CC 65 [.sl false 3 a0,.func (.func 66) [] []] []=Yw a0 [] 0:=cc
theorem bAK (a0:Sh.V kz):SS.CC 66 [zh a0] []=some (.str a0.1,[]):=cc
def bAL:KT:=SS.rK Tryz.f67 67 0 []
def bAM:KT:=SS.jK 67 18 0 (cS Tryz.f67 7) bAL
def bAN:KT:=bI 0 bAM
def Yx (x6:bTA) (x8:Int):R:=SS.LL (SS.ae 67 18) 0 [6,7,8] 0 (cS Tryz.f67 37) bAN ⟨[(6,bT7 x6),(7,bT6 (x6.length:Int)),(8,bT6 x8)],[]⟩
theorem aJO (x6:bTA) (x8:Int):Yx x6 x8=aA (decide (x8<(x6.length:Int))) (eH x6 x8 fun e1=>chk (decide (e1.isAgg=false)&&decide (e1.size=1)) (Nw (PV.un (PV.un (PV.un e1))) fun g2 f3 c4=>chk (PV.flats (f3 ++ [] ++ c4)) (jJ SS.CC g2 (f3 ++ [] ++ c4) fun r5=>vI .i64 r5 fun n6=>aA (n6 != 0) (some (bT6 n6,[])) (Yx x6 (i64.wrap (x8+1)))))) (some (bT6 0,[])):=ll
theorem bAO (a0:bTA):SS.CC 67 [bT7 a0] []=Yx a0 0:=cc
theorem bAP (a0:Sh.V S0):SS.CC 68 [.cst (A0 a0)] []=G3 26 [.str a0.1] fun b1=>G1 69 [.bool (!b1),bT6 7] fun n3=>some (bT6 n3,[]):=cc
theorem bAQ (a0:Bool) (a1:Int):SS.CC 69 [.bool a0,bT6 a1] []=aA a0 (some (bT6 a1,[])) (some (bT6 0,[])):=cc
theorem bAR (a0:Sh.V S0):SS.CC 70 [.cst (A0 a0)] []=G1 46 [.sl false 5 a0.2.1] fun n1=>some (bT6 n1,[]):=cc
theorem bAS (a0:Sh.V S0):SS.CC 71 [.cst (A0 a0)] []=aA (decide (16<(a0.2.2.1.length:Int))) (G1 69 [.bool true,bT6 3] fun n1=>some (bT6 n1,[])) (G1 69 [.bool (decide (32<((fun w=>if (a0.2.2.2.2.2.2.1.length:Int)>(if (a0.2.2.2.2.2.1.length:Int)>w then (a0.2.2.2.2.2.1.length:Int) else w) then (a0.2.2.2.2.2.2.1.length:Int) else (if (a0.2.2.2.2.2.1.length:Int)>w then (a0.2.2.2.2.2.1.length:Int) else w)) (if (a0.2.2.2.2.1.length:Int)>(a0.2.2.2.1.length:Int) then (a0.2.2.2.2.1.length:Int) else (a0.2.2.2.1.length:Int))))),bT6 3] fun n3=>some (bT6 n3,[])):=cc
theorem bAT (a0:Sh.V S0) (a1:bTA):SS.CC 72 [.cst (A0 a0),.cst (bT7 a1)] []=G1 73 [.sl false 9 a0.2.2.1,.func (.func 74) [] [.cst (bT7 a1),.cst (A0 a0)]] fun n1=>some (bT6 n1,[]):=cc
def bAU:KT:=SS.rK Tryz.f73 73 0 []
def bAV:KT:=SS.jK 73 19 0 (cS Tryz.f73 7) bAU
def bAW:KT:=bI 0 bAV
def Yy (x1:bTA) (lL:bT9) (pM:bTA) (pO:bTA) (pR:bTA) (pU:bTA) (pV:bTA) (pW:bTA) (x8:Int) (x9:Int):R:=SS.LL (SS.ae 73 19) 0 [1,8,9] 0 (cS Tryz.f73 37) bAW ⟨[(1,.func (.func 74) [] [.cst (bT7 x1),.cst (A0 (lL,pM,pO,pR,pU,pV,pW,()))]),(8,bT6 x8),(9,bT6 x9)],[]⟩
theorem aJP (x1:bTA) (lL:bT9) (pM:bTA) (pO:bTA) (pR:bTA) (pU:bTA) (pV:bTA) (pW:bTA) (x8:Int) (x9:Int):Yy x1 lL pM pO pR pU pV pW x8 x9=aA (decide (x9<x8)) (G1 74 [bT6 x9,.cst (bT7 x1),.cst (A0 (lL,pM,pO,pR,pU,pV,pW,()))] fun n1=>aA (n1 != 0) (some (bT6 n1,[])) (Yy x1 lL pM pO pR pU pV pW x8 (i64.wrap (x9+1)))) (some (bT6 0,[])):=ll
theorem bAX (a0:bTA) (a1:bTA) (xm:bT9) (Ap:bTA) (Aq:bTA) (Ar:bTA) (Au:bTA) (Aw:bTA) (Az:bTA):SS.CC 73 [.sl false 9 a0,.func (.func 74) [] [.cst (bT7 a1),.cst (A0 (xm,Ap,Aq,Ar,Au,Aw,Az,()))]] []=Yy a1 xm Ap Aq Ar Au Aw Az (a0.length:Int) 0:=cc
theorem bAY (a0:Int) (a1:bTA) (a2:Sh.V S0):SS.CC 74 [bT6 a0,.cst (bT7 a1),.cst (A0 a2)] []=G1 67 [bT7 [.func (.func 75) [] [.cst (bT7 a1),.cst (bT6 a0)],.func (.func 77) [] [.cst (A0 a2),.cst (bT6 a0)]]] fun n1=>some (bT6 n1,[]):=cc
theorem bAZ (a0:bTA) (a1:Int):SS.CC 75 [.cst (bT7 a0),.cst (bT6 a1)] []=chk (decide (0<=(i64.wrap (a1+1)))&&decide ((i64.wrap (a1+1))<=(a0.length:Int))) (G1 76 [bT7 (a0.take (i64.wrap (a1+1)).toNat)] fun n1=>some (bT6 n1,[])):=cc
theorem bA' (a0:bTA):SS.CC 76 [bT7 a0] []=eH a0 (i64.wrap ((a0.length:Int)-1)) fun e1=>vS e1 fun s2=>G3 26 [.str s2] fun b3=>aA (!b3) (some (bT6 7,[])) (chk (decide (0<=(i64.wrap ((a0.length:Int)-1)))&&decide ((i64.wrap ((a0.length:Int)-1))<=(a0.length:Int))) (G3 25 [bT7 (a0.take (i64.wrap ((a0.length:Int)-1)).toNat),.str s2] fun b5=>G1 69 [.bool b5,bT6 8] fun n7=>some (bT6 n7,[]))):=cc
theorem bB0 (a0:Sh.V S0) (a1:Int):SS.CC 77 [.cst (A0 a0),.cst (bT6 a1)] []=bf S5 a0.2.2.1 a1 fun u2=>G1 78 [A5 u2] fun n11=>some (bT6 n11,[]):=cc
theorem bB3 (a0:Sh.V S5):SS.CC 78 [A5 a0] []=(fun w=>G1 67 [bT7 [.func (.func 176) [] [.cst (A5 a0)],.func (.func 178) [] [.cst (A5 a0)],.func (.func 179) [] [.cst w,.cst (A5 a0)],.func (.func 181) [] [.cst w,.cst (A5 a0)],.func (.func 182) [] [.cst w],.func (.func 183) [] [.cst w],.func (.func 184) [] [.cst w],.func (.func 185) [] [.cst w],.func (.func 188) [] [.cst w,.cst (A5 a0)]]] fun n1=>some (bT6 n1,[])) (A6 (a0.2.2.2.1,a0.2.2.2.2.1,a0.2.2.2.2.2.1,a0.2.2.2.2.2.2.1,a0.2.2.2.2.2.2.2.1,a0.2.2.2.2.2.2.2.2.1,())):=cc
theorem bB4 (a0:bTA) (a1:bTA):SS.CC 79 [.cst (.sl false 3 a0),.cst (bT7 a1)] []=G1 80 [.sl false 3 a0,.func (.func 81) [] [.cst (bT7 a1),.cst (.sl false 3 a0)]] fun n1=>some (bT6 n1,[]):=cc
def bB5:KT:=SS.rK Tryz.f80 80 0 []
def bB6:KT:=SS.jK 80 19 0 (cS Tryz.f80 7) bB5
def bB7:KT:=bI 0 bB6
def Yz (x1:bTA) (lL:bTA) (x8:Int) (x9:Int):R:=SS.LL (SS.ae 80 19) 0 [1,8,9] 0 (cS Tryz.f80 37) bB7 ⟨[(1,.func (.func 81) [] [.cst (bT7 x1),.cst (.sl false 3 lL)]),(8,bT6 x8),(9,bT6 x9)],[]⟩
theorem aJQ (x1:bTA) (lL:bTA) (x8:Int) (x9:Int):Yz x1 lL x8 x9=aA (decide (x9<x8)) (G1 81 [bT6 x9,.cst (bT7 x1),.cst (.sl false 3 lL)] fun n1=>aA (n1 != 0) (some (bT6 n1,[])) (Yz x1 lL x8 (i64.wrap (x9+1)))) (some (bT6 0,[])):=ll
theorem bB8 (a0:bTA) (a1:bTA) (xm:bTA):SS.CC 80 [.sl false 3 a0,.func (.func 81) [] [.cst (bT7 a1),.cst (.sl false 3 xm)]] []=Yz a1 xm (a0.length:Int) 0:=cc
theorem bB9 (a0:Int) (a1:bTA) (a2:bTA):SS.CC 81 [bT6 a0,.cst (bT7 a1),.cst (.sl false 3 a2)] []=G1 67 [bT7 [.func (.func 82) [] [.cst (bT7 a1),.cst (bT6 a0)],.func (.func 83) [] [.cst (.sl false 3 a2),.cst (bT6 a0)]]] fun n1=>some (bT6 n1,[]):=cc
theorem bBA (a0:bTA) (a1:Int):SS.CC 82 [.cst (bT7 a0),.cst (bT6 a1)] []=chk (decide (0<=(i64.wrap (a1+1)))&&decide ((i64.wrap (a1+1))<=(a0.length:Int))) (G1 76 [bT7 (a0.take (i64.wrap (a1+1)).toNat)] fun n1=>some (bT6 n1,[])):=cc
theorem bBB (a0:bTA) (a1:Int):SS.CC 83 [.cst (.sl false 3 a0),.cst (bT6 a1)] []=bf S8 a0 a1 fun u2=>bf S8 a0 a1 fun u6=>chk (decide (1+u6.2.2.1.length<=bC)) (G3 84 [bT7 (([.str u2.2.1]:bTA) ++ u6.2.2.1)] fun b9=>G1 69 [.bool (!b9),bT6 7] fun n11=>some (bT6 n11,[])):=cc
theorem bBC (a0:bTA):SS.CC 84 [bT7 a0] []=G3 43 [bT7 a0,.func (.func 192) [] []] fun b1=>some (.bool (!b1),[]):=cc
theorem bBD (a0:Sh.V S0) (a1:bTA):SS.CC 85 [.cst (A0 a0),.cst (bT7 a1)] []=G1 86 [.sl false 2 a0.2.2.2.2.2.1,.func (.func 87) [] [.cst (bT7 a1),.cst (A0 a0)]] fun n1=>some (bT6 n1,[]):=cc
def bBE:KT:=SS.rK Tryz.f86 86 0 []
def bBF:KT:=SS.jK 86 19 0 (cS Tryz.f86 7) bBE
def bBG:KT:=bI 0 bBF
def Z4 (x1:bTA) (lL:bT9) (pM:bTA) (pO:bTA) (pR:bTA) (pU:bTA) (pV:bTA) (pW:bTA) (x8:Int) (x9:Int):R:=SS.LL (SS.ae 86 19) 0 [1,8,9] 0 (cS Tryz.f86 37) bBG ⟨[(1,.func (.func 87) [] [.cst (bT7 x1),.cst (A0 (lL,pM,pO,pR,pU,pV,pW,()))]),(8,bT6 x8),(9,bT6 x9)],[]⟩
theorem aJR (x1:bTA) (lL:bT9) (pM:bTA) (pO:bTA) (pR:bTA) (pU:bTA) (pV:bTA) (pW:bTA) (x8:Int) (x9:Int):Z4 x1 lL pM pO pR pU pV pW x8 x9=aA (decide (x9<x8)) (G1 87 [bT6 x9,.cst (bT7 x1),.cst (A0 (lL,pM,pO,pR,pU,pV,pW,()))] fun n1=>aA (n1 != 0) (some (bT6 n1,[])) (Z4 x1 lL pM pO pR pU pV pW x8 (i64.wrap (x9+1)))) (some (bT6 0,[])):=ll
theorem bBH (a0:bTA) (a1:bTA) (xm:bT9) (Ap:bTA) (Aq:bTA) (Ar:bTA) (Au:bTA) (Aw:bTA) (Az:bTA):SS.CC 86 [.sl false 2 a0,.func (.func 87) [] [.cst (bT7 a1),.cst (A0 (xm,Ap,Aq,Ar,Au,Aw,Az,()))]] []=Z4 a1 xm Ap Aq Ar Au Aw Az (a0.length:Int) 0:=cc
theorem bBI (a0:Int) (a1:bTA) (a2:Sh.V S0):SS.CC 87 [bT6 a0,.cst (bT7 a1),.cst (A0 a2)] []=G1 67 [bT7 [.func (.func 88) [] [.cst (bT7 a1),.cst (bT6 a0)],.func (.func 89) [] [.cst (A0 a2),.cst (bT6 a0)],.func (.func 90) [] [.cst (A0 a2),.cst (bT6 a0)]]] fun n1=>some (bT6 n1,[]):=cc
theorem bBJ (a0:bTA) (a1:Int):SS.CC 88 [.cst (bT7 a0),.cst (bT6 a1)] []=chk (decide (0<=(i64.wrap (a1+1)))&&decide ((i64.wrap (a1+1))<=(a0.length:Int))) (G1 76 [bT7 (a0.take (i64.wrap (a1+1)).toNat)] fun n1=>some (bT6 n1,[])):=cc
theorem bBK (a0:Sh.V S0) (a1:Int):SS.CC 89 [.cst (A0 a0),.cst (bT6 a1)] []=bf mD a0.2.2.2.2.2.1 a1 fun u2=>G1 69 [.bool ((u2.2.1.length:Int)==0),bT6 12] fun n4=>some (bT6 n4,[]):=cc
theorem bBL (a0:Sh.V S0) (a1:Int):SS.CC 90 [.cst (A0 a0),.cst (bT6 a1)] []=bf mD a0.2.2.2.2.2.1 a1 fun u2=>G3 91 [.sl false 2 u2.2.1,.func (.func 92) [] []] fun b4=>G1 69 [.bool b4,bT6 7] fun n6=>some (bT6 n6,[]):=cc
theorem bBM (a0:bTA):SS.CC 91 [.sl false 2 a0,.func (.func 92) [] []] []=G1 193 [.sl false 2 a0,.func (.func 92) [] []] fun n1=>some (.bool (decide (0<=n1)),[]):=cc
theorem bBN (a0:Sh.V Ea):SS.CC 92 [MN a0] []=G3 84 [bT7 [.str a0.1,.str a0.2.1]] fun b1=>some (.bool (!b1),[]):=cc
theorem bBO (a0:Sh.V S0) (a1:bTA):SS.CC 93 [.cst (A0 a0),.cst (bT7 a1)] []=G1 94 [.sl false 3 a0.2.2.2.2.2.2.1,.func (.func 95) [] [.cst (bT7 a1),.cst (A0 a0)]] fun n1=>some (bT6 n1,[]):=cc
def bBP:KT:=SS.rK Tryz.f94 94 0 []
def bBQ:KT:=SS.jK 94 19 0 (cS Tryz.f94 7) bBP
def bBR:KT:=bI 0 bBQ
def Z5 (x1:bTA) (lL:bT9) (pM:bTA) (pO:bTA) (pR:bTA) (pU:bTA) (pV:bTA) (pW:bTA) (x8:Int) (x9:Int):R:=SS.LL (SS.ae 94 19) 0 [1,8,9] 0 (cS Tryz.f94 37) bBR ⟨[(1,.func (.func 95) [] [.cst (bT7 x1),.cst (A0 (lL,pM,pO,pR,pU,pV,pW,()))]),(8,bT6 x8),(9,bT6 x9)],[]⟩
theorem aJS (x1:bTA) (lL:bT9) (pM:bTA) (pO:bTA) (pR:bTA) (pU:bTA) (pV:bTA) (pW:bTA) (x8:Int) (x9:Int):Z5 x1 lL pM pO pR pU pV pW x8 x9=aA (decide (x9<x8)) (G1 95 [bT6 x9,.cst (bT7 x1),.cst (A0 (lL,pM,pO,pR,pU,pV,pW,()))] fun n1=>aA (n1 != 0) (some (bT6 n1,[])) (Z5 x1 lL pM pO pR pU pV pW x8 (i64.wrap (x9+1)))) (some (bT6 0,[])):=ll
theorem bBS (a0:bTA) (a1:bTA) (xm:bT9) (Ap:bTA) (Aq:bTA) (Ar:bTA) (Au:bTA) (Aw:bTA) (Az:bTA):SS.CC 94 [.sl false 3 a0,.func (.func 95) [] [.cst (bT7 a1),.cst (A0 (xm,Ap,Aq,Ar,Au,Aw,Az,()))]] []=Z5 a1 xm Ap Aq Ar Au Aw Az (a0.length:Int) 0:=cc
theorem bBT (a0:Int) (a1:bTA) (a2:Sh.V S0):SS.CC 95 [bT6 a0,.cst (bT7 a1),.cst (A0 a2)] []=G1 67 [bT7 [.func (.func 96) [] [.cst (bT7 a1),.cst (bT6 a0)],.func (.func 97) [] [.cst (A0 a2),.cst (bT6 a0)]]] fun n1=>some (bT6 n1,[]):=cc
theorem bBU (a0:bTA) (a1:Int):SS.CC 96 [.cst (bT7 a0),.cst (bT6 a1)] []=chk (decide (0<=(i64.wrap (a1+1)))&&decide ((i64.wrap (a1+1))<=(a0.length:Int))) (G1 76 [bT7 (a0.take (i64.wrap (a1+1)).toNat)] fun n1=>some (bT6 n1,[])):=cc
theorem bBV (a0:Sh.V S0) (a1:Int):SS.CC 97 [.cst (A0 a0),.cst (bT6 a1)] []=bf kz a0.2.2.2.2.2.2.1 a1 fun u2=>G1 98 [zh u2] fun n5=>some (bT6 n5,[]):=cc
def bBW:KT:=SS.rK Tryz.f98 98 0 []
def bBX:KT:=SS.jK 98 28 0 (cS Tryz.f98 15) bBW
def bBY:KT:=bI 0 bBX
def TG (x1:Sh.V kz) (x12:Int):R:=SS.LL (SS.ae 98 28) 0 [1,10,11,12] 0 (cS Tryz.f98 75) bBY ⟨[(1,.cst (zh x1)),(10,.sl false 2 x1.2.1),(11,bT6 (x1.2.1.length:Int)),(12,bT6 x12)],[]⟩
theorem aJT (x1:Sh.V kz) (x12:Int):TG x1 x12=aA (decide (x12<(x1.2.1.length:Int))) (bf Gm x1.2.1 x12 fun u2=>G3 26 [.str u2.1] fun b4=>aA (!b4) (some (bT6 7,[])) (G3 194 [bT6 u2.2.1] fun b6=>aA b6 (some (bT6 2,[])) (TG x1 (i64.wrap (x12+1))))) (G3 194 [bT6 x1.2.2.1] fun b8=>G1 69 [.bool b8,bT6 2] fun n10=>some (bT6 n10,[])):=ll
theorem bBZ (a0:Sh.V kz):SS.CC 98 [zh a0] []=aA ((a0.2.1.length:Int)==0) (some (bT6 12,[])) (TG a0 0):=cc
def a_M:KT:=SS.rK Tryz.f139 139 0 []
def a_N:KT:=SS.jK 139 26 0 (cS Tryz.f139 15) a_M
def a_O:KT:=bI 0 a_N
def YF (x0:bTA) (x1:bTA) (Lm:Int):R:=SS.LL (SS.ae 139 26) 0 [0,1,12,13] 0 (cS Tryz.f139 75) a_O ⟨[(0,bT7 x0),(1,bT7 x1),(12,bT6 (x0.length:Int)),(13,bT6 Lm)],[]⟩
theorem aGX (x0:bTA) (x1:bTA) (Lm:Int):YF x0 x1 Lm=aA (decide (Lm<(x0.length:Int))) (eH x0 Lm fun e1=>vI .i64 e1 fun n2=>eH x1 Lm fun e3=>vI .i64 e3 fun n4=>aA (n2 != n4) (some (.bool false,[])) (YF x0 x1 (i64.wrap (Lm+1)))) (some (.bool true,[])):=ll
theorem a_P (a0:bTA) (a1:bTA):SS.CC 139 [bT7 a0,bT7 a1] []=aA ((a0.length:Int) !=(a1.length:Int)) (some (.bool false,[])) (YF a0 a1 0):=cc
def a_Q:KT:=SS.rK Tryz.f158 158 0 []
def a_R:KT:=SS.jK 158 19 0 (cS Tryz.f158 7) a_Q
def a_S:KT:=bI 0 a_R
def SH (x0:bTA) (x8:Int):R:=SS.LL (SS.ae 158 19) 0 [0,1,7,8] 0 (cS Tryz.f158 37) a_S ⟨[(0,bT7 x0),(1,.func (.func 192) [] []),(7,bT6 (x0.length:Int)),(8,bT6 x8)],[]⟩
theorem aGY (x0:bTA) (x8:Int):SH x0 x8=aA (decide (x8<(x0.length:Int))) (eH x0 x8 fun e1=>vS e1 fun s2=>G3 192 [.str s2] fun b3=>aA b3 (some (bT6 x8,[])) (SH x0 (i64.wrap (x8+1)))) (some (bT6 (-1),[])):=ll
theorem a_T (a0:bTA):SS.CC 158 [bT7 a0,.func (.func 192) [] []] []=SH a0 0:=cc
def a_U:KT:=SS.rK Tryz.f159 159 0 []
def a_V:KT:=SS.jK 159 33 0 (cS Tryz.f159 7) a_U
def a_W:KT:=bI 0 a_V
def SI (x0:bTA) (x1:Int) (x9:Int):R:=SS.LL (SS.ae 159 33) 0 [0,1,7,8,9] 0 (cS Tryz.f159 37) a_W ⟨[(0,bT7 x0),(1,bT6 x1),(7,bT7 x0),(8,bT6 (x0.length:Int)),(9,bT6 x9)],[]⟩
theorem aGZ (x0:bTA) (x1:Int) (x9:Int):SI x0 x1 x9=aA (decide (x9<(x0.length:Int))) (eH x0 x9 fun e1=>vI .i64 e1 fun n2=>aA (decide (n2<0)) (some (bT6 2,[])) (aA (decide (x1<=n2)) (some (bT6 2,[])) (aA (decide (0<x9)) (eH x0 (i64.wrap (x9-1)) fun e3=>vI .i64 e3 fun n4=>aA (decide (n2<=n4)) (some (bT6 5,[])) (SI x0 x1 (i64.wrap (x9+1)))) (SI x0 x1 (i64.wrap (x9+1)))))) (some (bT6 0,[])):=ll
theorem a_X (a0:bTA) (a1:Int):SS.CC 159 [bT7 a0,bT6 a1] []=SI a0 a1 0:=cc
def a_Y:KT:=SS.rK Tryz.f160 160 0 []
def a_Z:KT:=SS.jK 160 55 0 (cS Tryz.f160 15) a_Y
def a_':KT:=bI 0 a_Z
def YG (x0:bTA) (x10:Int):R:=SS.LL (SS.ae 160 55) 0 [0,8,9,10] 0 (cS Tryz.f160 75) a_' ⟨[(0,.sl false 4 x0),(8,.sl false 4 x0),(9,bT6 (x0.length:Int)),(10,bT6 x10)],[]⟩
theorem aG' (x0:bTA) (x10:Int):YG x0 x10=aA (decide (x10<(x0.length:Int))) (bf S7 x0 x10 fun u2=>G3 26 [.str u2.1] fun b6=>aA (!b6) (some (bT6 7,[])) (chk (decide (0<=x10)&&decide (x10<=(x0.length:Int))) (H44 186 [.sl false 4 (x0.take x10.toNat),.func (.func 237) [] [bT8]] [O7 u2] fun b8 u9=>aA b8 (some (bT6 8,[])) (G3 203 [bT6 u9.2.1,bT6 65536] fun b15=>aA b15 (some (bT6 2,[])) (G3 203 [bT6 u9.2.2.1,bT6 65536] fun b17=>aA b17 (some (bT6 2,[])) (aA (decide (u9.2.2.1<u9.2.1)) (some (bT6 5,[])) (aA (decide (u9.2.2.2.1<u9.2.1)) (some (bT6 2,[])) (aA (decide (u9.2.2.1<u9.2.2.2.1)) (some (bT6 2,[])) (YG x0 (i64.wrap (x10+1))))))))))) (some (bT6 0,[])):=ll
theorem b03 (a0:bTA):SS.CC 160 [.sl false 4 a0] []=aA (decide (16<(a0.length:Int))) (some (bT6 3,[])) (YG a0 0):=cc
theorem b1H (a0:Sh.V S5):SS.CC 176 [.cst (A5 a0)] []=G1 177 [bT7 a0.2.2.1] fun n1=>some (bT6 n1,[]):=cc
def b1I:KT:=SS.rK Tryz.f177 177 0 []
def b1J:KT:=SS.jK 177 21 0 (cS Tryz.f177 7) b1I
def b1K:KT:=bI 0 b1J
def YM (x0:bTA) (x7:Int):R:=SS.LL (SS.ae 177 21) 0 [0,5,6,7] 0 (cS Tryz.f177 37) b1K ⟨[(0,bT7 x0),(5,bT7 x0),(6,bT6 (x0.length:Int)),(7,bT6 x7)],[]⟩
theorem aHB (x0:bTA) (x7:Int):YM x0 x7=aA (decide (x7<(x0.length:Int))) (eH x0 x7 fun e1=>vS e1 fun s2=>G3 26 [.str s2] fun b3=>aA (!b3) (some (bT6 7,[])) (chk (decide (0<=x7)&&decide (x7<=(x0.length:Int))) (G3 25 [bT7 (x0.take x7.toNat),.str s2] fun b5=>aA b5 (some (bT6 8,[])) (YM x0 (i64.wrap (x7+1)))))) (some (bT6 0,[])):=ll
theorem b1L (a0:bTA):SS.CC 177 [bT7 a0] []=YM a0 0:=cc
theorem b1M (a0:Sh.V S5):SS.CC 178 [.cst (A5 a0)] []=G1 177 [bT7 a0.2.1] fun n1=>some (bT6 n1,[]):=cc
theorem b1N (a0:Sh.V S6) (a1:Sh.V S5):SS.CC 179 [.cst (A6 a0),.cst (A5 a1)] []=G4 180 [bT6 (a1.2.2.1.length:Int)] fun l1=>G3 139 [bT7 a0.1,bT7 l1] fun b3=>G1 69 [.bool (!b3),bT6 6] fun n5=>some (bT6 n5,[]):=cc
def b1P:KT:=SS.rK Tryz.f180 180 0 []
def b1Q:KT:=SS.jK 180 15 0 (cS Tryz.f180 15) b1P
def b1R:KT:=bI 0 b1Q
def YN (x5:Int) (x3:bTA) (x6:Int):R:=SS.LL (SS.ae 180 15) 0 [3,5,6] 0 (cS Tryz.f180 75) b1R ⟨[(3,.sl true 1 x3),(5,bT6 x5),(6,bT6 x6)],[]⟩
theorem aHC (x5:Int) (x3:bTA) (x6:Int):YN x5 x3 x6=aA (decide (x6<x5)) (chk (decide (x3.length+1<=bC)) (YN x5 (x3 ++ ([bT6 x6]:bTA)) (i64.wrap (x6+1)))) (some (bT7 x3,[])):=ll
theorem b1S (a0:Int):SS.CC 180 [bT6 a0] []=YN a0 [] 0:=cc
theorem b1T (a0:Sh.V S6) (a1:Sh.V S5):SS.CC 181 [.cst (A6 a0),.cst (A5 a1)] []=G1 69 [.bool (a0.2.1 !=(a1.2.1.length:Int)),bT6 4] fun n1=>some (bT6 n1,[]):=cc
theorem b1U (a0:Sh.V S6):SS.CC 182 [.cst (A6 a0)] []=aA (decide (a0.2.2.1<0)) (G1 69 [.bool true,bT6 2] fun n1=>some (bT6 n1,[])) (G1 69 [.bool (decide ((if (1:Int)>a0.2.1 then (1:Int) else a0.2.1)<=a0.2.2.1)),bT6 2] fun n3=>some (bT6 n3,[])):=cc
theorem b1V (a0:Sh.V S6):SS.CC 183 [.cst (A6 a0)] []=G1 159 [bT7 a0.2.2.2.1,bT6 a0.2.1] fun n1=>some (bT6 n1,[]):=cc
theorem b1W (a0:Sh.V S6):SS.CC 184 [.cst (A6 a0)] []=G1 160 [.sl false 4 a0.2.2.2.2.1] fun n1=>some (bT6 n1,[]):=cc
theorem b1X (a0:Sh.V S6):SS.CC 185 [.cst (A6 a0)] []=G3 186 [.sl false 4 a0.2.2.2.2.1,.func (.func 187) [] []] fun b1=>G1 69 [.bool b1,bT6 7] fun n3=>some (bT6 n3,[]):=cc
theorem b1Y (a0:bTA):SS.CC 186 [.sl false 4 a0,.func (.func 187) [] []] []=G1 247 [.sl false 4 a0,.func (.func 187) [] []] fun n1=>some (.bool (decide (0<=n1)),[]):=cc
theorem b1Z (a0:bTA) (h0:Sh.V S7):SS.CC 186 [.sl false 4 a0,.func (.func 237) [] [bT8]] [O7 h0]=H63 247 [.sl false 4 a0,.func (.func 237) [] [bT8]] [O7 h0] fun n1 u2=>some (.bool (decide (0<=n1)),[O7 u2]):=cc
theorem b21 (a0:Sh.V S7):SS.CC 187 [A7 a0] []=G3 112 [.str a0.1] fun b1=>some (.bool b1,[]):=cc
theorem b23 (a0:Sh.V S6) (a1:Sh.V S5):SS.CC 188 [.cst (A6 a0),.cst (A5 a1)] []=G1 189 [.sl false 8 a0.2.2.2.2.2.1,.func (.func 190) [] [.cst (A5 a1),.cst (A6 a0)]] fun n1=>some (bT6 n1,[]):=cc
def b29:KT:=SS.rK Tryz.f189 189 0 []
def b2A:KT:=SS.jK 189 19 0 (cS Tryz.f189 7) b29
def b2B:KT:=bI 0 b2A
def YO (x1:bT9) (lL:bTA) (pM:bTA) (pO:bTA) (pR:Int) (pU:Int) (pV:bTA) (pW:bTA) (Vt:bTA) (Vu:bTA) (Vw:Int) (Vx:Int) (Vy:bTA) (Vz:bTA) (W9:bTA) (x8:Int) (x9:Int):R:=SS.LL (SS.ae 189 19) 0 [1,8,9] 0 (cS Tryz.f189 37) b2B ⟨[(1,.func (.func 190) [] [.cst (A5 (x1,lL,pM,pO,pR,pU,pV,pW,Vt,())),.cst (A6 (Vu,Vw,Vx,Vy,Vz,W9,()))]),(8,bT6 x8),(9,bT6 x9)],[]⟩
theorem aHD (x1:bT9) (lL:bTA) (pM:bTA) (pO:bTA) (pR:Int) (pU:Int) (pV:bTA) (pW:bTA) (Vt:bTA) (Vu:bTA) (Vw:Int) (Vx:Int) (Vy:bTA) (Vz:bTA) (W9:bTA) (x8:Int) (x9:Int):YO x1 lL pM pO pR pU pV pW Vt Vu Vw Vx Vy Vz W9 x8 x9=aA (decide (x9<x8)) (G1 190 [bT6 x9,.cst (A5 (x1,lL,pM,pO,pR,pU,pV,pW,Vt,())),.cst (A6 (Vu,Vw,Vx,Vy,Vz,W9,()))] fun n1=>aA (n1 != 0) (some (bT6 n1,[])) (YO x1 lL pM pO pR pU pV pW Vt Vu Vw Vx Vy Vz W9 x8 (i64.wrap (x9+1)))) (some (bT6 0,[])):=ll
theorem b2C (a0:bTA) (a1:bT9) (xm:bTA) (Ap:bTA) (Aq:bTA) (Ar:Int) (Au:Int) (Aw:bTA) (Az:bTA) (aDK:bTA) (aDL:bTA) (aDF:Int) (aDG:Int) (aDH:bTA) (aDI:bTA) (aDJ:bTA):SS.CC 189 [.sl false 8 a0,.func (.func 190) [] [.cst (A5 (a1,xm,Ap,Aq,Ar,Au,Aw,Az,aDK,())),.cst (A6 (aDL,aDF,aDG,aDH,aDI,aDJ,()))]] []=YO a1 xm Ap Aq Ar Au Aw Az aDK aDL aDF aDG aDH aDI aDJ (a0.length:Int) 0:=cc
theorem b2E (a0:Int) (a1:Sh.V S5) (a2:Sh.V S6):SS.CC 190 [bT6 a0,.cst (A5 a1),.cst (A6 a2)] []=bf S9 a2.2.2.2.2.2.1 a0 fun u2=>G1 191 [A5 a1,A9 u2] fun n10=>some (bT6 n10,[]):=cc
def b2G:KT:=SS.rK Tryz.f191 191 0 []
def b2H:KT:=SS.jK 191 97 0 (cS Tryz.f191 63) b2G
def aHE:KT:=bI 0 b2H
def b2I:KT:=SS.lK 191 97 0 [3,5,59,60,61] 0 (cS Tryz.f191 303) aHE
def b2J:KT:=SS.jK 191 97 0 (cS Tryz.f191 3887) b2I
def b2K:KT:=bI 1 b2J
def SN (x3:Sh.V S9) (x5:Int) (yP:Int):R:=SS.LL (SS.ae 191 97) 0 [3,5,59,60,61] 0 (cS Tryz.f191 303) aHE ⟨[(3,.cst (A9 x3)),(5,bT6 x5),(59,.sl false 5 x3.2.2.2.2.2.2.2.1),(60,bT6 (x3.2.2.2.2.2.2.2.1.length:Int)),(61,bT6 yP)],[]⟩
def a4N (x3:Sh.V S9) (x5:Int) (q0:Sh.V yh) (yP:Int):R:=bG (SS.xX 191 97 0) (cS Tryz.f191 62255) b2K ⟨[(3,.cst (A9 x3)),(5,bT6 x5),(8,bT8),(59,.sl false 5 x3.2.2.2.2.2.2.2.1),(60,bT6 (x3.2.2.2.2.2.2.2.1.length:Int)),(61,bT6 yP)],[O11 q0]⟩
theorem aHF (x3:Sh.V S9) (x5:Int) (yP:Int):SN x3 x5 yP=aA (decide (yP<(x3.2.2.2.2.2.2.2.1.length:Int))) (bf yh x3.2.2.2.2.2.2.2.1 yP fun u2=>aA (decide (u2.1<0)) (some (bT6 2,[])) (aA (decide (x5<=u2.1)) (some (bT6 2,[])) (aA (decide (0<yP)) (bf yh x3.2.2.2.2.2.2.2.1 (i64.wrap (yP-1)) fun u8=>aA (decide (u2.1<=u8.1)) (some (bT6 5,[])) (a4N x3 x5 u2 yP)) (a4N x3 x5 u2 yP)))) (some (bT6 0,[])):=ll
theorem b2F (x3:Sh.V S9) (x5:Int) (q0:Sh.V yh) (yP:Int):a4N x3 x5 q0 yP=G1 248 [A1 (q0.2.1,q0.2.2.1,q0.2.2.2.1,q0.2.2.2.2.1,()),bT6 x5,bT6 1] fun n1=>aA (n1 != 0) (some (bT6 n1,[])) (SN x3 x5 (i64.wrap (yP+1))):=by kernel_rfl
theorem b2L (a0:Sh.V S5) (a1:Sh.V S9):SS.CC 191 [A5 a0,A9 a1] []=aA (decide (a1.1<0)) (some (bT6 2,[])) (aA (decide (a0.2.2.2.2.1<=a1.1)) (some (bT6 2,[])) (aA (decide (a1.2.1<0)) (some (bT6 2,[])) (aA (decide ((a0.2.2.1.length:Int)<=a1.2.1)) (some (bT6 2,[])) (aA (decide (a1.2.2.1<0)) (some (bT6 2,[])) (aA (decide (a0.2.2.2.2.1<=a1.2.2.1)) (some (bT6 2,[])) (G1 248 [A1 (a1.2.2.2.1,a1.2.2.2.2.1,a1.2.2.2.2.2.1,a1.2.2.2.2.2.2.1,()),bT6 (a0.2.2.2.2.2.2.2.1.length:Int),bT6 2] fun n1=>aA (n1 != 0) (some (bT6 n1,[])) (SN a1 (a0.2.2.2.2.2.2.2.1.length:Int) 0))))))):=cc
theorem b2M (a0:bT9):SS.CC 192 [.str a0] []=G3 26 [.str a0] fun b1=>some (.bool (!b1),[]):=cc
def b2N:KT:=SS.rK Tryz.f193 193 0 []
def b2O:KT:=SS.jK 193 19 0 (cS Tryz.f193 7) b2N
def b2P:KT:=bI 0 b2O
def SQ (x0:bTA) (x8:Int):R:=SS.LL (SS.ae 193 19) 0 [0,1,7,8] 0 (cS Tryz.f193 37) b2P ⟨[(0,.sl false 2 x0),(1,.func (.func 92) [] []),(7,bT6 (x0.length:Int)),(8,bT6 x8)],[]⟩
theorem aHG (x0:bTA) (x8:Int):SQ x0 x8=aA (decide (x8<(x0.length:Int))) (bf Ea x0 x8 fun u2=>G3 92 [MN u2] fun b4=>aA b4 (some (bT6 x8,[])) (SQ x0 (i64.wrap (x8+1)))) (some (bT6 (-1),[])):=ll
theorem b2Q (a0:bTA):SS.CC 193 [.sl false 2 a0,.func (.func 92) [] []] []=SQ a0 0:=cc
theorem b2R (a0:Int):SS.CC 194 [bT6 a0] []=aA (decide (a0<(-65536))) (some (.bool true,[])) (some (.bool (decide (65536<a0)),[])):=cc
theorem b46 (a0:Sh.V S7) (h0:Sh.V S7):SS.CC 237 [A7 a0,bT8] [O7 h0]=some (.bool (a0.1.toList==h0.1.toList),[O7 h0]):=cc
def b4Q:KT:=SS.rK Tryz.f247 247 1 []
def b4R:KT:=SS.jK 247 19 1 (cS Tryz.f247 7) b4Q
def b4S:KT:=bI 0 b4R
def Si (x0:bTA) (q0:Sh.V S7) (x8:Int):R:=SS.LL (SS.ae 247 19) 1 [0,1,7,8] 1 (cS Tryz.f247 37) b4S ⟨[(0,.sl false 4 x0),(1,.func (.func 237) [] [bT8]),(7,bT6 (x0.length:Int)),(8,bT6 x8)],[O7 q0]⟩
theorem aHX (x0:bTA) (q0:Sh.V S7) (x8:Int):Si x0 q0 x8=aA (decide (x8<(x0.length:Int))) (bf S7 x0 x8 fun u2=>H44 237 [A7 u2,bT8] [O7 q0] fun b6 u7=>aA b6 (some (bT6 x8,[O7 u7])) (Si x0 u7 (i64.wrap (x8+1)))) (some (bT6 (-1),[O7 q0])):=ll
theorem b4T (a0:bTA) (h0:Sh.V S7):SS.CC 247 [.sl false 4 a0,.func (.func 237) [] [bT8]] [O7 h0]=Si a0 h0 0:=cc
def b4M:KT:=SS.rK Tryz.f247 247 0 []
def b4N:KT:=SS.jK 247 19 0 (cS Tryz.f247 7) b4M
def b4O:KT:=bI 0 b4N
def SY (x0:bTA) (x8:Int):R:=SS.LL (SS.ae 247 19) 0 [0,1,7,8] 0 (cS Tryz.f247 37) b4O ⟨[(0,.sl false 4 x0),(1,.func (.func 187) [] []),(7,bT6 (x0.length:Int)),(8,bT6 x8)],[]⟩
theorem aHW (x0:bTA) (x8:Int):SY x0 x8=aA (decide (x8<(x0.length:Int))) (bf S7 x0 x8 fun u2=>G3 187 [A7 u2] fun b6=>aA b6 (some (bT6 x8,[])) (SY x0 (i64.wrap (x8+1)))) (some (bT6 (-1),[])):=ll
theorem b4P (a0:bTA):SS.CC 247 [.sl false 4 a0,.func (.func 187) [] []] []=SY a0 0:=cc
theorem b4U (a0:Sh.V S1) (a1:Int) (a2:Int):SS.CC 248 [A1 a0,bT6 a1,bT6 a2] []=G6 27 [A1 a0,bT6 a1] fun u1=>aA (u1.2.1.1 != 0) (some (bT6 u1.2.1.1,[])) (G1 69 [.bool (u1.1.1 != a2),bT6 16] fun n4=>some (bT6 n4,[])):=cc
end
abbrev Nm:=bTB
structure Vr where
 n:Nm
 lo:Int
 hi:Int
 i:Int
structure kK where
 n:Nm
 c:Bool
 o:Bool
 f:Bool
 k:Int
structure Mv where
 f:Int
 e:Int
 t:Int
 g:EX
 us:List (Int×EX)
structure Tm where
 n:Nm
 ls:List Nm
 es:List Nm
 al:List Int
 L:Int
 I:Int
 mr:List Int
 vs:List Vr
 ms:List Mv
structure Ins where
 n:Nm
 t:Nm
 es:List Nm
structure qG where
 n:Nm
 ls:List (Nm×Nm)
structure Cst where
 n:Nm
 ts:List (Nm×Int)
 b:Int
structure Mo where
 n:Nm
 es:List kK
 ts:List Tm
 cs:List Ins
 rs:List Ins
 xs:List qG
 ks:List Cst
abbrev aK (l:List Nm):bTA:=qC (qw l)
abbrev Iy (v:Vr):Sh.V S7:=(bs v.n,v.lo,v.hi,v.i,())
abbrev rF (e:kK):Sh.V S4:=(bs e.n,e.c,e.o,e.f,e.k,())
abbrev vUp (u:Int×EX):Sh.V yh:=(u.1,(ev u.2).1,(ev u.2).2.1,(ev u.2).2.2.1,(ev u.2).2.2.2.1,())
abbrev pUp (u:Int×EX):PV:=A11 (vUp u)
abbrev uF (x:Mv):Sh.V S9:=(x.f,x.e,x.t,(ev x.g).1,(ev x.g).2.1,(ev x.g).2.2.1,(ev x.g).2.2.2.1,x.us.map pUp,())
abbrev AO (x:Mv):PV:=A9 (uF x)
abbrev kE (v:Vr):PV:=A7 (Iy v)
abbrev yH (e:kK):PV:=A4 (rF e)
abbrev yM (t:Tm):Sh.V S5:=(bs t.n,aK t.ls,aK t.es,fV t.al,t.L,t.I,fV t.mr,t.vs.map kE,t.ms.map AO,())
abbrev yI (t:Tm):PV:=A5 (yM t)
abbrev vIn (x:Ins):Sh.V S8:=(bs x.n,bs x.t,aK x.es,())
abbrev iQ (x:Ins):PV:=A8 (vIn x)
abbrev vLc (l:Nm×Nm):Sh.V Ea:=(bs l.1,bs l.2,())
abbrev BZ (l:Nm×Nm):PV:=MN (vLc l)
abbrev EL (x:qG):Sh.V mD:=(bs x.n,x.ls.map BZ,())
abbrev zT (x:qG):PV:=GZ (EL x)
abbrev vTr (t:Nm×Int):Sh.V Gm:=(bs t.1,t.2,())
abbrev IU (t:Nm×Int):PV:=QV (vTr t)
abbrev xQ (x:Cst):Sh.V kz:=(bs x.n,x.ts.map IU,x.b,())
abbrev xI (x:Cst):PV:=zh (xQ x)
abbrev aW (m:Mo):Sh.V S0:=(bs m.n,m.es.map yH,m.ts.map yI,m.cs.map iQ,m.rs.map iQ,m.xs.map zT,m.ks.map xI,())
abbrev CZ (l:List Nm):Prop:=l.length<=1000/\∀ s,s∈l->s.length<=1000
abbrev aD4 (n:Int):Prop := -9223372036854775808<=n/\n<=9223372036854775807
structure Ak (t:Tm):Prop where
 ls:CZ t.ls
 es:CZ t.es
 al:t.al.length<=1000
 mr:t.mr.length<=1000
 vs:t.vs.length<=1000/\∀ v,v∈t.vs->v.n.length<=1000/\aD4 v.lo/\aD4 v.hi
 ms:t.ms.length<=1000/\∀ x,x∈t.ms->x.g.Len/\x.us.length<=1000/\∀ u,u∈x.us->u.2.Len
structure qX (m:Mo):Prop where
 n:m.n.length<=1000
 es:m.es.length<=1000/\∀ e,e∈m.es->e.n.length<=1000
 ts:m.ts.length<=1000/\∀ t,t∈m.ts->t.n.length<=1000/\Ak t
 is:m.cs.length<=1000/\m.rs.length<=1000/\∀ x,x∈m.cs ++ m.rs->x.n.length<=1000/\x.t.length<=1000/\CZ x.es
 xs:m.xs.length<=1000/\∀ x,x∈m.xs->x.n.length<=1000/\x.ls.length<=1000/\∀ l,l∈x.ls->l.1.length<=1000/\l.2.length<=1000
 ks:m.ks.length<=1000/\∀ x,x∈m.ks->x.n.length<=1000/\x.ts.length<=1000/\∀ l,l∈x.ts->l.1.length<=1000
theorem xC {α:Type} {S:List Sh} {f:α->PV} {g:α->Sh.V S} (hg:∀ a (K:Sh.V S->R),DV S (f a) K=K (g a)) {l:List α} {k:Nat} (hk:k<l.length) (K:Sh.V S->R):bf S (l.map f) (k:Int) K=K (g l[k]):=by grind [eH]
theorem a7L {l:List kK} {k:Nat} (hk:k<l.length) (K:Sh.V S4->R):bf S4 (l.map yH) (k:Int) K=K (rF l[k]):=xC (g:=rF) (fun _ _=>rfl) hk K
theorem UH {l:List Vr} {k:Nat} (hk:k<l.length) (K:Sh.V S7->R):bf S7 (l.map kE) (k:Int) K=K (Iy l[k]):=xC (g:=Iy) (fun _ _=>rfl) hk K
theorem Zn {l:List (Int×EX)} {k:Nat} (hk:k<l.length) (K:Sh.V yh->R):bf yh (l.map pUp) (k:Int) K=K (vUp l[k]):=xC (g:=vUp) (fun _ _=>rfl) hk K
theorem aN6 {l:List Mv} {k:Nat} (hk:k<l.length) (K:Sh.V S9->R):bf S9 (l.map AO) (k:Int) K=K (uF l[k]):=xC (g:=uF) (fun _ _=>rfl) hk K
theorem Zm {l:List Tm} {k:Nat} (hk:k<l.length) (K:Sh.V S5->R):bf S5 (l.map yI) (k:Int) K=K (yM l[k]):=xC (g:=yM) (fun _ _=>rfl) hk K
theorem Om {l:List Ins} {k:Nat} (hk:k<l.length) (K:Sh.V S8->R):bf S8 (l.map iQ) (k:Int) K=K (vIn l[k]):=xC (g:=vIn) (fun _ _=>rfl) hk K
theorem a7M {l:List (Nm×Nm)} {k:Nat} (hk:k<l.length) (K:Sh.V Ea->R):bf Ea (l.map BZ) (k:Int) K=K (vLc l[k]):=xC (g:=vLc) (fun _ _=>rfl) hk K
theorem UE {l:List qG} {k:Nat} (hk:k<l.length) (K:Sh.V mD->R):bf mD (l.map zT) (k:Int) K=K (EL l[k]):=xC (g:=EL) (fun _ _=>rfl) hk K
theorem a7O {l:List (Nm×Int)} {k:Nat} (hk:k<l.length) (K:Sh.V Gm->R):bf Gm (l.map IU) (k:Int) K=K (vTr l[k]):=xC (g:=vTr) (fun _ _=>rfl) hk K
theorem Zk {l:List Cst} {k:Nat} (hk:k<l.length) (K:Sh.V kz->R):bf kz (l.map xI) (k:Int) K=K (xQ l[k]):=xC (g:=xQ) (fun _ _=>rfl) hk K
theorem Di {l:List Nm} {k:Nat} (hk:k<l.length) (K:PV->R):eH (aK l) (k:Int) K=K (.str (bs l[k])):=sD (by omega) (aOK hk)
theorem Oo {l:List Int} {k:Nat} (hk:k<l.length) (K:PV->R):eH (fV l) (k:Int) K=K (bT6 l[k]):=sD (by omega) (by rw[oM,kJ,jF hk]; rfl)
theorem aB4 (l:List Nm) (k:Nat):(aK l).take k=aK (l.take k):=by grind [qC,List.map_take]
theorem iR (l:List Nm):(aK l).length=l.length:=bH4 l
theorem a0X (a b:List Nm):aK a ++ aK b=aK (a ++ b):=by grind [qC]
abbrev bZ (e:Int):R:=some (bT6 e,[])
def xM (v:Nat->Int):Nat->Nat->Int
 | _,0=>0
 | k,m+1=>if v k=0 then xM v (k+1) m else v k
def oP (v:Nat->Int) (n:Nat):Int:=xM v 0 n
def sq (a b:Int):Int:=if a=0 then b else a
theorem aR0 {v w:Nat->Int}:∀ (m k:Nat),(∀ i,k<=i->i<k+m->v i=w i)->xM v k m=xM w k m
 | 0,_,_=>rfl
 | m+1,k,h=>by rw[xM,xM,h k (cu _) (by omega),aR0 m (k+1) fun i a b=>h i (by omega) (by omega)]
theorem aUX {v w:Nat->Int} {n:Nat} (h:∀ i,i<n->v i=w i):oP v n=oP w n:=aR0 n 0 fun i _ b=>h i (by omega)
theorem aR2 {L:Nat->R} {E:R} {v:Nat->Int} {n:Nat} (hs:∀ k,k<n->L k=aA (v k != 0) (bZ (v k)) (L (k+1))) (he:L n=E):∀ (m k:Nat),k+m=n->L k=aA (xM v k m != 0) (bZ (xM v k m)) E
 | 0,k,h=>by
  have:k=n:=by omega
  subst this;rw[he]; rfl
 | m+1,k,h=>by rw[hs k (by omega),aR2 hs he m (k+1) (by omega),xM];grind [aC,aH]
theorem aNM {L:Nat->R} {E:R} {v:Nat->Int} {n:Nat} (hs:∀ k,k<n->L k=aA (v k != 0) (bZ (v k)) (L (k+1))) (he:L n=E):L 0=aA (oP v n != 0) (bZ (oP v n)) E:=aR2 hs he n 0 (by omega)
theorem JU (e:Int):aA (e != 0) (bZ e) (bZ 0)=bZ e:=by
 by_cases h:e=0;simp_all
 .rw[JS h,aH]
theorem Dk {L:Nat->R} {v:Nat->Int} {n:Nat} (hs:∀ k,k<n->L k=aA (v k != 0) (bZ (v k)) (L (k+1))) (he:L n=bZ 0):L 0=bZ (oP v n):=(aNM hs he).trans (JU _)
theorem aDU {L:Nat->R} {p:Nat->Bool} {n:Nat} {h:aG} (hs:∀ k,k<n->L k=aA (p k) (some (bT6 (k:Int),h)) (L (k+1))) (he:L n=some (bT6 (-1),h)):∀ (m k:Nat),k+m=n->∃ r,L k=some (bT6 r,h)/\decide (0<=r)=(List.range' k m).any p
 | 0,k,e=>by simp_all
 | m+1,k,e=>by
  rw[hs k (by omega),a1P,QN];cases hp:p k with
  | true=>simp
  | false =>rw[aC,Bool.false_or];exact aDU hs he m (k+1) (by omega)
def xq (p:Nat->Bool) (n:Nat):Bool:=(List.range' 0 n).any p
theorem loopA {L:Nat->R} {p:Nat->Bool} {n:Nat} {h:aG} (hs:∀ k,k<n->L k=aA (p k) (some (bT6 (k:Int),h)) (L (k+1))) (he:L n=some (bT6 (-1),h)):∃ r,L 0=some (bT6 r,h)/\decide (0<=r)=xq p n:=aDU hs he n 0 (by omega)
theorem aQ' {p:Nat->Bool} {c:Int}:∀ (m k:Nat),xM (fun k=>bif p k then c else 0) k m=bif (List.range' k m).any p then c else 0
 | 0,_=>rfl
 | m+1,k=>by rw[xM,a1P,QN,aQ' m (k+1)];grind
theorem Wu {p:Nat->Bool} {c:Int} {n:Nat}:oP (fun k=>bif p k then c else 0) n=bif xq p n then c else 0:=aQ' n 0
theorem VC {b:Bool} {c w:Int} {X:R} (hc:c≠0):aA ((bif b then c else w) != 0) (bZ (bif b then c else w)) X=aA b (bZ c) (aA (w != 0) (bZ w) X):=by
 cases b with
 | false=>rfl
 | true=>rw[GX,JS hc,aH,aH]
theorem st2 {b:Bool} {w:Int} {X:R}:aA ((bif b then 2 else w) != 0) (bZ (bif b then 2 else w)) X=aA b (bZ 2) (aA (w != 0) (bZ w) X):=VC (by decide)
theorem st5 {b:Bool} {w:Int} {X:R}:aA ((bif b then 5 else w) != 0) (bZ (bif b then 5 else w)) X=aA b (bZ 5) (aA (w != 0) (bZ w) X):=VC (by decide)
theorem st7 {b:Bool} {w:Int} {X:R}:aA ((bif b then 7 else w) != 0) (bZ (bif b then 7 else w)) X=aA b (bZ 7) (aA (w != 0) (bZ w) X):=VC (by decide)
theorem st8 {b:Bool} {w:Int} {X:R}:aA ((bif b then 8 else w) != 0) (bZ (bif b then 8 else w)) X=aA b (bZ 8) (aA (w != 0) (bZ w) X):=VC (by decide)
theorem bMT {b:Bool} {w:Int} {X:R}:aA ((bif b then 13 else w) != 0) (bZ (bif b then 13 else w)) X=aA b (bZ 13) (aA (w != 0) (bZ w) X):=VC (by decide)
theorem stq {a w:Int} {X:R}:aA (sq a w != 0) (bZ (sq a w)) X=aA (a != 0) (bZ a) (aA (w != 0) (bZ w) X):=by grind [sq,aC,aH]
theorem st0 {X:R}:aA ((0:Int) != 0) (bZ 0) X=X:=rfl
theorem yl {b:Bool} {x y:Int}:aA b (bZ x) (bZ y)=bZ (bif b then x else y):=by cases b<;>rfl
theorem Pv (a:Int):sq a 0=a:=by grind [sq]
theorem yO (b:Bool) (c:Int):SS.CC 69 [.bool b,bT6 c] []=bZ (bif b then c else 0):=by rw[bAQ,yl]
def vP (l:List Nm) (s:Nm):Int:=bif !nameB s then 7 else bif decide (s∈l) then 8 else 0
theorem a5V (l:List Nm) (hn:l.length<=1000) (s:Nm):SS.CC 25 [bT7 (aK l),.str (bs s)] []=some (.bool (decide (s∈l)),[]):=by rw[hasc (qw l) (by rw[aX]; omega) (bs s)];rw[decide_eq_decide.2 (aKT l 0)]
theorem aP2 (n:Int):SS.CC 194 [bT6 n] []=some (.bool (decide (n < -65536)||decide (65536<n)),[]):=by rw[b2R];cases decide (n < -65536)<;>rfl
theorem a7P (v:Int):SS.CC 203 [bT6 v,bT6 65536] []=some (.bool (decide (65536<v)||decide (v < -65536)),[]):=by rw[aHK,wrap64 (by decide) (by decide)];cases decide ((65536:Int)<v)<;>rfl
def Rh (l:List Int) (n:Int):Int:=oP (fun k=>bif decide (l.getD k 0<0) then 2 else bif decide (n<=l.getD k 0) then 2 else bif decide ((0:Int)<(k:Int))&&decide (l.getD k 0<=l.getD (k-1) 0) then 5 else 0) l.length
theorem gD {α:Type} {l:List α} {k:Nat} (h:k<l.length) (d:α):l.getD k d=l[k]:=by simp[h]
theorem csc (l:List Int) (hn:l.length<=1000) (n:Int):SS.CC 159 [bT7 (fV l),bT6 n] []=bZ (Rh l n):=by
 rw[a_X];refine Dk (L:=fun k=>SI (fV l) n (k:Int)) (fun k hk => ?_) ?_
 .rw[aGZ,aO (by rw[aX]; omega),aH,Oo hk,bu (by omega),gD hk 0];simp only[st2,st5,st0];show aA _ _ (aA _ _ (aA _ _ _))=_;cases hz:decide ((0:Int)<(k:Int)) with
  | false=>rfl
  | true =>
   have h0:0<k:=by grind
   have e1:(k:Int)-1=((k-1:Nat):Int):=by omega
   have hk1:k-1<l.length:=by omega
   rw[aH,wrap64 (by omega) (by omega),e1,Oo hk1,gD hk1 0];rfl
 grind [aGZ,aC]
theorem a2S {α:Type} (f:α->Bool) (l:List α) (d:α):xq (fun k=>f (l.getD k d)) l.length=l.any f:=by
 unfold xq;rw[WE,List.any_eq_true,List.any_eq_true];constructor
 .rintro ⟨k,hk,h⟩;rw[List.mem_range'_1] at hk;have hk':k<l.length:=by omega
  rw[gD hk'] at h;exact ⟨_,gG hk',h⟩
 .rintro ⟨x,hx,h⟩;obtain ⟨k,hk,e⟩:=aCB hx;refine ⟨k,List.mem_range'_1.2 (by omega),?_⟩;rw[gD hk,e]; exact h
theorem RV {A:R}:chk (true&&true) A=A:=rfl
def Dt (l:List Nm):Int:=oP (fun k=>vP (l.take k) (l.getD k [])) l.length
theorem nsc (l:List Nm) (h:CZ l):SS.CC 177 [bT7 (aK l)] []=bZ (Dt l):=by
 rw[b1L];refine Dk (L:=fun k=>YM (aK l) (k:Int)) (fun k hk => ?_) ?_
 .have h1:(l.take k).length<=1000:=by have:=h.1; rw[wI]; omega
  rw[aHB,aO (by rw[iR]; omega),aH,Di hk,nY,bu (by omega),gD hk []];rw[bV (KQ _ (h.2 _ (gG hk))),aO (show (0:Int)<=k by omega),aO (show (k:Int)<=(aK l).length by rw[iR]; omega),RV,oM,aB4,bV (a5V _ h1 _)];unfold vP;simp only[st7,st8,st0]
 .rw[aHB,aV (by rw[iR]; omega),aC]
def big (x:Int):Bool:=decide (65536<x)||decide (x < -65536)
def Vm (pre:List Vr) (v:Vr):Int:=bif !nameB v.n then 7 else bif decide (v.n∈pre.map (·.n)) then 8 else bif big v.lo then 2 else bif big v.hi then 2 else bif decide (v.hi<v.lo) then 5 else bif decide (v.i<v.lo) then 2 else bif decide (v.hi<v.i) then 2 else 0
def dV:Vr:=⟨[],0,0,0⟩
def JY (vs:List Vr):Int:=bif decide ((16:Int)<(vs.length:Int)) then 3 else oP (fun k=>Vm (vs.take k) (vs.getD k dV)) vs.length
theorem aEA (a b:Nm):((bs a).toList==(bs b).toList)=decide (a=b):=by rw[H6,H6]; by_cases h:a=b<;>simp[h]
theorem aY3 (l:List Vr) (hn:l.length<=1000) (v:Vr):SS.CC 186 [.sl false 4 (l.map kE),.func (.func 237) [] [bT8]] [O7 (Iy v)]=some (.bool (decide (v.n∈l.map (·.n))),[O7 (Iy v)]):=by
 have hl:∃ r,Si (l.map kE) (Iy v) ((0:Nat):Int)=some (bT6 r,[O7 (Iy v)])/\decide (0<=r)=xq (fun k=>decide ((l.getD k dV).n=v.n)) l.length:=by
  refine loopA (L:=fun k=>Si (l.map kE) (Iy v) (k:Int)) (fun k hk => ?_) ?_
  .rw[aHX,aO (by rw[aX]; omega),aH,UH hk,aCX (b46 _ _),bu (by omega),gD hk dV,aEA]
  .rw[aHX,aV (by rw[aX]; omega),aC]
 obtain ⟨r,e1,e2⟩:=hl;rw[b1Z,aU1 ((b4T _ _).trans e1),e2,a2S (fun w:Vr=>decide (w.n=v.n)) l dV];have:(l.any fun w=>decide (w.n=v.n))=decide (v.n∈l.map (·.n)):=by rw[WE]; simp
 rw[this]
theorem cvc (vs:List Vr) (hn:vs.length<=1000) (hs:∀ v,v∈vs->v.n.length<=1000):SS.CC 160 [.sl false 4 (vs.map kE)] []=bZ (JY vs):=by
 rw[b03];unfold JY;rw[aX,<- yl];congr 1
 refine Dk (L:=fun k=>YG (vs.map kE) (k:Int)) (fun k hk => ?_) ?_
 .have h1:(vs.take k).length<=1000:=by rw[wI]; omega
  rw[aG',aO (by rw[aX]; omega),aH,UH hk,bu (by omega),gD hk dV];rw[bV (KQ _ (hs _ (gG hk))),aO (show (0:Int)<=k by omega),aO (show (k:Int)<=(vs.map kE).length by rw[aX]; omega),RV,oM,<- MH,aCX (aY3 _ h1 _),bV (a7P _),bV (a7P _)];unfold Vm big;simp only[st7,st8,st2,st5,st0]
 .rw[aG',aV (by rw[aX]; omega),aC]
def evE (pre:List kK) (e:kK):Int:=bif !nameB e.n then 7 else bif decide (e.n∈pre.map (·.n)) then 8 else bif decide (e.k<0) then 2 else bif decide (4<e.k) then 2 else bif (e.k != 0)&&e.c then 13 else bif (e.k != 0)&&e.o then 13 else 0
def dE:kK:=⟨[],false,false,false,0⟩
def NP (es:List kK):Int:=bif decide ((32:Int)<(es.length:Int)) then 3 else oP (fun k=>evE (es.take k) (es.getD k dE)) es.length
def vX:List Nm->bTA
 | [] => []
 | a::l => .str (bs a) :: .bool true::vX l
theorem Xh (a b:Nm):eqK none (.str (bs a)) (.str (bs b))=some (decide (a=b)):=by show some ((bs a).data.toList==(bs b).data.toList)=_;rw[show (bs a).data.toList=a from by simp[bs],show (bs b).data.toList=b from by simp[bs]];by_cases h:a=b<;>simp[h]
theorem aJW (q:Nm):∀ l:List Nm,xE none (vX l) (.str (bs q))=some (if q∈l then some (.bool true) else none)
 | []=>rfl
 | a::l=>by
  rw[vX,xE,Xh,aJW q l];by_cases h:q=a
  .simp[h]
  .simp[h]
theorem aOY (q:Nm):∀ l:List Nm,qo none (vX l) (.str (bs q))=true
 | []=>rfl
 | a::l=>by rw[vX,qo,Xh,aOY q l]; rfl
theorem aO4 (q:Nm):∀ l:List Nm,nD none (vX l) (.str (bs q)) (.bool true)=vX l
 | []=>rfl
 | a::l=>by
  rw[vX,nD,Xh,aO4 q l];by_cases h:q=a
  .rw[aO h,h]
  .rw[aV h]
theorem aL5 (q:Nm):∀ l:List Nm,∃ l',oG (vX l) (.str (bs q)) (.bool true)=vX l'/\∀ x,x∈l'↔x=q\/x∈l
 | []=>⟨[q],rfl,by simp⟩
 | a::l=>by
  obtain ⟨l',h1,h2⟩:=aL5 q l;rw[vX,oG,h1];split
  .exact ⟨q::a::l,rfl,by simp⟩
  .exact ⟨a::l',rfl,fun x=>by
    rw[jV,jV,h2];constructor
    .rintro (h | h | h)
     .exact .inr (.inl h)
     .exact .inl h
     .exact .inr (.inr h)
    .rintro (h | h | h)
     .exact .inr (.inl h)
     .exact .inl h
     .exact .inr (.inr h)⟩
def Ov (l:List kK):bTA:=l.foldl (fun L e=>jW none L (.str (bs e.n)) (.bool true)) []
theorem aKH (q:Nm):∀ l:List Nm,sF none (vX l) (.str (bs q))=decide (q∈l)
 | []=>rfl
 | a::l=>by
  rw[vX,sF,Xh,aKH q l];by_cases h:q=a
  .simp[h]
  .simp[h]
theorem bKA (q:Nm) (l:List Nm):∃ l',jW none (vX l) (.str (bs q)) (.bool true)=vX l'/\∀ x,x∈l'↔x=q\/x∈l:=by
 unfold jW;rw[aKH];by_cases h:q∈l
 .rw[aO h];exact ⟨l,aO4 q l,fun x=>⟨.inr,fun c=>c.elim (fun e=>e▸h) id⟩⟩
 .rw[aV h];exact aL5 q l
theorem aNU (l:List kK):∀ k,k<=l.length->∃ l',Ov (l.take k)=vX l'/\∀ x,x∈l'↔x∈(l.take k).map (·.n)
 | 0,_=>⟨[],rfl,by simp⟩
 | k+1,hk=>by
  obtain ⟨l',h1,h2⟩:=aNU l k (by omega);have hk':k<l.length:=by omega
  obtain ⟨l2,h3,h4⟩:=bKA (l[k]).n l';refine ⟨l2,?_,fun x => ?_⟩
  .rw[GR hk'];unfold Ov at h1 ⊢;rw[aC7,h1];exact h3
  .rw[h4,h2,GR hk'];simp only[lq,qQ,oN,List.map_nil,uI];exact or_comm
theorem bGF (l:List kK) {k:Nat} (hk:k<l.length):Ov (l.take (k+1))=jW none (Ov (l.take k)) (.str (bs l[k].n)) (.bool true):=by rw[GR hk];unfold Ov;rw[aC7]; rfl
theorem acc (es:List kK) (hn:es.length<=1000) (hs:∀ e,e∈es->e.n.length<=1000):SS.CC 46 [.sl false 5 (es.map yH)] []=bZ (NP es):=by
 rw[b8W];unfold NP;rw[aX,<- yl];congr 1
 refine Dk (L:=fun k=>TE (es.map yH) (k:Int) (Ov (es.take k))) (fun k hk => ?_) ?_
 .obtain ⟨l',h1,h2⟩:=aNU es k (by omega);rw[aJ6,aO (by rw[aX]; omega),aH,a7L hk,bu (by omega),gD hk dE];rw[bV (KQ _ (hs _ (gG hk)))];rw[bGF es hk,h1];dsimp only;rw[aOY];unfold IA;rw[aJW];have hm:decide ((es[k]).n∈(es.take k).map (·.n))=decide ((es[k]).n∈l'):=decide_eq_decide.2 (h2 _).symm;unfold evE;rw[hm];simp only[st7,st8,st2,bMT,st0];congr 1
  by_cases h:(es[k]).n∈l'
  .rw[aS h,aO h,aH]; rfl
  .rw[aQ h,aV h,aC];dsimp only;congr 1
   congr 1
   cases hk0:(es[k]).k != 0 with
   | false=>rfl
   | true =>rw[aH,Aa,Aa];rfl
 .rw[aJ6,aV (by rw[aX]; omega),aC]
def zo (x:EX) (n:Int):Int×Int:=match SS.CC 27 [A1 (ev x),bT6 n] [] with
 | some (.tuple [.int _ k,.int _ e],_)=>(k,e)
 | _=>(0,0)
theorem XX {x:EX} (hx:x.Len) {n:Int} (h0:0<=n):SS.CC 27 [A1 (ev x),bT6 n] []=some (.tuple [bT6 (zo x n).1,bT6 (zo x n).2],[]):=by
 have:∃ k e,SS.CC 27 [A1 (ev x),bT6 n] []=some (.tuple [bT6 k,bT6 e],[]):=by
  by_cases h1:n<=16
  .obtain ⟨k,e,h,_⟩:=a3I hx h0 h1;exact ⟨k,e,h⟩
  .rw[a4V,aV (by omega),aC,aO (by omega),aH];exact ⟨_,_,rfl⟩
 obtain ⟨k,e,h⟩:=this;have e2:zo x n=(k,e):=by unfold zo; rw[h]
 rw[h,e2]
def zZ (x:EX) (n want:Int):Int:=bif (zo x n).2==0 then (bif (zo x n).1 != want then 16 else 0) else (zo x n).2
theorem aSY {x:EX} (hx:x.Len) {n:Int} (h0:0<=n) (w:Int):SS.CC 248 [A1 (ev x),bT6 n,bT6 w] []=bZ (zZ x n w):=by
 rw[b4U,aTN (XX hx h0)];dsimp only;rw[eP (yO _ _)];unfold zZ;by_cases he:(zo x n).2=0
 .rw[he,zn rfl,aC]; rfl
 .rw[JS he,aH,show ((zo x n).2==0)=false by simpa using he,yX]
def dU:Int×EX:=(0,zE)
def Ld (nv:Int) (us:List (Int×EX)) (k:Nat):Int:=bif decide ((us.getD k dU).1<0) then 2 else bif decide (nv<=(us.getD k dU).1) then 2 else bif decide ((0:Int)<(k:Int))&&decide ((us.getD k dU).1<=(us.getD (k-1) dU).1) then 5 else zZ (us.getD k dU).2 nv 1
def usE (nv:Int) (us:List (Int×EX)):Int:=oP (Ld nv us) us.length
def Oz (nl ne nv:Int) (x:Mv):Int:=bif decide (x.f<0) then 2 else bif decide (nl<=x.f) then 2 else bif decide (x.e<0) then 2 else bif decide (ne<=x.e) then 2 else bif decide (x.t<0) then 2 else bif decide (nl<=x.t) then 2 else sq (zZ x.g nv 2) (usE nv x.us)
theorem bP1 {nv:Int} {us:List (Int×EX)} (hn:us.length<=1000) {k:Nat} (hk:k<us.length) {J X:R} (hJ:J=aA (zZ (us[k]).2 nv 1 != 0) (bZ (zZ (us[k]).2 nv 1)) X) :
 aA (decide ((us[k]).1<0)) (bZ 2) (aA (decide (nv<=(us[k]).1)) (bZ 2) (aA (decide ((0:Int)<(k:Int))) (bf yh (us.map pUp) (i64.wrap ((k:Int)-1)) fun u8=>aA (decide ((us[k]).1<=u8.1)) (bZ 5) J) J))=aA (Ld nv us k != 0) (bZ (Ld nv us k)) X:=by
 unfold Ld;simp only[gD hk dU,st2,st5];rw[<- hJ];cases hz:decide ((0:Int)<(k:Int)) with
 | false=>rfl
 | true =>
  have h0:0<k:=by simpa using hz
  have e1:(k:Int)-1=((k-1:Nat):Int):=by omega
  have hk1:k-1<us.length:=by omega
  rw[aH,wrap64 (by omega) (by omega),e1,Zn hk1,gD hk1 dU];rfl
abbrev kH (t:Tm):Sh.V S6:=(fV t.al,t.L,t.I,fV t.mr,t.vs.map kE,t.ms.map AO,())
theorem dn {α β:Type} (f:α->β) (l:List α):((l.map f).length:Int)=(l.length:Int):=by rw[aX]
def dM:Mv:=⟨0,0,0,zE,[]⟩
def UQ (nl ne nv:Int) (ms:List Mv):Int:=oP (fun k=>Oz nl ne nv (ms.getD k dM)) ms.length
def rvE (v:Vr):Int:=bif v.n==nH then 7 else bif v.n==pz then 7 else 0
def rsE (vs:List Vr):Int:=oP (fun k=>rvE (vs.getD k dV)) vs.length
def NR (al:List Int):Int:=oP (fun k=>bif al.getD k 0 !=(k:Int) then 6 else 0) al.length
def P5 (n:Int):Int:=if (1:Int)>n then 1 else n
def Fj (t:Tm):Int:=sq (Dt t.es) (sq (Dt t.ls) (bif (t.al.length:Int) !=(t.es.length:Int) then 6 else sq (NR t.al) (bif t.L !=(t.ls.length:Int) then 4 else bif decide (t.I<0) then 2 else bif decide (P5 (t.ls.length:Int)<=t.I) then 2 else sq (Rh t.mr (t.ls.length:Int)) (sq (JY t.vs) (sq (rsE t.vs) (UQ (t.ls.length:Int) (t.es.length:Int) (t.vs.length:Int) t.ms))))))
theorem Dp {α:Type} (f:α->Nm) (l:List α) {k:Nat} (hk:k<l.length):aK ((l.take k).map f) ++ ([.str (bs (f l[k]))]:bTA)=aK ((l.take (k+1)).map f):=by rw[GR hk,lq,<- a0X]; rfl
theorem gz {l:bTA} (h:l.length<=1000):decide (l.length+1<=bC)=true:=aO (by show l.length+1<=1073741824; omega)
theorem UK {a b:Nat} (h:a<=1000) (h2:b<=1000):decide (a+b<=bC)=true:=aO (by show a+b<=1073741824; omega)
theorem Dq {α:Type} (f:α->Nm) (l:List α) (k:Nat) (h:l.length<=1000):(aK ((l.take k).map f)).length<=1000:=by rw[iR,aX,wI]; omega
def a01 (l:List Nm):Int:=oP (fun k=>bif !nameB (l.getD k []) then 7 else 0) l.length
def inE (pre:List Ins) (x:Ins):Int:=sq (vP (pre.map (·.n)) x.n) (a01 (x.t::x.es))
def dI:Ins:=⟨[],[],[]⟩
def Ti (l:List Ins):Int:=oP (fun k=>inE (l.take k) (l.getD k dI)) l.length
theorem a3J (l:List Ins) (hn:l.length<=1000):SS.CC 45 [.sl false 3 (l.map iQ)] []=some (.sl true 3 (l.map iQ),[]):=by
 rw[b8S];refine aOG ?_ fun h => ?_
 .rw[show (false==true)=false from rfl,aC,au (by rw[aX]; exact UK (by decide) hn)]
 .rw[show (true==true)=true from rfl,aH,h]
def lcE (l:Nm×Nm):Int:=bif !nameB l.1 then 7 else bif !nameB l.2 then 7 else 0
def dL:Nm×Nm:=([],[])
def Zf (ls:List (Nm×Nm)):Int:=oP (fun k=>lcE (ls.getD k dL)) ls.length
def exE (pre:List qG) (x:qG):Int:=sq (vP (pre.map (·.n)) x.n) (bif (x.ls.length:Int)==0 then 12 else Zf x.ls)
def dX:qG:=⟨[],[]⟩
def WA (l:List qG):Int:=oP (fun k=>exE (l.take k) (l.getD k dX)) l.length
def trE (t:Nm×Int):Int:=bif !nameB t.1 then 7 else bif decide (t.2 < -65536) then 2 else bif decide (65536<t.2) then 2 else 0
def dR:Nm×Int:=([],0)
def a1C (ls:List (Nm×Int)):Int:=oP (fun k=>trE (ls.getD k dR)) ls.length
def Gy (b:Int):Int:=bif decide (b < -65536) then 2 else bif decide (65536<b) then 2 else 0
def ctE (pre:List Cst) (x:Cst):Int:=sq (vP (pre.map (·.n)) x.n) (bif (x.ts.length:Int)==0 then 12 else sq (a1C x.ts) (Gy x.b))
def dK:Cst:=⟨[],[],0⟩
def U5 (l:List Cst):Int:=oP (fun k=>ctE (l.take k) (l.getD k dK)) l.length
def tpE (pre:List Tm) (t:Tm):Int:=sq (vP (pre.map (·.n)) t.n) (Fj t)
def dT:Tm:=⟨[],[],[],[],0,0,[],[],[]⟩
def VO (l:List Tm):Int:=oP (fun k=>tpE (l.take k) (l.getD k dT)) l.length
def Ej (m:Mo):Int:=bif !nameB m.n then 7 else sq (NP m.es) (bif decide ((16:Int)<(m.ts.length:Int)) then 3 else bif decide ((32:Int)<(m.cs.length:Int)) then 3 else bif decide ((32:Int)<(m.rs.length:Int)) then 3 else bif decide ((32:Int)<(m.xs.length:Int)) then 3 else bif decide ((32:Int)<(m.ks.length:Int)) then 3 else sq (VO m.ts) (sq (Ti (m.cs ++ m.rs)) (sq (WA m.xs) (U5 m.ks))))
def fnP (f:FuncId×bTA×Int):PV := .func (.func f.1) [] f.2.1
def Pq:List Int->Int
 | []=>0
 | a::l=>sq a (Pq l)
theorem aG1 (all:List (FuncId×bTA×Int)) (hn:all.length<=1000) (h:∀ f,f∈all->SS.CC f.1 f.2.1 []=bZ f.2.2/\PV.flats f.2.1=true):∀ (l:List (FuncId×bTA×Int)) (k:Nat),all.drop k=l->Yx (all.map fnP) (k:Int)=bZ (Pq (l.map (·.2.2)))
 | [],k,e=>by have:all.length<=k:=MC.1 e;rw[aJO,aV (by rw[dn]; omega),aC]; rfl
 | f::l,k,e=>by obtain ⟨k1,k2,k3⟩:=drop_cons e;obtain ⟨h1,h2⟩:=h f (by rw[<- k2]; exact gG k1);rw[aJO,aO (by rw[dn]; omega),aH,sD (e:=fnP f) (by omega) (by rw[oM,kJ,jF k1,k2]; rfl),bu (by omega),aG1 all hn h l (k+1) k3];show chk (true&&true) (chk (PV.flats f.2.1) (jJ SS.CC f.1 f.2.1 _))=_;rw[RV,au h2,rZ h1 (v:=bZ (Pq ((f::l).map (·.2.2)))) ?_];rw[wE];show _=bZ (sq f.2.2 (Pq (l.map (·.2.2))));rw[<- JU (sq _ _),stq,JU]
theorem Nu (all:List (FuncId×bTA×Int)) (hn:all.length<=1000) (h:∀ f,f∈all->SS.CC f.1 f.2.1 []=bZ f.2.2/\PV.flats f.2.1=true):SS.CC 67 [bT7 (all.map fnP)] []=bZ (Pq (all.map (·.2.2))):=(bAO _).trans (aG1 all hn h all 0 rfl)
theorem oC {L:Nat->R} {E:R} {n:Nat} (hs:∀ k,k<n->L k=L (k+1)) (he:L n=E):L 0=E:=by
 have:∀ (m k:Nat),k+m=n->L k=E:=by
  intro m;induction m with
  | zero=>intro k h; rw[<- he]; congr 1
  | succ m ih=>intro k h; rw[hs k (by omega)]; exact ih (k+1) (by omega)
 exact this n 0 (by omega)
def X3 (l:List Nm):Bool:=xq (fun k => !nameB (l.getD k [])) l.length
theorem aDR (l:List Nm) (hn:l.length<=2000) (hl:∀ s,s∈l->s.length<=1000):SS.CC 84 [bT7 (aK l)] []=some (.bool (!X3 l),[]):=by
 have e:∃ r,SH (aK l) ((0:Nat):Int)=some (bT6 r,[])/\decide (0<=r)=X3 l:=by
  refine loopA (L:=fun k=>SH (aK l) (k:Int)) (fun k hk => ?_) ?_
  .rw[aGY,aO (by rw[iR]; omega),aH,Di hk,nY,bV ((b2M _).trans (bV (KQ _ (hl _ (gG hk))))),bu (by omega),gD hk []]
  .rw[aGY,aV (by rw[iR]; omega),aC]
 obtain ⟨r,e1,e2⟩:=e;rw[bBC,bV ((b8R _).trans (eP ((a_T _).trans e1))),e2]
theorem bH6 (l:List Nm):a01 l=bif X3 l then 7 else 0:=Wu
theorem bFC (l:List Nm) (hl:CZ l) {k:Nat} (hk:k<l.length):SS.CC 76 [bT7 (aK (l.take (k+1)))] []=bZ (vP (l.take k) l[k]):=by
 have hn:=hl.1;have hL:(l.take (k+1)).length=k+1:=by rw[wI]; omega
 have e0:i64.wrap (((aK (l.take (k+1))).length:Int)-1)=(k:Int):=by rw[iR,hL,wrap64 (by omega) (by omega)]; omega
 have hk':k<(l.take (k+1)).length:=by omega
 have e1:(l.take (k+1))[k]=l[k]:=by rw[List.getElem_take]
 rw[bA',e0,Di hk',e1,nY,bV (KQ _ (hl.2 _ (gG hk))),aO (show (0:Int)<=k by omega),aO (show (k:Int)<=(aK (l.take (k+1))).length by rw[iR]; omega),RV,oM,aB4,List.take_take,a1S (by omega)];rw[bV (a5V _ (by rw[wI]; omega) _),eP (yO _ _),yl];rfl
def uB (n:Nat):List Int:=(List.range n).map fun i:Nat=>(i:Int)
theorem aOV (n:Nat) (hn:n<=1000):SS.CC 180 [bT6 (n:Int)] []=some (bT7 (fV (uB n)),[]):=by
 rw[b1S];refine oC (n:=n) (L:=fun k=>YN (n:Int) (fV (uB k)) (k:Int)) (fun k hk => ?_) ?_
 .have hl:(fV (uB k)).length<=1000:=by unfold uB; rw[aX,aX,List.length_range]; omega
  rw[aHC,aO (by omega),aH,au (gz hl),bu (by omega)];congr 1
  unfold uB;rw[List.range_succ,lq];show _=fV (_ ++ [(k:Int)]);unfold fV;rw[lq]; rfl
 .rw[aHC,aV (by omega),aC]
theorem aAF (n:Nat):(uB n).length=n:=by unfold uB; rw[aX,List.length_range]
theorem bL3 {n k:Nat} (h:k<n):(uB n)[k]'(by rw[aAF]; exact h)=(k:Int):=by unfold uB; simp
theorem aYI (a:List Int) (n:Nat) (ha:a.length<=1000):SS.CC 139 [bT7 (fV a),bT7 (fV (uB n))] []=some (.bool (bif (a.length:Int) !=(n:Int) then false else !xq (fun k=>a.getD k 0 !=(k:Int)) a.length),[]):=by
 rw[a_P,dn,dn,aAF];by_cases h:a.length=n
 .have h0:((a.length:Int) !=(n:Int))=false:=by simp[h]
  rw[h0,aC,yX];have:∀ (m k:Nat),k+m=a.length->YF (fV a) (fV (uB n)) (k:Int)=some (.bool (!(List.range' k m).any fun k=>a.getD k 0 !=(k:Int)),[]):=by
   intro m;induction m with
   | zero =>intro k hk;rw[aGX,aV (by rw[dn]; omega),aC]; rfl
   | succ m ih =>
    intro k hk;have hk1:k<a.length:=by omega
    have hk2:k<(uB n).length:=by rw[aAF]; omega
    rw[aGX,aO (by rw[dn]; omega),aH,Oo hk1,wE,Oo hk2,wE,bL3 (by omega),bu (by omega),ih (k+1) (by omega),a1P,QN,gD hk1 0];cases a[k] !=(k:Int)<;>rfl
  exact this a.length 0 (by omega)
 .have h0:((a.length:Int) !=(n:Int))=true:=by simp; omega
  rw[h0,aH,GX]
theorem aXC (x:Mv) (nv:Int) (h0:0<=nv) (hl:x.us.length<=1000) (hu:∀ u,u∈x.us->u.2.Len):SN (uF x) nv 0=bZ (usE nv x.us):=by
 refine Dk (L:=fun i=>SN (uF x) nv (i:Int)) (fun i hi => ?_) ?_
 .rw[aHF,aO (show (i:Int)<((uF x).2.2.2.2.2.2.2.1.length:Int) by rw[dn]; omega),aH,Zn hi];refine bP1 hl hi ?_;rw[b2F,bu (by omega)];exact eP (aSY (hu _ (gG hi)) h0 1)
 .rw[aHF,aV (show ¬ (x.us.length:Int)<((uF x).2.2.2.2.2.2.2.1.length:Int) by rw[dn]; omega),aC]
theorem bGM (t:Tm) (x:Mv) (h1:x.g.Len) (hl:x.us.length<=1000) (hu:∀ u,u∈x.us->u.2.Len):SS.CC 191 [A5 (yM t),A9 (uF x)] []=bZ (Oz t.L (t.es.length:Int) (t.vs.length:Int) x):=by rw[b2L];dsimp only;rw[dn,iR,eP (aSY h1 (by omega) 2),aXC x _ (by omega) hl hu];unfold Oz;rw[<- yl,<- yl,<- yl,<- yl,<- yl,<- yl,<- JU (sq _ _),stq,JU]
theorem bGN (t:Tm) (h:Ak t):SS.CC 188 [.cst (A6 (kH t)),.cst (A5 (yM t))] []=bZ (UQ t.L (t.es.length:Int) (t.vs.length:Int) t.ms):=by
 rw[b23];suffices e:SS.CC 189 [.sl false 8 (kH t).2.2.2.2.2.1,.func (.func 190) [] [.cst (A5 (yM t)),.cst (A6 (kH t))]] []=bZ (UQ t.L (t.es.length:Int) (t.vs.length:Int) t.ms) from eP e
 refine (b2C _ _ _ _ _ _ _ _ _ _ _ _ _ _ _ _).trans ?_;rw[dn];refine Dk (L:=fun i=>YO _ _ _ _ _ _ _ _ _ _ _ _ _ _ _ (t.ms.length:Int) (i:Int)) (fun i hi => ?_) ?_
 .obtain ⟨h1,h2,h3⟩:=h.ms.2 _ (gG hi);rw[aHD,aO (by omega),aH,bu (by have:=h.ms.1; omega),gD hi dM];refine eP ?_;refine (b2E _ _ _).trans ?_;rw[show (kH t).2.2.2.2.2.1=t.ms.map AO from rfl,aN6 hi];exact eP (bGM t _ h1 h2 h3)
 .rw[aHD,aV (by omega),aC]
theorem Px {b:Bool} {c x:Int} (hc:c≠0):sq (bif b then c else 0) x=bif b then c else x:=by
 cases b with
 | false=>exact aS rfl
 | true=>exact aQ hc
def ZI (v:Vr):Bool:=v.n==nH||v.n==pz
theorem bLA (vs:List Vr):rsE vs=bif xq (fun k=>ZI (vs.getD k dV)) vs.length then 7 else 0:=by
 rw[<- Wu];unfold rsE;refine aUX fun i _ => ?_
 unfold rvE ZI;cases (vs.getD i dV).n==nH<;>rfl
theorem bK' (vs:List Vr) (hn:vs.length<=1000):SS.CC 186 [.sl false 4 (vs.map kE),.func (.func 187) [] []] []=some (.bool (xq (fun k=>ZI (vs.getD k dV)) vs.length),[]):=by
 have e:∃ r,SY (vs.map kE) ((0:Nat):Int)=some (bT6 r,[])/\decide (0<=r)=xq (fun k=>ZI (vs.getD k dV)) vs.length:=by
  refine loopA (L:=fun k=>SY (vs.map kE) (k:Int)) (fun k hk => ?_) ?_
  .rw[aHW,aO (by rw[dn]; omega),aH,UH hk,bV ((b21 _).trans (bV (aQ9 _))),bu (by omega),gD hk dV];rfl
  .rw[aHW,aV (by rw[dn]; omega),aC]
 obtain ⟨r,e1,e2⟩:=e;rw[b1Y,eP ((b4P _).trans e1),e2]
def eqA (al:List Int) (n:Nat):Bool:=bif (al.length:Int) !=(n:Int) then false else !xq (fun k=>al.getD k 0 !=(k:Int)) al.length
def iE (L I:Int):Int:=bif decide (I<0) then 2 else bif decide (P5 L<=I) then 2 else 0
def Y9 (t:Tm):List (FuncId×bTA×Int) := [(176,[.cst (A5 (yM t))],Dt t.es),(178,[.cst (A5 (yM t))],Dt t.ls),(179,[.cst (A6 (kH t)),.cst (A5 (yM t))],bif !eqA t.al t.es.length then 6 else 0),(181,[.cst (A6 (kH t)),.cst (A5 (yM t))],bif t.L !=(t.ls.length:Int) then 4 else 0),(182,[.cst (A6 (kH t))],iE t.L t.I),(183,[.cst (A6 (kH t))],Rh t.mr t.L),(184,[.cst (A6 (kH t))],JY t.vs),(185,[.cst (A6 (kH t))],rsE t.vs),(188,[.cst (A6 (kH t)),.cst (A5 (yM t))],UQ t.L (t.es.length:Int) (t.vs.length:Int) t.ms)]
theorem a'3 (t:Tm) (h:Ak t):∀ f,f∈Y9 t->SS.CC f.1 f.2.1 []=bZ f.2.2/\PV.flats f.2.1=true:=by
 intro f hf;simp only[Y9,jV,yS,yZ] at hf;rcases hf with rfl | rfl | rfl | rfl | rfl | rfl | rfl | rfl | rfl
 .exact ⟨(b1H _).trans (eP (nsc _ h.es)),rfl⟩
 .exact ⟨(b1M _).trans (eP (nsc _ h.ls)),rfl⟩
 .refine ⟨(b1N _ _).trans ?_,rfl⟩;rw[iR,wK (aOV _ h.es.1),bV (aYI t.al _ h.al),eP (yO _ _)];rfl
 .refine ⟨(b1T _ _).trans ?_,rfl⟩;rw[iR,eP (yO _ _)]
 .refine ⟨(b1U _).trans ?_,rfl⟩;rw[eP (yO _ _),eP (yO _ _)];show aA (decide (t.I<0)) (bZ 2) (bZ (bif decide (P5 t.L<=t.I) then 2 else 0))=_;rw[yl]; rfl
 .exact ⟨(b1V _).trans (eP (csc _ h.mr _)),rfl⟩
 .exact ⟨(b1W _).trans (eP (cvc _ h.vs.1 fun v hv=>(h.vs.2 v hv).1)),rfl⟩
 .refine ⟨(b1X _).trans ?_,rfl⟩;rw[bV (bK' t.vs h.vs.1),eP (yO _ _),bLA]
 .exact ⟨bGN t h,rfl⟩
theorem tmK (t:Tm):Pq ((Y9 t).map (·.2.2))=Fj t:=by
 show sq _ (sq _ (sq _ (sq _ (sq _ (sq _ (sq _ (sq _ (sq _ 0))))))))=_;rw[Pv,Px (by decide),Px (by decide)];unfold Fj;congr 2
 have ha:∀ X:Int,(bif !eqA t.al t.es.length then 6 else X)=bif (t.al.length:Int) !=(t.es.length:Int) then 6 else sq (NR t.al) X:=by
  intro X;unfold eqA NR;rw[Wu,Px (by decide)];cases (t.al.length:Int) !=(t.es.length:Int) with
  | true=>rfl
  | false=>rw[yX,yX,Bool.not_not]
 rw[ha];congr 2
 by_cases hL:t.L=(t.ls.length:Int)
 .rw[hL];have h0:((t.ls.length:Int) !=(t.ls.length:Int))=false:=by simp
  rw[h0,yX,yX];unfold iE;cases decide (t.I<0) with
  | true=>rfl
  | false =>rw[yX,yX,Px (by decide)]
 .have h0:(t.L !=(t.ls.length:Int))=true:=by simpa using hL
  rw[h0,GX,GX]
theorem bNK (t:Tm) (h:Ak t):SS.CC 78 [A5 (yM t)] []=bZ (Fj t):=by rw[bB3];have e:=Nu (Y9 t) (by show 9<=1000; decide) (a'3 t h);rw[tmK] at e;exact eP e
theorem aXH (l:List Ins) (hn:l.length<=1000):SS.CC 59 [.sl false 3 (l.map iQ),.func (.func 60) [] []] []=some (bT7 (aK (l.map (·.n))),[]):=by
 rw[b9T];refine oC (n:=l.length) (L:=fun k=>Yp (l.map iQ) (aK ((l.take k).map (·.n))) (k:Int)) (fun k hk => ?_) ?_
 .rw[aJH,aO (by rw[dn]; omega),aH,Om hk,wJ (b9U _),au (gz (Dq _ l k hn)),Dp (·.n) l hk,bu (by omega)]
 .rw[aJH,aV (by rw[dn]; omega),aC,yU (cu _)]
theorem aXJ (l:List Tm) (hn:l.length<=1000):SS.CC 61 [.sl false 9 (l.map yI),.func (.func 62) [] []] []=some (bT7 (aK (l.map (·.n))),[]):=by
 rw[bA1];refine oC (n:=l.length) (L:=fun k=>Yr (l.map yI) (aK ((l.take k).map (·.n))) (k:Int)) (fun k hk => ?_) ?_
 .rw[aJJ,aO (by rw[dn]; omega),aH,Zm hk,wJ (bA2 _),au (gz (Dq _ l k hn)),Dp (·.n) l hk,bu (by omega)]
 .rw[aJJ,aV (by rw[dn]; omega),aC,yU (cu _)]
theorem aXK (l:List qG) (hn:l.length<=1000):SS.CC 63 [.sl false 2 (l.map zT),.func (.func 64) [] []] []=some (bT7 (aK (l.map (·.n))),[]):=by
 rw[bAA];refine oC (n:=l.length) (L:=fun k=>Yu (l.map zT) (aK ((l.take k).map (·.n))) (k:Int)) (fun k hk => ?_) ?_
 .rw[aJL,aO (by rw[dn]; omega),aH,UE hk,wJ (bAB _),au (gz (Dq _ l k hn)),Dp (·.n) l hk,bu (by omega)]
 .rw[aJL,aV (by rw[dn]; omega),aC,yU (cu _)]
theorem aXI (l:List Cst) (hn:l.length<=1000):SS.CC 65 [.sl false 3 (l.map xI),.func (.func 66) [] []] []=some (bT7 (aK (l.map (·.n))),[]):=by
 rw[bAJ];refine oC (n:=l.length) (L:=fun k=>Yw (l.map xI) (aK ((l.take k).map (·.n))) (k:Int)) (fun k hk => ?_) ?_
 .rw[aJN,aO (by rw[dn]; omega),aH,Zk hk,wJ (bAK _),au (gz (Dq _ l k hn)),Dp (·.n) l hk,bu (by omega)]
 .rw[aJN,aV (by rw[dn]; omega),aC,yU (cu _)]
theorem Ze {α:Type} (f:α->Nm) (l:List α) (hn:l.length<=1000) (hs:∀ x,x∈l->(f x).length<=1000) {k:Nat} (hk:k<l.length) :
 chk (decide (0<=(i64.wrap ((k:Int)+1)))&&decide ((i64.wrap ((k:Int)+1))<=((aK (l.map f)).length:Int))) (G1 76 [bT7 ((aK (l.map f)).take (i64.wrap ((k:Int)+1)).toNat)] fun n1=>some (bT6 n1,[]))=bZ (vP ((l.take k).map f) (f l[k])):=by
 have hk2:k<(l.map f).length:=by rw[aX]; exact hk
 rw[bu (by omega),aO (by omega),aO (by rw[iR]; omega),RV,oM,aB4];rw[eP (bFC (l.map f) ⟨by rw[aX]; exact hn,fun s hs2=>by obtain ⟨x,hx,rfl⟩:=qR.1 hs2;exact hs x hx⟩ hk2),J8,MH]
theorem bNQ (m:Mo) (h:qX m) {k:Nat} (hk:k<m.ts.length):SS.CC 74 [bT6 (k:Int),.cst (bT7 (aK (m.ts.map (·.n)))),.cst (A0 (aW m))] []=bZ (tpE (m.ts.take k) m.ts[k]):=by
 have ht:=h.ts.2 _ (gG hk);rw[bAY];have e:=Nu [(75,[.cst (bT7 (aK (m.ts.map (·.n)))),.cst (bT6 (k:Int))],vP ((m.ts.take k).map (·.n)) (m.ts[k]).n),(77,[.cst (A0 (aW m)),.cst (bT6 (k:Int))],Fj m.ts[k])] (by simp) (by
  intro f hf;simp only[jV,yS,yZ] at hf;rcases hf with rfl | rfl
  .exact ⟨(bAZ _ _).trans (Ze (·.n) m.ts h.ts.1 (fun x hx=>(h.ts.2 x hx).1) hk),rfl⟩
  .refine ⟨(bB0 _ _).trans ?_,rfl⟩;rw[show (aW m).2.2.1=m.ts.map yI from rfl,Zm hk];exact eP (bNK _ ht.2))
 refine (eP e).trans ?_;show bZ (sq _ (sq _ 0))=_;rw[Pv]; rfl
theorem tsc (m:Mo) (h:qX m):SS.CC 72 [.cst (A0 (aW m)),.cst (bT7 (aK (m.ts.map (·.n))))] []=bZ (VO m.ts):=by
 rw[bAT];suffices e:SS.CC 73 [.sl false 9 (aW m).2.2.1,.func (.func 74) [] [.cst (bT7 (aK (m.ts.map (·.n)))),.cst (A0 (aW m))]] []=bZ (VO m.ts) from eP e
 refine (bAX _ _ _ _ _ _ _ _ _).trans ?_;rw[dn];refine Dk (L:=fun i=>Yy _ _ _ _ _ _ _ _ (m.ts.length:Int) (i:Int)) (fun i hi => ?_) ?_
 .rw[aJP,aO (by omega),aH,bu (by have:=h.ts.1; omega),gD hi dT];exact eP (bNQ m h hi)
 grind [aJP,aC]
theorem bDJ (l:List Ins) (hn:l.length<=1000) (h:∀ x,x∈l->x.n.length<=1000/\x.t.length<=1000/\CZ x.es) {k:Nat} (hk:k<l.length):SS.CC 81 [bT6 (k:Int),.cst (bT7 (aK (l.map (·.n)))),.cst (.sl false 3 (l.map iQ))] []=bZ (inE (l.take k) l[k]):=by
 obtain ⟨h1,h2,h4⟩:=h _ (gG hk);rw[bB9];have e:=Nu [(82,[.cst (bT7 (aK (l.map (·.n)))),.cst (bT6 (k:Int))],vP ((l.take k).map (·.n)) (l[k]).n),(83,[.cst (.sl false 3 (l.map iQ)),.cst (bT6 (k:Int))],a01 ((l[k]).t::(l[k]).es))] (by simp) (by
  intro f hf;simp only[jV,yS,yZ] at hf;rcases hf with rfl | rfl
  .exact ⟨(bBA _ _).trans (Ze (·.n) l hn (fun x hx=>(h x hx).1) hk),rfl⟩
  .refine ⟨(bBB _ _).trans ?_,rfl⟩;rw[Om hk,Om hk];dsimp only;rw[au (UK (by decide) (by rw[iR]; exact h4.1)),show ([.str (bs (l[k]).t)]:bTA) ++ aK (l[k]).es=aK ((l[k]).t::(l[k]).es) from rfl];rw[bV (aDR _ (by have:=h4.1; rw[bP]; omega) (fun s hs=>by grind)),eP (yO _ _),bH6,Bool.not_not])
 refine (eP e).trans ?_;show bZ (sq _ (sq _ 0))=_;rw[Pv]; rfl
theorem bDL (l:List Ins) (hn:l.length<=1000) (h:∀ x,x∈l->x.n.length<=1000/\x.t.length<=1000/\CZ x.es):SS.CC 79 [.cst (.sl false 3 (l.map iQ)),.cst (bT7 (aK (l.map (·.n))))] []=bZ (Ti l):=by
 rw[bB4];suffices e:SS.CC 80 [.sl false 3 (l.map iQ),.func (.func 81) [] [.cst (bT7 (aK (l.map (·.n)))),.cst (.sl false 3 (l.map iQ))]] []=bZ (Ti l) from eP e
 refine (bB8 _ _ _).trans ?_;rw[dn];refine Dk (L:=fun i=>Yz _ _ (l.length:Int) (i:Int)) (fun i hi => ?_) ?_
 .rw[aJQ,aO (by omega),aH,bu (by omega),gD hi dI];exact eP (bDJ l hn h hi)
 grind [aJQ,aC]
theorem bFE (ls:List (Nm×Nm)):Zf ls=bif xq (fun k => !nameB (ls.getD k dL).1 || !nameB (ls.getD k dL).2) ls.length then 7 else 0:=by rw[<- Wu];grind [Zf,lcE]
theorem aVL (l:Nm×Nm) (h1:l.1.length<=1000) (h2:l.2.length<=1000):SS.CC 92 [MN (vLc l)] []=some (.bool (!nameB l.1 || !nameB l.2),[]):=by have e:=aDR [l.1,l.2] (by simp) (fun s hs=>by grind);rw[bBN];refine (bV e).trans ?_;rw[Bool.not_not];unfold X3;rw[a2S (fun s => !nameB s) [l.1,l.2] []];simp
theorem bPP (m:Mo) (h:qX m) {k:Nat} (hk:k<m.xs.length):SS.CC 87 [bT6 (k:Int),.cst (bT7 (aK (m.xs.map (·.n)))),.cst (A0 (aW m))] []=bZ (exE (m.xs.take k) m.xs[k]):=by
 obtain ⟨h1,h2,h4⟩:=h.xs.2 _ (gG hk);rw[bBI];have e:=Nu [(88,[.cst (bT7 (aK (m.xs.map (·.n)))),.cst (bT6 (k:Int))],vP ((m.xs.take k).map (·.n)) (m.xs[k]).n),(89,[.cst (A0 (aW m)),.cst (bT6 (k:Int))],bif ((m.xs[k]).ls.length:Int)==0 then 12 else 0),(90,[.cst (A0 (aW m)),.cst (bT6 (k:Int))],Zf (m.xs[k]).ls)] (by simp) (by
  intro f hf;simp only[jV,yS,yZ] at hf;rcases hf with rfl | rfl | rfl
  .exact ⟨(bBJ _ _).trans (Ze (·.n) m.xs h.xs.1 (fun x hx=>(h.xs.2 x hx).1) hk),rfl⟩
  .refine ⟨(bBK _ _).trans ?_,rfl⟩;rw[show (aW m).2.2.2.2.2.1=m.xs.map zT from rfl,UE hk,dn];exact eP (yO _ _)
  .refine ⟨(bBL _ _).trans ?_,rfl⟩;rw[show (aW m).2.2.2.2.2.1=m.xs.map zT from rfl,UE hk];have e:∃ r,SQ ((m.xs[k]).ls.map BZ) ((0:Nat):Int)=some (bT6 r,[])/\decide (0<=r)=xq (fun i => !nameB ((m.xs[k]).ls.getD i dL).1 || !nameB ((m.xs[k]).ls.getD i dL).2) (m.xs[k]).ls.length:=by
    refine loopA (L:=fun i=>SQ ((m.xs[k]).ls.map BZ) (i:Int)) (fun i hi => ?_) ?_
    .obtain ⟨a1,a2⟩:=h4 _ (gG hi);rw[aHG,aO (by rw[dn]; omega),aH,a7M hi,bV (aVL _ a1 a2),bu (by omega),gD hi dL]
    grind [aHG,aC]
   obtain ⟨r,e1,e2⟩:=e;rw[bV ((bBM _).trans (eP ((b2Q _).trans e1))),e2,eP (yO _ _),bFE])
 refine (eP e).trans ?_;show bZ (sq _ (sq _ (sq _ 0)))=_;rw[Pv,Px (by decide)]; rfl
theorem xsc (m:Mo) (h:qX m):SS.CC 85 [.cst (A0 (aW m)),.cst (bT7 (aK (m.xs.map (·.n))))] []=bZ (WA m.xs):=by
 rw[bBD];suffices e:SS.CC 86 [.sl false 2 (aW m).2.2.2.2.2.1,.func (.func 87) [] [.cst (bT7 (aK (m.xs.map (·.n)))),.cst (A0 (aW m))]] []=bZ (WA m.xs) from eP e
 refine (bBH _ _ _ _ _ _ _ _ _).trans ?_;rw[dn];refine Dk (L:=fun i=>Z4 _ _ _ _ _ _ _ _ (m.xs.length:Int) (i:Int)) (fun i hi => ?_) ?_
 .rw[aJR,aO (by omega),aH,bu (by have:=h.xs.1; omega),gD hi dX];exact eP (bPP m h hi)
 grind [aJR,aC]
theorem ctc (x:Cst) (hn:x.ts.length<=1000) (hl:∀ l,l∈x.ts->l.1.length<=1000):SS.CC 98 [zh (xQ x)] []=bZ (bif (x.ts.length:Int)==0 then 12 else sq (a1C x.ts) (Gy x.b)):=by
 rw[bBZ,dn];have hb:(bif decide (x.b < -65536)||decide (65536<x.b) then (2:Int) else 0)=Gy x.b:=by grind [Gy]
 have e:TG (xQ x) 0=bZ (sq (a1C x.ts) (Gy x.b)):=by
  rw[<- JU (sq _ _),stq,JU];refine aNM (L:=fun k=>TG (xQ x) (k:Int)) (fun k hk => ?_) ?_
  .rw[aJT,aO (show (k:Int)<((xQ x).2.1.length:Int) by rw[dn]; omega),aH,a7O hk,bV (KQ _ (hl _ (gG hk))),bV (aP2 _),bu (by omega),gD hk dR];unfold trE;simp only[st7,st2,st0];cases decide ((x.ts[k]).2 < -65536)<;>rfl
  .rw[aJT,aV (show ¬ (x.ts.length:Int)<((xQ x).2.1.length:Int) by rw[dn]; omega),aC,bV (aP2 _),eP (yO _ _),hb]
 rw[e,yl]
theorem bF9 (m:Mo) (h:qX m) {k:Nat} (hk:k<m.ks.length):SS.CC 95 [bT6 (k:Int),.cst (bT7 (aK (m.ks.map (·.n)))),.cst (A0 (aW m))] []=bZ (ctE (m.ks.take k) m.ks[k]):=by
 obtain ⟨h1,h2,h4⟩:=h.ks.2 _ (gG hk);rw[bBT];have e:=Nu [(96,[.cst (bT7 (aK (m.ks.map (·.n)))),.cst (bT6 (k:Int))],vP ((m.ks.take k).map (·.n)) (m.ks[k]).n),(97,[.cst (A0 (aW m)),.cst (bT6 (k:Int))],bif ((m.ks[k]).ts.length:Int)==0 then 12 else sq (a1C (m.ks[k]).ts) (Gy (m.ks[k]).b))] (by simp) (by
  intro f hf;simp only[jV,yS,yZ] at hf;rcases hf with rfl | rfl
  .exact ⟨(bBU _ _).trans (Ze (·.n) m.ks h.ks.1 (fun x hx=>(h.ks.2 x hx).1) hk),rfl⟩
  .refine ⟨(bBV _ _).trans ?_,rfl⟩;rw[show (aW m).2.2.2.2.2.2.1=m.ks.map xI from rfl,Zk hk];exact eP (ctc _ h2 h4))
 refine (eP e).trans ?_;show bZ (sq _ (sq _ 0))=_;rw[Pv]; rfl
theorem ksc (m:Mo) (h:qX m):SS.CC 93 [.cst (A0 (aW m)),.cst (bT7 (aK (m.ks.map (·.n))))] []=bZ (U5 m.ks):=by
 rw[bBO];suffices e:SS.CC 94 [.sl false 3 (aW m).2.2.2.2.2.2.1,.func (.func 95) [] [.cst (bT7 (aK (m.ks.map (·.n)))),.cst (A0 (aW m))]] []=bZ (U5 m.ks) from eP e
 refine (bBS _ _ _ _ _ _ _ _ _).trans ?_;rw[dn];refine Dk (L:=fun i=>Z5 _ _ _ _ _ _ _ _ (m.ks.length:Int) (i:Int)) (fun i hi => ?_) ?_
 .rw[aJS,aO (by omega),aH,bu (by have:=h.ks.1; omega),gD hi dK];exact eP (bF9 m h hi)
 grind [aJS,aC]
def UI (m:Mo):Int:=bif decide ((16:Int)<(m.ts.length:Int)) then 3 else bif decide ((32:Int)<(m.cs.length:Int)) then 3 else bif decide ((32:Int)<(m.rs.length:Int)) then 3 else bif decide ((32:Int)<(m.xs.length:Int)) then 3 else bif decide ((32:Int)<(m.ks.length:Int)) then 3 else 0
theorem lic (m:Mo):SS.CC 71 [.cst (A0 (aW m))] []=bZ (UI m):=by rw[bAS,eP (yO _ _),eP (yO _ _)];grind [yl,UI]
theorem bMS (m:Mo) (x:Int):sq (UI m) x=bif decide ((16:Int)<(m.ts.length:Int)) then 3 else bif decide ((32:Int)<(m.cs.length:Int)) then 3 else bif decide ((32:Int)<(m.rs.length:Int)) then 3 else bif decide ((32:Int)<(m.xs.length:Int)) then 3 else bif decide ((32:Int)<(m.ks.length:Int)) then 3 else x:=by unfold UI;cases decide ((16:Int)<(m.ts.length:Int))<;>cases decide ((32:Int)<(m.cs.length:Int))<;>cases decide ((32:Int)<(m.rs.length:Int))<;>cases decide ((32:Int)<(m.xs.length:Int))<;>cases decide ((32:Int)<(m.ks.length:Int))<;>rfl
theorem aEW (m:Mo) (h:qX m) (h2:m.cs.length+m.rs.length<=1000):SS.CC 18 [A0 (aW m)] []=bZ (Ej m):=by
 have hl:(m.cs ++ m.rs).length<=1000:=by rw[aY]; exact h2
 rw[b2D,a1Y (a3J m.cs h.is.1),au (by rw[aX]; grind [UK])];dsimp only;rw[<- lq,wK (aXH _ hl),wK (aXJ _ h.ts.1),wK (aXK _ h.xs.1),wK (aXI _ h.ks.1)];have e:=Nu [(68,[.cst (A0 (aW m))],bif !nameB m.n then 7 else 0),(70,[.cst (A0 (aW m))],NP m.es),(71,[.cst (A0 (aW m))],UI m),(72,[.cst (A0 (aW m)),.cst (bT7 (aK (m.ts.map (·.n))))],VO m.ts),(79,[.cst (.sl false 3 ((m.cs ++ m.rs).map iQ)),.cst (bT7 (aK ((m.cs ++ m.rs).map (·.n))))],Ti (m.cs ++ m.rs)),(85,[.cst (A0 (aW m)),.cst (bT7 (aK (m.xs.map (·.n))))],WA m.xs),(93,[.cst (A0 (aW m)),.cst (bT7 (aK (m.ks.map (·.n))))],U5 m.ks)] (by simp) (by
  intro f hf;simp only[jV,yS,yZ] at hf;rcases hf with rfl | rfl | rfl | rfl | rfl | rfl | rfl
  .refine ⟨(bAP _).trans ?_,rfl⟩;rw[bV (KQ _ h.n),eP (yO _ _)]
  .exact ⟨(bAR _).trans (eP (acc _ h.es.1 h.es.2)),rfl⟩
  .exact ⟨lic m,rfl⟩
  .exact ⟨tsc m h,rfl⟩
  .exact ⟨bDL _ hl h.is.2.2,rfl⟩
  .exact ⟨xsc m h,rfl⟩
  .exact ⟨ksc m h,rfl⟩)
 refine (eP e).trans ?_;show bZ (sq _ (sq _ (sq _ (sq _ (sq _ (sq _ (sq _ 0)))))))=_;rw[Pv,Px (by decide),bMS];rfl
section
theorem b1O (a0:Sh.V S0):SS.CC 17 [A0 a0] []=G1 18 [A0 a0] fun n1=>aA (n1 != 0) (some (.tuple [.str ⟨#[]⟩,bT6 n1],[])) (aU 57 [bT8,A0 a0] [aF ([],())] fun _ u3=>G0 58 [.sl false 5 u3.1] fun u6=>aA (u6.2.1.1 != 0) (some (.tuple [.str ⟨#[]⟩,bT6 u6.2.1.1],[])) (aA (decide (65536<(u6.1.1.size:Int))) (some (.tuple [.str ⟨#[]⟩,bT6 15],[])) (some (.tuple [.str u6.1.1,bT6 0],[])))):=cc
theorem b8X (a1:bT9) (TQ:bTB):SS.CC 52 [bT8,.str a1] [oO (TQ,())]=H51 162 [bT8] [oO (TQ,())] fun _ u1=>chk (decide (u1.1.length+a1.size<=bC)) (some (.tuple [bT6 (a1.size:Int),.raw .nilIface],[oO ((u1.1 ++ a1.data.toList),())])):=cc
def TF:KT:=SS.rK Tryz.f57 57 1 []
def b8Y:KT:=SS.jK 57 179 1 (cS Tryz.f57 31) TF
def aJ8:KT:=bI 0 b8Y
def b96:KT:=SS.lK 57 179 1 [2,3,27,28,29] 2 (cS Tryz.f57 151) aJ8
def b97:KT:=SS.jK 57 179 1 (cS Tryz.f57 1943) b96
def b98:KT:=bI 1 b97
def b9A:KT:=SS.jK 57 179 1 (cS Tryz.f57 31127) b98
def b9B:KT:=bI 2 b9A
def b9C:KT:=SS.jK 57 179 1 (cS Tryz.f57 63) TF
def b9D:KT:=bI 4 b9C
def b8Z:KT:=SS.jK 57 179 1 (cS Tryz.f57 127) TF
def aJ7:KT:=bI 6 b8Z
def b8':KT:=SS.lK 57 179 1 [2,3,86,87] 2 (cS Tryz.f57 607) aJ7
def b90:KT:=SS.jK 57 179 1 (cS Tryz.f57 7775) b8'
def b91:KT:=bI 7 b90
def b92:KT:=bI 8 b91
def b93:KT:=SS.jK 57 179 1 (cS Tryz.f57 255) TF
def b94:KT:=bI 10 b93
def b95:KT:=bI 12 TF
def Jq (x3:Sh.V S0) (aJ:bTA) (x29:Int):R:=SS.LL (SS.ae 57 179) 1 [2,3,27,28,29] 2 (cS Tryz.f57 151) aJ8 ⟨[(2,.ptr 1 0),(3,.cst (A0 x3)),(27,.sl false 5 x3.2.1),(28,bT6 (x3.2.1.length:Int)),(29,bT6 x29)],[aF (aJ,()),some [bT8]]⟩
def kQ (x3:Sh.V S0) (aJ:bTA) (q2:Sh.V S4) (jU:Int) (x29:Int):R:=SS.LL (SS.ae 57 179) 1 [2,3,5,27,28,29,44,45] 3 (cS Tryz.f57 154007) b9B ⟨[(2,.ptr 1 0),(3,.cst (A0 x3)),(5,.ptr 2 0),(27,.sl false 5 x3.2.1),(28,bT6 (x3.2.1.length:Int)),(29,bT6 x29),(44,A35 (q2.2.1,q2.2.2.1,q2.2.2.2.1,())),(45,bT6 jU)],[aF (aJ,()),some [bT8],O4 q2]⟩
def Jn (x3:Sh.V S0) (aJ:bTA) (jR:Int):R:=SS.LL (SS.ae 57 179) 1 [2,3,72,73,74] 2 (cS Tryz.f57 303) b9D ⟨[(2,.ptr 1 0),(3,.cst (A0 x3)),(72,.sl false 9 x3.2.2.1),(73,bT6 (x3.2.2.1.length:Int)),(74,bT6 jR)],[aF (aJ,()),some [bT8]]⟩
def Ew (x3:Sh.V S0) (aJ:bTA) (x87:Int):R:=SS.LL (SS.ae 57 179) 1 [2,3,86,87] 2 (cS Tryz.f57 607) aJ7 ⟨[(2,.ptr 1 0),(3,.cst (A0 x3)),(86,A34 (x3.2.2.2.1,x3.2.2.2.2.1,())),(87,bT6 x87)],[aF (aJ,()),some [bT8]]⟩
def zB (x3:Sh.V S0) (aJ:bTA) (x93:Int) (x91:bTA) (x10:Int) (x87:Int) (QK:Int):R:=SS.LL (SS.ae 57 179) 1 [2,3,10,86,87,91,92,93] 2 (cS Tryz.f57 157279) b92 ⟨[(2,.ptr 1 0),(3,.cst (A0 x3)),(10,bT6 x10),(86,A34 (x3.2.2.2.1,x3.2.2.2.2.1,())),(87,bT6 x87),(91,.sl false 3 x91),(92,bT6 QK),(93,bT6 x93)],[aF (aJ,()),some [bT8]]⟩
def Jo (x3:Sh.V S0) (aJ:bTA) (QH:Int):R:=SS.LL (SS.ae 57 179) 1 [2,3,123,124,125] 2 (cS Tryz.f57 1215) b94 ⟨[(2,.ptr 1 0),(3,.cst (A0 x3)),(123,.sl false 2 x3.2.2.2.2.2.1),(124,bT6 (x3.2.2.2.2.2.1.length:Int)),(125,bT6 QH)],[aF (aJ,()),some [bT8]]⟩
def Jp (Lp:bTA) (aJ:bTA) (x150:Int):R:=SS.LL (SS.ae 57 179) 1 [2,148,149,150] 2 (cS Tryz.f57 1279) b95 ⟨[(2,.ptr 1 0),(148,.sl false 3 Lp),(149,bT6 (Lp.length:Int)),(150,bT6 x150)],[aF (aJ,()),some [bT8]]⟩
theorem aJC (x3:Sh.V S0) (aJ:bTA) (x29:Int):Jq x3 aJ x29=aA (decide (x29<(x3.2.1.length:Int))) (bf S4 x3.2.1 x29 fun u2=>aU 165 [bT8,bT7 [.str ⟨#[101,118,101,110,116]⟩,.str u2.1]] [aF (aJ,())] fun _ u7=>kQ x3 u7.1 u2 0 x29) (Jn x3 aJ 0):=ll
theorem Ym (x3:Sh.V S0) (aJ:bTA) (q2:Sh.V S4) (jU:Int) (x29:Int):kQ x3 aJ q2 jU x29=aA (decide (jU<3)) (chk (decide (0<=jU)&&decide (jU<(3:Int))) (aA (jU==0) (aA q2.2.1 (chk (decide (0<=jU)&&decide (jU<(3:Int))) (aA (jU==0) (aU 165 [bT8,bT7 [.str ⟨#[99,111,110,116,114,111,108,108,97,98,108,101]⟩]] [aF (aJ,())] fun _ u25=>kQ x3 u25.1 q2 (i64.wrap (jU+1)) x29) (aA (jU==1) (aU 165 [bT8,bT7 [.str ⟨#[111,98,115,101,114,118,97,98,108,101]⟩]] [aF (aJ,())] fun _ u22=>kQ x3 u22.1 q2 (i64.wrap (jU+1)) x29) (aA (jU==2) (aU 165 [bT8,bT7 [.str ⟨#[102,111,114,99,105,98,108,101]⟩]] [aF (aJ,())] fun _ sV=>kQ x3 sV.1 q2 (i64.wrap (jU+1)) x29) (none))))) (kQ x3 aJ q2 (i64.wrap (jU+1)) x29)) (aA (jU==1) (aA q2.2.2.1 (chk (decide (0<=jU)&&decide (jU<(3:Int))) (aA (jU==0) (aU 165 [bT8,bT7 [.str ⟨#[99,111,110,116,114,111,108,108,97,98,108,101]⟩]] [aF (aJ,())] fun _ u16=>kQ x3 u16.1 q2 (i64.wrap (jU+1)) x29) (aA (jU==1) (aU 165 [bT8,bT7 [.str ⟨#[111,98,115,101,114,118,97,98,108,101]⟩]] [aF (aJ,())] fun _ u13=>kQ x3 u13.1 q2 (i64.wrap (jU+1)) x29) (aA (jU==2) (aU 165 [bT8,bT7 [.str ⟨#[102,111,114,99,105,98,108,101]⟩]] [aF (aJ,())] fun _ u10=>kQ x3 u10.1 q2 (i64.wrap (jU+1)) x29) (none))))) (kQ x3 aJ q2 (i64.wrap (jU+1)) x29)) (aA (jU==2) (aA q2.2.2.2.1 (chk (decide (0<=jU)&&decide (jU<(3:Int))) (aA (jU==0) (aU 165 [bT8,bT7 [.str ⟨#[99,111,110,116,114,111,108,108,97,98,108,101]⟩]] [aF (aJ,())] fun _ u7=>kQ x3 u7.1 q2 (i64.wrap (jU+1)) x29) (aA (jU==1) (aU 165 [bT8,bT7 [.str ⟨#[111,98,115,101,114,118,97,98,108,101]⟩]] [aF (aJ,())] fun _ u4=>kQ x3 u4.1 q2 (i64.wrap (jU+1)) x29) (aA (jU==2) (aU 165 [bT8,bT7 [.str ⟨#[102,111,114,99,105,98,108,101]⟩]] [aF (aJ,())] fun _ u1=>kQ x3 u1.1 q2 (i64.wrap (jU+1)) x29) (none))))) (kQ x3 aJ q2 (i64.wrap (jU+1)) x29)) (none))))) (aA (q2.2.2.2.2.1 != 0) (aU 165 [bT8,bT7 [.str ⟨#[102,97,117,108,116]⟩]] [aF (aJ,())] fun _ u28=>aU 167 [bT8,bT6 q2.2.2.2.2.1] [aF u28] fun _ u31=>aU 166 [bT8,bT7 [.str ⟨#[59]⟩]] [aF u31] fun _ u34=>Jq x3 u34.1 (i64.wrap (x29+1))) (aU 166 [bT8,bT7 [.str ⟨#[59]⟩]] [aF (aJ,())] fun _ u37=>Jq x3 u37.1 (i64.wrap (x29+1)))):=ll
theorem aJ9 (x3:Sh.V S0) (aJ:bTA) (jR:Int):Jn x3 aJ jR=aA (decide (jR<(x3.2.2.1.length:Int))) (bf S5 x3.2.2.1 jR fun u2=>aU 168 [bT8,A5 u2] [aF (aJ,())] fun _ u11=>Jn x3 u11.1 (i64.wrap (jR+1))) (Ew x3 aJ 0):=ll
theorem a5H (x3:Sh.V S0) (aJ:bTA) (x87:Int):Ew x3 aJ x87=aA (decide (x87<2)) (chk (decide (0<=x87)&&decide (x87<(2:Int))) (aA (x87==0) (zB x3 aJ 0 x3.2.2.2.1 x87 x87 (x3.2.2.2.1.length:Int)) (aA (x87==1) (zB x3 aJ 0 x3.2.2.2.2.1 x87 x87 (x3.2.2.2.2.1.length:Int)) (none)))) (Jo x3 aJ 0):=ll
theorem Yl (x3:Sh.V S0) (aJ:bTA) (x93:Int) (x91:bTA) (x10:Int) (x87:Int) (QK:Int):zB x3 aJ x93 x91 x10 x87 QK=aA (decide (x93<QK)) (bf S8 x91 x93 fun u2=>chk (decide (0<=x10)&&decide (x10<(2:Int))) (aA (x10==0) (aU 165 [bT8,bT7 [.str ⟨#[99,111,109,112,111,110,101,110,116]⟩,.str u2.1]] [aF (aJ,())] fun _ u20=>aU 166 [bT8,bT7 [.str ⟨#[61]⟩]] [aF u20] fun _ u23=>aU 165 [bT8,bT7 [.str u2.2.1]] [aF u23] fun _ u26=>aU 169 [bT8,bT7 u2.2.2.1] [aF u26] fun _ u29=>aU 166 [bT8,bT7 [.str ⟨#[59]⟩]] [aF u29] fun _ u32=>zB x3 u32.1 (i64.wrap (x93+1)) x91 x10 x87 QK) (aA (x10==1) (aU 165 [bT8,bT7 [.str ⟨#[114,101,113,117,105,114,101,109,101,110,116]⟩,.str u2.1]] [aF (aJ,())] fun _ u5=>aU 166 [bT8,bT7 [.str ⟨#[61]⟩]] [aF u5] fun _ u8=>aU 165 [bT8,bT7 [.str u2.2.1]] [aF u8] fun _ u11=>aU 169 [bT8,bT7 u2.2.2.1] [aF u11] fun _ u14=>aU 166 [bT8,bT7 [.str ⟨#[59]⟩]] [aF u14] fun _ rE=>zB x3 rE.1 (i64.wrap (x93+1)) x91 x10 x87 QK) (none)))) (Ew x3 aJ (i64.wrap (x87+1))):=ll
theorem aJA (x3:Sh.V S0) (aJ:bTA) (QH:Int):Jo x3 aJ QH=aA (decide (QH<(x3.2.2.2.2.2.1.length:Int))) (bf mD x3.2.2.2.2.2.1 QH fun u2=>aU 165 [bT8,bT7 [.str ⟨#[101,120,99,108,117,100,101]⟩,.str u2.1]] [aF (aJ,())] fun _ u4=>aU 166 [bT8,bT7 [.str ⟨#[58]⟩]] [aF u4] fun _ u7=>H28 170 [bT8,bT6 (u2.2.1.length:Int),.str ⟨#[44]⟩,.func (.func 171) [] [.ptr 1 0,.ptr 2 0]] [aF u7,some [bT8],xh u2] fun _ u10 u11=>aU 166 [bT8,bT7 [.str ⟨#[59]⟩]] [aF u10] fun _ u15=>Jo x3 u15.1 (i64.wrap (QH+1))) (Jp x3.2.2.2.2.2.2.1 aJ 0):=ll
theorem aJB (Lp:bTA) (aJ:bTA) (x150:Int):Jp Lp aJ x150=aA (decide (x150<(Lp.length:Int))) (bf kz Lp x150 fun u2=>aU 165 [bT8,bT7 [.str ⟨#[108,105,109,105,116]⟩,.str u2.1]] [aF (aJ,())] fun _ u5=>aU 166 [bT8,bT7 [.str ⟨#[58]⟩]] [aF u5] fun _ u8=>H29 170 [bT8,bT6 (u2.2.1.length:Int),.str ⟨#[43]⟩,.func (.func 172) [] [.ptr 1 0,.ptr 2 0]] [aF u8,some [bT8],xk u2] fun _ u11 u12=>aU 166 [bT8,bT7 [.str ⟨#[60,61]⟩]] [aF u11] fun _ rE=>aU 167 [bT8,bT6 u12.2.2.1] [aF rE] fun _ u20=>aU 166 [bT8,bT7 [.str ⟨#[59]⟩]] [aF u20] fun _ u23=>Jp Lp u23.1 (i64.wrap (x150+1))) (some (.tuple [],[aF (aJ,())])):=ll
theorem b9E (a1:Sh.V S0) (bU:bTA):SS.CC 57 [bT8,A0 a1] [aF (bU,())]=aU 165 [bT8,bT7 [.str ⟨#[109,111,100,101,108]⟩,.str a1.1]] [aF (bU,())] fun _ u1=>aU 166 [bT8,bT7 [.str ⟨#[59]⟩]] [aF u1] fun _ u4=>Jq a1 u4.1 0:=cc
def b9H:KT:=SS.rK Tryz.f58 58 0 []
def b9I:KT:=SS.jK 58 83 0 (cS Tryz.f58 255) b9H
def aJD:KT:=bI 0 b9I
def b9J:KT:=SS.lK 58 83 0 [6,7,8,9,10,23,24,25] 2 (cS Tryz.f58 1215) aJD
def b9K:KT:=SS.jK 58 83 0 (cS Tryz.f58 15551) b9J
def aJE:KT:=bI 1 b9K
def zC (lm:bTA) (x7:Int) (x9:bT9) (x25:Int) (qL:bTB) (dh:Bool):R:=SS.LL (SS.ae 58 83) 0 [6,7,8,9,10,23,24,25] 2 (cS Tryz.f58 1215) aJD ⟨[(6,bT8),(7,bT6 x7),(8,.ptr 1 0),(9,.str x9),(10,.func (.func 173) [] [.ptr 1 0,bT8]),(23,.sl false 5 lm),(24,bT6 (lm.length:Int)),(25,bT6 x25)],[oO (qL,()),mV (dh,())]⟩
def Yn (lm:bTA) (qL:bTB) (dh:Bool) (q2:Sh.V lT) (x7:Int) (x9:bT9) (x25:Int):R:=bG (SS.xX 58 83 0) (cS Tryz.f58 117951) aJE ⟨[(6,bT8),(7,bT6 x7),(8,.ptr 1 0),(9,.str x9),(10,.func (.func 173) [] [.ptr 1 0,bT8]),(12,.ptr 2 0),(23,.sl false 5 lm),(24,bT6 (lm.length:Int)),(25,bT6 x25)],[oO (qL,()),mV (dh,()),O30 q2]⟩
def Ey (lm:bTA) (qL:bTB) (dh:Bool) (q2:Sh.V lT) (x7:Int) (x25:Int):R:=bG (SS.xX 58 83 0) (cS Tryz.f58 249023) aJE ⟨[(6,bT8),(7,bT6 x7),(8,.ptr 1 0),(10,.func (.func 173) [] [.ptr 1 0,bT8]),(12,.ptr 2 0),(23,.sl false 5 lm),(24,bT6 (lm.length:Int)),(25,bT6 x25)],[oO (qL,()),mV (dh,()),O30 q2]⟩
theorem aJF (lm:bTA) (x7:Int) (x9:bT9) (x25:Int) (qL:bTB) (dh:Bool):zC lm x7 x9 x25 qL dh=aA (decide (x25<(lm.length:Int))) (bf lT lm x25 fun u2=>aA (u2.2.1.toList==(⟨#[125]⟩:bT9).toList) (Md 173 [bT8,.ptr 1 0] [mV (dh,()),Aj (qL,())] fun _ u7 u8=>Yn lm u8.1 u7.1 u2 (if (0:Int)>(i64.wrap (x7-1)) then (0:Int) else (i64.wrap (x7-1))) x9 x25) (Yn lm qL dh u2 x7 x9 x25)) (Md 173 [bT8,.ptr 1 0] [mV (dh,()),Aj (qL,())] fun _ u11 u12=>H31 53 [bT8] [oO u12] fun s15 u16=>some (.tuple [.str s15,bT6 0],[])):=ll
theorem b9F (lm:bTA) (qL:bTB) (dh:Bool) (q2:Sh.V lT) (x7:Int) (x9:bT9) (x25:Int):Yn lm qL dh q2 x7 x9 x25=aA dh (G2 30 [.str ⟨#[32,32]⟩,bT6 x7] fun s1=>H32 52 [bT8,.str s1] [oO (qL,())] fun u3 u4=>Ey lm u4.1 dh q2 x7 x25) (aA (!(q2.2.1.toList==(⟨#[44]⟩:bT9).toList)) (aA (!(q2.2.1.toList==(⟨#[59]⟩:bT9).toList)) (aA (!(q2.2.1.toList==(⟨#[41]⟩:bT9).toList)) (aA (!(x9.toList==(⟨#[40]⟩:bT9).toList)) (H33 174 [bT8,.int .u8 32] [oO (qL,())] fun u7=>Ey lm u7.1 dh q2 x7 x25) (Ey lm qL dh q2 x7 x25)) (Ey lm qL dh q2 x7 x25)) (Ey lm qL dh q2 x7 x25)) (Ey lm qL dh q2 x7 x25)):=by kernel_rfl
theorem b9G (lm:bTA) (qL:bTB) (dh:Bool) (q2:Sh.V lT) (x7:Int) (x25:Int):Ey lm qL dh q2 x7 x25=H32 52 [bT8,.str q2.2.1] [oO (qL,())] fun u1 u2=>aA (q2.2.1.toList==(⟨#[123]⟩:bT9).toList) (Md 173 [bT8,.ptr 1 0] [mV (false,()),Aj u2] fun _ u5 u6=>zC lm (i64.wrap (x7+1)) q2.2.1 (i64.wrap (x25+1)) u6.1 u5.1) (aA (q2.2.1.toList==(⟨#[125]⟩:bT9).toList) (Md 173 [bT8,.ptr 1 0] [mV (false,()),Aj u2] fun _ u9 u10=>zC lm x7 q2.2.1 (i64.wrap (x25+1)) u10.1 u9.1) (aA (q2.2.1.toList==(⟨#[59]⟩:bT9).toList) (Md 173 [bT8,.ptr 1 0] [mV (false,()),Aj u2] fun _ u13 u14=>zC lm x7 q2.2.1 (i64.wrap (x25+1)) u14.1 u13.1) (zC lm x7 q2.2.1 (i64.wrap (x25+1)) u2.1 false))):=by kernel_rfl
theorem b9L (a0:bTA):SS.CC 58 [.sl false 5 a0] []=G0 114 [.sl false 5 a0] fun u1=>aA (u1.2.1.1 != 0) (some (.tuple [.str ⟨#[]⟩,bT6 u1.2.1.1],[])) (MS 175 [.sl false 5 a0] fun l4=>zC l4 0 ⟨#[]⟩ 0 [] true):=cc
theorem b04 (a0:bTA) (a1:Int):SS.CC 164 [bT7 a0,bT6 a1] []=G1 240 [bT7 a0,bT6 a1] fun n1=>some (.bool (decide (0<=n1)),[]):=cc
def a4M:KT:=SS.rK Tryz.f168 168 1 []
def b0F:KT:=SS.jK 168 157 1 (cS Tryz.f168 255) a4M
def aH2:KT:=bI 0 b0F
def b0I:KT:=SS.lK 168 157 1 [2,3,4,5,30,31,32] 4 (cS Tryz.f168 1215) aH2
def b0J:KT:=SS.jK 168 157 1 (cS Tryz.f168 15551) b0I
def b0K:KT:=bI 1 b0J
def b0L:KT:=SS.jK 168 157 1 (cS Tryz.f168 511) a4M
def b0M:KT:=bI 2 b0L
def b0N:KT:=SS.jK 168 157 1 (cS Tryz.f168 1023) a4M
def aH3:KT:=bI 4 b0N
def b0G:KT:=SS.lK 168 157 1 [2,3,5,97,98,99] 4 (cS Tryz.f168 4863) aH3
def b0H:KT:=SS.jK 168 157 1 (cS Tryz.f168 62207) b0G
def aH1:KT:=bI 5 b0H
def Hl (x3:bT9) (iT:bTA) (jT:bTA) (q2:Sh.V S6) (aJ:bTA) (dH:bTA) (x32:Int):R:=SS.LL (SS.ae 168 157) 1 [2,3,4,5,30,31,32] 4 (cS Tryz.f168 1215) aH2 ⟨[(2,.ptr 1 0),(3,.cst (A5 (x3,iT,jT,q2.1,q2.2.1,q2.2.2.1,q2.2.2.2.1,q2.2.2.2.2.1,q2.2.2.2.2.2.1,()))),(4,.ptr 2 0),(5,.ptr 3 0),(30,bT7 iT),(31,bT6 (iT.length:Int)),(32,bT6 x32)],[aF (aJ,()),some [bT8],O6 q2,ig (dH,())]⟩
def YJ (x3:bT9) (iT:bTA) (jT:bTA) (q2:Sh.V S6) (aJ:bTA) (dH:bTA) (x6:Int) (x32:Int):R:=bG (SS.xX 168 157 1) (cS Tryz.f168 249023) b0K ⟨[(2,.ptr 1 0),(3,.cst (A5 (x3,iT,jT,q2.1,q2.2.1,q2.2.2.1,q2.2.2.2.1,q2.2.2.2.2.1,q2.2.2.2.2.2.1,()))),(4,.ptr 2 0),(5,.ptr 3 0),(6,bT6 x6),(30,bT7 iT),(31,bT6 (iT.length:Int)),(32,bT6 x32)],[aF (aJ,()),some [bT8],O6 q2,ig (dH,())]⟩
def O5 (x3:bT9) (iT:bTA) (jT:bTA) (q2:Sh.V S6) (aJ:bTA) (dH:bTA) (QJ:Int):R:=SS.LL (SS.ae 168 157) 1 [2,3,4,5,60,61,62] 4 (cS Tryz.f168 2431) b0M ⟨[(2,.ptr 1 0),(3,.cst (A5 (x3,iT,jT,q2.1,q2.2.1,q2.2.2.1,q2.2.2.2.1,q2.2.2.2.2.1,q2.2.2.2.2.2.1,()))),(4,.ptr 2 0),(5,.ptr 3 0),(60,.sl false 4 q2.2.2.2.2.1),(61,bT6 (q2.2.2.2.2.1.length:Int)),(62,bT6 QJ)],[aF (aJ,()),some [bT8],O6 q2,ig (dH,())]⟩
def Et (x3:bT9) (iT:bTA) (jT:bTA) (q2:Sh.V S6) (aJ:bTA) (dH:bTA) (x99:Int):R:=SS.LL (SS.ae 168 157) 1 [2,3,5,97,98,99] 4 (cS Tryz.f168 4863) aH3 ⟨[(2,.ptr 1 0),(3,.cst (A5 (x3,iT,jT,q2.1,q2.2.1,q2.2.2.1,q2.2.2.2.1,q2.2.2.2.2.1,q2.2.2.2.2.2.1,()))),(5,.ptr 3 0),(97,.sl false 8 q2.2.2.2.2.2.1),(98,bT6 (q2.2.2.2.2.2.1.length:Int)),(99,bT6 x99)],[aF (aJ,()),some [bT8],O6 q2,ig (dH,())]⟩
def YK (x3:bT9) (iT:bTA) (jT:bTA) (q2:Sh.V S6) (aJ:bTA) (dH:bTA) (q4:Sh.V S9) (x99:Int):R:=bG (SS.xX 168 157 1) (cS Tryz.f168 996095) aH1 ⟨[(2,.ptr 1 0),(3,.cst (A5 (x3,iT,jT,q2.1,q2.2.1,q2.2.2.1,q2.2.2.2.1,q2.2.2.2.2.1,q2.2.2.2.2.2.1,()))),(5,.ptr 3 0),(11,.ptr 4 0),(97,.sl false 8 q2.2.2.2.2.2.1),(98,bT6 (q2.2.2.2.2.2.1.length:Int)),(99,bT6 x99)],[aF (aJ,()),some [bT8],O6 q2,ig (dH,()),O9 q4]⟩
def YL (x3:bT9) (iT:bTA) (jT:bTA) (q2:Sh.V S6) (aJ:bTA) (dH:bTA) (q4:Sh.V S9) (x99:Int):R:=bG (SS.xX 168 157 1) (cS Tryz.f168 2044671) aH1 ⟨[(2,.ptr 1 0),(3,.cst (A5 (x3,iT,jT,q2.1,q2.2.1,q2.2.2.1,q2.2.2.2.1,q2.2.2.2.2.1,q2.2.2.2.2.2.1,()))),(5,.ptr 3 0),(11,.ptr 4 0),(97,.sl false 8 q2.2.2.2.2.2.1),(98,bT6 (q2.2.2.2.2.2.1.length:Int)),(99,bT6 x99)],[aF (aJ,()),some [bT8],O6 q2,ig (dH,()),O9 q4]⟩
theorem aH6 (x3:bT9) (iT:bTA) (jT:bTA) (q2:Sh.V S6) (aJ:bTA) (dH:bTA) (x32:Int):Hl x3 iT jT q2 aJ dH x32=aA (decide (x32<(iT.length:Int))) (eH iT x32 fun e1=>vS e1 fun s2=>aU 165 [bT8,bT7 [.str ⟨#[108,111,99,97,116,105,111,110]⟩,.str s2]] [aF (aJ,())] fun _ u3=>aA (x32==q2.2.2.1) (aU 165 [bT8,bT7 [.str ⟨#[105,110,105,116,105,97,108]⟩]] [aF u3] fun _ u6=>YJ x3 iT jT q2 u6.1 dH x32 x32) (YJ x3 iT jT q2 u3.1 dH x32 x32)) (O5 x3 iT jT q2 aJ dH 0):=ll
theorem b0C (x3:bT9) (iT:bTA) (jT:bTA) (q2:Sh.V S6) (aJ:bTA) (dH:bTA) (x6:Int) (x32:Int):YJ x3 iT jT q2 aJ dH x6 x32=G3 164 [bT7 q2.2.2.2.1,bT6 x6] fun b1=>aA b1 (aU 165 [bT8,bT7 [.str ⟨#[109,97,114,107,101,100]⟩]] [aF (aJ,())] fun _ u3=>aU 166 [bT8,bT7 [.str ⟨#[59]⟩]] [aF u3] fun _ u6=>Hl x3 iT jT q2 u6.1 dH (i64.wrap (x32+1))) (aU 166 [bT8,bT7 [.str ⟨#[59]⟩]] [aF (aJ,())] fun _ u9=>Hl x3 iT jT q2 u9.1 dH (i64.wrap (x32+1))):=by kernel_rfl
theorem aH4 (x3:bT9) (iT:bTA) (jT:bTA) (q2:Sh.V S6) (aJ:bTA) (dH:bTA) (QJ:Int):O5 x3 iT jT q2 aJ dH QJ=aA (decide (QJ<(q2.2.2.2.2.1.length:Int))) (bf S7 q2.2.2.2.2.1 QJ fun u2=>aU 165 [bT8,bT7 [.str ⟨#[118,97,114]⟩,.str u2.1]] [aF (aJ,())] fun _ u6=>aU 166 [bT8,bT7 [.str ⟨#[58]⟩]] [aF u6] fun _ u9=>aU 167 [bT8,bT6 u2.2.1] [aF u9] fun _ u12=>aU 166 [bT8,bT7 [.str ⟨#[46,46]⟩]] [aF u12] fun _ u15=>aU 167 [bT8,bT6 u2.2.2.1] [aF u15] fun _ ku=>aU 166 [bT8,bT7 [.str ⟨#[61]⟩]] [aF ku] fun _ u21=>aU 167 [bT8,bT6 u2.2.2.2.1] [aF u21] fun _ u24=>aU 166 [bT8,bT7 [.str ⟨#[59]⟩]] [aF u24] fun _ u27=>O5 x3 iT jT q2 u27.1 dH (i64.wrap (QJ+1))) (Et x3 iT jT q2 aJ dH 0):=ll
theorem aH5 (x3:bT9) (iT:bTA) (jT:bTA) (q2:Sh.V S6) (aJ:bTA) (dH:bTA) (x99:Int):Et x3 iT jT q2 aJ dH x99=aA (decide (x99<(q2.2.2.2.2.2.1.length:Int))) (bf S9 q2.2.2.2.2.2.1 x99 fun u2=>eH iT u2.1 fun e10=>vS e10 fun s11=>eH jT u2.2.1 fun e12=>vS e12 fun s13=>eH iT u2.2.2.1 fun e14=>vS e14 fun s15=>aU 165 [bT8,bT7 [.str ⟨#[101,100,103,101]⟩,.str s11,.str s13,.str s15]] [aF (aJ,())] fun _ u16=>rP 116 [] fun sV=>G3 23 [A1 (u2.2.2.2.1,u2.2.2.2.2.1,u2.2.2.2.2.2.1,u2.2.2.2.2.2.2.1,()),A1 sV] fun NT=>aA (!NT) (aU 165 [bT8,bT7 [.str ⟨#[119,104,101,110]⟩]] [aF u16] fun _ u26=>aU 113 [bT8,bT7 dH,A1 (u2.2.2.2.1,u2.2.2.2.2.1,u2.2.2.2.2.2.1,u2.2.2.2.2.2.2.1,()),bT6 0] [aF u26] fun _ u29=>YK x3 iT jT q2 u29.1 dH u2 x99) (YK x3 iT jT q2 u16.1 dH u2 x99)) (aU 166 [bT8,bT7 [.str ⟨#[125]⟩]] [aF (aJ,())] fun _ u32=>some (.tuple [],[aF u32])):=ll
theorem b0D (x3:bT9) (iT:bTA) (jT:bTA) (q2:Sh.V S6) (aJ:bTA) (dH:bTA) (q4:Sh.V S9) (x99:Int):YK x3 iT jT q2 aJ dH q4 x99=aA (decide (0<(q4.2.2.2.2.2.2.2.1.length:Int))) (aU 165 [bT8,bT7 [.str ⟨#[100,111]⟩]] [aF (aJ,())] fun _ u1=>YL x3 iT jT q2 u1.1 dH q4 x99) (YL x3 iT jT q2 aJ dH q4 x99):=by kernel_rfl
theorem b0E (x3:bT9) (iT:bTA) (jT:bTA) (q2:Sh.V S6) (aJ:bTA) (dH:bTA) (q4:Sh.V S9) (x99:Int):YL x3 iT jT q2 aJ dH q4 x99=H45 170 [bT8,bT6 (q4.2.2.2.2.2.2.2.1.length:Int),.str ⟨#[44]⟩,.func (.func 242) [] [.ptr 1 0,.ptr 2 0,.ptr 3 0]] [aF (aJ,()),some [bT8],ig (dH,()),O9 q4] fun _ u1 u2 u3=>aU 166 [bT8,bT7 [.str ⟨#[59]⟩]] [aF u1] fun _ u13=>Et x3 iT jT q2 u13.1 u2.1 (i64.wrap (x99+1)):=by kernel_rfl
theorem b0O (a1:Sh.V S5) (bU:bTA):SS.CC 168 [bT8,A5 a1] [aF (bU,())]=G7 241 [.sl false 4 a1.2.2.2.2.2.2.2.1] fun l1=>aU 165 [bT8,bT7 [.str ⟨#[116,101,109,112,108,97,116,101]⟩,.str a1.1]] [aF (bU,())] fun _ u3=>aU 169 [bT8,bT7 a1.2.2.1] [aF u3] fun _ u6=>aU 166 [bT8,bT7 [.str ⟨#[123]⟩]] [aF u6] fun _ u9=>Hl a1.1 a1.2.1 a1.2.2.1 (a1.2.2.2.1,a1.2.2.2.2.1,a1.2.2.2.2.2.1,a1.2.2.2.2.2.2.1,a1.2.2.2.2.2.2.2.1,a1.2.2.2.2.2.2.2.2.1,()) u9.1 l1 0:=cc
theorem b0P (a1:bTA) (bU:bTA):SS.CC 169 [bT8,bT7 a1] [aF (bU,())]=aU 166 [bT8,bT7 [.str ⟨#[40]⟩]] [aF (bU,())] fun _ u1=>H46 170 [bT8,bT6 (a1.length:Int),.str ⟨#[44]⟩,.func (.func 243) [] [.ptr 1 0,.cst (bT7 a1)]] [aF u1,some [bT8]] fun _ u4=>aU 166 [bT8,bT7 [.str ⟨#[41]⟩]] [aF u4] fun _ u7=>some (.tuple [],[aF u7]):=cc
def b0Z:KT:=SS.rK Tryz.f170 170 3 []
def b1A:KT:=bI 0 b0Z
def OB (x2:bT9) (x9:Int) (aJ:bTA) (q2:Sh.V mD) (x10:Int):R:=SS.LL (SS.ae 170 23) 3 [0,2,3,9,10] 3 (cS Tryz.f170 9) b1A ⟨[(0,bT8),(2,.str x2),(3,.func (.func 171) [] [.ptr 1 0,.ptr 2 0]),(9,bT6 x9),(10,bT6 x10)],[aF (aJ,()),some [bT8],xh q2]⟩
theorem aHA (x2:bT9) (x9:Int) (aJ:bTA) (q2:Sh.V mD) (x10:Int):OB x2 x9 aJ q2 x10=aA (decide (x10<x9)) (aA (decide (0<x10)) (aU 166 [bT8,bT7 [.str x2]] [aF (aJ,())] fun _ u1=>H47 171 [bT6 x10,bT8,.ptr 1 0] [some [.ptr 2 0],xh q2,aF u1] fun _ u4 u6=>OB x2 x9 u6.1 u4 (i64.wrap (x10+1))) (H47 171 [bT6 x10,bT8,.ptr 1 0] [some [.ptr 2 0],xh q2,aF (aJ,())] fun _ u9 u11=>OB x2 x9 u11.1 u9 (i64.wrap (x10+1)))) (some (.tuple [],[aF (aJ,()),some [bT8],xh q2])):=ll
theorem b1B (a1:Int) (a2:bT9) (bU:bTA) (h2:Sh.V mD):SS.CC 170 [bT8,bT6 a1,.str a2,.func (.func 171) [] [.ptr 1 0,.ptr 2 0]] [aF (bU,()),some [bT8],xh h2]=OB a2 a1 bU h2 0:=cc
def b0Q:KT:=SS.rK Tryz.f170 170 3 []
def b0R:KT:=bI 0 b0Q
def O8 (x2:bT9) (x9:Int) (aJ:bTA) (q2:Sh.V kz) (x10:Int):R:=SS.LL (SS.ae 170 23) 3 [0,2,3,9,10] 3 (cS Tryz.f170 9) b0R ⟨[(0,bT8),(2,.str x2),(3,.func (.func 172) [] [.ptr 1 0,.ptr 2 0]),(9,bT6 x9),(10,bT6 x10)],[aF (aJ,()),some [bT8],xk q2]⟩
theorem aH7 (x2:bT9) (x9:Int) (aJ:bTA) (q2:Sh.V kz) (x10:Int):O8 x2 x9 aJ q2 x10=aA (decide (x10<x9)) (aA (decide (0<x10)) (aU 166 [bT8,bT7 [.str x2]] [aF (aJ,())] fun _ u1=>H48 172 [bT6 x10,bT8,.ptr 1 0] [some [.ptr 2 0],xk q2,aF u1] fun _ u4 u7=>O8 x2 x9 u7.1 u4 (i64.wrap (x10+1))) (H48 172 [bT6 x10,bT8,.ptr 1 0] [some [.ptr 2 0],xk q2,aF (aJ,())] fun _ u10 u13=>O8 x2 x9 u13.1 u10 (i64.wrap (x10+1)))) (some (.tuple [],[aF (aJ,()),some [bT8],xk q2])):=ll
theorem b0S (a1:Int) (a2:bT9) (bU:bTA) (h2:Sh.V kz):SS.CC 170 [bT8,bT6 a1,.str a2,.func (.func 172) [] [.ptr 1 0,.ptr 2 0]] [aF (bU,()),some [bT8],xk h2]=O8 a2 a1 bU h2 0:=cc
def b0T:KT:=SS.rK Tryz.f170 170 4 []
def b0U:KT:=bI 0 b0T
def SL (x2:bT9) (x9:Int) (aJ:bTA) (eU:bTA) (q3:Sh.V S9) (x10:Int):R:=SS.LL (SS.ae 170 23) 4 [0,2,3,9,10] 4 (cS Tryz.f170 9) b0U ⟨[(0,bT8),(2,.str x2),(3,.func (.func 242) [] [.ptr 1 0,.ptr 2 0,.ptr 3 0]),(9,bT6 x9),(10,bT6 x10)],[aF (aJ,()),some [bT8],ig (eU,()),O9 q3]⟩
theorem aH8 (x2:bT9) (x9:Int) (aJ:bTA) (eU:bTA) (q3:Sh.V S9) (x10:Int):SL x2 x9 aJ eU q3 x10=aA (decide (x10<x9)) (aA (decide (0<x10)) (aU 166 [bT8,bT7 [.str x2]] [aF (aJ,())] fun _ u1=>H64 242 [bT6 x10,bT8,.ptr 1 0,.ptr 2 0] [some [.ptr 3 0],ig (eU,()),O9 q3,aF u1] fun _ u4 u5 u13=>SL x2 x9 u13.1 u4.1 u5 (i64.wrap (x10+1))) (H64 242 [bT6 x10,bT8,.ptr 1 0,.ptr 2 0] [some [.ptr 3 0],ig (eU,()),O9 q3,aF (aJ,())] fun _ u16 rE u25=>SL x2 x9 u25.1 u16.1 rE (i64.wrap (x10+1)))) (some (.tuple [],[aF (aJ,()),some [bT8],ig (eU,()),O9 q3])):=ll
theorem b0V (a1:Int) (a2:bT9) (bU:bTA) (lG:bTA) (h3:Sh.V S9):SS.CC 170 [bT8,bT6 a1,.str a2,.func (.func 242) [] [.ptr 1 0,.ptr 2 0,.ptr 3 0]] [aF (bU,()),some [bT8],ig (lG,()),O9 h3]=SL a2 a1 bU lG h3 0:=cc
def b0W:KT:=SS.rK Tryz.f170 170 2 []
def b0X:KT:=bI 0 b0W
def OA (x2:bT9) (x3:bTA) (x9:Int) (aJ:bTA) (x10:Int):R:=SS.LL (SS.ae 170 23) 2 [0,2,3,9,10] 2 (cS Tryz.f170 9) b0X ⟨[(0,bT8),(2,.str x2),(3,.func (.func 243) [] [.ptr 1 0,.cst (bT7 x3)]),(9,bT6 x9),(10,bT6 x10)],[aF (aJ,()),some [bT8]]⟩
theorem aH9 (x2:bT9) (x3:bTA) (x9:Int) (aJ:bTA) (x10:Int):OA x2 x3 x9 aJ x10=aA (decide (x10<x9)) (aA (decide (0<x10)) (aU 166 [bT8,bT7 [.str x2]] [aF (aJ,())] fun _ u1=>eQ 243 [bT6 x10,bT8,.cst (bT7 x3)] [some [.ptr 1 0],aF u1] fun _ u4=>OA x2 x3 x9 u4.1 (i64.wrap (x10+1))) (eQ 243 [bT6 x10,bT8,.cst (bT7 x3)] [some [.ptr 1 0],aF (aJ,())] fun _ u7=>OA x2 x3 x9 u7.1 (i64.wrap (x10+1)))) (some (.tuple [],[aF (aJ,()),some [bT8]])):=ll
theorem b0Y (a1:Int) (a2:bT9) (a3:bTA) (bU:bTA):SS.CC 170 [bT8,bT6 a1,.str a2,.func (.func 243) [] [.ptr 1 0,.cst (bT7 a3)]] [aF (bU,()),some [bT8]]=OA a2 a3 a1 bU 0:=cc
theorem b1C (a0:Int) (h1:Sh.V mD) (lG:bTA):SS.CC 171 [bT6 a0,bT8,.ptr 1 0] [some [.ptr 2 0],xh h1,aF (lG,())]=bf Ea h1.2.1 a0 fun u2=>bf Ea h1.2.1 a0 fun u5=>aU 165 [bT8,bT7 [.str u2.1,.str u5.2.1]] [aF (lG,())] fun _ u7=>some (.tuple [],[some [.ptr 2 0],xh h1,aF u7]):=cc
theorem b1D (a0:Int) (h1:Sh.V kz) (lG:bTA):SS.CC 172 [bT6 a0,bT8,.ptr 1 0] [some [.ptr 2 0],xk h1,aF (lG,())]=bf Gm h1.2.1 a0 fun u2=>aU 167 [bT8,bT6 u2.2.1] [aF (lG,())] fun _ u4=>aU 166 [bT8,bT7 [.str ⟨#[42]⟩]] [aF u4] fun _ u7=>bf Gm h1.2.1 a0 fun u11=>aU 165 [bT8,bT7 [.str u11.1]] [aF u7] fun _ u13=>some (.tuple [],[some [.ptr 2 0],xk h1,aF u13]):=cc
theorem b1E (bU:Bool) (a5T:bTB):SS.CC 173 [bT8,.ptr 1 0] [mV (bU,()),Aj (a5T,())]=aA (!bU) (H33 174 [bT8,.int .u8 10] [oO (a5T,())] fun u1=>some (.tuple [],[mV (true,()),Aj u1])) (some (.tuple [],[mV (bU,()),Aj (a5T,())])):=cc
theorem b1F (a1:Int) (TQ:bTB):SS.CC 174 [bT8,.int .u8 a1] [oO (TQ,())]=H51 162 [bT8] [oO (TQ,())] fun _ u1=>chk (decide (u1.1.length+1<=bC)&&decide ((0:Int)<=a1)&&decide (a1<(256:Int))) (some (.raw .nilIface,[oO ((u1.1 ++ [UInt8.ofNat (Int.toNat a1)]),())])):=cc
def b49:KT:=SS.rK Tryz.f240 240 0 []
def b4A:KT:=SS.jK 240 19 0 (cS Tryz.f240 7) b49
def b4B:KT:=bI 0 b4A
def SV (x0:bTA) (x1:Int) (x8:Int):R:=SS.LL (SS.ae 240 19) 0 [0,1,7,8] 0 (cS Tryz.f240 37) b4B ⟨[(0,bT7 x0),(1,bT6 x1),(7,bT6 (x0.length:Int)),(8,bT6 x8)],[]⟩
theorem aHU (x0:bTA) (x1:Int) (x8:Int):SV x0 x1 x8=aA (decide (x8<(x0.length:Int))) (eH x0 x8 fun e1=>vI .i64 e1 fun n2=>aA (x1==n2) (some (bT6 x8,[])) (SV x0 x1 (i64.wrap (x8+1)))) (some (bT6 (-1),[])):=ll
theorem b4C (a0:bTA) (a1:Int):SS.CC 240 [bT7 a0,bT6 a1] []=SV a0 a1 0:=cc
theorem b4D (a0:bTA):SS.CC 241 [.sl false 4 a0] []=G7 297 [.sl false 4 a0,.func (.func 298) [] []] fun l1=>some (.sl true 1 l1,[]):=cc
theorem b4E (a0:Int) (nP:bTA) (h2:Sh.V S9) (aKE:bTA):SS.CC 242 [bT6 a0,bT8,.ptr 1 0,.ptr 2 0] [some [.ptr 3 0],ig (nP,()),O9 h2,aF (aKE,())]=bf yh h2.2.2.2.2.2.2.2.1 a0 fun u2=>eH nP u2.1 fun e7=>vS e7 fun s8=>aU 165 [bT8,bT7 [.str s8]] [aF (aKE,())] fun _ u9=>aU 166 [bT8,bT7 [.str ⟨#[58,61]⟩]] [aF u9] fun _ u12=>bf yh h2.2.2.2.2.2.2.2.1 a0 fun u16=>aU 113 [bT8,bT7 nP,A1 (u16.2.1,u16.2.2.1,u16.2.2.2.1,u16.2.2.2.2.1,()),bT6 0] [aF u12] fun _ u21=>some (.tuple [],[some [.ptr 3 0],ig (nP,()),O9 h2,aF u21]):=cc
theorem b4F (a0:Int) (a2:bTA) (nP:bTA):SS.CC 243 [bT6 a0,bT8,.cst (bT7 a2)] [some [.ptr 1 0],aF (nP,())]=eH a2 a0 fun e1=>vS e1 fun s2=>aU 165 [bT8,bT7 [.str s2]] [aF (nP,())] fun _ u3=>some (.tuple [],[some [.ptr 1 0],aF u3]):=cc
def b6Q:KT:=SS.rK Tryz.f297 297 0 []
def b6R:KT:=SS.jK 297 22 0 (cS Tryz.f297 15) b6Q
def b6S:KT:=bI 0 b6R
def Yc (x8:bTA) (x5:bTA) (x10:Int):R:=SS.LL (SS.ae 297 22) 0 [1,5,8,9,10] 0 (cS Tryz.f297 75) b6S ⟨[(1,.func (.func 298) [] []),(5,.sl true 1 x5),(8,.sl false 4 x8),(9,bT6 (x8.length:Int)),(10,bT6 x10)],[]⟩
theorem aIG (x8:bTA) (x5:bTA) (x10:Int):Yc x8 x5 x10=aA (decide (x10<(x8.length:Int))) (bf S7 x8 x10 fun u2=>G2 298 [A7 u2] fun s6=>chk (decide (x5.length+1<=bC)) (Yc x8 (x5 ++ ([.str s6]:bTA)) (i64.wrap (x10+1)))) (some (.sl true 1 x5,[])):=ll
theorem b6T (a0:bTA):SS.CC 297 [.sl false 4 a0,.func (.func 298) [] []] []=Yc a0 [] 0:=cc
theorem b6U (a0:Sh.V S7):SS.CC 298 [A7 a0] []=some (.str a0.1,[]):=cc
end
theorem aR1 {v:Nat->Int}:∀ (m k:Nat),xM v k m=0->∀ i,k<=i->i<k+m->v i=0
 | 0,k,_,i,a,b=>by omega
 | m+1,k,h,i,a,b=>by
  rw[xM] at h;by_cases hv:v k=0
  .rw[aS hv] at h;by_cases hi:i=k;simp_all
   .exact aR1 m (k+1) h i (by omega) (by omega)
  omega
theorem nN {v:Nat->Int} {n:Nat} (h:oP v n=0) {i:Nat} (hi:i<n):v i=0:=aR1 n 0 h i (zg _) (by omega)
theorem kG {a b:Int} (h:sq a b=0):a=0/\b=0:=by grind [sq]
theorem eG {b:Bool} {c x:Int} (hc:c≠0) (h:(bif b then c else x)=0):b=false/\x=0:=by grind
theorem uS {α:Type} {l:List α} {x:α} (h:x∈l):∃ k,∃ hk:k<l.length,l[k]=x:=aCB h
theorem aSX {x:EX} (hx:x.Len) {n w:Int} (h0:0<=n) (h1:n<=16) (h:zZ x n w=0):Fd n x/\fH x<=64:=by grind [zZ,a3I,XX]
structure wL (n:Nat) (x:EX):Prop where
 len:x.Len
 fd:Fd (n:Int) x
 sz:fH x<=64
abbrev R16 (v:Int):Prop := -65536<=v/\v<=65536
abbrev Gn (s:Nm):Prop:=nameB s=true
structure a2A (t:Tm) (x:Mv):Prop where
 f:0<=x.f/\x.f<t.ls.length
 e:0<=x.e/\x.e<t.es.length
 d:0<=x.t/\x.t<t.ls.length
 g:wL t.vs.length x.g
 us:∀ u,u∈x.us->(0<=u.1/\u.1<t.vs.length)/\wL t.vs.length u.2
structure Gf (t:Tm):Prop where
 ls:∀ s,s∈t.ls->Gn s
 es:∀ s,s∈t.es->Gn s
 vs:∀ v,v∈t.vs->Gn v.n/\R16 v.lo/\R16 v.hi/\R16 v.i
 v16:t.vs.length<=16
 ms:∀ x,x∈t.ms->a2A t x
structure MW (m:Mo):Prop where
 n:Gn m.n
 es:∀ e,e∈m.es->Gn e.n/\0<=e.k/\e.k<=4
 ts:∀ t,t∈m.ts->Gn t.n/\Gf t
 is:∀ x,x∈m.cs ++ m.rs->Gn x.n/\Gn x.t/\∀ s,s∈x.es->Gn s
 xs:∀ x,x∈m.xs->Gn x.n/\x.ls ≠ []/\∀ l,l∈x.ls->Gn l.1/\Gn l.2
 ks:∀ x,x∈m.ks->Gn x.n/\x.ts ≠ []/\R16 x.b/\∀ l,l∈x.ts->Gn l.1/\R16 l.2
theorem bHA {b:Bool} (h:(!b)=false):b=true:=by cases b<;>simp_all
theorem DJ {l:List Nm} {s:Nm} (h:vP l s=0):Gn s/\s∉l:=by obtain ⟨a,b⟩:=eG (by decide) h;grind
theorem aOQ {l:List Nm} (h:Dt l=0):∀ s,s∈l->Gn s:=fun s hs=>by obtain ⟨k,hk,e⟩:=uS hs;have:=nN h hk;rw[gD hk,e] at this;exact (DJ this).1
theorem bP8 {l:List Vr} {v:Vr} (h:Vm l v=0):Gn v.n/\R16 v.lo/\R16 v.hi/\R16 v.i:=by obtain ⟨a,h⟩:=eG (by decide) h;grind [big]
theorem aXT {l:List Vr} (h:JY l=0):l.length<=16/\∀ v,v∈l->Gn v.n/\R16 v.lo/\R16 v.hi/\R16 v.i:=by obtain ⟨a,h⟩:=eG (by decide) h;simp only[MK] at a;refine ⟨by omega,fun v hv => ?_⟩;grind [uS,nN,bP8]
theorem bGS {t:Tm} (h16:t.vs.length<=16) {x:Mv} (hx:x.g.Len) (hu:∀ u,u∈x.us->u.2.Len) (h:Oz (t.ls.length:Int) (t.es.length:Int) (t.vs.length:Int) x=0):a2A t x:=by obtain ⟨a,h⟩:=eG (by decide) h;obtain ⟨b,h⟩:=eG (by decide) h;obtain ⟨c,h⟩:=eG (by decide) h;obtain ⟨d,h⟩:=eG (by decide) h;obtain ⟨e,h⟩:=eG (by decide) h;obtain ⟨f,h⟩:=eG (by decide) h;obtain ⟨g,h⟩:=kG h;simp only[MK] at a b c d e f;obtain ⟨g1,g2⟩:=aSX hx (by omega) (by omega) g;refine ⟨⟨by omega,by omega⟩,⟨by omega,by omega⟩,⟨by omega,by omega⟩,⟨hx,g1,g2⟩,fun u hu2 => ?_⟩;obtain ⟨k,hk,e⟩:=uS hu2;have:=nN h hk;unfold Ld at this;rw[gD hk,e] at this;obtain ⟨a,h⟩:=eG (by decide) this;obtain ⟨b,h⟩:=eG (by decide) h;obtain ⟨_,h⟩:=eG (by decide) h;simp only[MK] at a b;obtain ⟨g1,g2⟩:=aSX (hu u hu2) (by omega) (by omega) h;exact ⟨⟨by omega,by omega⟩,hu u hu2,g1,g2⟩
theorem aJV {t:Tm} (ho:Ak t) (h:Fj t=0):Gf t:=by obtain ⟨h1,h⟩:=kG h;obtain ⟨h2,h⟩:=kG h;obtain ⟨_,h⟩:=eG (by decide) h;obtain ⟨_,h⟩:=kG h;obtain ⟨_,h⟩:=eG (by decide) h;obtain ⟨_,h⟩:=eG (by decide) h;obtain ⟨_,h⟩:=eG (by decide) h;obtain ⟨_,h⟩:=kG h;obtain ⟨h3,h⟩:=kG h;obtain ⟨_,h⟩:=kG h;obtain ⟨c1,c2⟩:=aXT h3;refine ⟨aOQ h2,aOQ h1,c2,c1,fun x hx => ?_⟩;obtain ⟨k,hk,e⟩:=uS hx;have:=nN h hk;rw[gD hk,e] at this;obtain ⟨o1,_,o2⟩:=ho.ms.2 x hx;grind [bGS]
theorem aVP {b:Int} (h:Gy b=0):R16 b:=by obtain ⟨a,h⟩:=eG (by decide) h;grind
theorem TK {m:Mo} (ho:qX m) (h:Ej m=0):MW m:=by
 obtain ⟨h1,h⟩:=eG (by decide) h;obtain ⟨h2,h⟩:=kG h;obtain ⟨_,h⟩:=eG (by decide) h;obtain ⟨_,h⟩:=eG (by decide) h;obtain ⟨_,h⟩:=eG (by decide) h;obtain ⟨_,h⟩:=eG (by decide) h;obtain ⟨_,h⟩:=eG (by decide) h;obtain ⟨h3,h⟩:=kG h;obtain ⟨h4,h⟩:=kG h;obtain ⟨h5,h6⟩:=kG h;obtain ⟨_,h2⟩:=eG (by decide) h2;refine ⟨bHA h1,fun e he => ?_,fun t ht => ?_,fun x hx => ?_,fun x hx => ?_,fun x hx => ?_⟩
 .obtain ⟨k,hk,e1⟩:=uS he;have:=nN h2 hk;rw[gD hk,e1] at this;obtain ⟨a,h⟩:=eG (by decide) this;grind
 .obtain ⟨k,hk,e1⟩:=uS ht;have:=nN h3 hk;rw[gD hk,e1] at this;obtain ⟨a,b⟩:=kG this;exact ⟨(DJ a).1,aJV (ho.ts.2 t ht).2 b⟩
 .obtain ⟨k,hk,e1⟩:=uS hx;have:=nN h4 hk;rw[gD hk,e1] at this;obtain ⟨a,b⟩:=kG this;have b2:∀ s,s∈x.t::x.es->Gn s:=fun s hs=>by obtain ⟨j,hj,e2⟩:=uS hs;have:=nN b hj;rw[gD hj,e2] at this;grind
  exact ⟨(DJ a).1,b2 _ (by simp),fun s hs=>b2 s (by simp[hs])⟩
 .obtain ⟨k,hk,e1⟩:=uS hx;have:=nN h5 hk;rw[gD hk,e1] at this;obtain ⟨a,b⟩:=kG this;obtain ⟨c,d⟩:=eG (by decide) b;refine ⟨(DJ a).1,fun hc=>by rw[hc] at c; simp at c,fun l hl => ?_⟩;obtain ⟨j,hj,e2⟩:=uS hl;have:=nN d hj;rw[gD hj,e2] at this;obtain ⟨p,q⟩:=eG (by decide) this;grind
 .obtain ⟨k,hk,e1⟩:=uS hx;have:=nN h6 hk;rw[gD hk,e1] at this;obtain ⟨a,b⟩:=kG this;obtain ⟨c,d⟩:=eG (by decide) b;obtain ⟨d,e⟩:=kG d;refine ⟨(DJ a).1,fun hc=>by rw[hc] at c; simp at c,aVP e,fun l hl => ?_⟩;obtain ⟨j,hj,e2⟩:=uS hl;have:=nN d hj;rw[gD hj,e2] at this;obtain ⟨p,q⟩:=eG (by decide) this;grind
def wo (ns:List Nm) (x:EX):List Tok:=open Classical in if h:∃ B,PB ns x B/\B.length<=8*fH x then Classical.choose h else []
theorem Xw {ns:List Nm} {x:EX} (h:wL ns.length x):PB ns x (wo ns x)/\(wo ns x).length<=512:=by have hx:=bJP ns h.fd;have hs:=h.sz;grind [wo]
def jM (s:Tok):List (List Tok)->List Tok
 | [] => []
 | [a]=>a
 | a::b::l=>a ++ s::jM s (b::l)
def uV (l:List Nm):List Tok:=tS [40]::(jM (tS [44]) (l.map fun s => [tW s]) ++ [tS [41]])
def uN (e:kK):List Tok := [tW [101,118,101,110,116],tW e.n] ++ (if e.c then [tW [99,111,110,116,114,111,108,108,97,98,108,101]] else []) ++ (if e.o then [tW [111,98,115,101,114,118,97,98,108,101]] else []) ++ (if e.f then [tW [102,111,114,99,105,98,108,101]] else []) ++ (if e.k=0 then [] else tW [102,97,117,108,116]::eY e.k) ++ [tS [59]]
def BH (I:Int) (mr:List Int) (i:Nat) (s:Nm):List Tok := [tW [108,111,99,97,116,105,111,110],tW s] ++ (if (i:Int)=I then [tW [105,110,105,116,105,97,108]] else []) ++ (if (i:Int)∈mr then [tW [109,97,114,107,101,100]] else []) ++ [tS [59]]
def tK (I:Int) (mr:List Int):Nat->List Nm->List Tok
 | _,[] => []
 | i,s::l=>BH I mr i s ++ tK I mr (i+1) l
def sW (v:Vr):List Tok := [tW [118,97,114],tW v.n,tS [58]] ++ eY v.lo ++ [tS [46,46]] ++ eY v.hi ++ [tS [61]] ++ eY v.i ++ [tS [59]]
def pK (ns:List Nm) (u:Int×EX):List Tok := [tW (ns.getD u.1.toNat []),tS [58,61]] ++ wo ns u.2
def qp (t:Tm) (x:Mv):List Tok := [tW [101,100,103,101],tW (t.ls.getD x.f.toNat []),tW (t.es.getD x.e.toNat []),tW (t.ls.getD x.t.toNat [])] ++ (if gq x.g tE then [] else tW [119,104,101,110]::wo (t.vs.map (·.n)) x.g) ++ (if x.us = [] then [] else tW [100,111]::jM (tS [44]) (x.us.map (pK (t.vs.map (·.n))))) ++ [tS [59]]
def pI (t:Tm):List Tok := [tW [116,101,109,112,108,97,116,101],tW t.n] ++ uV t.es ++ [tS [123]] ++ tK t.I t.mr 0 t.ls ++ t.vs.flatMap sW ++ t.ms.flatMap (qp t) ++ [tS [125]]
def inT (w:Nm) (x:Ins):List Tok := [tW w,tW x.n,tS [61],tW x.t] ++ uV x.es ++ [tS [59]]
abbrev wC:Nm := [99,111,109,112,111,110,101,110,116]
abbrev wR:Nm := [114,101,113,117,105,114,101,109,101,110,116]
def um (x:qG):List Tok := [tW [101,120,99,108,117,100,101],tW x.n,tS [58]] ++ jM (tS [44]) (x.ls.map fun l => [tW l.1,tW l.2]) ++ [tS [59]]
def su (x:Cst):List Tok := [tW [108,105,109,105,116],tW x.n,tS [58]] ++ jM (tS [43]) (x.ts.map fun l=>eY l.2 ++ [tS [42],tW l.1]) ++ [tS [60,61]] ++ eY x.b ++ [tS [59]]
def lX (m:Mo):List Tok := [tW [109,111,100,101,108],tW m.n,tS [59]] ++ m.es.flatMap uN ++ m.ts.flatMap pI ++ m.cs.flatMap (inT wC) ++ m.rs.flatMap (inT wR) ++ m.xs.flatMap um ++ m.ks.flatMap su
theorem aOO {α:Type} {l:List α} (h:∀ k (hk:k<l.length),l[k]∉l.take k):l.Nodup:=by rw[List.Nodup,aCC];intro i j hi hj hij e;refine h j hj ?_;rw[<- e,List.mem_take_iff_getElem];exact ⟨i,by omega,rfl⟩
theorem P6 {α:Type} {l:List α} {f:α->Nm} (h:∀ k (hk:k<l.length),f l[k]∉(l.take k).map f):(l.map f).Nodup:=aOO fun k hk=>by
 have hk':k<l.length:=by simpa using hk
 have:=h k hk';rwa [J8,<- MH]
theorem aF5 {x:EX} (hx:x.Len) {n w:Int} (h0:0<=n) (h1:n<=16) (h:zZ x n w=0):fQ x<=8:=by
 have h2:(zo x n).2=0:=by
  unfold zZ at h;cases he:(zo x n).2==0 with
  | true=>simpa using he
  | false=>rw[he] at h; exact h
 obtain ⟨k,e,r1,r2⟩:=a3I hx h0 h1;have r3:=XX hx h0;rw[r1] at r3;have:e=(zo x n).2:=by injection r3 with r3; injection r3 with r3 _; injection r3 with r3; injection r3 with _ r3; injection r3 with r3 _; injection r3
 exact (r2 (this.trans h2)).2.1
structure NE (t:Tm):Prop where
 gd:Gf t
 ok:Ak t
 es:t.es.Nodup
 ls:t.ls.Nodup
 vn:(t.vs.map (·.n)).Nodup
 tf:∀ v,v∈t.vs->v.n≠nH/\v.n≠pz
 al:t.al=uB t.es.length
 L:t.L=(t.ls.length:Int)
 I:0<=t.I/\(t.I<(t.ls.length:Int)\/t.I=0)
 mr:t.mr.Pairwise (· < ·)/\∀ i,i∈t.mr->0<=i/\i<(t.ls.length:Int)
 dp:∀ x,x∈t.ms->fQ x.g<=8/\∀ u,u∈x.us->fQ u.2<=8
structure PgM (m:Mo):Prop where
 gd:MW m
 ok:qX m
 es:(m.es.map (·.n)).Nodup
 ts:(m.ts.map (·.n)).Nodup/\∀ t,t∈m.ts->NE t
 is:((m.cs ++ m.rs).map (·.n)).Nodup
 xs:(m.xs.map (·.n)).Nodup
 ks:(m.ks.map (·.n)).Nodup
 nt:m.ts.length<=16/\m.cs.length<=32/\m.rs.length<=32/\m.xs.length<=32/\m.ks.length<=32
theorem aXP {l:List Int} {n:Int} (h:Rh l n=0):l.Pairwise (· < ·)/\∀ i,i∈l->0<=i/\i<n:=by
 have hk:∀ k (hk:k<l.length),0<=l[k]/\l[k]<n/\(0<k->∀ (hp:k-1<l.length),l[k-1]<l[k]):=fun k hk=>by have:=nN h hk;rw[gD hk] at this;obtain ⟨a,h⟩:=eG (by decide) this;obtain ⟨b,h⟩:=eG (by decide) h;obtain ⟨c,_⟩:=eG (by decide) h;simp only[MK] at a b;refine ⟨by omega,by omega,fun h0 hp => ?_⟩;rw[aO (show (0:Int)<(k:Int) by omega),Aa,gD hp] at c;simp only[MK] at c;omega
 refine ⟨?_,fun i hi => ?_⟩
 .rw[aCC];intro i j hi hj hij;have:∀ d i (hi:i<l.length) (hj:i+d+1<l.length),l[i]<l[i+d+1]:=by
   intro d;induction d with
   | zero=>intro i hi hj; exact (hk (i+1) hj).2.2 (by omega) hi
   | succ d ih =>
    intro i hi hj;have h1:=ih i hi (by omega);have h2:=(hk (i+(d+1)+1) hj).2.2 (by omega) (by omega);have e:i+(d+1)+1-1=i+d+1:=by omega
    simp only[e] at h2;exact Int.lt_trans h1 h2
  have h3:=this (j-i-1) i hi (by omega);have e:i+(j-i-1)+1=j:=by omega
  simpa only[e] using h3
 .obtain ⟨k,hk2,e⟩:=uS hi;have:=hk k hk2;rw[e] at this;exact ⟨this.1,this.2.1⟩
theorem aUV {al:List Int} {n:Nat} (h1:al.length=n) (h:NR al=0):al=uB n:=by
 subst h1;apply List.ext_getElem
 .simp[uB]
 .intro k hk hk2;have:=nN h hk;rw[gD hk] at this;obtain ⟨a,_⟩:=eG (by decide) this;simp at a;simp[uB,a]
theorem aOP {l:List Nm} (h:Dt l=0):l.Nodup:=aOO fun k hk=>by have:=nN h hk;rw[gD hk] at this;exact (DJ this).2
theorem bJS {t:Tm} (ho:Ak t) (h:Fj t=0):NE t:=by
 have hg:=aJV ho h;obtain ⟨h1,h⟩:=kG h;obtain ⟨h2,h⟩:=kG h;obtain ⟨a1,h⟩:=eG (by decide) h;obtain ⟨a2,h⟩:=kG h;obtain ⟨a3,h⟩:=eG (by decide) h;obtain ⟨a4,h⟩:=eG (by decide) h;obtain ⟨a5,h⟩:=eG (by decide) h;obtain ⟨a6,h⟩:=kG h;obtain ⟨h3,h⟩:=kG h;obtain ⟨a7,h⟩:=kG h;simp only[MK] at a4 a5;have a1:t.al.length=t.es.length:=by simp at a1; omega
 have a3:t.L=(t.ls.length:Int):=by simpa using a3
 refine ⟨hg,ho,aOP h1,aOP h2,?_,fun v hv => ?_,aUV a1 a2,a3,⟨by omega,?_⟩,aXP a6,fun x hx => ?_⟩
 .obtain ⟨_,h3⟩:=eG (by decide) h3;refine P6 fun k hk => ?_
  have:=nN h3 hk;rw[gD hk] at this;obtain ⟨_,h⟩:=eG (by decide) this;obtain ⟨b,_⟩:=eG (by decide) h;simpa using b
 .obtain ⟨k,hk,e⟩:=uS hv;have:=nN a7 hk;rw[gD hk,e] at this;obtain ⟨b,h⟩:=eG (by decide) this;obtain ⟨c,_⟩:=eG (by decide) h;exact ⟨by simpa using b,by simpa using c⟩
 .unfold P5 at a5;split at a5<;>omega
 .obtain ⟨k,hk,e⟩:=uS hx;have:=nN h hk;rw[gD hk,e] at this;obtain ⟨_,h⟩:=eG (by decide) this;obtain ⟨_,h⟩:=eG (by decide) h;obtain ⟨_,h⟩:=eG (by decide) h;obtain ⟨_,h⟩:=eG (by decide) h;obtain ⟨_,h⟩:=eG (by decide) h;obtain ⟨_,h⟩:=eG (by decide) h;obtain ⟨g,h⟩:=kG h;obtain ⟨o1,_,o2⟩:=ho.ms.2 x hx;have h16:=hg.v16;refine ⟨aF5 o1 (by omega) (by omega) g,fun u hu => ?_⟩;obtain ⟨j,hj,e2⟩:=uS hu;have:=nN h hj;unfold Ld at this;rw[gD hj,e2] at this;obtain ⟨_,h⟩:=eG (by decide) this;obtain ⟨_,h⟩:=eG (by decide) h;obtain ⟨_,h⟩:=eG (by decide) h;exact aF5 (o2 u hu) (by omega) (by omega) h
theorem bJT {m:Mo} (ho:qX m) (h:Ej m=0):PgM m:=by
 have hg:=TK ho h;obtain ⟨h1,h⟩:=eG (by decide) h;obtain ⟨h2,h⟩:=kG h;obtain ⟨b1,h⟩:=eG (by decide) h;obtain ⟨b2,h⟩:=eG (by decide) h;obtain ⟨b3,h⟩:=eG (by decide) h;obtain ⟨b4,h⟩:=eG (by decide) h;obtain ⟨b5,h⟩:=eG (by decide) h;obtain ⟨h3,h⟩:=kG h;obtain ⟨h4,h⟩:=kG h;obtain ⟨h5,h6⟩:=kG h;obtain ⟨_,h2⟩:=eG (by decide) h2;simp only[MK] at b1 b2 b3 b4 b5;refine ⟨hg,ho,P6 fun k hk => ?_,⟨P6 fun k hk => ?_,fun t ht => ?_⟩,P6 fun k hk => ?_,P6 fun k hk => ?_,P6 fun k hk => ?_,by omega⟩
 .have:=nN h2 hk;rw[gD hk] at this;obtain ⟨_,h⟩:=eG (by decide) this;obtain ⟨b,_⟩:=eG (by decide) h;simpa using b
 .have:=nN h3 hk;rw[gD hk] at this;exact (DJ (kG this).1).2
 .obtain ⟨k,hk,e1⟩:=uS ht;have:=nN h3 hk;rw[gD hk,e1] at this;exact bJS (ho.ts.2 t ht).2 (kG this).2
 .have:=nN h4 hk;rw[gD hk] at this;exact (DJ (kG this).1).2
 .have:=nN h5 hk;rw[gD hk] at this;exact (DJ (kG this).1).2
 .have:=nN h6 hk;rw[gD hk] at this;exact (DJ (kG this).1).2
theorem wM {g:FuncId} {a:bTA} {h:aG} {x1:Sh.V S1} {y2:Sh.V yj} {K:RS.F (.g S1) (di [.c yj])} (e:SS.CC g a h=some (A1 x1,[iV y2])):pg g a h K=K x1 y2:=fP e rfl
theorem aD1 {g:FuncId} {a:bTA} {h:aG} {n1:Int} {y2:Sh.V yj} {K:RS.F (.ti .i64) (di [.c yj])} (e:SS.CC g a h=some (bT6 n1,[iV y2])):H79 g a h K=K n1 y2:=fP e rfl
theorem aTO {g:FuncId} {a:bTA} {x1:Sh.V S0} {K:RS.F (.g S0) R} (e:SS.CC g a []=some (A0 x1,[])):G8 g a K=K x1:=rZ e rfl
theorem aTK {g:FuncId} {a:bTA} {x1:Sh.V S5} {K:RS.F (.g S5) R} (e:SS.CC g a []=some (A5 x1,[])):G21 g a K=K x1:=rZ e rfl
theorem aTL {g:FuncId} {a:bTA} {l1:bTA} {K:RS.F (.tl false 4) R} (e:SS.CC g a []=some (.sl false 4 l1,[])):JJ g a K=K l1:=rZ e rfl
section
def a'V:KT:=SS.rK Tryz.f11 11 0 []
def a'W:KT:=SS.jK 11 92 0 (cS Tryz.f11 63) a'V
def a'X:KT:=bI 0 a'W
def Es (x1:Int) (x5:bT9) (x6:Int) (Iz:bTA) (x7:bTA) (EO:Int):R:=SS.LL (SS.ae 11 92) 0 [1,5,6,7,33,34,35] 0 (cS Tryz.f11 303) a'X ⟨[(1,.int .u16 x1),(5,.str x5),(6,bT6 x6),(7,.sl true 1 x7),(33,bT7 Iz),(34,bT6 (Iz.length:Int)),(35,bT6 EO)],[]⟩
theorem aGP (x1:Int) (x5:bT9) (x6:Int) (Iz:bTA) (x7:bTA) (EO:Int):Es x1 x5 x6 Iz x7 EO=aA (decide (EO<(Iz.length:Int))) (eH Iz EO fun e1=>vS e1 fun s2=>chk (decide (0<=(Int.tmod EO 16))) (aA ((IntKind.u16.wrap (BitVec.ofInt 16 (Int.fdiv x1 (2 ^ min (Int.tmod EO 16).toNat 16)) &&& BitVec.ofInt 16 1).toNat)==1) (chk (decide ((⟨#[9]⟩:bT9).size+s2.size<=bC)) (chk (decide (((⟨#[9]⟩:bT9) ++ s2).size+(⟨#[32,32,47,47,32]⟩:bT9).size<=bC)) (G2 35 [bT6 EO] fun s3=>chk (decide ((((⟨#[9]⟩:bT9) ++ s2) ++ (⟨#[32,32,47,47,32]⟩:bT9)).size+s3.size<=bC)) (chk (decide (x7.length+1<=bC)) (Es x1 x5 x6 Iz (x7 ++ ([.str ((((⟨#[9]⟩:bT9) ++ s2) ++ (⟨#[32,32,47,47,32]⟩:bT9)) ++ s3)]:bTA)) (i64.wrap (EO+1))))))) (chk (decide (x7.length+1<=bC)) (Es x1 x5 x6 Iz (x7 ++ ([.str s2]:bTA)) (i64.wrap (EO+1)))))) (G2 15 [bT7 x7,.str ⟨#[10]⟩] fun s5=>Qb 40 [.str s5] fun u7=>Qb 40 [.str u7.1.1] fun u12=>aA (x6==0) (aA (u7.2.2.2.1.1==0) (aA (u12.2.2.2.1.1==0) (aA (u7.1.1.toList==x5.toList) (some (.bool (u12.1.1.toList==x5.toList),[])) (some (.bool false,[]))) (some (.bool false,[]))) (some (.bool false,[]))) (some (.bool false,[]))):=ll
theorem a'Y (a0:Sh.V S2) (a1:Int):SS.CC 11 [A2 a0,.int .u16 a1] []=G3 12 [] fun b1=>aA (!b1) (G3 12 [] fun b3=>some (.bool b3,[])) (G3 32 [A2 a0] fun b5=>aA (!b5) (G3 12 [] fun b7=>some (.bool b7,[])) (G8 34 [A2 a0] fun u9=>G0 17 [A0 u9] fun rE=>G4 39 [.str rE.1.1,.str ⟨#[10]⟩] fun l20=>Es a1 rE.1.1 rE.2.1.1 l20 [] 0)):=cc
theorem b7P (a0:Sh.V S2):SS.CC 32 [A2 a0] []=aA (decide (4<(a0.2.2.2.2.2.1.length:Int))) (some (.bool false,[])) (aA (decide (8<(a0.2.2.2.2.2.2.1.length:Int))) (some (.bool false,[])) (aA (decide (4<(a0.2.2.2.2.2.2.2.1.length:Int))) (some (.bool false,[])) (aA (decide (4<(a0.2.2.2.2.2.2.2.2.1.length:Int))) (some (.bool false,[])) (G3 123 [.sl false 7 a0.2.2.2.2.2.1,.func (.func 124) [] []] fun b1=>some (.bool (!b1),[]))))):=cc
def Jm:KT:=SS.rK Tryz.f34 34 0 []
def b84:KT:=SS.jK 34 215 0 (cS Tryz.f34 15) Jm
def b8E:KT:=bI 0 b84
def b8F:KT:=SS.jK 34 215 0 (cS Tryz.f34 63) Jm
def aIY:KT:=bI 2 b8F
def b8G:KT:=SS.lK 34 215 0 [1,2,3,6,46,47,48] 2 (cS Tryz.f34 303) aIY
def b8H:KT:=SS.jK 34 215 0 (cS Tryz.f34 3887) b8G
def aIZ:KT:=bI 3 b8H
def b8I:KT:=SS.jK 34 215 0 (cS Tryz.f34 127791) aIZ
def b8J:KT:=bI 4 b8I
def b85:KT:=SS.jK 34 215 0 (cS Tryz.f34 127) Jm
def aIX:KT:=bI 6 b85
def b86:KT:=SS.lK 34 215 0 [1,2,3,6,111,112,113] 2 (cS Tryz.f34 607) aIX
def b88:KT:=SS.jK 34 215 0 (cS Tryz.f34 7775) b86
def b89:KT:=bI 7 b88
def b8A:KT:=SS.jK 34 215 0 (cS Tryz.f34 255583) b89
def b8B:KT:=bI 8 b8A
def b8C:KT:=SS.jK 34 215 0 (cS Tryz.f34 255) Jm
def b8D:KT:=bI 10 b8C
def TD (x1:Sh.V S2) (ay:bTA) (x24:Int) (bJ:bTA):R:=SS.LL (SS.ae 34 215) 0 [1,2,3,22,23,24] 2 (cS Tryz.f34 75) b8E ⟨[(1,.cst (A2 x1)),(2,bT8),(3,.ptr 1 0),(22,.sl false 7 x1.2.2.2.2.2.1),(23,bT6 (x1.2.2.2.2.2.1.length:Int)),(24,bT6 x24)],[bH (⟨#[]⟩,[],[],[],[],[],[],()),Cb (⟨#[109,111,100,101,108]⟩,ay,bJ,[],[],[],[],())]⟩
def OI (x1:Sh.V S2) (ay:bTA) (bJ:bTA):R:=bG (SS.xX 34 215 0) (cS Tryz.f34 15) Jm ⟨[(1,.cst (A2 x1)),(2,bT8),(3,.ptr 1 0)],[bH (⟨#[]⟩,[],[],[],[],[],[],()),Cb (⟨#[109,111,100,101,108]⟩,ay,bJ,[],[],[],[],())]⟩
def Yj (x1:Sh.V S2) (ay:bTA) (x6:bTA) (qO:Int) (gW:bTA) (gX:bTA) (bJ:bTA):R:=SS.LL (SS.ae 34 215) 0 [1,2,3,6,46,47,48] 2 (cS Tryz.f34 303) aIY ⟨[(1,.cst (A2 x1)),(2,bT8),(3,.ptr 1 0),(6,.sl true 1 x6),(46,.sl false 3 x1.2.2.2.2.2.2.1),(47,bT6 (x1.2.2.2.2.2.2.1.length:Int)),(48,bT6 qO)],[bH (⟨#[]⟩,[],[],[],[],[],[],()),Cb (⟨#[109,111,100,101,108]⟩,ay,bJ,gW,gX,[],[],())]⟩
def TA (x1:Sh.V S2) (ay:bTA) (q2:Sh.V wP) (Lr:Int) (zN:bTA) (x6:bTA) (qO:Int) (bJ:bTA) (gW:bTA) (gX:bTA) (dH:bT9):R:=SS.LL (SS.ae 34 215) 0 [1,2,3,6,8,9,46,47,48,70,71] 4 (cS Tryz.f34 619311) b8J ⟨[(1,.cst (A2 x1)),(2,bT8),(3,.ptr 1 0),(6,.sl true 1 x6),(8,.ptr 2 0),(9,.ptr 3 0),(46,.sl false 3 x1.2.2.2.2.2.2.1),(47,bT6 (x1.2.2.2.2.2.2.1.length:Int)),(48,bT6 qO),(70,bT6 (i64.wrap (Int.tmod q2.2.1 4))),(71,bT6 Lr)],[bH (⟨#[]⟩,[],[],[],[],[],[],()),Cb (⟨#[109,111,100,101,108]⟩,ay,bJ,gW,gX,[],[],()),Wi q2,mQ (dH,(strOf ([.int .u8 116,.int .u8 (IntKind.u8.wrap (48+(Int.tmod q2.1 3)))]:bTA)),zN,())]⟩
def OG (x1:Sh.V S2) (ay:bTA) (x6:bTA) (bJ:bTA) (gW:bTA) (gX:bTA):R:=bG (SS.xX 34 215 0) (cS Tryz.f34 63) Jm ⟨[(1,.cst (A2 x1)),(2,bT8),(3,.ptr 1 0),(6,.sl true 1 x6)],[bH (⟨#[]⟩,[],[],[],[],[],[],()),Cb (⟨#[109,111,100,101,108]⟩,ay,bJ,gW,gX,[],[],())]⟩
def Sz (x1:Sh.V S2) (ay:bTA) (q2:Sh.V wP) (gW:bTA) (gX:bTA) (x6:bTA) (qO:Int) (bJ:bTA) (dH:bT9) (zN:bTA):R:=bG (SS.xX 34 215 0) (cS Tryz.f34 258863) aIZ ⟨[(1,.cst (A2 x1)),(2,bT8),(3,.ptr 1 0),(6,.sl true 1 x6),(9,.ptr 3 0),(46,.sl false 3 x1.2.2.2.2.2.2.1),(47,bT6 (x1.2.2.2.2.2.2.1.length:Int)),(48,bT6 qO)],[bH (⟨#[]⟩,[],[],[],[],[],[],()),Cb (⟨#[109,111,100,101,108]⟩,ay,bJ,gW,gX,[],[],()),Wi q2,mQ (dH,(strOf ([.int .u8 116,.int .u8 (IntKind.u8.wrap (48+(Int.tmod q2.1 3)))]:bTA)),zN,())]⟩
def TB (x1:Sh.V S2) (ay:bTA) (x113:Int) (nV:bTA) (x6:bTA) (bJ:bTA) (gW:bTA) (gX:bTA):R:=SS.LL (SS.ae 34 215) 0 [1,2,3,6,111,112,113] 2 (cS Tryz.f34 607) aIX ⟨[(1,.cst (A2 x1)),(2,bT8),(3,.ptr 1 0),(6,.sl true 1 x6),(111,.sl false 4 x1.2.2.2.2.2.2.2.1),(112,bT6 (x1.2.2.2.2.2.2.2.1.length:Int)),(113,bT6 x113)],[bH (⟨#[]⟩,[],[],[],[],[],[],()),Cb (⟨#[109,111,100,101,108]⟩,ay,bJ,gW,gX,nV,[],())]⟩
def TC (x1:Sh.V S2) (ay:bTA) (q2:Sh.V Gp) (CE:Int) (x6:bTA) (x113:Int) (bJ:bTA) (gW:bTA) (gX:bTA) (nV:bTA) (q3:Sh.V rU):R:=SS.LL (SS.ae 34 215) 0 [1,2,3,6,12,13,111,112,113,130,131] 4 (cS Tryz.f34 1238623) b8B ⟨[(1,.cst (A2 x1)),(2,bT8),(3,.ptr 1 0),(6,.sl true 1 x6),(12,.ptr 2 0),(13,.ptr 3 0),(111,.sl false 4 x1.2.2.2.2.2.2.2.1),(112,bT6 (x1.2.2.2.2.2.2.2.1.length:Int)),(113,bT6 x113),(130,bT6 (i64.wrap (1+(i64.wrap (Int.tmod q2.1 3))))),(131,bT6 CE)],[bH (⟨#[]⟩,[],[],[],[],[],[],()),Cb (⟨#[109,111,100,101,108]⟩,ay,bJ,gW,gX,nV,[],()),O21 q2,uz q3]⟩
def OH (x1:Sh.V S2) (ay:bTA) (x6:bTA) (bJ:bTA) (gW:bTA) (gX:bTA) (nV:bTA):R:=bG (SS.xX 34 215 0) (cS Tryz.f34 127) Jm ⟨[(1,.cst (A2 x1)),(2,bT8),(3,.ptr 1 0),(6,.sl true 1 x6)],[bH (⟨#[]⟩,[],[],[],[],[],[],()),Cb (⟨#[109,111,100,101,108]⟩,ay,bJ,gW,gX,nV,[],())]⟩
def Yk (x168:bTA) (ay:bTA) (AZ:Int) (KY:bTA) (x6:bTA) (bJ:bTA) (gW:bTA) (gX:bTA) (nV:bTA):R:=SS.LL (SS.ae 34 215) 0 [2,3,6,168,169,170] 2 (cS Tryz.f34 1215) b8D ⟨[(2,bT8),(3,.ptr 1 0),(6,.sl true 1 x6),(168,.sl false 3 x168),(169,bT6 (x168.length:Int)),(170,bT6 AZ)],[bH (⟨#[]⟩,[],[],[],[],[],[],()),Cb (⟨#[109,111,100,101,108]⟩,ay,bJ,gW,gX,nV,KY,())]⟩
theorem aJ4 (x1:Sh.V S2) (ay:bTA) (x24:Int) (bJ:bTA):TD x1 ay x24 bJ=aA (decide (x24<(x1.2.2.2.2.2.1.length:Int))) (bf qY x1.2.2.2.2.2.1 x24 fun u2=>aA (x24==2) (OI x1 ay bJ) (chk (rX ([.int .u8 116,.int .u8 (IntKind.u8.wrap (48+(IntKind.u8.wrap x24)))]:bTA)) (G21 126 [.str (strOf ([.int .u8 116,.int .u8 (IntKind.u8.wrap (48+(IntKind.u8.wrap x24)))]:bTA)),zi u2] fun u9=>chk (decide (bJ.length+1<=bC)) (TD x1 ay (i64.wrap (x24+1)) (bJ ++ ([A5 u9]:bTA)))))) (OI x1 ay bJ):=ll
theorem b83 (x1:Sh.V S2) (ay:bTA) (bJ:bTA):OI x1 ay bJ=Yj x1 ay [.str ⟨#[99,48]⟩] 0 [] [] bJ:=by kernel_rfl
theorem aI' (x1:Sh.V S2) (ay:bTA) (x6:bTA) (qO:Int) (gW:bTA) (gX:bTA) (bJ:bTA):Yj x1 ay x6 qO gW gX bJ=aA (decide (qO<(x1.2.2.2.2.2.2.1.length:Int))) (bf wP x1.2.2.2.2.2.2.1 qO fun u2=>aA (qO==4) (OG x1 ay x6 bJ gW gX) (chk (rX ([.int .u8 99,.int .u8 (IntKind.u8.wrap (48+(IntKind.u8.wrap qO)))]:bTA)) (chk (rX ([.int .u8 116,.int .u8 (IntKind.u8.wrap (48+(Int.tmod u2.1 3)))]:bTA)) (TA x1 ay u2 0 [] x6 qO bJ gW gX (strOf ([.int .u8 99,.int .u8 (IntKind.u8.wrap (48+(IntKind.u8.wrap qO)))]:bTA)))))) (OG x1 ay x6 bJ gW gX):=ll
theorem aJ0 (x1:Sh.V S2) (ay:bTA) (q2:Sh.V wP) (Lr:Int) (zN:bTA) (x6:bTA) (qO:Int) (bJ:bTA) (gW:bTA) (gX:bTA) (dH:bT9):TA x1 ay q2 Lr zN x6 qO bJ gW gX dH=aA (decide (Lr<(i64.wrap (Int.tmod q2.2.1 4)))) (chk (rX ([.int .u8 (IntKind.u8.wrap (97+(Int.tmod (IntKind.u8.wrap (q2.2.2.1+(IntKind.u8.wrap Lr))) 6)))]:bTA)) (chk (decide (zN.length+1<=bC)) (TA x1 ay q2 (i64.wrap (Lr+1)) (zN ++ ([.str (strOf ([.int .u8 (IntKind.u8.wrap (97+(Int.tmod (IntKind.u8.wrap (q2.2.2.1+(IntKind.u8.wrap Lr))) 6)))]:bTA))]:bTA)) x6 qO bJ gW gX dH))) (aA (decide (q2.1<128)) (chk (decide (gW.length+1<=bC)) (Sz x1 ay q2 (gW ++ ([A8 (dH,(strOf ([.int .u8 116,.int .u8 (IntKind.u8.wrap (48+(Int.tmod q2.1 3)))]:bTA)),zN,())]:bTA)) gX x6 qO bJ dH zN)) (chk (decide (gX.length+1<=bC)) (Sz x1 ay q2 gW (gX ++ ([A8 (dH,(strOf ([.int .u8 116,.int .u8 (IntKind.u8.wrap (48+(Int.tmod q2.1 3)))]:bTA)),zN,())]:bTA)) x6 qO bJ dH zN))):=ll
theorem b81 (x1:Sh.V S2) (ay:bTA) (x6:bTA) (bJ:bTA) (gW:bTA) (gX:bTA):OG x1 ay x6 bJ gW gX=TB x1 ay 0 [] x6 bJ gW gX:=by kernel_rfl
theorem aIW (x1:Sh.V S2) (ay:bTA) (q2:Sh.V wP) (gW:bTA) (gX:bTA) (x6:bTA) (qO:Int) (bJ:bTA) (dH:bT9) (zN:bTA):Sz x1 ay q2 gW gX x6 qO bJ dH zN=chk (decide (x6.length+1<=bC)) (Yj x1 ay (x6 ++ ([.str dH]:bTA)) (i64.wrap (qO+1)) gW gX bJ):=by kernel_rfl
theorem aJ1 (x1:Sh.V S2) (ay:bTA) (x113:Int) (nV:bTA) (x6:bTA) (bJ:bTA) (gW:bTA) (gX:bTA):TB x1 ay x113 nV x6 bJ gW gX=aA (decide (x113<(x1.2.2.2.2.2.2.2.1.length:Int))) (bf Gp x1.2.2.2.2.2.2.2.1 x113 fun u2=>aA (x113==2) (OH x1 ay x6 bJ gW gX nV) (chk (rX ([.int .u8 101,.int .u8 (IntKind.u8.wrap (48+(IntKind.u8.wrap x113)))]:bTA)) (TC x1 ay u2 0 x6 x113 bJ gW gX nV ((strOf ([.int .u8 101,.int .u8 (IntKind.u8.wrap (48+(IntKind.u8.wrap x113)))]:bTA)),[],())))) (OH x1 ay x6 bJ gW gX nV):=ll
theorem aJ2 (x1:Sh.V S2) (ay:bTA) (q2:Sh.V Gp) (CE:Int) (x6:bTA) (x113:Int) (bJ:bTA) (gW:bTA) (gX:bTA) (nV:bTA) (q3:Sh.V rU):TC x1 ay q2 CE x6 x113 bJ gW gX nV q3=aA (decide (CE<(i64.wrap (1+(i64.wrap (Int.tmod q2.1 3)))))) (chk (decide (0<=(i64.wrap (1+CE)))&&decide ((i64.wrap (1+CE))<(4:Int))) (FD [.int .u8 q2.1,.int .u8 q2.2.1,.int .u8 q2.2.2.1,.int .u8 q2.2.2.2.1] (0+(i64.wrap (1+CE)).toNat*1) fun e1=>vI .u8 e1 fun n2=>chk (!((x6.length:Int)==0)) (eH x6 (Int.tmod (i64.wrap n2) (x6.length:Int)) fun e3=>vS e3 fun s4=>chk (decide (0<=(i64.wrap (3-CE)))&&decide ((i64.wrap (3-CE))<(4:Int))) (FD [.int .u8 q2.1,.int .u8 q2.2.1,.int .u8 q2.2.2.1,.int .u8 q2.2.2.2.1] (0+(i64.wrap (3-CE)).toNat*1) fun e5=>vI .u8 e5 fun n6=>chk (rX ([.int .u8 108,.int .u8 (IntKind.u8.wrap (48+(Int.tmod n6 5)))]:bTA)) (chk (decide (q3.2.1.length+1<=bC)) (TC x1 ay q2 (i64.wrap (CE+1)) x6 x113 bJ gW gX nV (q3.1,(q3.2.1 ++ ([MN (s4,(strOf ([.int .u8 108,.int .u8 (IntKind.u8.wrap (48+(Int.tmod n6 5)))]:bTA)),())]:bTA)),()))))))) (chk (decide (nV.length+1<=bC)) (TB x1 ay (i64.wrap (x113+1)) (nV ++ ([GZ q3]:bTA)) x6 bJ gW gX)):=ll
theorem b82 (x1:Sh.V S2) (ay:bTA) (x6:bTA) (bJ:bTA) (gW:bTA) (gX:bTA) (nV:bTA):OH x1 ay x6 bJ gW gX nV=Yk x1.2.2.2.2.2.2.2.2.1 ay 0 [] x6 bJ gW gX nV:=by kernel_rfl
theorem aJ3 (x168:bTA) (ay:bTA) (AZ:Int) (KY:bTA) (x6:bTA) (bJ:bTA) (gW:bTA) (gX:bTA) (nV:bTA):Yk x168 ay AZ KY x6 bJ gW gX nV=aA (decide (AZ<(x168.length:Int))) (bf Qq x168 AZ fun u2=>aA (AZ==2) (some (A0 (⟨#[109,111,100,101,108]⟩,ay,bJ,gW,gX,nV,KY,()),[])) (chk (rX ([.int .u8 107,.int .u8 (IntKind.u8.wrap (48+(IntKind.u8.wrap AZ)))]:bTA)) (eH x6 0 fun e5=>vS e5 fun s6=>eH x6 (i64.wrap ((x6.length:Int)-1)) fun e7=>vS e7 fun s8=>chk (decide (0<=(i64.wrap (1+(Int.tmod AZ 2))))&&decide ((i64.wrap (1+(Int.tmod AZ 2)))<=2)) (chk (decide (KY.length+1<=bC)) (Yk x168 ay (i64.wrap (AZ+1)) (KY ++ ([zh ((strOf ([.int .u8 107,.int .u8 (IntKind.u8.wrap (48+(IntKind.u8.wrap AZ)))]:bTA)),(([QV (s6,i64.wrap u2.1,()),QV (s8,i64.wrap u2.2.1,())]:bTA).take (i64.wrap (1+(Int.tmod AZ 2))).toNat),i64.wrap u2.2.2.1,())]:bTA)) x6 bJ gW gX nV))))) (some (A0 (⟨#[109,111,100,101,108]⟩,ay,bJ,gW,gX,nV,KY,()),[])):=ll
theorem b8K (a0:Sh.V S2):SS.CC 34 [A2 a0] []=MS 125 [WO (a0.1,a0.2.1,a0.2.2.1,a0.2.2.2.1,a0.2.2.2.2.1,())] fun l1=>TD a0 l1 0 []:=cc
theorem a_0 (a0:bTA):SS.CC 123 [.sl false 7 a0,.func (.func 124) [] []] []=G1 216 [.sl false 7 a0,.func (.func 124) [] []] fun n1=>some (.bool (decide (0<=n1)),[]):=cc
theorem a_1 (a0:Sh.V qY):SS.CC 124 [zi a0] []=aA (decide (6<(a0.2.2.2.2.1.length:Int))) (some (.bool true,[])) (aA (decide (8<(a0.2.2.2.2.2.1.length:Int))) (some (.bool true,[])) (some (.bool (decide (200<(a0.2.2.2.2.2.2.1.length:Int))),[]))):=cc
def a_2:KT:=SS.rK Tryz.f125 125 0 []
def a_3:KT:=SS.jK 125 55 0 (cS Tryz.f125 15) a_2
def a_4:KT:=bI 0 a_3
def Jj (x1:Sh.V Qr) (x3:bTA) (x4:Int):R:=SS.LL (SS.ae 125 55) 0 [1,3,4] 0 (cS Tryz.f125 75) a_4 ⟨[(1,.cst (WO x1)),(3,.sl true 5 x3),(4,bT6 x4)],[]⟩
theorem aGQ (x1:Sh.V Qr) (x3:bTA) (x4:Int):Jj x1 x3 x4=aA (decide (x4<5)) (chk (rX ([.int .u8 (IntKind.u8.wrap (97+(IntKind.u8.wrap x4)))]:bTA)) (chk (decide (x4<(5:Int))) (eH [.int .u8 x1.1,.int .u8 x1.2.1,.int .u8 x1.2.2.1,.int .u8 x1.2.2.2.1,.int .u8 x1.2.2.2.2.1] x4 fun e1=>vI .u8 e1 fun n2=>aA (decide (48<=n2)) (chk (decide (x4<(5:Int))) (eH [.int .u8 x1.1,.int .u8 x1.2.1,.int .u8 x1.2.2.1,.int .u8 x1.2.2.2.1,.int .u8 x1.2.2.2.2.1] x4 fun e3=>vI .u8 e3 fun n4=>aA (decide (n4<52)) (chk (decide (x4<(5:Int))) (eH [.int .u8 x1.1,.int .u8 x1.2.1,.int .u8 x1.2.2.1,.int .u8 x1.2.2.2.1,.int .u8 x1.2.2.2.2.1] x4 fun e5=>vI .u8 e5 fun n6=>chk (decide (x3.length+1<=bC)) (Jj x1 (x3 ++ ([A4 ((strOf ([.int .u8 (IntKind.u8.wrap (97+(IntKind.u8.wrap x4)))]:bTA)),false,false,false,i64.wrap ((i64.wrap n6)-47),())]:bTA)) (i64.wrap (x4+1))))) (chk (decide (x4<(5:Int))) (eH [.int .u8 x1.1,.int .u8 x1.2.1,.int .u8 x1.2.2.1,.int .u8 x1.2.2.2.1,.int .u8 x1.2.2.2.2.1] x4 fun e7=>vI .u8 e7 fun n8=>chk (decide (x4<(5:Int))) (eH [.int .u8 x1.1,.int .u8 x1.2.1,.int .u8 x1.2.2.1,.int .u8 x1.2.2.2.1,.int .u8 x1.2.2.2.2.1] x4 fun e9=>vI .u8 e9 fun n10=>chk (decide (x4<(5:Int))) (eH [.int .u8 x1.1,.int .u8 x1.2.1,.int .u8 x1.2.2.1,.int .u8 x1.2.2.2.1,.int .u8 x1.2.2.2.2.1] x4 fun e11=>vI .u8 e11 fun n12=>chk (decide (x3.length+1<=bC)) (Jj x1 (x3 ++ ([A4 ((strOf ([.int .u8 (IntKind.u8.wrap (97+(IntKind.u8.wrap x4)))]:bTA)),((IntKind.u8.wrap (BitVec.ofInt 8 n8 &&& BitVec.ofInt 8 1).toNat)==1),((IntKind.u8.wrap (BitVec.ofInt 8 n10 &&& BitVec.ofInt 8 2).toNat)==2),((IntKind.u8.wrap (BitVec.ofInt 8 n12 &&& BitVec.ofInt 8 4).toNat)==4),0,())]:bTA)) (i64.wrap (x4+1))))))))) (chk (decide (x4<(5:Int))) (eH [.int .u8 x1.1,.int .u8 x1.2.1,.int .u8 x1.2.2.1,.int .u8 x1.2.2.2.1,.int .u8 x1.2.2.2.2.1] x4 fun e13=>vI .u8 e13 fun n14=>chk (decide (x4<(5:Int))) (eH [.int .u8 x1.1,.int .u8 x1.2.1,.int .u8 x1.2.2.1,.int .u8 x1.2.2.2.1,.int .u8 x1.2.2.2.2.1] x4 fun e15=>vI .u8 e15 fun n16=>chk (decide (x4<(5:Int))) (eH [.int .u8 x1.1,.int .u8 x1.2.1,.int .u8 x1.2.2.1,.int .u8 x1.2.2.2.1,.int .u8 x1.2.2.2.2.1] x4 fun e17=>vI .u8 e17 fun n18=>chk (decide (x3.length+1<=bC)) (Jj x1 (x3 ++ ([A4 ((strOf ([.int .u8 (IntKind.u8.wrap (97+(IntKind.u8.wrap x4)))]:bTA)),((IntKind.u8.wrap (BitVec.ofInt 8 n14 &&& BitVec.ofInt 8 1).toNat)==1),((IntKind.u8.wrap (BitVec.ofInt 8 n16 &&& BitVec.ofInt 8 2).toNat)==2),((IntKind.u8.wrap (BitVec.ofInt 8 n18 &&& BitVec.ofInt 8 4).toNat)==4),0,())]:bTA)) (i64.wrap (x4+1)))))))))) (some (.sl false 5 x3,[])):=ll
theorem a_5 (a0:Sh.V Qr):SS.CC 125 [WO a0] []=Jj a0 [] 0:=cc
def a4J:KT:=SS.rK Tryz.f126 126 0 []
def a_7:KT:=SS.jK 126 166 0 (cS Tryz.f126 63) a4J
def a_A:KT:=bI 0 a_7
def a_B:KT:=SS.jK 126 166 0 (cS Tryz.f126 127) a4J
def a_C:KT:=bI 2 a_B
def a_D:KT:=SS.jK 126 166 0 (cS Tryz.f126 255) a4J
def aGR:KT:=bI 4 a_D
def a_E:KT:=SS.lK 126 166 0 [3,4,5,6,7,72,73,74] 3 (cS Tryz.f126 1215) aGR
def a_F:KT:=SS.jK 126 166 0 (cS Tryz.f126 15551) a_E
def aGS:KT:=bI 5 a_F
def a_8:KT:=SS.jK 126 166 0 (cS Tryz.f126 2084031) aGS
def a_9:KT:=bI 6 a_8
def DN (x3:Sh.V qY) (dh:bT9) (ay:bTA) (bJ:bTA) (jP:bTA) (QI:Int) (eU:bTA):R:=SS.LL (SS.ae 126 166) 0 [3,4,5,6,7,43,44] 3 (cS Tryz.f126 303) a_A ⟨[(3,.cst (zi x3)),(4,bT8),(5,.ptr 1 0),(6,bT6 (ay.length:Int)),(7,.ptr 2 0),(43,bT6 (bJ.length:Int)),(44,bT6 QI)],[fB (⟨#[]⟩,[],[],[],0,0,[],[],[],()),Qn (dh,ay,bJ,[],0,0,[],[],[],()),Qo (eU,(ay.length:Int),Int.tmod (i64.wrap x3.2.2.1) (ay.length:Int),[],jP,[],())]⟩
def Jk (x3:Sh.V qY) (dh:bT9) (ay:bTA) (bJ:bTA) (jP:bTA) (x55:Int) (lY:bTA) (eU:bTA):R:=SS.LL (SS.ae 126 166) 0 [3,4,5,6,7,54,55] 3 (cS Tryz.f126 607) a_C ⟨[(3,.cst (zi x3)),(4,bT8),(5,.ptr 1 0),(6,bT6 (ay.length:Int)),(7,.ptr 2 0),(54,bT6 (ay.length:Int)),(55,bT6 x55)],[fB (⟨#[]⟩,[],[],[],0,0,[],[],[],()),Qn (dh,ay,bJ,[],0,0,[],[],[],()),Qo (eU,(ay.length:Int),Int.tmod (i64.wrap x3.2.2.1) (ay.length:Int),lY,jP,[],())]⟩
def Hg (x3:Sh.V qY) (dh:bT9) (ay:bTA) (bJ:bTA) (jP:bTA) (jR:Int) (qM:bTA) (eU:bTA) (lY:bTA):R:=SS.LL (SS.ae 126 166) 0 [3,4,5,6,7,72,73,74] 3 (cS Tryz.f126 1215) aGR ⟨[(3,.cst (zi x3)),(4,bT8),(5,.ptr 1 0),(6,bT6 (ay.length:Int)),(7,.ptr 2 0),(72,.sl false 3 x3.2.2.2.2.2.1),(73,bT6 (x3.2.2.2.2.2.1.length:Int)),(74,bT6 jR)],[fB (⟨#[]⟩,[],[],[],0,0,[],[],[],()),Qn (dh,ay,bJ,[],0,0,[],[],[],()),Qo (eU,(ay.length:Int),Int.tmod (i64.wrap x3.2.2.1) (ay.length:Int),lY,jP,qM,())]⟩
def YE (x3:Sh.V qY) (dh:bT9) (ay:bTA) (bJ:bTA) (jP:bTA) (q3:Sh.V wP) (uY:Int) (uZ:Int) (uf:Int) (ug:bTA) (x12:bTA) (jR:Int) (eU:bTA) (lY:bTA) (qM:bTA):R:=bG (SS.xX 126 166 0) (cS Tryz.f126 1035455) aGS ⟨[(3,.cst (zi x3)),(4,bT8),(5,.ptr 1 0),(6,bT6 (ay.length:Int)),(7,.ptr 2 0),(11,.ptr 3 0),(12,bT7 x12),(13,.ptr 4 0),(72,.sl false 3 x3.2.2.2.2.2.1),(73,bT6 (x3.2.2.2.2.2.1.length:Int)),(74,bT6 jR)],[fB (⟨#[]⟩,[],[],[],0,0,[],[],[],()),Qn (dh,ay,bJ,[],0,0,[],[],[],()),Qo (eU,(ay.length:Int),Int.tmod (i64.wrap x3.2.2.1) (ay.length:Int),lY,jP,qM,()),Wi q3,rQ (Int.tmod (i64.wrap q3.1) (ay.length:Int),Int.tmod (i64.wrap q3.2.1) (bJ.length:Int),Int.tmod (i64.wrap q3.2.2.1) (ay.length:Int),uY,uZ,uf,ug,[],())]⟩
def Nz (x3:Sh.V qY) (dh:bT9) (ay:bTA) (bJ:bTA) (jP:bTA) (q3:Sh.V wP) (uY:Int) (uZ:Int) (uf:Int) (ug:bTA) (CB:Int) (KZ:bTA) (x12:bTA) (jR:Int) (eU:bTA) (lY:bTA) (qM:bTA):R:=SS.LL (SS.ae 126 166) 0 [3,4,5,6,7,11,12,13,72,73,74,126,127] 5 (cS Tryz.f126 9948351) a_9 ⟨[(3,.cst (zi x3)),(4,bT8),(5,.ptr 1 0),(6,bT6 (ay.length:Int)),(7,.ptr 2 0),(11,.ptr 3 0),(12,bT7 x12),(13,.ptr 4 0),(72,.sl false 3 x3.2.2.2.2.2.1),(73,bT6 (x3.2.2.2.2.2.1.length:Int)),(74,bT6 jR),(126,bT6 (jP.length:Int)),(127,bT6 CB)],[fB (⟨#[]⟩,[],[],[],0,0,[],[],[],()),Qn (dh,ay,bJ,[],0,0,[],[],[],()),Qo (eU,(ay.length:Int),Int.tmod (i64.wrap x3.2.2.1) (ay.length:Int),lY,jP,qM,()),Wi q3,rQ (Int.tmod (i64.wrap q3.1) (ay.length:Int),Int.tmod (i64.wrap q3.2.1) (bJ.length:Int),Int.tmod (i64.wrap q3.2.2.1) (ay.length:Int),uY,uZ,uf,ug,KZ,())]⟩
theorem aGW (x3:Sh.V qY) (dh:bT9) (ay:bTA) (bJ:bTA) (jP:bTA) (QI:Int) (eU:bTA):DN x3 dh ay bJ jP QI eU=aA (decide (QI<(bJ.length:Int))) (chk (decide (eU.length+1<=bC)) (DN x3 dh ay bJ jP (i64.wrap (QI+1)) (eU ++ ([bT6 QI]:bTA)))) (Jk x3 dh ay bJ jP 0 [] eU):=ll
theorem aGT (x3:Sh.V qY) (dh:bT9) (ay:bTA) (bJ:bTA) (jP:bTA) (x55:Int) (lY:bTA) (eU:bTA):Jk x3 dh ay bJ jP x55 lY eU=aA (decide (x55<(ay.length:Int))) (chk (decide (0<=x55)) (aA ((IntKind.u8.wrap (BitVec.ofInt 8 (Int.fdiv x3.2.2.2.1 (2 ^ min x55.toNat 8)) &&& BitVec.ofInt 8 1).toNat)==1) (chk (decide (lY.length+1<=bC)) (Jk x3 dh ay bJ jP (i64.wrap (x55+1)) (lY ++ ([bT6 x55]:bTA)) eU)) (Jk x3 dh ay bJ jP (i64.wrap (x55+1)) lY eU))) (Hg x3 dh ay bJ jP 0 [] eU lY):=ll
theorem aGU (x3:Sh.V qY) (dh:bT9) (ay:bTA) (bJ:bTA) (jP:bTA) (jR:Int) (qM:bTA) (eU:bTA) (lY:bTA):Hg x3 dh ay bJ jP jR qM eU lY=o6 fun ag=>aA (decide (jR<(x3.2.2.2.2.2.1.length:Int))) (bf wP x3.2.2.2.2.2.1 jR fun u2=>aA (jR==4) (some (A5 (dh,ay,bJ,eU,(ay.length:Int),Int.tmod (i64.wrap x3.2.2.1) (ay.length:Int),lY,jP,qM,()),[])) (aA ((bJ.length:Int)==0) (some (A5 (dh,ay,bJ,eU,(ay.length:Int),Int.tmod (i64.wrap x3.2.2.1) (ay.length:Int),lY,jP,qM,()),[])) (chk (decide (0<=(if (i64.wrap (9*jR))<(x3.2.2.2.2.2.2.1.length:Int) then (i64.wrap (9*jR)) else (x3.2.2.2.2.2.2.1.length:Int)))&&decide ((if (i64.wrap (9*jR))<(x3.2.2.2.2.2.2.1.length:Int) then (i64.wrap (9*jR)) else (x3.2.2.2.2.2.2.1.length:Int))<=(x3.2.2.2.2.2.2.1.length:Int))) (rP 116 [] fun u5=>(fun w (c d:R->R)=>(fun z0 z1 z2 z3 z4 z5=>dA z0 (dA (dA z1 (dA z2 (dA z3 z4))) (dA (dA z1 (dA z2 (dA z3 z4))) (dA z5 z4)))) (c ((fun z0 z1 z2 z3=>dA (dA z0 (dA z1 z2)) (dA (dA z0 (dA z1 z2)) (dA z3 z2))) (d (ag 1 (c w))) (c (ag 1 (d w))) (d (c w)) (c ((fun z0 z1=>dA z0 (dA z0 z1)) (ag 1 (d w)) (d w))))) (c (dA (d (ag 1 (c w))) (dA (c (ag 1 (d w))) (d (c w))))) (d ((fun z0 z1=>dA z0 (dA z0 z1)) (c (ag 1 (c w))) (c (c w)))) (c (dA (c (ag 1 (d w))) (dA (d (ag 1 (c w))) (c (d w))))) (c (d (c w))) (c ((fun z0 z1 z2 z3=>dA z0 (dA (dA z1 (dA z2 z3)) (dA (dA z1 (dA z2 z3)) z3))) (c ((fun z0 z1=>dA z0 (dA z0 z1)) (ag 1 (d w)) (d w))) (c (ag 1 (d w))) (d (ag 1 (c w))) (c (d w))))) (aA (decide (128<=u2.1)) (rP 218 [bT7 (x3.2.2.2.2.2.2.1.drop (if (i64.wrap (9*jR))<(x3.2.2.2.2.2.2.1.length:Int) then (i64.wrap (9*jR)) else (x3.2.2.2.2.2.2.1.length:Int)).toNat),bT6 (jP.length:Int),bT6 2] fun u10=>YE x3 dh ay bJ jP u2 u10.1 u10.2.1 u10.2.2.1 u10.2.2.2.1 (x3.2.2.2.2.2.2.1.drop (if (i64.wrap (9*jR))<(x3.2.2.2.2.2.2.1.length:Int) then (i64.wrap (9*jR)) else (x3.2.2.2.2.2.2.1.length:Int)).toNat) jR eU lY qM) (YE x3 dh ay bJ jP u2 u5.1 u5.2.1 u5.2.2.1 u5.2.2.2.1 (x3.2.2.2.2.2.2.1.drop (if (i64.wrap (9*jR))<(x3.2.2.2.2.2.2.1.length:Int) then (i64.wrap (9*jR)) else (x3.2.2.2.2.2.2.1.length:Int)).toNat) jR eU lY qM)) (chk (!((ay.length:Int)==0))) (chk (!((bJ.length:Int)==0))))))) (some (A5 (dh,ay,bJ,eU,(ay.length:Int),Int.tmod (i64.wrap x3.2.2.1) (ay.length:Int),lY,jP,qM,()),[])):=BA ll
theorem a_6 (x3:Sh.V qY) (dh:bT9) (ay:bTA) (bJ:bTA) (jP:bTA) (q3:Sh.V wP) (uY:Int) (uZ:Int) (uf:Int) (ug:bTA) (x12:bTA) (jR:Int) (eU:bTA) (lY:bTA) (qM:bTA):YE x3 dh ay bJ jP q3 uY uZ uf ug x12 jR eU lY qM=Nz x3 dh ay bJ jP q3 uY uZ uf ug 0 [] x12 jR eU lY qM:=by kernel_rfl
theorem aGV (x3:Sh.V qY) (dh:bT9) (ay:bTA) (bJ:bTA) (jP:bTA) (q3:Sh.V wP) (uY:Int) (uZ:Int) (uf:Int) (ug:bTA) (CB:Int) (KZ:bTA) (x12:bTA) (jR:Int) (eU:bTA) (lY:bTA) (qM:bTA):Nz x3 dh ay bJ jP q3 uY uZ uf ug CB KZ x12 jR eU lY qM=aA (decide (CB<(jP.length:Int))) (chk (decide (0<=(i64.wrap (CB+3)))) (aA ((IntKind.u8.wrap (BitVec.ofInt 8 (Int.fdiv q3.2.2.1 (2 ^ min (i64.wrap (CB+3)).toNat 8)) &&& BitVec.ofInt 8 1).toNat)==1) ((fun w=>chk (decide (0<=w)&&decide (w<=(x12.length:Int))) (rP 218 [bT7 (x12.drop w.toNat),bT6 (jP.length:Int),bT6 1] fun u1=>chk (decide (KZ.length+1<=bC)) (Nz x3 dh ay bJ jP q3 uY uZ uf ug (i64.wrap (CB+1)) (KZ ++ ([A11 (CB,u1.1,u1.2.1,u1.2.2.1,u1.2.2.2.1,())]:bTA)) x12 jR eU lY qM))) (if (i64.wrap (CB+1))<(x12.length:Int) then (i64.wrap (CB+1)) else (x12.length:Int))) (Nz x3 dh ay bJ jP q3 uY uZ uf ug (i64.wrap (CB+1)) KZ x12 jR eU lY qM))) (chk (decide (qM.length+1<=bC)) (Hg x3 dh ay bJ jP (i64.wrap (jR+1)) (qM ++ ([A9 (Int.tmod (i64.wrap q3.1) (ay.length:Int),Int.tmod (i64.wrap q3.2.1) (bJ.length:Int),Int.tmod (i64.wrap q3.2.2.1) (ay.length:Int),uY,uZ,uf,ug,KZ,())]:bTA)) eU lY)):=ll
theorem a_G (a0:bT9) (a1:Sh.V qY):SS.CC 126 [.str a0,zi a1] []=o6 fun ag=>dA (G4 20 [.int .u8 118,bT6 (i64.wrap (Int.tmod a1.1 4))] fun l1=>ag 1 (G4 20 [.int .u8 108,bT6 (i64.wrap (1+(i64.wrap (Int.tmod a1.2.1 4))))] fun l3=>dA (chk (!((l3.length:Int)==0)) (ag 1 (JJ 217 [.sl false 2 a1.2.2.2.2.1] fun l5=>DN a1 a0 l3 l1 l5 0 []))) (dA (JJ 217 [.sl false 2 a1.2.2.2.2.1] fun l5=>ag 1 (chk (!((l3.length:Int)==0)) (DN a1 a0 l3 l1 l5 0 []))) (chk (!((l3.length:Int)==0)) (JJ 217 [.sl false 2 a1.2.2.2.2.1] fun l5=>DN a1 a0 l3 l1 l5 0 []))))) ((fun w=>dA (ag 1 w) w) (G4 20 [.int .u8 118,bT6 (i64.wrap (Int.tmod a1.1 4))] fun l1=>G4 20 [.int .u8 108,bT6 (i64.wrap (1+(i64.wrap (Int.tmod a1.2.1 4))))] fun l3=>dA (chk (!((l3.length:Int)==0)) (ag 1 (JJ 217 [.sl false 2 a1.2.2.2.2.1] fun l5=>DN a1 a0 l3 l1 l5 0 []))) (dA (JJ 217 [.sl false 2 a1.2.2.2.2.1] fun l5=>ag 1 (chk (!((l3.length:Int)==0)) (DN a1 a0 l3 l1 l5 0 []))) (chk (!((l3.length:Int)==0)) (JJ 217 [.sl false 2 a1.2.2.2.2.1] fun l5=>DN a1 a0 l3 l1 l5 0 []))))):=BA cc
def b39:KT:=SS.rK Tryz.f216 216 0 []
def b3A:KT:=SS.jK 216 19 0 (cS Tryz.f216 7) b39
def b3B:KT:=bI 0 b3A
def YQ (x0:bTA) (x8:Int):R:=SS.LL (SS.ae 216 19) 0 [0,1,7,8] 0 (cS Tryz.f216 37) b3B ⟨[(0,.sl false 7 x0),(1,.func (.func 124) [] []),(7,bT6 (x0.length:Int)),(8,bT6 x8)],[]⟩
theorem aHP (x0:bTA) (x8:Int):YQ x0 x8=aA (decide (x8<(x0.length:Int))) (bf qY x0 x8 fun u2=>G3 124 [zi u2] fun b9=>aA b9 (some (bT6 x8,[])) (YQ x0 (i64.wrap (x8+1)))) (some (bT6 (-1),[])):=ll
theorem b3C (a0:bTA):SS.CC 216 [.sl false 7 a0,.func (.func 124) [] []] []=YQ a0 0:=cc
def b3D:KT:=SS.rK Tryz.f217 217 0 []
def b3E:KT:=SS.jK 217 60 0 (cS Tryz.f217 15) b3D
def b3F:KT:=bI 0 b3E
def YR (x0:bTA) (x3:bTA) (x4:Int):R:=SS.LL (SS.ae 217 60) 0 [0,3,4] 0 (cS Tryz.f217 75) b3F ⟨[(0,.sl false 2 x0),(3,.sl true 4 x3),(4,bT6 x4)],[]⟩
theorem aHQ (x0:bTA) (x3:bTA) (x4:Int):YR x0 x3 x4=aA (decide (x4<(x0.length:Int))) (aA (decide (x4<3)) (bf NL x0 x4 fun u2=>bf NL x0 x4 fun u5=>chk (rX ([.int .u8 (IntKind.u8.wrap (48+(IntKind.u8.wrap x4)))]:bTA)) (chk (decide ((⟨#[120]⟩:bT9).size+(strOf ([.int .u8 (IntKind.u8.wrap (48+(IntKind.u8.wrap x4)))]:bTA)).size<=bC)) (bf NL x0 x4 fun u8=>chk (!((i64.wrap ((i64.wrap (Int.tmod (IntKind.u8.wrap u5.2.1) 4))+1))==0)) (chk (decide (x3.length+1<=bC)) (YR x0 (x3 ++ ([A7 ((⟨#[120]⟩:bT9) ++ (strOf ([.int .u8 (IntKind.u8.wrap (48+(IntKind.u8.wrap x4)))]:bTA)),i64.wrap (Int.tmod u2.1 5),i64.wrap ((i64.wrap (Int.tmod u2.1 5))+(i64.wrap (Int.tmod (IntKind.u8.wrap u5.2.1) 4))),i64.wrap ((i64.wrap (Int.tmod u2.1 5))+(Int.tmod (i64.wrap (IntKind.u8.wrap (Int.tdiv (IntKind.u8.wrap u8.2.1) 4))) (i64.wrap ((i64.wrap (Int.tmod (IntKind.u8.wrap u5.2.1) 4))+1)))),())]:bTA)) (i64.wrap (x4+1))))))) (some (.sl false 4 x3,[]))) (some (.sl false 4 x3,[])):=ll
theorem b3G (a0:bTA):SS.CC 217 [.sl false 2 a0] []=YR a0 [] 0:=cc
theorem b3H (a0:bTA) (a1:Int) (a2:Int):SS.CC 218 [bT7 a0,bT6 a1,bT6 a2] []=chk (decide (0<=(if (60:Int)<(a0.length:Int) then (60:Int) else (a0.length:Int)))&&decide ((if (60:Int)<(a0.length:Int) then (60:Int) else (a0.length:Int))<=(a0.length:Int))) (pg 267 [bT8,bT6 a2,bT6 5] [iV ((a0.take (if (60:Int)<(a0.length:Int) then (60:Int) else (a0.length:Int)).toNat),a1,0,())] fun u1 u5=>some (A1 u1,[])):=cc
theorem aI7 (a1:Int) (a2:Int) (h0:Sh.V yj):SS.CC 267 [bT8,bT6 a1,bT6 a2] [iV h0]=H79 320 [bT8] [iV (h0.1,h0.2.1,i64.wrap (h0.2.2.1+1),())] fun n1 u2=>aA (a1==1) ((fun w=>aA (decide (a2<=1)) w (aA (decide (12<u2.2.2.1)) w (aA (decide ((Int.tmod n1 8)<4)) w (aA ((Int.tmod n1 8)==4) (pg 267 [bT8,bT6 a1,bT6 (i64.wrap (a2-1))] [iV u2] fun u7 u11=>some (A1 (5,0,0,[A1 u7],()),[iV u11])) (aA ((Int.tmod n1 8)==5) (pg 267 [bT8,bT6 2,bT6 (i64.wrap (a2-1))] [iV u2] fun u16 u20=>pg 267 [bT8,bT6 a1,bT6 (i64.wrap (a2-1))] [iV u20] fun u25 u29=>pg 267 [bT8,bT6 a1,bT6 (i64.wrap (a2-1))] [iV u29] fun u34 u38=>some (A1 (13,0,0,[A1 u16,A1 u25,A1 u34],()),[iV u38])) (pg 267 [bT8,bT6 a1,bT6 (i64.wrap (a2-1))] [iV u2] fun u43 Vf=>pg 267 [bT8,bT6 a1,bT6 (i64.wrap (a2-1))] [iV Vf] fun u52 u56=>some (A1 (i64.wrap (2+(Int.tmod (i64.wrap (Int.tdiv n1 8)) 3)),0,0,[A1 u43,A1 u52],()),[iV u56]))))))) (aA ((Int.tmod n1 2)==0) (aA (decide (0<u2.2.1)) (chk (!(u2.2.1==0)) (some (A1 (1,0,Int.tmod (i64.wrap (Int.tdiv n1 8)) u2.2.1,[],()),[iV u2]))) (some (A1 (0,i64.wrap ((i64.wrap (Int.tdiv n1 8))-8),0,[],()),[iV u2]))) (some (A1 (0,i64.wrap ((i64.wrap (Int.tdiv n1 8))-8),0,[],()),[iV u2])))) (aA (decide (a2<=1)) (rP 321 [.bool ((Int.tmod n1 2)==0)] fun u61=>some (A1 u61,[iV u2])) (aA (decide (a2<=2)) (pg 267 [bT8,bT6 1,bT6 (i64.wrap (a2-1))] [iV u2] fun u66 u70=>pg 267 [bT8,bT6 1,bT6 (i64.wrap (a2-1))] [iV u70] fun u75 Vg=>some (A1 (i64.wrap (6+(Int.tmod (i64.wrap (Int.tdiv n1 8)) 4)),0,0,[A1 u66,A1 u75],()),[iV Vg])) (aA (decide (12<u2.2.2.1)) (pg 267 [bT8,bT6 1,bT6 (i64.wrap (a2-1))] [iV u2] fun Lc u88=>pg 267 [bT8,bT6 1,bT6 (i64.wrap (a2-1))] [iV u88] fun u93 u97=>some (A1 (i64.wrap (6+(Int.tmod (i64.wrap (Int.tdiv n1 8)) 4)),0,0,[A1 Lc,A1 u93],()),[iV u97])) (aA (decide ((Int.tmod n1 8)<4)) (pg 267 [bT8,bT6 1,bT6 (i64.wrap (a2-1))] [iV u2] fun VP VQ=>pg 267 [bT8,bT6 1,bT6 (i64.wrap (a2-1))] [iV VQ] fun VR bNX=>some (A1 (i64.wrap (6+(Int.tmod (i64.wrap (Int.tdiv n1 8)) 4)),0,0,[A1 VP,A1 VR],()),[iV bNX])) (aA ((Int.tmod n1 8)==4) (pg 267 [bT8,bT6 a1,bT6 (i64.wrap (a2-1))] [iV u2] fun VT u124=>some (A1 (10,0,0,[A1 VT],()),[iV u124])) (aA ((Int.tmod n1 8)==5) (pg 267 [bT8,bT6 a1,bT6 (i64.wrap (a2-1))] [iV u2] fun VW bO0=>pg 267 [bT8,bT6 a1,bT6 (i64.wrap (a2-1))] [iV bO0] fun u138 bO2=>pg 267 [bT8,bT6 a1,bT6 (i64.wrap (a2-1))] [iV bO2] fun Va bO5=>some (A1 (13,0,0,[A1 VW,A1 u138,A1 Va],()),[iV bO5])) (pg 267 [bT8,bT6 a1,bT6 (i64.wrap (a2-1))] [iV u2] fun Vb bO7=>pg 267 [bT8,bT6 a1,bT6 (i64.wrap (a2-1))] [iV bO7] fun Vd bO9=>some (A1 (i64.wrap (11+(Int.tmod (i64.wrap (Int.tdiv n1 8)) 2)),0,0,[A1 Vb,A1 Vd],()),[iV bO9])))))))):=cc
theorem b7G (h0:Sh.V yj):SS.CC 320 [bT8] [iV h0]=aA ((h0.1.length:Int)==0) (some (bT6 0,[iV h0])) (eH h0.1 0 fun e1=>vI .u8 e1 fun n2=>chk (decide (0<=1)&&decide (1<=(h0.1.length:Int))) (some (bT6 (i64.wrap n2),[iV ((h0.1.drop (1:Int).toNat),h0.2.1,h0.2.2.1,())]))):=cc
def b7H:KT:=SS.rK Tryz.f321 321 0 []
def a5A (x3:Int):R:=bG (SS.xX 321 10 0) (cS Tryz.f321 15) b7H ⟨[(2,bT8),(3,bT6 x3)],[Wj (0,0,0,[],())]⟩
theorem aIN (x3:Int):a5A x3=some (A1 (x3,0,0,[A1 (0,0,0,[],()),A1 (0,0,0,[],())],()),[]):=by kernel_rfl
theorem b7I (a0:Bool):SS.CC 321 [.bool a0] []=aA a0 (a5A 6) (a5A 7):=cc
end
inductive Ty (nv:Int):Int->EX->Prop
 | Em {v:Int} : -8<=v->v<=23->Ty nv 1 (nE v)
 | var {i:Int}:0<=i->i<nv->Ty nv 1 (vE i)
 | neg {a:EX}:Ty nv 1 a->Ty nv 1 (kw 5 a)
 | yF {a:EX}:Ty nv 2 a->Ty nv 2 (kw 10 a)
 | ar {o:Int} {a b:EX}:2<=o->o<=4->Ty nv 1 a->Ty nv 1 b->Ty nv 1 (kW o a b)
 | cmp {o:Int} {a b:EX}:6<=o->o<=9->Ty nv 1 a->Ty nv 1 b->Ty nv 2 (kW o a b)
 | log {o:Int} {a b:EX}:11<=o->o<=12->Ty nv 2 a->Ty nv 2 b->Ty nv 2 (kW o a b)
 | ite {k:Int} {c a b:EX}:Ty nv 2 c->Ty nv k a->Ty nv k b->Ty nv k (.node 13 0 0 [c,a,b])
theorem aSW {nv k:Int} {x:EX} (h:Ty nv k x):k=1\/k=2:=by induction h<;>simp_all
abbrev wY (l:bTB):bTA:=l.map fun c => .int .u8 (c.toNat:Int)
abbrev GO (l:bTB) (nv n:Int):aG := [iV (wY l,nv,n,())]
theorem nx (l:bTB) (nv n:Int):∃ b l',SS.CC 320 [bT8] (GO l nv n)=some (bT6 b,GO l' nv n)/\0<=b/\b<=255:=by
 rw[b7G];cases l with
 | nil=>simp
 | cons c r =>have hc:=c.toNat_lt;refine ⟨(c.toNat:Int),r,?_,by omega,by omega⟩;rw[show (((wY (c::r)).length:Int)==0)=false by simp; omega,aC,sD (e := .int .u8 c.toNat) (by decide) rfl,wE,au (by simp; omega),wrap64 (by omega) (by omega)];rfl
def gT:Nat->Int
 | 0=>1
 | n+1=>1+3*gT n
theorem Jr:∀ n,1<=gT n
 | 0=>by decide
 | n+1=>by have:=Jr n; rw[gT]; omega
structure Gr (nv k:Int) (lv:Nat) (n:Int) (x:EX) (n':Int):Prop where
 ty:Ty nv k x
 dp:fQ x<=lv+2
 lo:n+1<=n'
 hi:n'<=n+gT lv
 s1:n'<=12->(fH x:Int)<=3*(n'-n)
 s2:12<n'->(fH x:Int)<=3*(12-min n 12)+3*(1+2*(lv:Int))
 s3:12<=n->(fH x:Int)<=3
 s4:12<=n->k=1->fH x=1
section
variable {nv n:Int} {lv:Nat}
theorem a5S {x:EX} {k:Int} (h:Ty nv k x) (hs:fH x=1) (hd:fQ x=1):Gr nv k lv n x (n+1):=by have:=Jr lv;exact ⟨h,by omega,by omega,by omega,by omega,by omega,by omega,fun _ _=>hs⟩
theorem aKB {o k k':Int} {a:EX} {n1:Int} (hn:n+1<=12) (h:Ty nv k (kw o a)) (ha:Gr nv k' lv (n+1) a n1):Gr nv k (lv+1) n (kw o a) n1:=by
 obtain ⟨a1,a2,a3,a4,a5,a6,a7,a8⟩:=ha;have:=Jr lv;have e1:fQ (kw o a)=fQ a+1:=by simp[fQ,yu]
 have e2:fH (kw o a)=fH a+1:=by rfl
 refine ⟨h,by omega,by omega,by rw[gT]; omega,fun h => ?_,fun h => ?_,by omega,by omega⟩;omega;omega
theorem a5R {o k k1 k2:Int} {a b:EX} {n1 n2:Int} (h:Ty nv k (kW o a b)) (ha:Gr nv k1 lv (n+1) a n1) (hb:Gr nv k2 lv n1 b n2) (hs:12<=n->k=2/\k1=1/\k2=1):Gr nv k (lv+1) n (kW o a b) n2:=by
 obtain ⟨a1,a2,a3,a4,a5,a6,a7,a8⟩:=ha;obtain ⟨b1,b2,b3,b4,b5,b6,b7,b8⟩:=hb;have:=Jr lv;have e1:fQ (kW o a b)=max (fQ a) (fQ b)+1:=by simp[fQ,yu]
 have e2:fH (kW o a b)=fH a+fH b+1:=by rfl
 refine ⟨h,by omega,by omega,by rw[gT]; omega,fun h => ?_,fun h => ?_,fun h => ?_,fun h hk=>by have:=hs h; omega⟩;grind
 grind
 omega
theorem aKC {k k1 k2 k3:Int} {c a b:EX} {n1 n2 n3:Int} (hn:n+1<=12) (h:Ty nv k (.node 13 0 0 [c,a,b])) (hc:Gr nv k1 lv (n+1) c n1) (ha:Gr nv k2 lv n1 a n2) (hb:Gr nv k3 lv n2 b n3):Gr nv k (lv+1) n (.node 13 0 0 [c,a,b]) n3:=by
 obtain ⟨a1,a2,a3,a4,a5,a6,a7,a8⟩:=hc;obtain ⟨b1,b2,b3,b4,b5,b6,b7,b8⟩:=ha;obtain ⟨c1,c2,c3,c4,c5,c6,c7,c8⟩:=hb;have:=Jr lv;have e1:fQ (.node 13 0 0 [c,a,b])=max (fQ c) (max (fQ a) (fQ b))+1:=by simp[fQ,yu]
 have e2:fH (.node 13 0 0 [c,a,b])=fH c+(fH a+fH b)+1:=by rfl
 refine ⟨h,by omega,by omega,by rw[gT]; omega,fun h => ?_,fun h => ?_,by omega,by omega⟩;grind
 grind
end
theorem aN1 {nv b:Int} (h0:0<=nv) (hb:0<=b/\b<=255) (o:aG):∃ x,aA (Int.tmod b 2==0) (aA (decide (0<nv)) (chk (!(nv==0)) (some (A1 (1,0,Int.tmod (i64.wrap (Int.tdiv b 8)) nv,[],()),o))) (some (A1 (0,i64.wrap (i64.wrap (Int.tdiv b 8)-8),0,[],()),o))) (some (A1 (0,i64.wrap (i64.wrap (Int.tdiv b 8)-8),0,[],()),o))=some (A1 (ev x),o)/\Ty nv 1 x/\fH x=1/\fQ x=1:=by
 have hd:Int.tdiv b 8=b / 8:=Int.tdiv_eq_ediv_of_nonneg hb.1;rw[hd,wrap64 (n:=b / 8) (by omega) (by omega),wrap64 (by omega) (by omega)];have hv:∃ x,(some (A1 (0,b / 8-8,0,[],()),o):R)=some (A1 (ev x),o)/\Ty nv 1 x/\fH x=1/\fQ x=1:=⟨nE (b / 8-8),by rw[Rl],.Em (by omega) (by omega),rfl,rfl⟩;cases Int.tmod b 2==0 with
 | false=>rw[aC]; exact hv
 | true =>
  rw[aH];by_cases h:0<nv
  .rw[aO h,aH,au (by simp; omega),a1M (by omega)];have a:=Int.emod_nonneg (b / 8) (show nv≠0 by omega);have c:=Int.emod_lt_of_pos (b / 8) h;exact ⟨vE (b / 8 % nv),by rfl,.var a c,rfl,rfl⟩
  grind [aC]
theorem aKD {nv:Int} (hv:0<=nv/\nv<=16):∀ (lv:Nat) (k:Int) (l:bTB) (n:Int),(k=1\/k=2)->lv<=10->0<=n->n+gT lv<=1000000 ->
 ∃ x l' n',SS.CC 267 [bT8,bT6 k,bT6 ((lv:Int)+1)] (GO l nv n)=some (A1 (ev x),GO l' nv n')/\Gr nv k lv n x n'
 | 0,k,l,n,hk,hlv,h0,h1=>by
  have:=Jr 0;obtain ⟨b,l',e,hb⟩:=nx l nv (n+1);rw[aI7];try dsimp only
  rw[wrap64 (n:=n+1) (by omega) (by omega),aD1 e];try dsimp only
  rcases hk with rfl | rfl
  .rw[show ((1:Int)==1)=true from rfl,aH,aO (by decide),aH];obtain ⟨x,e2,t1,t2,t3⟩:=aN1 hv.1 hb (GO l' nv (n+1));grind [a5S]
  .rw[show ((2:Int)==1)=false from rfl,aC,aO (by decide),aH];have ht:∀ c:Bool,SS.CC 321 [.bool c] []=some (A1 (ev (if c then tE else fE)),[]):=fun c=>by rw[b7I,aIN,aIN];cases c<;>rfl
   rw[gQ (ht _)];refine ⟨_,l',n+1,rfl,?_⟩;have hz:Ty nv 1 (nE 0) := .Em (by decide) (by decide);cases Int.tmod b 2==0 with
   | true=>exact ⟨.cmp (o:=6) (by decide) (by decide) hz hz,by decide,by omega,by rw[gT]; omega,fun _=>by show (3:Int)<=_; omega,fun _=>by show (3:Int)<=_; omega,fun _=>by decide,fun _ h=>by cases h⟩
   | false=>exact ⟨.cmp (o:=7) (by decide) (by decide) hz hz,by decide,by omega,by rw[gT]; omega,fun _=>by show (3:Int)<=_; omega,fun _=>by show (3:Int)<=_; omega,fun _=>by decide,fun _ h=>by cases h⟩
 | lv+1,k,l,n,hk,hlv,h0,h1=>by
  have hp:=Jr lv;rw[gT] at h1;obtain ⟨b,l0,e,hb⟩:=nx l nv (n+1);have ih:=aKD hv lv;have et:∀ q:Int,Int.tmod b q=b % q:=fun q=>a1M hb.1
  have ed:i64.wrap (Int.tdiv b 8)=b / 8:=by rw[Int.tdiv_eq_ediv_of_nonneg hb.1,wrap64 (by omega) (by omega)]
  have el:i64.wrap (((lv+1:Nat):Int)+1-1)=(lv:Int)+1:=by rw[wrap64 (by omega) (by omega)]; omega
  have w3:i64.wrap (2+Int.tmod (b / 8) 3)=2+b / 8 % 3:=by rw[a1M (by omega),wrap64 (by omega) (by omega)]
  have w4:i64.wrap (6+Int.tmod (b / 8) 4)=6+b / 8 % 4:=by rw[a1M (by omega),wrap64 (by omega) (by omega)]
  have w2:i64.wrap (11+Int.tmod (b / 8) 2)=11+b / 8 % 2:=by rw[a1M (by omega),wrap64 (by omega) (by omega)]
  have leaf:=aN1 hv.1 hb (GO l0 nv (n+1));rw[aI7];try dsimp only
  rw[wrap64 (n:=n+1) (by omega) (by omega),aD1 e];try dsimp only
  rw[el,aV (show ¬ (((lv+1:Nat):Int)+1<=1) by omega)];rcases hk with rfl | rfl
  .rw[show ((1:Int)==1)=true from rfl,aH,aC];by_cases c1:12<n+1
   .rw[aO c1,aH];grind [a5S]
   rw[aV c1,aC];by_cases c2:Int.tmod b 8<4
   .rw[aO c2,aH];grind [a5S]
   rw[aV c2,aC];by_cases c3:Int.tmod b 8=4
   .obtain ⟨x1,l1,n1,e1,g1⟩:=ih 1 l0 (n+1) (.inl rfl) (by omega) (by omega) (by omega);rw[show (Int.tmod b 8==4)=true by grind,aH,wM e1];exact ⟨kw 5 x1,l1,n1,by rw[ev1],aKB (by omega) (.neg g1.ty) g1⟩
   rw[show (Int.tmod b 8==4)=false by grind,aC];by_cases c4:Int.tmod b 8=5
   .obtain ⟨x1,l1,n1,e1,g1⟩:=ih 2 l0 (n+1) (.inr rfl) (by omega) (by omega) (by omega);obtain ⟨x2,l2,n2,e2,g2⟩:=ih 1 l1 n1 (.inl rfl) (by omega) (by have:=g1.lo; omega) (by have:=g1.hi; omega);obtain ⟨x3,l3,n3,e3,g3⟩:=ih 1 l2 n2 (.inl rfl) (by omega) (by have:=g1.lo; have:=g2.lo; omega) (by have:=g1.hi; have:=g2.hi; omega);rw[show (Int.tmod b 8==5)=true by grind,aH,wM e1];try dsimp only
    rw[wM e2];try dsimp only
    rw[wM e3];exact ⟨.node 13 0 0 [x1,x2,x3],l3,n3,by rw[ev3],aKC (by omega) (.ite g1.ty g2.ty g3.ty) g1 g2 g3⟩
   rw[show (Int.tmod b 8==5)=false by grind,aC];obtain ⟨x1,l1,n1,e1,g1⟩:=ih 1 l0 (n+1) (.inl rfl) (by omega) (by omega) (by omega);obtain ⟨x2,l2,n2,e2,g2⟩:=ih 1 l1 n1 (.inl rfl) (by omega) (by have:=g1.lo; omega) (by have:=g1.hi; omega);rw[wM e1];try dsimp only
   rw[wM e2];try dsimp only
   rw[ed,w3];exact ⟨kW (2+b / 8 % 3) x1 x2,l2,n2,by rw[Xn],a5R (.ar (by omega) (by omega) g1.ty g2.ty) g1 g2 (by omega)⟩
  .rw[show ((2:Int)==1)=false from rfl,aC,aC];have eqs:∃ x l' n',(pg 267 [bT8,bT6 1,bT6 ((lv:Int)+1)] (GO l0 nv (n+1)) fun u66 u70=>pg 267 [bT8,bT6 1,bT6 ((lv:Int)+1)] [iV u70] fun u75 Vg=>some (A1 (i64.wrap (6+(Int.tmod (i64.wrap (Int.tdiv b 8)) 4)),0,0,[A1 u66,A1 u75],()),[iV Vg]))=some (A1 (ev x),GO l' nv n')/\Gr nv 2 (lv+1) n x n':=by
    obtain ⟨x1,l1,n1,e1,g1⟩:=ih 1 l0 (n+1) (.inl rfl) (by omega) (by omega) (by omega);obtain ⟨x2,l2,n2,e2,g2⟩:=ih 1 l1 n1 (.inl rfl) (by omega) (by have:=g1.lo; omega) (by have:=g1.hi; omega);rw[wM e1];try dsimp only
    rw[wM e2];try dsimp only
    rw[ed,w4];exact ⟨kW (6+b / 8 % 4) x1 x2,l2,n2,by rw[Xn],a5R (.cmp (by omega) (by omega) g1.ty g2.ty) g1 g2 (fun _=>⟨rfl,rfl,rfl⟩)⟩
   by_cases c0:((lv+1:Nat):Int)+1<=2
   .rw[aO c0,aH]; exact eqs
   rw[aV c0,aC];by_cases c1:12<n+1
   .rw[aO c1,aH]; exact eqs
   rw[aV c1,aC];by_cases c2:Int.tmod b 8<4
   .rw[aO c2,aH]; exact eqs
   rw[aV c2,aC];obtain ⟨x1,l1,n1,e1,g1⟩:=ih 2 l0 (n+1) (.inr rfl) (by omega) (by omega) (by omega);by_cases c3:Int.tmod b 8=4
   .rw[show (Int.tmod b 8==4)=true by grind,aH,wM e1];exact ⟨kw 10 x1,l1,n1,by rw[ev1],aKB (by omega) (.yF g1.ty) g1⟩
   rw[show (Int.tmod b 8==4)=false by grind,aC];obtain ⟨x2,l2,n2,e2,g2⟩:=ih 2 l1 n1 (.inr rfl) (by omega) (by have:=g1.lo; omega) (by have:=g1.hi; omega);by_cases c4:Int.tmod b 8=5
   .obtain ⟨x3,l3,n3,e3,g3⟩:=ih 2 l2 n2 (.inr rfl) (by omega) (by have:=g1.lo; have:=g2.lo; omega) (by have:=g1.hi; have:=g2.hi; omega);rw[show (Int.tmod b 8==5)=true by grind,aH,wM e1];try dsimp only
    rw[wM e2];try dsimp only
    rw[wM e3];exact ⟨.node 13 0 0 [x1,x2,x3],l3,n3,by rw[ev3],aKC (by omega) (.ite g1.ty g2.ty g3.ty) g1 g2 g3⟩
   rw[show (Int.tmod b 8==5)=false by grind,aC,wM e1];try dsimp only
   rw[wM e2];try dsimp only
   rw[ed,w2];exact ⟨kW (11+b / 8 % 2) x1 x2,l2,n2,by rw[Xn],a5R (.log (by omega) (by omega) g1.ty g2.ty) g1 g2 (by omega)⟩
theorem aCL {nv k:Int} (hv:0<=nv/\nv<=16) (hk:k=1\/k=2) (l:bTB) (hl:l.length<=100000):∃ x,SS.CC 218 [bT7 (wY l),bT6 nv,bT6 k] []=some (A1 (ev x),[])/\Ty nv k x/\fQ x<=6/\fH x<=63:=by
 have ht:((if (60:Int)<((wY l).length:Int) then (60:Int) else ((wY l).length:Int)).toNat)=min 60 l.length:=by rw[aX]; split<;>omega
 obtain ⟨x,l',n',e,g⟩:=aKD hv 4 k (l.take 60) 0 hk (by decide) (by decide) (by decide);have htk:(wY l).take (min 60 l.length)=wY (l.take 60):=by rw[<- MH];simp
 refine ⟨x,?_,g.ty,g.dp,?_⟩
 .rw[b3H,au (by rw[aX]; grind),ht,htk];exact (wM e).trans rfl
 .by_cases h:n'<=12
  .have:=g.s1 h; omega
  .have:=g.s2 (by omega); omega
theorem aVB {o:Int} (h:0<=o/\o<=13):SS.CC 202 [bT6 o] []=some (.tuple [bT6 (xu o:Int),.bool true],[]):=by
 have:o=0\/o=1\/o=2\/o=3\/o=4\/o=5\/o=6\/o=7\/o=8\/o=9\/o=10\/o=11\/o=12\/o=13:=by omega
 rcases this with rfl | rfl | rfl | rfl | rfl | rfl | rfl | rfl | rfl | rfl | rfl | rfl | rfl | rfl<;>(rw[aHJ]; rfl)
def FOk (n:Int) (x:EX):Prop:=∀ d c:Int,0<=d->d+(fQ x:Int)<=9->0<=c->c+(fH x:Int)<=64->SS.CC 109 [A1 (ev x),bT6 n,bT6 d,bT8] [kL (c,())]=some (bT6 0,[kL (c+(fH x:Int),())])
theorem aGD {n d:Int} (h0:0<=d) (hd:d<=8) (all:List EX) (hn:all.length<=3) (ih:∀ e,e∈all->FOk n e) :
 ∀ (l:List EX) (k:Nat) (c:Int),all.drop k=l->k<=all.length->d+1+(yu l:Int)<=9->0<=c->c+(sU l:Int)<=64->SC n d (mZ all) c (k:Int)=some (bT6 0,[kL (c+(sU l:Int),())])
 | [],k,c,ha,hk,_,_,_=>by have h2:all.length<=k:=MC.1 ha;rw[YD,aV (by rw[vM]; omega),aC,sU];simp
 | a::l,k,c,ha,hk,h1,h2,h3=>by
  obtain ⟨p1,p2,p3⟩:=drop_cons ha;have hm:a∈all:=by rw[<- p2]; exact gG p1
  rw[sU] at h3;rw[yu] at h1;have e:=ih a hm (d+1) c (by omega) (by omega) h2 (by omega);rw[YD,aO (by rw[vM]; omega),aH,I5 p1,p2,wrap64 (n:=d+1) (by omega) (by omega),WX e];try dsimp only
  rw[show ((0:Int) != 0)=false from rfl,aC,wrap64 (by omega) (by omega),show ((k:Int)+1)=((k+1:Nat):Int) by omega];have:=aGD h0 hd all hn ih l (k+1) (c+(fH a:Int)) p3 (by omega) (by omega) (by omega) (by omega);rw[this,sU,show c+(fH a:Int)+(sU l:Int)=c+((fH a+sU l:Nat):Int) by omega]
theorem aZ6 {n:Int} {x:EX} (h:Fd n x):FOk n x:=by
 induction h with
 | @mk o v i l h1 h2 h3 h4 h5 h6 h7 _ ih =>
  intro d c d0 d1 c0 c1;rw[fQ] at d1;rw[fH] at c1;have hl3:l.length<=3:=by rw[h3]; grind [xu]
  have go:SB n d (o,v,i,mZ l,()) (i64.wrap (c+1))=some (bT6 0,[kL (c+((fH (.node o v i l):Nat):Int),())]):=by rw[aGK,wrap64 (by omega) (by omega)];have:=aGD (n:=n) d0 (by omega) l hl3 ih l 0 (c+1) rfl (zg _) (by omega) (by omega) (by omega);rw[fH];grind
  rw[aGM,kX];try dsimp only
  rw[show (c==64)=false by simp; omega,aC,aV (by omega),aC,aCK (aVB ⟨h1,h2⟩)];try dsimp only
  rw[uH,aC,vM,show ((l.length:Int) !=(xu o:Int))=false by simp[h3],aC];by_cases p0:o=0
  .have q:=h6 p0;have hv:SS.CC 203 [bT6 v,bT6 65536] []=some (.bool false,[]):=by rw[a7P v,aV (by omega),aV (by omega)]; rfl
   subst p0;have hi:=h5 (by decide);rw[show ((0:Int) != 0)=false from rfl,aC,show ((0:Int) != 1)=true from rfl,aH,zn hi,aC,show ((0:Int)==0)=true from rfl,aH,bV hv];simp_all
  grind [aH,aC]
theorem aSV {n k:Int} {x:EX} (h:Ty n k x):Fd n x:=by
 have nd:∀ {o:Int} {l:List EX},2<=o->o<=13->l.length=xu o->(∀ e,e∈l->Fd n e)->Fd n (.node o 0 0 l):=fun h1 h2 h3 h4 => .mk (by omega) h2 h3 (fun _=>rfl) (fun _=>rfl) (fun h=>by omega) (fun h=>by omega) h4
 have a2:∀ o:Int,(2<=o/\o<=4)\/(6<=o/\o<=9)\/(11<=o/\o<=12)->xu o=2:=fun o h=>by
  have:o=2\/o=3\/o=4\/o=6\/o=7\/o=8\/o=9\/o=11\/o=12:=by omega
  rcases this with rfl | rfl | rfl | rfl | rfl | rfl | rfl | rfl | rfl<;>rfl
 induction h with
 | Em h1 h2=>exact .mk (by decide) (by decide) rfl (fun h=>absurd rfl h) (fun _=>rfl) (fun _=>by omega) (fun h=>by cases h) (by simp)
 | var h1 h2=>exact .mk (by decide) (by decide) rfl (fun _=>rfl) (fun h=>absurd rfl h) (fun h=>by cases h) (fun _=>⟨h1,h2⟩) (by simp)
 | neg _ ih=>exact nd (by decide) (by decide) rfl (by grind)
 | yF _ ih=>exact nd (by decide) (by decide) rfl (by grind)
 | ar h1 h2 _ _ ia ib=>grind
 | cmp h1 h2 _ _ ia ib=>grind
 | log h1 h2 _ _ ia ib=>grind
 | ite _ _ _ ic ia ib=>exact nd (by decide) (by decide) rfl (by simp_all)
theorem X0 {ks:List Int} {a:Int} (hn:ks.length<=1000) (h:∀ k,k∈ks->k=a):SS.CC 204 [bT6 a,bT8] [ig (fV ks,())]=some (.bool true,[ig (fV ks,())]):=by
 have e1:SS.CC 258 [bT7 (fV ks),.func (.func 206) [] [.cst (bT6 a)]] []=some (bT6 (-1),[]):=by
  rw[aI6];refine oC (n:=ks.length) (L:=fun k=>Sl (fV ks) a (k:Int)) (fun k hk => ?_) ?_
  .rw[YV,aO (by rw[aX]; omega),aH,Oo hk,wE,bV (aHN _ a),show (ks[k] != a)=false by grind [List.getElem_mem],aC,bu (by omega)]
  grind [YV,aC]
 have e2:SS.CC 205 [bT7 (fV ks),.func (.func 206) [] [.cst (bT6 a)]] []=some (.bool false,[]):=by rw[aHM,eP e1]; rfl
 rw[aHL,bV e2]; rfl
theorem kl {o v i:Int} (all:List EX) (ks:List Int) (hl:ks.length=all.length) (h3:all.length<=3) (hk:∀ j (h:j<all.length),SS.CC 110 [A1 (ev all[j])] []=some (bT6 (ks[j]'(by omega)),[])/\ks[j]'(by omega)≠0) :
 SS.CC 110 [A1 (o,v,i,mZ all,())] []=Ny (o,v,i,mZ all,()) (all.length:Int) (fV ks):=by
 rw[aGN];refine oC (n:=all.length) (L:=fun k=>Ny (o,v,i,mZ all,()) (k:Int) (fV (ks.take k))) (fun k h => ?_) ?_
 .obtain ⟨e,e2⟩:=hk k h;rw[Ji];try dsimp only
  rw[aO (by rw[vM]; omega),aH,I5 h,eP e];grind [aC,au,gz,bu,List.take_succ_eq_append_getElem]
 grind
theorem bNV {n k:Int} {x:EX} (h:Ty n k x):SS.CC 110 [A1 (ev x)] []=some (bT6 k,[]):=by
 have leaf:∀ {o v i:Int},o=0\/o=1->SS.CC 110 [A1 (o,v,i,mZ [],())] []=some (bT6 1,[]):=fun {o v i} h=>by rw[kl [] [] rfl (by decide) (fun j h=>by cases h),Ji];rcases h with rfl | rfl<;>rfl
 have one:∀ {o k:Int} {a:EX},(o=5/\k=1)\/(o=10/\k=2)->SS.CC 110 [A1 (ev a)] []=some (bT6 k,[])->SS.CC 110 [A1 (ev (kw o a))] []=some (bT6 k,[]):=fun {o k a} h e=>by
  unfold kw;rw[kX,kl [a] [k] rfl (by simp) (fun j hj=>by grind),Ji];try dsimp only
  rw[aV (by rw[vM]; omega),aC];rcases h with ⟨rfl,rfl⟩ | ⟨rfl,rfl⟩<;>simp only[Int.reduceBEq,aH,aC]<;>rw[Qj (X0 (by simp) (by simp))]<;>rfl
 have two:∀ {o k r:Int} {a b:EX},(2<=o/\o<=4/\k=1/\r=1)\/(6<=o/\o<=9/\k=1/\r=2)\/(11<=o/\o<=12/\k=2/\r=2)->SS.CC 110 [A1 (ev a)] []=some (bT6 k,[])->SS.CC 110 [A1 (ev b)] []=some (bT6 k,[])->SS.CC 110 [A1 (ev (kW o a b))] []=some (bT6 r,[]):=fun {o k r a b} h e1 e2=>by
  unfold kW;rw[kX,kl [a,b] [k,k] rfl (by simp) (fun j hj=>by grind),Ji];try dsimp only
  rw[aV (by rw[vM]; omega),aC];rcases h with ⟨h1,h2,rfl,rfl⟩ | ⟨h1,h2,rfl,rfl⟩ | ⟨h1,h2,rfl,rfl⟩
  .have:o=2\/o=3\/o=4:=by omega
   rcases this with rfl | rfl | rfl<;>simp only[Int.reduceBEq,aH,aC]<;>rw[Qj (X0 (by simp) (by simp))]<;>rfl
  .have:o=6\/o=7\/o=8\/o=9:=by omega
   rcases this with rfl | rfl | rfl | rfl<;>simp only[Int.reduceBEq,aH,aC]<;>rw[Qj (X0 (by simp) (by simp))]<;>rfl
  .have:o=11\/o=12:=by omega
   rcases this with rfl | rfl<;>simp only[Int.reduceBEq,aH,aC]<;>rw[Qj (X0 (by simp) (by simp))]<;>rfl
 induction h with
 | Em h1 h2=>grind [nE,kX]
 | var h1 h2=>grind [vE,kX]
 | neg _ ih=>simp_all
 | yF _ ih=>simp_all
 | ar h1 h2 _ _ ia ib=>grind
 | cmp h1 h2 _ _ ia ib=>grind
 | log h1 h2 _ _ ia ib=>grind
 | @ite k c a b _ ha _ ic ia ib =>
  have hk:=aSW ha;rw[kX,kl [c,a,b] [2,k,k] rfl (by simp) (fun j hj=>by
   have:j=0\/j=1\/j=2:=by grind
   grind),Ji]
  try dsimp only
  rw[aV (by rw[vM]; omega),aC];rcases hk with rfl | rfl<;>simp only[Int.reduceBEq,aH,aC]<;>rfl
theorem a1F {n k:Int} {x:EX} (h:Ty n k x) (hn:n<=16):x.Len:=by
 have nd:∀ {o v i:Int} {l:List EX},0<=o->o<=13 -> -8<=v->v<=23->0<=i->i<=16->l.length<=3->(∀ e,e∈l->e.Len)->(EX.node o v i l).Len:=fun h1 h2 h3 h4 h5 h6 h7 h8 => .mk (by omega) ⟨by omega,by omega⟩ ⟨by omega,by omega⟩ ⟨by omega,by omega⟩ h8
 induction h with
 | Em h1 h2=>exact nd (by decide) (by decide) h1 h2 (by decide) (by decide) (by decide) (by simp)
 | var h1 h2=>exact nd (by decide) (by decide) (by decide) (by decide) h1 (by omega) (by decide) (by simp)
 | neg _ ih=>simp_all
 | yF _ ih=>simp_all
 | ar h1 h2 _ _ ia ib=>grind
 | cmp h1 h2 _ _ ia ib=>grind
 | log h1 h2 _ _ ia ib=>grind
 | ite _ _ _ ic ia ib=>simp_all
theorem bNW {n k:Int} {x:EX} (h:Ty n k x) (h0:0<=n) (h1:n<=16) (hd:fQ x<=8) (hs:fH x<=64):zZ x n k=0:=by
 have e:SS.CC 27 [A1 (ev x),bT6 n] []=some (.tuple [bT6 k,bT6 0],[]):=by
  rw[a4V,aV (by omega),aC,aV (by omega),aC,WX (aZ6 (aSV h) 1 0 (by decide) (by omega) (by decide) (by omega))];try dsimp only
  rw[show ((0:Int) != 0)=false from rfl,aC,eP (bNV h)];try dsimp only
  have hk:=aSW h;rw[show (k==0)=false by simp; omega,aC]
 have r3:=XX (a1F h h1) h0;rw[e] at r3;grind [zZ]
def ik (F:Nat->List Tok):Nat->Nat->List Tok
 | _,0 => []
 | k,m+1=>F k ++ ik F (k+1) m
theorem aEH {L:List Tok->Nat->R} {F:Nat->List Tok} {n N:Nat} (hs:∀ k,k<n->∀ A:List Tok,A.length+(F k).length<=N->L A k=L (A ++ F k) (k+1)):∀ (m k:Nat) (A:List Tok),k+m=n->A.length+(ik F k m).length<=N->L A k=L (A ++ ik F k m) n
 | 0,k,A,h,_=>by
  have:k=n:=by omega
  subst this;rw[ik,wH]
 | m+1,k,A,h,hN=>by rw[ik,aY] at hN;rw[hs k (by omega) A (by omega),aEH hs m (k+1) _ (by omega) (by rw[aY]; omega),ik,mO]
theorem zL {L:List Tok->Nat->R} {F:Nat->List Tok} {n:Nat} (N:Nat) {A:List Tok} (hs:∀ k,k<n->∀ A:List Tok,A.length+(F k).length<=N->L A k=L (A ++ F k) (k+1)) (hN:A.length+(ik F 0 n).length<=N):L A 0=L (A ++ ik F 0 n) n:=aEH hs n 0 A (by omega) hN
theorem aEF {α:Type} (l:List α) (d:α) (F:Nat->List Tok) (f:α->List Tok) (h:∀ k,k<l.length->F k=f (l.getD k d)):∀ (m k:Nat),k+m=l.length->ik F k m=(l.drop k).flatMap f
 | 0,k,e=>by rw[GN (by omega)]; rfl
 | m+1,k,e=>by rw[ik,aEF l d F f h m (k+1) (by omega),h k (by omega),CG (by omega:k<l.length),CJ,gD (by omega:k<l.length)]
theorem H7 {α:Type} {l:List α} (d:α) {F:Nat->List Tok} {f:α->List Tok} (h:∀ k,k<l.length->F k=f (l.getD k d)):ik F 0 l.length=l.flatMap f:=aEF l d F f h l.length 0 (by omega)
theorem a3F {F G:Nat->List Tok}:∀ (m k:Nat),(∀ i,k<=i->i<k+m->F i=G i)->ik F k m=ik G k m
 | 0,_,_=>rfl
 | m+1,k,h=>by rw[ik,ik,h k (cu _) (by omega),a3F m (k+1) fun i a b=>h i (by omega) (by omega)]
theorem XV (F:Nat->List Tok):∀ (m k:Nat),ik F (k+1) m=ik (fun i=>F (i+1)) k m
 | 0,_=>rfl
 | m+1,k=>by rw[ik,ik,XV F m (k+1)]
theorem aEI {α:Type} (s:Tok) (d:α) (f:α->List Tok):∀ (l:List α) (a:List Tok),a ++ ik (fun k=>s::f (l.getD k d)) 0 l.length=jM s (a::l.map f)
 | [],a=>by rw[dZ,ik,wH]; rfl
 | b::l,a=>by rw[bP,ik,XV];show a ++ (s::(f b ++ ik (fun k=>s::f (l.getD k d)) 0 l.length))=_;rw[aEI s d f l (f b)]; rfl
theorem aWY {α:Type} {l:List α} (s:Tok) (d:α) {F:Nat->List Tok} {f:α->List Tok} (p:List Tok) (hl:l ≠ []) (h0:F 0=p ++ f (l.getD 0 d)) (h:∀ k,F (k+1)=s::f (l.getD (k+1) d)):ik F 0 l.length=p ++ jM s (l.map f):=by
 match l,hl with
 | a::l,_ =>rw[bP,ik,XV,h0,a3F (G:=fun k=>s::f (l.getD k d)) l.length 0 (fun i _ _=>h i),mO,aEI];rfl
theorem XU {α:Type} {l:List α} (s:Tok) (d:α) {F:Nat->List Tok} {f:α->List Tok} (h0:F 0=f (l.getD 0 d)) (h:∀ k,F (k+1)=s::f (l.getD (k+1) d)):ik F 0 l.length=jM s (l.map f):=by
 by_cases hl:l = []
 .subst hl; rfl
 .exact aWY s d [] hl h0 h
theorem aEG (I:Int) (mr:List Int):∀ (l:List Nm) (k:Nat),ik (fun i=>BH I mr (k+i) (l.getD i [])) 0 l.length=tK I mr k l
 | [],_=>rfl
 | s::l,k=>by
  rw[bP,ik,XV,tK,<- aEG I mr l (k+1)];congr 1
  exact a3F _ _ fun i _ _=>by show BH I mr (k+(i+1)) _=BH I mr (k+1+i) _;rw[show k+(i+1)=k+1+i by omega]; rfl
theorem bd (s:Nm):(bs s).data.toList=s:=by simp[bs]
theorem bFF (v:Int):(eY v).length<=2:=by unfold eY; split<;>simp
theorem Zl {l:List Nm} {i:Int} (h0:0<=i) (h1:i<l.length) (K:PV->R):eH (aK l) i K=K (.str (bs (l.getD i.toNat []))):=by
 have hk:i.toNat<l.length:=by omega
 have e:=Di hk K;rw[show ((i.toNat:Nat):Int)=i by omega] at e;rw[e,gD hk]
theorem bGO (l:List Int) (hn:l.length<=1000) (k:Int):SS.CC 164 [bT7 (fV l),bT6 k] []=some (.bool (decide (k∈l)),[]):=by
 have e:∃ r,SV (fV l) k ((0:Nat):Int)=some (bT6 r,[])/\decide (0<=r)=xq (fun i=>k==l.getD i 0) l.length:=by
  refine loopA (L:=fun i=>SV (fV l) k (i:Int)) (fun i hi => ?_) ?_
  .rw[aHU,aO (by rw[dn]; omega),aH,Oo hi,wE,bu (by omega),gD hi 0]
  .rw[aHU,aV (by rw[dn]; omega),aC]
 obtain ⟨r,e1,e2⟩:=e;rw[b04,eP ((b4C _ _).trans e1),e2,a2S (fun y=>k==y) l 0];have:(l.any fun y=>k==y)=decide (k∈l):=by rw[WE]; simp
 rw[this]
theorem Vo (t:Tm):(t.vs.map (·.n)).length=t.vs.length:=aX _
abbrev GG (A:List Tok):R:=some (.tuple [],[aF (dP A)])
theorem QG (xs:bTA) (s:bT9) (k:Nat) (A:List Tok) (hk:xs[k]? = some (.str s)) (hk2:k<1000) (h:A.length+1<=1000000):O3 xs (A.map bD) (k:Int)=O3 xs ((A ++ [tW s.data.toList]).map bD) ((k+1:Nat):Int):=by
 have hlt:k<xs.length:=by
  rcases yV k xs.length with h | h
  .exact h
  .rw[List.getElem?_eq_none h] at hk; cases hk
 rw[YH,aO (by omega),aH,sD (e := .str s) (by omega) (by rw[oM]; exact hk),nY,au (aO (by rw[aX]; show _<=1073741824; omega)),bu (by omega),lq,show [tW s.data.toList].map bD = [ng (1,bs s.data.toList,0,0,0,())] from rfl,XL]
theorem aT7 (xs:bTA) (k:Nat) (A:List Tok) (hk:xs.length=k):O3 xs (A.map bD) (k:Int)=GG A:=by rw[YH,aV (by omega),aC]
theorem GH (s r:bT9) (A:List Tok) (h:A.length+2<=1000000):SS.CC 165 [bT8,bT7 [.str s,.str r]] [aF (dP A)]=GG (A ++ [tW s.data.toList,tW r.data.toList]):=by rw[a4K];refine (QG _ s 0 A rfl (by decide) (by omega)).trans ?_;refine (QG _ r 1 _ rfl (by decide) (by simp; omega)).trans ?_;rw[aT7 _ 2 _ rfl,mO]; rfl
theorem wo4 (s r u v:bT9) (A:List Tok) (h:A.length+4<=1000000):SS.CC 165 [bT8,bT7 [.str s,.str r,.str u,.str v]] [aF (dP A)]=GG (A ++ [tW s.data.toList,tW r.data.toList,tW u.data.toList,tW v.data.toList]):=by rw[a4K];refine (QG _ s 0 A rfl (by decide) (by omega)).trans ?_;refine (QG _ r 1 _ rfl (by decide) (by simp; omega)).trans ?_;refine (QG _ u 2 _ rfl (by decide) (by simp; omega)).trans ?_;refine (QG _ v 3 _ rfl (by decide) (by simp; omega)).trans ?_;rw[aT7 _ 4 _ rfl];simp only[mO]; rfl
theorem aOH (l:List Nm) {k:Nat} (hk:k<l.length) (A:List Tok) (h:A.length+1<=1000000):SS.CC 243 [bT6 (k:Int),bT8,.cst (bT7 (aK l))] [some [.ptr 1 0],aF (dP A)]=some (.tuple [],[some [.ptr 1 0],aF (dP (A ++ [tW l[k]]))]):=by rw[b4F,Di hk,nY,bM (xU _ A h),bd]
theorem aO9 (l:List Nm) (hn:l.length<=1000) (A:List Tok) (hA:A.length+(uV l).length<=1000000):SS.CC 169 [bT8,bT7 (aK l)] [aF (dP A)]=GG (A ++ uV l):=by
 unfold uV at hA;simp only[aY,bP,dZ] at hA;have hc:ik (fun k=>(if k=0 then [] else [tS [44]]) ++ [tW (l.getD k [])]) 0 l.length=jM (tS [44]) (l.map fun s => [tW s]):=XU (tS [44]) [] (f:=fun s => [tW s]) rfl (fun _=>rfl);have e:=zL (L:=fun A k=>OA ⟨#[44]⟩ (aK l) (l.length:Int) (A.map bD) (k:Int)) (F:=fun k=>(if k=0 then [] else [tS [44]]) ++ [tW (l.getD k [])]) (n:=l.length) 1000000 (A:=A ++ [tS [40]]) (fun k hk B hB=>by
  rw[aY] at hB;simp only[bP,dZ] at hB;rw[aH9,aO (by omega),aH,bu (by omega),gD hk []];by_cases h0:k=0
  .rw[aV (by omega),aC,nz (aOH l hk B (by omega)),aS h0];try rfl
  .rw[aQ h0] at hB ⊢;simp only[bP,dZ] at hB;rw[aO (by omega),aH,bM (jq _ B (by omega)),nz (aOH l hk _ (by simp; omega)),mO]) (by rw[hc]; simp only[aY,bP,dZ]; omega)
 rw[hc] at e;have e2:SS.CC 170 [bT8,bT6 ((aK l).length:Int),.str ⟨#[44]⟩,.func (.func 243) [] [.ptr 1 0,.cst (bT7 (aK l))]] [aF (dP (A ++ [tS [40]])),some [bT8]]=some (.tuple [],[aF (dP (A ++ [tS [40]] ++ jM (tS [44]) (l.map fun s => [tW s]))),some [bT8]]):=by rw[b0Y,iR];refine (show OA ⟨#[44]⟩ (aK l) (l.length:Int) ((A ++ [tS [40]]).map bD) 0=_ from e).trans ?_;rw[aH9,aV (by omega),aC]
 rw[b0P,bM (jq ⟨#[40]⟩ A (by omega))];refine (aT' e2).trans ?_;rw[bM (jq ⟨#[41]⟩ _ (by simp only[aY,bP,dZ]; omega))];have e4:A ++ [tS [40]] ++ jM (tS [44]) (l.map fun s => [tW s]) ++ [tS [41]]=A ++ uV l:=by unfold uV; simp
 rw[<- e4]
theorem exC {ns:List Nm} {x:EX} (h:wL ns.length x) (A:List Tok) (hA:A.length+(wo ns x).length+1<=1000000):SS.CC 113 [bT8,bT7 (aK ns),A1 (ev x),bT6 0] [aF (dP A)]=GG (A ++ wo ns x):=by
 obtain ⟨h1,h2⟩:=Xw h;obtain ⟨a,b,c⟩:=bJR ns h1 h.len;have e:=GK h.len b c a 0;have e2:wp x 0 (wo ns x)=wo ns x:=by unfold wp;rw[aQ (by have:=a81 x; omega)]
 rw[e2] at e;exact e A hA
theorem aBX (l:List Vr) (hn:l.length<=1000):SS.CC 241 [.sl false 4 (l.map kE)] []=some (.sl true 1 (aK (l.map (·.n))),[]):=by
 have e:SS.CC 297 [.sl false 4 (l.map kE),.func (.func 298) [] []] []=some (.sl true 1 (aK (l.map (·.n))),[]):=by
  rw[b6T];refine oC (n:=l.length) (L:=fun k=>Yc (l.map kE) (aK ((l.take k).map (·.n))) (k:Int)) (fun k hk => ?_) ?_
  .rw[aIG,aO (by rw[dn]; omega),aH,UH hk,wJ (b6U _),au (gz (Dq _ l k hn)),Dp (·.n) l hk,bu (by omega)]
  .rw[aIG,aV (by rw[dn]; omega),aC,yU (cu _)]
 rw[b4D,WU e]
theorem aWI (t:Tm) (ho:Ak t) (P3:bTA) (A:List Tok) (hA:A.length+(tK t.I t.mr 0 t.ls).length<=1000000):Hl (bs t.n) (aK t.ls) (aK t.es) (kH t) (A.map bD) P3 0=O5 (bs t.n) (aK t.ls) (aK t.es) (kH t) ((A ++ tK t.I t.mr 0 t.ls).map bD) P3 0:=by
 have hc:=aEG t.I t.mr t.ls 0;have e:=zL (L:=fun A k=>Hl (bs t.n) (aK t.ls) (aK t.es) (kH t) (A.map bD) P3 (k:Int)) (F:=fun k=>BH t.I t.mr (0+k) (t.ls.getD k [])) (n:=t.ls.length) 1000000 (A:=A) (fun k hk B hB=>by
  have hn:=ho.ls.1;rw[gD hk []] at hB;unfold BH at hB;rw[qU] at hB;simp only[aY,bP,dZ] at hB;rw[aH6,aO (by rw[iR]; omega),aH,Di hk,nY,bM (GH _ _ B (by omega)),gD hk []];have hJ:∀ C:List Tok,C.length+(if (k:Int)∈t.mr then [tW [109,97,114,107,101,100]] else []).length+1<=1000000->YJ (bs t.n) (aK t.ls) (aK t.es) (kH t) (C.map bD) P3 (k:Int) (k:Int)=Hl (bs t.n) (aK t.ls) (aK t.es) (kH t) ((C ++ (if (k:Int)∈t.mr then [tW [109,97,114,107,101,100]] else []) ++ [tS [59]]).map bD) P3 ((k+1:Nat):Int):=fun C hC=>by
   rw[b0C,bV (bGO t.mr ho.mr _),bu (by omega)];by_cases hm:(k:Int)∈t.mr
   .rw[aS hm] at hC ⊢;simp only[bP,dZ] at hC;rw[aO hm,aH,bM (xU ⟨#[109,97,114,107,101,100]⟩ C (by omega)),bM (jq ⟨#[59]⟩ _ (by simp; omega))]
   .rw[aQ hm] at hC ⊢;simp only[dZ] at hC;rw[aV hm,aC,bM (jq ⟨#[59]⟩ C (by omega)),wH]
  by_cases hI:(k:Int)=t.I
  .rw[aS hI] at hB;simp only[bP,dZ] at hB;rw[show ((k:Int)==(kH t).2.2.1)=true from a3P hI,aH,bM (xU _ _ (by simp; omega)),hJ _ (by simp only[aY,bP,dZ]; omega)];congr 2
   unfold BH;rw[qU,aS hI,bd];simp
  .rw[aQ hI] at hB;simp only[dZ] at hB;rw[show ((k:Int)==(kH t).2.2.1)=false from Xe hI,aC,hJ _ (by simp only[aY,bP,dZ]; omega)];congr 2
   unfold BH;rw[qU,aQ hI,bd];simp) (by rw[hc]; exact hA)
 refine (show Hl (bs t.n) (aK t.ls) (aK t.es) (kH t) (A.map bD) P3 0=_ from e).trans ?_;rw[hc,aH6,aV (by rw[iR]; omega),aC]
theorem aWQ (t:Tm) (ho:Ak t) (hg:Gf t) (P3:bTA) (A:List Tok) (hA:A.length+(t.vs.flatMap sW).length<=1000000):O5 (bs t.n) (aK t.ls) (aK t.es) (kH t) (A.map bD) P3 0=Et (bs t.n) (aK t.ls) (aK t.es) (kH t) ((A ++ t.vs.flatMap sW).map bD) P3 0:=by
 have hc:ik (fun k=>sW (t.vs.getD k dV)) 0 t.vs.length=t.vs.flatMap sW:=H7 dV fun _ _=>rfl
 have e:=zL (L:=fun A k=>O5 (bs t.n) (aK t.ls) (aK t.es) (kH t) (A.map bD) P3 (k:Int)) (F:=fun k=>sW (t.vs.getD k dV)) (n:=t.vs.length) 1000000 (A:=A) (fun k hk B hB=>by have hn:=ho.vs.1;obtain ⟨_,h1,h2,h3⟩:=hg.vs _ (gG hk);rw[gD hk dV] at hB;unfold sW at hB;simp only[aY,bP,dZ] at hB;rw[aH4,aO (show (k:Int)<((kH t).2.2.2.2.1.length:Int) by rw[dn]; omega),aH,UH hk,bM (GH _ _ B (by omega))];dsimp only;rw[bM (jq _ _ (by grind))];rw[bM (IK h1.1 h1.2 _ (by grind))];rw[bM (jq _ _ (by grind))];rw[bM (IK h2.1 h2.2 _ (by grind))];rw[bM (jq _ _ (by grind))];rw[bM (IK h3.1 h3.2 _ (by grind))];rw[bM (jq _ _ (by grind)),bu (by omega),gD hk dV];grind [sW,bd]) (by rw[hc]; exact hA);grind [aH4,aC]
theorem aWP (t:Tm) (x:Mv) (hl:x.us.length<=1000) (hg:∀ u,u∈x.us->(0<=u.1/\u.1<t.vs.length)/\wL t.vs.length u.2) (A:List Tok) (hA:A.length+(jM (tS [44]) (x.us.map (pK (t.vs.map (·.n))))).length+1<=1000000) :
 SS.CC 170 [bT8,bT6 (x.us.length:Int),.str ⟨#[44]⟩,.func (.func 242) [] [.ptr 1 0,.ptr 2 0,.ptr 3 0]] [aF (dP A),some [bT8],ig (aK (t.vs.map (·.n)),()),O9 (uF x)]=some (.tuple [],[aF (dP (A ++ jM (tS [44]) (x.us.map (pK (t.vs.map (·.n)))))),some [bT8],ig (aK (t.vs.map (·.n)),()),O9 (uF x)]):=by
 have hc:ik (fun i=>(if i=0 then [] else [tS [44]]) ++ pK (t.vs.map (·.n)) (x.us.getD i dU)) 0 x.us.length=jM (tS [44]) (x.us.map (pK (t.vs.map (·.n)))):=XU (tS [44]) dU (f:=pK (t.vs.map (·.n))) rfl (fun _=>rfl);have one:∀ (i:Nat) (hi:i<x.us.length) (B:List Tok),B.length+(pK (t.vs.map (·.n)) x.us[i]).length+1<=1000000->SS.CC 242 [bT6 (i:Int),bT8,.ptr 1 0,.ptr 2 0] [some [.ptr 3 0],ig (aK (t.vs.map (·.n)),()),O9 (uF x),aF (dP B)]=some (.tuple [],[some [.ptr 3 0],ig (aK (t.vs.map (·.n)),()),O9 (uF x),aF (dP (B ++ pK (t.vs.map (·.n)) x.us[i]))]):=fun i hi B hB=>by
  obtain ⟨⟨u0,u1⟩,u2⟩:=hg _ (gG hi);have u2':wL (t.vs.map (·.n)).length (x.us[i]).2:=by rw[Vo]; exact u2
  unfold pK at hB;simp only[aY,bP,dZ] at hB;rw[b4E,show (uF x).2.2.2.2.2.2.2.1=x.us.map pUp from rfl,Zn hi];dsimp only;rw[Zl u0 (by rw[Vo]; exact u1),nY,bM (xU _ B (by omega)),bM (jq _ _ (by grind)),Zn hi];refine (bM (exC u2' _ (by grind))).trans ?_;grind [pK,bd]
 have e:=zL (L:=fun A i=>SL ⟨#[44]⟩ (x.us.length:Int) (A.map bD) (aK (t.vs.map (·.n))) (uF x) (i:Int)) (F:=fun i=>(if i=0 then [] else [tS [44]]) ++ pK (t.vs.map (·.n)) (x.us.getD i dU)) (n:=x.us.length) 999999 (A:=A) (fun i hi B hB=>by
  rw[gD hi dU,aY] at hB;rw[aH8,aO (by omega),aH,bu (by omega),gD hi dU];by_cases h0:i=0
  .rw[aV (by omega),aC,aD0 (one i hi B (by omega)),aS h0];rfl
  .rw[aQ h0] at hB ⊢;simp only[bP,dZ] at hB;rw[aO (by omega),aH,bM (jq _ B (by omega)),aD0 (one i hi _ (by grind)),mO]) (by rw[hc]; omega)
 rw[hc] at e;rw[b0V];grind [aH8,aC]
theorem aWL (t:Tm) (ho:Ak t) (hg:Gf t) (A:List Tok) (hA:A.length+(t.ms.flatMap (qp t)).length+2<=1000000):Et (bs t.n) (aK t.ls) (aK t.es) (kH t) (A.map bD) (aK (t.vs.map (·.n))) 0=GG (A ++ t.ms.flatMap (qp t) ++ [tS [125]]):=by
 have hc:ik (fun k=>qp t (t.ms.getD k dM)) 0 t.ms.length=t.ms.flatMap (qp t):=H7 dM fun _ _=>rfl
 have e:=zL (L:=fun A k=>Et (bs t.n) (aK t.ls) (aK t.es) (kH t) (A.map bD) (aK (t.vs.map (·.n))) (k:Int)) (F:=fun k=>qp t (t.ms.getD k dM)) (n:=t.ms.length) 999998 (A:=A) (fun k hk B hB=>by
  have hn:=ho.ms.1;obtain ⟨h1,h2,h3,h4,h5⟩:=hg.ms _ (gG hk);obtain ⟨o1,o2,o3⟩:=ho.ms.2 _ (gG hk);have h4':wL (t.vs.map (·.n)).length (t.ms[k]).g:=by rw[Vo]; exact h4
  rw[gD hk dM] at hB;unfold qp at hB;simp only[aY,bP,dZ] at hB;rw[aH5,aO (show (k:Int)<((kH t).2.2.2.2.2.1.length:Int) by rw[dn]; omega),aH,aN6 hk];dsimp only;rw[Zl h1.1 h1.2,nY,Zl h2.1 h2.2,nY,Zl h3.1 h3.2,nY];rw[bM (wo4 _ _ _ _ B (by omega)),gQ c116,bV (iO o1 tE),gD hk dM];have hJ:∀ C:List Tok,C.length+(if (t.ms[k]).us = [] then [] else tW [100,111]::jM (tS [44]) ((t.ms[k]).us.map (pK (t.vs.map (·.n))))).length+2<=1000000->YK (bs t.n) (aK t.ls) (aK t.es) (kH t) (C.map bD) (aK (t.vs.map (·.n))) (uF t.ms[k]) (k:Int)=Et (bs t.n) (aK t.ls) (aK t.es) (kH t) ((C ++ (if (t.ms[k]).us = [] then [] else tW [100,111]::jM (tS [44]) ((t.ms[k]).us.map (pK (t.vs.map (·.n))))) ++ [tS [59]]).map bD) (aK (t.vs.map (·.n))) ((k+1:Nat):Int):=fun C hC=>by
   have hK:∀ D:List Tok,D.length+(jM (tS [44]) ((t.ms[k]).us.map (pK (t.vs.map (·.n))))).length+2<=1000000->YL (bs t.n) (aK t.ls) (aK t.es) (kH t) (D.map bD) (aK (t.vs.map (·.n))) (uF t.ms[k]) (k:Int)=Et (bs t.n) (aK t.ls) (aK t.es) (kH t) ((D ++ jM (tS [44]) ((t.ms[k]).us.map (pK (t.vs.map (·.n)))) ++ [tS [59]]).map bD) (aK (t.vs.map (·.n))) ((k+1:Nat):Int):=fun D hD=>by rw[b0E,show (((uF t.ms[k]).2.2.2.2.2.2.2.1.length:Nat):Int)=((t.ms[k]).us.length:Int) from dn _ _,aTZ (aWP t _ o2 h5 D (by omega)),bu (by omega)];dsimp only;rw[bM (jq _ _ (by grind))]
   rw[b0D,show (((uF t.ms[k]).2.2.2.2.2.2.2.1.length:Nat):Int)=((t.ms[k]).us.length:Int) from dn _ _];by_cases hu:(t.ms[k]).us = []
   .rw[aS hu] at hC ⊢;simp only[dZ] at hC;have hl0:(t.ms[k]).us.length=0:=by rw[hu]; rfl
    rw[aV (by omega),aC,hK C (by rw[hu]; show C.length+0+2<=1000000; omega),hu];rfl
   .rw[aQ hu] at hC ⊢;simp only[bP] at hC;have hl0:0<(t.ms[k]).us.length:=List.length_pos_iff.2 hu;rw[aO (by omega),aH,bM (xU _ C (by omega)),hK _ (by simp only[aY,bP,dZ]; omega)];congr 2
    simp
  cases hq:gq (t.ms[k]).g tE with
  | true =>
   rw[hq,aS rfl] at hB;simp only[dZ] at hB;rw[uH,aC,hJ _ (by simp only[aY,bP,dZ]; omega)];congr 2
   unfold qp;rw[hq,aS rfl,bd,bd,bd];simp
  | false =>
   rw[hq,aQ WF] at hB;simp only[bP] at hB;rw[uq,aH,bM (xU _ _ (by simp only[aY,bP,dZ]; omega)),bM (exC h4' _ (by simp only[aY,bP,dZ]; omega)),hJ _ (by simp only[aY,bP,dZ]; omega)];congr 2
   unfold qp;rw[hq,aQ WF,bd,bd,bd];simp) (by rw[hc]; omega)
 refine (show Et (bs t.n) (aK t.ls) (aK t.es) (kH t) (A.map bD) (aK (t.vs.map (·.n))) 0=_ from e).trans ?_;rw[hc,aH5,aV (show ¬ (t.ms.length:Int)<((kH t).2.2.2.2.2.1.length:Int) by rw[dn]; omega),aC,bM (jq ⟨#[125]⟩ _ (by simp only[aY]; omega))]
theorem aWM (t:Tm) (ho:Ak t) (hg:Gf t) (A:List Tok) (hA:A.length+(pI t).length+2<=1000000):SS.CC 168 [bT8,A5 (yM t)] [aF (dP A)]=GG (A ++ pI t):=by
 unfold pI at hA;simp only[aY,bP,dZ] at hA;rw[b0O];dsimp only;rw[WU (aBX t.vs ho.vs.1),bM (GH _ _ A (by omega)),bM (aO9 t.es ho.es.1 _ (by simp only[aY,bP,dZ]; omega)),bM (jq _ _ (by simp only[aY,bP,dZ]; omega))];rw[aWI t ho _ _ (by simp only[aY,bP,dZ]; omega),aWQ t ho hg _ _ (by simp only[aY,bP,dZ]; omega),aWL t ho hg _ (by simp only[aY,bP,dZ]; omega)];have e4:A ++ [tW (⟨#[116,101,109,112,108,97,116,101]⟩:bT9).data.toList,tW (bs t.n).data.toList] ++ uV t.es ++ [tS (⟨#[123]⟩:bT9).data.toList] ++ tK t.I t.mr 0 t.ls ++ t.vs.flatMap sW ++ t.ms.flatMap (qp t) ++ [tS [125]]=A ++ pI t:=by unfold pI;rw[bd];simp
 rw[<- e4]
abbrev fC (e:kK):List Tok:=if e.c then [tW [99,111,110,116,114,111,108,108,97,98,108,101]] else []
abbrev fO (e:kK):List Tok:=if e.o then [tW [111,98,115,101,114,118,97,98,108,101]] else []
abbrev fF (e:kK):List Tok:=if e.f then [tW [102,111,114,99,105,98,108,101]] else []
theorem aWD (m:Mo) (e:kK) (A:List Tok) (hA:A.length+3<=1000000) (k:Int):kQ (aW m) (A.map bD) (rF e) 0 k=kQ (aW m) ((A ++ fC e ++ fO e ++ fF e).map bD) (rF e) 3 k:=by
 have s0:∀ B:List Tok,B.length+1<=1000000->kQ (aW m) (B.map bD) (rF e) 0 k=kQ (aW m) ((B ++ fC e).map bD) (rF e) 1 k:=fun B hB=>by
  have q:kQ (aW m) (B.map bD) (rF e) 0 k=aA e.c (aU 165 [bT8,bT7 [.str ⟨#[99,111,110,116,114,111,108,108,97,98,108,101]⟩]] [aF (dP B)] fun _ u=>kQ (aW m) u.1 (rF e) 1 k) (kQ (aW m) (B.map bD) (rF e) 1 k):=(Ym _ _ _ _ _).trans (by kernel_rfl);rw[q];unfold fC;cases e.c with
  | true=>rw[aH,bM (xU _ B hB)]; rfl
  | false=>rw[aC,aQ WF,wH]
 have s1:∀ B:List Tok,B.length+1<=1000000->kQ (aW m) (B.map bD) (rF e) 1 k=kQ (aW m) ((B ++ fO e).map bD) (rF e) 2 k:=fun B hB=>by
  have q:kQ (aW m) (B.map bD) (rF e) 1 k=aA e.o (aU 165 [bT8,bT7 [.str ⟨#[111,98,115,101,114,118,97,98,108,101]⟩]] [aF (dP B)] fun _ u=>kQ (aW m) u.1 (rF e) 2 k) (kQ (aW m) (B.map bD) (rF e) 2 k):=(Ym _ _ _ _ _).trans (by kernel_rfl);rw[q];unfold fO;cases e.o with
  | true=>rw[aH,bM (xU _ B hB)]; rfl
  | false=>rw[aC,aQ WF,wH]
 have s2:∀ B:List Tok,B.length+1<=1000000->kQ (aW m) (B.map bD) (rF e) 2 k=kQ (aW m) ((B ++ fF e).map bD) (rF e) 3 k:=fun B hB=>by
  have q:kQ (aW m) (B.map bD) (rF e) 2 k=aA e.f (aU 165 [bT8,bT7 [.str ⟨#[102,111,114,99,105,98,108,101]⟩]] [aF (dP B)] fun _ u=>kQ (aW m) u.1 (rF e) 3 k) (kQ (aW m) (B.map bD) (rF e) 3 k):=(Ym _ _ _ _ _).trans (by kernel_rfl);rw[q];unfold fF;cases e.f with
  | true=>rw[aH,bM (xU _ B hB)]; rfl
  | false=>rw[aC,aQ WF,wH]
 have q1:(fC e).length<=1:=by unfold fC; cases e.c<;>simp
 have q2:(fO e).length<=1:=by unfold fO; cases e.o<;>simp
 rw[s0 A (by omega),s1 _ (by rw[aY]; omega),s2 _ (by rw[aY,aY]; omega)]
theorem aWC (m:Mo) (ho:qX m) (hg:MW m) (A:List Tok) (hA:A.length+(m.es.flatMap uN).length<=900000):Jq (aW m) (A.map bD) 0=Jn (aW m) ((A ++ m.es.flatMap uN).map bD) 0:=by
 have hc:ik (fun k=>uN (m.es.getD k dE)) 0 m.es.length=m.es.flatMap uN:=H7 dE fun _ _=>rfl
 have e:=zL (L:=fun A k=>Jq (aW m) (A.map bD) (k:Int)) (F:=fun k=>uN (m.es.getD k dE)) (n:=m.es.length) 900000 (A:=A) (fun k hk B hB=>by
  have hn:=ho.es.1;obtain ⟨_,k0,k4⟩:=hg.es _ (gG hk);have hf:uN (m.es[k]) = [tW [101,118,101,110,116],tW (m.es[k]).n] ++ fC m.es[k] ++ fO m.es[k] ++ fF m.es[k] ++ (if (m.es[k]).k=0 then [] else tW [102,97,117,108,116]::eY (m.es[k]).k) ++ [tS [59]]:=rfl;rw[gD hk dE] at hB ⊢;rw[hf] at hB ⊢;simp only[aY,bP,dZ] at hB;have q1:(fC m.es[k]).length<=1:=by unfold fC; cases (m.es[k]).c<;>simp
  have q2:(fO m.es[k]).length<=1:=by unfold fO; cases (m.es[k]).o<;>simp
  have q3:(fF m.es[k]).length<=1:=by unfold fF; cases (m.es[k]).f<;>simp
  rw[aJC,aO (show (k:Int)<((aW m).2.1.length:Int) by rw[dn]; omega),aH,a7L hk,bM (GH _ _ B (by omega))];refine (aWD m m.es[k] _ (by simp only[aY,bP,dZ]; omega) _).trans ?_;rw[Ym,aV (by decide),aC,bu (by omega)];dsimp only;by_cases hk0:(m.es[k]).k=0
  .rw[show ((m.es[k]).k != 0)=false from zn hk0,aC,bM (jq _ _ (by simp only[aY,bP,dZ]; omega)),aS hk0];congr 2
   rw[bd];simp
  .rw[aQ hk0] at hB ⊢;simp only[bP] at hB;rw[show ((m.es[k]).k != 0)=true from JS hk0,aH,bM (xU _ _ (by simp only[aY,bP,dZ]; omega)),bM (IK (by omega) (by omega) _ (by simp only[aY,bP,dZ]; omega)),bM (jq _ _ (by simp only[aY,bP,dZ]; omega))];congr 2
   rw[bd];simp) (by rw[hc]; exact hA)
 refine (show Jq (aW m) (A.map bD) 0=_ from e).trans ?_;rw[hc,aJC,aV (show ¬ (m.es.length:Int)<((aW m).2.1.length:Int) by rw[dn]; omega),aC]
theorem aWO (m:Mo) (ho:qX m) (hg:MW m) (A:List Tok) (hA:A.length+(m.ts.flatMap pI).length<=900000):Jn (aW m) (A.map bD) 0=Ew (aW m) ((A ++ m.ts.flatMap pI).map bD) 0:=by
 have hc:ik (fun k=>pI (m.ts.getD k dT)) 0 m.ts.length=m.ts.flatMap pI:=H7 dT fun _ _=>rfl
 have e:=zL (L:=fun A k=>Jn (aW m) (A.map bD) (k:Int)) (F:=fun k=>pI (m.ts.getD k dT)) (n:=m.ts.length) 900000 (A:=A) (fun k hk B hB=>by have hn:=ho.ts.1;rw[gD hk dT] at hB;rw[aJ9,aO (show (k:Int)<((aW m).2.2.1.length:Int) by rw[dn]; omega),aH,Zm hk,bM (aWM _ (ho.ts.2 _ (gG hk)).2 (hg.ts _ (gG hk)).2 B (by omega)),bu (by omega),gD hk dT]) (by rw[hc]; exact hA);refine (show Jn (aW m) (A.map bD) 0=_ from e).trans ?_;rw[hc,aJ9,aV (show ¬ (m.ts.length:Int)<((aW m).2.2.1.length:Int) by rw[dn]; omega),aC]
theorem aKY (w:bT9) (x:Ins) (hx:CZ x.es) (B:List Tok) (K:Sh.V gY->R) (hB:B.length+(inT w.data.toList x).length<=900000):(aU 165 [bT8,bT7 [.str w,.str (bs x.n)]] [aF (dP B)] fun _ u20=>aU 166 [bT8,bT7 [.str ⟨#[61]⟩]] [aF u20] fun _ u23=>aU 165 [bT8,bT7 [.str (bs x.t)]] [aF u23] fun _ u26=>aU 169 [bT8,bT7 (aK x.es)] [aF u26] fun _ u29=>aU 166 [bT8,bT7 [.str ⟨#[59]⟩]] [aF u29] fun _ u32=>K u32)=K (dP (B ++ inT w.data.toList x)):=by
 unfold inT at hB;simp only[aY,bP,dZ] at hB;rw[bM (GH _ _ B (by omega)),bM (jq _ _ (by simp only[aY,bP,dZ]; omega)),bM (xU _ _ (by simp only[aY,bP,dZ]; omega)),bM (aO9 _ hx.1 _ (by simp only[aY,bP,dZ]; omega)),bM (jq _ _ (by simp only[aY,bP,dZ]; omega))];congr 2
 unfold inT;rw[bd,bd];simp
theorem aWF (m:Mo) (l:List Ins) (hn:l.length<=1000) (hl:∀ x,x∈l->CZ x.es) (A:List Tok) (hA:A.length+(l.flatMap (inT wC)).length<=900000):zB (aW m) (A.map bD) 0 (l.map iQ) 0 0 ((l.map iQ).length:Int)=Ew (aW m) ((A ++ l.flatMap (inT wC)).map bD) 1:=by
 have hc:ik (fun k=>inT wC (l.getD k dI)) 0 l.length=l.flatMap (inT wC):=H7 dI fun _ _=>rfl
 have e:=zL (L:=fun A k=>zB (aW m) (A.map bD) (k:Int) (l.map iQ) 0 0 ((l.map iQ).length:Int)) (F:=fun k=>inT wC (l.getD k dI)) (n:=l.length) 900000 (A:=A) (fun k hk B hB=>by rw[gD hk dI] at hB ⊢;rw[Yl,aO (by rw[dn]; omega),aH,Om hk,bu (by omega)];exact aKY ⟨#[99,111,109,112,111,110,101,110,116]⟩ _ (hl _ (gG hk)) B _ hB) (by rw[hc]; exact hA);refine (show zB (aW m) (A.map bD) 0 (l.map iQ) 0 0 ((l.map iQ).length:Int)=_ from e).trans ?_;rw[hc,Yl,aV (by rw[dn]; omega),aC];rfl
theorem aWG (m:Mo) (l:List Ins) (hn:l.length<=1000) (hl:∀ x,x∈l->CZ x.es) (A:List Tok) (hA:A.length+(l.flatMap (inT wR)).length<=900000):zB (aW m) (A.map bD) 0 (l.map iQ) 1 1 ((l.map iQ).length:Int)=Ew (aW m) ((A ++ l.flatMap (inT wR)).map bD) 2:=by
 have hc:ik (fun k=>inT wR (l.getD k dI)) 0 l.length=l.flatMap (inT wR):=H7 dI fun _ _=>rfl
 have e:=zL (L:=fun A k=>zB (aW m) (A.map bD) (k:Int) (l.map iQ) 1 1 ((l.map iQ).length:Int)) (F:=fun k=>inT wR (l.getD k dI)) (n:=l.length) 900000 (A:=A) (fun k hk B hB=>by rw[gD hk dI] at hB ⊢;rw[Yl,aO (by rw[dn]; omega),aH,Om hk,bu (by omega)];exact aKY ⟨#[114,101,113,117,105,114,101,109,101,110,116]⟩ _ (hl _ (gG hk)) B _ hB) (by rw[hc]; exact hA);refine (show zB (aW m) (A.map bD) 0 (l.map iQ) 1 1 ((l.map iQ).length:Int)=_ from e).trans ?_;rw[hc,Yl,aV (by rw[dn]; omega),aC];rfl
theorem aWE (m:Mo) (ho:qX m) (A:List Tok) (hA:A.length+(m.cs.flatMap (inT wC)).length+(m.rs.flatMap (inT wR)).length<=900000):Ew (aW m) (A.map bD) 0=Jo (aW m) ((A ++ m.cs.flatMap (inT wC) ++ m.rs.flatMap (inT wR)).map bD) 0:=by
 have q0:Ew (aW m) (A.map bD) 0=zB (aW m) (A.map bD) 0 (m.cs.map iQ) 0 0 ((m.cs.map iQ).length:Int):=(a5H _ _ _).trans (by kernel_rfl);have q1:∀ B:List Tok,Ew (aW m) (B.map bD) 1=zB (aW m) (B.map bD) 0 (m.rs.map iQ) 1 1 ((m.rs.map iQ).length:Int):=fun B=>(a5H _ _ _).trans (by kernel_rfl)
 rw[q0,aWF m m.cs ho.is.1 (fun x hx=>(ho.is.2.2 x (WH _ hx)).2.2) A (by omega),q1,aWG m m.rs ho.is.2.1 (fun x hx=>(ho.is.2.2 x (WI _ hx)).2.2) _ (by rw[aY]; omega),a5H,aV (by decide),aC]
theorem aWJ (x:qG) (hn:x.ls.length<=1000) (A:List Tok) (hA:A.length+(jM (tS [44]) (x.ls.map fun l => [tW l.1,tW l.2])).length<=900000):SS.CC 170 [bT8,bT6 (x.ls.length:Int),.str ⟨#[44]⟩,.func (.func 171) [] [.ptr 1 0,.ptr 2 0]] [aF (dP A),some [bT8],xh (EL x)]=some (.tuple [],[aF (dP (A ++ jM (tS [44]) (x.ls.map fun l => [tW l.1,tW l.2]))),some [bT8],xh (EL x)]):=by
 have hc:ik (fun i=>(if i=0 then [] else [tS [44]]) ++ [tW (x.ls.getD i dL).1,tW (x.ls.getD i dL).2]) 0 x.ls.length=jM (tS [44]) (x.ls.map fun l => [tW l.1,tW l.2]):=XU (tS [44]) dL (f:=fun l => [tW l.1,tW l.2]) rfl (fun _=>rfl);have one:∀ (i:Nat) (hi:i<x.ls.length) (B:List Tok),B.length+2<=1000000->SS.CC 171 [bT6 (i:Int),bT8,.ptr 1 0] [some [.ptr 2 0],xh (EL x),aF (dP B)]=some (.tuple [],[some [.ptr 2 0],xh (EL x),aF (dP (B ++ [tW (x.ls[i]).1,tW (x.ls[i]).2]))]):=fun i hi B hB=>by rw[b1C,show (EL x).2.1=x.ls.map BZ from rfl,a7M hi,a7M hi,bM (GH _ _ B hB),bd,bd]
 have e:=zL (L:=fun A i=>OB ⟨#[44]⟩ (x.ls.length:Int) (A.map bD) (EL x) (i:Int)) (F:=fun i=>(if i=0 then [] else [tS [44]]) ++ [tW (x.ls.getD i dL).1,tW (x.ls.getD i dL).2]) (n:=x.ls.length) 900000 (A:=A) (fun i hi B hB=>by
  rw[aY] at hB;simp only[bP,dZ] at hB;rw[aHA,aO (by omega),aH,bu (by omega),gD hi dL];by_cases h0:i=0
  .rw[aV (by omega),aC,aCY (one i hi B (by omega)),aS h0];rfl
  .rw[aQ h0];rw[aO (by omega),aH,bM (jq _ B (by omega)),aCY (one i hi _ (by simp only[aY,bP,dZ]; omega)),mO]) (by rw[hc]; exact hA)
 rw[hc] at e;rw[b1B];refine (show OB ⟨#[44]⟩ (x.ls.length:Int) (A.map bD) (EL x) 0=_ from e).trans ?_;rw[aHA,aV (by omega),aC]
theorem aWN (x:Cst) (hn:x.ts.length<=1000) (hr:∀ l,l∈x.ts->R16 l.2) (A:List Tok) (hA:A.length+(jM (tS [43]) (x.ts.map fun l=>eY l.2 ++ [tS [42],tW l.1])).length<=900000):SS.CC 170 [bT8,bT6 (x.ts.length:Int),.str ⟨#[43]⟩,.func (.func 172) [] [.ptr 1 0,.ptr 2 0]] [aF (dP A),some [bT8],xk (xQ x)]=some (.tuple [],[aF (dP (A ++ jM (tS [43]) (x.ts.map fun l=>eY l.2 ++ [tS [42],tW l.1]))),some [bT8],xk (xQ x)]):=by
 have hc:ik (fun i=>(if i=0 then [] else [tS [43]]) ++ (eY (x.ts.getD i dR).2 ++ [tS [42],tW (x.ts.getD i dR).1])) 0 x.ts.length=jM (tS [43]) (x.ts.map fun l=>eY l.2 ++ [tS [42],tW l.1]):=XU (tS [43]) dR (f:=fun l=>eY l.2 ++ [tS [42],tW l.1]) rfl (fun _=>rfl);have one:∀ (i:Nat) (hi:i<x.ts.length) (B:List Tok),B.length+4<=1000000->SS.CC 172 [bT6 (i:Int),bT8,.ptr 1 0] [some [.ptr 2 0],xk (xQ x),aF (dP B)]=some (.tuple [],[some [.ptr 2 0],xk (xQ x),aF (dP (B ++ (eY (x.ts[i]).2 ++ [tS [42],tW (x.ts[i]).1])))]):=fun i hi B hB=>by
  have r1:=hr _ (gG hi);have l1:=bFF (x.ts[i]).2;rw[b1D,show (xQ x).2.1=x.ts.map IU from rfl,a7O hi];dsimp only;rw[bM (IK r1.1 r1.2 B (by omega)),bM (jq _ _ (by simp only[aY]; omega)),a7O hi,bM (xU _ _ (by simp only[aY,bP,dZ]; omega)),bd];have e4:B ++ eY (x.ts[i]).2 ++ [tS (⟨#[42]⟩:bT9).data.toList] ++ [tW (x.ts[i]).1]=B ++ (eY (x.ts[i]).2 ++ [tS [42],tW (x.ts[i]).1]):=by simp
  rw[e4]
 have e:=zL (L:=fun A i=>O8 ⟨#[43]⟩ (x.ts.length:Int) (A.map bD) (xQ x) (i:Int)) (F:=fun i=>(if i=0 then [] else [tS [43]]) ++ (eY (x.ts.getD i dR).2 ++ [tS [42],tW (x.ts.getD i dR).1])) (n:=x.ts.length) 900000 (A:=A) (fun i hi B hB=>by
  rw[aY] at hB;rw[aH7,aO (by omega),aH,bu (by omega),gD hi dR];by_cases h0:i=0
  .rw[aV (by omega),aC,aCZ (one i hi B (by omega)),aS h0];rfl
  .rw[aQ h0];rw[aO (by omega),aH,bM (jq _ B (by omega)),aCZ (one i hi _ (by simp only[aY,bP,dZ]; omega)),mO]) (by rw[hc]; exact hA)
 rw[hc] at e;rw[b0S];refine (show O8 ⟨#[43]⟩ (x.ts.length:Int) (A.map bD) (xQ x) 0=_ from e).trans ?_;rw[aH7,aV (by omega),aC]
theorem aWR (m:Mo) (ho:qX m) (A:List Tok) (hA:A.length+(m.xs.flatMap um).length<=900000):Jo (aW m) (A.map bD) 0=Jp (m.ks.map xI) ((A ++ m.xs.flatMap um).map bD) 0:=by
 have hc:ik (fun k=>um (m.xs.getD k dX)) 0 m.xs.length=m.xs.flatMap um:=H7 dX fun _ _=>rfl
 have e:=zL (L:=fun A k=>Jo (aW m) (A.map bD) (k:Int)) (F:=fun k=>um (m.xs.getD k dX)) (n:=m.xs.length) 900000 (A:=A) (fun k hk B hB=>by
  have hn:=ho.xs.1;obtain ⟨_,o2,_⟩:=ho.xs.2 _ (gG hk);rw[gD hk dX] at hB ⊢;unfold um at hB;simp only[aY,bP,dZ] at hB;rw[aJA,aO (show (k:Int)<((aW m).2.2.2.2.2.1.length:Int) by rw[dn]; omega),aH,UE hk,bM (GH _ _ B (by omega)),bM (jq _ _ (by simp only[aY,bP,dZ]; omega)),dn,aTW (aWJ _ o2 _ (by simp only[aY,bP,dZ]; omega)),bM (jq _ _ (by simp only[aY,bP,dZ]; omega)),bu (by omega)];congr 2
  unfold um;rw[bd];simp) (by rw[hc]; exact hA)
 refine (show Jo (aW m) (A.map bD) 0=_ from e).trans ?_;rw[hc,aJA,aV (show ¬ (m.xs.length:Int)<((aW m).2.2.2.2.2.1.length:Int) by rw[dn]; omega),aC]
theorem aWH (l:List Cst) (hn:l.length<=1000) (ho:∀ x,x∈l->x.ts.length<=1000) (hg:∀ x,x∈l->R16 x.b/\∀ t,t∈x.ts->R16 t.2) (A:List Tok) (hA:A.length+(l.flatMap su).length<=900000):Jp (l.map xI) (A.map bD) 0=GG (A ++ l.flatMap su):=by
 have hc:ik (fun k=>su (l.getD k dK)) 0 l.length=l.flatMap su:=H7 dK fun _ _=>rfl
 have e:=zL (L:=fun A k=>Jp (l.map xI) (A.map bD) (k:Int)) (F:=fun k=>su (l.getD k dK)) (n:=l.length) 900000 (A:=A) (fun k hk B hB=>by
  have o2:=ho _ (gG hk);obtain ⟨g3,g4⟩:=hg _ (gG hk);rw[gD hk dK] at hB ⊢;unfold su at hB;simp only[aY,bP,dZ] at hB;rw[aJB,aO (by rw[dn]; omega),aH,Zk hk,bM (GH _ _ B (by omega)),bM (jq _ _ (by simp only[aY,bP,dZ]; omega)),dn,aTX (aWN _ o2 g4 _ (by simp only[aY,bP,dZ]; omega)),bM (jq _ _ (by simp only[aY,bP,dZ]; omega))];dsimp only;rw[bM (IK g3.1 g3.2 _ (by simp only[aY,bP,dZ]; omega)),bM (jq _ _ (by simp only[aY,bP,dZ]; omega)),bu (by omega)];congr 2
  unfold su;rw[bd];simp) (by rw[hc]; exact hA)
 refine (show Jp (l.map xI) (A.map bD) 0=_ from e).trans ?_;rw[hc,aJB,aV (by rw[dn]; omega),aC]
theorem aWK (m:Mo) (ho:qX m) (hg:MW m) (hA:(lX m).length<=900000):SS.CC 57 [bT8,A0 (aW m)] [aF (dP [])]=GG (lX m):=by
 unfold lX at hA;simp only[aY,bP,dZ] at hA;rw[b9E,bM (GH _ _ [] (by decide)),bM (jq _ _ (by simp))];dsimp only;rw[aWC m ho hg _ (by simp only[aY,bP,dZ]; omega),aWO m ho hg _ (by simp only[aY,bP,dZ]; omega),aWE m ho _ (by simp only[aY,bP,dZ]; omega),aWR m ho _ (by simp only[aY,bP,dZ]; omega),aWH m.ks ho.ks.1 (fun x hx=>(ho.ks.2 x hx).2.1) (fun x hx=>⟨(hg.ks x hx).2.2.1,fun t ht=>((hg.ks x hx).2.2.2 t ht).2⟩) _ (by simp only[aY,bP,dZ]; omega)];have e4 : [] ++ [tW (⟨#[109,111,100,101,108]⟩:bT9).data.toList,tW (bs m.n).data.toList] ++ [tS (⟨#[59]⟩:bT9).data.toList] ++ m.es.flatMap uN ++ m.ts.flatMap pI ++ m.cs.flatMap (inT wC) ++ m.rs.flatMap (inT wR) ++ m.xs.flatMap um ++ m.ks.flatMap su=lX m:=by unfold lX;rw[bd];simp
 rw[<- e4]
structure mX where
 d:Nat
 last:Nm
 out:Nm
 fr:Bool
def qy (st:mX) (s:Nm):mX:=if s = [125] then ⟨st.d-1,st.last,if st.fr then st.out else st.out ++ [10],true⟩ else st
def ou (st:mX) (s:Nm):Nm:=(if st.fr then st.out ++ Lib.repeatL [32,32] st.d else if s = [44]\/s = [59]\/s = [41]\/st.last = [40] then st.out else st.out ++ [32]) ++ s
def pend (d:Nat) (s o:Nm):mX:=if s = [123] then ⟨d+1,s,o ++ [10],true⟩ else if s = [125]\/s = [59] then ⟨d,s,o ++ [10],true⟩ else ⟨d,s,o,false⟩
def jg (st:mX) (s:Nm):mX:=pend (qy st s).d s (ou (qy st s) s)
def Dy (st:mX):Nm:=if st.fr then st.out else st.out ++ [10]
theorem aEJ (l:Nm):SS.CC 162 [bT8] [oO (l,())]=some (.tuple [],[oO (l,())]):=JH rfl
theorem wby (c:Int) (l:Nm) (hl:l.length<=1000000000) (h0:0<=c) (h1:c<256):SS.CC 174 [bT8,.int .u8 c] [oO (l,())]=some (.raw .nilIface,[oO (l ++ [UInt8.ofNat c.toNat],())]):=by rw[b1F,aC' (aEJ l)];dsimp only;rw[aO (show l.length+1<=bC by show _<=1073741824; omega),aO h0,aO h1];rfl
theorem wst (s l:Nm) (hl:l.length+s.length<=1000000000):SS.CC 52 [bT8,.str (bs s)] [oO (l,())]=some (.tuple [bT6 (s.length:Int),.raw .nilIface],[oO (l ++ s,())]):=by rw[b8X,aC' (aEJ l)];grind [jy,bC,au,bd]
theorem Ri (fr:Bool) (l:Nm) (hl:l.length<=1000000000):SS.CC 173 [bT8,.ptr 1 0] [mV (fr,()),Aj (l,())]=some (.tuple [],[mV (true,()),Aj (if fr then l else l ++ [10],())]):=by
 rw[b1E];cases fr with
 | true=>rfl
 | false=>rw[uq,aH,aCW (wby 10 l hl (by decide) (by decide))]; rfl
theorem bKS (k:Nat) (hk:k<=1000000):SS.CC 30 [.str ⟨#[32,32]⟩,bT6 (k:Int)] []=some (.str (bs (Lib.repeatL [32,32] k)),[]):=by
 refine JH ?_;show (match decide (0<=(k:Int))&&(Nat.ble (k:Int).toNat 9223372036854775807&&Nat.ble ((⟨#[32,32]⟩:bT9).size*(k:Int).toNat) 140737488355328) with
  | true=>some (PV.str ⟨(Lib.repeatL [32,32] (k:Int).toNat).toArray⟩,([]:aG))
  | false=>none)=_
 rw[aO (by omega),oM,show (⟨#[32,32]⟩:bT9).size=2 from rfl,show Nat.ble k 9223372036854775807=true from JC (by omega),show Nat.ble (2*k) 140737488355328=true from JC (by omega)];rfl
theorem aQ0 (k:Nat):(Lib.repeatL ([32,32]:bTB) k).length=2*k:=by rw[Lib.repeatL_length]; simp; omega
theorem Gz (s r:Nm):((bs s).toList==(bs r).toList)=decide (s=r):=aEA s r
theorem a94 (X:bTA) (d:Nat) (hd:d<=100000) (q:Sh.V lT) (s:Nm) (hq:q.2.1=bs s) (o:Nm) (ho:o.length+s.length<=900000000) (fr:Bool) (k:Nat) (hk:k<1000000):Ey X o fr q (d:Int) (k:Int)=zC X ((pend d s (o ++ s)).d:Int) (bs (pend d s (o ++ s)).last) ((k+1:Nat):Int) (pend d s (o ++ s)).out (pend d s (o ++ s)).fr:=by
 have hl:(o ++ s).length<=1000000000:=by rw[aY]; omega
 rw[b9G,hq,aCV (wst s o (by omega)),bu (k:=k) (by omega)];dsimp only;have e1:((bs s).toList==(⟨#[123]⟩:bT9).toList)=decide (s = [123]):=Gz s [123];have e2:((bs s).toList==(⟨#[125]⟩:bT9).toList)=decide (s = [125]):=Gz s [125];have e3:((bs s).toList==(⟨#[59]⟩:bT9).toList)=decide (s = [59]):=Gz s [59];rw[e1,e2,e3];unfold pend;by_cases h1:s = [123]
 .rw[aO h1,aH,aS h1];refine (Qi (Ri false (o ++ s) hl)).trans ?_;rw[bu (k:=d) (by omega)];rfl
 .rw[aV h1,aC,aQ h1];by_cases h2:s = [125]
  .rw[aO h2,aH,aS (.inl h2)];exact Qi (Ri false (o ++ s) hl)
  .rw[aV h2,aC];by_cases h3:s = [59]
   .rw[aO h3,aH,aS (.inr h3)];exact Qi (Ri false (o ++ s) hl)
   simp_all
theorem aPK (X:bTA) (st:mX) (hd:st.d<=100000) (q:Sh.V lT) (s:Nm) (hq:q.2.1=bs s) (ho:st.out.length<=800000000) (hs:s.length<=1000) (k:Nat) (hk:k<1000000):Yn X st.out st.fr q (st.d:Int) (bs st.last) (k:Int)=zC X ((pend st.d s (ou st s)).d:Int) (bs (pend st.d s (ou st s)).last) ((k+1:Nat):Int) (pend st.d s (ou st s)).out (pend st.d s (ou st s)).fr:=by
 rw[b9F,hq];have e1:((bs s).toList==(⟨#[44]⟩:bT9).toList)=decide (s = [44]):=Gz s [44];have e2:((bs s).toList==(⟨#[59]⟩:bT9).toList)=decide (s = [59]):=Gz s [59];have e3:((bs s).toList==(⟨#[41]⟩:bT9).toList)=decide (s = [41]):=Gz s [41];have e4:((bs st.last).toList==(⟨#[40]⟩:bT9).toList)=decide (st.last = [40]):=Gz st.last [40];rw[e1,e2,e3,e4];unfold ou;cases hf:st.fr with
 | true =>have hr:=aQ0 st.d;rw[aH,wJ (bKS st.d (by omega)),aS rfl];refine (aCV (wst _ _ (by omega))).trans ?_;grind [a94]
 | false =>
  rw[aC,aQ WF];have yes:∀ (_:s = [44]\/s = [59]\/s = [41]\/st.last = [40]),Ey X st.out false q (st.d:Int) (k:Int)=zC X ((pend st.d s ((if s = [44]\/s = [59]\/s = [41]\/st.last = [40] then st.out else st.out ++ [32]) ++ s)).d:Int) (bs (pend st.d s ((if s = [44]\/s = [59]\/s = [41]\/st.last = [40] then st.out else st.out ++ [32]) ++ s)).last) ((k+1:Nat):Int) (pend st.d s ((if s = [44]\/s = [59]\/s = [41]\/st.last = [40] then st.out else st.out ++ [32]) ++ s)).out (pend st.d s ((if s = [44]\/s = [59]\/s = [41]\/st.last = [40] then st.out else st.out ++ [32]) ++ s)).fr:=fun h=>by rw[aS h];grind [a94]
  by_cases h1:s = [44]
  .rw[aO h1,uH,aC]; simp_all
  rw[aV h1,uq,aH];by_cases h2:s = [59]
  .rw[aO h2,uH,aC]; simp_all
  rw[aV h2,uq,aH];by_cases h3:s = [41]
  .rw[aO h3,uH,aC]; simp_all
  rw[aV h3,uq,aH];by_cases h4:st.last = [40]
  .rw[aO h4,uH,aC]; simp_all
  rw[aV h4,uq,aH,aCW (wby 32 _ (by omega) (by decide) (by decide)),aQ (by simp_all)];grind [a94]
theorem bJF (T:List Tok) (hn:T.length<=900000) {k:Nat} (hk:k<T.length) (st:mX) (hd:st.d<=100000) (ho:st.out.length<=700000000) (hs:(T[k]).text.length<=1000):zC (T.map bD) (st.d:Int) (bs st.last) (k:Int) st.out st.fr=zC (T.map bD) ((jg st (T[k]).text).d:Int) (bs (jg st (T[k]).text).last) ((k+1:Nat):Int) (jg st (T[k]).text).out (jg st (T[k]).text).fr:=by
 have e2:((bs (T[k]).text).toList==(⟨#[125]⟩:bT9).toList)=decide ((T[k]).text = [125]):=Gz _ [125];rw[aJF,aO (by rw[aX]; omega),aH,UG hk];rw[show (tk T[k]).2.1=bs (T[k]).text from rfl,e2];unfold jg qy;by_cases h:(T[k]).text = [125]
 .rw[aO h,aH,aS h];refine (Qi (Ri st.fr st.out (by omega))).trans ?_;have hz:(if (0:Int)>i64.wrap ((st.d:Int)-1) then (0:Int) else i64.wrap ((st.d:Int)-1))=((st.d-1:Nat):Int):=by rw[wrap64 (by omega) (by omega)];split<;>omega
  rw[hz];exact aPK (T.map bD) ⟨st.d-1,st.last,if st.fr then st.out else st.out ++ [10],true⟩ (by grind) _ _ rfl (by grind) hs k (by omega)
 grind [aC,aPK]
def fG (st:mX) (T:List Tok):mX:=T.foldl (fun st t=>jg st t.text) st
abbrev pF:mX:=⟨0,[],[],true⟩
theorem bK7 (T:List Tok) {k:Nat} (hk:k<T.length) (st:mX):fG st (T.take (k+1))=jg (fG st (T.take k)) (T[k]).text:=by grind [fG,List.take_succ_eq_append_getElem]
theorem bJE (T:List Tok) (hn:T.length<=900000) (hs:∀ t,t∈T->t.text.length<=1000) (hb:∀ k,k<=T.length->(fG pF (T.take k)).d<=100000/\(fG pF (T.take k)).out.length<=700000000):zC (T.map bD) 0 ⟨#[]⟩ 0 [] true=some (.tuple [.str (bs (Dy (fG pF T))),bT6 0],[]):=by
 refine oC (n:=T.length) (L:=fun k=>zC (T.map bD) ((fG pF (T.take k)).d:Int) (bs (fG pF (T.take k)).last) (k:Int) (fG pF (T.take k)).out (fG pF (T.take k)).fr) (fun k hk => ?_) ?_;grind [bK7,bJF]
 .have:=hb T.length (cu _);rw[yU (cu _)] at this ⊢;rw[aJF,aV (by rw[aX]; omega),aC];refine (Qi (Ri _ _ (by omega))).trans ?_;refine (aTY (s1:=bs (Dy (fG pF T))) (y2:=(mY (Dy (fG pF T)),())) (JH rfl)).trans rfl
def Kt (ss:List Nm) (t:Tok):Prop:=(∃ s,Gn s/\t=tW s)\/(∃ n,n<=65536/\t=tN n)\/(∃ s,s∈ss/\t=tS s)
def sP:List Nm := [[45],[40],[41],[33],[63],[58],[43],[42],[61,61],[33,61],[60],[60,61],[38,38],[124,124],[44],[46,46],[61],[58,61]]
def sA:List Nm := [59] :: [123] :: [125]::sP
abbrev Pl (T:List Tok):Prop:=∀ t,t∈T->Kt sP t
theorem aQR:∀ s,s∈sA->s∈jO:=by decide
theorem bLT:∀ s,s∈sP->s∈sA:=by decide
theorem aD5 {t:Tok} (h:Kt sP t):Kt sA t:=by
 rcases h with h | h | ⟨s,hs,e⟩
 .exact .inl h
 .exact .inr (.inl h)
 .exact .inr (.inr ⟨s,bLT s hs,e⟩)
theorem a2G {t:Tok} (h:Kt sA t):Tv t:=by
 rcases h with ⟨s,hs,rfl⟩ | ⟨n,hn,rfl⟩ | ⟨s,hs,rfl⟩
 .exact a1E hs
 .exact a1D hn
 grind [LZ,aQR]
theorem bC2 {s:Nm} (h:Gn s):s.length<=32:=by grind [nameB]
theorem aU8 {t:Tok} (h:Kt sA t):t.text.length<=32:=by
 rcases h with ⟨s,hs,rfl⟩ | ⟨n,hn,rfl⟩ | ⟨s,hs,rfl⟩
 .exact bC2 hs
 .exact mP (aF1 4 n (by omega)) (by decide)
 grind [aB8,aQR]
theorem aD6 {t:Tok} (h:Kt sP t):t.text ≠ [123]/\t.text ≠ [125]/\t.text ≠ [59]:=by
 rcases h with ⟨s,hs,rfl⟩ | ⟨n,hn,rfl⟩ | ⟨s,hs,rfl⟩
 .refine ⟨?_,?_,?_⟩<;>(intro e; have e:s=_:=e; subst e; revert hs; decide)
 .have ht:=(a1D hn).2.2.1;refine ⟨?_,?_,?_⟩<;>(intro e; rw[e] at ht; have hk:=(congrArg (fun c=>c.1) ht).trans (show (dN (tN n)).1=2 from rfl); revert hk; decide)
 .revert s; decide
theorem iy {ss:List Nm} {s:Nm} (h:Gn s):Kt ss (tW s) := .inl ⟨s,h,rfl⟩
theorem kY {ss:List Nm} {s:Nm} (h:s∈ss):Kt ss (tS s) := .inr (.inr ⟨s,h,rfl⟩)
theorem KG {v:Int} (h:R16 v):Pl (eY v):=by
 unfold eY;split
 .intro t ht;simp only[jV,yS,yZ] at ht;rcases ht with rfl | rfl
  .exact kY (by decide)
  .exact .inr (.inl ⟨_,by omega,rfl⟩)
 .intro t ht;simp only[uI] at ht;exact .inr (.inl ⟨_,by omega,ht⟩)
theorem lZ {A B:List Tok} (ha:Pl A) (hb:Pl B):Pl (A ++ B):=fun t ht=>(qQ.1 ht).elim (ha t) (hb t)
theorem eu {a:Tok} {B:List Tok} (ha:Kt sP a) (hb:Pl B):Pl (a::B):=fun t ht=>by grind
theorem mJ:Pl []:=fun t ht=>by cases ht
theorem Kv {x:EX} {need:Int} {B:List Tok} (h:Pl B):Pl (wp x need B):=by
 unfold wp;split
 .exact eu (kY (by decide)) (lZ h (eu (kY (by decide)) mJ))
 .exact h
theorem aR5 {o:Int} (h:o=2\/o=3\/o=4\/o=6\/o=7\/o=8\/o=9\/o=11\/o=12):uj o∈sP:=by rcases h with rfl | rfl | rfl | rfl | rfl | rfl | rfl | rfl | rfl<;>decide
theorem bJW {ns:List Nm} (hns:∀ s,s∈ns->Gn s) {x:EX} {B:List Tok} (h:PB ns x B):Pl B:=by
 induction h with
 | tt=>exact eu (iy (by decide)) mJ
 | ff=>exact eu (iy (by decide)) mJ
 | num h0 h1=>grind [KG]
 | var hs=>grind [iy]
 | KN h0 h1 _ ih=>exact eu (kY (by decide)) (eu (kY (by decide)) (lZ ih (eu (kY (by decide)) mJ)))
 | neg _ _ ih=>exact eu (kY (by decide)) (Kv ih)
 | yF _ ih=>exact eu (kY (by decide)) (Kv ih)
 | cmp ho _ _ _ _ iha ihb=>grind [Kv,kY,aR5]
 | bin ho _ _ iha ihb=>grind [Kv,kY,aR5]
 | ite _ _ _ OV iha ihb=>exact lZ (Kv OV) (eu (kY (by decide)) (lZ (Kv iha) (eu (kY (by decide)) (Kv ihb))))
theorem bJV {ns:List Nm} (hns:∀ s,s∈ns->Gn s) {x:EX} (h:wL ns.length x):Pl (wo ns x):=bJW hns (Xw h).1
theorem Ul {s:Tok} (hs:Kt sP s):∀ {l:List (List Tok)},(∀ T,T∈l->Pl T)->Pl (jM s l)
 | [],_=>mJ
 | [a],h=>h a (by simp)
 | a::b::l,h=>lZ (h a (by simp)) (eu hs (Ul hs fun T hT=>h T (by simp[hT])))
theorem a98 {l:List Nm} (h:∀ s,s∈l->Gn s):Pl (uV l):=eu (kY (by decide)) (lZ (Ul (kY (by decide)) fun T hT=>by grind [iy]) (eu (kY (by decide)) mJ))
inductive vF:List Tok->Prop
 | mk {X:List Tok}:Pl X->X ≠ []->vF (X ++ [tS [59]])
inductive Sts:List Tok->Prop
 | nil:Sts []
 | cons {X T:List Tok}:vF X->Sts T->Sts (X ++ T)
inductive rV:List Tok->Prop
 | nil:rV []
 | VD {X T:List Tok}:vF X->rV T->rV (X ++ T)
 | VH {X B T:List Tok}:Pl X->X ≠ []->Sts B->rV T->rV (X ++ [tS [123]] ++ B ++ [tS [125]] ++ T)
theorem aS9 {A B:List Tok} (ha:Sts A) (hb:Sts B):Sts (A ++ B):=by
 induction ha with
 | nil=>exact hb
 | cons h _ ih=>rw[mO]; exact .cons h ih
theorem LX {A B:List Tok} (ha:rV A) (hb:rV B):rV (A ++ B):=by
 induction ha with
 | nil=>exact hb
 | VD h _ ih=>rw[mO]; exact .VD h ih
 | VH h h2 h3 _ ih =>have:=rV.VH h h2 h3 ih;simp_all
theorem aB7 {α:Type} {f:α->List Tok}:∀ {l:List α},(∀ x,x∈l->vF (f x))->Sts (l.flatMap f)
 | [],_ => .nil
 | a::l,h=>by rw[CJ]; exact .cons (h a (by simp)) (aB7 fun x hx=>h x (by simp[hx]))
theorem LY {α:Type} {f:α->List Tok}:∀ {l:List α},(∀ x,x∈l->rV (f x))->rV (l.flatMap f)
 | [],_ => .nil
 | a::l,h=>by rw[CJ]; exact LX (h a (by simp)) (LY fun x hx=>h x (by simp[hx]))
theorem Q8 {X:List Tok} (h:vF X):rV X:=by have:=rV.VD h .nil;rwa [wH] at this
theorem Fe {X Y:List Tok} (e:Y=X ++ [tS [59]]) (h:Pl X) (h2:X ≠ []):vF Y:=e ▸ .mk h h2
theorem aS2 {e:kK} (h:Gn e.n) (h0:0<=e.k/\e.k<=4):vF (uN e):=by
 refine Fe rfl ?_ (by simp);refine lZ (lZ (lZ (lZ (eu (iy (by decide)) (eu (iy h) mJ)) ?_) ?_) ?_) ?_
 .split
  .exact eu (iy (by decide)) mJ
  grind
 .split
  .exact eu (iy (by decide)) mJ
  grind
 .split
  .exact eu (iy (by decide)) mJ
  grind
 .split;grind
  .exact eu (iy (by decide)) (KG ⟨by omega,by omega⟩)
theorem aS3 {I:Int} {mr:List Int} {i:Nat} {s:Nm} (h:Gn s):vF (BH I mr i s):=by
 refine Fe rfl ?_ (by simp);refine lZ (lZ (eu (iy (by decide)) (eu (iy h) mJ)) ?_) ?_
 .split
  .exact eu (iy (by decide)) mJ
  grind
 .split
  .exact eu (iy (by decide)) mJ
  grind
theorem aSA {I:Int} {mr:List Int}:∀ {l:List Nm} {i:Nat},(∀ s,s∈l->Gn s)->Sts (tK I mr i l)
 | [],_,_ => .nil
 | s::l,i,h => .cons (aS3 (h s (by simp))) (aSA fun s hs=>h s (by simp[hs]))
theorem aS5 {v:Vr} (h:Gn v.n/\R16 v.lo/\R16 v.hi/\R16 v.i):vF (sW v):=by refine Fe rfl ?_ (by simp);exact lZ (lZ (lZ (lZ (lZ (eu (iy (by decide)) (eu (iy h.1) (eu (kY (by decide)) mJ))) (KG h.2.1)) (eu (kY (by decide)) mJ)) (KG h.2.2.1)) (eu (kY (by decide)) mJ)) (KG h.2.2.2)
theorem Z7 {l:List Nm} (h:∀ s,s∈l->Gn s) {i:Int} (h0:0<=i) (h1:i<l.length):Gn (l.getD i.toNat []):=by grind
theorem aS4 {t:Tm} (hg:Gf t) {x:Mv} (h:a2A t x):vF (qp t x):=by
 have hv:∀ s,s∈t.vs.map (·.n)->Gn s:=fun s hs=>by obtain ⟨v,hv,rfl⟩:=qR.1 hs;exact (hg.vs v hv).1
 have hx:∀ {y:EX},wL t.vs.length y->Pl (wo (t.vs.map (·.n)) y):=fun hy=>bJV hv (by rw[Vo]; exact hy)
 refine Fe rfl ?_ (by simp);refine lZ (lZ (eu (iy (by decide)) (eu (iy (Z7 hg.ls h.f.1 h.f.2)) (eu (iy (Z7 hg.es h.e.1 h.e.2)) (eu (iy (Z7 hg.ls h.d.1 h.d.2)) mJ)))) ?_) ?_
 .split;grind
  .exact eu (iy (by decide)) (hx h.g)
 .split;grind
  .refine eu (iy (by decide)) (Ul (kY (by decide)) fun T hT => ?_);obtain ⟨u,hu,rfl⟩:=qR.1 hT;obtain ⟨⟨u0,u1⟩,u2⟩:=h.us u hu;exact lZ (eu (iy (Z7 hv u0 (by rw[Vo]; exact u1))) (eu (kY (by decide)) mJ)) (hx u2)
theorem bNO {t:Tm} (hn:Gn t.n) (hg:Gf t):rV (pI t):=by have hb:Sts (tK t.I t.mr 0 t.ls ++ t.vs.flatMap sW ++ t.ms.flatMap (qp t)):=aS9 (aS9 (aSA hg.ls) (aB7 fun v hv=>aS5 (hg.vs v hv))) (aB7 fun x hx=>aS4 hg (hg.ms x hx));have:=rV.VH (X := [tW [116,101,109,112,108,97,116,101],tW t.n] ++ uV t.es) (lZ (eu (iy (by decide)) (eu (iy hn) mJ)) (a98 hg.es)) (by simp) hb .nil;grind [pI]
theorem a0V {w:Nm} (hw:Gn w) {x:Ins} (h:Gn x.n/\Gn x.t/\∀ s,s∈x.es->Gn s):vF (inT w x):=by refine Fe rfl ?_ (by simp);exact lZ (eu (iy hw) (eu (iy h.1) (eu (kY (by decide)) (eu (iy h.2.1) mJ)))) (a98 h.2.2)
theorem aS6 {x:qG} (h:Gn x.n/\x.ls ≠ []/\∀ l,l∈x.ls->Gn l.1/\Gn l.2):vF (um x):=by refine Fe rfl ?_ (by simp);refine lZ (eu (iy (by decide)) (eu (iy h.1) (eu (kY (by decide)) mJ))) (Ul (kY (by decide)) fun T hT => ?_);grind [iy]
theorem aS1 {x:Cst} (h:Gn x.n/\x.ts ≠ []/\R16 x.b/\∀ l,l∈x.ts->Gn l.1/\R16 l.2):vF (su x):=by refine Fe rfl ?_ (by simp);refine lZ (lZ (lZ (eu (iy (by decide)) (eu (iy h.1) (eu (kY (by decide)) mJ))) (Ul (kY (by decide)) fun T hT => ?_)) (eu (kY (by decide)) mJ)) (KG h.2.2.1);obtain ⟨l,hl,rfl⟩:=qR.1 hT;have:=h.2.2.2 l hl;exact lZ (KG this.2) (eu (kY (by decide)) (eu (iy this.1) mJ))
theorem a1B {m:Mo} (hg:MW m):rV (lX m):=by unfold lX;refine LX (LX (LX (LX (LX (LX (Q8 ?_) (LY fun e he=>Q8 (aS2 (hg.es e he).1 (hg.es e he).2))) (LY fun t ht=>bNO (hg.ts t ht).1 (hg.ts t ht).2)) (LY fun x hx=>Q8 (a0V (by decide) (hg.is x (WH _ hx))))) (LY fun x hx=>Q8 (a0V (by decide) (hg.is x (WI _ hx))))) (LY fun x hx=>Q8 (aS6 (hg.xs x hx)))) (LY fun x hx=>Q8 (aS1 (hg.ks x hx)));exact Fe (X := [tW [109,111,100,101,108],tW m.n]) rfl (eu (iy (by decide)) (eu (iy hg.n) mJ)) (by simp)
def jw:List Tok->Nat
 | []=>0
 | t::T=>t.text.length+1+jw T
theorem nC:∀ A B:List Tok,jw (A ++ B)=jw A+jw B
 | [],B=>by rw[Ad,jw,qU]
 | a::A,B=>by rw[gu,jw,jw,nC A B]; omega
theorem U0:∀ T:List Tok,T ≠ []->(joinL T).length+1=jw T
 | [],h=>absurd rfl h
 | [t],_=>rfl
 | t::u::l,_=>by have:=U0 (u::l) (by simp);rw[joinL,aY,bP,jw,<- this]; omega
theorem ZL:∀ T:List Tok,T.length<=jw T
 | []=>cu _
 | t::T=>by have:=ZL T; rw[bP,jw]; omega
def phi (st:mX):Nat:=st.out.length+(if st.fr then 2 else 0)
theorem IZ (st:mX) (A B:List Tok):fG st (A ++ B)=fG (fG st A) B:=aC7
theorem a9D (st:mX) (s:Nm) (hd:st.d<=1):(ou st s).length<=phi st+s.length+(if st.fr then 0 else 1)/\st.out.length<=(ou st s).length:=by have hr:=aQ0 st.d;grind [ou,phi]
theorem aAL:∀ {X:List Tok} {st:mX},Pl X->st.d<=1->(fG st X).d=st.d/\phi (fG st X)<=phi st+jw X/\(X ≠ []->(fG st X).fr=false)
 | [],st,_,_=>⟨rfl,by show phi st<=_; omega,fun h=>absurd rfl h⟩
 | t::X,st,h,hd=>by
  obtain ⟨n1,n2,n3⟩:=aD6 (h t (by simp));have e:jg st t.text=⟨st.d,t.text,ou st t.text,false⟩:=by unfold jg qy pend;rw[aQ n2,aQ n1,aQ (by rintro (c | c); exact n2 c; exact n3 c)]
  have e2:fG st (t::X)=fG ⟨st.d,t.text,ou st t.text,false⟩ X:=by show fG (jg st t.text) X=_;rw[e]
  have hp:=(a9D st t.text hd).1;obtain ⟨r1,r2,r3⟩:=aAL (X:=X) (st:=⟨st.d,t.text,ou st t.text,false⟩) (fun u hu=>h u (by simp[hu])) hd;rw[e2];refine ⟨r1,?_,fun _ => ?_⟩
  .have hq:phi ⟨st.d,t.text,ou st t.text,false⟩=(ou st t.text).length:=by unfold phi; simp
   rw[hq] at r2;rw[jw];cases hf:st.fr<;>rw[hf] at hp<;>simp at hp<;>omega
  .by_cases hX:X = []
   .subst hX; rfl
   .exact r3 hX
theorem bLG {st:mX} (hd:st.d<=1):(jg st [59]).d=st.d/\phi (jg st [59])<=phi st+4/\(jg st [59]).fr=true:=by have hp:=(a9D st [59] hd).1;grind [jg,ou,qy,pend,phi]
theorem aQK {T:List Tok} (h:vF T) {st:mX} (hd:st.d<=1):(fG st T).d=st.d/\phi (fG st T)<=phi st+2*jw T/\(fG st T).fr=true:=by
 cases h with
 | @mk X hX hne =>grind [aAL,bLG,fG,IZ,jw,nC]
theorem bLH {T:List Tok} (h:Sts T):∀ {st:mX},st.d<=1->st.fr=true->(fG st T).d=st.d/\phi (fG st T)<=phi st+2*jw T/\(fG st T).fr=true:=by
 induction h with
 | nil=>intro st _ hf; exact ⟨rfl,by show phi st<=_; omega,hf⟩
 | cons hX _ ih =>grind [aQK,IZ,nC]
theorem aQL {T:List Tok} (h:rV T):∀ {st:mX},st.d=0->st.fr=true->(fG st T).d=0/\phi (fG st T)<=phi st+2*jw T/\(fG st T).fr=true:=by
 induction h with
 | nil=>intro st hd hf; exact ⟨hd,by show phi st<=_; omega,hf⟩
 | VD hX _ ih =>grind [aQK,IZ,nC]
 | @VH X B T hX hne hB _ ih =>
  intro st hd hf;obtain ⟨r1,r2,r3⟩:=aAL (st:=st) hX (by omega);have r3:=r3 hne;have p1:=(a9D (fG st X) [123] (by omega)).1;have e1:jg (fG st X) [123]=⟨1,[123],ou (fG st X) [123] ++ [10],true⟩:=by grind [jg,qy,pend]
  have f1:phi (jg (fG st X) [123])<=phi (fG st X)+5:=by rw[e1];grind [phi]
  obtain ⟨b1,b2,b3⟩:=bLH hB (st:=jg (fG st X) [123]) (by rw[e1]; simp) (by rw[e1]);generalize hS:fG (jg (fG st X) [123]) B=S at b1 b2 b3;have hS1:S.d=1:=by rw[b1,e1]
  have e2:jg S [125]=⟨0,[125],S.out ++ [125] ++ [10],true⟩:=by
   have hp:qy S [125]=⟨0,S.last,S.out,true⟩:=by grind [qy]
   grind [jg,pend,ou,Lib.repeatL]
  have f2:phi (jg S [125])<=phi S+2:=by rw[e2];grind [phi]
  obtain ⟨s1,s2,s3⟩:=ih (st:=jg S [125]) (by rw[e2]) (by rw[e2]);have e:fG st (X ++ [tS [123]] ++ B ++ [tS [125]] ++ T)=fG (jg S [125]) T:=by rw[IZ,IZ,IZ,IZ];show fG (jg (fG (jg (fG st X) [123]) B) [125]) T=_;rw[hS]
  have hj:jw (X ++ [tS [123]] ++ B ++ [tS [125]] ++ T)=jw X+2+jw B+2+jw T:=by rw[nC,nC,nC,nC]; rfl
  rw[e,hj];exact ⟨s1,by omega,s3⟩
theorem bMV (st:mX) (s:Nm):st.out.length<=(jg st s).out.length/\(jg st s).d<=st.d+1:=by
 have h1:st.out.length<=(qy st s).out.length/\(qy st s).d<=st.d:=by
  unfold qy;split
  .refine ⟨?_,by show st.d-1<=_; omega⟩;show _<=(if st.fr then st.out else st.out ++ [10]).length;split
   .omega
   .rw[aY]; omega
  .exact ⟨cu _,cu _⟩
 have h2:(qy st s).out.length<=(ou (qy st s) s).length:=by
  unfold ou;split
  .rw[aY,aY]; omega
  .rw[aY];split
   .omega
   .rw[aY]; omega
 unfold jg pend;split
 .exact ⟨by rw[aY]; omega,by show (qy st s).d+1<=_; omega⟩
 .split
  .exact ⟨by rw[aY]; omega,by show (qy st s).d<=_; omega⟩
  .exact ⟨by show _<=(ou (qy st s) s).length; omega,by show (qy st s).d<=_; omega⟩
theorem aAK:∀ (T:List Tok) (st:mX),st.out.length<=(fG st T).out.length/\(fG st T).d<=st.d+T.length
 | [],st=>⟨cu _,cu _⟩
 | t::T,st=>by have h1:=bMV st t.text;have h2:=aAK T (jg st t.text);show st.out.length<=(fG (jg st t.text) T).out.length/\(fG (jg st t.text) T).d<=st.d+(T.length+1);omega
theorem bDY {T:List Tok} (hne:T ≠ []) (ht:∀ t,t∈T->Tv t) (hl:(joinL T).length<=65536):SS.CC 114 [.sl false 5 (T.map bD)] []=some (.tuple [.str (bs (joinL T)),bT6 0],[]):=by
 have hn:T.length<=65537:=by have:=ZL T; have:=U0 T hne; omega
 obtain ⟨T',e,h1,h2,h3⟩:=bLZ hne ht hl;have hk:∀ t,t∈T->t.kind≠4:=fun t h=>(ht t h).2.2.2
 have hk':=aEZ h2 hk;have hl':T'.length=T.length:=by have:=congrArg List.length h2; simpa using this
 have OT:SS.CC 99 [.str (bs (joinL T))] []=some (.tuple [.sl false 5 ((T' ++ [e]).map bD),bT6 0,bT6 0,bT6 0],[]):=by
  have:SS.CC 99 [.str (bs (joinL T))] []=some (Fa (uC (joinL T)),[]):=by rw[MO dO]; rfl
  rw[this,h1]; rfl
 have hb:vH (T' ++ [e])=T':=by rw[aE5,RJ hk',a2V h3]; simp[vH]
 rw[a'R,Qc (m32 T (by omega)),RJ hk];have:=aLK T (by omega) T.length 0 (by omega);rw[show ((0:Nat):Int)=0 from rfl,List.take_zero,List.map_nil] at this;rw[this,aGO,aV (by rw[aX]; omega),aC,wJ (sjc T (by omega) (by omega)),a1Z OT];dsimp only;rw[zn rfl,aC,Qc (m32 (T' ++ [e]) (by rw[aY,rH]; omega)),hb,bV (aYH T T' (by omega) h2)];rfl
theorem bK6 {T:List Tok} (hne:T ≠ []) (ht:∀ t,t∈T->Kt sA t) (hT:rV T) (hl:(joinL T).length<=30000):SS.CC 58 [.sl false 5 (T.map bD)] []=some (.tuple [.str (bs (Dy (fG pF T))),bT6 0],[])/\(Dy (fG pF T)).length<=65536:=by
 have hj:=U0 T hne;have hn:=ZL T;obtain ⟨r1,r2,r3⟩:=aQL hT (st:=pF) rfl rfl;have bD1:phi pF=2:=rfl;have ho:(fG pF T).out.length<=65536:=by unfold phi at r2; rw[r3] at r2; simp at r2; omega
 have hk:∀ t,t∈T->t.kind≠4:=fun t h=>(a2G (ht t h)).2.2.2
 have hb:vH T=T:=RJ hk;refine ⟨?_,by unfold Dy; rw[r3]; exact ho⟩;rw[b9L,WS (bDY hne (fun t h=>a2G (ht t h)) (by omega))];dsimp only;rw[zn rfl,aC,Qc (m32 T (by omega)),hb];refine bJE T (by omega) (fun t h=>mP (aU8 (ht t h)) (by decide)) fun k hk => ?_
 have m1:=aAK (T.take k) pF;have m2:=aAK (T.drop k) (fG pF (T.take k));rw[<- IZ,WL] at m2;have:(T.take k).length<=T.length:=by rw[wI]; omega
 have hd0:pF.d=0:=rfl;exact ⟨by omega,by omega⟩
theorem aM5 {T:List Tok} (h:vF T):∀ t,t∈T->Kt sA t:=by
 cases h with
 | mk hX _ =>
  intro t ht;rcases qQ.1 ht with ht | ht
  .exact aD5 (hX t ht)
  .rw[uI] at ht; rw[ht]; exact kY (by decide)
theorem bFA {T:List Tok} (h:Sts T):∀ t,t∈T->Kt sA t:=by
 induction h with
 | nil=>intro t ht; cases ht
 | cons hX _ ih =>
  intro t ht;rcases qQ.1 ht with ht | ht
  .exact aM5 hX t ht
  .exact ih t ht
theorem aM6 {T:List Tok} (h:rV T):∀ t,t∈T->Kt sA t:=by
 induction h with
 | nil=>intro t ht; cases ht
 | VD hX _ ih =>
  intro t ht;rcases qQ.1 ht with ht | ht
  .exact aM5 hX t ht
  .exact ih t ht
 | VH hX _ hB _ ih =>
  intro t ht;simp only[qQ,uI] at ht;rcases ht with (((ht | ht) | ht) | ht) | ht
  .exact aD5 (hX t ht)
  .rw[ht]; exact kY (by decide)
  .exact bFA hB t ht
  .rw[ht]; exact kY (by decide)
  .exact ih t ht
theorem a8C (m:Mo):lX m ≠ []:=by unfold lX; simp
def uD (m:Mo):Nm:=Dy (fG pF (lX m))
theorem bGL {m:Mo} (hl:(joinL (lX m)).length<=30000):(lX m).length<=30001:=by have:=ZL (lX m); have:=U0 (lX m) (a8C m); omega
theorem aPR {m:Mo} (ho:qX m) (h2:m.cs.length+m.rs.length<=1000) (hc:Ej m=0) (hl:(joinL (lX m)).length<=30000):SS.CC 17 [A0 (aW m)] []=some (.tuple [.str (bs (uD m)),bT6 0],[]):=by have hg:=TK ho hc;have hn:=bGL hl;have ht:=aM6 (a1B hg);have hp:=bK6 (a8C m) ht (a1B hg) hl;have c57:=aWK m ho hg (by omega);rw[b1O,eP (aEW m ho h2),hc,zn rfl,aC];refine (bM c57).trans ?_;rw[WS hp.1];dsimp only;rw[zn rfl,aC,jy,aV (by have:=hp.2; omega),aC];rfl
def Rd (u:List UInt8) (T:List Tok):Prop:=∀ (i line start:Nat) (acc:List Tok),∃ us e,ve false u i line start acc = .ok (acc ++ us ++ [e])/\us.map dN=T.map dN/\e.kind=4
def NH (u:List UInt8) (T:List Tok):Prop:=∀ (i line start:Nat) (acc:List Tok),∃ us e,ve true u i line start acc = .ok (acc ++ us ++ [e])/\us.map dN=T.map dN/\e.kind=4
section
variable {u:List UInt8} {T:List Tok} {b:UInt8} {t:Tok}
theorem aPV:Rd [] []:=fun i line start acc=>⟨[],_,by rw[QY,wH],rfl,rfl⟩
theorem E5 (hb:y7 b.toNat=true) (h:Rd u T):Rd (b::u) T:=fun i line start acc=>by rw[C_step (c':=false) (by rw[iH,aS hb])];exact h _ _ _ _
theorem bKE:NH [] []:=fun i line start acc=>⟨[],_,by rw[QY,wH],rfl,rfl⟩
theorem aA1:∀ {x:List UInt8},(10:UInt8)∉x->NH u T->NH (x ++ u) T
 | [],_,h=>h
 | b::x,hx,h=>fun i line start acc=>by rw[gu,C_step (c':=true) (by rw[iH,aQ (fun c=>hx (by simp[c]))])];exact aA1 (fun c=>hx (by simp[c])) h _ _ _ _
theorem aPU (h:NH u T):Rd (47::47::u) T:=fun i line start acc=>by rw[C_step (c':=true) (by rw[iH]; rfl),C_step (c':=true) (by rw[iH]; rfl)];exact h _ _ _ _
theorem bKH (ht:Tv t) (hs:bW (t.text ++ u)=bW t.text) (h:Rd u T):Rd (t.text ++ u) (t::T):=fun i line start acc=>by
 obtain ⟨h1,h2,h3,_⟩:=ht;match hx:t.text,h1 with
 | b::r,_ =>
  rw[hx] at h2 h3 hs;have e3:(bW (b::r)).1.text=b::r:=by have:=congrArg (fun c=>c.2.1) h3;simp_all
  rw[gu] at hs ⊢;rw[a1X (a0P h2 _),hs,aS h2,e3,<- gu,List.drop_left];obtain ⟨us,e,w1,w2,w3⟩:=h (i+(b::r).length) line start (acc ++ [(bW (b::r)).1.at (line:Nat) ((i-start+1:Nat):Int)]);refine ⟨(bW (b::r)).1.at (line:Nat) ((i-start+1:Nat):Int)::us,e,by rw[w1]; simp,?_,w3⟩;rw[oN,oN,w2];exact congrArg (· :: _) h3
end
theorem bN7 {x:UInt8} (hx:∀ y∈jO,y ≠ []/\∀ c∈y.tail,c≠x) (u:List UInt8) (b:UInt8) (l:List UInt8):AU ((b::l) ++ x::u)=AU (b::l):=by
 unfold AU;refine find_congr fun y hy => ?_
 obtain ⟨h0,h1⟩:=hx y hy;match y,h0,h1 with
 | a::y',_,h1=>grind [a99]
theorem aPW {x:UInt8} (h1:nR x.toNat=false) (hx:∀ y∈jO,y ≠ []/\∀ c∈y.tail,c≠x) (u:List UInt8) {l:List UInt8} (hl:l ≠ []):bW (l ++ x::u)=bW l:=by
 match l,hl with
 | b::r,_ =>
 grind [nR,aAM,bN7,bW,BR,C9,EI]
abbrev stB:List UInt8 := [32,10,44,59,41]
theorem bMX {t:Tok} (ht:Tv t) {b:UInt8} (hb:b∈stB) (u:List UInt8):bW (t.text ++ b::u)=bW t.text:=by
 have h1:∀ b,b∈stB->nR b.toNat=false:=by decide
 have h2:∀ b,b∈stB->∀ y∈jO,y ≠ []/\∀ c∈y.tail,c≠b:=by decide
 exact aPW (h1 b hb) (h2 b hb) u ht.1
theorem bMY (u:List UInt8):bW ([40] ++ u)=bW [40]:=rfl
theorem bNT {t:Tok} (ht:Tv t):(10:UInt8)∉t.text:=fun hm=>by
 obtain ⟨l1,l2,e⟩:=List.append_of_mem hm;obtain ⟨h1,h2,h3,_⟩:=ht;have htx:(bW t.text).1.text=t.text:=congrArg (fun c=>c.2.1) h3;match l1,e with
 | [],e =>rw[Ad] at e;rw[e] at h2;have:=a0P h2 l2;rw[iH] at this;simp[y7] at this
 | b::r,e =>
  have hr:bW t.text=bW (b::r):=by rw[e];exact aPW (by decide) (by decide) l2 (by simp)
  rw[hr] at h2 htx;have:=(Uu h2).2;rw[htx,e] at this;grind
def Opn (cur:Nm) (T2:List Tok) (op:Bool):Prop:=∀ u T',Rd u T'->(u = []\/(∃ b r,u=b::r/\b∈stB)\/op=true)->Rd (cur ++ u) (T2 ++ T')
theorem aA4 {t:Tok} (ht:Tv t) {u:Nm} {T':List Tok} (h:Rd u T') (hu:u = []\/(∃ b r,u=b::r/\b∈stB)\/decide (t.text = [40])=true):Rd (t.text ++ u) (t::T'):=by grind [bKH,bMX,bMY]
theorem aP1 {t:Tok} (ht:Tv t):∀ (k:Nat),Opn (Lib.repeatL [32,32] k ++ t.text) [t] (decide (t.text = [40]))
 | 0=>fun u T' h hu=>by show Rd (t.text ++ u) (t::T');exact aA4 ht h hu
 | k+1=>fun u T' h hu=>by have:=aP1 ht k u T' h hu;show Rd (32::32::(Lib.repeatL [32,32] k ++ t.text) ++ u) ([t] ++ T');exact E5 rfl (E5 rfl this)
theorem bHQ {cur:Nm} {T2:List Tok} {op:Bool} (h:Opn cur T2 op) {t:Tok} (ht:Tv t):Opn (cur ++ [32] ++ t.text) (T2 ++ [t]) (decide (t.text = [40]))/\((t.text = [44]\/t.text = [59]\/t.text = [41]\/op=true)->Opn (cur ++ t.text) (T2 ++ [t]) (decide (t.text = [40]))):=by
 refine ⟨fun u T' hr hu => ?_,fun hc u T' hr hu => ?_⟩
 .have:=h (32::(t.text ++ u)) (t::T') (E5 rfl (aA4 ht hr hu)) (.inr (.inl ⟨32,_,rfl,by decide⟩));simp_all
 .have hh:t.text ++ u = []\/(∃ b r,t.text ++ u=b::r/\b∈stB)\/op=true:=by grind
  have:=h (t.text ++ u) (t::T') (aA4 ht hr hu) hh;simp_all
def NC (p:Nm×List Tok):Prop:=(10:UInt8)∉p.1/\∀ u T',Rd u T'->(u = []\/∃ b r,u=b::r/\(b=32\/b=10))->Rd (p.1 ++ u) (p.2 ++ T')
abbrev nS (Ls:List (Nm×List Tok)):Nm:=Ls.flatMap fun p=>p.1 ++ [10]
structure PI (st:mX) (Ls:List (Nm×List Tok)) (cur:Nm) (T2:List Tok):Prop where
 out:st.out=nS Ls ++ cur
 ls:∀ p,p∈Ls->NC p
 fr:st.fr=true->cur = []/\T2 = []
 op:st.fr=false->Opn cur T2 (decide (st.last = [40]))/\(10:UInt8)∉cur
theorem a7T {cur:Nm} {T2:List Tok} {op:Bool} (h:Opn cur T2 op) (h10:(10:UInt8)∉cur):NC (cur,T2):=⟨h10,fun u T' hr hu=>h u T' hr (by grind)⟩
theorem UL (A B:List (Nm×List Tok)):nS (A ++ B)=nS A ++ nS B:=aC6
theorem bKP (k:Nat):(10:UInt8)∉Lib.repeatL ([32,32]:List UInt8) k:=by
 induction k with
 | zero=>exact fun h=>by cases h
 | succ k ih =>grind [Lib.repeatL]
def bk (t:Tok):Nat:=if t.text = [123]\/t.text = [125]\/t.text = [59] then 2 else 0
def oU (T:List Tok):Nat:=(T.map bk).sum
theorem bJU {st:mX} {Ls:List (Nm×List Tok)} {cur:Nm} {T2:List Tok} (h:PI st Ls cur T2) {t:Tok} (ht:Tv t) :
 ∃ Ai cur' T2',PI (jg st t.text) Ai cur' T2'/\Ai.flatMap (·.2) ++ T2'=Ls.flatMap (·.2) ++ T2 ++ [t]/\Ai.length<=Ls.length+bk t:=by
 have hcl:∃ JM Xb T1,PI (qy st t.text) JM Xb T1/\JM.flatMap (·.2) ++ T1=Ls.flatMap (·.2) ++ T2/\JM.length<=Ls.length+(if t.text = [125] then 1 else 0):=by
  unfold qy;by_cases c:t.text = [125]
  .rw[aS c];cases hf:st.fr with
   | true =>obtain ⟨e1,e2⟩:=h.fr hf;exact ⟨Ls,cur,T2,⟨by simpa using h.out,h.ls,fun _=>⟨e1,e2⟩,fun c=>by cases c⟩,rfl,by omega⟩
   | false =>
    obtain ⟨o1,o2⟩:=h.op hf;refine ⟨Ls ++ [(cur,T2)],[],[],⟨?_,fun p hp => ?_,fun _=>⟨rfl,rfl⟩,fun c=>by cases c⟩,by simp,by rw[aS c,aY]; simp⟩
    .show st.out ++ [10]=_;rw[h.out,UL,wH];simp[nS]
    .rcases qQ.1 hp with hp | hp
     .exact h.ls p hp
     grind [a7T]
  grind
 obtain ⟨JM,Xb,T1,h1,e1,n1⟩:=hcl;generalize hs1:qy st t.text=s1 at h1;have h10:=bNT ht;have hput:∃ cur',ou s1 t.text=nS JM ++ cur'/\Opn cur' (T1 ++ [t]) (decide (t.text = [40]))/\(10:UInt8)∉cur':=by
  unfold ou;cases hf:s1.fr with
  | true =>obtain ⟨rfl,rfl⟩:=h1.fr hf;refine ⟨Lib.repeatL [32,32] s1.d ++ t.text,by rw[aS rfl,h1.out]; simp,aP1 ht _,fun hm => ?_⟩;grind [bKP]
  | false =>
   obtain ⟨o1,o2⟩:=h1.op hf;obtain ⟨a1,a2⟩:=bHQ o1 ht;rw[aQ (by decide)];by_cases c:t.text = [44]\/t.text = [59]\/t.text = [41]\/s1.last = [40]
   .rw[aS c];refine ⟨Xb ++ t.text,by rw[h1.out]; simp,a2 (by grind),fun hm => ?_⟩;simp_all
   .rw[aQ c];refine ⟨Xb ++ [32] ++ t.text,by rw[h1.out]; simp,a1,fun hm => ?_⟩;simp_all
 obtain ⟨cur',p1,p2,p3⟩:=hput;have done:∀ (d:Nat),∃ Ai aXS T2',PI ⟨d,t.text,ou s1 t.text ++ [10],true⟩ Ai aXS T2'/\Ai.flatMap (·.2) ++ T2'=Ls.flatMap (·.2) ++ T2 ++ [t]/\Ai.length<=Ls.length+(if t.text = [125] then 1 else 0)+1:=fun d=>by
  refine ⟨JM ++ [(cur',T1 ++ [t])],[],[],⟨?_,fun p hp => ?_,fun _=>⟨rfl,rfl⟩,fun c=>by cases c⟩,?_,by rw[aY,rH]; omega⟩;simp_all
  .rcases qQ.1 hp with hp | hp
   .exact h1.ls p hp
   grind [a7T]
  grind
 unfold jg;rw[hs1];unfold pend;by_cases c1:t.text = [123]
 .rw[aS c1];obtain ⟨a,b,c,d1,d2,d3⟩:=done (s1.d+1);grind [bk]
 .rw[aQ c1];by_cases c2:t.text = [125]\/t.text = [59]
  .rw[aS c2];obtain ⟨a,b,c,d1,d2,d3⟩:=done s1.d;grind [bk]
  .rw[aQ c2];exact ⟨JM,cur',T1 ++ [t],⟨p1,h1.ls,fun c=>(by cases c),fun _=>⟨p2,p3⟩⟩,by rw[<- e1]; simp,by rw[aQ (fun c=>c2 (.inl c))] at n1; omega⟩
theorem aPL:∀ (T:List Tok) {st:mX} {Ls:List (Nm×List Tok)} {cur:Nm} {T2:List Tok},PI st Ls cur T2->(∀ t,t∈T->Tv t)->∃ Ai cur' T2',PI (fG st T) Ai cur' T2'/\Ai.flatMap (·.2) ++ T2'=Ls.flatMap (·.2) ++ T2 ++ T/\Ai.length<=Ls.length+oU T
 | [],st,Ls,cur,T2,h,_=>⟨Ls,cur,T2,h,by simp,cu _⟩
 | t::T,st,Ls,cur,T2,h,ht=>by
  obtain ⟨L1,c1,T1,h1,e1,n1⟩:=bJU h (ht t (by simp));obtain ⟨L2,c2,T3,h2,e2,n2⟩:=aPL T h1 fun x hx=>ht x (by simp[hx])
  exact ⟨L2,c2,T3,h2,by rw[e2,e1]; simp,by grind [oU]⟩
theorem bNU {T:List Tok} (ht:∀ t,t∈T->Tv t):∃ Ls,Dy (fG pF T)=nS Ls/\(∀ p,p∈Ls->NC p)/\Ls.flatMap (·.2)=T/\Ls.length<=oU T+1:=by
 obtain ⟨Ls,cur,T2,h,e,n⟩:=aPL T (st:=pF) (Ls := []) (cur := []) (T2 := []) ⟨rfl,fun _ h=>(by cases h),fun _=>⟨rfl,rfl⟩,fun c=>(by cases c)⟩ ht;have e:Ls.flatMap (·.2) ++ T2=T:=by grind
 have n:Ls.length<=oU T:=by grind
 unfold Dy;cases hf:(fG pF T).fr with
 | true =>obtain ⟨rfl,rfl⟩:=h.fr hf;exact ⟨Ls,by rw[aS rfl,h.out,wH],h.ls,by grind,by omega⟩
 | false =>
  obtain ⟨o1,o2⟩:=h.op hf;refine ⟨Ls ++ [(cur,T2)],?_,fun p hp => ?_,by grind,by rw[aY,rH]; omega⟩
  .rw[aQ (by decide),h.out,UL]; simp[nS]
  .rcases qQ.1 hp with hp | hp
   .exact h.ls p hp
   grind [a7T]
def Wh (p:Nm×List Tok):Prop:=(10:UInt8)∉p.1/\∀ u T',Rd u T'->(u = []\/∃ r,u=10::r)->Rd (p.1 ++ u) (p.2 ++ T')
theorem aNH {p:Nm×List Tok} (h:NC p):Wh p:=⟨h.1,fun u T' hr hu=>h.2 u T' hr (by grind)⟩
theorem bFT {l:Nm} {T:List Tok} (h:NC (l,T)) {d:Nm} (hd:(10:UInt8)∉d):Wh (9::(l ++ ([32,32,47,47,32] ++ d)),T):=by
 refine ⟨fun hm => ?_,fun u T' hr hu => ?_⟩
 .simp only[jV,qQ] at hm;rcases hm with hm | hm | hm | hm
  .cases hm
  .exact h.1 hm
  simp_all;grind
 .have hc:NH (32::(d ++ u)) T':=by
   have hx:(10:UInt8)∉(32:UInt8)::d:=fun c=>by simp_all
   have hb:NH u T':=by
    rcases hu with rfl | ⟨r,rfl⟩
    .intro i line start acc;obtain ⟨us,e,w1,w2,w3⟩:=hr i line start acc;rw[QY] at w1;grind [QY]
    .intro i line start acc;obtain ⟨us,e,w1,w2,w3⟩:=hr i line start acc;refine ⟨us,e,?_,w2,w3⟩;rw[<- w1,C_step (c:=true) (c':=false) (by rw[iH,aS rfl]),C_step (c:=false) (c':=false) (by rw[iH]; rfl)]
   grind [aA1]
  have h2:=h.2 (32::32::47::47::32::(d ++ u)) T' (E5 rfl (E5 rfl (aPU hc))) (.inr ⟨32,_,rfl,.inl rfl⟩);show Rd (9::(l ++ ([32,32,47,47,32] ++ d)) ++ u) (T ++ T');have e:(9::(l ++ ([32,32,47,47,32] ++ d)) ++ u:Nm)=9::(l ++ (32::32::47::47::32::(d ++ u))):=by simp
  rw[e];exact E5 rfl h2
theorem aA3 {z:Nm} (hz:Rd z []) (hz2:z = []\/True):∀ (Ls:List (Nm×List Tok)),(∀ p,p∈Ls->Wh p)->Rd (nS Ls ++ z) (Ls.flatMap (·.2))
 | [],_=>hz
 | p::Ls,h=>by
  have ih:=aA3 hz hz2 Ls fun q hq=>h q (by simp[hq])
  have:=(h p (by simp)).2 (10::(nS Ls ++ z)) _ (E5 rfl ih) (.inr ⟨_,rfl⟩);simp_all
theorem bKG {u:Nm} {T:List Tok} (h:Rd u T) (hl:u.length<=65536):∃ us e,uC u = .ok (us ++ [e])/\us.map dN=T.map dN/\e.kind=4:=by obtain ⟨us,e,w1,w2,w3⟩:=h 0 1 0 [];refine ⟨us,e,?_,w2,w3⟩;unfold uC;rw[aQ (by omega)];exact w1
theorem BL {Z ρ:Type} {L:Nat->Z->ρ} {E:Z->ρ} {P:Nat->Z->Prop} {n:Nat} (hs:∀ k a,k<n->P k a->∃ a',L k a=L (k+1) a'/\P (k+1) a') (he:∀ a,P n a->L n a=E a) (a:Z) (h0:P 0 a):∃ b,L 0 a=E b/\P n b:=by
 have:∀ (m k:Nat) (a:Z),k+m=n->P k a->∃ b,L k a=E b/\P n b:=by
  intro m;induction m with
  | zero=>grind
  | succ m ih =>grind
 simp_all
theorem zH (t:Tok) (B:List Tok):jw (t::B)=t.text.length+1+jw B:=by rw[jw]
theorem y9:jw []=0:=rfl
theorem aLO:∀ T:List Tok,(joinL T).length<=jw T
 | []=>by simp[joinL]
 | [t]=>by rw[joinL,jw,jw]; omega
 | t::u::l=>by have:=aLO (u::l);rw[joinL,zH,aY,bP];omega
theorem F8 {α:Type} (f:α->List Tok) (b:Nat):∀ l:List α,(∀ a,a∈l->jw (f a)<=b)->jw (l.flatMap f)<=l.length*b
 | [],_=>by simp[y9]
 | a::l,h=>by
  have h1:=h a (by simp);have h2:=F8 f b l fun x hx=>h x (by simp[hx])
  rw[CJ,nC,bP,nM];omega
theorem U1 (s:Tok) (b:Nat):∀ L:List (List Tok),(∀ a,a∈L->jw a+s.text.length+1<=b)->jw (jM s L)<=L.length*b
 | [],_=>by simp[jM,y9]
 | [a],h=>by have:=h a (by simp); simp[jM]; omega
 | a::c::l,h=>by
  have h1:=h a (by simp);have h2:=U1 s b (c::l) fun x hx=>h x (by simp[hx])
  rw[jM,nC,zH,bP,nM];omega
theorem UZ {v:Int} (h0 : -999<=v) (h1:v<=999):jw (eY v)<=6:=by grind [Lib.decDigits,eY,zH,y9]
theorem Vs (x:EX) (need:Int) (B:List Tok):jw (wp x need B)<=jw B+4:=by grind [wp,zH,nC,y9]
theorem bPM (x:EX) (B:List Tok):jw (wp x 0 B)=jw B:=by have:=a81 x;grind [wp]
theorem aR6 (o:Int):(uj o).length<=2:=by grind [uj]
theorem bJQ {ns:List Nm} (hns:∀ s,s∈ns->s.length<=2) {x:EX} {B:List Tok} (h:PB ns x B):∀ {nv k:Int},Ty nv k x->jw B<=12*fH x:=by
 induction h with
 | tt=>intro nv k _; show 5<=12*3; decide
 | ff=>intro nv k _; show 6<=12*3; decide
 | @num v _ _ =>
  intro nv k ht;have hv : -8<=v/\v<=23:=by
   generalize hx:nE v=x at ht;cases ht with
   | Em h1 h2=>grind [nE]
   | var _ _=>grind [nE,vE]
   | neg _=>grind [nE]
   | yF _=>grind [nE]
   | ar h1 h2 _ _=>grind [nE]
   | cmp h1 h2 _ _=>grind [nE]
   | log h1 h2 _ _=>grind [nE]
   | ite _ _ _=>grind [nE]
  have:=UZ (v:=v) (by omega) (by omega);show _<=12*1;omega
 | @var i s hs =>intro nv k _;have:=hns s (nK hs);rw[zH,y9];show s.length+1+0<=12*1;omega
 | @KN v h0 h1 hp ih =>
  intro nv k ht;have ha:Ty nv 1 (nE v):=by
   generalize hx:kw 5 (nE v)=x at ht;cases ht with
   | Em h1 h2=>grind [nE]
   | var _ _=>grind [vE]
   | neg h=>simp_all
   | yF _=>simp_all
   | ar h1 h2 _ _=>simp_all
   | cmp h1 h2 _ _=>simp_all
   | log h1 h2 _ _=>simp_all
   | ite _ _ _=>simp_all
  have:=ih ha;have e:fH (nE v)=1:=rfl;rw[e] at this;rw[zH,zH,nC,zH,y9];show 1+1+(1+1+(_+(1+1+0)))<=12*2;omega
 | @neg o v i l B hc hp ih =>grind [Ty,nE,vE,Vs,fH,sU,zH]
 | @yF a B hp ih =>grind [Ty,nE,vE,Vs,fH,sU,zH]
 | @cmp o a b A B ho _ _ hpa hpb ia ib =>grind [Ty,nE,vE,Vs,fH,sU,aR6,nC,zH]
 | @bin o lv a b A B ho hpa hpb ia ib =>grind [Ty,nE,vE,Vs,fH,sU,aR6,nC,zH]
 | @ite c a b C A B hpc hpa hpb ic ia ib =>grind [Ty,nE,vE,Vs,fH,sU,nC,zH,bPM]
theorem RX (x:R):chk true x=x:=au rfl
abbrev U8 (n:Int):Prop:=0<=n/\n<=255
abbrev I8 (n:Int):Prop := -128<=n/\n<=127
structure WQ (e:kK):Prop where
 k:0<=e.k/\e.k<=4
 f:e.k≠0->e.c=false/\e.o=false
theorem Rn (x1:Sh.V Qr) (acc:List kK) (ha:acc.length<=100) (j:Int) (c:UInt8) (n:Int) (hn:U8 n) (hj:j<5)
 (hb:rX ([.int .u8 (IntKind.u8.wrap (97+(IntKind.u8.wrap j)))]:bTA)=true) (hs:strOf ([.int .u8 (IntKind.u8.wrap (97+(IntKind.u8.wrap j)))]:bTA)=bs [c])
 (hl:∀ K,eH [.int .u8 x1.1,.int .u8 x1.2.1,.int .u8 x1.2.2.1,.int .u8 x1.2.2.2.1,.int .u8 x1.2.2.2.2.1] j K=K (.int .u8 n)) :
 ∃ e:kK,e.n = [c]/\WQ e/\Jj x1 (acc.map yH) j=Jj x1 ((acc ++ [e]).map yH) (i64.wrap (j+1)):=by
 have hla:(acc.map yH).length+1<=bC:=by rw[aX]; show _<=1073741824; omega
 rw[aGQ];simp only[aO hj,aH,au hb,au (aO hj),hl,wE,hs,au (aO hla)];by_cases h1:48<=n
 .rw[aO h1,aH];by_cases h2:n<52
  .rw[aO h2,aH];refine ⟨⟨[c],false,false,false,n-47⟩,rfl,⟨⟨by grind,by grind⟩,fun _=>⟨rfl,rfl⟩⟩,?_⟩;grind [RX,wrap64]
  .rw[aV h2,aC];refine ⟨⟨[c],IntKind.u8.wrap ((BitVec.ofInt 8 n &&& BitVec.ofInt 8 1).toNat:Int)==1,IntKind.u8.wrap ((BitVec.ofInt 8 n &&& BitVec.ofInt 8 2).toNat:Int)==2,IntKind.u8.wrap ((BitVec.ofInt 8 n &&& BitVec.ofInt 8 4).toNat:Int)==4,0⟩,rfl,⟨⟨J7 _,by simp⟩,fun h=>absurd rfl h⟩,?_⟩;grind [RX]
 .rw[aV h1,aC];refine ⟨⟨[c],IntKind.u8.wrap ((BitVec.ofInt 8 n &&& BitVec.ofInt 8 1).toNat:Int)==1,IntKind.u8.wrap ((BitVec.ofInt 8 n &&& BitVec.ofInt 8 2).toNat:Int)==2,IntKind.u8.wrap ((BitVec.ofInt 8 n &&& BitVec.ofInt 8 4).toNat:Int)==4,0⟩,rfl,⟨⟨J7 _,by simp⟩,fun h=>absurd rfl h⟩,?_⟩;grind [RX]
theorem evM {a b c d e:Int} (ha:U8 a) (hb:U8 b) (hc:U8 c) (hd:U8 d) (he:U8 e):∃ es:List kK,SS.CC 125 [WO (a,b,c,d,e,())] []=some (.sl false 5 (es.map yH),[])/\es.map (·.n) = [[97],[98],[99],[100],[101]]/\∀ x,x∈es->WQ x:=by obtain ⟨e0,n0,o0,q0⟩:=Rn (a,b,c,d,e,()) [] (by decide) 0 97 a ha (by decide) (by kernel_rfl) (by kernel_rfl) (fun K=>rfl);obtain ⟨e1,n1,o1,q1⟩:=Rn (a,b,c,d,e,()) [e0] (by simp) 1 98 b hb (by decide) (by kernel_rfl) (by kernel_rfl) (fun K=>rfl);obtain ⟨e2,n2,o2,q2⟩:=Rn (a,b,c,d,e,()) [e0,e1] (by simp) 2 99 c hc (by decide) (by kernel_rfl) (by kernel_rfl) (fun K=>rfl);obtain ⟨e3,n3,o3,q3⟩:=Rn (a,b,c,d,e,()) [e0,e1,e2] (by simp) 3 100 d hd (by decide) (by kernel_rfl) (by kernel_rfl) (fun K=>rfl);obtain ⟨e4,n4,o4,q4⟩:=Rn (a,b,c,d,e,()) [e0,e1,e2,e3] (by simp) 4 101 e he (by decide) (by kernel_rfl) (by kernel_rfl) (fun K=>rfl);refine ⟨[e0,e1,e2,e3,e4],?_,by simp_all,by simp_all⟩;rw[a_5];refine q0.trans (q1.trans (q2.trans (q3.trans (q4.trans ?_))));rw[aGQ];rfl
def oH (c:UInt8) (k:Nat):List Nm:=(List.range k).map fun i => [c,48+UInt8.ofNat i]
theorem bH8 (k:Nat) (h:k<=3):SS.CC 20 [.int .u8 118,bT6 (k:Int)] []=some (bT7 (aK (oH 118 k)),[]):=by
 have:k=0\/k=1\/k=2\/k=3:=by omega
 rcases this with rfl | rfl | rfl | rfl<;>exact WP dO 60 (by kernel_rfl)
theorem bH7 (k:Nat) (h:1<=k/\k<=4):SS.CC 20 [.int .u8 108,bT6 (k:Int)] []=some (bT7 (aK (oH 108 k)),[]):=by
 have:k=1\/k=2\/k=3\/k=4:=by omega
 rcases this with rfl | rfl | rfl | rfl<;>exact WP dO 60 (by kernel_rfl)
theorem FI (c:UInt8) (k:Nat):(oH c k).length=k:=by simp[oH]
abbrev Kr (r:Int×Int):PV := .agg [.int .i8 r.1,.int .i8 r.2]
structure Ce (i:Nat) (v:Vr):Prop where
 n:v.n = [120,48+UInt8.ofNat i]
 a : -4<=v.lo
 b:v.lo<=v.i
 c:v.i<=v.hi
 d:v.hi<=7
theorem u8w (n:Int):0<=IntKind.u8.wrap n/\IntKind.u8.wrap n<=255:=by rw[IntKind.wrap_u8]; omega
theorem bL2 {l:List (Int×Int)} (hl:l.length<=1000) (hr:∀ r,r∈l->I8 r.1/\I8 r.2):∃ vs:List Vr,SS.CC 217 [.sl false 2 (l.map Kr)] []=some (.sl false 4 (vs.map kE),[])/\vs.length<=3/\∀ i (h:i<vs.length),Ce i vs[i]:=by
 rw[b3G];refine Exists.elim (BL (n:=min l.length 3) (L:=fun k (vs:List Vr)=>YR (l.map Kr) (vs.map kE) (k:Int)) (E:=fun vs=>some (.sl false 4 (vs.map kE),[]))
  (P:=fun k vs=>vs.length=k/\∀ i (h:i<vs.length),Ce i vs[i]) (fun k vs hk hp => ?_) (fun vs hp => ?_) [] ⟨rfl,fun i h=>by cases h⟩) fun vs hp=>⟨vs,hp.1,by have:=hp.2.1; omega,hp.2.2⟩
 .obtain ⟨hv,hq⟩:=hp;have hkl:k<l.length:=by omega
  have hk3:k=0\/k=1\/k=2:=by omega
  obtain ⟨r1,r2⟩:=hr l[k] (gG hkl);have hg:∀ K:Sh.V NL->R,bf NL (l.map Kr) (k:Int) K=K (l[k].1,l[k].2,()):=fun K=>xC (f:=Kr) (g:=fun r=>(r.1,r.2,())) (fun _ _=>rfl) hkl K
  have hb:rX ([.int .u8 (IntKind.u8.wrap (48+(IntKind.u8.wrap (k:Int))))]:bTA)=true:=by rcases hk3 with rfl | rfl | rfl<;>rfl
  have hs:(⟨#[120]⟩:bT9) ++ strOf ([.int .u8 (IntKind.u8.wrap (48+(IntKind.u8.wrap (k:Int))))]:bTA)=bs [120,48+UInt8.ofNat k]:=by rcases hk3 with rfl | rfl | rfl<;>kernel_rfl
  have hs2:decide ((⟨#[120]⟩:bT9).size+(strOf ([.int .u8 (IntKind.u8.wrap (48+(IntKind.u8.wrap (k:Int))))]:bTA)).size<=bC)=true:=by rcases hk3 with rfl | rfl | rfl<;>kernel_rfl
  generalize l[k].1=p at r1 hg;generalize l[k].2=q at r2 hg;have hp5 : -4<=Int.tmod p 5/\Int.tmod p 5<=4:=by have h1:=Lu p (b:=5) (by decide);have h2:=Int.lt_tmod_of_pos p (b:=5) (by decide);omega
  generalize hP:Int.tmod p 5=P at hp5;obtain ⟨hu0,_⟩:=u8w q;generalize hU:IntKind.u8.wrap q=u at hu0;have hu4:0<=Int.tmod u 4/\Int.tmod u 4<=3:=⟨MB 4 hu0,by have:=Lu u (b:=4) (by decide); omega⟩;generalize hW:Int.tmod u 4=W at hu4;obtain ⟨ht0,ht1⟩:=u8w (Int.tdiv u 4);generalize hT:IntKind.u8.wrap (Int.tdiv u 4)=T at ht0 ht1;have hm:0<=Int.tmod T (W+1)/\Int.tmod T (W+1)<=W:=⟨MB _ ht0,by have:=Lu T (b:=W+1) (by omega); omega⟩;generalize hM:Int.tmod T (W+1)=M at hm;refine ⟨vs ++ [⟨[120,48+UInt8.ofNat k],P,P+W,P+M⟩],?_,by simp[hv],fun i h => ?_⟩
  .rw[aHQ,aO (by rw[aX]; omega),aH,aO (by omega),aH,hg];try dsimp only
   rw[hg];try dsimp only
   rw[au hb,au hs2,hg];try dsimp only
   rw[hP,hU,hW,hT,wrap64 (n:=P) (by omega) (by omega),wrap64 (n:=W) (by omega) (by omega),wrap64 (n:=W+1) (by omega) (by omega),wrap64 (n:=P+W) (by omega) (by omega),wrap64 (n:=T) (by omega) (by omega),hM,wrap64 (n:=P+M) (by omega) (by omega),au (by simp; omega),au (gz (by rw[aX]; omega)),hs,bu (by omega),lq];rfl
  .rw[aY,rH] at h;by_cases hi:i<vs.length
   .rw[List.getElem_append_left hi]; exact hq i hi
   .have:i=vs.length:=by omega
    subst this;rw[List.getElem_append_right (cu _)];simp only[Nat.sub_self,List.getElem_cons_zero];exact ⟨by rw[hv],by show -4<=P; omega,by show P<=P+M; omega,by show P+M<=P+W; omega,by show P+W<=7; omega⟩
 .rw[aHQ];by_cases h:l.length<=3
  .rw[aV (by rw[aX]; omega),aC]
  .rw[aO (by rw[aX]; omega),aH,aV (by omega),aC]
structure CX (l:List Int) (k:Int):Prop where
 b:∀ i,i<l.length->0<=l.getD i 0/\l.getD i 0<k
 s:∀ i,0<i->i<l.length->l.getD (i-1) 0<l.getD i 0
theorem aK' (k:Int):CX [] k:=⟨fun i h=>(nomatch h),fun i _ h=>(nomatch h)⟩
theorem aL0 {l:List Int} {k:Int} (h:CX l k):CX l (k+1):=⟨fun i hi=>by have:=h.b i hi; omega,h.s⟩
theorem bC0 {l:List Int} {a:Int} {i:Nat}:(l ++ [a]).getD i 0=if i<l.length then l.getD i 0 else if i=l.length then a else 0:=by grind
theorem aKZ {l:List Int} {k:Int} (h:CX l k) (h0:0<=k):CX (l ++ [k]) (k+1):=by
 refine ⟨fun i hi => ?_,fun i h1 hi => ?_⟩<;>simp only[aY,rH] at hi<;>simp only[bC0]
 .split
  .next h2=>have:=h.b i h2; omega
  omega
 .rw[aS (show i-1<l.length by omega)];split
  .next h2=>exact h.s i h1 h2
  .rw[aS (by omega)]; exact (h.b _ (by omega)).2
structure MV (nv k:Int) (x:EX):Prop where
 t:Ty nv k x
 d:fQ x<=6
 s:fH x<=63
structure Wp (nv:Int) (k:Nat) (us:List (Int×EX)):Prop where
 l:us.length<=k
 i:CX (us.map (·.1)) k
 e:∀ u,u∈us->MV nv 1 u.2
structure ND (nl ne nv:Nat) (x:Mv):Prop where
 f:0<=x.f/\x.f<nl
 e:0<=x.e/\x.e<ne
 t:0<=x.t/\x.t<nl
 g:MV nv 2 x.g
 u:Wp nv nv x.us
structure Mc where
 a:Int
 b:Int
 i:Int
 m:Int
 rg:List (Int×Int)
 mv:List (Int×Int×Int)
 y:bTB
abbrev Fv (x:Int×Int×Int):Sh.V wP:=(x.1,x.2.1,x.2.2,())
abbrev IQ (x:Int×Int×Int):PV := .agg [.int .u8 x.1,.int .u8 x.2.1,.int .u8 x.2.2]
abbrev wF (c:Mc):Sh.V qY:=(c.a,c.b,c.i,c.m,c.rg.map Kr,c.mv.map IQ,wY c.y,())
abbrev IR (c:Mc):PV:=zi (wF c)
theorem UF {l:List (Int×Int×Int)} {k:Nat} (hk:k<l.length) (K:Sh.V wP->R):bf wP (l.map IQ) (k:Int) K=K (Fv l[k]):=xC (g:=Fv) (fun _ _=>rfl) hk K
theorem a7N {l:List Mc} {k:Nat} (hk:k<l.length) (K:Sh.V qY->R):bf qY (l.map IR) (k:Int) K=K (wF l[k]):=xC (g:=wF) (fun _ _=>rfl) hk K
structure a2I (c:Mc):Prop where
 a:U8 c.a
 b:U8 c.b
 i:U8 c.i
 m:U8 c.m
 rg:c.rg.length<=1000/\∀ r,r∈c.rg->I8 r.1/\I8 r.2
 mv:c.mv.length<=1000/\∀ x,x∈c.mv->U8 x.1/\U8 x.2.1/\U8 x.2.2
 y:c.y.length<=10000
theorem cut {n k:Nat} (hn:n<=100000) (hk:k<=100000):(if i64.wrap (k:Int)<(n:Int) then i64.wrap (k:Int) else (n:Int))=((min k n:Nat):Int):=by rw[wrap64 (by omega) (by omega)];split<;>omega
section
variable {x3:Sh.V qY} {n:bT9} {ls es:List Nm} {vs:List Vr} (hv:vs.length<=3)
include hv
theorem l25 {q:Int×Int×Int} {g3 g4 g5:Int} {g6:bTA} {y:bTB} (hy:y.length<=100000) {k:Int} {al mr:bTA} {ms:bTA} :
 ∃ us,Nz x3 n (aK ls) (aK es) (vs.map kE) (Fv q) g3 g4 g5 g6 0 [] (wY y) k al mr ms=chk (decide (ms.length+1<=bC)) (Hg x3 n (aK ls) (aK es) (vs.map kE) (i64.wrap (k+1)) (ms ++ ([A9 (Int.tmod (i64.wrap q.1) ((aK ls).length:Int),Int.tmod (i64.wrap q.2.1) ((aK es).length:Int),Int.tmod (i64.wrap q.2.2) ((aK ls).length:Int),g3,g4,g5,g6,us.map pUp,())]:bTA)) al mr)/\Wp vs.length vs.length us:=by
 refine BL (n:=vs.length) (L:=fun j us=>Nz x3 n (aK ls) (aK es) (vs.map kE) (Fv q) g3 g4 g5 g6 (j:Int) (us.map pUp) (wY y) k al mr ms) (P:=fun j us=>Wp vs.length j us) (fun j us hj hp => ?_) (fun us hp => ?_) [] ⟨cu _,aK' _,fun u h=>(nomatch h)⟩
 .rw[aGV,aO (by rw[aX]; omega),aH,au (by rw[wrap64 (by omega) (by omega)]; rfl)];try dsimp only
  generalize (IntKind.u8.wrap _==(1:Int))=bb;cases bb with
  | false =>rw[aC,bu (by omega)];exact ⟨us,rfl,by have:=hp.l; omega,aL0 hp.i,hp.e⟩
  | true =>
   obtain ⟨x,e,t,d,s⟩:=aCL (nv:=(vs.length:Int)) (k:=1) ⟨by omega,by omega⟩ (.inl rfl) (y.drop (min (j+1) y.length)) (by rw[xY]; omega);have hl:=hp.l;rw[aH,show (wY y).length=y.length from aX _,show ((j:Int)+1)=((j+1:Nat):Int) by omega,cut hy (by omega),au (by simp; omega),oM,<- List.map_drop,show (vs.map kE).length=vs.length from aX _,gQ e,au (gz (by rw[aX]; omega)),wrap64 (n:=((j+1:Nat):Int)) (by omega) (by omega)];refine ⟨us ++ [((j:Int),x)],?_,by rw[aY,rH]; omega,?_,?_⟩;simp
   .rw[lq];exact aKZ hp.i (show (0:Int)<=(j:Int) by omega)
   .intro u hu;rw[qQ,uI] at hu;rcases hu with hu | rfl
    .exact hp.e u hu
    .exact ⟨t,d,s⟩
 grind [aGV,aC]
end
theorem a1A {a n:Int} (ha:U8 a) (hn:0<n):0<=Int.tmod (i64.wrap a) n/\Int.tmod (i64.wrap a) n<n:=by have h0:=ha.1;have h1:=ha.2;rw[wrap64 (by omega) (by omega)];exact ⟨MB _ h0,Lu _ hn⟩
theorem bC3 (nv:Int):MV nv 2 tE:=⟨.cmp (o:=6) (by decide) (by decide) (.Em (by decide) (by decide)) (.Em (by decide) (by decide)),by decide,by decide⟩
theorem l17 {c:Mc} (hc:a2I c) {n:bT9} {ls es:List Nm} {vs:List Vr} (hv:vs.length<=3) (hls:0<ls.length) {al mr:bTA} :
 ∃ ms:List Mv,Hg (wF c) n (aK ls) (aK es) (vs.map kE) 0 [] al mr=some (A5 (n,aK ls,aK es,al,(ls.length:Int),Int.tmod (i64.wrap c.i) (ls.length:Int),mr,vs.map kE,ms.map AO,()),[])/\ms.length<=4/\∀ x,x∈ms->ND ls.length es.length vs.length x:=by
 have hm:=hc.mv.1;have hy:=hc.y;have hy1:(wY c.y).length=c.y.length:=aX _;have hv1:(vs.map kE).length=vs.length:=aX _;have hm1:(c.mv.map IQ).length=c.mv.length:=aX _;have hN:(if es.length=0 then 0 else min c.mv.length 4)<=4:=by split<;>omega
 refine Exists.elim (BL (n:=if es.length=0 then 0 else min c.mv.length 4) (L:=fun k (ms:List Mv)=>Hg (wF c) n (aK ls) (aK es) (vs.map kE) (k:Int) (ms.map AO) al mr)
  (E:=fun ms=>some (A5 (n,aK ls,aK es,al,(ls.length:Int),Int.tmod (i64.wrap c.i) (ls.length:Int),mr,vs.map kE,ms.map AO,()),[]))
  (P:=fun k ms=>ms.length=k/\∀ x,x∈ms->ND ls.length es.length vs.length x) (fun k ms hk hp => ?_) (fun ms hp => ?_) [] ⟨rfl,fun x h=>(nomatch h)⟩) fun ms hp=>⟨ms,hp.1,mP (xZ hp.2.1) hN,hp.2.2⟩
 .have he:es.length≠0:=fun h=>by rw[aS h] at hk; omega
  rw[aQ he] at hk;have tC:k<c.mv.length:=by omega
  have z1:(!((ls.length:Int)==0))=true:=by rw[xW,pX]; omega
  have z2:(!((es.length:Int)==0))=true:=by simp[he]
  obtain ⟨q1,q2,q3⟩:=hc.mv.2 _ (gG tC);obtain ⟨hp1,hp2⟩:=hp;have w9:i64.wrap (9*(k:Int))=((9*k:Nat):Int):=by rw[wrap64 (by omega) (by omega)]; omega
  have fin:∀ g,MV vs.length 2 g->∃ ms':List Mv,YE (wF c) n (aK ls) (aK es) (vs.map kE) (Fv c.mv[k]) (ev g).1 (ev g).2.1 (ev g).2.2.1 (ev g).2.2.2.1 (wY (c.y.drop (min (9*k) c.y.length))) (k:Int) al mr (ms.map AO)=Hg (wF c) n (aK ls) (aK es) (vs.map kE) ((k+1:Nat):Int) (ms'.map AO) al mr/\ms'.length=k+1/\∀ x,x∈ms'->ND ls.length es.length vs.length x:=fun g hg=>by
   obtain ⟨us,e,hu⟩:=l25 (x3:=wF c) (n:=n) (ls:=ls) (es:=es) hv (q:=c.mv[k]) (g3:=(ev g).1) (g4:=(ev g).2.1) (g5:=(ev g).2.2.1) (g6:=(ev g).2.2.2.1) (y:=c.y.drop (min (9*k) c.y.length)) (by rw[xY]; omega) (k:=(k:Int)) (al:=al) (mr:=mr) (ms:=ms.map AO);rw[a_6,e,au (gz (by rw[aX]; omega)),bu (by omega),iR,iR];refine ⟨ms ++ [⟨Int.tmod (i64.wrap c.mv[k].1) (ls.length:Int),Int.tmod (i64.wrap c.mv[k].2.1) (es.length:Int),Int.tmod (i64.wrap c.mv[k].2.2) (ls.length:Int),g,us⟩],by rw[lq]; rfl,by rw[aY,hp1]; rfl,fun x hx => ?_⟩
   .rw[qQ,uI] at hx;rcases hx with hx | rfl
    simp_all
    .exact ⟨a1A q1 (by omega),a1A q2 (by omega),a1A q3 (by omega),hg,hu⟩
  rw[aGU];unfold o6;try dsimp only
  rw[hm1,aO (by omega),aH,UF tC,show ((k:Int)==4)=false by simp; omega,aC,iR,iR,show ((es.length:Int)==0)=false by grind,aC,gQ c116];have hcut:(if ((9*k:Nat):Int)<(c.y.length:Int) then ((9*k:Nat):Int) else (c.y.length:Int))=((min (9*k) c.y.length:Nat):Int):=by split<;>omega
  simp only[z1,z2,RX,Cf,hy1,w9,hcut,oM,<- List.map_drop,hv1,uq];rw[au (by simp only[bF,lw]; omega)];by_cases h1:128<=c.mv[k].1
  .obtain ⟨x,e,t,d,s⟩:=aCL (nv:=(vs.length:Int)) (k:=2) ⟨by omega,by omega⟩ (.inr rfl) (c.y.drop (min (9*k) c.y.length)) (by rw[xY]; omega);rw[aO h1,aH,gQ e];exact fin x ⟨t,d,s⟩
  .rw[aV h1,aC];exact fin tE (bC3 _)
 .rw[aGU];unfold o6;try dsimp only
  rw[hm1,iR,iR];by_cases he:es.length=0
  .rw[aS he];by_cases h0:0<c.mv.length
   .rw[aO (by omega),aH,UF h0,show (((0:Nat):Int)==4)=false from rfl,aC,show ((es.length:Int)==0)=true by rw[he]; rfl,aH]
   .rw[aV (by omega),aC]
  .rw[aQ he];by_cases h4:c.mv.length<=4
   .rw[a1S h4,aV (by omega),aC]
   .rw[a1T (by omega),aO (by omega),aH,UF (by omega),show (((4:Nat):Int)==4)=true from rfl,aH]
abbrev Cj (n:Nat):List Int:=(List.range n).map Int.ofNat
structure Cc (t:Tm):Prop where
 ls:∃ n:Nat,1<=n/\n<=4/\t.ls=oH 108 n
 es:∃ n:Nat,n<=3/\t.es=oH 118 n/\t.al=Cj n
 L:t.L=(t.ls.length:Int)
 I:0<=t.I/\t.I<(t.ls.length:Int)
 mr:CX t.mr (t.ls.length:Int)/\t.mr.length<=4
 vs:t.vs.length<=3/\∀ i (h:i<t.vs.length),Ce i t.vs[i]
 ms:t.ms.length<=4/\∀ x,x∈t.ms->ND t.ls.length t.es.length t.vs.length x
section
variable {c:Mc} {n:bT9} {ls es:List Nm} {o4:bTA}
theorem l11 (hl:ls.length<=4) {al:bTA}:∃ mr:List Int,Jk (wF c) n (aK ls) (aK es) o4 0 [] al=Hg (wF c) n (aK ls) (aK es) o4 0 [] al (fV mr)/\mr.length<=ls.length/\CX mr (ls.length:Int):=by
 refine BL (n:=ls.length) (L:=fun k mr=>Jk (wF c) n (aK ls) (aK es) o4 (k:Int) (fV mr) al) (P:=fun k mr=>mr.length<=k/\CX mr (k:Int)) (fun k mr hk hp => ?_) (fun mr hp => ?_) [] ⟨cu _,aK' _⟩
 .obtain ⟨h1,h2⟩:=hp;rw[aGT,aO (by rw[iR]; omega),aH,au (by exact decide_eq_true (by omega))];generalize (IntKind.u8.wrap _==(1:Int))=bb;cases bb with
  | false =>rw[aC,bu (by omega)];exact ⟨mr,rfl,by omega,aL0 h2⟩
  | true =>rw[aH,au (gz (by rw[aX]; omega)),bu (by omega)];refine ⟨mr ++ [(k:Int)],?_,by rw[aY,rH]; omega,aKZ h2 (by omega)⟩;rw[show fV (mr ++ [(k:Int)])=fV mr ++ fV [(k:Int)] from lq]; rfl
 .rw[aGT,aV (by rw[iR]; omega),aC]
theorem l6 (he:es.length<=3):DN (wF c) n (aK ls) (aK es) o4 0 []=Jk (wF c) n (aK ls) (aK es) o4 0 [] (fV (Cj es.length)):=by
 refine oC (n:=es.length) (L:=fun k=>DN (wF c) n (aK ls) (aK es) o4 (k:Int) (fV (Cj k))) (fun k hk => ?_) ?_
 .rw[aGW,aO (by rw[iR]; omega),aH,au (gz (by rw[aX,aX,List.length_range]; omega)),bu (by omega)];rw[show fV (Cj (k+1))=fV (Cj k) ++ fV [(k:Int)] by unfold Cj;rw[List.range_succ,lq];exact lq];rfl
 .rw[aGW,aV (by rw[iR]; omega),aC]
end
theorem tmM {c:Mc} (hc:a2I c) (n:Nm):∃ t:Tm,SS.CC 126 [.str (bs n),zi (wF c)] []=some (A5 (yM t),[])/\t.n=n/\Cc t:=by
 obtain ⟨a0,a1⟩:=hc.a;obtain ⟨b0,b1⟩:=hc.b;have ha:∃ ne:Nat,ne<=3/\i64.wrap (Int.tmod c.a 4)=(ne:Int):=by have h1:=Lu c.a (b:=4) (by decide);have h2:=MB 4 a0;rw[wrap64 (by omega) (by omega)];exact ⟨(Int.tmod c.a 4).toNat,by omega,by omega⟩
 have hb:∃ nl:Nat,(1<=nl/\nl<=4)/\i64.wrap (1+i64.wrap (Int.tmod c.b 4))=(nl:Int):=by have h1:=Lu c.b (b:=4) (by decide);have h2:=MB 4 b0;rw[wrap64 (n:=Int.tmod c.b 4) (by omega) (by omega),wrap64 (by omega) (by omega)];exact ⟨(1+Int.tmod c.b 4).toNat,by omega,by omega⟩
 obtain ⟨ne,n1,n2⟩:=ha;obtain ⟨nl,m1,m2⟩:=hb;obtain ⟨vs,ev,hv,hv2⟩:=bL2 hc.rg.1 hc.rg.2;have el:=FI 108 nl;have ee:=FI 118 ne;obtain ⟨mr,em,hm1,hm2⟩:=l11 (c:=c) (n:=bs n) (ls:=oH 108 nl) (es:=oH 118 ne) (o4:=vs.map kE) (by omega) (al:=fV (Cj (oH 118 ne).length));obtain ⟨ms,es,h1,h2⟩:=l17 hc (n:=bs n) (ls:=oH 108 nl) (es:=oH 118 ne) hv (by omega) (al:=fV (Cj (oH 118 ne).length)) (mr:=fV mr);have z1:(!((nl:Int)==0))=true:=by rw[xW,pX]; omega
 refine ⟨⟨n,oH 108 nl,oH 118 ne,Cj (oH 118 ne).length,((oH 108 nl).length:Int),Int.tmod (i64.wrap c.i) ((oH 108 nl).length:Int),mr,vs,ms⟩,?_,rfl,⟨⟨nl,m1.1,m1.2,rfl⟩,⟨ne,n1,rfl,by rw[ee]⟩,rfl,a1A hc.i (by show (0:Int)<((oH 108 nl).length:Int); omega),⟨hm2,by show mr.length<=4; omega⟩,⟨hv,hv2⟩,h1,h2⟩⟩;rw[a_G];unfold o6;try dsimp only
 simp only[n2,m2,wK (bH8 ne n1),wK (bH7 nl m1),iR,el,z1,RX,aTL ev,Cf];rw[l6 (by omega),em,es,el]
abbrev jY (c:UInt8) (k:Nat):Nm := [c,48+UInt8.ofNat k]
def qW (c:UInt8) (b:Nat) (s:Nm):Prop:=∃ k:Nat,k<b/\s=jY c k
theorem aOI {c:UInt8} {j k:Nat} (hj:j<10) (hk:k<10) (h:jY c j=jY c k):j=k:=by
 injection h with _ h
 injection h with h _
 have:∀ j,j<10->∀ k,k<10->(48:UInt8)+UInt8.ofNat j=48+UInt8.ofNat k->j=k:=by decide
 grind
theorem wu8 {n:Int} (h:U8 n):IntKind.u8.wrap n=n:=by rw[IntKind.wrap_u8]; have:=h.1; have:=h.2; omega
theorem n2c {c:Int} (d:UInt8) (k:Nat) (hd:c=(d.toNat:Int)) (hk:k<10):rX ([.int .u8 c,.int .u8 (IntKind.u8.wrap (48+(k:Int)))]:bTA)=true/\strOf ([.int .u8 c,.int .u8 (IntKind.u8.wrap (48+(k:Int)))]:bTA)=bs (jY d k):=by rw[wu8 (n:=48+(k:Int)) ⟨by omega,by omega⟩];have hd2:=d.toNat_lt;refine ⟨by simp[rX,isByte]<;>omega,?_⟩;show bs [UInt8.ofNat c.toNat,UInt8.ofNat (48+(k:Int)).toNat]=_;rw[hd,oM,UInt8.ofNat_toNat];rw[show (48+(k:Int)).toNat=48+k by omega];simp
theorem Zw {c:Int} (d:UInt8) (k:Nat) (hd:c=(d.toNat:Int)) (hk:k<10):rX ([.int .u8 c,.int .u8 (IntKind.u8.wrap (48+(IntKind.u8.wrap (k:Int))))]:bTA)=true/\strOf ([.int .u8 c,.int .u8 (IntKind.u8.wrap (48+(IntKind.u8.wrap (k:Int))))]:bTA)=bs (jY d k):=by rw[wu8 (n:=(k:Int)) ⟨by omega,by omega⟩]; exact n2c d k hd hk
def MR (s:Nm):Prop:=∃ j:Nat,j<6/\s = [97+UInt8.ofNat j]
theorem n1c {v:Int} (h:0<=v):rX ([.int .u8 (IntKind.u8.wrap (97+Int.tmod v 6))]:bTA)=true/\∃ s,MR s/\strOf ([.int .u8 (IntKind.u8.wrap (97+Int.tmod v 6))]:bTA)=bs s:=by have h1:=Lu v (b:=6) (by decide);have h2:=MB 6 h;obtain ⟨j,hj⟩:∃ j:Nat,Int.tmod v 6=(j:Int):=⟨(Int.tmod v 6).toNat,by omega⟩;rw[hj,wu8 (n:=97+(j:Int)) ⟨by omega,by omega⟩];refine ⟨by simp[rX,isByte]<;>omega,_,⟨j,by omega,rfl⟩,?_⟩;show bs [UInt8.ofNat (97+(j:Int)).toNat]=_;rw[show (97+(j:Int)).toNat=97+j by omega];simp
theorem VN {v:Int} (h:0<=v) (b:Nat) (hb:0<b):∃ j:Nat,j<b/\Int.tmod v (b:Int)=(j:Int):=by have h1:=Lu v (b:=(b:Int)) (by omega);have h2:=MB (b:Int) h;exact ⟨(Int.tmod v b).toNat,by omega,by omega⟩
structure Sk where
 e:Int×Int×Int×Int×Int
 ts:List Mc
 is:List (Int×Int×Int)
 xs:List (Int×Int×Int×Int)
 ks:List (Int×Int×Int)
abbrev vM4 (x:Int×Int×Int×Int):Sh.V Gp:=(x.1,x.2.1,x.2.2.1,x.2.2.2,())
abbrev Uk (x:Int×Int×Int×Int):PV := .agg [.int .u8 x.1,.int .u8 x.2.1,.int .u8 x.2.2.1,.int .u8 x.2.2.2]
abbrev vM3 (x:Int×Int×Int):Sh.V Qq:=(x.1,x.2.1,x.2.2,())
abbrev Uj (x:Int×Int×Int):PV := .agg [.int .i8 x.1,.int .i8 x.2.1,.int .i8 x.2.2]
abbrev nX (s:Sk):Sh.V S2:=(s.e.1,s.e.2.1,s.e.2.2.1,s.e.2.2.2.1,s.e.2.2.2.2,s.ts.map IR,s.is.map IQ,s.xs.map Uk,s.ks.map Uj,())
theorem aN5 {l:List (Int×Int×Int×Int)} {k:Nat} (hk:k<l.length) (K:Sh.V Gp->R):bf Gp (l.map Uk) (k:Int) K=K (vM4 l[k]):=xC (g:=vM4) (fun _ _=>rfl) hk K
theorem aN4 {l:List (Int×Int×Int)} {k:Nat} (hk:k<l.length) (K:Sh.V Qq->R):bf Qq (l.map Uj) (k:Int) K=K (vM3 l[k]):=xC (g:=vM3) (fun _ _=>rfl) hk K
structure a2L (s:Sk):Prop where
 e:U8 s.e.1/\U8 s.e.2.1/\U8 s.e.2.2.1/\U8 s.e.2.2.2.1/\U8 s.e.2.2.2.2
 ts:s.ts.length<=1000/\∀ c,c∈s.ts->a2I c
 is:s.is.length<=1000/\∀ x,x∈s.is->U8 x.1/\U8 x.2.1/\U8 x.2.2
 xs:s.xs.length<=1000/\∀ x,x∈s.xs->U8 x.1/\U8 x.2.1/\U8 x.2.2.1/\U8 x.2.2.2
 ks:s.ks.length<=1000/\∀ x,x∈s.ks->I8 x.1/\I8 x.2.1/\I8 x.2.2
structure N8 (k:Nat) (x:Ins):Prop where
 n:qW 99 k x.n
 t:qW 116 3 x.t
 e:x.es.length<=3/\∀ s,s∈x.es->MR s
structure Gt (i:Nat) (x:qG):Prop where
 n:x.n=jY 101 i
 l:1<=x.ls.length/\x.ls.length<=3/\∀ l,l∈x.ls->qW 99 4 l.1/\qW 108 5 l.2
structure EY (i:Nat) (x:Cst):Prop where
 n:x.n=jY 107 i
 l:1<=x.ts.length/\x.ts.length<=2/\∀ l,l∈x.ts->qW 99 4 l.1/\I8 l.2
 b:I8 x.b
structure Gj (m:Mo):Prop where
 n:m.n = [109,111,100,101,108]
 es:m.es.map (·.n) = [[97],[98],[99],[100],[101]]/\∀ x,x∈m.es->WQ x
 ts:m.ts.length<=2/\∀ i (h:i<m.ts.length),m.ts[i].n=jY 116 i/\Cc m.ts[i]
 is:m.cs.length+m.rs.length<=4/\(∀ x,x∈m.cs ++ m.rs->N8 4 x)/\((m.cs ++ m.rs).map (·.n)).Nodup
 xs:m.xs.length<=2/\∀ i (h:i<m.xs.length),Gt i m.xs[i]
 ks:m.ks.length<=2/\∀ i (h:i<m.ks.length),EY i m.ks[i]
theorem aLJ {α:Type} {P:Nat->α->Prop} {l:List α} (h:∀ i (h:i<l.length),P i l[i]) {a:α} (ha:P l.length a):∀ i (h:i<(l ++ [a]).length),P i (l ++ [a])[i]:=by grind
section
variable {s:Sk} (hs:a2L s) {o1:bTA}
include hs
theorem m4:∃ ts:List Tm,TD (nX s) o1 0 []=OI (nX s) o1 (ts.map yI)/\ts.length<=2/\∀ i (h:i<ts.length),ts[i].n=jY 116 i/\Cc ts[i]:=by
 have hl:=hs.ts.1;have hl1:(s.ts.map IR).length=s.ts.length:=aX _;refine Exists.elim (BL (n:=min s.ts.length 2) (L:=fun k (ts:List Tm)=>TD (nX s) o1 (k:Int) (ts.map yI)) (E:=fun ts=>OI (nX s) o1 (ts.map yI))
  (P:=fun k ts=>ts.length=k/\∀ i (h:i<ts.length),ts[i].n=jY 116 i/\Cc ts[i]) (fun k ts hk hp => ?_) (fun ts hp => ?_) [] ⟨rfl,fun i h=>(nomatch h)⟩) fun ts hp=>⟨ts,hp.1,mP (xZ hp.2.1) (by omega),hp.2.2⟩
 .obtain ⟨h1,h2⟩:=hp;have tC:k<s.ts.length:=by omega
  obtain ⟨t,e,hn,ht⟩:=tmM (hs.ts.2 _ (gG tC)) (jY 116 k);obtain ⟨b1,b2⟩:=Zw (c:=116) 116 k rfl (by omega);rw[aJ4,hl1,aO (by omega),aH,a7N tC,show ((k:Int)==2)=false by rw[pX]; omega,aC,au b1,b2,aTK e,au (gz (by rw[aX]; omega)),bu (by omega)];refine ⟨ts ++ [t],by rw[lq]; rfl,by rw[aY,h1]; rfl,?_⟩;grind
 .rw[aJ4,hl1];by_cases h4:s.ts.length<=2;simp_all
  .rw[a1T (by omega),aO (by omega),aH,a7N (by omega),show (((2:Nat):Int)==2)=true from rfl,aH]
theorem m16 {q:Int×Int×Int} (hq:U8 q.1/\U8 q.2.1/\U8 q.2.2) {x6 o2:bTA} {k:Int} {cs rs:bTA} {n:Nm} :
 ∃ es:List Nm,TA (nX s) o1 (Fv q) 0 [] x6 k o2 cs rs (bs n)=aA (decide (q.1<128)) (chk (decide (cs.length+1<=bC)) (Sz (nX s) o1 (Fv q) (cs ++ ([A8 (bs n,(strOf ([.int .u8 116,.int .u8 (IntKind.u8.wrap (48+(Int.tmod q.1 3)))]:bTA)),aK es,())]:bTA)) rs x6 k o2 (bs n) (aK es))) (chk (decide (rs.length+1<=bC)) (Sz (nX s) o1 (Fv q) cs (rs ++ ([A8 (bs n,(strOf ([.int .u8 116,.int .u8 (IntKind.u8.wrap (48+(Int.tmod q.1 3)))]:bTA)),aK es,())]:bTA)) x6 k o2 (bs n) (aK es)))/\es.length<=3/\∀ s,s∈es->MR s:=by
 obtain ⟨c,hc,e⟩:=VN (v:=q.2.1) hq.2.1.1 4 (by decide);have e4:i64.wrap (Int.tmod q.2.1 4)=(c:Int):=by rw[show (4:Int)=((4:Nat):Int) from rfl,e,wrap64 (by omega) (by omega)]
 refine Exists.elim (BL (n:=c) (L:=fun j (es:List Nm)=>TA (nX s) o1 (Fv q) (j:Int) (aK es) x6 k o2 cs rs (bs n)) (P:=fun j es=>es.length=j/\∀ s,s∈es->MR s) (fun j es hj hp => ?_) (fun es hp => ?_) [] ⟨rfl,fun i h=>(nomatch h)⟩) fun es hp=>⟨es,hp.1,mP (xZ hp.2.1) (by omega),hp.2.2⟩
 .obtain ⟨h1,h2⟩:=hp;obtain ⟨b1,z,hz,b2⟩:=n1c (u8w (q.2.2+IntKind.u8.wrap (j:Int))).1;rw[aJ0];try dsimp only
  rw[e4,aO (by omega),aH,au b1,b2,au (gz (by rw[iR]; omega)),bu (by omega)];refine ⟨es ++ [z],?_,by rw[aY,h1]; rfl,fun y hy => ?_⟩;grind [qC]
  grind
 grind [aJ0,aC]
end
theorem aOJ {c:UInt8} {a b:Nat} {s:Nm} (h:qW c a s) (hb:a<=b):qW c b s:=by obtain ⟨k,h1,h2⟩:=h; exact ⟨k,by omega,h2⟩
theorem aB3 (a:List Nm) (b:Nm):aK a ++ ([.str (bs b)]:bTA)=aK (a ++ [b]):=by simp[aK,qC,qw]
structure StI where
 x6:List Nm
 cs:List Ins
 rs:List Ins
structure StP (k:Nat) (z:StI):Prop where
 x:z.x6.length=k+1/\∀ s,s∈z.x6->qW 99 4 s
 n:z.cs.length+z.rs.length=k
 i:∀ x,x∈z.cs ++ z.rs->N8 k x
 d:((z.cs ++ z.rs).map (·.n)).Nodup
section
variable {s:Sk} (hs:a2L s) {o1 o2:bTA}
include hs
theorem m11:∃ z:StI,OI (nX s) o1 o2=OG (nX s) o1 (aK z.x6) o2 (z.cs.map iQ) (z.rs.map iQ)/\∃ k,k<=4/\StP k z:=by
 have hl:=hs.is.1;have hl1:(s.is.map IQ).length=s.is.length:=aX _;rw[b83];refine Exists.elim (BL (n:=min s.is.length 4) (L:=fun k (z:StI)=>Yj (nX s) o1 (aK z.x6) (k:Int) (z.cs.map iQ) (z.rs.map iQ) o2) (E:=fun z=>OG (nX s) o1 (aK z.x6) o2 (z.cs.map iQ) (z.rs.map iQ))
  (P:=StP) (fun k z hk hp => ?_) (fun z hp => ?_) ⟨[[99,48]],[],[]⟩ ⟨⟨rfl,fun s h=>by rw[uI] at h; exact ⟨0,by decide,h⟩⟩,rfl,fun x h=>(nomatch h),List.nodup_nil⟩) fun z hp=>⟨z,hp.1,_,by omega,hp.2⟩
 .obtain ⟨⟨x1,x2⟩,n1,i1,d1⟩:=hp;have tC:k<s.is.length:=by omega
  have hq:=hs.is.2 _ (gG tC);obtain ⟨b1,b2⟩:=Zw (c:=99) 99 k rfl (by omega);obtain ⟨j,hj,ej⟩:=VN hq.1.1 3 (by decide);obtain ⟨t1,t2⟩:=n2c (c:=116) 116 j rfl (by omega);obtain ⟨es,e,l1,l2⟩:=m16 hs (o1:=o1) hq (x6:=aK z.x6) (o2:=o2) (k:=(k:Int)) (cs:=z.cs.map iQ) (rs:=z.rs.map iQ) (n:=jY 99 k);have ej':Int.tmod (s.is[k]).1 3=(j:Int):=ej;rw[aI',hl1,aO (by omega),aH,UF tC,show ((k:Int)==4)=false by rw[pX]; omega,aC,au b1,b2];try dsimp only
  rw[ej',au t1,e,ej',t2,au (gz (by rw[aX]; omega)),au (gz (by rw[aX]; omega)),aIW,aIW,au (gz (by rw[iR]; omega)),au (gz (by rw[iR]; omega)),bu (by omega),aB3];have hx:(z.x6 ++ [jY 99 k]).length=k+1+1/\∀ s,s∈z.x6 ++ [jY 99 k]->qW 99 4 s:=by
   refine ⟨by rw[aY,x1]; rfl,fun y hy => ?_⟩;rw[qQ,uI] at hy;rcases hy with hy | rfl
   simp_all
   .exact ⟨k,by omega,rfl⟩
  have hi:N8 (k+1) ⟨jY 99 k,jY 116 j,es⟩:=⟨⟨k,by omega,rfl⟩,⟨j,hj,rfl⟩,l1,l2⟩;have hn:∀ x,x∈z.cs ++ z.rs->x.n≠jY 99 k:=fun x hx h=>by obtain ⟨i,h1,h2⟩:=(i1 x hx).n;have:=aOI (by omega) (by omega) (h2.symm.trans h);omega
  have hm:∀ x,N8 k x->N8 (k+1) x:=fun x h=>⟨aOJ h.n (by omega),h.t,h.e⟩
  by_cases hc:(s.is[k]).1<128
  .rw[aO hc,aH];refine ⟨⟨z.x6 ++ [jY 99 k],z.cs ++ [⟨jY 99 k,jY 116 j,es⟩],z.rs⟩,by rw[lq]; rfl,hx,?_,?_,?_⟩;grind
   grind
   grind
  .rw[aV hc,aC];refine ⟨⟨z.x6 ++ [jY 99 k],z.cs,z.rs ++ [⟨jY 99 k,jY 116 j,es⟩]⟩,by rw[lq]; rfl,hx,?_,?_,?_⟩;grind
   grind
   grind
 .rw[aI',hl1];by_cases h4:s.is.length<=4;simp_all
  .rw[a1T (by omega),aO (by omega),aH,UF (by omega),show (((4:Nat):Int)==4)=true from rfl,aH]
theorem m31 {q:Int×Int×Int×Int} (hq:U8 q.1/\U8 q.2.1/\U8 q.2.2.1/\U8 q.2.2.2) {x6:List Nm} (hx:0<x6.length/\x6.length<=100/\∀ s,s∈x6->qW 99 4 s) {k:Int} {n:Nm} {cs rs o5:bTA} :
 ∃ ls:List (Nm×Nm),TC (nX s) o1 (vM4 q) 0 (aK x6) k o2 cs rs o5 (bs n,[],())=chk (decide (o5.length+1<=bC)) (TB (nX s) o1 (i64.wrap (k+1)) (o5 ++ ([GZ (bs n,ls.map BZ,())]:bTA)) (aK x6) o2 cs rs)/\1<=ls.length/\ls.length<=3/\∀ l,l∈ls->qW 99 4 l.1/\qW 108 5 l.2:=by
 obtain ⟨hx0,hx1,hx2⟩:=hx;obtain ⟨c,hc,e⟩:=VN (v:=q.1) hq.1.1 3 (by decide);have e4:i64.wrap (1+i64.wrap (Int.tmod q.1 3))=((c+1:Nat):Int):=by rw[show (3:Int)=((3:Nat):Int) from rfl,e,wrap64 (n:=(c:Int)) (by omega) (by omega),wrap64 (by omega) (by omega)]; omega
 refine Exists.elim (BL (n:=c+1) (L:=fun j (ls:List (Nm×Nm))=>TC (nX s) o1 (vM4 q) (j:Int) (aK x6) k o2 cs rs o5 (bs n,ls.map BZ,())) (P:=fun j ls=>ls.length=j/\∀ l,l∈ls->qW 99 4 l.1/\qW 108 5 l.2) (fun j ls hj hp => ?_) (fun ls hp => ?_) [] ⟨rfl,fun i h=>(nomatch h)⟩) fun ls hp=>⟨ls,hp.1,by rw[hp.2.1]; omega,mP (xZ hp.2.1) (by omega),hp.2.2⟩
 .obtain ⟨h1,h2⟩:=hp;have hv:∃ v,U8 v/\∀ K:PV->R,FD [.int .u8 q.1,.int .u8 q.2.1,.int .u8 q.2.2.1,.int .u8 q.2.2.2] (0+(i64.wrap (1+(j:Int))).toNat*1) K=K (.int .u8 v):=by
   have:j=0\/j=1\/j=2:=by omega
   rcases this with rfl | rfl | rfl
   .exact ⟨q.2.1,hq.2.1,fun K=>rfl⟩
   .exact ⟨q.2.2.1,hq.2.2.1,fun K=>rfl⟩
   .exact ⟨q.2.2.2,hq.2.2.2,fun K=>rfl⟩
  have hw:∃ v,U8 v/\∀ K:PV->R,FD [.int .u8 q.1,.int .u8 q.2.1,.int .u8 q.2.2.1,.int .u8 q.2.2.2] (0+(i64.wrap (3-(j:Int))).toNat*1) K=K (.int .u8 v):=by
   have:j=0\/j=1\/j=2:=by omega
   rcases this with rfl | rfl | rfl
   .exact ⟨q.2.2.2,hq.2.2.2,fun K=>rfl⟩
   simp_all
   .exact ⟨q.2.1,hq.2.1,fun K=>rfl⟩
  obtain ⟨v,v1,v2⟩:=hv;obtain ⟨w,w1,w2⟩:=hw;obtain ⟨i,hi,ei⟩:=VN v1.1 x6.length hx0;obtain ⟨r,hr,er⟩:=VN w1.1 5 (by decide);have er':Int.tmod w 5=(r:Int):=er;obtain ⟨t1,t2⟩:=n2c (c:=108) 108 r rfl (by omega);rw[aJ2];try dsimp only
  rw[e4,aO (by omega),aH,au (by rw[wrap64 (by omega) (by omega)]; grind),v2,wE,au (by rw[iR,xW,pX]; omega),wrap64 (n:=v) (by omega) (by omega),iR,ei,Di hi,nY,au (by rw[wrap64 (by omega) (by omega)]; grind),w2,wE,er',au t1,t2,au (gz (by rw[aX]; omega)),bu (by omega)];refine ⟨ls ++ [(x6[i],jY 108 r)],by rw[lq]; rfl,by rw[aY,h1]; rfl,fun y hy => ?_⟩;rw[qQ,uI] at hy;rcases hy with hy | rfl
  grind
  .exact ⟨hx2 _ (gG hi),r,hr,rfl⟩
 grind [aJ2,aV,aC]
theorem m26 {x6:List Nm} (hx:0<x6.length/\x6.length<=100/\∀ s,s∈x6->qW 99 4 s) {cs rs:bTA} :
 ∃ xs:List qG,OG (nX s) o1 (aK x6) o2 cs rs=OH (nX s) o1 (aK x6) o2 cs rs (xs.map zT)/\xs.length<=2/\∀ i (h:i<xs.length),Gt i xs[i]:=by
 have hl:=hs.xs.1;have hl1:(s.xs.map Uk).length=s.xs.length:=aX _;rw[b81];refine Exists.elim (BL (n:=min s.xs.length 2) (L:=fun k (xs:List qG)=>TB (nX s) o1 (k:Int) (xs.map zT) (aK x6) o2 cs rs) (E:=fun xs=>OH (nX s) o1 (aK x6) o2 cs rs (xs.map zT))
  (P:=fun k xs=>xs.length=k/\∀ i (h:i<xs.length),Gt i xs[i]) (fun k xs hk hp => ?_) (fun xs hp => ?_) [] ⟨rfl,fun i h=>(nomatch h)⟩) fun xs hp=>⟨xs,hp.1,mP (xZ hp.2.1) (by omega),hp.2.2⟩
 .obtain ⟨h1,h2⟩:=hp;have tC:k<s.xs.length:=by omega
  obtain ⟨b1,b2⟩:=Zw (c:=101) 101 k rfl (by omega);obtain ⟨ls,e,q1,q2,q3⟩:=m31 hs (o1:=o1) (o2:=o2) (hs.xs.2 _ (gG tC)) hx (k:=(k:Int)) (n:=jY 101 k) (cs:=cs) (rs:=rs) (o5:=xs.map zT);rw[aJ1,hl1,aO (by omega),aH,aN5 tC,show ((k:Int)==2)=false by rw[pX]; omega,aC,au b1,b2,e,au (gz (by rw[aX]; omega)),bu (by omega)];refine ⟨xs ++ [⟨jY 101 k,ls⟩],by rw[lq]; rfl,by rw[aY,h1]; rfl,?_⟩;grind [Gt]
 .rw[aJ1,hl1];by_cases h4:s.xs.length<=2;simp_all
  .rw[a1T (by omega),aO (by omega),aH,aN5 (by omega),show (((2:Nat):Int)==2)=true from rfl,aH]
theorem m38 {x6:List Nm} (hx:0<x6.length/\x6.length<=100/\∀ s,s∈x6->qW 99 4 s) {cs rs o5:bTA} :
 ∃ ks:List Cst,OH (nX s) o1 (aK x6) o2 cs rs o5=some (A0 (⟨#[109,111,100,101,108]⟩,o1,o2,cs,rs,o5,ks.map xI,()),[])/\ks.length<=2/\∀ i (h:i<ks.length),EY i ks[i]:=by
 have hl:=hs.ks.1;obtain ⟨hx0,hx1,hx2⟩:=hx;have hl1:(s.ks.map Uj).length=s.ks.length:=aX _;rw[b82];refine Exists.elim (BL (n:=min s.ks.length 2) (L:=fun k (ks:List Cst)=>Yk (nX s).2.2.2.2.2.2.2.2.1 o1 (k:Int) (ks.map xI) (aK x6) o2 cs rs o5) (E:=fun ks=>some (A0 (⟨#[109,111,100,101,108]⟩,o1,o2,cs,rs,o5,ks.map xI,()),[]))
  (P:=fun k ks=>ks.length=k/\∀ i (h:i<ks.length),EY i ks[i]) (fun k ks hk hp => ?_) (fun ks hp => ?_) [] ⟨rfl,fun i h=>(nomatch h)⟩) fun ks hp=>⟨ks,hp.1,mP (xZ hp.2.1) (by omega),hp.2.2⟩
 .obtain ⟨h1,h2⟩:=hp;have tC:k<s.ks.length:=by omega
  obtain ⟨b1,b2⟩:=Zw (c:=107) 107 k rfl (by omega);obtain ⟨⟨i1,i2⟩,⟨i3,i4⟩,⟨i5,i6⟩⟩:=hs.ks.2 _ (gG tC);have hz0:=hx2 _ (gG hx0);have hz1:=hx2 _ (gG (show x6.length-1<x6.length by omega));rw[aJ3,hl1,aO (by omega),aH,aN4 tC,show ((k:Int)==2)=false by rw[pX]; omega,aC,au b1,b2,show (0:Int)=((0:Nat):Int) from rfl,Di hx0,nY,iR,wrap64 (n:=(x6.length:Int)-1) (by omega) (by omega),show (x6.length:Int)-1=((x6.length-1:Nat):Int) by omega,Di (show x6.length-1<x6.length by omega),nY];try dsimp only
  rw[wrap64 (n:=(s.ks[k]).1) (by omega) (by omega),wrap64 (n:=(s.ks[k]).2.1) (by omega) (by omega),wrap64 (n:=(s.ks[k]).2.2) (by omega) (by omega),au (gz (by rw[aX]; omega)),bu (by omega)];have hk2:k=0\/k=1:=by omega
  rcases hk2 with rfl | rfl
  .refine ⟨ks ++ [⟨jY 107 0,[(x6[0],(s.ks[0]).1)],(s.ks[0]).2.2⟩],by rw[lq,au (by decide)]; rfl,by rw[aY,h1]; rfl,?_⟩;refine aLJ (P:=EY) h2 ⟨by rw[h1],⟨by simp,by simp,fun l hl => ?_⟩,i5,i6⟩;rw[uI] at hl;grind
  .refine ⟨ks ++ [⟨jY 107 1,[(x6[0],(s.ks[1]).1),(x6[x6.length-1],(s.ks[1]).2.1)],(s.ks[1]).2.2⟩],by rw[lq,au (by decide)]; rfl,by rw[aY,h1]; rfl,?_⟩;refine aLJ (P:=EY) h2 ⟨by rw[h1],⟨by simp,by simp,fun l hl => ?_⟩,i5,i6⟩;rw[jV,uI] at hl;grind
 .rw[aJ3,hl1];by_cases h4:s.ks.length<=2;simp_all
  .rw[a1T (by omega),aO (by omega),aH,aN4 (by omega),show (((2:Nat):Int)==2)=true from rfl,aH]
theorem yE:∃ m:Mo,SS.CC 34 [A2 (nX s)] []=some (A0 (aW m),[])/\Gj m:=by
 obtain ⟨e1,e2,e3,e4,e5⟩:=hs.e;obtain ⟨es,q1,p1,p2⟩:=evM e1 e2 e3 e4 e5;obtain ⟨ts,q2,p3,p4⟩:=m4 hs (o1:=es.map yH);obtain ⟨z,q3,k,hk,⟨x1,x2⟩,n1,i1,d1⟩:=m11 hs (o1:=es.map yH) (o2:=ts.map yI);have hx:0<z.x6.length/\z.x6.length<=100/\∀ s,s∈z.x6->qW 99 4 s:=⟨by omega,by omega,x2⟩;obtain ⟨xs,q4,p5,p6⟩:=m26 hs (o1:=es.map yH) (o2:=ts.map yI) hx (cs:=z.cs.map iQ) (rs:=z.rs.map iQ);obtain ⟨ks,q5,p7,p8⟩:=m38 hs (o1:=es.map yH) (o2:=ts.map yI) hx (cs:=z.cs.map iQ) (rs:=z.rs.map iQ) (o5:=xs.map zT);refine ⟨⟨[109,111,100,101,108],es,ts,z.cs,z.rs,xs,ks⟩,?_,⟨rfl,⟨p1,p2⟩,⟨p3,p4⟩,⟨by simp_all,fun x h => ?_,d1⟩,⟨p5,p6⟩,p7,p8⟩⟩
 .rw[b8K,Qc q1,q2,q3,q4,q5]; rfl
 .have:=i1 x h;exact ⟨aOJ this.n hk,this.t,this.e⟩
end
theorem aQZ {v:Nat->Int}:∀ (n k:Nat),(∀ i,k<=i->i<k+n->v i=0)->xM v k n=0
 | 0,_,_=>rfl
 | n+1,k,h=>by rw[xM,h k (cu _) (by omega)];exact aQZ n (k+1) fun i a b=>h i (by omega) (by omega)
theorem wS {v:Nat->Int} {n:Nat} (h:∀ i,i<n->v i=0):oP v n=0:=aQZ n 0 fun i _ b=>h i (by omega)
theorem Po {a b:Int} (ha:a=0) (hb:b=0):sq a b=0:=by subst ha; exact hb
theorem aZX {pre:List Nm} {s:Nm} (h1:nameB s=true) (h2:s∉pre):vP pre s=0:=by grind [vP]
theorem a8F {l:List Nm} (h:l.Nodup) {k:Nat} (hk:k<l.length):l[k]∉l.take k:=fun hm=>by obtain ⟨i,hi,e⟩:=List.mem_take_iff_getElem.1 hm;exact aCC.1 h i k (by omega) hk (by omega) e
theorem Rz {α:Type} (f:α->Nm) {l:List α} (hd:(l.map f).Nodup) (hn:∀ x,x∈l->nameB (f x)=true) {k:Nat} (hk:k<l.length) (d:α):vP ((l.take k).map f) (f (l.getD k d))=0:=by rw[gD hk];grind [aZX,a8F,List.map_take]
theorem Tt {α:Type} (f:α->Nm) {c:UInt8} {l:List α} (hl:l.length<=10) (h:∀ i (h:i<l.length),f l[i]=jY c i):(l.map f).Nodup:=by
 refine aCC.2 fun i j hi hj hij e => ?_
 rw[aX] at hi hj;rw[J8,J8,h i hi,h j hj] at e;have:=aOI (by omega) (by omega) e;omega
theorem zG {α:Type} {P:Nat->α->Prop} {l:List α} (h:∀ i (h:i<l.length),P i l[i]) {x:α} (hx:x∈l):∃ i,i<l.length/\P i x:=by grind [List.getElem_of_mem]
def okC (c:UInt8):Bool:=(List.range 10).all fun k=>nameB (jY c k)
theorem UX {c:UInt8} (h:okC c=true) {k:Nat} (hk:k<10):nameB (jY c k)=true:=by grind [okC]
theorem P7 {c:UInt8} (h:okC c=true) {b:Nat} (hb:b<=10) {s:Nm} (hs:qW c b s):nameB s=true:=by obtain ⟨k,hk,rfl⟩:=hs; grind [UX]
theorem aYM {s:Nm} (h:MR s):nameB s=true:=by
 obtain ⟨j,hj,rfl⟩:=h;have:∀ j,j<6->nameB [97+UInt8.ofNat j]=true:=by decide
 simp_all
theorem bH3 {c:UInt8} {n:Nat} (hn:n<=10):(oH c n).Nodup:=by have:=Tt (c:=c) (fun s:Nm=>s) (l:=oH c n) (by rw[FI]; exact hn) (fun i h=>by simp[oH]);rwa [List.map_id'] at this
theorem UW {c:UInt8} {n:Nat} {s:Nm} (h:s∈oH c n):qW c n s:=by obtain ⟨i,h1,h2⟩:=qR.1 h;exact ⟨i,WJ.1 h1,h2.symm⟩
theorem aOR {c:UInt8} (hc:okC c=true) {n:Nat} (hn:n<=10):Dt (oH c n)=0:=wS fun k hk=>by have:=Rz (fun s:Nm=>s) (l:=oH c n) (by rw[List.map_id']; exact bH3 hn) (fun x hx=>P7 hc hn (UW hx)) hk [];rwa [List.map_id'] at this
theorem aXQ {l:List Int} {n:Int} (h:CX l n):Rh l n=0:=wS fun k hk=>by
 have:=h.b k hk;rw[aV (by omega),aV (by omega)];by_cases h0:0<k
 .rw[aV (show ¬ l.getD k 0<=l.getD (k-1) 0 by have:=h.s k h0 hk; omega),J5]; rfl
 simp_all
theorem aUW (n:Nat):NR (Cj n)=0:=wS fun k hk=>by simp_all
theorem bP9 {pre:List Vr} {i:Nat} {v:Vr} (h:Ce i v) (hi:i<10) (hp:v.n∉pre.map (·.n)):Vm pre v=0:=by obtain ⟨h1,h2,h3,h4,h5⟩:=h;unfold Vm big;rw[show nameB v.n=true by rw[h1]; exact UX (by decide) hi,aV hp,aV (show ¬ 65536<v.lo by omega),aV (show ¬ v.lo < -65536 by omega),aV (show ¬ 65536<v.hi by omega),aV (show ¬ v.hi < -65536 by omega),aV (by omega),aV (by omega),aV (by omega)];rfl
theorem aXU {vs:List Vr} (hl:vs.length<=3) (h:∀ i (h:i<vs.length),Ce i vs[i]):JY vs=0:=by
 have hd:=Tt (c:=120) (fun v:Vr=>v.n) (l:=vs) (by omega) fun i hi=>(h i hi).n
 grind [JY,wS,a8F,List.map_take,bP9]
theorem bLB {vs:List Vr} (hl:vs.length<=3) (h:∀ i (h:i<vs.length),Ce i vs[i]):rsE vs=0:=wS fun k hk=>by rw[gD hk];unfold rvE;rw[(h k hk).n];simp
theorem aJY {nv:Nat} {k:Int} {x:EX} (h:MV nv k x) (hn:nv<=16):zZ x nv k=0:=bNW h.t (by omega) (by omega) (by have:=h.d; omega) (by have:=h.s; omega)
theorem bP3 {nv:Nat} {us:List (Int×EX)} (h:Wp nv nv us) (hn:nv<=16):usE nv us=0:=wS fun k hk=>by
 have hk':k<(us.map (·.1)).length:=by rw[aX]; exact hk
 have hb:=h.i.b k hk';unfold Ld;rw[gD hk'] at hb;rw[J8] at hb;rw[gD hk,aV (by omega),aV (by omega),aJY (h.e _ (gG hk)) hn];by_cases h0:0<k
 .have hs:=h.i.s k h0 hk';rw[gD hk',gD (show k-1<(us.map (·.1)).length by omega),J8,J8] at hs;rw[gD (show k-1<us.length by omega),aV (show ¬ us[k].1<=us[k-1].1 by omega),J5]; rfl
 simp_all
theorem bGT {nl ne nv:Nat} {x:Mv} (h:ND nl ne nv x) (hn:nv<=16):Oz nl ne nv x=0:=by obtain ⟨h1,h2,h3,h4,h5⟩:=h;grind [Oz,Po,aJY,bP3]
theorem bNL {t:Tm} (h:Cc t):Fj t=0:=by
 obtain ⟨⟨nl,l1,l2,l3⟩,⟨ne,n1,n2,n3⟩,hL,hI,⟨m1,m2⟩,⟨v1,v2⟩,s1,s2⟩:=h;have e1:Dt t.es=0:=by rw[n2]; exact aOR (by decide) (by omega)
 have e2:Dt t.ls=0:=by rw[l3]; exact aOR (by decide) (by omega)
 have e3:(t.al.length:Int)=(t.es.length:Int):=by rw[n3,n2,FI]; simp
 have e4:NR t.al=0:=by rw[n3]; exact aUW _
 have e5:UQ (t.ls.length:Int) (t.es.length:Int) (t.vs.length:Int) t.ms=0:=wS fun k hk=>by rw[gD hk]; grind [bGT]
 unfold Fj;rw[e1,e2,show ((t.al.length:Int) !=(t.es.length:Int))=false by rw[e3]; simp,show (t.L !=(t.ls.length:Int))=false by rw[hL]; simp,aV (show ¬ t.I<0 by omega),aV (show ¬ P5 (t.ls.length:Int)<=t.I by grind [P5]),e4,aXQ m1,aXU v1 v2,bLB v1 v2,e5];rfl
theorem bH5 {l:List Nm} (h:∀ s,s∈l->nameB s=true):a01 l=0:=wS fun k hk=>by rw[gD hk,h _ (gG hk)]; rfl
theorem Na {m:Mo} (h:Gj m):Ej m=0:=by
 obtain ⟨hn,⟨e1,e2⟩,⟨t1,t2⟩,⟨i1,i2,i3⟩,⟨x1,x2⟩,k1,k2⟩:=h;have el:m.es.length=5:=by rw[<- aX (f:=fun e:kK=>e.n),e1]; rfl
 have a1:NP m.es=0:=by
  unfold NP;rw[aV (by omega)];refine wS fun k hk => ?_
  have hd:(m.es.map (·.n)).Nodup:=by rw[e1]; decide
  have hm:=a8F hd (k:=k) (by rw[aX]; exact hk);have hb:nameB (m.es[k]).n=true:=by
   have:(m.es[k]).n∈m.es.map (·.n):=qR.2 ⟨_,gG hk,rfl⟩;rw[e1] at this;have hh:∀ s:Nm,s ∈ [[97],[98],[99],[100],[101]]->nameB s=true:=by decide
   grind
  obtain ⟨hk1,hf⟩:=e2 _ (gG hk);rw[J8,<- MH] at hm;rw[gD hk];grind [evE]
 have a2:VO m.ts=0:=wS fun k hk=>by have:=Rz (fun t:Tm=>t.n) (Tt (c:=116) _ (by omega) fun i hi=>(t2 i hi).1) (fun x hx=>by obtain ⟨i,h1,h2⟩:=zG (P:=fun i (t:Tm)=>t.n=jY 116 i/\Cc t) t2 hx;rw[h2.1]; exact UX (by decide) (by omega)) hk dT;refine Po this ?_;rw[gD hk]; exact bNL (t2 k hk).2
 have a3:Ti (m.cs ++ m.rs)=0:=wS fun k hk=>by
  refine Po (Rz (fun x:Ins=>x.n) i3 (fun x hx=>P7 (by decide) (by omega) (i2 x hx).n) hk dI) ?_;rw[gD hk];obtain ⟨q1,q2,q3⟩:=i2 _ (gG hk);refine bH5 fun s hs => ?_
  rw[jV] at hs;rcases hs with rfl | hs
  .exact P7 (by decide) (by omega) q2
  grind [aYM]
 have a4:WA m.xs=0:=wS fun k hk=>by
  refine Po (Rz (fun x:qG=>x.n) (Tt (c:=101) _ (by omega) fun i hi=>(x2 i hi).n) (fun x hx=>by obtain ⟨i,h1,h2⟩:=zG (P:=Gt) x2 hx;rw[h2.n]; exact UX (by decide) (by omega)) hk dX) ?_;rw[gD hk];obtain ⟨q1,q2,q3,q4⟩:=x2 k hk;rw[show (((m.xs[k]).ls.length:Int)==0)=false by rw[pX]; omega];refine wS fun j hj => ?_
  rw[gD hj];obtain ⟨r1,r2⟩:=q4 _ (gG hj);unfold lcE;rw[P7 (by decide) (by omega) r1,P7 (by decide) (by omega) r2]; rfl
 have a5:U5 m.ks=0:=wS fun k hk=>by
  refine Po (Rz (fun x:Cst=>x.n) (Tt (c:=107) _ (by omega) fun i hi=>(k2 i hi).n) (fun x hx=>by obtain ⟨i,h1,h2⟩:=zG (P:=EY) k2 hx;rw[h2.n]; exact UX (by decide) (by omega)) hk dK) ?_;rw[gD hk];obtain ⟨q1,⟨q2,q3,q4⟩,q5,q6⟩:=k2 k hk;rw[show (((m.ks[k]).ts.length:Int)==0)=false by rw[pX]; omega];refine Po (wS fun j hj => ?_) ?_
  .rw[gD hj];obtain ⟨r1,r2,r3⟩:=q4 _ (gG hj);unfold trE;rw[P7 (by decide) (by omega) r1,aV (by omega),aV (by omega)]; rfl
  grind [Gy]
 unfold Ej;rw[a1,a2,a3,a4,a5,aV (by omega),aV (by omega),aV (by omega),aV (by omega),aV (by omega),hn];rfl
theorem Dn {c:UInt8} {b:Nat} {s:Nm} (h:qW c b s):s.length=2:=by obtain ⟨k,_,rfl⟩:=h; rfl
theorem aFG {s:Nm} (h:MR s):s.length=1:=by obtain ⟨j,_,rfl⟩:=h; rfl
theorem PD {m:Mo} (h:Gj m):qX m:=by
 obtain ⟨hn,⟨e1,e2⟩,⟨t1,t2⟩,⟨i1,i2,i3⟩,⟨x1,x2⟩,k1,k2⟩:=h;have el:m.es.length=5:=by rw[<- aX (f:=fun e:kK=>e.n),e1]; rfl
 refine ⟨by rw[hn]; decide,⟨by omega,fun e he => ?_⟩,⟨by omega,fun t ht => ?_⟩,⟨by omega,by omega,fun x hx => ?_⟩,⟨by omega,fun x hx => ?_⟩,⟨by omega,fun x hx => ?_⟩⟩
 .have:e.n∈m.es.map (·.n):=qR.2 ⟨_,he,rfl⟩;rw[e1] at this;grind
 .obtain ⟨i,h1,h2,h3⟩:=zG (P:=fun i (t:Tm)=>t.n=jY 116 i/\Cc t) t2 ht;refine ⟨by rw[h2]; simp,?_⟩;obtain ⟨⟨nl,l1,l2,l3⟩,⟨ne,n1,n2,n3⟩,hL,hI,⟨m1,m2⟩,⟨v1,v2⟩,s1,s2⟩:=h3;refine ⟨⟨by rw[l3,FI]; omega,fun s hs => ?_⟩,⟨by rw[n2,FI]; omega,fun s hs => ?_⟩,by rw[n3]; simp; omega,by omega,⟨by omega,fun v hv => ?_⟩,⟨by omega,fun x hx => ?_⟩⟩
  .rw[l3] at hs; rw[Dn (UW hs)]; decide
  .rw[n2] at hs; rw[Dn (UW hs)]; decide
  .obtain ⟨j,_,q⟩:=zG (P:=Ce) v2 hv;obtain ⟨q1,q2,q3,q4,q5⟩:=q;grind
  .obtain ⟨_,_,_,g,u1,_,u3⟩:=s2 x hx;exact ⟨a1F g.t (by omega),by omega,fun u hu=>a1F (u3 u hu).t (by omega)⟩
 .obtain ⟨q1,q2,q3,q4⟩:=i2 x hx;grind [Dn,aFG]
 .obtain ⟨i,h1,h2,h3,h4,h5⟩:=zG (P:=Gt) x2 hx;grind [Dn]
 .obtain ⟨i,h1,h2,⟨h3,h4,h5⟩,h6⟩:=zG (P:=EY) k2 hx;grind [Dn]
theorem Tz {b:Prop} [Decidable b] {A:List Tok} {n:Nat} (h:jw A<=n):jw (if b then A else [])<=n:=by grind [y9]
theorem a6G {b:Prop} [Decidable b] {A:List Tok} {n:Nat} (h:jw A<=n):jw (if b then [] else A)<=n:=by grind [y9]
theorem vU (s:Nm) (T:List Tok):jw (tW s::T)=s.length+1+jw T:=by rw[jw]
theorem zI (s:Nm) (T:List Tok):jw (tS s::T)=s.length+1+jw T:=by rw[jw]
theorem aYT {e:kK} (h:WQ e) (hn:e.n.length=1):jw (uN e)<=60:=by have n1:=UZ (v:=e.k) (by have:=h.k; omega) (by have:=h.k; omega);unfold uN;have a1:=Tz (b:=e.c) (A := [tW [99,111,110,116,114,111,108,108,97,98,108,101]]) (n:=13) (by decide);have a2:=Tz (b:=e.o) (A := [tW [111,98,115,101,114,118,97,98,108,101]]) (n:=11) (by decide);have a3:=Tz (b:=e.f) (A := [tW [102,111,114,99,105,98,108,101]]) (n:=10) (by decide);have a4:=a6G (b:=e.k=0) (A:=tW [102,97,117,108,116]::eY e.k) (n:=12) (by rw[vU]; grind);grind [nC,vU,zI]
theorem aOM {l:List Nm} {b:Nat} (h:∀ s,s∈l->s.length<=b) (hl:l.length<=3):jw (uV l)<=4+3*(b+3):=by unfold uV;have:=U1 (tS [44]) (b+3) (l.map fun s => [tW s]) (fun a ha=>by grind [vU,y9]);rw[aX] at this;rw[zI,nC,zI,y9];have h2:l.length*(b+3)<=3*(b+3):=uu _ hl;grind
theorem aKW {x:Ins} {w:Nm} (hw:w.length<=11) (h:N8 4 x):jw (inT w x)<=40:=by obtain ⟨q1,q2,q3,q4⟩:=h;have:=aOM (b:=1) (fun s hs=>by rw[aFG (q4 s hs)]; decide) q3;grind [inT,nC,vU,zI,y9,Dn]
theorem bPO {i:Nat} {x:qG} (h:Gt i x):jw (um x)<=40:=by
 obtain ⟨q1,q2,q3,q4⟩:=h;have hn:x.n.length=2:=by rw[q1]; rfl
 have:=U1 (tS [44]) 8 (x.ls.map fun l => [tW l.1,tW l.2]) (fun a ha=>by grind [vU,y9,Dn]);rw[aX] at this;grind [um,nC,vU,zI,List.length_cons]
theorem bF8 {i:Nat} {x:Cst} (h:EY i x):jw (su x)<=60:=by
 obtain ⟨q1,⟨q2,q3,q4⟩,q5,q6⟩:=h;have hn:x.n.length=2:=by rw[q1]; rfl
 have nb:=UZ (v:=x.b) (by omega) (by omega);have:=U1 (tS [43]) 13 (x.ts.map fun l=>eY l.2 ++ [tS [42],tW l.1]) (fun a ha=>by grind [UZ,nC,zI,vU,y9,Dn]);rw[aX] at this;grind [su,nC,vU,zI,List.length_cons]
theorem bP7 {i:Nat} {v:Vr} (h:Ce i v):jw (sW v)<=36:=by obtain ⟨q1,q2,q3,q4,q5⟩:=h;grind [UZ,sW,nC,vU,zI]
theorem aFS {ns:List Nm} (hn:ns.length<=16) (hns:∀ s,s∈ns->s.length<=2) {k:Int} {x:EX} (h:MV (ns.length:Int) k x):jw (wo ns x)<=756:=by have hg:wL ns.length x:=⟨a1F h.t (by omega),aSV h.t,by have:=h.s; omega⟩;have:=bJQ hns (Xw hg).1 h.t;have:=h.s;omega
theorem aN0 (I:Int) (mr:List Int):∀ (l:List Nm) (i:Nat),(∀ s,s∈l->s.length=2)->jw (tK I mr i l)<=l.length*30
 | [],i,_=>by rw[tK,y9]; omega
 | s::l,i,h=>by
  have h1:=h s (by simp);have h2:=aN0 I mr l (i+1) fun x hx=>h x (by simp[hx])
  have a1:=Tz (b:=(i:Int)=I) (A := [tW [105,110,105,116,105,97,108]]) (n:=8) (by decide);have a2:=Tz (b:=(i:Int)∈mr) (A := [tW [109,97,114,107,101,100]]) (n:=7) (by decide);rw[tK,nC];grind [BH,vU,zI,List.length_cons]
theorem bGR {t:Tm} (h1:∀ s,s∈t.ls->s.length=2) (h2:∀ s,s∈t.es->s.length=2) (hv:t.vs.length<=3) (h3:∀ v,v∈t.vs->v.n.length=2) {x:Mv} (h:ND t.ls.length t.es.length t.vs.length x):jw (qp t x)<=3100:=by
 obtain ⟨p1,p2,p3,g,u1,u2,u3⟩:=h;have hl:∀ {l:List Nm} {i:Int},(∀ s,s∈l->s.length=2)->(l.getD i.toNat []).length<=2:=fun {l i} h=>by grind
 have hv1:(t.vs.map (·.n)).length=t.vs.length:=aX _;have hns:∀ s,s∈t.vs.map (·.n)->s.length=2:=fun s hs=>by grind
 have aKM:∀ s,s∈t.vs.map (·.n)->s.length<=2:=fun s hs=>xZ (hns s hs)
 have b1:=hl (i:=x.f) h1;have b2:=hl (i:=x.e) h2;have b3:=hl (i:=x.t) h1;have b4:=aFS (ns:=t.vs.map (·.n)) (by omega) aKM (k:=2) (x:=x.g) (by rw[hv1]; exact g);have b5:=U1 (tS [44]) 764 (x.us.map (pK (t.vs.map (·.n)))) (fun a ha=>by obtain ⟨u,hu,rfl⟩:=qR.1 ha;have:=aFS (ns:=t.vs.map (·.n)) (by omega) aKM (k:=1) (x:=u.2) (by rw[hv1]; grind);have c:=hl (i:=u.1) hns;grind [pK,vU,zI]);rw[aX] at b5;have a1:=a6G (b:=gq x.g tE=true) (A:=tW [119,104,101,110]::wo (t.vs.map (·.n)) x.g) (n:=761) (by rw[vU]; grind);have a2:=a6G (b:=x.us = []) (A:=tW [100,111]::jM (tS [44]) (x.us.map (pK (t.vs.map (·.n))))) (n:=2295) (by rw[vU]; grind);grind [qp,nC,vU,zI]
theorem bNJ {t:Tm} (hn:t.n.length=2) (h:Cc t):jw (pI t)<=12800:=by
 obtain ⟨⟨nl,l1,l2,l3⟩,⟨ne,n1,n2,n3⟩,hL,hI,⟨m1,m2⟩,⟨v1,v2⟩,s1,s2⟩:=h;have hl:∀ s,s∈t.ls->s.length=2:=fun s hs=>by rw[l3] at hs; exact Dn (UW hs)
 have he:∀ s,s∈t.es->s.length=2:=fun s hs=>by rw[n2] at hs; exact Dn (UW hs)
 have hv:∀ v,v∈t.vs->v.n.length=2:=fun v hv=>by obtain ⟨j,_,q⟩:=zG (P:=Ce) v2 hv;rw[q.n]; rfl
 have c1:=aOM (b:=2) (fun s hs=>xZ (he s hs)) (by rw[n2,FI]; omega);have c2:=aN0 t.I t.mr t.ls 0 hl;have ell:t.ls.length<=4:=by rw[l3,FI]; omega
 have c3:=F8 sW 36 t.vs fun v hv=>by obtain ⟨j,_,q⟩:=zG (P:=Ce) v2 hv;exact bP7 q
 have c4:=F8 (qp t) 3100 t.ms fun x hx=>bGR hl he v1 hv (s2 x hx)
 grind [pI,nC,vU,zI,List.length_cons]
theorem a8B {m:Mo} (h:Gj m):(joinL (lX m)).length<=30000:=by
 obtain ⟨hn,⟨e1,e2⟩,⟨t1,t2⟩,⟨i1,i2,i3⟩,⟨x1,x2⟩,k1,k2⟩:=h;have el:m.es.length=5:=by rw[<- aX (f:=fun e:kK=>e.n),e1]; rfl
 have c1:=F8 uN 60 m.es fun e he=>aYT (e2 e he) (by have:e.n∈m.es.map (·.n):=qR.2 ⟨_,he,rfl⟩;rw[e1] at this;grind)
 have c2:=F8 pI 12800 m.ts fun t ht=>by obtain ⟨i,h1,h2,h3⟩:=zG (P:=fun i (t:Tm)=>t.n=jY 116 i/\Cc t) t2 ht;grind [bNJ]
 have c3:=F8 (inT wC) 40 m.cs fun x hx=>aKW (by decide) (i2 x (WH _ hx))
 have c4:=F8 (inT wR) 40 m.rs fun x hx=>aKW (by decide) (i2 x (WI _ hx))
 have c5:=F8 um 40 m.xs fun x hx=>by obtain ⟨i,_,q⟩:=zG (P:=Gt) x2 hx;exact bPO q
 have c6:=F8 su 60 m.ks fun x hx=>by obtain ⟨i,_,q⟩:=zG (P:=EY) k2 hx;exact bF8 q
 grind [aLO,lX,nC,vU,zI]
end Go.Proofs.YtcdceiloganlnaaGreatDoor.W
end

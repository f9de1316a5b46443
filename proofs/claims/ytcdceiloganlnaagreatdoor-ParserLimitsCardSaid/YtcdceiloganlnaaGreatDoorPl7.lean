/- A part of the proof. -/
import Derived.Test.YtcdceiloganlnaaGreatDoorPl5
import Derived.Test.YtcdceiloganlnaaGreatDoorPl6
import Derived.Test.YtcdceiloganlnaaGreatDoorPl4
set_option linter.unusedVariables false
set_option linter.unusedSimpArgs false
set_option linter.unnecessarySimpa false
set_option linter.unusedSectionVars false
noncomputable section
open Go.IntKind (i64)
namespace Go.Proofs.YtcdceiloganlnaaGreatDoor.W
open Go.RowKit
set_option maxRecDepth 1000000
theorem aMX {s:bSI} {T:List Tok} (h:rX s = .ok T):Z9 s=mk0 T:=by unfold Z9; rw[h]; rfl
theorem known:SS.CC 12 [] []=some (.bool true,[]):=k52
theorem aJR {s:bSI}:∀ (l:List (bSI)) (k:Nat),(0<=Jq (bs s) (CO l) k↔s∈l)
 | [],k=>by
  constructor
  .intro h;have:(0:Int) <= -1:=h;omega
  .intro h; cases h
 | a::l,k=>by
  show 0<=(if bs s=bs a then (k:Int) else Jq (bs s) (CO l) (k+1))↔_;by_cases h:bs s=bs a
  .rw[aJ h];exact ⟨fun _=>by rw[aTG h]; simp,fun _=>by omega⟩
  .rw[aK h,aJR l (k+1),iQ];exact ⟨fun hm => .inr hm,fun hm=>hm.resolve_left fun e=>h (by rw[e])⟩
theorem Gh {g:FuncId} {a:bSH} {l1:bSH} {K:RS.F (.tl true 3) R} (e:SS.CC g a []=some (.sl true 3 l1,[])):En g a K=K l1:=wE e rfl
theorem aRP {g:FuncId} {a:bSH} {h:aI} {y1:Sh.V gY} {y2:Sh.V je} {K:RS.F (.t []) (fD [.c gY,.z lT,.c je])} (e:SS.CC g a h=some (.tuple [],[aF y1,some [bSF],yE y2])):H28 g a h K=K () y1 y2:=gm e rfl
theorem aRQ {g:FuncId} {a:bSH} {h:aI} {y1:Sh.V gY} {y2:Sh.V iW} {K:RS.F (.t []) (fD [.c gY,.z lT,.c iW])} (e:SS.CC g a h=some (.tuple [],[aF y1,some [bSF],vY y2])):H29 g a h K=K () y1 y2:=gm e rfl
theorem Qb {g:FuncId} {a:bSH} {h:aI} {y1:Sh.V Es} {y2:Sh.V MV} {K:RS.F (.t []) (fD [.c Es,.c MV])} (e:SS.CC g a h=some (.tuple [],[vZ y1,BJ y2])):MK g a h K=K () y1 y2:=gm e rfl
theorem aRR {g:FuncId} {a:bSH} {h:aI} {s1:bSG} {y2:Sh.V Ql} {K:RS.F (.ts) (fD [.c Ql])} (e:SS.CC g a h=some (.str s1,[some (mkS Ql y2)])):H31 g a h K=K s1 y2:=gm e rfl
theorem aBK {g:FuncId} {a:bSH} {h:aI} {n1:Int} {y2:Sh.V uZ} {K:RS.F (.t [(false,[.I .i64]),(false,[.ni])]) (fD [.c uZ])} (e:SS.CC g a h=some (.tuple [bSD n1,.raw .nilIface],[oP y2])):H32 g a h K=K ((n1,()),(),()) y2:=gm e rfl
theorem aBL {g:FuncId} {a:bSH} {h:aI} {y1:Sh.V uZ} {K:RS.F (.z (.ni)) (fD [.c uZ])} (e:SS.CC g a h=some (.raw .nilIface,[oP y1])):H33 g a h K=K y1:=gm e rfl
theorem aBM {g:FuncId} {a:bSH} {h:aI} {b1:Bool} {y2:Sh.V S7} {K:RS.F (.tb) (fD [.c S7])} (e:SS.CC g a h=some (.bool b1,[O7 y2])):H44 g a h K=K b1 y2:=gm e rfl
theorem aRT {g:FuncId} {a:bSH} {h:aI} {y1:Sh.V gY} {y2:Sh.V ve} {y3:Sh.V S9} {K:RS.F (.t []) (fD [.c gY,.z lT,.c ve,.c S9])} (e:SS.CC g a h=some (.tuple [],[aF y1,some [bSF],jC y2,O9 y3])):H45 g a h K=K () y1 y2 y3:=gm e rfl
theorem aRU {g:FuncId} {a:bSH} {h:aI} {y1:Sh.V gY} {K:RS.F (.t []) (fD [.c gY,.z lT])} (e:SS.CC g a h=some (.tuple [],[aF y1,some [bSF]])):H46 g a h K=K () y1:=gm e rfl
theorem aBN {g:FuncId} {a:bSH} {h:aI} {y1:Sh.V je} {y2:Sh.V gY} {K:RS.F (.t []) (fD [.z kF,.c je,.c gY])} (e:SS.CC g a h=some (.tuple [],[some [.ptr 2 0],yE y1,aF y2])):H47 g a h K=K () y1 y2:=gm e rfl
theorem aBO {g:FuncId} {a:bSH} {h:aI} {y1:Sh.V iW} {y2:Sh.V gY} {K:RS.F (.t []) (fD [.z kF,.c iW,.c gY])} (e:SS.CC g a h=some (.tuple [],[some [.ptr 2 0],vY y1,aF y2])):H48 g a h K=K () y1 y2:=gm e rfl
theorem aBP {g:FuncId} {a:bSH} {h:aI} {y1:Sh.V uZ} {K:RS.F (.t []) (fD [.c uZ])} (e:SS.CC g a h=some (.tuple [],[oP y1])):H51 g a h K=K () y1:=gm e rfl
theorem aRY {g:FuncId} {a:bSH} {h:aI} {n1:Int} {y2:Sh.V S7} {K:RS.F (.ti .i64) (fD [.c S7])} (e:SS.CC g a h=some (bSD n1,[O7 y2])):H63 g a h K=K n1 y2:=gm e rfl
theorem aBQ {g:FuncId} {a:bSH} {h:aI} {y1:Sh.V ve} {y2:Sh.V S9} {y3:Sh.V gY} {K:RS.F (.t []) (fD [.z jD,.c ve,.c S9,.c gY])} (e:SS.CC g a h=some (.tuple [],[some [.ptr 3 0],jC y1,O9 y2,aF y3])):H64 g a h K=K () y1 y2 y3:=gm e rfl
section
def aYX:KT:=SS.rK Tryz.f14 14 0 []
def aYY:KT:=SS.jK 14 80 0 (cS Tryz.f14 127) aYX
def aYZ:KT:=aj 0 aYY
def Ry (x1:Sh.V S0) (x4:bSH) (Pv:Int):R:=SS.LL (SS.ae 14 80) 0 [1,4,49,50,51] 0 (cS Tryz.f14 607) aYZ ⟨[(1,.cst (A0 x1)),(4,.sl true 1 x4),(49,.sl false 9 x1.2.2.1),(50,bSD (x1.2.2.1.length:Int)),(51,bSD Pv)],[]⟩
theorem aFB (x1:Sh.V S0) (x4:bSH) (Pv:Int):Ry x1 x4 Pv=aA (decide (Pv<(x1.2.2.1.length:Int))) (bD S5 x1.2.2.1 Pv fun u2=>G1 47 [bSE x4,.str u2.1] fun n11=>aA (n11 != 0) (some (bSD n11,[])) (chk (decide (x4.length+1<=aQ)) (G1 48 [A5 u2] fun n13=>aA (n13 != 0) (some (bSD n13,[])) (Ry x1 (x4 ++ ([.str u2.1]:bSH)) (i64.wrap (Pv+1)))))) (G1 49 [A0 x1] fun n15=>aA (n15 != 0) (some (bSD n15,[])) (G1 50 [A0 x1] fun n17=>some (bSD n17,[]))):=ll
theorem aY' (a0:Sh.V S0):SS.CC 14 [A0 a0] []=G3 26 [.str a0.1] fun b1=>aA (!b1) (some (bSD 7,[])) (G1 46 [.sl false 5 a0.2.1] fun n3=>aA (n3 != 0) (some (bSD n3,[])) (aA (decide (16<(a0.2.2.1.length:Int))) (some (bSD 3,[])) (aA (decide (32<(a0.2.2.2.1.length:Int))) (some (bSD 3,[])) (aA (decide (32<(a0.2.2.2.2.1.length:Int))) (some (bSD 3,[])) (aA (decide (32<(a0.2.2.2.2.2.1.length:Int))) (some (bSD 3,[])) (aA (decide (32<(a0.2.2.2.2.2.2.1.length:Int))) (some (bSD 3,[])) (Ry a0 [] 0))))))):=cc
theorem a_Z (a0:Sh.V S0):SS.CC 18 [A0 a0] []=En 45 [.sl false 3 a0.2.2.2.1] fun l1=>chk (decide (l1.length+a0.2.2.2.2.1.length<=aQ)) (G4 59 [.sl false 3 (l1 ++ a0.2.2.2.2.1),.func (.func 60) [] []] fun l3=>G4 61 [.sl false 9 a0.2.2.1,.func (.func 62) [] []] fun l5=>G4 63 [.sl false 2 a0.2.2.2.2.2.1,.func (.func 64) [] []] fun l7=>G4 65 [.sl false 3 a0.2.2.2.2.2.2.1,.func (.func 66) [] []] fun l9=>G1 67 [bSE [.func (.func 68) [] [.cst (A0 a0)],.func (.func 70) [] [.cst (A0 a0)],.func (.func 71) [] [.cst (A0 a0)],.func (.func 72) [] [.cst (A0 a0),.cst (bSE l5)],.func (.func 79) [] [.cst (.sl false 3 (l1 ++ a0.2.2.2.2.1)),.cst (bSE l3)],.func (.func 85) [] [.cst (A0 a0),.cst (bSE l7)],.func (.func 93) [] [.cst (A0 a0),.cst (bSE l9)]]] fun n11=>some (bSD n11,[])):=cc
theorem b6P (a0:bSH):SS.CC 43 [bSE a0,.func (.func 192) [] []] []=G1 158 [bSE a0,.func (.func 192) [] []] fun n1=>some (.bool (decide (0<=n1)),[]):=cc
theorem b6Q (a0:bSH):SS.CC 45 [.sl false 3 a0] []=IK a0 fun b1=>aA (b1==true) (some (.sl true 3 [],[])) (chk (decide (0+a0.length<=aQ)) (some (.sl true 3 a0,[]))):=cc
def b6R:KT:=SS.rK Tryz.f46 46 0 []
def b6S:KT:=SS.jK 46 51 0 (cS Tryz.f46 31) b6R
def b6T:KT:=aj 0 b6S
def Ja (x10:bSH) (x12:Int) (aN:bSH):R:=SS.LL (SS.ae 46 51) 0 [3,10,11,12] 1 (cS Tryz.f46 151) b6T ⟨[(3,.cZ 0 0),(10,.sl false 5 x10),(11,bSD (x10.length:Int)),(12,bSD x12)],[O33 (aN,())]⟩
theorem aHH (x10:bSH) (x12:Int) (aN:bSH):Ja x10 x12 aN=aA (decide (x12<(x10.length:Int))) (bD S4 x10 x12 fun u2=>G3 26 [.str u2.1] fun b7=>aA (!b7) (some (bSD 7,[])) (Ob none aN (.str u2.1) (fun e9=>vB e9 fun b10=>aA b10 (some (bSD 8,[])) (aA (decide (u2.2.2.2.2.1<0)) (some (bSD 2,[])) (aA (decide (4<u2.2.2.2.2.1)) (some (bSD 2,[])) (aA (u2.2.2.2.2.1 != 0) (aA u2.2.1 (some (bSD 13,[])) (aA u2.2.2.1 (some (bSD 13,[])) (chk (qB none aN (.str u2.1)&&true) (Ja x10 (i64.wrap (x12+1)) (jO none aN (.str u2.1) (.bool true)))))) (chk (qB none aN (.str u2.1)&&true) (Ja x10 (i64.wrap (x12+1)) (jO none aN (.str u2.1) (.bool true)))))))) (aA (decide (u2.2.2.2.2.1<0)) (some (bSD 2,[])) (aA (decide (4<u2.2.2.2.2.1)) (some (bSD 2,[])) (aA (u2.2.2.2.2.1 != 0) (aA u2.2.1 (some (bSD 13,[])) (aA u2.2.2.1 (some (bSD 13,[])) (chk (qB none aN (.str u2.1)&&true) (Ja x10 (i64.wrap (x12+1)) (jO none aN (.str u2.1) (.bool true)))))) (chk (qB none aN (.str u2.1)&&true) (Ja x10 (i64.wrap (x12+1)) (jO none aN (.str u2.1) (.bool true))))))))) (some (bSD 0,[])):=ll
theorem b6U (a0:bSH):SS.CC 46 [.sl false 5 a0] []=aA (decide (32<(a0.length:Int))) (some (bSD 3,[])) (Ja a0 0 []):=cc
theorem b6V (a0:bSH) (a1:bSG):SS.CC 47 [bSE a0,.str a1] []=G3 26 [.str a1] fun b1=>aA (!b1) (some (bSD 7,[])) (G3 25 [bSE a0,.str a1] fun b3=>aA b3 (some (bSD 8,[])) (some (bSD 0,[]))):=cc
def Y2:KT:=SS.rK Tryz.f48 48 0 []
def b6X:KT:=SS.jK 48 209 0 (cS Tryz.f48 7) Y2
def aHK:KT:=aj 0 b6X
def b75:KT:=SS.lK 48 209 0 [1,26,27,28] 0 (cS Tryz.f48 37) aHK
def b76:KT:=SS.jK 48 209 0 (cS Tryz.f48 485) b75
def b77:KT:=aj 1 b76
def b78:KT:=aj 2 b77
def b79:KT:=SS.jK 48 209 0 (cS Tryz.f48 63) Y2
def b7A:KT:=aj 4 b79
def b7B:KT:=SS.jK 48 209 0 (cS Tryz.f48 4095) Y2
def b6Y:KT:=aj 6 b7B
def b6Z:KT:=SS.jK 48 209 0 (cS Tryz.f48 8191) Y2
def aHI:KT:=aj 8 b6Z
def b6':KT:=SS.lK 48 209 0 [1,8,11,117,118,119] 1 (cS Tryz.f48 38911) aHI
def b70:KT:=SS.jK 48 209 0 (cS Tryz.f48 497663) b6'
def b71:KT:=aj 9 b70
def aHJ:KT:=aj 10 b71
def b72:KT:=SS.lK 48 209 0 [1,8,11,17,117,118,119,166,167,168] 2 (cS Tryz.f48 41523199) aHJ
def b73:KT:=SS.jK 48 209 0 (cS Tryz.f48 511285247) b72
def b74:KT:=aj 11 b73
def Y3 (x1:Sh.V S5) (x28:Int):R:=SS.LL (SS.ae 48 209) 0 [1,26,27,28] 0 (cS Tryz.f48 37) aHK ⟨[(1,.cst (A5 x1)),(26,.sl true 1 [bSE x1.2.2.1,bSE x1.2.1]),(27,bSD 2),(28,bSD x28)],[]⟩
def Sr (x1:Sh.V S5) (x4:bSH) (x34:Int) (x28:Int):R:=SS.LL (SS.ae 48 209) 0 [1,4,26,27,28,32,33,34] 0 (cS Tryz.f48 9829) b78 ⟨[(1,.cst (A5 x1)),(4,bSE x4),(26,.sl true 1 [bSE x1.2.2.1,bSE x1.2.1]),(27,bSD 2),(28,bSD x28),(32,bSE x4),(33,bSD (x4.length:Int)),(34,bSD x34)],[]⟩
def Jb (x1:bSG) (dP:bSH) (gI:bSH) (q0:Sh.V S6) (qJ:Int):R:=SS.LL (SS.ae 48 209) 0 [1,8,59,60,61] 1 (cS Tryz.f48 303) b7A ⟨[(1,.cst (A5 (x1,dP,gI,q0.1,q0.2.1,q0.2.2.1,q0.2.2.2.1,q0.2.2.2.2.1,q0.2.2.2.2.2.1,()))),(8,bSF),(59,bSE q0.1),(60,bSD (q0.1.length:Int)),(61,bSD qJ)],[O6 q0]⟩
def Sj (x1:bSG) (dP:bSH) (gI:bSH) (q0:Sh.V S6) (x103:Int):R:=SS.LL (SS.ae 48 209) 0 [1,8,11,101,102,103] 1 (cS Tryz.f48 19455) b6Y ⟨[(1,.cst (A5 (x1,dP,gI,q0.1,q0.2.1,q0.2.2.1,q0.2.2.2.1,q0.2.2.2.2.1,q0.2.2.2.2.2.1,()))),(8,bSF),(11,bSD (dP.length:Int)),(101,.sl false 4 q0.2.2.2.2.1),(102,bSD (q0.2.2.2.2.1.length:Int)),(103,bSD x103)],[O6 q0]⟩
def Nv (x1:bSG) (dP:bSH) (gI:bSH) (q0:Sh.V S6) (uN:Int):R:=SS.LL (SS.ae 48 209) 0 [1,8,11,117,118,119] 1 (cS Tryz.f48 38911) aHI ⟨[(1,.cst (A5 (x1,dP,gI,q0.1,q0.2.1,q0.2.2.1,q0.2.2.2.1,q0.2.2.2.2.1,q0.2.2.2.2.2.1,()))),(8,bSF),(11,bSD (dP.length:Int)),(117,.sl false 8 q0.2.2.2.2.2.1),(118,bSD (q0.2.2.2.2.2.1.length:Int)),(119,bSD uN)],[O6 q0]⟩
def Sl (x1:bSG) (dP:bSH) (gI:bSH) (q0:Sh.V S6) (q1:Sh.V S9) (x168:Int) (uN:Int):R:=SS.LL (SS.ae 48 209) 0 [1,8,11,17,117,118,119,166,167,168] 2 (cS Tryz.f48 41523199) aHJ ⟨[(1,.cst (A5 (x1,dP,gI,q0.1,q0.2.1,q0.2.2.1,q0.2.2.2.1,q0.2.2.2.2.1,q0.2.2.2.2.2.1,()))),(8,bSF),(11,bSD (dP.length:Int)),(17,.ptr 1 0),(117,.sl false 8 q0.2.2.2.2.2.1),(118,bSD (q0.2.2.2.2.2.1.length:Int)),(119,bSD uN),(166,.sl false 5 q1.2.2.2.2.2.2.2.1),(167,bSD (q1.2.2.2.2.2.2.2.1.length:Int)),(168,bSD x168)],[O6 q0,O9 q1]⟩
def a3U (x1:bSG) (dP:bSH) (gI:bSH) (q0:Sh.V S6) (q1:Sh.V S9) (q2:Sh.V tq) (uN:Int) (x168:Int):R:=bH (SS.xX 48 209 0) (cS Tryz.f48 8161695743) b74 ⟨[(1,.cst (A5 (x1,dP,gI,q0.1,q0.2.1,q0.2.2.1,q0.2.2.2.1,q0.2.2.2.2.1,q0.2.2.2.2.2.1,()))),(8,bSF),(11,bSD (dP.length:Int)),(17,.ptr 1 0),(20,.ptr 2 0),(117,.sl false 8 q0.2.2.2.2.2.1),(118,bSD (q0.2.2.2.2.2.1.length:Int)),(119,bSD uN),(166,.sl false 5 q1.2.2.2.2.2.2.2.1),(167,bSD (q1.2.2.2.2.2.2.2.1.length:Int)),(168,bSD x168)],[O6 q0,O9 q1,O11 q2]⟩
theorem a3V (x1:Sh.V S5) (x28:Int):Y3 x1 x28=aA (decide (x28<2)) (dQ [bSE x1.2.2.1,bSE x1.2.1] x28 fun e1=>vL false 1 e1 fun l2=>Sr x1 l2 0 x28) (aA ((x1.2.2.2.1.length:Int) !=(x1.2.2.1.length:Int)) (some (bSD 6,[])) (Jb x1.1 x1.2.1 x1.2.2.1 (x1.2.2.2.1,x1.2.2.2.2.1,x1.2.2.2.2.2.1,x1.2.2.2.2.2.2.1,x1.2.2.2.2.2.2.2.1,x1.2.2.2.2.2.2.2.2.1,()) 0)):=ll
theorem aHP (x1:Sh.V S5) (x4:bSH) (x34:Int) (x28:Int):Sr x1 x4 x34 x28=aA (decide (x34<(x4.length:Int))) (dQ x4 x34 fun e1=>vS e1 fun s2=>chk (decide (0<=x34)&&decide (x34<=(x4.length:Int))) (G1 47 [bSE (x4.take x34.toNat),.str s2] fun n3=>aA (n3 != 0) (some (bSD n3,[])) (Sr x1 x4 (i64.wrap (x34+1)) x28))) (Y3 x1 (i64.wrap (x28+1))):=ll
theorem aHL (x1:bSG) (dP:bSH) (gI:bSH) (q0:Sh.V S6) (qJ:Int):Jb x1 dP gI q0 qJ=aA (decide (qJ<(q0.1.length:Int))) (dQ q0.1 qJ fun e1=>vI .i64 e1 fun n2=>aA (n2 != qJ) (some (bSD 6,[])) (Jb x1 dP gI q0 (i64.wrap (qJ+1)))) (aA (q0.2.1 !=(dP.length:Int)) (some (bSD 4,[])) (aA (decide (q0.2.2.1<0)) (some (bSD 2,[])) (aA (decide ((if (1:Int)>(dP.length:Int) then (1:Int) else (dP.length:Int))<=q0.2.2.1)) (some (bSD 2,[])) (G1 159 [bSE q0.2.2.2.1,bSD (dP.length:Int)] fun n3=>aA (n3 != 0) (some (bSD n3,[])) (G1 160 [.sl false 4 q0.2.2.2.2.1] fun n5=>aA (n5 != 0) (some (bSD n5,[])) (Sj x1 dP gI q0 0)))))):=ll
theorem aHM (x1:bSG) (dP:bSH) (gI:bSH) (q0:Sh.V S6) (x103:Int):Sj x1 dP gI q0 x103=aA (decide (x103<(q0.2.2.2.2.1.length:Int))) (bD S7 q0.2.2.2.2.1 x103 fun u2=>aA (u2.1.toList==(⟨#[116,114,117,101]⟩:bSG).toList) (some (bSD 7,[])) (aA (u2.1.toList==(⟨#[102,97,108,115,101]⟩:bSG).toList) (some (bSD 7,[])) (Sj x1 dP gI q0 (i64.wrap (x103+1))))) (Nv x1 dP gI q0 0):=ll
theorem aHN (x1:bSG) (dP:bSH) (gI:bSH) (q0:Sh.V S6) (uN:Int):Nv x1 dP gI q0 uN=aA (decide (uN<(q0.2.2.2.2.2.1.length:Int))) (bD S9 q0.2.2.2.2.2.1 uN fun u2=>aA (decide (u2.1<0)) (some (bSD 2,[])) (aA (decide ((dP.length:Int)<=u2.1)) (some (bSD 2,[])) (aA (decide (u2.2.1<0)) (some (bSD 2,[])) (aA (decide ((gI.length:Int)<=u2.2.1)) (some (bSD 2,[])) (aA (decide (u2.2.2.1<0)) (some (bSD 2,[])) (aA (decide ((dP.length:Int)<=u2.2.2.1)) (some (bSD 2,[])) (G1 161 [A1 (u2.2.2.2.1,u2.2.2.2.2.1,u2.2.2.2.2.2.1,u2.2.2.2.2.2.2.1,()),bSD (q0.2.2.2.2.1.length:Int),bSD 2] fun n10=>aA (n10 != 0) (some (bSD n10,[])) (Sl x1 dP gI q0 u2 0 uN)))))))) (some (bSD 0,[])):=ll
theorem aHO (x1:bSG) (dP:bSH) (gI:bSH) (q0:Sh.V S6) (q1:Sh.V S9) (x168:Int) (uN:Int):Sl x1 dP gI q0 q1 x168 uN=aA (decide (x168<(q1.2.2.2.2.2.2.2.1.length:Int))) (bD tq q1.2.2.2.2.2.2.2.1 x168 fun u2=>aA (decide (u2.1<0)) (some (bSD 2,[])) (aA (decide ((q0.2.2.2.2.1.length:Int)<=u2.1)) (some (bSD 2,[])) (aA (decide (0<x168)) (bD tq q1.2.2.2.2.2.2.2.1 (i64.wrap (x168-1)) fun u8=>aA (decide (u2.1<=u8.1)) (some (bSD 5,[])) (a3U x1 dP gI q0 q1 u2 uN x168)) (a3U x1 dP gI q0 q1 u2 uN x168)))) (Nv x1 dP gI q0 (i64.wrap (uN+1))):=ll
theorem b6W (x1:bSG) (dP:bSH) (gI:bSH) (q0:Sh.V S6) (q1:Sh.V S9) (q2:Sh.V tq) (uN:Int) (x168:Int):a3U x1 dP gI q0 q1 q2 uN x168=G1 161 [A1 (q2.2.1,q2.2.2.1,q2.2.2.2.1,q2.2.2.2.2.1,()),bSD (q0.2.2.2.2.1.length:Int),bSD 1] fun n1=>aA (n1 != 0) (some (bSD n1,[])) (Sl x1 dP gI q0 q1 (i64.wrap (x168+1)) uN):=by kernel_rfl
theorem b7C (a0:Sh.V S5):SS.CC 48 [A5 a0] []=Y3 a0 0:=cc
def b7D:KT:=SS.rK Tryz.f49 49 0 []
def b7E:KT:=SS.jK 49 48 0 (cS Tryz.f49 15) b7D
def aHQ:KT:=aj 0 b7E
def b7F:KT:=SS.lK 49 48 0 [3,14,15,16] 0 (cS Tryz.f49 75) aHQ
def b7G:KT:=SS.jK 49 48 0 (cS Tryz.f49 971) b7F
def b7H:KT:=aj 1 b7G
def b7I:KT:=aj 2 b7H
def Nw (x14:bSH) (x15:Int) (x3:bSH) (x16:Int):R:=SS.LL (SS.ae 49 48) 0 [3,14,15,16] 0 (cS Tryz.f49 75) aHQ ⟨[(3,.sl true 1 x3),(14,.sl true 3 x14),(15,bSD x15),(16,bSD x16)],[]⟩
def Su (x14:bSH) (x15:Int) (x3:bSH) (VJ:bSH) (x38:Int) (x39:Int) (x16:Int):R:=SS.LL (SS.ae 49 48) 0 [3,14,15,16,37,38,39] 0 (cS Tryz.f49 81099) b7I ⟨[(3,.sl true 1 x3),(14,.sl true 3 x14),(15,bSD x15),(16,bSD x16),(37,.sl true 1 VJ),(38,bSD x38),(39,bSD x39)],[]⟩
theorem aHS (x14:bSH) (x15:Int) (x3:bSH) (x16:Int):Nw x14 x15 x3 x16=aA (decide (x16<x15)) (bD S8 x14 x16 fun u2=>G1 47 [bSE x3,.str u2.1] fun n5=>aA (n5 != 0) (some (bSD n5,[])) (chk (decide (x3.length+1<=aQ)) (chk (decide (1+u2.2.2.1.length<=aQ)) (Su x14 x15 (x3 ++ ([.str u2.1]:bSH)) (([.str u2.2.1]:bSH) ++ u2.2.2.1) ((([.str u2.2.1]:bSH) ++ u2.2.2.1).length:Int) 0 x16)))) (some (bSD 0,[])):=ll
theorem aHR (x14:bSH) (x15:Int) (x3:bSH) (VJ:bSH) (x38:Int) (x39:Int) (x16:Int):Su x14 x15 x3 VJ x38 x39 x16=aA (decide (x39<x38)) (dQ VJ x39 fun e1=>vS e1 fun s2=>G3 26 [.str s2] fun b3=>aA (!b3) (some (bSD 7,[])) (Su x14 x15 x3 VJ x38 (i64.wrap (x39+1)) x16)) (Nw x14 x15 x3 (i64.wrap (x16+1))):=ll
theorem b7J (a0:Sh.V S0):SS.CC 49 [A0 a0] []=En 45 [.sl false 3 a0.2.2.2.1] fun l1=>chk (decide (l1.length+a0.2.2.2.2.1.length<=aQ)) (Nw (l1 ++ a0.2.2.2.2.1) ((l1 ++ a0.2.2.2.2.1).length:Int) [] 0):=cc
def aHT:KT:=SS.rK Tryz.f50 50 0 []
def b7K:KT:=SS.jK 50 108 0 (cS Tryz.f50 15) aHT
def aHU:KT:=aj 0 b7K
def b7P:KT:=SS.lK 50 108 0 [1,3,15,16,17] 0 (cS Tryz.f50 75) aHU
def b7Q:KT:=SS.jK 50 108 0 (cS Tryz.f50 971) b7P
def b7R:KT:=aj 1 b7Q
def b7S:KT:=aj 2 b7R
def b7T:KT:=SS.jK 50 108 0 (cS Tryz.f50 63) aHT
def aHV:KT:=aj 4 b7T
def b7U:KT:=SS.lK 50 108 0 [3,57,58,59] 0 (cS Tryz.f50 303) aHV
def b7L:KT:=SS.jK 50 108 0 (cS Tryz.f50 3887) b7U
def b7M:KT:=aj 5 b7L
def b7N:KT:=SS.jK 50 108 0 (cS Tryz.f50 258863) b7M
def b7O:KT:=aj 6 b7N
def Nz (x1:Sh.V S0) (x3:bSH) (x17:Int):R:=SS.LL (SS.ae 50 108) 0 [1,3,15,16,17] 0 (cS Tryz.f50 75) aHU ⟨[(1,.cst (A0 x1)),(3,.sl true 1 x3),(15,.sl false 2 x1.2.2.2.2.2.1),(16,bSD (x1.2.2.2.2.2.1.length:Int)),(17,bSD x17)],[]⟩
def Sv (x1:Sh.V S0) (x38:bSH) (x3:bSH) (x40:Int) (x17:Int):R:=SS.LL (SS.ae 50 108) 0 [1,3,15,16,17,38,39,40] 0 (cS Tryz.f50 163019) b7S ⟨[(1,.cst (A0 x1)),(3,.sl true 1 x3),(15,.sl false 2 x1.2.2.2.2.2.1),(16,bSD (x1.2.2.2.2.2.1.length:Int)),(17,bSD x17),(38,.sl false 2 x38),(39,bSD (x38.length:Int)),(40,bSD x40)],[]⟩
def Ny (yu:bSH) (x3:bSH) (BG:Int):R:=SS.LL (SS.ae 50 108) 0 [3,57,58,59] 0 (cS Tryz.f50 303) aHV ⟨[(3,.sl true 1 x3),(57,.sl false 3 yu),(58,bSD (yu.length:Int)),(59,bSD BG)],[]⟩
def Sz (yu:bSH) (q0:Sh.V iW) (x82:Int) (x3:bSH) (BG:Int):R:=SS.LL (SS.ae 50 108) 0 [3,10,57,58,59,80,81,82] 1 (cS Tryz.f50 1241903) b7O ⟨[(3,.sl true 1 x3),(10,bSF),(57,.sl false 3 yu),(58,bSD (yu.length:Int)),(59,bSD BG),(80,.sl false 2 q0.2.1),(81,bSD (q0.2.1.length:Int)),(82,bSD x82)],[vY q0]⟩
theorem aHZ (x1:Sh.V S0) (x3:bSH) (x17:Int):Nz x1 x3 x17=aA (decide (x17<(x1.2.2.2.2.2.1.length:Int))) (bD je x1.2.2.2.2.2.1 x17 fun u2=>G1 47 [bSE x3,.str u2.1] fun n4=>aA (n4 != 0) (some (bSD n4,[])) (chk (decide (x3.length+1<=aQ)) (aA ((u2.2.1.length:Int)==0) (some (bSD 12,[])) (Sv x1 u2.2.1 (x3 ++ ([.str u2.1]:bSH)) 0 x17)))) (Ny x1.2.2.2.2.2.2.1 [] 0):=ll
theorem aHW (x1:Sh.V S0) (x38:bSH) (x3:bSH) (x40:Int) (x17:Int):Sv x1 x38 x3 x40 x17=aA (decide (x40<(x38.length:Int))) (bD zG x38 x40 fun u2=>G3 26 [.str u2.1] fun b4=>aA (!b4) (some (bSD 7,[])) (G3 26 [.str u2.2.1] fun b6=>aA (!b6) (some (bSD 7,[])) (Sv x1 x38 x3 (i64.wrap (x40+1)) x17))) (Nz x1 x3 (i64.wrap (x17+1))):=ll
theorem aHX (yu:bSH) (x3:bSH) (BG:Int):Ny yu x3 BG=aA (decide (BG<(yu.length:Int))) (bD iW yu BG fun u2=>G1 47 [bSE x3,.str u2.1] fun n5=>aA (n5 != 0) (some (bSD n5,[])) (chk (decide (x3.length+1<=aQ)) (aA ((u2.2.1.length:Int)==0) (some (bSD 12,[])) (Sz yu u2 0 (x3 ++ ([.str u2.1]:bSH)) BG)))) (some (bSD 0,[])):=ll
theorem aHY (yu:bSH) (q0:Sh.V iW) (x82:Int) (x3:bSH) (BG:Int):Sz yu q0 x82 x3 BG=aA (decide (x82<(q0.2.1.length:Int))) (bD AC q0.2.1 x82 fun u2=>G3 26 [.str u2.1] fun b4=>aA (!b4) (some (bSD 7,[])) (aA (decide (u2.2.1<(-65536))) (some (bSD 2,[])) (aA (decide (65536<u2.2.1)) (some (bSD 2,[])) (Sz yu q0 (i64.wrap (x82+1)) x3 BG)))) (aA (decide (q0.2.2.1<(-65536))) (some (bSD 2,[])) (aA (decide (65536<q0.2.2.1)) (some (bSD 2,[])) (Ny yu x3 (i64.wrap (BG+1))))):=ll
theorem b7V (a0:Sh.V S0):SS.CC 50 [A0 a0] []=Nz a0 [] 0:=cc
def b97:KT:=SS.rK Tryz.f59 59 0 []
def b98:KT:=SS.jK 59 22 0 (cS Tryz.f59 15) b97
def b99:KT:=aj 0 b98
def YA (x8:bSH) (x5:bSH) (x10:Int):R:=SS.LL (SS.ae 59 22) 0 [1,5,8,9,10] 0 (cS Tryz.f59 75) b99 ⟨[(1,.func (.func 60) [] []),(5,.sl true 1 x5),(8,.sl false 3 x8),(9,bSD (x8.length:Int)),(10,bSD x10)],[]⟩
theorem aII (x8:bSH) (x5:bSH) (x10:Int):YA x8 x5 x10=aA (decide (x10<(x8.length:Int))) (bD S8 x8 x10 fun u2=>G2 60 [A8 u2] fun s5=>chk (decide (x5.length+1<=aQ)) (YA x8 (x5 ++ ([.str s5]:bSH)) (i64.wrap (x10+1)))) (some (bSE x5,[])):=ll
theorem b9A (a0:bSH):SS.CC 59 [.sl false 3 a0,.func (.func 60) [] []] []=YA a0 [] 0:=cc
theorem b9B (a0:Sh.V S8):SS.CC 60 [A8 a0] []=some (.str a0.1,[]):=cc
def b9G:KT:=SS.rK Tryz.f61 61 0 []
def b9H:KT:=SS.jK 61 22 0 (cS Tryz.f61 15) b9G
def b9I:KT:=aj 0 b9H
def YD (x8:bSH) (x5:bSH) (x10:Int):R:=SS.LL (SS.ae 61 22) 0 [1,5,8,9,10] 0 (cS Tryz.f61 75) b9I ⟨[(1,.func (.func 62) [] []),(5,.sl true 1 x5),(8,.sl false 9 x8),(9,bSD (x8.length:Int)),(10,bSD x10)],[]⟩
theorem aIK (x8:bSH) (x5:bSH) (x10:Int):YD x8 x5 x10=aA (decide (x10<(x8.length:Int))) (bD S5 x8 x10 fun u2=>G2 62 [A5 u2] fun s11=>chk (decide (x5.length+1<=aQ)) (YD x8 (x5 ++ ([.str s11]:bSH)) (i64.wrap (x10+1)))) (some (bSE x5,[])):=ll
theorem b9J (a0:bSH):SS.CC 61 [.sl false 9 a0,.func (.func 62) [] []] []=YD a0 [] 0:=cc
theorem b9K (a0:Sh.V S5):SS.CC 62 [A5 a0] []=some (.str a0.1,[]):=cc
def b9P:KT:=SS.rK Tryz.f63 63 0 []
def b9Q:KT:=SS.jK 63 22 0 (cS Tryz.f63 15) b9P
def b9R:KT:=aj 0 b9Q
def YF (x8:bSH) (x5:bSH) (x10:Int):R:=SS.LL (SS.ae 63 22) 0 [1,5,8,9,10] 0 (cS Tryz.f63 75) b9R ⟨[(1,.func (.func 64) [] []),(5,.sl true 1 x5),(8,.sl false 2 x8),(9,bSD (x8.length:Int)),(10,bSD x10)],[]⟩
theorem aIM (x8:bSH) (x5:bSH) (x10:Int):YF x8 x5 x10=aA (decide (x10<(x8.length:Int))) (bD je x8 x10 fun u2=>G2 64 [zB u2] fun s4=>chk (decide (x5.length+1<=aQ)) (YF x8 (x5 ++ ([.str s4]:bSH)) (i64.wrap (x10+1)))) (some (bSE x5,[])):=ll
theorem b9S (a0:bSH):SS.CC 63 [.sl false 2 a0,.func (.func 64) [] []] []=YF a0 [] 0:=cc
theorem b9T (a0:Sh.V je):SS.CC 64 [zB a0] []=some (.str a0.1,[]):=cc
def b9Y:KT:=SS.rK Tryz.f65 65 0 []
def b9Z:KT:=SS.jK 65 22 0 (cS Tryz.f65 15) b9Y
def b9':KT:=aj 0 b9Z
def YH (x8:bSH) (x5:bSH) (x10:Int):R:=SS.LL (SS.ae 65 22) 0 [1,5,8,9,10] 0 (cS Tryz.f65 75) b9' ⟨[(1,.func (.func 66) [] []),(5,.sl true 1 x5),(8,.sl false 3 x8),(9,bSD (x8.length:Int)),(10,bSD x10)],[]⟩
theorem aIO (x8:bSH) (x5:bSH) (x10:Int):YH x8 x5 x10=aA (decide (x10<(x8.length:Int))) (bD iW x8 x10 fun u2=>G2 66 [uT u2] fun s5=>chk (decide (x5.length+1<=aQ)) (YH x8 (x5 ++ ([.str s5]:bSH)) (i64.wrap (x10+1)))) (some (bSE x5,[])):=ll
theorem bA0 (a0:bSH):SS.CC 65 [.sl false 3 a0,.func (.func 66) [] []] []=YH a0 [] 0:=cc
theorem bA1 (a0:Sh.V iW):SS.CC 66 [uT a0] []=some (.str a0.1,[]):=cc
def bA2:KT:=SS.rK Tryz.f67 67 0 []
def bA3:KT:=SS.jK 67 18 0 (cS Tryz.f67 7) bA2
def bA4:KT:=aj 0 bA3
def YI (x6:bSH) (x8:Int):R:=SS.LL (SS.ae 67 18) 0 [6,7,8] 0 (cS Tryz.f67 37) bA4 ⟨[(6,bSE x6),(7,bSD (x6.length:Int)),(8,bSD x8)],[]⟩
theorem aIP (x6:bSH) (x8:Int):YI x6 x8=aA (decide (x8<(x6.length:Int))) (dQ x6 x8 fun e1=>chk (decide (e1.isAgg=false)&&decide (e1.size=1)) (NV (PV.un (PV.un (PV.un e1))) fun g2 f3 c4=>chk (PV.flats (f3 ++ [] ++ c4)) (jF SS.CC g2 (f3 ++ [] ++ c4) fun r5=>vI .i64 r5 fun n6=>aA (n6 != 0) (some (bSD n6,[])) (YI x6 (i64.wrap (x8+1)))))) (some (bSD 0,[])):=ll
theorem bA5 (a0:bSH):SS.CC 67 [bSE a0] []=YI a0 0:=cc
theorem bA6 (a0:Sh.V S0):SS.CC 68 [.cst (A0 a0)] []=G3 26 [.str a0.1] fun b1=>G1 69 [.bool (!b1),bSD 7] fun n3=>some (bSD n3,[]):=cc
theorem bA7 (a0:Bool) (a1:Int):SS.CC 69 [.bool a0,bSD a1] []=aA a0 (some (bSD a1,[])) (some (bSD 0,[])):=cc
theorem bA8 (a0:Sh.V S0):SS.CC 70 [.cst (A0 a0)] []=G1 46 [.sl false 5 a0.2.1] fun n1=>some (bSD n1,[]):=cc
theorem bA9 (a0:Sh.V S0):SS.CC 71 [.cst (A0 a0)] []=aA (decide (16<(a0.2.2.1.length:Int))) (G1 69 [.bool true,bSD 3] fun n1=>some (bSD n1,[])) (G1 69 [.bool (decide (32<(if (a0.2.2.2.2.2.2.1.length:Int)>(if (a0.2.2.2.2.2.1.length:Int)>(if (a0.2.2.2.2.1.length:Int)>(a0.2.2.2.1.length:Int) then (a0.2.2.2.2.1.length:Int) else (a0.2.2.2.1.length:Int)) then (a0.2.2.2.2.2.1.length:Int) else (if (a0.2.2.2.2.1.length:Int)>(a0.2.2.2.1.length:Int) then (a0.2.2.2.2.1.length:Int) else (a0.2.2.2.1.length:Int))) then (a0.2.2.2.2.2.2.1.length:Int) else (if (a0.2.2.2.2.2.1.length:Int)>(if (a0.2.2.2.2.1.length:Int)>(a0.2.2.2.1.length:Int) then (a0.2.2.2.2.1.length:Int) else (a0.2.2.2.1.length:Int)) then (a0.2.2.2.2.2.1.length:Int) else (if (a0.2.2.2.2.1.length:Int)>(a0.2.2.2.1.length:Int) then (a0.2.2.2.2.1.length:Int) else (a0.2.2.2.1.length:Int)))))),bSD 3] fun n3=>some (bSD n3,[])):=cc
theorem bAA (a0:Sh.V S0) (a1:bSH):SS.CC 72 [.cst (A0 a0),.cst (bSE a1)] []=G1 73 [.sl false 9 a0.2.2.1,.func (.func 74) [] [.cst (bSE a1),.cst (A0 a0)]] fun n1=>some (bSD n1,[]):=cc
def bAB:KT:=SS.rK Tryz.f73 73 0 []
def bAC:KT:=SS.jK 73 19 0 (cS Tryz.f73 7) bAB
def bAD:KT:=aj 0 bAC
def YJ (x1:bSH) (dP:bSG) (gI:bSH) (pK:bSH) (pM:bSH) (pO:bSH) (pR:bSH) (pU:bSH) (x8:Int) (x9:Int):R:=SS.LL (SS.ae 73 19) 0 [1,8,9] 0 (cS Tryz.f73 37) bAD ⟨[(1,.func (.func 74) [] [.cst (bSE x1),.cst (A0 (dP,gI,pK,pM,pO,pR,pU,()))]),(8,bSD x8),(9,bSD x9)],[]⟩
theorem aIQ (x1:bSH) (dP:bSG) (gI:bSH) (pK:bSH) (pM:bSH) (pO:bSH) (pR:bSH) (pU:bSH) (x8:Int) (x9:Int):YJ x1 dP gI pK pM pO pR pU x8 x9=aA (decide (x9<x8)) (G1 74 [bSD x9,.cst (bSE x1),.cst (A0 (dP,gI,pK,pM,pO,pR,pU,()))] fun n1=>aA (n1 != 0) (some (bSD n1,[])) (YJ x1 dP gI pK pM pO pR pU x8 (i64.wrap (x9+1)))) (some (bSD 0,[])):=ll
theorem bAE (a0:bSH) (a1:bSH) (yF:bSG) (BN:bSH) (BO:bSH) (BP:bSH) (BQ:bSH) (BR:bSH) (BU:bSH):SS.CC 73 [.sl false 9 a0,.func (.func 74) [] [.cst (bSE a1),.cst (A0 (yF,BN,BO,BP,BQ,BR,BU,()))]] []=YJ a1 yF BN BO BP BQ BR BU (a0.length:Int) 0:=cc
theorem bAF (a0:Int) (a1:bSH) (a2:Sh.V S0):SS.CC 74 [bSD a0,.cst (bSE a1),.cst (A0 a2)] []=G1 67 [bSE [.func (.func 75) [] [.cst (bSE a1),.cst (bSD a0)],.func (.func 77) [] [.cst (A0 a2),.cst (bSD a0)]]] fun n1=>some (bSD n1,[]):=cc
theorem bAG (a0:bSH) (a1:Int):SS.CC 75 [.cst (bSE a0),.cst (bSD a1)] []=chk (decide (0<=(i64.wrap (a1+1)))&&decide ((i64.wrap (a1+1))<=(a0.length:Int))) (G1 76 [bSE (a0.take (i64.wrap (a1+1)).toNat)] fun n1=>some (bSD n1,[])):=cc
theorem bAH (a0:bSH):SS.CC 76 [bSE a0] []=dQ a0 (i64.wrap ((a0.length:Int)-1)) fun e1=>vS e1 fun s2=>G3 26 [.str s2] fun b3=>aA (!b3) (some (bSD 7,[])) (chk (decide (0<=(i64.wrap ((a0.length:Int)-1)))&&decide ((i64.wrap ((a0.length:Int)-1))<=(a0.length:Int))) (G3 25 [bSE (a0.take (i64.wrap ((a0.length:Int)-1)).toNat),.str s2] fun b5=>G1 69 [.bool b5,bSD 8] fun n7=>some (bSD n7,[]))):=cc
theorem bAI (a0:Sh.V S0) (a1:Int):SS.CC 77 [.cst (A0 a0),.cst (bSD a1)] []=bD S5 a0.2.2.1 a1 fun u2=>G1 78 [A5 u2] fun n11=>some (bSD n11,[]):=cc
theorem bAJ (a0:Sh.V S5):SS.CC 78 [A5 a0] []=G1 67 [bSE [.func (.func 176) [] [.cst (A5 a0)],.func (.func 178) [] [.cst (A5 a0)],.func (.func 179) [] [.cst (A6 (a0.2.2.2.1,a0.2.2.2.2.1,a0.2.2.2.2.2.1,a0.2.2.2.2.2.2.1,a0.2.2.2.2.2.2.2.1,a0.2.2.2.2.2.2.2.2.1,())),.cst (A5 a0)],.func (.func 181) [] [.cst (A6 (a0.2.2.2.1,a0.2.2.2.2.1,a0.2.2.2.2.2.1,a0.2.2.2.2.2.2.1,a0.2.2.2.2.2.2.2.1,a0.2.2.2.2.2.2.2.2.1,())),.cst (A5 a0)],.func (.func 182) [] [.cst (A6 (a0.2.2.2.1,a0.2.2.2.2.1,a0.2.2.2.2.2.1,a0.2.2.2.2.2.2.1,a0.2.2.2.2.2.2.2.1,a0.2.2.2.2.2.2.2.2.1,()))],.func (.func 183) [] [.cst (A6 (a0.2.2.2.1,a0.2.2.2.2.1,a0.2.2.2.2.2.1,a0.2.2.2.2.2.2.1,a0.2.2.2.2.2.2.2.1,a0.2.2.2.2.2.2.2.2.1,()))],.func (.func 184) [] [.cst (A6 (a0.2.2.2.1,a0.2.2.2.2.1,a0.2.2.2.2.2.1,a0.2.2.2.2.2.2.1,a0.2.2.2.2.2.2.2.1,a0.2.2.2.2.2.2.2.2.1,()))],.func (.func 185) [] [.cst (A6 (a0.2.2.2.1,a0.2.2.2.2.1,a0.2.2.2.2.2.1,a0.2.2.2.2.2.2.1,a0.2.2.2.2.2.2.2.1,a0.2.2.2.2.2.2.2.2.1,()))],.func (.func 188) [] [.cst (A6 (a0.2.2.2.1,a0.2.2.2.2.1,a0.2.2.2.2.2.1,a0.2.2.2.2.2.2.1,a0.2.2.2.2.2.2.2.1,a0.2.2.2.2.2.2.2.2.1,())),.cst (A5 a0)]]] fun n1=>some (bSD n1,[]):=cc
theorem bAK (a0:bSH) (a1:bSH):SS.CC 79 [.cst (.sl false 3 a0),.cst (bSE a1)] []=G1 80 [.sl false 3 a0,.func (.func 81) [] [.cst (bSE a1),.cst (.sl false 3 a0)]] fun n1=>some (bSD n1,[]):=cc
def bAL:KT:=SS.rK Tryz.f80 80 0 []
def bAM:KT:=SS.jK 80 19 0 (cS Tryz.f80 7) bAL
def bAN:KT:=aj 0 bAM
def YK (x1:bSH) (dP:bSH) (x8:Int) (x9:Int):R:=SS.LL (SS.ae 80 19) 0 [1,8,9] 0 (cS Tryz.f80 37) bAN ⟨[(1,.func (.func 81) [] [.cst (bSE x1),.cst (.sl false 3 dP)]),(8,bSD x8),(9,bSD x9)],[]⟩
theorem aIR (x1:bSH) (dP:bSH) (x8:Int) (x9:Int):YK x1 dP x8 x9=aA (decide (x9<x8)) (G1 81 [bSD x9,.cst (bSE x1),.cst (.sl false 3 dP)] fun n1=>aA (n1 != 0) (some (bSD n1,[])) (YK x1 dP x8 (i64.wrap (x9+1)))) (some (bSD 0,[])):=ll
theorem bAO (a0:bSH) (a1:bSH) (yF:bSH):SS.CC 80 [.sl false 3 a0,.func (.func 81) [] [.cst (bSE a1),.cst (.sl false 3 yF)]] []=YK a1 yF (a0.length:Int) 0:=cc
theorem bAP (a0:Int) (a1:bSH) (a2:bSH):SS.CC 81 [bSD a0,.cst (bSE a1),.cst (.sl false 3 a2)] []=G1 67 [bSE [.func (.func 82) [] [.cst (bSE a1),.cst (bSD a0)],.func (.func 83) [] [.cst (.sl false 3 a2),.cst (bSD a0)]]] fun n1=>some (bSD n1,[]):=cc
theorem bAQ (a0:bSH) (a1:Int):SS.CC 82 [.cst (bSE a0),.cst (bSD a1)] []=chk (decide (0<=(i64.wrap (a1+1)))&&decide ((i64.wrap (a1+1))<=(a0.length:Int))) (G1 76 [bSE (a0.take (i64.wrap (a1+1)).toNat)] fun n1=>some (bSD n1,[])):=cc
theorem bAR (a0:bSH) (a1:Int):SS.CC 83 [.cst (.sl false 3 a0),.cst (bSD a1)] []=bD S8 a0 a1 fun u2=>bD S8 a0 a1 fun u6=>chk (decide (1+u6.2.2.1.length<=aQ)) (G3 84 [bSE (([.str u2.2.1]:bSH) ++ u6.2.2.1)] fun b9=>G1 69 [.bool (!b9),bSD 7] fun n11=>some (bSD n11,[])):=cc
theorem bAS (a0:bSH):SS.CC 84 [bSE a0] []=G3 43 [bSE a0,.func (.func 192) [] []] fun b1=>some (.bool (!b1),[]):=cc
theorem bAT (a0:Sh.V S0) (a1:bSH):SS.CC 85 [.cst (A0 a0),.cst (bSE a1)] []=G1 86 [.sl false 2 a0.2.2.2.2.2.1,.func (.func 87) [] [.cst (bSE a1),.cst (A0 a0)]] fun n1=>some (bSD n1,[]):=cc
def bAU:KT:=SS.rK Tryz.f86 86 0 []
def bAV:KT:=SS.jK 86 19 0 (cS Tryz.f86 7) bAU
def bAW:KT:=aj 0 bAV
def YL (x1:bSH) (dP:bSG) (gI:bSH) (pK:bSH) (pM:bSH) (pO:bSH) (pR:bSH) (pU:bSH) (x8:Int) (x9:Int):R:=SS.LL (SS.ae 86 19) 0 [1,8,9] 0 (cS Tryz.f86 37) bAW ⟨[(1,.func (.func 87) [] [.cst (bSE x1),.cst (A0 (dP,gI,pK,pM,pO,pR,pU,()))]),(8,bSD x8),(9,bSD x9)],[]⟩
theorem aIS (x1:bSH) (dP:bSG) (gI:bSH) (pK:bSH) (pM:bSH) (pO:bSH) (pR:bSH) (pU:bSH) (x8:Int) (x9:Int):YL x1 dP gI pK pM pO pR pU x8 x9=aA (decide (x9<x8)) (G1 87 [bSD x9,.cst (bSE x1),.cst (A0 (dP,gI,pK,pM,pO,pR,pU,()))] fun n1=>aA (n1 != 0) (some (bSD n1,[])) (YL x1 dP gI pK pM pO pR pU x8 (i64.wrap (x9+1)))) (some (bSD 0,[])):=ll
theorem bAX (a0:bSH) (a1:bSH) (yF:bSG) (BN:bSH) (BO:bSH) (BP:bSH) (BQ:bSH) (BR:bSH) (BU:bSH):SS.CC 86 [.sl false 2 a0,.func (.func 87) [] [.cst (bSE a1),.cst (A0 (yF,BN,BO,BP,BQ,BR,BU,()))]] []=YL a1 yF BN BO BP BQ BR BU (a0.length:Int) 0:=cc
theorem bAY (a0:Int) (a1:bSH) (a2:Sh.V S0):SS.CC 87 [bSD a0,.cst (bSE a1),.cst (A0 a2)] []=G1 67 [bSE [.func (.func 88) [] [.cst (bSE a1),.cst (bSD a0)],.func (.func 89) [] [.cst (A0 a2),.cst (bSD a0)],.func (.func 90) [] [.cst (A0 a2),.cst (bSD a0)]]] fun n1=>some (bSD n1,[]):=cc
theorem bAZ (a0:bSH) (a1:Int):SS.CC 88 [.cst (bSE a0),.cst (bSD a1)] []=chk (decide (0<=(i64.wrap (a1+1)))&&decide ((i64.wrap (a1+1))<=(a0.length:Int))) (G1 76 [bSE (a0.take (i64.wrap (a1+1)).toNat)] fun n1=>some (bSD n1,[])):=cc
theorem bA' (a0:Sh.V S0) (a1:Int):SS.CC 89 [.cst (A0 a0),.cst (bSD a1)] []=bD je a0.2.2.2.2.2.1 a1 fun u2=>G1 69 [.bool ((u2.2.1.length:Int)==0),bSD 12] fun n4=>some (bSD n4,[]):=cc
theorem bB0 (a0:Sh.V S0) (a1:Int):SS.CC 90 [.cst (A0 a0),.cst (bSD a1)] []=bD je a0.2.2.2.2.2.1 a1 fun u2=>G3 91 [.sl false 2 u2.2.1,.func (.func 92) [] []] fun b4=>G1 69 [.bool b4,bSD 7] fun n6=>some (bSD n6,[]):=cc
theorem bB3 (a0:bSH):SS.CC 91 [.sl false 2 a0,.func (.func 92) [] []] []=G1 193 [.sl false 2 a0,.func (.func 92) [] []] fun n1=>some (.bool (decide (0<=n1)),[]):=cc
theorem bB4 (a0:Sh.V zG):SS.CC 92 [zC a0] []=G3 84 [bSE [.str a0.1,.str a0.2.1]] fun b1=>some (.bool (!b1),[]):=cc
theorem bB5 (a0:Sh.V S0) (a1:bSH):SS.CC 93 [.cst (A0 a0),.cst (bSE a1)] []=G1 94 [.sl false 3 a0.2.2.2.2.2.2.1,.func (.func 95) [] [.cst (bSE a1),.cst (A0 a0)]] fun n1=>some (bSD n1,[]):=cc
def bB6:KT:=SS.rK Tryz.f94 94 0 []
def bB7:KT:=SS.jK 94 19 0 (cS Tryz.f94 7) bB6
def bB8:KT:=aj 0 bB7
def YM (x1:bSH) (dP:bSG) (gI:bSH) (pK:bSH) (pM:bSH) (pO:bSH) (pR:bSH) (pU:bSH) (x8:Int) (x9:Int):R:=SS.LL (SS.ae 94 19) 0 [1,8,9] 0 (cS Tryz.f94 37) bB8 ⟨[(1,.func (.func 95) [] [.cst (bSE x1),.cst (A0 (dP,gI,pK,pM,pO,pR,pU,()))]),(8,bSD x8),(9,bSD x9)],[]⟩
theorem aIT (x1:bSH) (dP:bSG) (gI:bSH) (pK:bSH) (pM:bSH) (pO:bSH) (pR:bSH) (pU:bSH) (x8:Int) (x9:Int):YM x1 dP gI pK pM pO pR pU x8 x9=aA (decide (x9<x8)) (G1 95 [bSD x9,.cst (bSE x1),.cst (A0 (dP,gI,pK,pM,pO,pR,pU,()))] fun n1=>aA (n1 != 0) (some (bSD n1,[])) (YM x1 dP gI pK pM pO pR pU x8 (i64.wrap (x9+1)))) (some (bSD 0,[])):=ll
theorem bB9 (a0:bSH) (a1:bSH) (yF:bSG) (BN:bSH) (BO:bSH) (BP:bSH) (BQ:bSH) (BR:bSH) (BU:bSH):SS.CC 94 [.sl false 3 a0,.func (.func 95) [] [.cst (bSE a1),.cst (A0 (yF,BN,BO,BP,BQ,BR,BU,()))]] []=YM a1 yF BN BO BP BQ BR BU (a0.length:Int) 0:=cc
theorem bBA (a0:Int) (a1:bSH) (a2:Sh.V S0):SS.CC 95 [bSD a0,.cst (bSE a1),.cst (A0 a2)] []=G1 67 [bSE [.func (.func 96) [] [.cst (bSE a1),.cst (bSD a0)],.func (.func 97) [] [.cst (A0 a2),.cst (bSD a0)]]] fun n1=>some (bSD n1,[]):=cc
theorem bBB (a0:bSH) (a1:Int):SS.CC 96 [.cst (bSE a0),.cst (bSD a1)] []=chk (decide (0<=(i64.wrap (a1+1)))&&decide ((i64.wrap (a1+1))<=(a0.length:Int))) (G1 76 [bSE (a0.take (i64.wrap (a1+1)).toNat)] fun n1=>some (bSD n1,[])):=cc
theorem bBC (a0:Sh.V S0) (a1:Int):SS.CC 97 [.cst (A0 a0),.cst (bSD a1)] []=bD iW a0.2.2.2.2.2.2.1 a1 fun u2=>G1 98 [uT u2] fun n5=>some (bSD n5,[]):=cc
def bBD:KT:=SS.rK Tryz.f98 98 0 []
def bBE:KT:=SS.jK 98 28 0 (cS Tryz.f98 15) bBD
def bBF:KT:=aj 0 bBE
def TB (x1:Sh.V iW) (x12:Int):R:=SS.LL (SS.ae 98 28) 0 [1,10,11,12] 0 (cS Tryz.f98 75) bBF ⟨[(1,.cst (uT x1)),(10,.sl false 2 x1.2.1),(11,bSD (x1.2.1.length:Int)),(12,bSD x12)],[]⟩
theorem aIU (x1:Sh.V iW) (x12:Int):TB x1 x12=aA (decide (x12<(x1.2.1.length:Int))) (bD AC x1.2.1 x12 fun u2=>G3 26 [.str u2.1] fun b4=>aA (!b4) (some (bSD 7,[])) (G3 194 [bSD u2.2.1] fun b6=>aA b6 (some (bSD 2,[])) (TB x1 (i64.wrap (x12+1))))) (G3 194 [bSD x1.2.2.1] fun b8=>G1 69 [.bool b8,bSD 2] fun n10=>some (bSD n10,[])):=ll
theorem bBG (a0:Sh.V iW):SS.CC 98 [uT a0] []=aA ((a0.2.1.length:Int)==0) (some (bSD 12,[])) (TB a0 0):=cc
def aXU:KT:=SS.rK Tryz.f139 139 0 []
def aXV:KT:=SS.jK 139 26 0 (cS Tryz.f139 15) aXU
def aXW:KT:=aj 0 aXV
def XV (x0:bSH) (x1:bSH) (gz:Int):R:=SS.LL (SS.ae 139 26) 0 [0,1,12,13] 0 (cS Tryz.f139 75) aXW ⟨[(0,bSE x0),(1,bSE x1),(12,bSD (x0.length:Int)),(13,bSD gz)],[]⟩
theorem a2K (x0:bSH) (x1:bSH) (gz:Int):XV x0 x1 gz=aA (decide (gz<(x0.length:Int))) (dQ x0 gz fun e1=>vI .i64 e1 fun n2=>dQ x1 gz fun e3=>vI .i64 e3 fun n4=>aA (n2 != n4) (some (.bool false,[])) (XV x0 x1 (i64.wrap (gz+1)))) (some (.bool true,[])):=ll
theorem aF5 (a0:bSH) (a1:bSH):SS.CC 139 [bSE a0,bSE a1] []=aA ((a0.length:Int) !=(a1.length:Int)) (some (.bool false,[])) (XV a0 a1 0):=cc
def aZ5:KT:=SS.rK Tryz.f158 158 0 []
def aZ6:KT:=SS.jK 158 19 0 (cS Tryz.f158 7) aZ5
def aZ7:KT:=aj 0 aZ6
def Rz (x0:bSH) (x8:Int):R:=SS.LL (SS.ae 158 19) 0 [0,1,7,8] 0 (cS Tryz.f158 37) aZ7 ⟨[(0,bSE x0),(1,.func (.func 192) [] []),(7,bSD (x0.length:Int)),(8,bSD x8)],[]⟩
theorem aFD (x0:bSH) (x8:Int):Rz x0 x8=aA (decide (x8<(x0.length:Int))) (dQ x0 x8 fun e1=>vS e1 fun s2=>G3 192 [.str s2] fun b3=>aA b3 (some (bSD x8,[])) (Rz x0 (i64.wrap (x8+1)))) (some (bSD (-1),[])):=ll
theorem aZ8 (a0:bSH):SS.CC 158 [bSE a0,.func (.func 192) [] []] []=Rz a0 0:=cc
def aZ9:KT:=SS.rK Tryz.f159 159 0 []
def aZA:KT:=SS.jK 159 33 0 (cS Tryz.f159 7) aZ9
def aZB:KT:=aj 0 aZA
def SA (x0:bSH) (x1:Int) (x9:Int):R:=SS.LL (SS.ae 159 33) 0 [0,1,7,8,9] 0 (cS Tryz.f159 37) aZB ⟨[(0,bSE x0),(1,bSD x1),(7,bSE x0),(8,bSD (x0.length:Int)),(9,bSD x9)],[]⟩
theorem aFE (x0:bSH) (x1:Int) (x9:Int):SA x0 x1 x9=aA (decide (x9<(x0.length:Int))) (dQ x0 x9 fun e1=>vI .i64 e1 fun n2=>aA (decide (n2<0)) (some (bSD 2,[])) (aA (decide (x1<=n2)) (some (bSD 2,[])) (aA (decide (0<x9)) (dQ x0 (i64.wrap (x9-1)) fun e3=>vI .i64 e3 fun n4=>aA (decide (n2<=n4)) (some (bSD 5,[])) (SA x0 x1 (i64.wrap (x9+1)))) (SA x0 x1 (i64.wrap (x9+1)))))) (some (bSD 0,[])):=ll
theorem aZC (a0:bSH) (a1:Int):SS.CC 159 [bSE a0,bSD a1] []=SA a0 a1 0:=cc
def aZD:KT:=SS.rK Tryz.f160 160 0 []
def aZE:KT:=SS.jK 160 55 0 (cS Tryz.f160 15) aZD
def aZF:KT:=aj 0 aZE
def Xc (x0:bSH) (x10:Int):R:=SS.LL (SS.ae 160 55) 0 [0,8,9,10] 0 (cS Tryz.f160 75) aZF ⟨[(0,.sl false 4 x0),(8,.sl false 4 x0),(9,bSD (x0.length:Int)),(10,bSD x10)],[]⟩
theorem aFF (x0:bSH) (x10:Int):Xc x0 x10=aA (decide (x10<(x0.length:Int))) (bD S7 x0 x10 fun u2=>G3 26 [.str u2.1] fun b6=>aA (!b6) (some (bSD 7,[])) (chk (decide (0<=x10)&&decide (x10<=(x0.length:Int))) (H44 186 [.sl false 4 (x0.take x10.toNat),.func (.func 237) [] [bSF]] [O7 u2] fun b8 u9=>aA b8 (some (bSD 8,[])) (G3 203 [bSD u9.2.1,bSD 65536] fun b15=>aA b15 (some (bSD 2,[])) (G3 203 [bSD u9.2.2.1,bSD 65536] fun b17=>aA b17 (some (bSD 2,[])) (aA (decide (u9.2.2.1<u9.2.1)) (some (bSD 5,[])) (aA (decide (u9.2.2.2.1<u9.2.1)) (some (bSD 2,[])) (aA (decide (u9.2.2.1<u9.2.2.2.1)) (some (bSD 2,[])) (Xc x0 (i64.wrap (x10+1))))))))))) (some (bSD 0,[])):=ll
theorem aZG (a0:bSH):SS.CC 160 [.sl false 4 a0] []=aA (decide (16<(a0.length:Int))) (some (bSD 3,[])) (Xc a0 0):=cc
theorem aZH (a0:Sh.V S1) (a1:Int) (a2:Int):SS.CC 161 [A1 a0,bSD a1,bSD a2] []=G6 27 [A1 a0,bSD a1] fun u1=>aA (u1.2.1.1==0) (aA (u1.1.1 != a2) (some (bSD 16,[])) (some (bSD u1.2.1.1,[]))) (some (bSD u1.2.1.1,[])):=cc
theorem a_A (a0:Sh.V S5):SS.CC 176 [.cst (A5 a0)] []=G1 177 [bSE a0.2.2.1] fun n1=>some (bSD n1,[]):=cc
def a_B:KT:=SS.rK Tryz.f177 177 0 []
def a_C:KT:=SS.jK 177 21 0 (cS Tryz.f177 7) a_B
def a_D:KT:=aj 0 a_C
def Xj (x0:bSH) (x7:Int):R:=SS.LL (SS.ae 177 21) 0 [0,5,6,7] 0 (cS Tryz.f177 37) a_D ⟨[(0,bSE x0),(5,bSE x0),(6,bSD (x0.length:Int)),(7,bSD x7)],[]⟩
theorem aG1 (x0:bSH) (x7:Int):Xj x0 x7=aA (decide (x7<(x0.length:Int))) (dQ x0 x7 fun e1=>vS e1 fun s2=>G3 26 [.str s2] fun b3=>aA (!b3) (some (bSD 7,[])) (chk (decide (0<=x7)&&decide (x7<=(x0.length:Int))) (G3 25 [bSE (x0.take x7.toNat),.str s2] fun b5=>aA b5 (some (bSD 8,[])) (Xj x0 (i64.wrap (x7+1)))))) (some (bSD 0,[])):=ll
theorem a_E (a0:bSH):SS.CC 177 [bSE a0] []=Xj a0 0:=cc
theorem a_F (a0:Sh.V S5):SS.CC 178 [.cst (A5 a0)] []=G1 177 [bSE a0.2.1] fun n1=>some (bSD n1,[]):=cc
theorem a_G (a0:Sh.V S6) (a1:Sh.V S5):SS.CC 179 [.cst (A6 a0),.cst (A5 a1)] []=G4 180 [bSD (a1.2.2.1.length:Int)] fun l1=>G3 139 [bSE a0.1,bSE l1] fun b3=>G1 69 [.bool (!b3),bSD 6] fun n5=>some (bSD n5,[]):=cc
def a_I:KT:=SS.rK Tryz.f180 180 0 []
def a_J:KT:=SS.jK 180 15 0 (cS Tryz.f180 15) a_I
def a_K:KT:=aj 0 a_J
def Xk (x5:Int) (x3:bSH) (x6:Int):R:=SS.LL (SS.ae 180 15) 0 [3,5,6] 0 (cS Tryz.f180 75) a_K ⟨[(3,.sl true 1 x3),(5,bSD x5),(6,bSD x6)],[]⟩
theorem aG2 (x5:Int) (x3:bSH) (x6:Int):Xk x5 x3 x6=aA (decide (x6<x5)) (chk (decide (x3.length+1<=aQ)) (Xk x5 (x3 ++ ([bSD x6]:bSH)) (i64.wrap (x6+1)))) (some (bSE x3,[])):=ll
theorem a_L (a0:Int):SS.CC 180 [bSD a0] []=Xk a0 [] 0:=cc
theorem a_M (a0:Sh.V S6) (a1:Sh.V S5):SS.CC 181 [.cst (A6 a0),.cst (A5 a1)] []=G1 69 [.bool (a0.2.1 !=(a1.2.1.length:Int)),bSD 4] fun n1=>some (bSD n1,[]):=cc
theorem a_N (a0:Sh.V S6):SS.CC 182 [.cst (A6 a0)] []=aA (decide (a0.2.2.1<0)) (G1 69 [.bool true,bSD 2] fun n1=>some (bSD n1,[])) (G1 69 [.bool (decide ((if (1:Int)>a0.2.1 then (1:Int) else a0.2.1)<=a0.2.2.1)),bSD 2] fun n3=>some (bSD n3,[])):=cc
theorem a_O (a0:Sh.V S6):SS.CC 183 [.cst (A6 a0)] []=G1 159 [bSE a0.2.2.2.1,bSD a0.2.1] fun n1=>some (bSD n1,[]):=cc
theorem a_P (a0:Sh.V S6):SS.CC 184 [.cst (A6 a0)] []=G1 160 [.sl false 4 a0.2.2.2.2.1] fun n1=>some (bSD n1,[]):=cc
theorem a_Q (a0:Sh.V S6):SS.CC 185 [.cst (A6 a0)] []=G3 186 [.sl false 4 a0.2.2.2.2.1,.func (.func 187) [] []] fun b1=>G1 69 [.bool b1,bSD 7] fun n3=>some (bSD n3,[]):=cc
theorem a_R (a0:bSH):SS.CC 186 [.sl false 4 a0,.func (.func 187) [] []] []=G1 247 [.sl false 4 a0,.func (.func 187) [] []] fun n1=>some (.bool (decide (0<=n1)),[]):=cc
theorem a_S (a0:bSH) (h0:Sh.V S7):SS.CC 186 [.sl false 4 a0,.func (.func 237) [] [bSF]] [O7 h0]=H63 247 [.sl false 4 a0,.func (.func 237) [] [bSF]] [O7 h0] fun n1 u2=>some (.bool (decide (0<=n1)),[O7 u2]):=cc
theorem a_T (a0:Sh.V S7):SS.CC 187 [A7 a0] []=G3 112 [.str a0.1] fun b1=>some (.bool b1,[]):=cc
theorem a_U (a0:Sh.V S6) (a1:Sh.V S5):SS.CC 188 [.cst (A6 a0),.cst (A5 a1)] []=G1 189 [.sl false 8 a0.2.2.2.2.2.1,.func (.func 190) [] [.cst (A5 a1),.cst (A6 a0)]] fun n1=>some (bSD n1,[]):=cc
def a_V:KT:=SS.rK Tryz.f189 189 0 []
def a_W:KT:=SS.jK 189 19 0 (cS Tryz.f189 7) a_V
def a_X:KT:=aj 0 a_W
def Xl (x1:bSG) (dP:bSH) (gI:bSH) (pK:bSH) (pM:Int) (pO:Int) (pR:bSH) (pU:bSH) (VC:bSH) (VD:bSH) (VE:Int) (VF:Int) (VG:bSH) (VH:bSH) (VI:bSH) (x8:Int) (x9:Int):R:=SS.LL (SS.ae 189 19) 0 [1,8,9] 0 (cS Tryz.f189 37) a_X ⟨[(1,.func (.func 190) [] [.cst (A5 (x1,dP,gI,pK,pM,pO,pR,pU,VC,())),.cst (A6 (VD,VE,VF,VG,VH,VI,()))]),(8,bSD x8),(9,bSD x9)],[]⟩
theorem aG3 (x1:bSG) (dP:bSH) (gI:bSH) (pK:bSH) (pM:Int) (pO:Int) (pR:bSH) (pU:bSH) (VC:bSH) (VD:bSH) (VE:Int) (VF:Int) (VG:bSH) (VH:bSH) (VI:bSH) (x8:Int) (x9:Int):Xl x1 dP gI pK pM pO pR pU VC VD VE VF VG VH VI x8 x9=aA (decide (x9<x8)) (G1 190 [bSD x9,.cst (A5 (x1,dP,gI,pK,pM,pO,pR,pU,VC,())),.cst (A6 (VD,VE,VF,VG,VH,VI,()))] fun n1=>aA (n1 != 0) (some (bSD n1,[])) (Xl x1 dP gI pK pM pO pR pU VC VD VE VF VG VH VI x8 (i64.wrap (x9+1)))) (some (bSD 0,[])):=ll
theorem a_Y (a0:bSH) (a1:bSG) (yF:bSH) (BN:bSH) (BO:bSH) (BP:Int) (BQ:Int) (BR:bSH) (BU:bSH) (aC8:bSH) (aC9:bSH) (aC3:Int) (aC4:Int) (aC5:bSH) (aC6:bSH) (aC7:bSH):SS.CC 189 [.sl false 8 a0,.func (.func 190) [] [.cst (A5 (a1,yF,BN,BO,BP,BQ,BR,BU,aC8,())),.cst (A6 (aC9,aC3,aC4,aC5,aC6,aC7,()))]] []=Xl a1 yF BN BO BP BQ BR BU aC8 aC9 aC3 aC4 aC5 aC6 aC7 (a0.length:Int) 0:=cc
theorem a_' (a0:Int) (a1:Sh.V S5) (a2:Sh.V S6):SS.CC 190 [bSD a0,.cst (A5 a1),.cst (A6 a2)] []=bD S9 a2.2.2.2.2.2.1 a0 fun u2=>G1 191 [A5 a1,A9 u2] fun n10=>some (bSD n10,[]):=cc
def b04:KT:=SS.rK Tryz.f191 191 0 []
def b05:KT:=SS.jK 191 97 0 (cS Tryz.f191 63) b04
def aG4:KT:=aj 0 b05
def b06:KT:=SS.lK 191 97 0 [3,5,59,60,61] 0 (cS Tryz.f191 303) aG4
def b07:KT:=SS.jK 191 97 0 (cS Tryz.f191 3887) b06
def b08:KT:=aj 1 b07
def SG (x3:Sh.V S9) (x5:Int) (qJ:Int):R:=SS.LL (SS.ae 191 97) 0 [3,5,59,60,61] 0 (cS Tryz.f191 303) aG4 ⟨[(3,.cst (A9 x3)),(5,bSD x5),(59,.sl false 5 x3.2.2.2.2.2.2.2.1),(60,bSD (x3.2.2.2.2.2.2.2.1.length:Int)),(61,bSD qJ)],[]⟩
def a2R (x3:Sh.V S9) (x5:Int) (q0:Sh.V tq) (qJ:Int):R:=bH (SS.xX 191 97 0) (cS Tryz.f191 62255) b08 ⟨[(3,.cst (A9 x3)),(5,bSD x5),(8,bSF),(59,.sl false 5 x3.2.2.2.2.2.2.2.1),(60,bSD (x3.2.2.2.2.2.2.2.1.length:Int)),(61,bSD qJ)],[O11 q0]⟩
theorem aG5 (x3:Sh.V S9) (x5:Int) (qJ:Int):SG x3 x5 qJ=aA (decide (qJ<(x3.2.2.2.2.2.2.2.1.length:Int))) (bD tq x3.2.2.2.2.2.2.2.1 qJ fun u2=>aA (decide (u2.1<0)) (some (bSD 2,[])) (aA (decide (x5<=u2.1)) (some (bSD 2,[])) (aA (decide (0<qJ)) (bD tq x3.2.2.2.2.2.2.2.1 (i64.wrap (qJ-1)) fun u8=>aA (decide (u2.1<=u8.1)) (some (bSD 5,[])) (a2R x3 x5 u2 qJ)) (a2R x3 x5 u2 qJ)))) (some (bSD 0,[])):=ll
theorem b03 (x3:Sh.V S9) (x5:Int) (q0:Sh.V tq) (qJ:Int):a2R x3 x5 q0 qJ=G1 248 [A1 (q0.2.1,q0.2.2.1,q0.2.2.2.1,q0.2.2.2.2.1,()),bSD x5,bSD 1] fun n1=>aA (n1 != 0) (some (bSD n1,[])) (SG x3 x5 (i64.wrap (qJ+1))):=by kernel_rfl
theorem b09 (a0:Sh.V S5) (a1:Sh.V S9):SS.CC 191 [A5 a0,A9 a1] []=aA (decide (a1.1<0)) (some (bSD 2,[])) (aA (decide (a0.2.2.2.2.1<=a1.1)) (some (bSD 2,[])) (aA (decide (a1.2.1<0)) (some (bSD 2,[])) (aA (decide ((a0.2.2.1.length:Int)<=a1.2.1)) (some (bSD 2,[])) (aA (decide (a1.2.2.1<0)) (some (bSD 2,[])) (aA (decide (a0.2.2.2.2.1<=a1.2.2.1)) (some (bSD 2,[])) (G1 248 [A1 (a1.2.2.2.1,a1.2.2.2.2.1,a1.2.2.2.2.2.1,a1.2.2.2.2.2.2.1,()),bSD (a0.2.2.2.2.2.2.2.1.length:Int),bSD 2] fun n1=>aA (n1 != 0) (some (bSD n1,[])) (SG a1 (a0.2.2.2.2.2.2.2.1.length:Int) 0))))))):=cc
theorem b0A (a0:bSG):SS.CC 192 [.str a0] []=G3 26 [.str a0] fun b1=>some (.bool (!b1),[]):=cc
def b0B:KT:=SS.rK Tryz.f193 193 0 []
def b0C:KT:=SS.jK 193 19 0 (cS Tryz.f193 7) b0B
def b0D:KT:=aj 0 b0C
def SH (x0:bSH) (x8:Int):R:=SS.LL (SS.ae 193 19) 0 [0,1,7,8] 0 (cS Tryz.f193 37) b0D ⟨[(0,.sl false 2 x0),(1,.func (.func 92) [] []),(7,bSD (x0.length:Int)),(8,bSD x8)],[]⟩
theorem aG6 (x0:bSH) (x8:Int):SH x0 x8=aA (decide (x8<(x0.length:Int))) (bD zG x0 x8 fun u2=>G3 92 [zC u2] fun b4=>aA b4 (some (bSD x8,[])) (SH x0 (i64.wrap (x8+1)))) (some (bSD (-1),[])):=ll
theorem b0E (a0:bSH):SS.CC 193 [.sl false 2 a0,.func (.func 92) [] []] []=SH a0 0:=cc
theorem b0F (a0:Int):SS.CC 194 [bSD a0] []=aA (decide (a0<(-65536))) (some (.bool true,[])) (some (.bool (decide (65536<a0)),[])):=cc
theorem b1O (a0:Sh.V S7) (h0:Sh.V S7):SS.CC 237 [A7 a0,bSF] [O7 h0]=some (.bool (a0.1.toList==h0.1.toList),[O7 h0]):=cc
def b2G:KT:=SS.rK Tryz.f247 247 1 []
def b2H:KT:=SS.jK 247 19 1 (cS Tryz.f247 7) b2G
def b2I:KT:=aj 0 b2H
def SN (x0:bSH) (q0:Sh.V S7) (x8:Int):R:=SS.LL (SS.ae 247 19) 1 [0,1,7,8] 1 (cS Tryz.f247 37) b2I ⟨[(0,.sl false 4 x0),(1,.func (.func 237) [] [bSF]),(7,bSD (x0.length:Int)),(8,bSD x8)],[O7 q0]⟩
theorem aGF (x0:bSH) (q0:Sh.V S7) (x8:Int):SN x0 q0 x8=aA (decide (x8<(x0.length:Int))) (bD S7 x0 x8 fun u2=>H44 237 [A7 u2,bSF] [O7 q0] fun b6 u7=>aA b6 (some (bSD x8,[O7 u7])) (SN x0 u7 (i64.wrap (x8+1)))) (some (bSD (-1),[O7 q0])):=ll
theorem b2J (a0:bSH) (h0:Sh.V S7):SS.CC 247 [.sl false 4 a0,.func (.func 237) [] [bSF]] [O7 h0]=SN a0 h0 0:=cc
def b2C:KT:=SS.rK Tryz.f247 247 0 []
def b2D:KT:=SS.jK 247 19 0 (cS Tryz.f247 7) b2C
def b2E:KT:=aj 0 b2D
def SL (x0:bSH) (x8:Int):R:=SS.LL (SS.ae 247 19) 0 [0,1,7,8] 0 (cS Tryz.f247 37) b2E ⟨[(0,.sl false 4 x0),(1,.func (.func 187) [] []),(7,bSD (x0.length:Int)),(8,bSD x8)],[]⟩
theorem aGE (x0:bSH) (x8:Int):SL x0 x8=aA (decide (x8<(x0.length:Int))) (bD S7 x0 x8 fun u2=>G3 187 [A7 u2] fun b6=>aA b6 (some (bSD x8,[])) (SL x0 (i64.wrap (x8+1)))) (some (bSD (-1),[])):=ll
theorem b2F (a0:bSH):SS.CC 247 [.sl false 4 a0,.func (.func 187) [] []] []=SL a0 0:=cc
theorem b2K (a0:Sh.V S1) (a1:Int) (a2:Int):SS.CC 248 [A1 a0,bSD a1,bSD a2] []=G6 27 [A1 a0,bSD a1] fun u1=>aA (u1.2.1.1 != 0) (some (bSD u1.2.1.1,[])) (G1 69 [.bool (u1.1.1 != a2),bSD 16] fun n4=>some (bSD n4,[])):=cc
end
abbrev Nm:=bSI
structure Vr where
 n:Nm
 lo:Int
 hi:Int
 i:Int
structure sH where
 n:Nm
 c:Bool
 o:Bool
 f:Bool
 k:Int
structure Mv where
 f:Int
 e:Int
 t:Int
 g:EX
 us:List (Int×EX)
structure Tm where
 n:Nm
 ls:List Nm
 es:List Nm
 al:List Int
 L:Int
 I:Int
 mr:List Int
 vs:List Vr
 ms:List Mv
structure Ins where
 n:Nm
 t:Nm
 es:List Nm
structure vX where
 n:Nm
 ls:List (Nm×Nm)
structure Cst where
 n:Nm
 ts:List (Nm×Int)
 b:Int
structure Mo where
 n:Nm
 es:List sH
 ts:List Tm
 cs:List Ins
 rs:List Ins
 xs:List vX
 ks:List Cst
abbrev aS (l:List Nm):bSH:=yU (CO l)
abbrev Ip (v:Vr):Sh.V S7:=(bs v.n,v.lo,v.hi,v.i,())
abbrev lg (e:sH):Sh.V S4:=(bs e.n,e.c,e.o,e.f,e.k,())
abbrev vUp (u:Int×EX):Sh.V tq:=(u.1,(ev u.2).1,(ev u.2).2.1,(ev u.2).2.2.1,(ev u.2).2.2.2.1,())
abbrev pUp (u:Int×EX):PV:=A11 (vUp u)
abbrev mO (x:Mv):Sh.V S9:=(x.f,x.e,x.t,(ev x.g).1,(ev x.g).2.1,(ev x.g).2.2.1,(ev x.g).2.2.2.1,x.us.map pUp,())
abbrev Oy (x:Mv):PV:=A9 (mO x)
abbrev uy (v:Vr):PV:=A7 (Ip v)
abbrev KW (e:sH):PV:=A4 (lg e)
abbrev fA (t:Tm):Sh.V S5:=(bs t.n,aS t.ls,aS t.es,kS t.al,t.L,t.I,kS t.mr,t.vs.map uy,t.ms.map Oy,())
abbrev wP (t:Tm):PV:=A5 (fA t)
abbrev D7 (x:Ins):Sh.V S8:=(bs x.n,bs x.t,aS x.es,())
abbrev cu (x:Ins):PV:=A8 (D7 x)
abbrev vLc (l:Nm×Nm):Sh.V zG:=(bs l.1,bs l.2,())
abbrev wO (l:Nm×Nm):PV:=zC (vLc l)
abbrev Ec (x:vX):Sh.V je:=(bs x.n,x.ls.map wO,())
abbrev uw (x:vX):PV:=zB (Ec x)
abbrev vTr (t:Nm×Int):Sh.V AC:=(bs t.1,t.2,())
abbrev FY (t:Nm×Int):PV:=QP (vTr t)
abbrev oJ (x:Cst):Sh.V iW:=(bs x.n,x.ts.map FY,x.b,())
abbrev nC (x:Cst):PV:=uT (oJ x)
abbrev aW (m:Mo):Sh.V S0:=(bs m.n,m.es.map KW,m.ts.map wP,m.cs.map cu,m.rs.map cu,m.xs.map uw,m.ks.map nC,())
abbrev AB (l:List Nm):Prop:=l.length<=1000/\∀ s,s∈l->s.length<=1000
abbrev aBV (n:Int):Prop := -9223372036854775808<=n/\n<=9223372036854775807
structure uY (t:Tm):Prop where
 ls:AB t.ls
 es:AB t.es
 al:t.al.length<=1000
 mr:t.mr.length<=1000
 vs:t.vs.length<=1000/\∀ v,v∈t.vs->v.n.length<=1000/\aBV v.lo/\aBV v.hi
 ms:t.ms.length<=1000/\∀ x,x∈t.ms->x.g.Len/\x.us.length<=1000/\∀ u,u∈x.us->u.2.Len
structure kY (m:Mo):Prop where
 n:m.n.length<=1000
 es:m.es.length<=1000/\∀ e,e∈m.es->e.n.length<=1000
 ts:m.ts.length<=1000/\∀ t,t∈m.ts->t.n.length<=1000/\uY t
 is:m.cs.length<=1000/\m.rs.length<=1000/\∀ x,x∈m.cs ++ m.rs->x.n.length<=1000/\x.t.length<=1000/\AB x.es
 xs:m.xs.length<=1000/\∀ x,x∈m.xs->x.n.length<=1000/\x.ls.length<=1000/\∀ l,l∈x.ls->l.1.length<=1000/\l.2.length<=1000
 ks:m.ks.length<=1000/\∀ x,x∈m.ks->x.n.length<=1000/\x.ts.length<=1000/\∀ l,l∈x.ts->l.1.length<=1000
theorem EF {α:Type} {S:List Sh} {f:α->PV} {g:α->Sh.V S} (hg:∀ a (K:Sh.V S->R),Ht S (f a) K=K (g a)) {l:List α} {k:Nat} (hk:k<l.length) (K:Sh.V S->R):bD S (l.map f) (k:Int) K=K (g l[k]):=by show dQ (l.map f) (k:Int) _=_;rw[lH (e:=f l[k]) (by omega) (by rw[nX,iU,iM hk]; rfl)];exact hg _ _
theorem a5V {l:List sH} {k:Nat} (hk:k<l.length) (K:Sh.V S4->R):bD S4 (l.map KW) (k:Int) K=K (lg l[k]):=EF (g:=lg) (fun _ _=>rfl) hk K
theorem KE {l:List Vr} {k:Nat} (hk:k<l.length) (K:Sh.V S7->R):bD S7 (l.map uy) (k:Int) K=K (Ip l[k]):=EF (g:=Ip) (fun _ _=>rfl) hk K
theorem OW {l:List (Int×EX)} {k:Nat} (hk:k<l.length) (K:Sh.V tq->R):bD tq (l.map pUp) (k:Int) K=K (vUp l[k]):=EF (g:=vUp) (fun _ _=>rfl) hk K
theorem Yu {l:List Mv} {k:Nat} (hk:k<l.length) (K:Sh.V S9->R):bD S9 (l.map Oy) (k:Int) K=K (mO l[k]):=EF (g:=mO) (fun _ _=>rfl) hk K
theorem FP {l:List Tm} {k:Nat} (hk:k<l.length) (K:Sh.V S5->R):bD S5 (l.map wP) (k:Int) K=K (fA l[k]):=EF (g:=fA) (fun _ _=>rfl) hk K
theorem zU {l:List Ins} {k:Nat} (hk:k<l.length) (K:Sh.V S8->R):bD S8 (l.map cu) (k:Int) K=K (D7 l[k]):=EF (g:=D7) (fun _ _=>rfl) hk K
theorem Jz {l:List (Nm×Nm)} {k:Nat} (hk:k<l.length) (K:Sh.V zG->R):bD zG (l.map wO) (k:Int) K=K (vLc l[k]):=EF (g:=vLc) (fun _ _=>rfl) hk K
theorem EE {l:List vX} {k:Nat} (hk:k<l.length) (K:Sh.V je->R):bD je (l.map uw) (k:Int) K=K (Ec l[k]):=EF (g:=Ec) (fun _ _=>rfl) hk K
theorem KC {l:List (Nm×Int)} {k:Nat} (hk:k<l.length) (K:Sh.V AC->R):bD AC (l.map FY) (k:Int) K=K (vTr l[k]):=EF (g:=vTr) (fun _ _=>rfl) hk K
theorem FO {l:List Cst} {k:Nat} (hk:k<l.length) (K:Sh.V iW->R):bD iW (l.map nC) (k:Int) K=K (oJ l[k]):=EF (g:=oJ) (fun _ _=>rfl) hk K
theorem EG {l:List Nm} {k:Nat} (hk:k<l.length) (K:PV->R):dQ (aS l) (k:Int) K=K (.str (bs l[k])):=lH (by omega) (a6K hk)
theorem OV {l:List Int} {k:Nat} (hk:k<l.length) (K:PV->R):dQ (kS l) (k:Int) K=K (bSD l[k]):=lH (by omega) (by rw[nX,iU,iM hk]; rfl)
theorem Zp (l:List Nm) (k:Nat):(aS l).take k=aS (l.take k):=by unfold aS yU CO; rw[Lp,Lp,VN]
theorem lD (l:List Nm):(aS l).length=l.length:=bHC l
theorem bMN (a b:List Nm):aS a ++ aS b=aS (a ++ b):=by unfold aS yU CO; simp
abbrev bK (e:Int):R:=some (bSD e,[])
def zo (v:Nat->Int):Nat->Nat->Int
 | _,0=>0
 | k,m+1=>if v k=0 then zo v (k+1) m else v k
def pV (v:Nat->Int) (n:Nat):Int:=zo v 0 n
def sq (a b:Int):Int:=if a=0 then b else a
theorem aPN {v w:Nat->Int}:∀ (m k:Nat),(∀ i,k<=i->i<k+m->v i=w i)->zo v k m=zo w k m
 | 0,_,_=>rfl
 | m+1,k,h=>by rw[zo,zo,h k (bW _) (by omega),aPN m (k+1) fun i a b=>h i (by omega) (by omega)]
theorem aCC {v w:Nat->Int} {n:Nat} (h:∀ i,i<n->v i=w i):pV v n=pV w n:=aPN n 0 fun i _ b=>h i (by omega)
theorem aPP {L:Nat->R} {E:R} {v:Nat->Int} {n:Nat} (hs:∀ k,k<n->L k=aA (v k != 0) (bK (v k)) (L (k+1))) (he:L n=E):∀ (m k:Nat),k+m=n->L k=aA (zo v k m != 0) (bK (zo v k m)) E
 | 0,k,h=>by
  have:k=n:=by omega
  subst this;rw[he]; rfl
 | m+1,k,h=>by
  rw[hs k (by omega),aPP hs he m (k+1) (by omega),zo];by_cases hv:v k=0
  .rw[ug hv,aC,aJ hv]
  .rw[xM hv,aG,aK hv,xM hv,aG]
theorem Bz {L:Nat->R} {E:R} {v:Nat->Int} {n:Nat} (hs:∀ k,k<n->L k=aA (v k != 0) (bK (v k)) (L (k+1))) (he:L n=E):L 0=aA (pV v n != 0) (bK (pV v n)) E:=aPP hs he n 0 (by omega)
theorem pY (e:Int):aA (e != 0) (bK e) (bK 0)=bK e:=by
 by_cases h:e=0
 .rw[ug h,aC,h]
 .rw[xM h,aG]
theorem zW {L:Nat->R} {v:Nat->Int} {n:Nat} (hs:∀ k,k<n->L k=aA (v k != 0) (bK (v k)) (L (k+1))) (he:L n=bK 0):L 0=bK (pV v n):=(Bz hs he).trans (pY _)
theorem aCI {L:Nat->R} {p:Nat->Bool} {n:Nat} {h:aI} (hs:∀ k,k<n->L k=aA (p k) (some (bSD (k:Int),h)) (L (k+1))) (he:L n=some (bSD (-1),h)):∀ (m k:Nat),k+m=n->∃ r,L k=some (bSD r,h)/\decide (0<=r)=(List.range' k m).any p
 | 0,k,e=>by
  have:k=n:=by omega
  subst this;exact ⟨_,he,rfl⟩
 | m+1,k,e=>by
  rw[hs k (by omega),a0B,DD];cases hp:p k with
  | true=>exact ⟨_,rfl,aO (by omega)⟩
  | false =>rw[aC,Bool.false_or];exact aCI hs he m (k+1) (by omega)
def yH (p:Nat->Bool) (n:Nat):Bool:=(List.range' 0 n).any p
theorem loopA {L:Nat->R} {p:Nat->Bool} {n:Nat} {h:aI} (hs:∀ k,k<n->L k=aA (p k) (some (bSD (k:Int),h)) (L (k+1))) (he:L n=some (bSD (-1),h)):∃ r,L 0=some (bSD r,h)/\decide (0<=r)=yH p n:=aCI hs he n 0 (by omega)
theorem aPM {p:Nat->Bool} {c:Int}:∀ (m k:Nat),zo (fun k=>bif p k then c else 0) k m=bif (List.range' k m).any p then c else 0
 | 0,_=>rfl
 | m+1,k=>by
  rw[zo,a0B,DD,aPM m (k+1)];cases p k with
  | true =>
   by_cases hc:c=0
   .subst hc; cases (List.range' (k+1) m).any p<;>rfl
   .exact aK hc
  | false=>exact aJ rfl
theorem Vs {p:Nat->Bool} {c:Int} {n:Nat}:pV (fun k=>bif p k then c else 0) n=bif yH p n then c else 0:=aPM n 0
theorem LH {b:Bool} {c w:Int} {X:R} (hc:c≠0):aA ((bif b then c else w) != 0) (bK (bif b then c else w)) X=aA b (bK c) (aA (w != 0) (bK w) X):=by
 cases b with
 | false=>rfl
 | true=>rw[QK,xM hc,aG,aG]
theorem st2 {b:Bool} {w:Int} {X:R}:aA ((bif b then 2 else w) != 0) (bK (bif b then 2 else w)) X=aA b (bK 2) (aA (w != 0) (bK w) X):=LH (by decide)
theorem st5 {b:Bool} {w:Int} {X:R}:aA ((bif b then 5 else w) != 0) (bK (bif b then 5 else w)) X=aA b (bK 5) (aA (w != 0) (bK w) X):=LH (by decide)
theorem st6 {b:Bool} {w:Int} {X:R}:aA ((bif b then 6 else w) != 0) (bK (bif b then 6 else w)) X=aA b (bK 6) (aA (w != 0) (bK w) X):=LH (by decide)
theorem Ih {b:Bool} {w:Int} {X:R}:aA ((bif b then 7 else w) != 0) (bK (bif b then 7 else w)) X=aA b (bK 7) (aA (w != 0) (bK w) X):=LH (by decide)
theorem st8 {b:Bool} {w:Int} {X:R}:aA ((bif b then 8 else w) != 0) (bK (bif b then 8 else w)) X=aA b (bK 8) (aA (w != 0) (bK w) X):=LH (by decide)
theorem aQ6 {b:Bool} {w:Int} {X:R}:aA ((bif b then 12 else w) != 0) (bK (bif b then 12 else w)) X=aA b (bK 12) (aA (w != 0) (bK w) X):=LH (by decide)
theorem bM9 {b:Bool} {w:Int} {X:R}:aA ((bif b then 13 else w) != 0) (bK (bif b then 13 else w)) X=aA b (bK 13) (aA (w != 0) (bK w) X):=LH (by decide)
theorem tK {a w:Int} {X:R}:aA (sq a w != 0) (bK (sq a w)) X=aA (a != 0) (bK a) (aA (w != 0) (bK w) X):=by
 unfold sq;by_cases h:a=0
 .rw[aJ h,ug h,aC]
 .rw[aK h,xM h,aG,aG]
theorem st0 {X:R}:aA ((0:Int) != 0) (bK 0) X=X:=rfl
theorem mV {b:Bool} {x y:Int}:aA b (bK x) (bK y)=bK (bif b then x else y):=by cases b<;>rfl
theorem PQ (a:Int):sq a 0=a:=by unfold sq; split<;>simp_all
theorem yj (b:Bool) (c:Int):SS.CC 69 [.bool b,bSD c] []=bK (bif b then c else 0):=by rw[bA7,mV]
def yK (l:List Nm) (s:Nm):Int:=bif !nameB s then 7 else bif decide (s∈l) then 8 else 0
theorem Jl (l:List Nm) (hn:l.length<=1000) (s:Nm):SS.CC 25 [bSE (aS l),.str (bs s)] []=some (.bool (decide (s∈l)),[]):=by rw[hasc (CO l) (by rw[bM]; omega) (bs s)];rw[decide_eq_decide.2 (aJR l 0)]
theorem Rt (l:List Nm) (hn:l.length<=1000) (s:Nm) (hs:s.length<=1000):SS.CC 47 [bSE (aS l),.str (bs s)] []=bK (yK l s):=by rw[b6V,bF (zY s hs),bF (Jl l hn s),mV,mV]; rfl
theorem aNM (n:Int):SS.CC 194 [bSD n] []=some (.bool (decide (n < -65536)||decide (65536<n)),[]):=by rw[b0F];cases decide (n < -65536)<;>rfl
theorem aLW (v:Int):SS.CC 203 [bSD v,bSD 65536] []=some (.bool (decide (65536<v)||decide (v < -65536)),[]):=by rw[aG7,wrap64 (by decide) (by decide)];cases decide ((65536:Int)<v)<;>rfl
def NF (l:List Int) (n:Int):Int:=pV (fun k=>bif decide (l.getD k 0<0) then 2 else bif decide (n<=l.getD k 0) then 2 else bif decide ((0:Int)<(k:Int))&&decide (l.getD k 0<=l.getD (k-1) 0) then 5 else 0) l.length
theorem gD {α:Type} {l:List α} {k:Nat} (h:k<l.length) (d:α):l.getD k d=l[k]:=by simp[h]
theorem csc (l:List Int) (hn:l.length<=1000) (n:Int):SS.CC 159 [bSE (kS l),bSD n] []=bK (NF l n):=by
 rw[aZC];refine zW (L:=fun k=>SA (kS l) n (k:Int)) (fun k hk => ?_) ?_
 .rw[aFE,aO (by rw[bM]; omega),aG,OV hk,bV (by omega),gD hk 0];simp only[st2,st5,st0];show aA _ _ (aA _ _ (aA _ _ _))=_;cases hz:decide ((0:Int)<(k:Int)) with
  | false=>rfl
  | true =>
   have h0:0<k:=by simpa using hz
   have e1:(k:Int)-1=((k-1:Nat):Int):=by omega
   have hk1:k-1<l.length:=by omega
   rw[aG,wrap64 (by omega) (by omega),e1,OV hk1,gD hk1 0];rfl
 .rw[aFE,aT (by rw[bM]; omega),aC]
theorem a0S {α:Type} (f:α->Bool) (l:List α) (d:α):yH (fun k=>f (l.getD k d)) l.length=l.any f:=by
 unfold yH;rw[Q5,aB4,aB4];constructor
 .rintro ⟨k,hk,h⟩;rw[List.mem_range'_1] at hk;have hk':k<l.length:=by omega
  rw[gD hk'] at h;exact ⟨_,dw hk',h⟩
 .rintro ⟨x,hx,h⟩;obtain ⟨k,hk,e⟩:=List.getElem_of_mem hx;refine ⟨k,List.mem_range'_1.2 (by omega),?_⟩;rw[gD hk,e]; exact h
theorem NE {A:R}:chk (true&&true) A=A:=rfl
def IP (l:List Nm):Int:=pV (fun k=>yK (l.take k) (l.getD k [])) l.length
theorem nsc (l:List Nm) (h:AB l):SS.CC 177 [bSE (aS l)] []=bK (IP l):=by
 rw[a_E];refine zW (L:=fun k=>Xj (aS l) (k:Int)) (fun k hk => ?_) ?_
 .have h1:(l.take k).length<=1000:=by have:=h.1; rw[nY]; omega
  rw[aG1,aO (by rw[lD]; omega),aG,EG hk,jR,bV (by omega),gD hk []];rw[bF (zY _ (h.2 _ (dw hk))),aO (show (0:Int)<=k by omega),aO (show (k:Int)<=(aS l).length by rw[lD]; omega),NE,nX,Zp,bF (Jl _ h1 _)];unfold yK;simp only[Ih,st8,st0]
 .rw[aG1,aT (by rw[lD]; omega),aC]
def big (x:Int):Bool:=decide (65536<x)||decide (x < -65536)
def vrE (pre:List Vr) (v:Vr):Int:=bif !nameB v.n then 7 else bif decide (v.n∈pre.map (·.n)) then 8 else bif big v.lo then 2 else bif big v.hi then 2 else bif decide (v.hi<v.lo) then 5 else bif decide (v.i<v.lo) then 2 else bif decide (v.hi<v.i) then 2 else 0
def dV:Vr:=⟨[],0,0,0⟩
def JL (vs:List Vr):Int:=bif decide ((16:Int)<(vs.length:Int)) then 3 else pV (fun k=>vrE (vs.take k) (vs.getD k dV)) vs.length
theorem aCY (a b:Nm):((bs a).toList==(bs b).toList)=decide (a=b):=by rw[Dh,Dh]; by_cases h:a=b<;>simp[h]
theorem aV1 (l:List Vr) (hn:l.length<=1000) (v:Vr):SS.CC 186 [.sl false 4 (l.map uy),.func (.func 237) [] [bSF]] [O7 (Ip v)]=some (.bool (decide (v.n∈l.map (·.n))),[O7 (Ip v)]):=by
 have hl:∃ r,SN (l.map uy) (Ip v) ((0:Nat):Int)=some (bSD r,[O7 (Ip v)])/\decide (0<=r)=yH (fun k=>decide ((l.getD k dV).n=v.n)) l.length:=by
  refine loopA (L:=fun k=>SN (l.map uy) (Ip v) (k:Int)) (fun k hk => ?_) ?_
  .rw[aGF,aO (by rw[bM]; omega),aG,KE hk,aBM (b1O _ _),bV (by omega),gD hk dV,aCY]
  .rw[aGF,aT (by rw[bM]; omega),aC]
 obtain ⟨r,e1,e2⟩:=hl;rw[a_S,aRY ((b2J _ _).trans e1),e2,a0S (fun w:Vr=>decide (w.n=v.n)) l dV];have:(l.any fun w=>decide (w.n=v.n))=decide (v.n∈l.map (·.n)):=by rw[Q5]; simp
 rw[this]
theorem cvc (vs:List Vr) (hn:vs.length<=1000) (hs:∀ v,v∈vs->v.n.length<=1000):SS.CC 160 [.sl false 4 (vs.map uy)] []=bK (JL vs):=by
 rw[aZG];unfold JL;rw[bM,<- mV];congr 1
 refine zW (L:=fun k=>Xc (vs.map uy) (k:Int)) (fun k hk => ?_) ?_
 .have h1:(vs.take k).length<=1000:=by rw[nY]; omega
  rw[aFF,aO (by rw[bM]; omega),aG,KE hk,bV (by omega),gD hk dV];rw[bF (zY _ (hs _ (dw hk))),aO (show (0:Int)<=k by omega),aO (show (k:Int)<=(vs.map uy).length by rw[bM]; omega),NE,nX,<- VN,aBM (aV1 _ h1 _),bF (aLW _),bF (aLW _)];unfold vrE big;simp only[Ih,st8,st2,st5,st0]
 .rw[aFF,aT (by rw[bM]; omega),aC]
def evE (pre:List sH) (e:sH):Int:=bif !nameB e.n then 7 else bif decide (e.n∈pre.map (·.n)) then 8 else bif decide (e.k<0) then 2 else bif decide (4<e.k) then 2 else bif (e.k != 0)&&e.c then 13 else bif (e.k != 0)&&e.o then 13 else 0
def dE:sH:=⟨[],false,false,false,0⟩
def Qn (es:List sH):Int:=bif decide ((32:Int)<(es.length:Int)) then 3 else pV (fun k=>evE (es.take k) (es.getD k dE)) es.length
def wL:List Nm->bSH
 | [] => []
 | a::l => .str (bs a) :: .bool true::wL l
theorem Ws (a b:Nm):eqK none (.str (bs a)) (.str (bs b))=some (decide (a=b)):=by show some ((bs a).data.toList==(bs b).data.toList)=_;rw[show (bs a).data.toList=a from by simp[bs],show (bs b).data.toList=b from by simp[bs]];by_cases h:a=b<;>simp[h]
theorem aIZ (q:Nm):∀ l:List Nm,xY none (wL l) (.str (bs q))=some (if q∈l then some (.bool true) else none)
 | []=>rfl
 | a::l=>by
  rw[wL,xY,Ws,aIZ q l];by_cases h:q=a
  .simp[h]
  .simp[h]
theorem aNG (q:Nm):∀ l:List Nm,qB none (wL l) (.str (bs q))=true
 | []=>rfl
 | a::l=>by rw[wL,qB,Ws,aNG q l]; rfl
theorem aMQ (q:Nm):∀ l:List Nm,mg none (wL l) (.str (bs q)) (.bool true)=wL l
 | []=>rfl
 | a::l=>by
  rw[wL,mg,Ws,aMQ q l];by_cases h:q=a
  .rw[aO h,h]
  .rw[aT h]
theorem aJY (q:Nm):∀ l:List Nm,∃ l',o8 (wL l) (.str (bs q)) (.bool true)=wL l'/\∀ x,x∈l'↔x=q\/x∈l
 | []=>⟨[q],rfl,by simp⟩
 | a::l=>by
  obtain ⟨l',h1,h2⟩:=aJY q l;rw[wL,o8,h1];split
  .exact ⟨q::a::l,rfl,by simp⟩
  .exact ⟨a::l',rfl,fun x=>by
    rw[iQ,iQ,h2];constructor
    .rintro (h | h | h)
     .exact .inr (.inl h)
     .exact .inl h
     .exact .inr (.inr h)
    .rintro (h | h | h)
     .exact .inr (.inl h)
     .exact .inl h
     .exact .inr (.inr h)⟩
def Oa (l:List sH):bSH:=l.foldl (fun L e=>jO none L (.str (bs e.n)) (.bool true)) []
theorem aJE (q:Nm):∀ l:List Nm,qX none (wL l) (.str (bs q))=decide (q∈l)
 | []=>rfl
 | a::l=>by
  rw[wL,qX,Ws,aJE q l];by_cases h:q=a
  .simp[h]
  .simp[h]
theorem bK8 (q:Nm) (l:List Nm):∃ l',jO none (wL l) (.str (bs q)) (.bool true)=wL l'/\∀ x,x∈l'↔x=q\/x∈l:=by
 unfold jO;rw[aJE];by_cases h:q∈l
 .rw[aO h];exact ⟨l,aMQ q l,fun x=>⟨.inr,fun c=>c.elim (fun e=>e▸h) id⟩⟩
 .rw[aT h];exact aJY q l
theorem aMC (l:List sH):∀ k,k<=l.length->∃ l',Oa (l.take k)=wL l'/\∀ x,x∈l'↔x∈(l.take k).map (·.n)
 | 0,_=>⟨[],rfl,by simp⟩
 | k+1,hk=>by
  obtain ⟨l',h1,h2⟩:=aMC l k (by omega);have hk':k<l.length:=by omega
  obtain ⟨l2,h3,h4⟩:=bK8 (l[k]).n l';refine ⟨l2,?_,fun x => ?_⟩
  .rw[Ls hk'];unfold Oa at h1 ⊢;rw[a07,h1];exact h3
  .rw[h4,h2,Ls hk'];simp only[ry,yA,qm,QC,DK];exact or_comm
theorem bGM (l:List sH) {k:Nat} (hk:k<l.length):Oa (l.take (k+1))=jO none (Oa (l.take k)) (.str (bs l[k].n)) (.bool true):=by rw[Ls hk];unfold Oa;rw[a07]; rfl
theorem acc (es:List sH) (hn:es.length<=1000) (hs:∀ e,e∈es->e.n.length<=1000):SS.CC 46 [.sl false 5 (es.map KW)] []=bK (Qn es):=by
 rw[b6U];unfold Qn;rw[bM,<- mV];congr 1
 refine zW (L:=fun k=>Ja (es.map KW) (k:Int) (Oa (es.take k))) (fun k hk => ?_) ?_
 .obtain ⟨l',h1,h2⟩:=aMC es k (by omega);rw[aHH,aO (by rw[bM]; omega),aG,a5V hk,bV (by omega),gD hk dE];rw[bF (zY _ (hs _ (dw hk)))];rw[bGM es hk,h1];dsimp only;rw[aNG];unfold Ob;rw[aIZ];have hm:decide ((es[k]).n∈(es.take k).map (·.n))=decide ((es[k]).n∈l'):=decide_eq_decide.2 (h2 _).symm;unfold evE;rw[hm];simp only[Ih,st8,st2,bM9,st0];congr 1
  by_cases h:(es[k]).n∈l'
  .rw[aJ h,aO h,aG]; rfl
  .rw[aK h,aT h,aC];dsimp only;congr 1
   congr 1
   cases hk0:(es[k]).k != 0 with
   | false=>rfl
   | true =>rw[aG,DC,DC];rfl
 .rw[aHH,aT (by rw[bM]; omega),aC]
def yI (x:EX) (n:Int):Int×Int:=match SS.CC 27 [A1 (ev x),bSD n] [] with
 | some (.tuple [.int _ k,.int _ e],_)=>(k,e)
 | _=>(0,0)
theorem a1H {x:EX} (hx:x.Len) {n:Int} (h0:0<=n):SS.CC 27 [A1 (ev x),bSD n] []=some (.tuple [bSD (yI x n).1,bSD (yI x n).2],[]):=by
 have:∃ k e,SS.CC 27 [A1 (ev x),bSD n] []=some (.tuple [bSD k,bSD e],[]):=by
  by_cases h1:n<=16
  .obtain ⟨k,e,h,_⟩:=aDA hx h0 h1;exact ⟨k,e,h⟩
  .rw[aH1,aT (by omega),aC,aO (by omega),aG];exact ⟨_,_,rfl⟩
 obtain ⟨k,e,h⟩:=this;have e2:yI x n=(k,e):=by unfold yI; rw[h]
 rw[h,e2]
def EZ (x:EX) (n want:Int):Int:=bif (yI x n).2==0 then (bif (yI x n).1 != want then 16 else 0) else (yI x n).2
theorem aQX {x:EX} (hx:x.Len) {n:Int} (h0:0<=n) (w:Int):SS.CC 161 [A1 (ev x),bSD n,bSD w] []=bK (EZ x n w):=by
 rw[aZH,aBG (a1H hx h0)];dsimp only;unfold EZ;cases he:(yI x n).2==0 with
 | true =>
  have e0:(yI x n).2=0:=by simpa using he
  rw[aG,QK,e0,mV]
 | false=>rw[aC,qN]
theorem aQY {x:EX} (hx:x.Len) {n:Int} (h0:0<=n) (w:Int):SS.CC 248 [A1 (ev x),bSD n,bSD w] []=bK (EZ x n w):=by
 rw[b2K,aBG (a1H hx h0)];dsimp only;rw[bf (yj _ _)];unfold EZ;by_cases he:(yI x n).2=0
 .rw[he,ug rfl,aC]; rfl
 .rw[xM he,aG,show ((yI x n).2==0)=false by simpa using he,qN]
def dU:Int×EX:=(0,zE)
def V8 (nv:Int) (us:List (Int×EX)) (k:Nat):Int:=bif decide ((us.getD k dU).1<0) then 2 else bif decide (nv<=(us.getD k dU).1) then 2 else bif decide ((0:Int)<(k:Int))&&decide ((us.getD k dU).1<=(us.getD (k-1) dU).1) then 5 else EZ (us.getD k dU).2 nv 1
def usE (nv:Int) (us:List (Int×EX)):Int:=pV (V8 nv us) us.length
def U5 (nl ne nv:Int) (x:Mv):Int:=bif decide (x.f<0) then 2 else bif decide (nl<=x.f) then 2 else bif decide (x.e<0) then 2 else bif decide (ne<=x.e) then 2 else bif decide (x.t<0) then 2 else bif decide (nl<=x.t) then 2 else sq (EZ x.g nv 2) (usE nv x.us)
theorem aR1 {nv:Int} {us:List (Int×EX)} (hn:us.length<=1000) {k:Nat} (hk:k<us.length) {J X:R} (hJ:J=aA (EZ (us[k]).2 nv 1 != 0) (bK (EZ (us[k]).2 nv 1)) X) :
 aA (decide ((us[k]).1<0)) (bK 2) (aA (decide (nv<=(us[k]).1)) (bK 2) (aA (decide ((0:Int)<(k:Int))) (bD tq (us.map pUp) (i64.wrap ((k:Int)-1)) fun u8=>aA (decide ((us[k]).1<=u8.1)) (bK 5) J) J))=aA (V8 nv us k != 0) (bK (V8 nv us k)) X:=by
 unfold V8;simp only[gD hk dU,st2,st5];rw[<- hJ];cases hz:decide ((0:Int)<(k:Int)) with
 | false=>rfl
 | true =>
  have h0:0<k:=by simpa using hz
  have e1:(k:Int)-1=((k-1:Nat):Int):=by omega
  have hk1:k-1<us.length:=by omega
  rw[aG,wrap64 (by omega) (by omega),e1,OW hk1,gD hk1 dU];rfl
abbrev gX (t:Tm):Sh.V S6:=(kS t.al,t.L,t.I,kS t.mr,t.vs.map uy,t.ms.map Oy,())
theorem ak {α β:Type} (f:α->β) (l:List α):((l.map f).length:Int)=(l.length:Int):=by rw[bM]
theorem bFC (t:Tm) (x:Mv) (hl:x.us.length<=1000) (hu:∀ u,u∈x.us->u.2.Len) (k:Int):Sl (bs t.n) (aS t.ls) (aS t.es) (gX t) (mO x) 0 k=aA (usE (t.vs.length:Int) x.us != 0) (bK (usE (t.vs.length:Int) x.us)) (Nv (bs t.n) (aS t.ls) (aS t.es) (gX t) (i64.wrap (k+1))):=by
 refine Bz (L:=fun i=>Sl (bs t.n) (aS t.ls) (aS t.es) (gX t) (mO x) (i:Int) k) (fun i hi => ?_) ?_
 .rw[aHO,aO (show (i:Int)<((mO x).2.2.2.2.2.2.2.1.length:Int) by rw[ak]; omega),aG,OW hi,ak];refine aR1 hl hi ?_;rw[b6W,ak,bV (by omega)];exact bf (aQX (hu _ (dw hi)) (by omega) 1)
 .rw[aHO,aT (show ¬ (x.us.length:Int)<((mO x).2.2.2.2.2.2.2.1.length:Int) by rw[ak]; omega),aC]
def dM:Mv:=⟨0,0,0,zE,[]⟩
def FQ (nl ne nv:Int) (ms:List Mv):Int:=pV (fun k=>U5 nl ne nv (ms.getD k dM)) ms.length
theorem bF7 (t:Tm) (h:uY t):Nv (bs t.n) (aS t.ls) (aS t.es) (gX t) 0=bK (FQ (t.ls.length:Int) (t.es.length:Int) (t.vs.length:Int) t.ms):=by
 refine zW (L:=fun i=>Nv (bs t.n) (aS t.ls) (aS t.es) (gX t) (i:Int)) (fun i hi => ?_) ?_
 .obtain ⟨h1,h2,h3⟩:=h.ms.2 _ (dw hi);rw[aHN,aO (show (i:Int)<((gX t).2.2.2.2.2.1.length:Int) by rw[ak]; omega),aG,Yu hi,ak,lD,lD];rw[bf (aQX h1 (by omega) 2),bFC t _ h2 h3,bV (by have:=h.ms.1; omega),gD hi dM];unfold U5;simp only[st2,tK]
 .rw[aHN,aT (show ¬ (t.ms.length:Int)<((gX t).2.2.2.2.2.1.length:Int) by rw[ak]; omega),aC]
def rvE (v:Vr):Int:=bif v.n==EY then 7 else bif v.n==Ha then 7 else 0
def rsE (vs:List Vr):Int:=pV (fun k=>rvE (vs.getD k dV)) vs.length
def Mc (al:List Int):Int:=pV (fun k=>bif al.getD k 0 !=(k:Int) then 6 else 0) al.length
def U6 (n:Int):Int:=if (1:Int)>n then 1 else n
def GK (t:Tm):Int:=sq (IP t.es) (sq (IP t.ls) (bif (t.al.length:Int) !=(t.es.length:Int) then 6 else sq (Mc t.al) (bif t.L !=(t.ls.length:Int) then 4 else bif decide (t.I<0) then 2 else bif decide (U6 (t.ls.length:Int)<=t.I) then 2 else sq (NF t.mr (t.ls.length:Int)) (sq (JL t.vs) (sq (rsE t.vs) (FQ (t.ls.length:Int) (t.es.length:Int) (t.vs.length:Int) t.ms))))))
theorem bF9 (t:Tm) (h:uY t):Sj (bs t.n) (aS t.ls) (aS t.es) (gX t) 0=aA (rsE t.vs != 0) (bK (rsE t.vs)) (bK (FQ (t.ls.length:Int) (t.es.length:Int) (t.vs.length:Int) t.ms)):=by
 refine Bz (L:=fun i=>Sj (bs t.n) (aS t.ls) (aS t.es) (gX t) (i:Int)) (fun i hi => ?_) ?_
 .rw[aHM,aO (show (i:Int)<((gX t).2.2.2.2.1.length:Int) by rw[ak]; omega),aG,KE hi,bV (by have:=h.vs.1; omega),gD hi dV];dsimp only;rw[Dh,tlT,tlF];unfold rvE;simp only[Ih,st0]
 .rw[aHM,aT (show ¬ (t.vs.length:Int)<((gX t).2.2.2.2.1.length:Int) by rw[ak]; omega),aC,bF7 t h]
theorem bF2 (t:Tm) (h:uY t):Jb (bs t.n) (aS t.ls) (aS t.es) (gX t) 0=bK (sq (Mc t.al) (bif t.L !=(t.ls.length:Int) then 4 else bif decide (t.I<0) then 2 else bif decide (U6 (t.ls.length:Int)<=t.I) then 2 else sq (NF t.mr (t.ls.length:Int)) (sq (JL t.vs) (sq (rsE t.vs) (FQ (t.ls.length:Int) (t.es.length:Int) (t.vs.length:Int) t.ms))))):=by
 have e:Jb (bs t.n) (aS t.ls) (aS t.es) (gX t) 0=aA (Mc t.al != 0) (bK (Mc t.al)) (bK (bif t.L !=(t.ls.length:Int) then 4 else bif decide (t.I<0) then 2 else bif decide (U6 (t.ls.length:Int)<=t.I) then 2 else sq (NF t.mr (t.ls.length:Int)) (sq (JL t.vs) (sq (rsE t.vs) (FQ (t.ls.length:Int) (t.es.length:Int) (t.vs.length:Int) t.ms))))):=by
  refine Bz (L:=fun i=>Jb (bs t.n) (aS t.ls) (aS t.es) (gX t) (i:Int)) (fun i hi => ?_) ?_
  .rw[aHL,aO (show (i:Int)<((gX t).1.length:Int) by rw[ak]; omega),aG,OV hi,BB,bV (by have:=h.al; omega),gD hi 0];simp only[st6,st0]
  .rw[aHL,aT (show ¬ (t.al.length:Int)<((gX t).1.length:Int) by rw[ak]; omega),aC,lD];rw[bf (csc t.mr h.mr _),bf (cvc t.vs h.vs.1 fun v hv=>(h.vs.2 v hv).1),bF9 t h];rw[<- mV,<- mV,<- mV];rw[<- pY (sq (NF _ _) _),<- pY (FQ _ _ _ _)];rw[tK,tK,tK,pY];rfl
 rw[e,<- pY (sq _ _),tK,pY]
theorem aLS (t:Tm) (l:List Nm) (hl:AB l) (k:Int):Sr (fA t) (aS l) 0 k=aA (IP l != 0) (bK (IP l)) (Y3 (fA t) (i64.wrap (k+1))):=by
 refine Bz (L:=fun i=>Sr (fA t) (aS l) (i:Int) k) (fun i hi => ?_) ?_
 .have h1:(l.take i).length<=1000:=by have:=hl.1; rw[nY]; omega
  rw[aHP,aO (by rw[lD]; omega),aG,EG hi,jR,aO (show (0:Int)<=i by omega),aO (show (i:Int)<=(aS l).length by rw[lD]; omega),NE,nX,Zp,bf (Rt _ h1 _ (hl.2 _ (dw hi))),bV (by have:=hl.1; omega),gD hi []]
 .rw[aHP,aT (by rw[lD]; omega),aC]
theorem tmc (t:Tm) (h:uY t):SS.CC 48 [A5 (fA t)] []=bK (GK t):=by rw[b7C,a3V,aO (by decide),aG,lH (e := bSE (aS t.es)) (by decide) rfl,a01,aLS t _ h.es];rw[show i64.wrap ((0:Int)+1)=1 from wrap64 (by decide) (by decide),a3V,aO (by decide),aG,lH (e := bSE (aS t.ls)) (by decide) rfl,a01,aLS t _ h.ls];rw[show i64.wrap ((1:Int)+1)=2 from wrap64 (by decide) (by decide),a3V,aT (by decide),aC];have e:=bF2 t h;rw[show Jb (fA t).1 (fA t).2.1 (fA t).2.2.1 ((fA t).2.2.2.1,(fA t).2.2.2.2.1,(fA t).2.2.2.2.2.1,(fA t).2.2.2.2.2.2.1,(fA t).2.2.2.2.2.2.2.1,(fA t).2.2.2.2.2.2.2.2.1,()) 0=_ from e];rw[show ((fA t).2.2.2.1.length:Int)=(t.al.length:Int) from ak _ _,show ((fA t).2.2.1.length:Int)=(t.es.length:Int) by rw[lD],mV];rw[<- pY (GK t)];unfold GK;rw[tK,tK,pY]
theorem rO {α:Type} (f:α->Nm) (l:List α) {k:Nat} (hk:k<l.length):aS ((l.take k).map f) ++ ([.str (bs (f l[k]))]:bSH)=aS ((l.take (k+1)).map f):=by rw[Ls hk,ry,<- bMN]; rfl
theorem jZ {l:bSH} (h:l.length<=1000):decide (l.length+1<=aQ)=true:=aO (by show l.length+1<=1073741824; omega)
theorem Bo {a b:Nat} (h:a<=1000) (h2:b<=1000):decide (a+b<=aQ)=true:=aO (by show a+b<=1073741824; omega)
theorem rP {α:Type} (f:α->Nm) (l:List α) (k:Nat) (h:l.length<=1000):(aS ((l.take k).map f)).length<=1000:=by rw[lD,bM,nY]; omega
theorem ZA {α:Type} (f:α->Nm) (l:List α) (k:Nat) (h:l.length<=1000):((l.take k).map f).length<=1000:=by rw[bM,nY]; omega
def UC (l:List Nm):Int:=pV (fun k=>bif !nameB (l.getD k []) then 7 else 0) l.length
def inE (pre:List Ins) (x:Ins):Int:=sq (yK (pre.map (·.n)) x.n) (UC (x.t::x.es))
def dI:Ins:=⟨[],[],[]⟩
def Hy (l:List Ins):Int:=pV (fun k=>inE (l.take k) (l.getD k dI)) l.length
theorem bF8 (P:bSH) (n:Int) (P3:bSH) (l:List Nm) (hl:∀ s,s∈l->s.length<=1000) (hn:l.length<=2000) (i:Int):Su P n P3 (aS l) ((aS l).length:Int) 0 i=aA (UC l != 0) (bK (UC l)) (Nw P n P3 (i64.wrap (i+1))):=by
 refine Bz (L:=fun k=>Su P n P3 (aS l) ((aS l).length:Int) (k:Int) i) (fun k hk => ?_) ?_
 .rw[aHR,aO (by rw[lD]; omega),aG,EG hk,jR,bF (zY _ (hl _ (dw hk))),bV (by omega),gD hk []];simp only[Ih,st0]
 .rw[aHR,aT (by rw[lD]; omega),aC]
theorem bF4 (l:List Ins) (hn:l.length<=2000) (h:∀ x,x∈l->x.n.length<=1000/\x.t.length<=1000/\AB x.es) (h3:l.length<=1000):Nw (l.map cu) ((l.map cu).length:Int) [] 0=bK (Hy l):=by
 refine zW (L:=fun k=>Nw (l.map cu) ((l.map cu).length:Int) (aS ((l.take k).map (·.n))) (k:Int)) (fun k hk => ?_) ?_
 .obtain ⟨h1,h2,h4⟩:=h _ (dw hk);rw[aHS,aO (by rw[ak]; omega),aG,zU hk,bf (Rt _ (ZA _ l k h3) _ h1),aX (jZ (rP _ l k h3))];dsimp only;rw[aX (Bo (by decide) (by rw[lD]; exact h4.1)),rO (·.n) l hk];rw[show ([.str (bs (l[k]).t)]:bSH) ++ aS (l[k]).es=aS ((l[k]).t::(l[k]).es) from rfl];rw[bF8 _ _ _ _ (fun s hs=>by
   rcases iQ.1 hs with e | e
   .rw[e]; exact h2
   .exact h4.2 s e) (by have:=h4.1; rw[aY]; omega),bV (by omega),gD hk dI]
  unfold inE;rw[tK]
 .rw[aHS,aT (by rw[ak]; omega),aC]
theorem H6 (l:List Ins) (hn:l.length<=1000):SS.CC 45 [.sl false 3 (l.map cu)] []=some (.sl true 3 (l.map cu),[]):=by
 rw[b6Q];refine aN4 ?_ fun h => ?_
 .rw[show (false==true)=false from rfl,aC,aX (by rw[bM]; exact Bo (by decide) hn)]
 .rw[show (true==true)=true from rfl,aG,h]
theorem bD5 (m:Mo) (h:kY m) (h2:m.cs.length+m.rs.length<=1000):SS.CC 49 [A0 (aW m)] []=bK (Hy (m.cs ++ m.rs)):=by
 have hl:(m.cs ++ m.rs).length<=1000:=by rw[aP]; exact h2
 rw[b7J,Gh (H6 m.cs h.is.1),aX (by rw[bM]; exact Bo h.is.1 (by rw[bM]; exact h.is.2.1))];rw[<- ry];exact bF4 _ (by omega) h.is.2.2 hl
def lcE (l:Nm×Nm):Int:=bif !nameB l.1 then 7 else bif !nameB l.2 then 7 else 0
def dL:Nm×Nm:=([],[])
def OU (ls:List (Nm×Nm)):Int:=pV (fun k=>lcE (ls.getD k dL)) ls.length
def exE (pre:List vX) (x:vX):Int:=sq (yK (pre.map (·.n)) x.n) (bif (x.ls.length:Int)==0 then 12 else OU x.ls)
def dX:vX:=⟨[],[]⟩
def LZ (l:List vX):Int:=pV (fun k=>exE (l.take k) (l.getD k dX)) l.length
def trE (t:Nm×Int):Int:=bif !nameB t.1 then 7 else bif decide (t.2 < -65536) then 2 else bif decide (65536<t.2) then 2 else 0
def dR:Nm×Int:=([],0)
def PY (ls:List (Nm×Int)):Int:=pV (fun k=>trE (ls.getD k dR)) ls.length
def Dc (b:Int):Int:=bif decide (b < -65536) then 2 else bif decide (65536<b) then 2 else 0
def ctE (pre:List Cst) (x:Cst):Int:=sq (yK (pre.map (·.n)) x.n) (bif (x.ts.length:Int)==0 then 12 else sq (PY x.ts) (Dc x.b))
def dK:Cst:=⟨[],[],0⟩
def I5 (l:List Cst):Int:=pV (fun k=>ctE (l.take k) (l.getD k dK)) l.length
theorem bF6 (m:Mo) (P3:bSH) (ls:List (Nm×Nm)) (hn:ls.length<=1000) (hl:∀ l,l∈ls->l.1.length<=1000/\l.2.length<=1000) (i:Int):Sv (aW m) (ls.map wO) P3 0 i=aA (OU ls != 0) (bK (OU ls)) (Nz (aW m) P3 (i64.wrap (i+1))):=by
 refine Bz (L:=fun k=>Sv (aW m) (ls.map wO) P3 (k:Int) i) (fun k hk => ?_) ?_
 .obtain ⟨h1,h2⟩:=hl _ (dw hk);rw[aHW,aO (by rw[ak]; omega),aG,Jz hk,bF (zY _ h1)];dsimp only;rw[bF (zY _ h2),bV (by omega),gD hk dL];unfold lcE;simp only[Ih,st0]
 .rw[aHW,aT (by rw[ak]; omega),aC]
theorem bFA (P:bSH) (x:Cst) (P3:bSH) (hn:x.ts.length<=1000) (hl:∀ l,l∈x.ts->l.1.length<=1000) (i:Int):Sz P (oJ x) 0 P3 i=aA (sq (PY x.ts) (Dc x.b) != 0) (bK (sq (PY x.ts) (Dc x.b))) (Ny P P3 (i64.wrap (i+1))):=by
 rw[tK];refine Bz (L:=fun k=>Sz P (oJ x) (k:Int) P3 i) (fun k hk => ?_) ?_
 .rw[aHY,aO (show (k:Int)<((oJ x).2.1.length:Int) by rw[ak]; omega),aG,KC hk,bF (zY _ (hl _ (dw hk))),bV (by omega),gD hk dR];unfold trE;simp only[Ih,st2,st0]
 .rw[aHY,aT (show ¬ (x.ts.length:Int)<((oJ x).2.1.length:Int) by rw[ak]; omega),aC];unfold Dc;simp only[st2,st0]
theorem bF5 (l:List Cst) (hn:l.length<=1000) (h:∀ x,x∈l->x.n.length<=1000/\x.ts.length<=1000/\∀ t,t∈x.ts->t.1.length<=1000):Ny (l.map nC) [] 0=bK (I5 l):=by
 refine zW (L:=fun k=>Ny (l.map nC) (aS ((l.take k).map (·.n))) (k:Int)) (fun k hk => ?_) ?_
 .obtain ⟨h1,h2,h4⟩:=h _ (dw hk);rw[aHX,aO (by rw[ak]; omega),aG,FO hk,bf (Rt _ (ZA _ l k hn) _ h1),aX (jZ (rP _ l k hn))];dsimp only;rw[rO (·.n) l hk,bFA _ _ _ h2 h4,bV (by omega),gD hk dK];unfold ctE;rw[ak];simp only[tK,aQ6]
 .rw[aHX,aT (by rw[ak]; omega),aC]
theorem bFD (m:Mo) (h:kY m):Nz (aW m) [] 0=bK (sq (LZ m.xs) (I5 m.ks)):=by
 rw[<- pY (sq _ _),tK,pY];refine Bz (L:=fun k=>Nz (aW m) (aS ((m.xs.take k).map (·.n))) (k:Int)) (fun k hk => ?_) ?_
 .obtain ⟨h1,h2,h4⟩:=h.xs.2 _ (dw hk);rw[aHZ,aO (show (k:Int)<((aW m).2.2.2.2.2.1.length:Int) by rw[ak]; omega),aG,EE hk,bf (Rt _ (ZA _ _ k h.xs.1) _ h1),aX (jZ (rP _ _ k h.xs.1))];dsimp only;rw[rO (·.n) m.xs hk];have e:=bF6 m (aS ((m.xs.take (k+1)).map (·.n))) (m.xs[k]).ls h2 h4 (k:Int);rw[e,bV (by have:=h.xs.1; omega),gD hk dX];unfold exE;rw[ak];simp only[tK,aQ6]
 .rw[aHZ,aT (show ¬ (m.xs.length:Int)<((aW m).2.2.2.2.2.1.length:Int) by rw[ak]; omega),aC];exact bF5 _ h.ks.1 h.ks.2
theorem cdc (m:Mo) (h:kY m):SS.CC 50 [A0 (aW m)] []=bK (sq (LZ m.xs) (I5 m.ks)):=(b7V _).trans (bFD m h)
def tpE (pre:List Tm) (t:Tm):Int:=sq (yK (pre.map (·.n)) t.n) (GK t)
def dT:Tm:=⟨[],[],[],[],0,0,[],[],[]⟩
def PZ (l:List Tm):Int:=pV (fun k=>tpE (l.take k) (l.getD k dT)) l.length
def Ba (m:Mo):Int:=bif !nameB m.n then 7 else sq (Qn m.es) (bif decide ((16:Int)<(m.ts.length:Int)) then 3 else bif decide ((32:Int)<(m.cs.length:Int)) then 3 else bif decide ((32:Int)<(m.rs.length:Int)) then 3 else bif decide ((32:Int)<(m.xs.length:Int)) then 3 else bif decide ((32:Int)<(m.ks.length:Int)) then 3 else sq (PZ m.ts) (sq (Hy (m.cs ++ m.rs)) (sq (LZ m.xs) (I5 m.ks))))
theorem bFB (m:Mo) (h:kY m) (h2:m.cs.length+m.rs.length<=1000):Ry (aW m) [] 0=bK (sq (PZ m.ts) (sq (Hy (m.cs ++ m.rs)) (sq (LZ m.xs) (I5 m.ks)))):=by
 rw[<- pY (sq (PZ _) _),tK,pY];refine Bz (L:=fun k=>Ry (aW m) (aS ((m.ts.take k).map (·.n))) (k:Int)) (fun k hk => ?_) ?_
 .obtain ⟨h1,h4⟩:=h.ts.2 _ (dw hk);rw[aFB,aO (show (k:Int)<((aW m).2.2.1.length:Int) by rw[ak]; omega),aG,FP hk,bf (Rt _ (ZA _ _ k h.ts.1) _ h1),aX (jZ (rP _ _ k h.ts.1)),bf (tmc _ h4),bV (by have:=h.ts.1; omega)];dsimp only;rw[rO (·.n) m.ts hk,gD hk dT];unfold tpE;rw[tK]
 .rw[aFB,aT (show ¬ (m.ts.length:Int)<((aW m).2.2.1.length:Int) by rw[ak]; omega),aC,bf (bD5 m h h2),bf (cdc m h)];rw[<- pY (sq (Hy _) _),tK,pY]
theorem bF3 (m:Mo) (h:kY m) (h2:m.cs.length+m.rs.length<=1000):SS.CC 14 [A0 (aW m)] []=bK (Ba m):=by rw[aY',bF (zY _ h.n),bf (acc _ h.es.1 h.es.2),bFB m h h2];dsimp only;rw[ak,ak,ak,ak,ak,mV,mV,mV,mV,mV];unfold Ba;rw[<- mV (b := !nameB m.n)];refine congrArg (aA _ _) ?_;rw[<- pY (sq (Qn _) _),tK,pY]
def fnP (f:FuncId×bSH×Int):PV := .func (.func f.1) [] f.2.1
def PP:List Int->Int
 | []=>0
 | a::l=>sq a (PP l)
theorem aEI (all:List (FuncId×bSH×Int)) (hn:all.length<=1000) (h:∀ f,f∈all->SS.CC f.1 f.2.1 []=bK f.2.2/\PV.flats f.2.1=true):∀ (l:List (FuncId×bSH×Int)) (k:Nat),all.drop k=l->YI (all.map fnP) (k:Int)=bK (PP (l.map (·.2.2)))
 | [],k,e=>by have:all.length<=k:=QA.1 e;rw[aIP,aT (by rw[ak]; omega),aC]; rfl
 | f::l,k,e=>by obtain ⟨k1,k2,k3⟩:=drop_cons e;obtain ⟨h1,h2⟩:=h f (by rw[<- k2]; exact dw k1);rw[aIP,aO (by rw[ak]; omega),aG,lH (e:=fnP f) (by omega) (by rw[nX,iU,iM k1,k2]; rfl),bV (by omega),aEI all hn h l (k+1) k3];show chk (true&&true) (chk (PV.flats f.2.1) (jF SS.CC f.1 f.2.1 _))=_;rw[NE,aX h2,wE h1 (v:=bK (PP ((f::l).map (·.2.2)))) ?_];rw[BB];show _=bK (sq f.2.2 (PP (l.map (·.2.2))));rw[<- pY (sq _ _),tK,pY]
theorem NT (all:List (FuncId×bSH×Int)) (hn:all.length<=1000) (h:∀ f,f∈all->SS.CC f.1 f.2.1 []=bK f.2.2/\PV.flats f.2.1=true):SS.CC 67 [bSE (all.map fnP)] []=bK (PP (all.map (·.2.2))):=(bA5 _).trans (aEI all hn h all 0 rfl)
theorem jy {L:Nat->R} {E:R} {n:Nat} (hs:∀ k,k<n->L k=L (k+1)) (he:L n=E):L 0=E:=by
 have:∀ (m k:Nat),k+m=n->L k=E:=by
  intro m;induction m with
  | zero=>intro k h; rw[<- he]; congr 1
  | succ m ih=>intro k h; rw[hs k (by omega)]; exact ih (k+1) (by omega)
 exact this n 0 (by omega)
def Vw (l:List Nm):Bool:=yH (fun k => !nameB (l.getD k [])) l.length
theorem aCF (l:List Nm) (hn:l.length<=2000) (hl:∀ s,s∈l->s.length<=1000):SS.CC 84 [bSE (aS l)] []=some (.bool (!Vw l),[]):=by
 have e:∃ r,Rz (aS l) ((0:Nat):Int)=some (bSD r,[])/\decide (0<=r)=Vw l:=by
  refine loopA (L:=fun k=>Rz (aS l) (k:Int)) (fun k hk => ?_) ?_
  .rw[aFD,aO (by rw[lD]; omega),aG,EG hk,jR,bF ((b0A _).trans (bF (zY _ (hl _ (dw hk))))),bV (by omega),gD hk []]
  .rw[aFD,aT (by rw[lD]; omega),aC]
 obtain ⟨r,e1,e2⟩:=e;rw[bAS,bF ((b6P _).trans (bf ((aZ8 _).trans e1))),e2]
theorem bHD (l:List Nm):UC l=bif Vw l then 7 else 0:=Vs
theorem bF1 (l:List Nm) (hl:AB l) {k:Nat} (hk:k<l.length):SS.CC 76 [bSE (aS (l.take (k+1)))] []=bK (yK (l.take k) l[k]):=by
 have hn:=hl.1;have hL:(l.take (k+1)).length=k+1:=by rw[nY]; omega
 have e0:i64.wrap (((aS (l.take (k+1))).length:Int)-1)=(k:Int):=by rw[lD,hL,wrap64 (by omega) (by omega)]; omega
 have hk':k<(l.take (k+1)).length:=by omega
 have e1:(l.take (k+1))[k]=l[k]:=by rw[List.getElem_take]
 rw[bAH,e0,EG hk',e1,jR,bF (zY _ (hl.2 _ (dw hk))),aO (show (0:Int)<=k by omega),aO (show (k:Int)<=(aS (l.take (k+1))).length by rw[lD]; omega),NE,nX,Zp,List.take_take,QJ (by omega)];rw[bF (Jl _ (by rw[nY]; omega) _),bf (yj _ _),mV];rfl
def Aw (n:Nat):List Int:=(List.range n).map fun i:Nat=>(i:Int)
theorem aND (n:Nat) (hn:n<=1000):SS.CC 180 [bSD (n:Int)] []=some (bSE (kS (Aw n)),[]):=by
 rw[a_L];refine jy (n:=n) (L:=fun k=>Xk (n:Int) (kS (Aw k)) (k:Int)) (fun k hk => ?_) ?_
 .have hl:(kS (Aw k)).length<=1000:=by unfold Aw; rw[bM,bM,List.length_range]; omega
  rw[aG2,aO (by omega),aG,aX (jZ hl),bV (by omega)];congr 1
  unfold Aw;rw[List.range_succ,ry];show _=kS (_ ++ [(k:Int)]);unfold kS;rw[ry]; rfl
 .rw[aG2,aT (by omega),aC]
theorem a98 (n:Nat):(Aw n).length=n:=by unfold Aw; rw[bM,List.length_range]
theorem bK' {n k:Nat} (h:k<n):(Aw n)[k]'(by rw[a98]; exact h)=(k:Int):=by unfold Aw; simp
theorem aVL (a:List Int) (n:Nat) (ha:a.length<=1000):SS.CC 139 [bSE (kS a),bSE (kS (Aw n))] []=some (.bool (bif (a.length:Int) !=(n:Int) then false else !yH (fun k=>a.getD k 0 !=(k:Int)) a.length),[]):=by
 rw[aF5,ak,ak,a98];by_cases h:a.length=n
 .have h0:((a.length:Int) !=(n:Int))=false:=by simp[h]
  rw[h0,aC,qN];have:∀ (m k:Nat),k+m=a.length->XV (kS a) (kS (Aw n)) (k:Int)=some (.bool (!(List.range' k m).any fun k=>a.getD k 0 !=(k:Int)),[]):=by
   intro m;induction m with
   | zero =>intro k hk;rw[a2K,aT (by rw[ak]; omega),aC]; rfl
   | succ m ih =>
    intro k hk;have hk1:k<a.length:=by omega
    have hk2:k<(Aw n).length:=by rw[a98]; omega
    rw[a2K,aO (by rw[ak]; omega),aG,OV hk1,BB,OV hk2,BB,bK' (by omega),bV (by omega),ih (k+1) (by omega),a0B,DD,gD hk1 0];cases a[k] !=(k:Int)<;>rfl
  exact this a.length 0 (by omega)
 .have h0:((a.length:Int) !=(n:Int))=true:=by simp; omega
  rw[h0,aG,QK]
theorem aUH (x:Mv) (nv:Int) (h0:0<=nv) (hl:x.us.length<=1000) (hu:∀ u,u∈x.us->u.2.Len):SG (mO x) nv 0=bK (usE nv x.us):=by
 refine zW (L:=fun i=>SG (mO x) nv (i:Int)) (fun i hi => ?_) ?_
 .rw[aG5,aO (show (i:Int)<((mO x).2.2.2.2.2.2.2.1.length:Int) by rw[ak]; omega),aG,OW hi];refine aR1 hl hi ?_;rw[b03,bV (by omega)];exact bf (aQY (hu _ (dw hi)) h0 1)
 .rw[aG5,aT (show ¬ (x.us.length:Int)<((mO x).2.2.2.2.2.2.2.1.length:Int) by rw[ak]; omega),aC]
theorem bG' (t:Tm) (x:Mv) (h1:x.g.Len) (hl:x.us.length<=1000) (hu:∀ u,u∈x.us->u.2.Len):SS.CC 191 [A5 (fA t),A9 (mO x)] []=bK (U5 t.L (t.es.length:Int) (t.vs.length:Int) x):=by rw[b09];dsimp only;rw[ak,lD,bf (aQY h1 (by omega) 2),aUH x _ (by omega) hl hu];unfold U5;rw[<- mV,<- mV,<- mV,<- mV,<- mV,<- mV,<- pY (sq _ _),tK,pY]
theorem bH0 (t:Tm) (h:uY t):SS.CC 188 [.cst (A6 (gX t)),.cst (A5 (fA t))] []=bK (FQ t.L (t.es.length:Int) (t.vs.length:Int) t.ms):=by
 rw[a_U];suffices e:SS.CC 189 [.sl false 8 (gX t).2.2.2.2.2.1,.func (.func 190) [] [.cst (A5 (fA t)),.cst (A6 (gX t))]] []=bK (FQ t.L (t.es.length:Int) (t.vs.length:Int) t.ms) from bf e
 refine (a_Y _ _ _ _ _ _ _ _ _ _ _ _ _ _ _ _).trans ?_;rw[ak];refine zW (L:=fun i=>Xl _ _ _ _ _ _ _ _ _ _ _ _ _ _ _ (t.ms.length:Int) (i:Int)) (fun i hi => ?_) ?_
 .obtain ⟨h1,h2,h3⟩:=h.ms.2 _ (dw hi);rw[aG3,aO (by omega),aG,bV (by have:=h.ms.1; omega),gD hi dM];refine bf ?_;refine (a_' _ _ _).trans ?_;rw[show (gX t).2.2.2.2.2.1=t.ms.map Oy from rfl,Yu hi];exact bf (bG' t _ h1 h2 h3)
 .rw[aG3,aT (by omega),aC]
theorem PR {b:Bool} {c x:Int} (hc:c≠0):sq (bif b then c else 0) x=bif b then c else x:=by
 cases b with
 | false=>exact aJ rfl
 | true=>exact aK hc
def YZ (v:Vr):Bool:=v.n==EY||v.n==Ha
theorem bL6 (vs:List Vr):rsE vs=bif yH (fun k=>YZ (vs.getD k dV)) vs.length then 7 else 0:=by
 rw[<- Vs];unfold rsE;refine aCC fun i _ => ?_
 unfold rvE YZ;cases (vs.getD i dV).n==EY<;>rfl
theorem bKX (vs:List Vr) (hn:vs.length<=1000):SS.CC 186 [.sl false 4 (vs.map uy),.func (.func 187) [] []] []=some (.bool (yH (fun k=>YZ (vs.getD k dV)) vs.length),[]):=by
 have e:∃ r,SL (vs.map uy) ((0:Nat):Int)=some (bSD r,[])/\decide (0<=r)=yH (fun k=>YZ (vs.getD k dV)) vs.length:=by
  refine loopA (L:=fun k=>SL (vs.map uy) (k:Int)) (fun k hk => ?_) ?_
  .rw[aGE,aO (by rw[ak]; omega),aG,KE hk,bF ((a_T _).trans (bF (bKV _))),bV (by omega),gD hk dV];rfl
  .rw[aGE,aT (by rw[ak]; omega),aC]
 obtain ⟨r,e1,e2⟩:=e;rw[a_R,bf ((b2F _).trans e1),e2]
def eqA (al:List Int) (n:Nat):Bool:=bif (al.length:Int) !=(n:Int) then false else !yH (fun k=>al.getD k 0 !=(k:Int)) al.length
def iE (L I:Int):Int:=bif decide (I<0) then 2 else bif decide (U6 L<=I) then 2 else 0
def XP (t:Tm):List (FuncId×bSH×Int) := [(176,[.cst (A5 (fA t))],IP t.es),(178,[.cst (A5 (fA t))],IP t.ls),(179,[.cst (A6 (gX t)),.cst (A5 (fA t))],bif !eqA t.al t.es.length then 6 else 0),(181,[.cst (A6 (gX t)),.cst (A5 (fA t))],bif t.L !=(t.ls.length:Int) then 4 else 0),(182,[.cst (A6 (gX t))],iE t.L t.I),(183,[.cst (A6 (gX t))],NF t.mr t.L),(184,[.cst (A6 (gX t))],JL t.vs),(185,[.cst (A6 (gX t))],rsE t.vs),(188,[.cst (A6 (gX t)),.cst (A5 (fA t))],FQ t.L (t.es.length:Int) (t.vs.length:Int) t.ms)]
theorem aWK (t:Tm) (h:uY t):∀ f,f∈XP t->SS.CC f.1 f.2.1 []=bK f.2.2/\PV.flats f.2.1=true:=by
 intro f hf;simp only[XP,iQ,vP,vV] at hf;rcases hf with rfl | rfl | rfl | rfl | rfl | rfl | rfl | rfl | rfl
 .exact ⟨(a_A _).trans (bf (nsc _ h.es)),rfl⟩
 .exact ⟨(a_F _).trans (bf (nsc _ h.ls)),rfl⟩
 .refine ⟨(a_G _ _).trans ?_,rfl⟩;rw[lD,xC (aND _ h.es.1),bF (aVL t.al _ h.al),bf (yj _ _)];rfl
 .refine ⟨(a_M _ _).trans ?_,rfl⟩;rw[lD,bf (yj _ _)]
 .refine ⟨(a_N _).trans ?_,rfl⟩;rw[bf (yj _ _),bf (yj _ _)];show aA (decide (t.I<0)) (bK 2) (bK (bif decide (U6 t.L<=t.I) then 2 else 0))=_;rw[mV]; rfl
 .exact ⟨(a_O _).trans (bf (csc _ h.mr _)),rfl⟩
 .exact ⟨(a_P _).trans (bf (cvc _ h.vs.1 fun v hv=>(h.vs.2 v hv).1)),rfl⟩
 .refine ⟨(a_Q _).trans ?_,rfl⟩;rw[bF (bKX t.vs h.vs.1),bf (yj _ _),bL6]
 .exact ⟨bH0 t h,rfl⟩
theorem tmK (t:Tm):PP ((XP t).map (·.2.2))=GK t:=by
 show sq _ (sq _ (sq _ (sq _ (sq _ (sq _ (sq _ (sq _ (sq _ 0))))))))=_;rw[PQ,PR (by decide),PR (by decide)];unfold GK;congr 2
 have ha:∀ X:Int,(bif !eqA t.al t.es.length then 6 else X)=bif (t.al.length:Int) !=(t.es.length:Int) then 6 else sq (Mc t.al) X:=by
  intro X;unfold eqA Mc;rw[Vs,PR (by decide)];cases (t.al.length:Int) !=(t.es.length:Int) with
  | true=>rfl
  | false=>rw[qN,qN,Bool.not_not]
 rw[ha];congr 2
 by_cases hL:t.L=(t.ls.length:Int)
 .rw[hL];have h0:((t.ls.length:Int) !=(t.ls.length:Int))=false:=by simp
  rw[h0,qN,qN];unfold iE;cases decide (t.I<0) with
  | true=>rfl
  | false =>rw[qN,qN,PR (by decide)]
 .have h0:(t.L !=(t.ls.length:Int))=true:=by simpa using hL
  rw[h0,QK,QK]
theorem bN6 (t:Tm) (h:uY t):SS.CC 78 [A5 (fA t)] []=bK (GK t):=by rw[bAJ];have e:=NT (XP t) (by show 9<=1000; decide) (aWK t h);rw[tmK] at e;exact bf e
theorem aUL (l:List Ins) (hn:l.length<=1000):SS.CC 59 [.sl false 3 (l.map cu),.func (.func 60) [] []] []=some (bSE (aS (l.map (·.n))),[]):=by
 rw[b9A];refine jy (n:=l.length) (L:=fun k=>YA (l.map cu) (aS ((l.take k).map (·.n))) (k:Int)) (fun k hk => ?_) ?_
 .rw[aII,aO (by rw[ak]; omega),aG,zU hk,oO (b9B _),aX (jZ (rP _ l k hn)),rO (·.n) l hk,bV (by omega)]
 .rw[aII,aT (by rw[ak]; omega),aC,nZ (bW _)]
theorem aUN (l:List Tm) (hn:l.length<=1000):SS.CC 61 [.sl false 9 (l.map wP),.func (.func 62) [] []] []=some (bSE (aS (l.map (·.n))),[]):=by
 rw[b9J];refine jy (n:=l.length) (L:=fun k=>YD (l.map wP) (aS ((l.take k).map (·.n))) (k:Int)) (fun k hk => ?_) ?_
 .rw[aIK,aO (by rw[ak]; omega),aG,FP hk,oO (b9K _),aX (jZ (rP _ l k hn)),rO (·.n) l hk,bV (by omega)]
 .rw[aIK,aT (by rw[ak]; omega),aC,nZ (bW _)]
theorem aUO (l:List vX) (hn:l.length<=1000):SS.CC 63 [.sl false 2 (l.map uw),.func (.func 64) [] []] []=some (bSE (aS (l.map (·.n))),[]):=by
 rw[b9S];refine jy (n:=l.length) (L:=fun k=>YF (l.map uw) (aS ((l.take k).map (·.n))) (k:Int)) (fun k hk => ?_) ?_
 .rw[aIM,aO (by rw[ak]; omega),aG,EE hk,oO (b9T _),aX (jZ (rP _ l k hn)),rO (·.n) l hk,bV (by omega)]
 .rw[aIM,aT (by rw[ak]; omega),aC,nZ (bW _)]
theorem aUM (l:List Cst) (hn:l.length<=1000):SS.CC 65 [.sl false 3 (l.map nC),.func (.func 66) [] []] []=some (bSE (aS (l.map (·.n))),[]):=by
 rw[bA0];refine jy (n:=l.length) (L:=fun k=>YH (l.map nC) (aS ((l.take k).map (·.n))) (k:Int)) (fun k hk => ?_) ?_
 .rw[aIO,aO (by rw[ak]; omega),aG,FO hk,oO (bA1 _),aX (jZ (rP _ l k hn)),rO (·.n) l hk,bV (by omega)]
 .rw[aIO,aT (by rw[ak]; omega),aC,nZ (bW _)]
theorem Yo {α:Type} (f:α->Nm) (l:List α) (hn:l.length<=1000) (hs:∀ x,x∈l->(f x).length<=1000) {k:Nat} (hk:k<l.length) :
 chk (decide (0<=(i64.wrap ((k:Int)+1)))&&decide ((i64.wrap ((k:Int)+1))<=((aS (l.map f)).length:Int))) (G1 76 [bSE ((aS (l.map f)).take (i64.wrap ((k:Int)+1)).toNat)] fun n1=>some (bSD n1,[]))=bK (yK ((l.take k).map f) (f l[k])):=by
 have hk2:k<(l.map f).length:=by rw[bM]; exact hk
 rw[bV (by omega),aO (by omega),aO (by rw[lD]; omega),NE,nX,Zp];rw[bf (bF1 (l.map f) ⟨by rw[bM]; exact hn,fun s hs2=>by obtain ⟨x,hx,rfl⟩:=qL.1 hs2;exact hs x hx⟩ hk2),List.getElem_map,VN]
theorem bNA (m:Mo) (h:kY m) {k:Nat} (hk:k<m.ts.length):SS.CC 74 [bSD (k:Int),.cst (bSE (aS (m.ts.map (·.n)))),.cst (A0 (aW m))] []=bK (tpE (m.ts.take k) m.ts[k]):=by
 have ht:=h.ts.2 _ (dw hk);rw[bAF];have e:=NT [(75,[.cst (bSE (aS (m.ts.map (·.n)))),.cst (bSD (k:Int))],yK ((m.ts.take k).map (·.n)) (m.ts[k]).n),(77,[.cst (A0 (aW m)),.cst (bSD (k:Int))],GK m.ts[k])] (by show 2<=1000; decide) (by
  intro f hf;simp only[iQ,vP,vV] at hf;rcases hf with rfl | rfl
  .exact ⟨(bAG _ _).trans (Yo (·.n) m.ts h.ts.1 (fun x hx=>(h.ts.2 x hx).1) hk),rfl⟩
  .refine ⟨(bAI _ _).trans ?_,rfl⟩;rw[show (aW m).2.2.1=m.ts.map wP from rfl,FP hk];exact bf (bN6 _ ht.2))
 refine (bf e).trans ?_;show bK (sq _ (sq _ 0))=_;rw[PQ]; rfl
theorem tsc (m:Mo) (h:kY m):SS.CC 72 [.cst (A0 (aW m)),.cst (bSE (aS (m.ts.map (·.n))))] []=bK (PZ m.ts):=by
 rw[bAA];suffices e:SS.CC 73 [.sl false 9 (aW m).2.2.1,.func (.func 74) [] [.cst (bSE (aS (m.ts.map (·.n)))),.cst (A0 (aW m))]] []=bK (PZ m.ts) from bf e
 refine (bAE _ _ _ _ _ _ _ _ _).trans ?_;rw[ak];refine zW (L:=fun i=>YJ _ _ _ _ _ _ _ _ (m.ts.length:Int) (i:Int)) (fun i hi => ?_) ?_
 .rw[aIQ,aO (by omega),aG,bV (by have:=h.ts.1; omega),gD hi dT];exact bf (bNA m h hi)
 .rw[aIQ,aT (by omega),aC]
theorem bDB (l:List Ins) (hn:l.length<=1000) (h:∀ x,x∈l->x.n.length<=1000/\x.t.length<=1000/\AB x.es) {k:Nat} (hk:k<l.length):SS.CC 81 [bSD (k:Int),.cst (bSE (aS (l.map (·.n)))),.cst (.sl false 3 (l.map cu))] []=bK (inE (l.take k) l[k]):=by
 obtain ⟨h1,h2,h4⟩:=h _ (dw hk);rw[bAP];have e:=NT [(82,[.cst (bSE (aS (l.map (·.n)))),.cst (bSD (k:Int))],yK ((l.take k).map (·.n)) (l[k]).n),(83,[.cst (.sl false 3 (l.map cu)),.cst (bSD (k:Int))],UC ((l[k]).t::(l[k]).es))] (by show 2<=1000; decide) (by
  intro f hf;simp only[iQ,vP,vV] at hf;rcases hf with rfl | rfl
  .exact ⟨(bAQ _ _).trans (Yo (·.n) l hn (fun x hx=>(h x hx).1) hk),rfl⟩
  .refine ⟨(bAR _ _).trans ?_,rfl⟩;rw[zU hk,zU hk];dsimp only;rw[aX (Bo (by decide) (by rw[lD]; exact h4.1)),show ([.str (bs (l[k]).t)]:bSH) ++ aS (l[k]).es=aS ((l[k]).t::(l[k]).es) from rfl];rw[bF (aCF _ (by have:=h4.1; rw[aY]; omega) (fun s hs=>by
    rcases iQ.1 hs with e | e
    .rw[e]; exact h2
    .exact h4.2 s e)),bf (yj _ _),bHD,Bool.not_not])
 refine (bf e).trans ?_;show bK (sq _ (sq _ 0))=_;rw[PQ]; rfl
theorem bDC (l:List Ins) (hn:l.length<=1000) (h:∀ x,x∈l->x.n.length<=1000/\x.t.length<=1000/\AB x.es):SS.CC 79 [.cst (.sl false 3 (l.map cu)),.cst (bSE (aS (l.map (·.n))))] []=bK (Hy l):=by
 rw[bAK];suffices e:SS.CC 80 [.sl false 3 (l.map cu),.func (.func 81) [] [.cst (bSE (aS (l.map (·.n)))),.cst (.sl false 3 (l.map cu))]] []=bK (Hy l) from bf e
 refine (bAO _ _ _).trans ?_;rw[ak];refine zW (L:=fun i=>YK _ _ (l.length:Int) (i:Int)) (fun i hi => ?_) ?_
 .rw[aIR,aO (by omega),aG,bV (by omega),gD hi dI];exact bf (bDB l hn h hi)
 .rw[aIR,aT (by omega),aC]
theorem bFE (ls:List (Nm×Nm)):OU ls=bif yH (fun k => !nameB (ls.getD k dL).1 || !nameB (ls.getD k dL).2) ls.length then 7 else 0:=by
 rw[<- Vs];unfold OU;refine aCC fun i _ => ?_
 unfold lcE;cases nameB (ls.getD i dL).1<;>rfl
theorem aT7 (l:Nm×Nm) (h1:l.1.length<=1000) (h2:l.2.length<=1000):SS.CC 92 [zC (vLc l)] []=some (.bool (!nameB l.1 || !nameB l.2),[]):=by have e:=aCF [l.1,l.2] (by show 2<=2000; decide) (fun s hs=>by simp only[iQ,vP,vV] at hs;rcases hs with rfl | rfl<;>assumption);rw[bB4];refine (bF e).trans ?_;rw[Bool.not_not];unfold Vw;rw[a0S (fun s => !nameB s) [l.1,l.2] []];simp
theorem bP2 (m:Mo) (h:kY m) {k:Nat} (hk:k<m.xs.length):SS.CC 87 [bSD (k:Int),.cst (bSE (aS (m.xs.map (·.n)))),.cst (A0 (aW m))] []=bK (exE (m.xs.take k) m.xs[k]):=by
 obtain ⟨h1,h2,h4⟩:=h.xs.2 _ (dw hk);rw[bAY];have e:=NT [(88,[.cst (bSE (aS (m.xs.map (·.n)))),.cst (bSD (k:Int))],yK ((m.xs.take k).map (·.n)) (m.xs[k]).n),(89,[.cst (A0 (aW m)),.cst (bSD (k:Int))],bif ((m.xs[k]).ls.length:Int)==0 then 12 else 0),(90,[.cst (A0 (aW m)),.cst (bSD (k:Int))],OU (m.xs[k]).ls)] (by show 3<=1000; decide) (by
  intro f hf;simp only[iQ,vP,vV] at hf;rcases hf with rfl | rfl | rfl
  .exact ⟨(bAZ _ _).trans (Yo (·.n) m.xs h.xs.1 (fun x hx=>(h.xs.2 x hx).1) hk),rfl⟩
  .refine ⟨(bA' _ _).trans ?_,rfl⟩;rw[show (aW m).2.2.2.2.2.1=m.xs.map uw from rfl,EE hk,ak];exact bf (yj _ _)
  .refine ⟨(bB0 _ _).trans ?_,rfl⟩;rw[show (aW m).2.2.2.2.2.1=m.xs.map uw from rfl,EE hk];have e:∃ r,SH ((m.xs[k]).ls.map wO) ((0:Nat):Int)=some (bSD r,[])/\decide (0<=r)=yH (fun i => !nameB ((m.xs[k]).ls.getD i dL).1 || !nameB ((m.xs[k]).ls.getD i dL).2) (m.xs[k]).ls.length:=by
    refine loopA (L:=fun i=>SH ((m.xs[k]).ls.map wO) (i:Int)) (fun i hi => ?_) ?_
    .obtain ⟨a1,a2⟩:=h4 _ (dw hi);rw[aG6,aO (by rw[ak]; omega),aG,Jz hi,bF (aT7 _ a1 a2),bV (by omega),gD hi dL]
    .rw[aG6,aT (by rw[ak]; omega),aC]
   obtain ⟨r,e1,e2⟩:=e;rw[bF ((bB3 _).trans (bf ((b0E _).trans e1))),e2,bf (yj _ _),bFE])
 refine (bf e).trans ?_;show bK (sq _ (sq _ (sq _ 0)))=_;rw[PQ,PR (by decide)]; rfl
theorem xsc (m:Mo) (h:kY m):SS.CC 85 [.cst (A0 (aW m)),.cst (bSE (aS (m.xs.map (·.n))))] []=bK (LZ m.xs):=by
 rw[bAT];suffices e:SS.CC 86 [.sl false 2 (aW m).2.2.2.2.2.1,.func (.func 87) [] [.cst (bSE (aS (m.xs.map (·.n)))),.cst (A0 (aW m))]] []=bK (LZ m.xs) from bf e
 refine (bAX _ _ _ _ _ _ _ _ _).trans ?_;rw[ak];refine zW (L:=fun i=>YL _ _ _ _ _ _ _ _ (m.xs.length:Int) (i:Int)) (fun i hi => ?_) ?_
 .rw[aIS,aO (by omega),aG,bV (by have:=h.xs.1; omega),gD hi dX];exact bf (bP2 m h hi)
 .rw[aIS,aT (by omega),aC]
theorem ctc (x:Cst) (hn:x.ts.length<=1000) (hl:∀ l,l∈x.ts->l.1.length<=1000):SS.CC 98 [uT (oJ x)] []=bK (bif (x.ts.length:Int)==0 then 12 else sq (PY x.ts) (Dc x.b)):=by
 rw[bBG,ak];have hb:(bif decide (x.b < -65536)||decide (65536<x.b) then (2:Int) else 0)=Dc x.b:=by unfold Dc;cases decide (x.b < -65536)<;>rfl
 have e:TB (oJ x) 0=bK (sq (PY x.ts) (Dc x.b)):=by
  rw[<- pY (sq _ _),tK,pY];refine Bz (L:=fun k=>TB (oJ x) (k:Int)) (fun k hk => ?_) ?_
  .rw[aIU,aO (show (k:Int)<((oJ x).2.1.length:Int) by rw[ak]; omega),aG,KC hk,bF (zY _ (hl _ (dw hk))),bF (aNM _),bV (by omega),gD hk dR];unfold trE;simp only[Ih,st2,st0];cases decide ((x.ts[k]).2 < -65536)<;>rfl
  .rw[aIU,aT (show ¬ (x.ts.length:Int)<((oJ x).2.1.length:Int) by rw[ak]; omega),aC,bF (aNM _),bf (yj _ _),hb]
 rw[e,mV]
theorem bE' (m:Mo) (h:kY m) {k:Nat} (hk:k<m.ks.length):SS.CC 95 [bSD (k:Int),.cst (bSE (aS (m.ks.map (·.n)))),.cst (A0 (aW m))] []=bK (ctE (m.ks.take k) m.ks[k]):=by
 obtain ⟨h1,h2,h4⟩:=h.ks.2 _ (dw hk);rw[bBA];have e:=NT [(96,[.cst (bSE (aS (m.ks.map (·.n)))),.cst (bSD (k:Int))],yK ((m.ks.take k).map (·.n)) (m.ks[k]).n),(97,[.cst (A0 (aW m)),.cst (bSD (k:Int))],bif ((m.ks[k]).ts.length:Int)==0 then 12 else sq (PY (m.ks[k]).ts) (Dc (m.ks[k]).b))] (by show 2<=1000; decide) (by
  intro f hf;simp only[iQ,vP,vV] at hf;rcases hf with rfl | rfl
  .exact ⟨(bBB _ _).trans (Yo (·.n) m.ks h.ks.1 (fun x hx=>(h.ks.2 x hx).1) hk),rfl⟩
  .refine ⟨(bBC _ _).trans ?_,rfl⟩;rw[show (aW m).2.2.2.2.2.2.1=m.ks.map nC from rfl,FO hk];exact bf (ctc _ h2 h4))
 refine (bf e).trans ?_;show bK (sq _ (sq _ 0))=_;rw[PQ]; rfl
theorem ksc (m:Mo) (h:kY m):SS.CC 93 [.cst (A0 (aW m)),.cst (bSE (aS (m.ks.map (·.n))))] []=bK (I5 m.ks):=by
 rw[bB5];suffices e:SS.CC 94 [.sl false 3 (aW m).2.2.2.2.2.2.1,.func (.func 95) [] [.cst (bSE (aS (m.ks.map (·.n)))),.cst (A0 (aW m))]] []=bK (I5 m.ks) from bf e
 refine (bB9 _ _ _ _ _ _ _ _ _).trans ?_;rw[ak];refine zW (L:=fun i=>YM _ _ _ _ _ _ _ _ (m.ks.length:Int) (i:Int)) (fun i hi => ?_) ?_
 .rw[aIT,aO (by omega),aG,bV (by have:=h.ks.1; omega),gD hi dK];exact bf (bE' m h hi)
 .rw[aIT,aT (by omega),aC]
def U1 (m:Mo):Int:=bif decide ((16:Int)<(m.ts.length:Int)) then 3 else bif decide ((32:Int)<(m.cs.length:Int)) then 3 else bif decide ((32:Int)<(m.rs.length:Int)) then 3 else bif decide ((32:Int)<(m.xs.length:Int)) then 3 else bif decide ((32:Int)<(m.ks.length:Int)) then 3 else 0
theorem lic (m:Mo):SS.CC 71 [.cst (A0 (aW m))] []=bK (U1 m):=by
 rw[bA9,bf (yj _ _),bf (yj _ _)];dsimp only;rw[ak,ak,ak,ak,ak,mV];refine congrArg bK ?_;unfold U1;generalize (m.ts.length:Int)=a;generalize (m.cs.length:Int)=b;generalize (m.rs.length:Int)=c;generalize (m.xs.length:Int)=d;generalize (m.ks.length:Int)=e;by_cases h0:(16:Int)<a
 .rw[aO h0]; rfl
 rw[aT h0,qN,qN];by_cases h1:(32:Int)<b
 .rw[aO h1,aO (by split<;>split<;>(try split)<;>(try split)<;>omega)]; rfl
 rw[aT h1,qN];by_cases h2:(32:Int)<c
 .rw[aO h2,aO (by split<;>split<;>(try split)<;>(try split)<;>omega)]; rfl
 rw[aT h2,qN];by_cases h3:(32:Int)<d
 .rw[aO h3,aO (by split<;>split<;>(try split)<;>(try split)<;>omega)]; rfl
 rw[aT h3,qN];by_cases h4:(32:Int)<e
 .rw[aO h4,aO (by split<;>split<;>(try split)<;>(try split)<;>omega)];try rfl
 rw[aT h4,qN,aT (by split<;>split<;>(try split)<;>(try split)<;>omega),qN]
theorem bM8 (m:Mo) (x:Int):sq (U1 m) x=bif decide ((16:Int)<(m.ts.length:Int)) then 3 else bif decide ((32:Int)<(m.cs.length:Int)) then 3 else bif decide ((32:Int)<(m.rs.length:Int)) then 3 else bif decide ((32:Int)<(m.xs.length:Int)) then 3 else bif decide ((32:Int)<(m.ks.length:Int)) then 3 else x:=by unfold U1;cases decide ((16:Int)<(m.ts.length:Int))<;>cases decide ((32:Int)<(m.cs.length:Int))<;>cases decide ((32:Int)<(m.rs.length:Int))<;>cases decide ((32:Int)<(m.xs.length:Int))<;>cases decide ((32:Int)<(m.ks.length:Int))<;>rfl
theorem aDC (m:Mo) (h:kY m) (h2:m.cs.length+m.rs.length<=1000):SS.CC 18 [A0 (aW m)] []=bK (Ba m):=by
 have hl:(m.cs ++ m.rs).length<=1000:=by rw[aP]; exact h2
 rw[a_Z,Gh (H6 m.cs h.is.1),aX (by rw[bM]; exact Bo h.is.1 (by rw[bM]; exact h.is.2.1))];dsimp only;rw[<- ry,xC (aUL _ hl),xC (aUN _ h.ts.1),xC (aUO _ h.xs.1),xC (aUM _ h.ks.1)];have e:=NT [(68,[.cst (A0 (aW m))],bif !nameB m.n then 7 else 0),(70,[.cst (A0 (aW m))],Qn m.es),(71,[.cst (A0 (aW m))],U1 m),(72,[.cst (A0 (aW m)),.cst (bSE (aS (m.ts.map (·.n))))],PZ m.ts),(79,[.cst (.sl false 3 ((m.cs ++ m.rs).map cu)),.cst (bSE (aS ((m.cs ++ m.rs).map (·.n))))],Hy (m.cs ++ m.rs)),(85,[.cst (A0 (aW m)),.cst (bSE (aS (m.xs.map (·.n))))],LZ m.xs),(93,[.cst (A0 (aW m)),.cst (bSE (aS (m.ks.map (·.n))))],I5 m.ks)] (by show 7<=1000; decide) (by
  intro f hf;simp only[iQ,vP,vV] at hf;rcases hf with rfl | rfl | rfl | rfl | rfl | rfl | rfl
  .refine ⟨(bA6 _).trans ?_,rfl⟩;rw[bF (zY _ h.n),bf (yj _ _)]
  .exact ⟨(bA8 _).trans (bf (acc _ h.es.1 h.es.2)),rfl⟩
  .exact ⟨lic m,rfl⟩
  .exact ⟨tsc m h,rfl⟩
  .exact ⟨bDC _ hl h.is.2.2,rfl⟩
  .exact ⟨xsc m h,rfl⟩
  .exact ⟨ksc m h,rfl⟩)
 refine (bf e).trans ?_;show bK (sq _ (sq _ (sq _ (sq _ (sq _ (sq _ (sq _ 0)))))))=_;rw[PQ,PR (by decide),bM8];rfl
section
def SC:KT:=SS.rK Tryz.f16 16 0 []
def a'4:KT:=SS.jK 16 200 0 (cS Tryz.f16 15) SC
def aFP:KT:=aj 0 a'4
def a'L:KT:=SS.lK 16 200 0 [1,3,25,26,27] 0 (cS Tryz.f16 75) aFP
def a'M:KT:=SS.jK 16 200 0 (cS Tryz.f16 971) a'L
def a'N:KT:=aj 1 a'M
def a'O:KT:=SS.jK 16 200 0 (cS Tryz.f16 15563) a'N
def a'P:KT:=aj 2 a'O
def a'Q:KT:=SS.jK 16 200 0 (cS Tryz.f16 31) SC
def a'R:KT:=aj 4 a'Q
def a'5:KT:=SS.jK 16 200 0 (cS Tryz.f16 63) SC
def aFN:KT:=aj 6 a'5
def a'6:KT:=SS.lK 16 200 0 [1,3,88,89,90] 0 (cS Tryz.f16 303) aFN
def a'7:KT:=SS.jK 16 200 0 (cS Tryz.f16 3887) a'6
def a'8:KT:=aj 7 a'7
def a'9:KT:=SS.jK 16 200 0 (cS Tryz.f16 127) SC
def aFO:KT:=aj 8 a'9
def a'A:KT:=SS.lK 16 200 0 [1,3,116,117,118] 0 (cS Tryz.f16 607) aFO
def a'B:KT:=SS.jK 16 200 0 (cS Tryz.f16 7775) a'A
def a'C:KT:=aj 9 a'B
def a'D:KT:=SS.jK 16 200 0 (cS Tryz.f16 124511) a'C
def a'E:KT:=aj 10 a'D
def a'F:KT:=SS.jK 16 200 0 (cS Tryz.f16 255) SC
def aFQ:KT:=aj 12 a'F
def a'G:KT:=SS.lK 16 200 0 [3,153,154,155] 0 (cS Tryz.f16 1215) aFQ
def a'H:KT:=SS.jK 16 200 0 (cS Tryz.f16 15551) a'G
def a'I:KT:=aj 13 a'H
def a'J:KT:=SS.jK 16 200 0 (cS Tryz.f16 249023) a'I
def a'K:KT:=aj 14 a'J
def JZ (x1:Sh.V S0) (x3:bSH) (x27:Int):R:=SS.LL (SS.ae 16 200) 0 [1,3,25,26,27] 0 (cS Tryz.f16 75) aFP ⟨[(1,.cst (A0 x1)),(3,.sl true 1 x3),(25,.sl false 5 x1.2.1),(26,bSD (x1.2.1.length:Int)),(27,bSD x27)],[]⟩
def AV (x1:Sh.V S0) (q0:Sh.V S4) (x3:bSH) (Iw:Int) (x27:Int):R:=SS.LL (SS.ae 16 200) 0 [1,3,5,25,26,27,42,43,44] 1 (cS Tryz.f16 77003) a'P ⟨[(1,.cst (A0 x1)),(3,.sl true 1 x3),(5,bSF),(25,.sl false 5 x1.2.1),(26,bSD (x1.2.1.length:Int)),(27,bSD x27),(42,.sl true 1 [.bool q0.2.1,.bool q0.2.2.1,.bool q0.2.2.2.1]),(43,bSD 3),(44,bSD Iw)],[O4 q0]⟩
def JY (x1:Sh.V S0) (x3:bSH) (zx:Int):R:=SS.LL (SS.ae 16 200) 0 [1,3,72,73,74] 0 (cS Tryz.f16 151) a'R ⟨[(1,.cst (A0 x1)),(3,.sl true 1 x3),(72,.sl false 9 x1.2.2.1),(73,bSD (x1.2.2.1.length:Int)),(74,bSD zx)],[]⟩
def Hl (x1:Sh.V S0) (x88:bSH) (x89:Int) (x3:bSH) (x90:Int):R:=SS.LL (SS.ae 16 200) 0 [1,3,88,89,90] 0 (cS Tryz.f16 303) aFN ⟨[(1,.cst (A0 x1)),(3,.sl true 1 x3),(88,.sl true 3 x88),(89,bSD x89),(90,bSD x90)],[]⟩
def Xh (x1:Sh.V S0) (x88:bSH) (x89:Int) (q0:Sh.V S8) (x12:bSG) (x3:bSH) (x90:Int):R:=bH (SS.xX 16 200 0) (cS Tryz.f16 62255) a'8 ⟨[(1,.cst (A0 x1)),(3,.sl true 1 x3),(11,bSF),(12,.str x12),(88,.sl true 3 x88),(89,bSD x89),(90,bSD x90)],[O8 q0]⟩
def Hm (x1:Sh.V S0) (x3:bSH) (BD:Int):R:=SS.LL (SS.ae 16 200) 0 [1,3,116,117,118] 0 (cS Tryz.f16 607) aFO ⟨[(1,.cst (A0 x1)),(3,.sl true 1 x3),(116,.sl false 2 x1.2.2.2.2.2.1),(117,bSD (x1.2.2.2.2.2.1.length:Int)),(118,bSD BD)],[]⟩
def NZ (x1:Sh.V S0) (LW:bSH) (x3:bSH) (Ir:Int) (BD:Int):R:=SS.LL (SS.ae 16 200) 0 [1,3,116,117,118,128,129,130] 0 (cS Tryz.f16 616031) a'E ⟨[(1,.cst (A0 x1)),(3,.sl true 1 x3),(116,.sl false 2 x1.2.2.2.2.2.1),(117,bSD (x1.2.2.2.2.2.1.length:Int)),(118,bSD BD),(128,.sl false 2 LW),(129,bSD (LW.length:Int)),(130,bSD Ir)],[]⟩
def Ho (x153:bSH) (x3:bSH) (BF:Int):R:=SS.LL (SS.ae 16 200) 0 [3,153,154,155] 0 (cS Tryz.f16 1215) aFQ ⟨[(3,.sl true 1 x3),(153,.sl false 3 x153),(154,bSD (x153.length:Int)),(155,bSD BF)],[]⟩
def Na (x153:bSH) (q0:Sh.V iW) (x3:bSH) (x167:Int) (BF:Int):R:=SS.LL (SS.ae 16 200) 0 [3,18,153,154,155,165,166,167] 1 (cS Tryz.f16 1232063) a'K ⟨[(3,.sl true 1 x3),(18,bSF),(153,.sl false 3 x153),(154,bSD (x153.length:Int)),(155,bSD BF),(165,.sl false 2 q0.2.1),(166,bSD (q0.2.1.length:Int)),(167,bSD x167)],[vY q0]⟩
theorem aFX (x1:Sh.V S0) (x3:bSH) (x27:Int):JZ x1 x3 x27=aA (decide (x27<(x1.2.1.length:Int))) (bD S4 x1.2.1 x27 fun u2=>chk (decide (x3.length+2<=aQ)) (AV x1 u2 (x3 ++ ([.str ⟨#[101,118,101,110,116]⟩,.str u2.1]:bSH)) 0 x27)) (JY x1 x3 0):=ll
theorem Xi (x1:Sh.V S0) (q0:Sh.V S4) (x3:bSH) (Iw:Int) (x27:Int):AV x1 q0 x3 Iw x27=aA (decide (Iw<3)) (dQ [.bool q0.2.1,.bool q0.2.2.1,.bool q0.2.2.2.1] Iw fun e1=>vB e1 fun b2=>aA b2 (dQ [.str ⟨#[99,111,110,116,114,111,108,108,97,98,108,101]⟩,.str ⟨#[111,98,115,101,114,118,97,98,108,101]⟩,.str ⟨#[102,111,114,99,105,98,108,101]⟩] Iw fun e3=>vS e3 fun s4=>chk (decide (x3.length+1<=aQ)) (AV x1 q0 (x3 ++ ([.str s4]:bSH)) (i64.wrap (Iw+1)) x27)) (AV x1 q0 x3 (i64.wrap (Iw+1)) x27)) (aA (decide (0<q0.2.2.2.2.1)) (G2 35 [bSD q0.2.2.2.2.1] fun s5=>chk (decide (x3.length+2<=aQ)) (chk (decide ((x3 ++ ([.str ⟨#[102,97,117,108,116]⟩,.str s5]:bSH)).length+1<=aQ)) (JZ x1 ((x3 ++ ([.str ⟨#[102,97,117,108,116]⟩,.str s5]:bSH)) ++ ([.str ⟨#[59]⟩]:bSH)) (i64.wrap (x27+1))))) (chk (decide (x3.length+1<=aQ)) (JZ x1 (x3 ++ ([.str ⟨#[59]⟩]:bSH)) (i64.wrap (x27+1))))):=ll
theorem aFR (x1:Sh.V S0) (x3:bSH) (zx:Int):JY x1 x3 zx=aA (decide (zx<(x1.2.2.1.length:Int))) (bD S5 x1.2.2.1 zx fun u2=>G4 54 [A5 u2] fun TY=>chk (decide (x3.length+TY.length<=aQ)) (JY x1 (x3 ++ TY) (i64.wrap (zx+1)))) (En 45 [.sl false 3 x1.2.2.2.1] fun l13=>chk (decide (l13.length+x1.2.2.2.2.1.length<=aQ)) (Hl x1 (l13 ++ x1.2.2.2.2.1) ((l13 ++ x1.2.2.2.2.1).length:Int) x3 0)):=ll
theorem aFS (x1:Sh.V S0) (x88:bSH) (x89:Int) (x3:bSH) (x90:Int):Hl x1 x88 x89 x3 x90=aA (decide (x90<x89)) (bD S8 x88 x90 fun u2=>aA (decide ((x1.2.2.2.1.length:Int)<=x90)) (Xh x1 x88 x89 u2 ⟨#[114,101,113,117,105,114,101,109,101,110,116]⟩ x3 x90) (Xh x1 x88 x89 u2 ⟨#[99,111,109,112,111,110,101,110,116]⟩ x3 x90)) (Hm x1 x3 0):=ll
theorem a'3 (x1:Sh.V S0) (x88:bSH) (x89:Int) (q0:Sh.V S8) (x12:bSG) (x3:bSH) (x90:Int):Xh x1 x88 x89 q0 x12 x3 x90=chk (decide (x3.length+5<=aQ)) (G4 55 [bSE q0.2.2.1] fun l1=>chk (decide ((x3 ++ ([.str x12,.str q0.1,.str ⟨#[61]⟩,.str q0.2.1,.str ⟨#[40]⟩]:bSH)).length+l1.length<=aQ)) (chk (decide (((x3 ++ ([.str x12,.str q0.1,.str ⟨#[61]⟩,.str q0.2.1,.str ⟨#[40]⟩]:bSH)) ++ l1).length+2<=aQ)) (Hl x1 x88 x89 (((x3 ++ ([.str x12,.str q0.1,.str ⟨#[61]⟩,.str q0.2.1,.str ⟨#[40]⟩]:bSH)) ++ l1) ++ ([.str ⟨#[41]⟩,.str ⟨#[59]⟩]:bSH)) (i64.wrap (x90+1))))):=by kernel_rfl
theorem aFT (x1:Sh.V S0) (x3:bSH) (BD:Int):Hm x1 x3 BD=aA (decide (BD<(x1.2.2.2.2.2.1.length:Int))) (bD je x1.2.2.2.2.2.1 BD fun u2=>chk (decide (x3.length+2<=aQ)) (NZ x1 u2.2.1 (x3 ++ ([.str ⟨#[101,120,99,108,117,100,101]⟩,.str u2.1]:bSH)) 0 BD)) (Ho x1.2.2.2.2.2.2.1 x3 0):=ll
theorem aFU (x1:Sh.V S0) (LW:bSH) (x3:bSH) (Ir:Int) (BD:Int):NZ x1 LW x3 Ir BD=aA (decide (Ir<(LW.length:Int))) (bD zG LW Ir fun u2=>dQ [.str ⟨#[58]⟩,.str ⟨#[44]⟩] (if (1:Int)<Ir then (1:Int) else Ir) fun e4=>vS e4 fun s5=>chk (decide (x3.length+3<=aQ)) (NZ x1 LW (x3 ++ ([.str s5,.str u2.1,.str u2.2.1]:bSH)) (i64.wrap (Ir+1)) BD)) (chk (decide (x3.length+1<=aQ)) (Hm x1 (x3 ++ ([.str ⟨#[59]⟩]:bSH)) (i64.wrap (BD+1)))):=ll
theorem aFV (x153:bSH) (x3:bSH) (BF:Int):Ho x153 x3 BF=aA (decide (BF<(x153.length:Int))) (bD iW x153 BF fun u2=>chk (decide (x3.length+2<=aQ)) (Na x153 u2 (x3 ++ ([.str ⟨#[108,105,109,105,116]⟩,.str u2.1]:bSH)) 0 BF)) (some (bSE x3,[])):=ll
theorem aFW (x153:bSH) (q0:Sh.V iW) (x3:bSH) (x167:Int) (BF:Int):Na x153 q0 x3 x167 BF=aA (decide (x167<(q0.2.1.length:Int))) (bD AC q0.2.1 x167 fun u2=>dQ [.str ⟨#[58]⟩,.str ⟨#[43]⟩] (if (1:Int)<x167 then (1:Int) else x167) fun e4=>vS e4 fun s5=>chk (decide (x3.length+1<=aQ)) (G7 56 [bSD u2.2.1] fun l6=>chk (decide ((x3 ++ ([.str s5]:bSH)).length+l6.length<=aQ)) (chk (decide (((x3 ++ ([.str s5]:bSH)) ++ l6).length+2<=aQ)) (Na x153 q0 (((x3 ++ ([.str s5]:bSH)) ++ l6) ++ ([.str ⟨#[42]⟩,.str u2.1]:bSH)) (i64.wrap (x167+1)) BF)))) (chk (decide (x3.length+1<=aQ)) (G7 56 [bSD q0.2.2.1] fun l8=>chk (decide ((x3 ++ ([.str ⟨#[60,61]⟩]:bSH)).length+l8.length<=aQ)) (chk (decide (((x3 ++ ([.str ⟨#[60,61]⟩]:bSH)) ++ l8).length+1<=aQ)) (Ho x153 (((x3 ++ ([.str ⟨#[60,61]⟩]:bSH)) ++ l8) ++ ([.str ⟨#[59]⟩]:bSH)) (i64.wrap (BF+1)))))):=ll
theorem a'S (a0:Sh.V S0):SS.CC 16 [A0 a0] []=JZ a0 [.str ⟨#[109,111,100,101,108]⟩,.str a0.1,.str ⟨#[59]⟩] 0:=cc
theorem a_H (a0:Sh.V S0):SS.CC 17 [A0 a0] []=G1 18 [A0 a0] fun n1=>aA (n1 != 0) (some (.tuple [.str ⟨#[]⟩,bSD n1],[])) (ah 57 [bSF,A0 a0] [aF ([],())] fun _ u3=>G0 58 [.sl false 5 u3.1] fun u6=>aA (u6.2.1.1 != 0) (some (.tuple [.str ⟨#[]⟩,bSD u6.2.1.1],[])) (aA (decide (65536<(u6.1.1.size:Int))) (some (.tuple [.str ⟨#[]⟩,bSD 15],[])) (some (.tuple [.str u6.1.1,bSD 0],[])))):=cc
theorem b0H (a0:Sh.V S0):SS.CC 19 [A0 a0] []=G4 16 [A0 a0] fun l1=>G2 15 [bSE l1,.str ⟨#[32]⟩] fun s3=>VW 99 [.str s3] fun u5=>G0 58 [.sl false 5 u5.1.1] fun u10=>some (.str u10.1.1,[]):=cc
theorem b7W (a1:bSG) (TG:bSI):SS.CC 52 [bSF,.str a1] [oP (TG,())]=H51 162 [bSF] [oP (TG,())] fun _ u1=>chk (decide (u1.1.length+a1.size<=aQ)) (some (.tuple [bSD (a1.size:Int),.raw .nilIface],[oP ((u1.1 ++ a1.data.toList),())])):=cc
def a3W:KT:=SS.rK Tryz.f54 54 0 []
def b7Z:KT:=SS.jK 54 170 0 (cS Tryz.f54 15) a3W
def aI0:KT:=aj 0 b7Z
def b84:KT:=SS.lK 54 170 0 [1,3,23,24,25] 0 (cS Tryz.f54 75) aI0
def b85:KT:=SS.jK 54 170 0 (cS Tryz.f54 971) b84
def b86:KT:=aj 1 b85
def b87:KT:=SS.jK 54 170 0 (cS Tryz.f54 63) a3W
def b88:KT:=aj 2 b87
def b89:KT:=SS.jK 54 170 0 (cS Tryz.f54 127) a3W
def aI1:KT:=aj 4 b89
def b7':KT:=SS.lK 54 170 0 [1,3,6,95,96,97] 0 (cS Tryz.f54 607) aI1
def b81:KT:=SS.jK 54 170 0 (cS Tryz.f54 7775) b7'
def aH':KT:=aj 5 b81
def b82:KT:=SS.jK 54 170 0 (cS Tryz.f54 255583) aH'
def b83:KT:=aj 6 b82
def Hr (x1:Sh.V S5) (x3:bSH) (x25:Int):R:=SS.LL (SS.ae 54 170) 0 [1,3,23,24,25] 0 (cS Tryz.f54 75) aI0 ⟨[(1,.cst (A5 x1)),(3,.sl true 1 x3),(23,bSE x1.2.1),(24,bSD (x1.2.1.length:Int)),(25,bSD x25)],[]⟩
def Y5 (x1:Sh.V S5) (x3:bSH) (x4:Int) (x25:Int):R:=bH (SS.xX 54 170 0) (cS Tryz.f54 15563) b86 ⟨[(1,.cst (A5 x1)),(3,.sl true 1 x3),(4,bSD x4),(23,bSE x1.2.1),(24,bSD (x1.2.1.length:Int)),(25,bSD x25)],[]⟩
def Jc (x1:Sh.V S5) (x3:bSH) (x6:bSH) (Px:Int):R:=SS.LL (SS.ae 54 170) 0 [1,3,6,56,57,58] 0 (cS Tryz.f54 303) b88 ⟨[(1,.cst (A5 x1)),(3,.sl true 1 x3),(6,.sl true 1 x6),(56,.sl false 4 x1.2.2.2.2.2.2.2.1),(57,bSD (x1.2.2.2.2.2.2.2.1.length:Int)),(58,bSD Px)],[]⟩
def F8 (x1:Sh.V S5) (x3:bSH) (uO:Int) (x6:bSH):R:=SS.LL (SS.ae 54 170) 0 [1,3,6,95,96,97] 0 (cS Tryz.f54 607) aI1 ⟨[(1,.cst (A5 x1)),(3,.sl true 1 x3),(6,.sl true 1 x6),(95,.sl false 8 x1.2.2.2.2.2.2.2.2.1),(96,bSD (x1.2.2.2.2.2.2.2.2.1.length:Int)),(97,bSD uO)],[]⟩
def Y4 (x1:Sh.V S5) (q0:Sh.V S9) (x3:bSH) (x6:bSH) (uO:Int):R:=bH (SS.xX 54 170 0) (cS Tryz.f54 124511) aH' ⟨[(1,.cst (A5 x1)),(3,.sl true 1 x3),(6,.sl true 1 x6),(10,bSF),(95,.sl false 8 x1.2.2.2.2.2.2.2.2.1),(96,bSD (x1.2.2.2.2.2.2.2.2.1.length:Int)),(97,bSD uO)],[O9 q0]⟩
def O0 (x1:Sh.V S5) (x3:bSH) (LX:bSH) (Iu:Int) (x6:bSH) (uO:Int):R:=SS.LL (SS.ae 54 170) 0 [1,3,6,95,96,97,136,137,138] 0 (cS Tryz.f54 1238623) b83 ⟨[(1,.cst (A5 x1)),(3,.sl true 1 x3),(6,.sl true 1 x6),(95,.sl false 8 x1.2.2.2.2.2.2.2.2.1),(96,bSD (x1.2.2.2.2.2.2.2.2.1.length:Int)),(97,bSD uO),(136,.sl false 5 LX),(137,bSD (LX.length:Int)),(138,bSD Iu)],[]⟩
theorem aI5 (x1:Sh.V S5) (x3:bSH) (x25:Int):Hr x1 x3 x25=aA (decide (x25<(x1.2.1.length:Int))) (dQ x1.2.1 x25 fun e1=>vS e1 fun s2=>chk (decide (x3.length+2<=aQ)) (aA (x25==x1.2.2.2.2.2.1) (chk (decide ((x3 ++ ([.str ⟨#[108,111,99,97,116,105,111,110]⟩,.str s2]:bSH)).length+1<=aQ)) (Y5 x1 ((x3 ++ ([.str ⟨#[108,111,99,97,116,105,111,110]⟩,.str s2]:bSH)) ++ ([.str ⟨#[105,110,105,116,105,97,108]⟩]:bSH)) x25 x25)) (Y5 x1 (x3 ++ ([.str ⟨#[108,111,99,97,116,105,111,110]⟩,.str s2]:bSH)) x25 x25))) (Jc x1 x3 [] 0):=ll
theorem b7Y (x1:Sh.V S5) (x3:bSH) (x4:Int) (x25:Int):Y5 x1 x3 x4 x25=G3 164 [bSE x1.2.2.2.2.2.2.1,bSD x4] fun b1=>aA b1 (chk (decide (x3.length+1<=aQ)) (chk (decide ((x3 ++ ([.str ⟨#[109,97,114,107,101,100]⟩]:bSH)).length+1<=aQ)) (Hr x1 ((x3 ++ ([.str ⟨#[109,97,114,107,101,100]⟩]:bSH)) ++ ([.str ⟨#[59]⟩]:bSH)) (i64.wrap (x25+1))))) (chk (decide (x3.length+1<=aQ)) (Hr x1 (x3 ++ ([.str ⟨#[59]⟩]:bSH)) (i64.wrap (x25+1)))):=by kernel_rfl
theorem aI2 (x1:Sh.V S5) (x3:bSH) (x6:bSH) (Px:Int):Jc x1 x3 x6 Px=aA (decide (Px<(x1.2.2.2.2.2.2.2.1.length:Int))) (bD S7 x1.2.2.2.2.2.2.2.1 Px fun u2=>chk (decide (x6.length+1<=aQ)) (chk (decide (x3.length+3<=aQ)) (G7 56 [bSD u2.2.1] fun l6=>chk (decide ((x3 ++ ([.str ⟨#[118,97,114]⟩,.str u2.1,.str ⟨#[58]⟩]:bSH)).length+l6.length<=aQ)) (chk (decide (((x3 ++ ([.str ⟨#[118,97,114]⟩,.str u2.1,.str ⟨#[58]⟩]:bSH)) ++ l6).length+1<=aQ)) (G7 56 [bSD u2.2.2.1] fun l8=>chk (decide ((((x3 ++ ([.str ⟨#[118,97,114]⟩,.str u2.1,.str ⟨#[58]⟩]:bSH)) ++ l6) ++ ([.str ⟨#[46,46]⟩]:bSH)).length+l8.length<=aQ)) (chk (decide (((((x3 ++ ([.str ⟨#[118,97,114]⟩,.str u2.1,.str ⟨#[58]⟩]:bSH)) ++ l6) ++ ([.str ⟨#[46,46]⟩]:bSH)) ++ l8).length+1<=aQ)) (G7 56 [bSD u2.2.2.2.1] fun l10=>chk (decide ((((((x3 ++ ([.str ⟨#[118,97,114]⟩,.str u2.1,.str ⟨#[58]⟩]:bSH)) ++ l6) ++ ([.str ⟨#[46,46]⟩]:bSH)) ++ l8) ++ ([.str ⟨#[61]⟩]:bSH)).length+l10.length<=aQ)) (chk (decide (((((((x3 ++ ([.str ⟨#[118,97,114]⟩,.str u2.1,.str ⟨#[58]⟩]:bSH)) ++ l6) ++ ([.str ⟨#[46,46]⟩]:bSH)) ++ l8) ++ ([.str ⟨#[61]⟩]:bSH)) ++ l10).length+1<=aQ)) (Jc x1 (((((((x3 ++ ([.str ⟨#[118,97,114]⟩,.str u2.1,.str ⟨#[58]⟩]:bSH)) ++ l6) ++ ([.str ⟨#[46,46]⟩]:bSH)) ++ l8) ++ ([.str ⟨#[61]⟩]:bSH)) ++ l10) ++ ([.str ⟨#[59]⟩]:bSH)) (x6 ++ ([.str u2.1]:bSH)) (i64.wrap (Px+1))))))))))) (F8 x1 x3 0 x6):=ll
theorem aI3 (x1:Sh.V S5) (x3:bSH) (uO:Int) (x6:bSH):F8 x1 x3 uO x6=aA (decide (uO<(x1.2.2.2.2.2.2.2.2.1.length:Int))) (bD S9 x1.2.2.2.2.2.2.2.2.1 uO fun u2=>dQ x1.2.1 u2.1 fun e10=>vS e10 fun s11=>dQ x1.2.2.1 u2.2.1 fun e12=>vS e12 fun s13=>dQ x1.2.1 u2.2.2.1 fun e14=>vS e14 fun s15=>chk (decide (x3.length+4<=aQ)) (zD 116 [] fun u16=>G3 23 [A1 (u2.2.2.2.1,u2.2.2.2.2.1,u2.2.2.2.2.2.1,u2.2.2.2.2.2.2.1,()),A1 u16] fun b21=>aA (!b21) (chk (decide ((x3 ++ ([.str ⟨#[101,100,103,101]⟩,.str s11,.str s13,.str s15]:bSH)).length+1<=aQ)) (G7 29 [bSE x6,A1 (u2.2.2.2.1,u2.2.2.2.2.1,u2.2.2.2.2.2.1,u2.2.2.2.2.2.2.1,()),bSD 0] fun l23=>chk (decide (((x3 ++ ([.str ⟨#[101,100,103,101]⟩,.str s11,.str s13,.str s15]:bSH)) ++ ([.str ⟨#[119,104,101,110]⟩]:bSH)).length+l23.length<=aQ)) (Y4 x1 u2 (((x3 ++ ([.str ⟨#[101,100,103,101]⟩,.str s11,.str s13,.str s15]:bSH)) ++ ([.str ⟨#[119,104,101,110]⟩]:bSH)) ++ l23) x6 uO))) (Y4 x1 u2 (x3 ++ ([.str ⟨#[101,100,103,101]⟩,.str s11,.str s13,.str s15]:bSH)) x6 uO))) (chk (decide (x3.length+1<=aQ)) (some (bSE (x3 ++ ([.str ⟨#[125]⟩]:bSH)),[]))):=ll
theorem b7X (x1:Sh.V S5) (q0:Sh.V S9) (x3:bSH) (x6:bSH) (uO:Int):Y4 x1 q0 x3 x6 uO=O0 x1 x3 q0.2.2.2.2.2.2.2.1 0 x6 uO:=by kernel_rfl
theorem aI4 (x1:Sh.V S5) (x3:bSH) (LX:bSH) (Iu:Int) (x6:bSH) (uO:Int):O0 x1 x3 LX Iu x6 uO=aA (decide (Iu<(LX.length:Int))) (bD tq LX Iu fun u2=>dQ [.str ⟨#[100,111]⟩,.str ⟨#[44]⟩] (if (1:Int)<Iu then (1:Int) else Iu) fun e7=>vS e7 fun s8=>dQ x6 u2.1 fun e9=>vS e9 fun s10=>chk (decide (x3.length+3<=aQ)) (G7 29 [bSE x6,A1 (u2.2.1,u2.2.2.1,u2.2.2.2.1,u2.2.2.2.2.1,()),bSD 0] fun TY=>chk (decide ((x3 ++ ([.str s8,.str s10,.str ⟨#[58,61]⟩]:bSH)).length+TY.length<=aQ)) (O0 x1 ((x3 ++ ([.str s8,.str s10,.str ⟨#[58,61]⟩]:bSH)) ++ TY) LX (i64.wrap (Iu+1)) x6 uO))) (chk (decide (x3.length+1<=aQ)) (F8 x1 (x3 ++ ([.str ⟨#[59]⟩]:bSH)) (i64.wrap (uO+1)) x6)):=ll
theorem b8A (a0:Sh.V S5):SS.CC 54 [A5 a0] []=G4 55 [bSE a0.2.2.1] fun l1=>chk (decide (3+l1.length<=aQ)) (chk (decide ((([.str ⟨#[116,101,109,112,108,97,116,101]⟩,.str a0.1,.str ⟨#[40]⟩]:bSH) ++ l1).length+2<=aQ)) (Hr a0 ((([.str ⟨#[116,101,109,112,108,97,116,101]⟩,.str a0.1,.str ⟨#[40]⟩]:bSH) ++ l1) ++ ([.str ⟨#[41]⟩,.str ⟨#[123]⟩]:bSH)) 0)):=cc
def b8B:KT:=SS.rK Tryz.f55 55 0 []
def b8C:KT:=SS.jK 55 24 0 (cS Tryz.f55 15) b8B
def b8D:KT:=aj 0 b8C
def O1 (x6:bSH) (x3:bSH) (x8:Int):R:=SS.LL (SS.ae 55 24) 0 [3,6,7,8] 0 (cS Tryz.f55 75) b8D ⟨[(3,.sl true 1 x3),(6,bSE x6),(7,bSD (x6.length:Int)),(8,bSD x8)],[]⟩
theorem aI6 (x6:bSH) (x3:bSH) (x8:Int):O1 x6 x3 x8=aA (decide (x8<(x6.length:Int))) (dQ x6 x8 fun e1=>vS e1 fun s2=>aA (decide (0<x8)) (chk (decide (x3.length+1<=aQ)) (chk (decide ((x3 ++ ([.str ⟨#[44]⟩]:bSH)).length+1<=aQ)) (O1 x6 ((x3 ++ ([.str ⟨#[44]⟩]:bSH)) ++ ([.str s2]:bSH)) (i64.wrap (x8+1))))) (chk (decide (x3.length+1<=aQ)) (O1 x6 (x3 ++ ([.str s2]:bSH)) (i64.wrap (x8+1))))) (some (bSE x3,[])):=ll
theorem b8E (a0:bSH):SS.CC 55 [bSE a0] []=O1 a0 [] 0:=cc
def TA:KT:=SS.rK Tryz.f57 57 1 []
def b8G:KT:=SS.jK 57 179 1 (cS Tryz.f57 31) TA
def aI8:KT:=aj 0 b8G
def b8P:KT:=SS.lK 57 179 1 [2,3,27,28,29] 2 (cS Tryz.f57 151) aI8
def b8Q:KT:=SS.jK 57 179 1 (cS Tryz.f57 1943) b8P
def b8R:KT:=aj 1 b8Q
def b8S:KT:=SS.jK 57 179 1 (cS Tryz.f57 31127) b8R
def b8T:KT:=aj 2 b8S
def b8U:KT:=SS.jK 57 179 1 (cS Tryz.f57 63) TA
def b8V:KT:=aj 4 b8U
def b8H:KT:=SS.jK 57 179 1 (cS Tryz.f57 127) TA
def aI7:KT:=aj 6 b8H
def b8I:KT:=SS.lK 57 179 1 [2,3,86,87] 2 (cS Tryz.f57 607) aI7
def b8J:KT:=SS.jK 57 179 1 (cS Tryz.f57 7775) b8I
def b8K:KT:=aj 7 b8J
def b8L:KT:=aj 8 b8K
def b8M:KT:=SS.jK 57 179 1 (cS Tryz.f57 255) TA
def b8N:KT:=aj 10 b8M
def b8O:KT:=aj 12 TA
def Jg (x3:Sh.V S0) (aN:bSH) (x29:Int):R:=SS.LL (SS.ae 57 179) 1 [2,3,27,28,29] 2 (cS Tryz.f57 151) aI8 ⟨[(2,.ptr 1 0),(3,.cst (A0 x3)),(27,.sl false 5 x3.2.1),(28,bSD (x3.2.1.length:Int)),(29,bSD x29)],[aF (aN,()),some [bSF]]⟩
def kP (x3:Sh.V S0) (aN:bSH) (q2:Sh.V S4) (jY:Int) (x29:Int):R:=SS.LL (SS.ae 57 179) 1 [2,3,5,27,28,29,44,45] 3 (cS Tryz.f57 154007) b8T ⟨[(2,.ptr 1 0),(3,.cst (A0 x3)),(5,.ptr 2 0),(27,.sl false 5 x3.2.1),(28,bSD (x3.2.1.length:Int)),(29,bSD x29),(44,A35 (q2.2.1,q2.2.2.1,q2.2.2.2.1,())),(45,bSD jY)],[aF (aN,()),some [bSF],O4 q2]⟩
def Jd (x3:Sh.V S0) (aN:bSH) (zx:Int):R:=SS.LL (SS.ae 57 179) 1 [2,3,72,73,74] 2 (cS Tryz.f57 303) b8V ⟨[(2,.ptr 1 0),(3,.cst (A0 x3)),(72,.sl false 9 x3.2.2.1),(73,bSD (x3.2.2.1.length:Int)),(74,bSD zx)],[aF (aN,()),some [bSF]]⟩
def F9 (x3:Sh.V S0) (aN:bSH) (x87:Int):R:=SS.LL (SS.ae 57 179) 1 [2,3,86,87] 2 (cS Tryz.f57 607) aI7 ⟨[(2,.ptr 1 0),(3,.cst (A0 x3)),(86,A34 (x3.2.2.2.1,x3.2.2.2.2.1,())),(87,bSD x87)],[aF (aN,()),some [bSF]]⟩
def zL (x3:Sh.V S0) (aN:bSH) (x93:Int) (x91:bSH) (x10:Int) (x87:Int) (Pz:Int):R:=SS.LL (SS.ae 57 179) 1 [2,3,10,86,87,91,92,93] 2 (cS Tryz.f57 157279) b8L ⟨[(2,.ptr 1 0),(3,.cst (A0 x3)),(10,bSD x10),(86,A34 (x3.2.2.2.1,x3.2.2.2.2.1,())),(87,bSD x87),(91,.sl false 3 x91),(92,bSD Pz),(93,bSD x93)],[aF (aN,()),some [bSF]]⟩
def Je (x3:Sh.V S0) (aN:bSH) (Po:Int):R:=SS.LL (SS.ae 57 179) 1 [2,3,123,124,125] 2 (cS Tryz.f57 1215) b8N ⟨[(2,.ptr 1 0),(3,.cst (A0 x3)),(123,.sl false 2 x3.2.2.2.2.2.1),(124,bSD (x3.2.2.2.2.2.1.length:Int)),(125,bSD Po)],[aF (aN,()),some [bSF]]⟩
def Jf (LY:bSH) (aN:bSH) (x150:Int):R:=SS.LL (SS.ae 57 179) 1 [2,148,149,150] 2 (cS Tryz.f57 1279) b8O ⟨[(2,.ptr 1 0),(148,.sl false 3 LY),(149,bSD (LY.length:Int)),(150,bSD x150)],[aF (aN,()),some [bSF]]⟩
theorem aIC (x3:Sh.V S0) (aN:bSH) (x29:Int):Jg x3 aN x29=aA (decide (x29<(x3.2.1.length:Int))) (bD S4 x3.2.1 x29 fun u2=>ah 165 [bSF,bSE [.str ⟨#[101,118,101,110,116]⟩,.str u2.1]] [aF (aN,())] fun _ u7=>kP x3 u7.1 u2 0 x29) (Jd x3 aN 0):=ll
theorem Y7 (x3:Sh.V S0) (aN:bSH) (q2:Sh.V S4) (jY:Int) (x29:Int):kP x3 aN q2 jY x29=aA (decide (jY<3)) (chk (decide (0<=jY)&&decide (jY<(3:Int))) (aA (jY==0) (aA q2.2.1 (chk (decide (0<=jY)&&decide (jY<(3:Int))) (aA (jY==0) (ah 165 [bSF,bSE [.str ⟨#[99,111,110,116,114,111,108,108,97,98,108,101]⟩]] [aF (aN,())] fun _ u25=>kP x3 u25.1 q2 (i64.wrap (jY+1)) x29) (aA (jY==1) (ah 165 [bSF,bSE [.str ⟨#[111,98,115,101,114,118,97,98,108,101]⟩]] [aF (aN,())] fun _ u22=>kP x3 u22.1 q2 (i64.wrap (jY+1)) x29) (aA (jY==2) (ah 165 [bSF,bSE [.str ⟨#[102,111,114,99,105,98,108,101]⟩]] [aF (aN,())] fun _ GR=>kP x3 GR.1 q2 (i64.wrap (jY+1)) x29) (none))))) (kP x3 aN q2 (i64.wrap (jY+1)) x29)) (aA (jY==1) (aA q2.2.2.1 (chk (decide (0<=jY)&&decide (jY<(3:Int))) (aA (jY==0) (ah 165 [bSF,bSE [.str ⟨#[99,111,110,116,114,111,108,108,97,98,108,101]⟩]] [aF (aN,())] fun _ u16=>kP x3 u16.1 q2 (i64.wrap (jY+1)) x29) (aA (jY==1) (ah 165 [bSF,bSE [.str ⟨#[111,98,115,101,114,118,97,98,108,101]⟩]] [aF (aN,())] fun _ u13=>kP x3 u13.1 q2 (i64.wrap (jY+1)) x29) (aA (jY==2) (ah 165 [bSF,bSE [.str ⟨#[102,111,114,99,105,98,108,101]⟩]] [aF (aN,())] fun _ u10=>kP x3 u10.1 q2 (i64.wrap (jY+1)) x29) (none))))) (kP x3 aN q2 (i64.wrap (jY+1)) x29)) (aA (jY==2) (aA q2.2.2.2.1 (chk (decide (0<=jY)&&decide (jY<(3:Int))) (aA (jY==0) (ah 165 [bSF,bSE [.str ⟨#[99,111,110,116,114,111,108,108,97,98,108,101]⟩]] [aF (aN,())] fun _ u7=>kP x3 u7.1 q2 (i64.wrap (jY+1)) x29) (aA (jY==1) (ah 165 [bSF,bSE [.str ⟨#[111,98,115,101,114,118,97,98,108,101]⟩]] [aF (aN,())] fun _ u4=>kP x3 u4.1 q2 (i64.wrap (jY+1)) x29) (aA (jY==2) (ah 165 [bSF,bSE [.str ⟨#[102,111,114,99,105,98,108,101]⟩]] [aF (aN,())] fun _ u1=>kP x3 u1.1 q2 (i64.wrap (jY+1)) x29) (none))))) (kP x3 aN q2 (i64.wrap (jY+1)) x29)) (none))))) (aA (q2.2.2.2.2.1 != 0) (ah 165 [bSF,bSE [.str ⟨#[102,97,117,108,116]⟩]] [aF (aN,())] fun _ u28=>ah 167 [bSF,bSD q2.2.2.2.2.1] [aF u28] fun _ u31=>ah 166 [bSF,bSE [.str ⟨#[59]⟩]] [aF u31] fun _ u34=>Jg x3 u34.1 (i64.wrap (x29+1))) (ah 166 [bSF,bSE [.str ⟨#[59]⟩]] [aF (aN,())] fun _ u37=>Jg x3 u37.1 (i64.wrap (x29+1)))):=ll
theorem aI9 (x3:Sh.V S0) (aN:bSH) (zx:Int):Jd x3 aN zx=aA (decide (zx<(x3.2.2.1.length:Int))) (bD S5 x3.2.2.1 zx fun u2=>ah 168 [bSF,A5 u2] [aF (aN,())] fun _ u11=>Jd x3 u11.1 (i64.wrap (zx+1))) (F9 x3 aN 0):=ll
theorem a3X (x3:Sh.V S0) (aN:bSH) (x87:Int):F9 x3 aN x87=aA (decide (x87<2)) (chk (decide (0<=x87)&&decide (x87<(2:Int))) (aA (x87==0) (zL x3 aN 0 x3.2.2.2.1 x87 x87 (x3.2.2.2.1.length:Int)) (aA (x87==1) (zL x3 aN 0 x3.2.2.2.2.1 x87 x87 (x3.2.2.2.2.1.length:Int)) (none)))) (Je x3 aN 0):=ll
theorem Y6 (x3:Sh.V S0) (aN:bSH) (x93:Int) (x91:bSH) (x10:Int) (x87:Int) (Pz:Int):zL x3 aN x93 x91 x10 x87 Pz=aA (decide (x93<Pz)) (bD S8 x91 x93 fun u2=>chk (decide (0<=x10)&&decide (x10<(2:Int))) (aA (x10==0) (ah 165 [bSF,bSE [.str ⟨#[99,111,109,112,111,110,101,110,116]⟩,.str u2.1]] [aF (aN,())] fun _ u20=>ah 166 [bSF,bSE [.str ⟨#[61]⟩]] [aF u20] fun _ u23=>ah 165 [bSF,bSE [.str u2.2.1]] [aF u23] fun _ u26=>ah 169 [bSF,bSE u2.2.2.1] [aF u26] fun _ u29=>ah 166 [bSF,bSE [.str ⟨#[59]⟩]] [aF u29] fun _ u32=>zL x3 u32.1 (i64.wrap (x93+1)) x91 x10 x87 Pz) (aA (x10==1) (ah 165 [bSF,bSE [.str ⟨#[114,101,113,117,105,114,101,109,101,110,116]⟩,.str u2.1]] [aF (aN,())] fun _ u5=>ah 166 [bSF,bSE [.str ⟨#[61]⟩]] [aF u5] fun _ u8=>ah 165 [bSF,bSE [.str u2.2.1]] [aF u8] fun _ u11=>ah 169 [bSF,bSE u2.2.2.1] [aF u11] fun _ u14=>ah 166 [bSF,bSE [.str ⟨#[59]⟩]] [aF u14] fun _ yc=>zL x3 yc.1 (i64.wrap (x93+1)) x91 x10 x87 Pz) (none)))) (F9 x3 aN (i64.wrap (x87+1))):=ll
theorem aIA (x3:Sh.V S0) (aN:bSH) (Po:Int):Je x3 aN Po=aA (decide (Po<(x3.2.2.2.2.2.1.length:Int))) (bD je x3.2.2.2.2.2.1 Po fun u2=>ah 165 [bSF,bSE [.str ⟨#[101,120,99,108,117,100,101]⟩,.str u2.1]] [aF (aN,())] fun _ u4=>ah 166 [bSF,bSE [.str ⟨#[58]⟩]] [aF u4] fun _ u7=>H28 170 [bSF,bSD (u2.2.1.length:Int),.str ⟨#[44]⟩,.func (.func 171) [] [.ptr 1 0,.ptr 2 0]] [aF u7,some [bSF],yE u2] fun _ u10 u11=>ah 166 [bSF,bSE [.str ⟨#[59]⟩]] [aF u10] fun _ u15=>Je x3 u15.1 (i64.wrap (Po+1))) (Jf x3.2.2.2.2.2.2.1 aN 0):=ll
theorem aIB (LY:bSH) (aN:bSH) (x150:Int):Jf LY aN x150=aA (decide (x150<(LY.length:Int))) (bD iW LY x150 fun u2=>ah 165 [bSF,bSE [.str ⟨#[108,105,109,105,116]⟩,.str u2.1]] [aF (aN,())] fun _ u5=>ah 166 [bSF,bSE [.str ⟨#[58]⟩]] [aF u5] fun _ u8=>H29 170 [bSF,bSD (u2.2.1.length:Int),.str ⟨#[43]⟩,.func (.func 172) [] [.ptr 1 0,.ptr 2 0]] [aF u8,some [bSF],vY u2] fun _ u11 u12=>ah 166 [bSF,bSE [.str ⟨#[60,61]⟩]] [aF u11] fun _ yc=>ah 167 [bSF,bSD u12.2.2.1] [aF yc] fun _ u20=>ah 166 [bSF,bSE [.str ⟨#[59]⟩]] [aF u20] fun _ u23=>Jf LY u23.1 (i64.wrap (x150+1))) (some (.tuple [],[aF (aN,())])):=ll
theorem b8W (a1:Sh.V S0) (bJ:bSH):SS.CC 57 [bSF,A0 a1] [aF (bJ,())]=ah 165 [bSF,bSE [.str ⟨#[109,111,100,101,108]⟩,.str a1.1]] [aF (bJ,())] fun _ u1=>ah 166 [bSF,bSE [.str ⟨#[59]⟩]] [aF u1] fun _ u4=>Jg a1 u4.1 0:=cc
def b8Z:KT:=SS.rK Tryz.f58 58 0 []
def b8':KT:=SS.jK 58 83 0 (cS Tryz.f58 255) b8Z
def aID:KT:=aj 0 b8'
def b90:KT:=SS.lK 58 83 0 [6,7,8,9,10,23,24,25] 2 (cS Tryz.f58 1215) aID
def b91:KT:=SS.jK 58 83 0 (cS Tryz.f58 15551) b90
def aIE:KT:=aj 1 b91
def zM (lh:bSH) (x7:Int) (x9:bSG) (x25:Int) (qZ:bSI) (lX:Bool):R:=SS.LL (SS.ae 58 83) 0 [6,7,8,9,10,23,24,25] 2 (cS Tryz.f58 1215) aID ⟨[(6,bSF),(7,bSD x7),(8,.ptr 1 0),(9,.str x9),(10,.func (.func 173) [] [.ptr 1 0,bSF]),(23,.sl false 5 lh),(24,bSD (lh.length:Int)),(25,bSD x25)],[oP (qZ,()),vZ (lX,())]⟩
def Y8 (lh:bSH) (qZ:bSI) (lX:Bool) (q2:Sh.V lS) (x7:Int) (x9:bSG) (x25:Int):R:=bH (SS.xX 58 83 0) (cS Tryz.f58 117951) aIE ⟨[(6,bSF),(7,bSD x7),(8,.ptr 1 0),(9,.str x9),(10,.func (.func 173) [] [.ptr 1 0,bSF]),(12,.ptr 2 0),(23,.sl false 5 lh),(24,bSD (lh.length:Int)),(25,bSD x25)],[oP (qZ,()),vZ (lX,()),O30 q2]⟩
def FB (lh:bSH) (qZ:bSI) (lX:Bool) (q2:Sh.V lS) (x7:Int) (x25:Int):R:=bH (SS.xX 58 83 0) (cS Tryz.f58 249023) aIE ⟨[(6,bSF),(7,bSD x7),(8,.ptr 1 0),(10,.func (.func 173) [] [.ptr 1 0,bSF]),(12,.ptr 2 0),(23,.sl false 5 lh),(24,bSD (lh.length:Int)),(25,bSD x25)],[oP (qZ,()),vZ (lX,()),O30 q2]⟩
theorem aIF (lh:bSH) (x7:Int) (x9:bSG) (x25:Int) (qZ:bSI) (lX:Bool):zM lh x7 x9 x25 qZ lX=aA (decide (x25<(lh.length:Int))) (bD lS lh x25 fun u2=>aA (u2.2.1.toList==(⟨#[125]⟩:bSG).toList) (MK 173 [bSF,.ptr 1 0] [vZ (lX,()),BJ (qZ,())] fun _ u7 u8=>Y8 lh u8.1 u7.1 u2 (if (0:Int)>(i64.wrap (x7-1)) then (0:Int) else (i64.wrap (x7-1))) x9 x25) (Y8 lh qZ lX u2 x7 x9 x25)) (MK 173 [bSF,.ptr 1 0] [vZ (lX,()),BJ (qZ,())] fun _ u11 u12=>H31 53 [bSF] [oP u12] fun s15 u16=>some (.tuple [.str s15,bSD 0],[])):=ll
theorem b8X (lh:bSH) (qZ:bSI) (lX:Bool) (q2:Sh.V lS) (x7:Int) (x9:bSG) (x25:Int):Y8 lh qZ lX q2 x7 x9 x25=aA lX (G2 30 [.str ⟨#[32,32]⟩,bSD x7] fun s1=>H32 52 [bSF,.str s1] [oP (qZ,())] fun u3 u4=>FB lh u4.1 lX q2 x7 x25) (aA (!(q2.2.1.toList==(⟨#[44]⟩:bSG).toList)) (aA (!(q2.2.1.toList==(⟨#[59]⟩:bSG).toList)) (aA (!(q2.2.1.toList==(⟨#[41]⟩:bSG).toList)) (aA (!(x9.toList==(⟨#[40]⟩:bSG).toList)) (H33 174 [bSF,.int .u8 32] [oP (qZ,())] fun u7=>FB lh u7.1 lX q2 x7 x25) (FB lh qZ lX q2 x7 x25)) (FB lh qZ lX q2 x7 x25)) (FB lh qZ lX q2 x7 x25)) (FB lh qZ lX q2 x7 x25)):=by kernel_rfl
theorem b8Y (lh:bSH) (qZ:bSI) (lX:Bool) (q2:Sh.V lS) (x7:Int) (x25:Int):FB lh qZ lX q2 x7 x25=H32 52 [bSF,.str q2.2.1] [oP (qZ,())] fun u1 u2=>aA (q2.2.1.toList==(⟨#[123]⟩:bSG).toList) (MK 173 [bSF,.ptr 1 0] [vZ (false,()),BJ u2] fun _ u5 u6=>zM lh (i64.wrap (x7+1)) q2.2.1 (i64.wrap (x25+1)) u6.1 u5.1) (aA (q2.2.1.toList==(⟨#[125]⟩:bSG).toList) (MK 173 [bSF,.ptr 1 0] [vZ (false,()),BJ u2] fun _ u9 u10=>zM lh x7 q2.2.1 (i64.wrap (x25+1)) u10.1 u9.1) (aA (q2.2.1.toList==(⟨#[59]⟩:bSG).toList) (MK 173 [bSF,.ptr 1 0] [vZ (false,()),BJ u2] fun _ u13 u14=>zM lh x7 q2.2.1 (i64.wrap (x25+1)) u14.1 u13.1) (zM lh x7 q2.2.1 (i64.wrap (x25+1)) u2.1 false))):=by kernel_rfl
theorem aIG (a0:bSH):SS.CC 58 [.sl false 5 a0] []=G0 114 [.sl false 5 a0] fun u1=>aA (u1.2.1.1 != 0) (some (.tuple [.str ⟨#[]⟩,bSD u1.2.1.1],[])) (QX 175 [.sl false 5 a0] fun l4=>zM l4 0 ⟨#[]⟩ 0 [] true):=cc
theorem aZI (a0:bSH) (a1:Int):SS.CC 164 [bSE a0,bSD a1] []=G1 240 [bSE a0,bSD a1] fun n1=>some (.bool (decide (0<=n1)),[]):=cc
def a2Q:KT:=SS.rK Tryz.f168 168 1 []
def aZT:KT:=SS.jK 168 157 1 (cS Tryz.f168 255) a2Q
def aFI:KT:=aj 0 aZT
def aZW:KT:=SS.lK 168 157 1 [2,3,4,5,30,31,32] 4 (cS Tryz.f168 1215) aFI
def aZX:KT:=SS.jK 168 157 1 (cS Tryz.f168 15551) aZW
def aZY:KT:=aj 1 aZX
def aZZ:KT:=SS.jK 168 157 1 (cS Tryz.f168 511) a2Q
def aZ':KT:=aj 2 aZZ
def a'0:KT:=SS.jK 168 157 1 (cS Tryz.f168 1023) a2Q
def aFJ:KT:=aj 4 a'0
def aZU:KT:=SS.lK 168 157 1 [2,3,5,97,98,99] 4 (cS Tryz.f168 4863) aFJ
def aZV:KT:=SS.jK 168 157 1 (cS Tryz.f168 62207) aZU
def aFH:KT:=aj 5 aZV
def Hg (x3:bSG) (iP:bSH) (jX:bSH) (q2:Sh.V S6) (aN:bSH) (eH:bSH) (x32:Int):R:=SS.LL (SS.ae 168 157) 1 [2,3,4,5,30,31,32] 4 (cS Tryz.f168 1215) aFI ⟨[(2,.ptr 1 0),(3,.cst (A5 (x3,iP,jX,q2.1,q2.2.1,q2.2.2.1,q2.2.2.2.1,q2.2.2.2.2.1,q2.2.2.2.2.2.1,()))),(4,.ptr 2 0),(5,.ptr 3 0),(30,bSE iP),(31,bSD (iP.length:Int)),(32,bSD x32)],[aF (aN,()),some [bSF],O6 q2,jC (eH,())]⟩
def Xe (x3:bSG) (iP:bSH) (jX:bSH) (q2:Sh.V S6) (aN:bSH) (eH:bSH) (x6:Int) (x32:Int):R:=bH (SS.xX 168 157 1) (cS Tryz.f168 249023) aZY ⟨[(2,.ptr 1 0),(3,.cst (A5 (x3,iP,jX,q2.1,q2.2.1,q2.2.2.1,q2.2.2.2.1,q2.2.2.2.2.1,q2.2.2.2.2.2.1,()))),(4,.ptr 2 0),(5,.ptr 3 0),(6,bSD x6),(30,bSE iP),(31,bSD (iP.length:Int)),(32,bSD x32)],[aF (aN,()),some [bSF],O6 q2,jC (eH,())]⟩
def JX (x3:bSG) (iP:bSH) (jX:bSH) (q2:Sh.V S6) (aN:bSH) (eH:bSH) (Py:Int):R:=SS.LL (SS.ae 168 157) 1 [2,3,4,5,60,61,62] 4 (cS Tryz.f168 2431) aZ' ⟨[(2,.ptr 1 0),(3,.cst (A5 (x3,iP,jX,q2.1,q2.2.1,q2.2.2.1,q2.2.2.2.1,q2.2.2.2.2.1,q2.2.2.2.2.2.1,()))),(4,.ptr 2 0),(5,.ptr 3 0),(60,.sl false 4 q2.2.2.2.2.1),(61,bSD (q2.2.2.2.2.1.length:Int)),(62,bSD Py)],[aF (aN,()),some [bSF],O6 q2,jC (eH,())]⟩
def F7 (x3:bSG) (iP:bSH) (jX:bSH) (q2:Sh.V S6) (aN:bSH) (eH:bSH) (x99:Int):R:=SS.LL (SS.ae 168 157) 1 [2,3,5,97,98,99] 4 (cS Tryz.f168 4863) aFJ ⟨[(2,.ptr 1 0),(3,.cst (A5 (x3,iP,jX,q2.1,q2.2.1,q2.2.2.1,q2.2.2.2.1,q2.2.2.2.2.1,q2.2.2.2.2.2.1,()))),(5,.ptr 3 0),(97,.sl false 8 q2.2.2.2.2.2.1),(98,bSD (q2.2.2.2.2.2.1.length:Int)),(99,bSD x99)],[aF (aN,()),some [bSF],O6 q2,jC (eH,())]⟩
def Xf (x3:bSG) (iP:bSH) (jX:bSH) (q2:Sh.V S6) (aN:bSH) (eH:bSH) (q4:Sh.V S9) (x99:Int):R:=bH (SS.xX 168 157 1) (cS Tryz.f168 996095) aFH ⟨[(2,.ptr 1 0),(3,.cst (A5 (x3,iP,jX,q2.1,q2.2.1,q2.2.2.1,q2.2.2.2.1,q2.2.2.2.2.1,q2.2.2.2.2.2.1,()))),(5,.ptr 3 0),(11,.ptr 4 0),(97,.sl false 8 q2.2.2.2.2.2.1),(98,bSD (q2.2.2.2.2.2.1.length:Int)),(99,bSD x99)],[aF (aN,()),some [bSF],O6 q2,jC (eH,()),O9 q4]⟩
def Xg (x3:bSG) (iP:bSH) (jX:bSH) (q2:Sh.V S6) (aN:bSH) (eH:bSH) (q4:Sh.V S9) (x99:Int):R:=bH (SS.xX 168 157 1) (cS Tryz.f168 2044671) aFH ⟨[(2,.ptr 1 0),(3,.cst (A5 (x3,iP,jX,q2.1,q2.2.1,q2.2.2.1,q2.2.2.2.1,q2.2.2.2.2.1,q2.2.2.2.2.2.1,()))),(5,.ptr 3 0),(11,.ptr 4 0),(97,.sl false 8 q2.2.2.2.2.2.1),(98,bSD (q2.2.2.2.2.2.1.length:Int)),(99,bSD x99)],[aF (aN,()),some [bSF],O6 q2,jC (eH,()),O9 q4]⟩
theorem aFM (x3:bSG) (iP:bSH) (jX:bSH) (q2:Sh.V S6) (aN:bSH) (eH:bSH) (x32:Int):Hg x3 iP jX q2 aN eH x32=aA (decide (x32<(iP.length:Int))) (dQ iP x32 fun e1=>vS e1 fun s2=>ah 165 [bSF,bSE [.str ⟨#[108,111,99,97,116,105,111,110]⟩,.str s2]] [aF (aN,())] fun _ u3=>aA (x32==q2.2.2.1) (ah 165 [bSF,bSE [.str ⟨#[105,110,105,116,105,97,108]⟩]] [aF u3] fun _ u6=>Xe x3 iP jX q2 u6.1 eH x32 x32) (Xe x3 iP jX q2 u3.1 eH x32 x32)) (JX x3 iP jX q2 aN eH 0):=ll
theorem aZQ (x3:bSG) (iP:bSH) (jX:bSH) (q2:Sh.V S6) (aN:bSH) (eH:bSH) (x6:Int) (x32:Int):Xe x3 iP jX q2 aN eH x6 x32=G3 164 [bSE q2.2.2.2.1,bSD x6] fun b1=>aA b1 (ah 165 [bSF,bSE [.str ⟨#[109,97,114,107,101,100]⟩]] [aF (aN,())] fun _ u3=>ah 166 [bSF,bSE [.str ⟨#[59]⟩]] [aF u3] fun _ u6=>Hg x3 iP jX q2 u6.1 eH (i64.wrap (x32+1))) (ah 166 [bSF,bSE [.str ⟨#[59]⟩]] [aF (aN,())] fun _ u9=>Hg x3 iP jX q2 u9.1 eH (i64.wrap (x32+1))):=by kernel_rfl
theorem aFK (x3:bSG) (iP:bSH) (jX:bSH) (q2:Sh.V S6) (aN:bSH) (eH:bSH) (Py:Int):JX x3 iP jX q2 aN eH Py=aA (decide (Py<(q2.2.2.2.2.1.length:Int))) (bD S7 q2.2.2.2.2.1 Py fun u2=>ah 165 [bSF,bSE [.str ⟨#[118,97,114]⟩,.str u2.1]] [aF (aN,())] fun _ u6=>ah 166 [bSF,bSE [.str ⟨#[58]⟩]] [aF u6] fun _ u9=>ah 167 [bSF,bSD u2.2.1] [aF u9] fun _ u12=>ah 166 [bSF,bSE [.str ⟨#[46,46]⟩]] [aF u12] fun _ u15=>ah 167 [bSF,bSD u2.2.2.1] [aF u15] fun _ pJ=>ah 166 [bSF,bSE [.str ⟨#[61]⟩]] [aF pJ] fun _ u21=>ah 167 [bSF,bSD u2.2.2.2.1] [aF u21] fun _ u24=>ah 166 [bSF,bSE [.str ⟨#[59]⟩]] [aF u24] fun _ u27=>JX x3 iP jX q2 u27.1 eH (i64.wrap (Py+1))) (F7 x3 iP jX q2 aN eH 0):=ll
theorem aFL (x3:bSG) (iP:bSH) (jX:bSH) (q2:Sh.V S6) (aN:bSH) (eH:bSH) (x99:Int):F7 x3 iP jX q2 aN eH x99=aA (decide (x99<(q2.2.2.2.2.2.1.length:Int))) (bD S9 q2.2.2.2.2.2.1 x99 fun u2=>dQ iP u2.1 fun e10=>vS e10 fun s11=>dQ jX u2.2.1 fun e12=>vS e12 fun s13=>dQ iP u2.2.2.1 fun e14=>vS e14 fun s15=>ah 165 [bSF,bSE [.str ⟨#[101,100,103,101]⟩,.str s11,.str s13,.str s15]] [aF (aN,())] fun _ u16=>zD 116 [] fun GR=>G3 23 [A1 (u2.2.2.2.1,u2.2.2.2.2.1,u2.2.2.2.2.2.1,u2.2.2.2.2.2.2.1,()),A1 GR] fun RD=>aA (!RD) (ah 165 [bSF,bSE [.str ⟨#[119,104,101,110]⟩]] [aF u16] fun _ u26=>ah 113 [bSF,bSE eH,A1 (u2.2.2.2.1,u2.2.2.2.2.1,u2.2.2.2.2.2.1,u2.2.2.2.2.2.2.1,()),bSD 0] [aF u26] fun _ u29=>Xf x3 iP jX q2 u29.1 eH u2 x99) (Xf x3 iP jX q2 u16.1 eH u2 x99)) (ah 166 [bSF,bSE [.str ⟨#[125]⟩]] [aF (aN,())] fun _ u32=>some (.tuple [],[aF u32])):=ll
theorem aZR (x3:bSG) (iP:bSH) (jX:bSH) (q2:Sh.V S6) (aN:bSH) (eH:bSH) (q4:Sh.V S9) (x99:Int):Xf x3 iP jX q2 aN eH q4 x99=aA (decide (0<(q4.2.2.2.2.2.2.2.1.length:Int))) (ah 165 [bSF,bSE [.str ⟨#[100,111]⟩]] [aF (aN,())] fun _ u1=>Xg x3 iP jX q2 u1.1 eH q4 x99) (Xg x3 iP jX q2 aN eH q4 x99):=by kernel_rfl
theorem aZS (x3:bSG) (iP:bSH) (jX:bSH) (q2:Sh.V S6) (aN:bSH) (eH:bSH) (q4:Sh.V S9) (x99:Int):Xg x3 iP jX q2 aN eH q4 x99=H45 170 [bSF,bSD (q4.2.2.2.2.2.2.2.1.length:Int),.str ⟨#[44]⟩,.func (.func 242) [] [.ptr 1 0,.ptr 2 0,.ptr 3 0]] [aF (aN,()),some [bSF],jC (eH,()),O9 q4] fun _ u1 u2 u3=>ah 166 [bSF,bSE [.str ⟨#[59]⟩]] [aF u1] fun _ u13=>F7 x3 iP jX q2 u13.1 u2.1 (i64.wrap (x99+1)):=by kernel_rfl
theorem a'1 (a1:Sh.V S5) (bJ:bSH):SS.CC 168 [bSF,A5 a1] [aF (bJ,())]=G7 241 [.sl false 4 a1.2.2.2.2.2.2.2.1] fun l1=>ah 165 [bSF,bSE [.str ⟨#[116,101,109,112,108,97,116,101]⟩,.str a1.1]] [aF (bJ,())] fun _ u3=>ah 169 [bSF,bSE a1.2.2.1] [aF u3] fun _ u6=>ah 166 [bSF,bSE [.str ⟨#[123]⟩]] [aF u6] fun _ u9=>Hg a1.1 a1.2.1 a1.2.2.1 (a1.2.2.2.1,a1.2.2.2.2.1,a1.2.2.2.2.2.1,a1.2.2.2.2.2.2.1,a1.2.2.2.2.2.2.2.1,a1.2.2.2.2.2.2.2.2.1,()) u9.1 l1 0:=cc
theorem a'2 (a1:bSH) (bJ:bSH):SS.CC 169 [bSF,bSE a1] [aF (bJ,())]=ah 166 [bSF,bSE [.str ⟨#[40]⟩]] [aF (bJ,())] fun _ u1=>H46 170 [bSF,bSD (a1.length:Int),.str ⟨#[44]⟩,.func (.func 243) [] [.ptr 1 0,.cst (bSE a1)]] [aF u1,some [bSF]] fun _ u4=>ah 166 [bSF,bSE [.str ⟨#[41]⟩]] [aF u4] fun _ u7=>some (.tuple [],[aF u7]):=cc
def a_2:KT:=SS.rK Tryz.f170 170 3 []
def a_3:KT:=aj 0 a_2
def Nj (x2:bSG) (x9:Int) (aN:bSH) (q2:Sh.V je) (x10:Int):R:=SS.LL (SS.ae 170 23) 3 [0,2,3,9,10] 3 (cS Tryz.f170 9) a_3 ⟨[(0,bSF),(2,.str x2),(3,.func (.func 171) [] [.ptr 1 0,.ptr 2 0]),(9,bSD x9),(10,bSD x10)],[aF (aN,()),some [bSF],yE q2]⟩
theorem aG0 (x2:bSG) (x9:Int) (aN:bSH) (q2:Sh.V je) (x10:Int):Nj x2 x9 aN q2 x10=aA (decide (x10<x9)) (aA (decide (0<x10)) (ah 166 [bSF,bSE [.str x2]] [aF (aN,())] fun _ u1=>H47 171 [bSD x10,bSF,.ptr 1 0] [some [.ptr 2 0],yE q2,aF u1] fun _ u4 u6=>Nj x2 x9 u6.1 u4 (i64.wrap (x10+1))) (H47 171 [bSD x10,bSF,.ptr 1 0] [some [.ptr 2 0],yE q2,aF (aN,())] fun _ u9 u11=>Nj x2 x9 u11.1 u9 (i64.wrap (x10+1)))) (some (.tuple [],[aF (aN,()),some [bSF],yE q2])):=ll
theorem a_4 (a1:Int) (a2:bSG) (bJ:bSH) (h2:Sh.V je):SS.CC 170 [bSF,bSD a1,.str a2,.func (.func 171) [] [.ptr 1 0,.ptr 2 0]] [aF (bJ,()),some [bSF],yE h2]=Nj a2 a1 bJ h2 0:=cc
def a'T:KT:=SS.rK Tryz.f170 170 3 []
def a'U:KT:=aj 0 a'T
def Nb (x2:bSG) (x9:Int) (aN:bSH) (q2:Sh.V iW) (x10:Int):R:=SS.LL (SS.ae 170 23) 3 [0,2,3,9,10] 3 (cS Tryz.f170 9) a'U ⟨[(0,bSF),(2,.str x2),(3,.func (.func 172) [] [.ptr 1 0,.ptr 2 0]),(9,bSD x9),(10,bSD x10)],[aF (aN,()),some [bSF],vY q2]⟩
theorem aFY (x2:bSG) (x9:Int) (aN:bSH) (q2:Sh.V iW) (x10:Int):Nb x2 x9 aN q2 x10=aA (decide (x10<x9)) (aA (decide (0<x10)) (ah 166 [bSF,bSE [.str x2]] [aF (aN,())] fun _ u1=>H48 172 [bSD x10,bSF,.ptr 1 0] [some [.ptr 2 0],vY q2,aF u1] fun _ u4 u7=>Nb x2 x9 u7.1 u4 (i64.wrap (x10+1))) (H48 172 [bSD x10,bSF,.ptr 1 0] [some [.ptr 2 0],vY q2,aF (aN,())] fun _ u10 u13=>Nb x2 x9 u13.1 u10 (i64.wrap (x10+1)))) (some (.tuple [],[aF (aN,()),some [bSF],vY q2])):=ll
theorem a'V (a1:Int) (a2:bSG) (bJ:bSH) (h2:Sh.V iW):SS.CC 170 [bSF,bSD a1,.str a2,.func (.func 172) [] [.ptr 1 0,.ptr 2 0]] [aF (bJ,()),some [bSF],vY h2]=Nb a2 a1 bJ h2 0:=cc
def a'W:KT:=SS.rK Tryz.f170 170 4 []
def a'X:KT:=aj 0 a'W
def Nc (x2:bSG) (x9:Int) (aN:bSH) (nR:bSH) (q3:Sh.V S9) (x10:Int):R:=SS.LL (SS.ae 170 23) 4 [0,2,3,9,10] 4 (cS Tryz.f170 9) a'X ⟨[(0,bSF),(2,.str x2),(3,.func (.func 242) [] [.ptr 1 0,.ptr 2 0,.ptr 3 0]),(9,bSD x9),(10,bSD x10)],[aF (aN,()),some [bSF],jC (nR,()),O9 q3]⟩
theorem aFZ (x2:bSG) (x9:Int) (aN:bSH) (nR:bSH) (q3:Sh.V S9) (x10:Int):Nc x2 x9 aN nR q3 x10=aA (decide (x10<x9)) (aA (decide (0<x10)) (ah 166 [bSF,bSE [.str x2]] [aF (aN,())] fun _ u1=>H64 242 [bSD x10,bSF,.ptr 1 0,.ptr 2 0] [some [.ptr 3 0],jC (nR,()),O9 q3,aF u1] fun _ u4 u5 u13=>Nc x2 x9 u13.1 u4.1 u5 (i64.wrap (x10+1))) (H64 242 [bSD x10,bSF,.ptr 1 0,.ptr 2 0] [some [.ptr 3 0],jC (nR,()),O9 q3,aF (aN,())] fun _ u16 yc u25=>Nc x2 x9 u25.1 u16.1 yc (i64.wrap (x10+1)))) (some (.tuple [],[aF (aN,()),some [bSF],jC (nR,()),O9 q3])):=ll
theorem a'Y (a1:Int) (a2:bSG) (bJ:bSH) (pF:bSH) (h3:Sh.V S9):SS.CC 170 [bSF,bSD a1,.str a2,.func (.func 242) [] [.ptr 1 0,.ptr 2 0,.ptr 3 0]] [aF (bJ,()),some [bSF],jC (pF,()),O9 h3]=Nc a2 a1 bJ pF h3 0:=cc
def a'Z:KT:=SS.rK Tryz.f170 170 2 []
def a_0:KT:=aj 0 a'Z
def Nh (x2:bSG) (x3:bSH) (x9:Int) (aN:bSH) (x10:Int):R:=SS.LL (SS.ae 170 23) 2 [0,2,3,9,10] 2 (cS Tryz.f170 9) a_0 ⟨[(0,bSF),(2,.str x2),(3,.func (.func 243) [] [.ptr 1 0,.cst (bSE x3)]),(9,bSD x9),(10,bSD x10)],[aF (aN,()),some [bSF]]⟩
theorem aF' (x2:bSG) (x3:bSH) (x9:Int) (aN:bSH) (x10:Int):Nh x2 x3 x9 aN x10=aA (decide (x10<x9)) (aA (decide (0<x10)) (ah 166 [bSF,bSE [.str x2]] [aF (aN,())] fun _ u1=>eY 243 [bSD x10,bSF,.cst (bSE x3)] [some [.ptr 1 0],aF u1] fun _ u4=>Nh x2 x3 x9 u4.1 (i64.wrap (x10+1))) (eY 243 [bSD x10,bSF,.cst (bSE x3)] [some [.ptr 1 0],aF (aN,())] fun _ u7=>Nh x2 x3 x9 u7.1 (i64.wrap (x10+1)))) (some (.tuple [],[aF (aN,()),some [bSF]])):=ll
theorem a_1 (a1:Int) (a2:bSG) (a3:bSH) (bJ:bSH):SS.CC 170 [bSF,bSD a1,.str a2,.func (.func 243) [] [.ptr 1 0,.cst (bSE a3)]] [aF (bJ,()),some [bSF]]=Nh a2 a3 a1 bJ 0:=cc
theorem a_5 (a0:Int) (h1:Sh.V je) (pF:bSH):SS.CC 171 [bSD a0,bSF,.ptr 1 0] [some [.ptr 2 0],yE h1,aF (pF,())]=bD zG h1.2.1 a0 fun u2=>bD zG h1.2.1 a0 fun u5=>ah 165 [bSF,bSE [.str u2.1,.str u5.2.1]] [aF (pF,())] fun _ u7=>some (.tuple [],[some [.ptr 2 0],yE h1,aF u7]):=cc
theorem a_6 (a0:Int) (h1:Sh.V iW) (pF:bSH):SS.CC 172 [bSD a0,bSF,.ptr 1 0] [some [.ptr 2 0],vY h1,aF (pF,())]=bD AC h1.2.1 a0 fun u2=>ah 167 [bSF,bSD u2.2.1] [aF (pF,())] fun _ u4=>ah 166 [bSF,bSE [.str ⟨#[42]⟩]] [aF u4] fun _ u7=>bD AC h1.2.1 a0 fun u11=>ah 165 [bSF,bSE [.str u11.1]] [aF u7] fun _ u13=>some (.tuple [],[some [.ptr 2 0],vY h1,aF u13]):=cc
theorem a_7 (bJ:Bool) (a4G:bSI):SS.CC 173 [bSF,.ptr 1 0] [vZ (bJ,()),BJ (a4G,())]=aA (!bJ) (H33 174 [bSF,.int .u8 10] [oP (a4G,())] fun u1=>some (.tuple [],[vZ (true,()),BJ u1])) (some (.tuple [],[vZ (bJ,()),BJ (a4G,())])):=cc
theorem a_8 (a1:Int) (TG:bSI):SS.CC 174 [bSF,.int .u8 a1] [oP (TG,())]=H51 162 [bSF] [oP (TG,())] fun _ u1=>chk (decide (u1.1.length+1<=aQ)&&decide ((0:Int)<=a1)&&decide (a1<(256:Int))) (some (.raw .nilIface,[oP ((u1.1 ++ [UInt8.ofNat (Int.toNat a1)]),())])):=cc
def b1Q:KT:=SS.rK Tryz.f240 240 0 []
def b1R:KT:=SS.jK 240 19 0 (cS Tryz.f240 7) b1Q
def b1S:KT:=aj 0 b1R
def SI (x0:bSH) (x1:Int) (x8:Int):R:=SS.LL (SS.ae 240 19) 0 [0,1,7,8] 0 (cS Tryz.f240 37) b1S ⟨[(0,bSE x0),(1,bSD x1),(7,bSD (x0.length:Int)),(8,bSD x8)],[]⟩
theorem aGC (x0:bSH) (x1:Int) (x8:Int):SI x0 x1 x8=aA (decide (x8<(x0.length:Int))) (dQ x0 x8 fun e1=>vI .i64 e1 fun n2=>aA (x1==n2) (some (bSD x8,[])) (SI x0 x1 (i64.wrap (x8+1)))) (some (bSD (-1),[])):=ll
theorem b1T (a0:bSH) (a1:Int):SS.CC 240 [bSE a0,bSD a1] []=SI a0 a1 0:=cc
theorem b1U (a0:bSH):SS.CC 241 [.sl false 4 a0] []=G7 297 [.sl false 4 a0,.func (.func 298) [] []] fun l1=>some (.sl true 1 l1,[]):=cc
theorem b1V (a0:Int) (nK:bSH) (h2:Sh.V S9) (aJC:bSH):SS.CC 242 [bSD a0,bSF,.ptr 1 0,.ptr 2 0] [some [.ptr 3 0],jC (nK,()),O9 h2,aF (aJC,())]=bD tq h2.2.2.2.2.2.2.2.1 a0 fun u2=>dQ nK u2.1 fun e7=>vS e7 fun s8=>ah 165 [bSF,bSE [.str s8]] [aF (aJC,())] fun _ u9=>ah 166 [bSF,bSE [.str ⟨#[58,61]⟩]] [aF u9] fun _ u12=>bD tq h2.2.2.2.2.2.2.2.1 a0 fun u16=>ah 113 [bSF,bSE nK,A1 (u16.2.1,u16.2.2.1,u16.2.2.2.1,u16.2.2.2.2.1,()),bSD 0] [aF u12] fun _ u21=>some (.tuple [],[some [.ptr 3 0],jC (nK,()),O9 h2,aF u21]):=cc
theorem b1W (a0:Int) (a2:bSH) (nK:bSH):SS.CC 243 [bSD a0,bSF,.cst (bSE a2)] [some [.ptr 1 0],aF (nK,())]=dQ a2 a0 fun e1=>vS e1 fun s2=>ah 165 [bSF,bSE [.str s2]] [aF (nK,())] fun _ u3=>some (.tuple [],[some [.ptr 1 0],aF u3]):=cc
def b53:KT:=SS.rK Tryz.f297 297 0 []
def b54:KT:=SS.jK 297 22 0 (cS Tryz.f297 15) b53
def b55:KT:=aj 0 b54
def Xr (x8:bSH) (x5:bSH) (x10:Int):R:=SS.LL (SS.ae 297 22) 0 [1,5,8,9,10] 0 (cS Tryz.f297 75) b55 ⟨[(1,.func (.func 298) [] []),(5,.sl true 1 x5),(8,.sl false 4 x8),(9,bSD (x8.length:Int)),(10,bSD x10)],[]⟩
theorem aH2 (x8:bSH) (x5:bSH) (x10:Int):Xr x8 x5 x10=aA (decide (x10<(x8.length:Int))) (bD S7 x8 x10 fun u2=>G2 298 [A7 u2] fun s6=>chk (decide (x5.length+1<=aQ)) (Xr x8 (x5 ++ ([.str s6]:bSH)) (i64.wrap (x10+1)))) (some (.sl true 1 x5,[])):=ll
theorem b56 (a0:bSH):SS.CC 297 [.sl false 4 a0,.func (.func 298) [] []] []=Xr a0 [] 0:=cc
theorem b57 (a0:Sh.V S7):SS.CC 298 [A7 a0] []=some (.str a0.1,[]):=cc
end
theorem aPO {v:Nat->Int}:∀ (m k:Nat),zo v k m=0->∀ i,k<=i->i<k+m->v i=0
 | 0,k,_,i,a,b=>by omega
 | m+1,k,h,i,a,b=>by
  rw[zo] at h;by_cases hv:v k=0
  .rw[aJ hv] at h;by_cases hi:i=k
   .rw[hi]; exact hv
   .exact aPO m (k+1) h i (by omega) (by omega)
  .rw[aK hv] at h; exact absurd h hv
theorem AO {v:Nat->Int} {n:Nat} (h:pV v n=0) {i:Nat} (hi:i<n):v i=0:=aPO n 0 h i (BH _) (by omega)
theorem wV {a b:Int} (h:sq a b=0):a=0/\b=0:=by
 unfold sq at h;by_cases ha:a=0
 .rw[aJ ha] at h; exact ⟨ha,h⟩
 .rw[aK ha] at h; exact absurd h ha
theorem iR {b:Bool} {c x:Int} (hc:c≠0) (h:(bif b then c else x)=0):b=false/\x=0:=by
 cases b with
 | false=>exact ⟨rfl,h⟩
 | true=>exact absurd h hc
theorem Aa {α:Type} {l:List α} {x:α} (h:x∈l):∃ k,∃ hk:k<l.length,l[k]=x:=List.getElem_of_mem h
theorem aQW {x:EX} (hx:x.Len) {n w:Int} (h0:0<=n) (h1:n<=16) (h:EZ x n w=0):Fd n x/\oG x<=64:=by
 have h2:(yI x n).2=0:=by
  unfold EZ at h;cases he:(yI x n).2==0 with
  | true=>simpa using he
  | false=>rw[he] at h; exact h
 obtain ⟨k,e,r1,r2⟩:=aDA hx h0 h1;have r3:=a1H hx h0;rw[r1] at r3;have:e=(yI x n).2:=by injection r3 with r3; injection r3 with r3 _; injection r3 with r3; injection r3 with _ r3; injection r3 with r3 _; injection r3
 have r4:=r2 (this.trans h2);exact ⟨r4.1,r4.2.2⟩
structure yC (n:Nat) (x:EX):Prop where
 len:x.Len
 fd:Fd (n:Int) x
 sz:oG x<=64
abbrev R16 (v:Int):Prop := -65536<=v/\v<=65536
abbrev Gn (s:Nm):Prop:=nameB s=true
structure a0I (t:Tm) (x:Mv):Prop where
 f:0<=x.f/\x.f<t.ls.length
 e:0<=x.e/\x.e<t.es.length
 d:0<=x.t/\x.t<t.ls.length
 g:yC t.vs.length x.g
 us:∀ u,u∈x.us->(0<=u.1/\u.1<t.vs.length)/\yC t.vs.length u.2
structure DR (t:Tm):Prop where
 ls:∀ s,s∈t.ls->Gn s
 es:∀ s,s∈t.es->Gn s
 vs:∀ v,v∈t.vs->Gn v.n/\R16 v.lo/\R16 v.hi/\R16 v.i
 v16:t.vs.length<=16
 ms:∀ x,x∈t.ms->a0I t x
structure Eo (m:Mo):Prop where
 n:Gn m.n
 es:∀ e,e∈m.es->Gn e.n/\0<=e.k/\e.k<=4
 ts:∀ t,t∈m.ts->Gn t.n/\DR t
 is:∀ x,x∈m.cs ++ m.rs->Gn x.n/\Gn x.t/\∀ s,s∈x.es->Gn s
 xs:∀ x,x∈m.xs->Gn x.n/\x.ls ≠ []/\∀ l,l∈x.ls->Gn l.1/\Gn l.2
 ks:∀ x,x∈m.ks->Gn x.n/\x.ts ≠ []/\R16 x.b/\∀ l,l∈x.ts->Gn l.1/\R16 l.2
theorem IM {b:Bool} (h:(!b)=false):b=true:=by cases b<;>simp_all
theorem Rq {l:List Nm} {s:Nm} (h:yK l s=0):Gn s/\s∉l:=by obtain ⟨a,b⟩:=iR (by decide) h;obtain ⟨c,_⟩:=iR (by decide) b;exact ⟨IM a,by simpa using c⟩
theorem aN9 {l:List Nm} (h:IP l=0):∀ s,s∈l->Gn s:=fun s hs=>by obtain ⟨k,hk,e⟩:=Aa hs;have:=AO h hk;rw[gD hk,e] at this;exact (Rq this).1
theorem bOB {l:List Vr} {v:Vr} (h:vrE l v=0):Gn v.n/\R16 v.lo/\R16 v.hi/\R16 v.i:=by obtain ⟨a,h⟩:=iR (by decide) h;obtain ⟨b,h⟩:=iR (by decide) h;obtain ⟨c,h⟩:=iR (by decide) h;obtain ⟨d,h⟩:=iR (by decide) h;obtain ⟨e,h⟩:=iR (by decide) h;obtain ⟨f,h⟩:=iR (by decide) h;obtain ⟨g,_⟩:=iR (by decide) h;simp only[big,Ld,QL] at c d e f g;exact ⟨IM a,by omega,by omega,by omega⟩
theorem aUT {l:List Vr} (h:JL l=0):l.length<=16/\∀ v,v∈l->Gn v.n/\R16 v.lo/\R16 v.hi/\R16 v.i:=by obtain ⟨a,h⟩:=iR (by decide) h;simp only[QL] at a;refine ⟨by omega,fun v hv => ?_⟩;obtain ⟨k,hk,e⟩:=Aa hv;have:=AO h hk;rw[gD hk,e] at this;exact bOB this
theorem bH1 {t:Tm} (h16:t.vs.length<=16) {x:Mv} (hx:x.g.Len) (hu:∀ u,u∈x.us->u.2.Len) (h:U5 (t.ls.length:Int) (t.es.length:Int) (t.vs.length:Int) x=0):a0I t x:=by obtain ⟨a,h⟩:=iR (by decide) h;obtain ⟨b,h⟩:=iR (by decide) h;obtain ⟨c,h⟩:=iR (by decide) h;obtain ⟨d,h⟩:=iR (by decide) h;obtain ⟨e,h⟩:=iR (by decide) h;obtain ⟨f,h⟩:=iR (by decide) h;obtain ⟨g,h⟩:=wV h;simp only[QL] at a b c d e f;obtain ⟨g1,g2⟩:=aQW hx (by omega) (by omega) g;refine ⟨⟨by omega,by omega⟩,⟨by omega,by omega⟩,⟨by omega,by omega⟩,⟨hx,g1,g2⟩,fun u hu2 => ?_⟩;obtain ⟨k,hk,e⟩:=Aa hu2;have:=AO h hk;unfold V8 at this;rw[gD hk,e] at this;obtain ⟨a,h⟩:=iR (by decide) this;obtain ⟨b,h⟩:=iR (by decide) h;obtain ⟨_,h⟩:=iR (by decide) h;simp only[QL] at a b;obtain ⟨g1,g2⟩:=aQW (hu u hu2) (by omega) (by omega) h;exact ⟨⟨by omega,by omega⟩,hu u hu2,g1,g2⟩
theorem bBM {t:Tm} (ho:uY t) (h:GK t=0):DR t:=by obtain ⟨h1,h⟩:=wV h;obtain ⟨h2,h⟩:=wV h;obtain ⟨_,h⟩:=iR (by decide) h;obtain ⟨_,h⟩:=wV h;obtain ⟨_,h⟩:=iR (by decide) h;obtain ⟨_,h⟩:=iR (by decide) h;obtain ⟨_,h⟩:=iR (by decide) h;obtain ⟨_,h⟩:=wV h;obtain ⟨h3,h⟩:=wV h;obtain ⟨_,h⟩:=wV h;obtain ⟨c1,c2⟩:=aUT h3;refine ⟨aN9 h2,aN9 h1,c2,c1,fun x hx => ?_⟩;obtain ⟨k,hk,e⟩:=Aa hx;have:=AO h hk;rw[gD hk,e] at this;obtain ⟨o1,_,o2⟩:=ho.ms.2 x hx;exact bH1 c1 o1 o2 this
theorem aCU {b:Int} (h:Dc b=0):R16 b:=by obtain ⟨a,h⟩:=iR (by decide) h;obtain ⟨c,_⟩:=iR (by decide) h;simp only[QL] at a c;exact ⟨by omega,by omega⟩
theorem aIY {m:Mo} (ho:kY m) (h:Ba m=0):Eo m:=by
 obtain ⟨h1,h⟩:=iR (by decide) h;obtain ⟨h2,h⟩:=wV h;obtain ⟨_,h⟩:=iR (by decide) h;obtain ⟨_,h⟩:=iR (by decide) h;obtain ⟨_,h⟩:=iR (by decide) h;obtain ⟨_,h⟩:=iR (by decide) h;obtain ⟨_,h⟩:=iR (by decide) h;obtain ⟨h3,h⟩:=wV h;obtain ⟨h4,h⟩:=wV h;obtain ⟨h5,h6⟩:=wV h;obtain ⟨_,h2⟩:=iR (by decide) h2;refine ⟨IM h1,fun e he => ?_,fun t ht => ?_,fun x hx => ?_,fun x hx => ?_,fun x hx => ?_⟩
 .obtain ⟨k,hk,e1⟩:=Aa he;have:=AO h2 hk;rw[gD hk,e1] at this;obtain ⟨a,h⟩:=iR (by decide) this;obtain ⟨_,h⟩:=iR (by decide) h;obtain ⟨b,h⟩:=iR (by decide) h;obtain ⟨c,h⟩:=iR (by decide) h;simp only[QL] at b c;exact ⟨IM a,by omega,by omega⟩
 .obtain ⟨k,hk,e1⟩:=Aa ht;have:=AO h3 hk;rw[gD hk,e1] at this;obtain ⟨a,b⟩:=wV this;exact ⟨(Rq a).1,bBM (ho.ts.2 t ht).2 b⟩
 .obtain ⟨k,hk,e1⟩:=Aa hx;have:=AO h4 hk;rw[gD hk,e1] at this;obtain ⟨a,b⟩:=wV this;have b2:∀ s,s∈x.t::x.es->Gn s:=fun s hs=>by obtain ⟨j,hj,e2⟩:=Aa hs;have:=AO b hj;rw[gD hj,e2] at this;exact IM (iR (by decide) this).1
  exact ⟨(Rq a).1,b2 _ (by simp),fun s hs=>b2 s (by simp[hs])⟩
 .obtain ⟨k,hk,e1⟩:=Aa hx;have:=AO h5 hk;rw[gD hk,e1] at this;obtain ⟨a,b⟩:=wV this;obtain ⟨c,d⟩:=iR (by decide) b;refine ⟨(Rq a).1,fun hc=>by rw[hc] at c; simp at c,fun l hl => ?_⟩;obtain ⟨j,hj,e2⟩:=Aa hl;have:=AO d hj;rw[gD hj,e2] at this;obtain ⟨p,q⟩:=iR (by decide) this;exact ⟨IM p,IM (iR (by decide) q).1⟩
 .obtain ⟨k,hk,e1⟩:=Aa hx;have:=AO h6 hk;rw[gD hk,e1] at this;obtain ⟨a,b⟩:=wV this;obtain ⟨c,d⟩:=iR (by decide) b;obtain ⟨d,e⟩:=wV d;refine ⟨(Rq a).1,fun hc=>by rw[hc] at c; simp at c,aCU e,fun l hl => ?_⟩;obtain ⟨j,hj,e2⟩:=Aa hl;have:=AO d hj;rw[gD hj,e2] at this;obtain ⟨p,q⟩:=iR (by decide) this;exact ⟨IM p,aCU q⟩
def yJ (ns:List Nm) (x:EX):List Tok:=open Classical in if h:∃ B,PB ns x B/\B.length<=8*oG x then Classical.choose h else []
theorem XB {ns:List Nm} {x:EX} (h:yC ns.length x):PB ns x (yJ ns x)/\(yJ ns x).length<=512:=by have hx:=bJI ns h.fd;have hs:=h.sz;unfold yJ;rw[dif_pos hx];have:=Q9 hx;exact ⟨this.1,by omega⟩
def jP (s:Tok):List (List Tok)->List Tok
 | [] => []
 | [a]=>a
 | a::b::l=>a ++ s::jP s (b::l)
def xZ (l:List Nm):List Tok:=tS [40]::(jP (tS [44]) (l.map fun s => [tW s]) ++ [tS [41]])
def xO (e:sH):List Tok := [tW [101,118,101,110,116],tW e.n] ++ (if e.c then [tW [99,111,110,116,114,111,108,108,97,98,108,101]] else []) ++ (if e.o then [tW [111,98,115,101,114,118,97,98,108,101]] else []) ++ (if e.f then [tW [102,111,114,99,105,98,108,101]] else []) ++ (if e.k=0 then [] else tW [102,97,117,108,116]::fM e.k) ++ [tS [59]]
def Ac (I:Int) (mr:List Int) (i:Nat) (s:Nm):List Tok := [tW [108,111,99,97,116,105,111,110],tW s] ++ (if (i:Int)=I then [tW [105,110,105,116,105,97,108]] else []) ++ (if (i:Int)∈mr then [tW [109,97,114,107,101,100]] else []) ++ [tS [59]]
def Ad (I:Int) (mr:List Int):Nat->List Nm->List Tok
 | _,[] => []
 | i,s::l=>Ac I mr i s ++ Ad I mr (i+1) l
def uM (v:Vr):List Tok := [tW [118,97,114],tW v.n,tS [58]] ++ fM v.lo ++ [tS [46,46]] ++ fM v.hi ++ [tS [61]] ++ fM v.i ++ [tS [59]]
def oI (ns:List Nm) (u:Int×EX):List Tok := [tW (ns.getD u.1.toNat []),tS [58,61]] ++ yJ ns u.2
def qC (t:Tm) (x:Mv):List Tok := [tW [101,100,103,101],tW (t.ls.getD x.f.toNat []),tW (t.es.getD x.e.toNat []),tW (t.ls.getD x.t.toNat [])] ++ (if eQ x.g tE then [] else tW [119,104,101,110]::yJ (t.vs.map (·.n)) x.g) ++ (if x.us = [] then [] else tW [100,111]::jP (tS [44]) (x.us.map (oI (t.vs.map (·.n))))) ++ [tS [59]]
def nV (t:Tm):List Tok := [tW [116,101,109,112,108,97,116,101],tW t.n] ++ xZ t.es ++ [tS [123]] ++ Ad t.I t.mr 0 t.ls ++ t.vs.flatMap uM ++ t.ms.flatMap (qC t) ++ [tS [125]]
def inT (w:Nm) (x:Ins):List Tok := [tW w,tW x.n,tS [61],tW x.t] ++ xZ x.es ++ [tS [59]]
abbrev wC:Nm := [99,111,109,112,111,110,101,110,116]
abbrev wR:Nm := [114,101,113,117,105,114,101,109,101,110,116]
def vK (x:vX):List Tok := [tW [101,120,99,108,117,100,101],tW x.n,tS [58]] ++ jP (tS [44]) (x.ls.map fun l => [tW l.1,tW l.2]) ++ [tS [59]]
def ui (x:Cst):List Tok := [tW [108,105,109,105,116],tW x.n,tS [58]] ++ jP (tS [43]) (x.ts.map fun l=>fM l.2 ++ [tS [42],tW l.1]) ++ [tS [60,61]] ++ fM x.b ++ [tS [59]]
def lV (m:Mo):List Tok := [tW [109,111,100,101,108],tW m.n,tS [59]] ++ m.es.flatMap xO ++ m.ts.flatMap nV ++ m.cs.flatMap (inT wC) ++ m.rs.flatMap (inT wR) ++ m.xs.flatMap vK ++ m.ks.flatMap ui
def dm (F:Nat->List Tok):Nat->Nat->List Tok
 | _,0 => []
 | k,m+1=>F k ++ dm F (k+1) m
theorem aD3 {L:List Tok->Nat->R} {F:Nat->List Tok} {n N:Nat} (hs:∀ k,k<n->∀ A:List Tok,A.length+(F k).length<=N->L A k=L (A ++ F k) (k+1)):∀ (m k:Nat) (A:List Tok),k+m=n->A.length+(dm F k m).length<=N->L A k=L (A ++ dm F k m) n
 | 0,k,A,h,_=>by
  have:k=n:=by omega
  subst this;rw[dm,zy]
 | m+1,k,A,h,hN=>by rw[dm,aP] at hN;rw[hs k (by omega) A (by omega),aD3 hs m (k+1) _ (by omega) (by rw[aP]; omega),dm,jc]
theorem nN {L:List Tok->Nat->R} {F:Nat->List Tok} {n:Nat} (N:Nat) {A:List Tok} (hs:∀ k,k<n->∀ A:List Tok,A.length+(F k).length<=N->L A k=L (A ++ F k) (k+1)) (hN:A.length+(dm F 0 n).length<=N):L A 0=L (A ++ dm F 0 n) n:=aD3 hs n 0 A (by omega) hN
theorem aD2 {α:Type} (l:List α) (d:α) (F:Nat->List Tok) (f:α->List Tok) (h:∀ k,k<l.length->F k=f (l.getD k d)):∀ (m k:Nat),k+m=l.length->dm F k m=(l.drop k).flatMap f
 | 0,k,e=>by rw[Ef (by omega)]; rfl
 | m+1,k,e=>by rw[dm,aD2 l d F f h m (k+1) (by omega),h k (by omega),DF (by omega:k<l.length),VM,gD (by omega:k<l.length)]
theorem wB {α:Type} {l:List α} (d:α) {F:Nat->List Tok} {f:α->List Tok} (h:∀ k,k<l.length->F k=f (l.getD k d)):dm F 0 l.length=l.flatMap f:=aD2 l d F f h l.length 0 (by omega)
theorem a1D {F G:Nat->List Tok}:∀ (m k:Nat),(∀ i,k<=i->i<k+m->F i=G i)->dm F k m=dm G k m
 | 0,_,_=>rfl
 | m+1,k,h=>by rw[dm,dm,h k (bW _) (by omega),a1D m (k+1) fun i a b=>h i (by omega) (by omega)]
theorem We (F:Nat->List Tok):∀ (m k:Nat),dm F (k+1) m=dm (fun i=>F (i+1)) k m
 | 0,_=>rfl
 | m+1,k=>by rw[dm,dm,We F m (k+1)]
theorem aD5 {α:Type} (s:Tok) (d:α) (f:α->List Tok):∀ (l:List α) (a:List Tok),a ++ dm (fun k=>s::f (l.getD k d)) 0 l.length=jP s (a::l.map f)
 | [],a=>by rw[bG,dm,zy]; rfl
 | b::l,a=>by rw[aY,dm,We];show a ++ (s::(f b ++ dm (fun k=>s::f (l.getD k d)) 0 l.length))=_;rw[aD5 s d f l (f b)]; rfl
theorem WZ {α:Type} {l:List α} (s:Tok) (d:α) {F:Nat->List Tok} {f:α->List Tok} (p:List Tok) (hl:l ≠ []) (h0:F 0=p ++ f (l.getD 0 d)) (h:∀ k,F (k+1)=s::f (l.getD (k+1) d)):dm F 0 l.length=p ++ jP s (l.map f):=by
 match l,hl with
 | a::l,_ =>rw[aY,dm,We,h0,a1D (G:=fun k=>s::f (l.getD k d)) l.length 0 (fun i _ _=>h i),jc,aD5];rfl
theorem RI {α:Type} {l:List α} (s:Tok) (d:α) {F:Nat->List Tok} {f:α->List Tok} (h0:F 0=f (l.getD 0 d)) (h:∀ k,F (k+1)=s::f (l.getD (k+1) d)):dm F 0 l.length=jP s (l.map f):=by
 by_cases hl:l = []
 .subst hl; rfl
 .exact WZ s d [] hl h0 h
theorem a1E (I:Int) (mr:List Int):∀ (l:List Nm) (k:Nat),dm (fun i=>Ac I mr (k+i) (l.getD i [])) 0 l.length=Ad I mr k l
 | [],_=>rfl
 | s::l,k=>by
  rw[aY,dm,We,Ad,<- a1E I mr l (k+1)];congr 1
  exact a1D _ _ fun i _ _=>by show Ac I mr (k+(i+1)) _=Ac I mr (k+1+i) _;rw[show k+(i+1)=k+1+i by omega]; rfl
theorem iJ {A:List Tok} {j:Nat} (h:A.length+j<=200000000):decide ((bQ A).length+j<=aQ)=true:=aO (by rw[lZ]; show A.length+j<=1073741824; omega)
theorem pW (A:List Tok) (b:bSG):bQ A ++ ([.str b]:bSH)=bQ (A ++ [tW b.data.toList]):=by rw[rY];show _=bQ A ++ [.str (bs b.data.toList)];rw[rE]
theorem Gw (A:List Tok) (b c:bSG):bQ A ++ ([.str b,.str c]:bSH)=bQ (A ++ [tW b.data.toList,tW c.data.toList]):=by rw[rY];show _=bQ A ++ [.str (bs b.data.toList),.str (bs c.data.toList)];rw[rE,rE]
theorem ap3 (A:List Tok) (b c d:bSG):bQ A ++ ([.str b,.str c,.str d]:bSH)=bQ (A ++ [tW b.data.toList,tW c.data.toList,tW d.data.toList]):=by rw[rY];show _=bQ A ++ [.str (bs b.data.toList),.str (bs c.data.toList),.str (bs d.data.toList)];rw[rE,rE,rE]
theorem ap4 (A:List Tok) (b c d e:bSG):bQ A ++ ([.str b,.str c,.str d,.str e]:bSH)=bQ (A ++ [tW b.data.toList,tW c.data.toList,tW d.data.toList,tW e.data.toList]):=by rw[rY];show _=bQ A ++ [.str (bs b.data.toList),.str (bs c.data.toList),.str (bs d.data.toList),.str (bs e.data.toList)];rw[rE,rE,rE,rE]
theorem ap5 (A:List Tok) (b c d e f:bSG):bQ A ++ ([.str b,.str c,.str d,.str e,.str f]:bSH)=bQ (A ++ [tW b.data.toList,tW c.data.toList,tW d.data.toList,tW e.data.toList,tW f.data.toList]):=by rw[rY];show _=bQ A ++ [.str (bs b.data.toList),.str (bs c.data.toList),.str (bs d.data.toList),.str (bs e.data.toList),.str (bs f.data.toList)];rw[rE,rE,rE,rE,rE]
theorem qj {A B:List Tok} (h:A.map (·.text)=B.map (·.text)):bQ A=bQ B:=by
 have e:∀ T:List Tok,bQ T=(T.map (·.text)).map fun s=>PV.str (bs s):=fun T=>by unfold bQ; rw[Lp]; rfl
 rw[e,e,h]
theorem bd (s:Nm):(bs s).data.toList=s:=by simp[bs]
theorem Tt (v:Int):(fM v).length<=2:=by unfold fM; split<;>simp
theorem aR4 (l:List Nm) (hn:l.length<=1000):SS.CC 55 [bSE (aS l)] []=some (bSE (bQ (jP (tS [44]) (l.map fun s => [tW s]))),[]):=by
 rw[b8E];have e:=nN (L:=fun A k=>O1 (aS l) (bQ A) (k:Int)) (F:=fun k=>(if k=0 then [] else [tS [44]]) ++ [tW (l.getD k [])]) (n:=l.length) 100000000 (A := []) (fun k hk A hA=>by
  rw[aI6,aO (by rw[lD]; omega),aG,EG hk,jR,bV (by omega),gD hk []];rw[aP] at hA;by_cases h0:k=0
  .subst h0;rw[aT (by decide),aC,aX (iJ (by omega)),pW];rw[bd];rfl
  .rw[aO (by omega),aG,aX (iJ (by omega)),pW,aX (iJ (by rw[aP,ru]; omega)),pW,bd,aK h0];congr 1
   exact qj (by simp)) (by
  have:∀ (m k:Nat),(dm (fun k=>(if k=0 then [] else [tS [44]]) ++ [tW (l.getD k [])]) k m).length<=2*m:=by
   intro m;induction m with
   | zero=>intro k; exact BH _
   | succ m ih =>
    intro k;rw[dm,aP];have:=ih (k+1);have h2:((if k=0 then [] else [tS [44]]) ++ [tW (l.getD k [])]:List Tok).length<=2:=by split<;>simp
    omega
  have:=this l.length 0;rw[bG]; omega)
 refine (show O1 (aS l) [] 0=_ from e).trans ?_;rw[aI6,aT (by rw[lD]; omega),aC,Gf,RI (tS [44]) [] (f:=fun s => [tW s]) rfl (fun k=>rfl)]
theorem IC {l:List Nm} {i:Int} (h0:0<=i) (h1:i<l.length) (K:PV->R):dQ (aS l) i K=K (.str (bs (l.getD i.toNat []))):=by
 have hk:i.toNat<l.length:=by omega
 have e:=EG hk K;rw[show ((i.toNat:Nat):Int)=i by omega] at e;rw[e,gD hk]
theorem aMU (l:List Int) (hn:l.length<=1000) (k:Int):SS.CC 164 [bSE (kS l),bSD k] []=some (.bool (decide (k∈l)),[]):=by
 have e:∃ r,SI (kS l) k ((0:Nat):Int)=some (bSD r,[])/\decide (0<=r)=yH (fun i=>k==l.getD i 0) l.length:=by
  refine loopA (L:=fun i=>SI (kS l) k (i:Int)) (fun i hi => ?_) ?_
  .rw[aGC,aO (by rw[ak]; omega),aG,OV hi,BB,bV (by omega),gD hi 0]
  .rw[aGC,aT (by rw[ak]; omega),aC]
 obtain ⟨r,e1,e2⟩:=e;rw[aZI,bf ((b1T _ _).trans e1),e2,a0S (fun y=>k==y) l 0];have:(l.any fun y=>k==y)=decide (k∈l):=by rw[Q5]; simp
 rw[this]
theorem bOI (t:Tm) (ho:uY t) (A:List Tok) (hA:A.length+(Ad t.I t.mr 0 t.ls).length<=100000000):Hr (fA t) (bQ A) 0=Jc (fA t) (bQ (A ++ Ad t.I t.mr 0 t.ls)) [] 0:=by
 have hc:=a1E t.I t.mr t.ls 0;have e:=nN (L:=fun A k=>Hr (fA t) (bQ A) (k:Int)) (F:=fun k=>Ac t.I t.mr (0+k) (t.ls.getD k [])) (n:=t.ls.length) 100000000 (A:=A) (fun k hk A hA=>by
  have hn:=ho.ls.1;rw[aI5,aO (show (k:Int)<((fA t).2.1.length:Int) by rw[lD]; omega),aG,EG hk,jR,aX (iJ (by omega)),Gw,gD hk []];dsimp only;have hJ:∀ B:List Tok,B.length<=100000010->Y5 (fA t) (bQ B) (k:Int) (k:Int)=Hr (fA t) (bQ (B ++ (if (k:Int)∈t.mr then [tW [109,97,114,107,101,100]] else []) ++ [tS [59]])) ((k+1:Nat):Int):=fun B hB=>by
   rw[b7Y,bF (aMU t.mr ho.mr _),bV (by omega)];by_cases hm:(k:Int)∈t.mr
   .rw[aO hm,aG,aX (iJ (by omega)),pW,aX (iJ (by rw[aP,ru]; omega)),pW,aJ hm];congr 1
    exact qj (by simp)
   .rw[aT hm,aC,aX (iJ (by omega)),pW,aK hm,zy];congr 1
    exact qj (by simp)
  by_cases hI:(k:Int)=t.I
  .rw[RX hI,aG,aX (iJ (by simp only[aP,aY,bG]; omega)),pW,hJ _ (by simp only[aP,aY,bG]; omega)];congr 1
   refine qj ?_;unfold Ac;rw[kW,aJ hI,bd];simp
  .rw[RV hI,aC,hJ _ (by simp only[aP,aY,bG]; omega)];congr 1
   refine qj ?_;unfold Ac;rw[kW,aK hI,bd];simp) (by rw[hc]; exact hA)
 refine (show Hr (fA t) (bQ A) 0=_ from e).trans ?_;rw[hc,aI5,aT (show ¬ (t.ls.length:Int)<((fA t).2.1.length:Int) by rw[lD]; omega),aC]
theorem bOQ (t:Tm) (ho:uY t) (hg:DR t) (A:List Tok) (hA:A.length+(t.vs.flatMap uM).length<=100000000):Jc (fA t) (bQ A) [] 0=F8 (fA t) (bQ (A ++ t.vs.flatMap uM)) 0 (aS (t.vs.map (·.n))):=by
 have hc:dm (fun k=>uM (t.vs.getD k dV)) 0 t.vs.length=t.vs.flatMap uM:=wB dV fun _ _=>rfl
 have e:=nN (L:=fun A k=>Jc (fA t) (bQ A) (aS ((t.vs.take k).map (·.n))) (k:Int)) (F:=fun k=>uM (t.vs.getD k dV)) (n:=t.vs.length) 100000000 (A:=A) (fun k hk A hA=>by
  have hn:=ho.vs.1;obtain ⟨_,h1,h2,h3⟩:=hg.vs _ (dw hk);have a1:=Tt (t.vs[k]).lo;have a2:=Tt (t.vs[k]).hi;have a3:=Tt (t.vs[k]).i;rw[aI2,aO (show (k:Int)<((fA t).2.2.2.2.2.2.2.1.length:Int) by rw[ak]; omega),aG,KE hk,aX (jZ (rP _ _ k hn)),aX (iJ (by omega))];dsimp only;rw[lu (Og h1.1 h1.2),ap3,rO (·.n) t.vs hk,bV (by omega),gD hk dV];rw[aX (iJ (by rw[aP,lZ]; simp only[aY,bG]; omega)),<- rY];rw[aX (iJ (by simp only[aP,aY,bG]; omega)),pW,lu (Og h2.1 h2.2)];rw[aX (iJ (by rw[lZ]; simp only[aP,aY,bG]; omega)),<- rY];rw[aX (iJ (by simp only[aP,aY,bG]; omega)),pW,lu (Og h3.1 h3.2)];rw[aX (iJ (by rw[lZ]; simp only[aP,aY,bG]; omega)),<- rY];rw[aX (iJ (by simp only[aP,aY,bG]; omega)),pW];congr 1
  refine qj ?_;unfold uM;rw[bd];simp) (by rw[hc]; exact hA)
 refine (show Jc (fA t) (bQ A) [] 0=_ from e).trans ?_;rw[hc,aI2,aT (show ¬ (t.vs.length:Int)<((fA t).2.2.2.2.2.2.2.1.length:Int) by rw[ak]; omega),aC,nZ (bW _)]
theorem exw {ns:List Nm} {x:EX} (h:yC ns.length x):SS.CC 29 [bSE (aS ns),A1 (ev x),bSD 0] []=some (.sl true 1 (bQ (yJ ns x)),[]):=by obtain ⟨h1,h2⟩:=XB h;exact (bJJ ns h1 h.len).1 (by omega) 0 (a6D x)
theorem aLU {ns:List Nm} {x:EX} (h:yC ns.length x):(yJ ns x).length<=512:=(XB h).2
theorem Iq (t:Tm):(t.vs.map (·.n)).length=t.vs.length:=bM _
theorem a7H {a b:PV} {k:Nat} (K:PV->R):dQ [a,b] (if (1:Int)<(k:Int) then (1:Int) else (k:Int)) K=K (if k=0 then a else b):=by
 by_cases h:k=0
 .subst h; rfl
 .rw[aK h,show (if (1:Int)<(k:Int) then (1:Int) else (k:Int))=1 by split<;>omega]; rfl
theorem bOP (t:Tm) (x:Mv) (hl:x.us.length<=1000) (hg:∀ u,u∈x.us->(0<=u.1/\u.1<t.vs.length)/\yC t.vs.length u.2) (A:List Tok) (k:Int) (hA:A.length+(if x.us = [] then [] else tW [100,111]::jP (tS [44]) (x.us.map (oI (t.vs.map (·.n))))).length<=100001000) :
 O0 (fA t) (bQ A) (x.us.map pUp) 0 (aS (t.vs.map (·.n))) k=F8 (fA t) (bQ (A ++ (if x.us = [] then [] else tW [100,111]::jP (tS [44]) (x.us.map (oI (t.vs.map (·.n))))) ++ [tS [59]])) (i64.wrap (k+1)) (aS (t.vs.map (·.n))):=by
 have hc:dm (fun i=>(if i=0 then tW [100,111] else tS [44])::oI (t.vs.map (·.n)) (x.us.getD i dU)) 0 x.us.length=(if x.us = [] then [] else tW [100,111]::jP (tS [44]) (x.us.map (oI (t.vs.map (·.n))))):=by
  by_cases h:x.us = []
  .rw[aJ h,h]; rfl
  .rw[aK h];exact WZ (tS [44]) dU [tW [100,111]] h rfl fun _=>rfl
 have e:=nN (L:=fun A i=>O0 (fA t) (bQ A) (x.us.map pUp) (i:Int) (aS (t.vs.map (·.n))) k) (F:=fun i=>(if i=0 then tW [100,111] else tS [44])::oI (t.vs.map (·.n)) (x.us.getD i dU)) (n:=x.us.length) 100001000 (A:=A) (fun i hi B hB=>by
  obtain ⟨⟨u0,u1⟩,u2⟩:=hg _ (dw hi);have u2':yC (t.vs.map (·.n)).length (x.us[i]).2:=by rw[Iq]; exact u2
  have u3:=aLU u2';rw[aI4,aO (by rw[ak]; omega),aG,OW hi,a7H];dsimp only;rw[show (if i=0 then PV.str ⟨#[100,111]⟩ else PV.str ⟨#[44]⟩) = .str (if i=0 then ⟨#[100,111]⟩ else ⟨#[44]⟩) by split<;>rfl,jR,IC u0 (by rw[Iq]; exact u1),jR,aX (iJ (by omega)),lu (exw u2'),ap3,aX (iJ (by rw[lZ]; simp only[aP,aY,bG]; omega)),<- rY,bV (by omega),gD hi dU];congr 1
  refine qj ?_;unfold oI;rw[bd];by_cases h0:i=0
  .rw[aJ h0,aJ h0]; simp
  .rw[aK h0,aK h0]; simp) (by rw[hc]; exact hA)
 refine (show O0 (fA t) (bQ A) (x.us.map pUp) 0 (aS (t.vs.map (·.n))) k=_ from e).trans ?_;rw[hc,aI4,aT (by rw[ak]; omega),aC,aX (iJ (by rw[aP]; omega)),pW];congr 1
 exact qj (by simp)
theorem bOL (t:Tm) (ho:uY t) (hg:DR t) (A:List Tok) (hA:A.length+(t.ms.flatMap (qC t)).length<=100000000):F8 (fA t) (bQ A) 0 (aS (t.vs.map (·.n)))=some (bSE (bQ (A ++ t.ms.flatMap (qC t) ++ [tS [125]])),[]):=by
 have hc:dm (fun k=>qC t (t.ms.getD k dM)) 0 t.ms.length=t.ms.flatMap (qC t):=wB dM fun _ _=>rfl
 have e:=nN (L:=fun A k=>F8 (fA t) (bQ A) (k:Int) (aS (t.vs.map (·.n)))) (F:=fun k=>qC t (t.ms.getD k dM)) (n:=t.ms.length) 100000000 (A:=A) (fun k hk B hB=>by
  have hn:=ho.ms.1;obtain ⟨h1,h2,h3,h4,h5⟩:=hg.ms _ (dw hk);obtain ⟨o1,o2,o3⟩:=ho.ms.2 _ (dw hk);have h4':yC (t.vs.map (·.n)).length (t.ms[k]).g:=by rw[Iq]; exact h4
  have u3:=aLU h4';rw[gD hk dM] at hB;unfold qC at hB;simp only[aP,aY,bG] at hB;rw[aI3,aO (show (k:Int)<((fA t).2.2.2.2.2.2.2.2.1.length:Int) by rw[ak]; omega),aG,Yu hk];rw[show dQ (fA t).2.1 (mO t.ms[k]).1=dQ (aS t.ls) (t.ms[k]).f from rfl,IC h1.1 h1.2,jR];rw[show dQ (fA t).2.2.1 (mO t.ms[k]).2.1=dQ (aS t.es) (t.ms[k]).e from rfl,IC h2.1 h2.2,jR];rw[show dQ (fA t).2.1 (mO t.ms[k]).2.2.1=dQ (aS t.ls) (t.ms[k]).t from rfl,IC h3.1 h3.2,jR];rw[aX (iJ (by omega)),eF c116,bF (eG o1 tE),ap4,gD hk dM];have hJ:∀ C:List Tok,C.length+(if (t.ms[k]).us = [] then [] else tW [100,111]::jP (tS [44]) ((t.ms[k]).us.map (oI (t.vs.map (·.n))))).length<=100001000->Y4 (fA t) (mO t.ms[k]) (bQ C) (aS (t.vs.map (·.n))) (k:Int)=F8 (fA t) (bQ (C ++ (if (t.ms[k]).us = [] then [] else tW [100,111]::jP (tS [44]) ((t.ms[k]).us.map (oI (t.vs.map (·.n))))) ++ [tS [59]])) ((k+1:Nat):Int) (aS (t.vs.map (·.n))):=fun C hC=>by rw[b7X,<- bV (by omega)];exact bOP t _ o2 h5 C _ hC
  cases hq:eQ (t.ms[k]).g tE with
  | true =>
   rw[hq,aJ rfl] at hB;simp only[bG] at hB;rw[nG,aC,hJ _ (by simp only[aP,aY,bG]; omega)];congr 1
   refine qj ?_;unfold qC;rw[hq,aJ rfl,bd,bd,bd];simp
  | false =>
   rw[hq,aK yx] at hB;simp only[aY] at hB;rw[rq,aG,aX (iJ (by simp only[aP,aY,bG]; omega)),lu (exw h4'),pW,aX (iJ (by rw[lZ]; simp only[aP,aY,bG]; omega)),<- rY,hJ _ (by simp only[aP,aY,bG]; omega)];congr 1
   refine qj ?_;unfold qC;rw[hq,aK yx,bd,bd,bd];simp) (by rw[hc]; exact hA)
 refine (show F8 (fA t) (bQ A) 0 (aS (t.vs.map (·.n)))=_ from e).trans ?_;rw[hc,aI3,aT (show ¬ (t.ms.length:Int)<((fA t).2.2.2.2.2.2.2.2.1.length:Int) by rw[ak]; omega),aC,aX (iJ (by rw[aP]; omega)),pW];rw[qj (B:=A ++ t.ms.flatMap (qC t) ++ [tS [125]]) (by simp)]
theorem bOM (t:Tm) (ho:uY t) (hg:DR t) (hA:(nV t).length<=100000000):SS.CC 54 [A5 (fA t)] []=some (bSE (bQ (nV t)),[]):=by unfold nV xZ at hA;simp only[aP,aY,bG] at hA;rw[b8A,xC (aR4 t.es ho.es.1),aX (aO (by rw[lZ]; show _<=1073741824; omega))];have e0:([.str ⟨#[116,101,109,112,108,97,116,101]⟩,.str (fA t).1,.str ⟨#[40]⟩]:bSH)=bQ [tW [116,101,109,112,108,97,116,101],tW t.n,tS [40]]:=rfl;rw[e0,<- rY,aX (iJ (by simp only[aP,aY,bG]; omega)),Gw,bOI t ho _ (by simp only[aP,aY,bG]; omega),bOQ t ho hg _ (by simp only[aP,aY,bG]; omega),bOL t ho hg _ (by simp only[aP,aY,bG]; omega)];rw[qj (B:=nV t) (by unfold nV xZ; simp)]
theorem bOF (m:Mo) (e:sH) (A:List Tok) (hA:A.length<=100000100) (k:Int):AV (aW m) (lg e) (bQ A) 0 k=AV (aW m) (lg e) (bQ (A ++ (if e.c then [tW [99,111,110,116,114,111,108,108,97,98,108,101]] else []) ++ (if e.o then [tW [111,98,115,101,114,118,97,98,108,101]] else []) ++ (if e.f then [tW [102,111,114,99,105,98,108,101]] else []))) 3 k:=by
 have s0:∀ B:List Tok,B.length<=100000200->AV (aW m) (lg e) (bQ B) 0 k=AV (aW m) (lg e) (bQ (B ++ (if e.c then [tW [99,111,110,116,114,111,108,108,97,98,108,101]] else []))) 1 k:=fun B hB=>by
  rw[Xi,aO (by decide),aG,lH (e := .bool e.c) (by decide) rfl,yg,wrap64 (by decide) (by decide)];cases e.c with
  | true=>rw[aG,lH (e := .str ⟨#[99,111,110,116,114,111,108,108,97,98,108,101]⟩) (by decide) rfl,jR,aX (iJ (by omega)),pW]; congr 1
  | false=>rw[aC,aK yx,zy]; rfl
 have s1:∀ B:List Tok,B.length<=100000200->AV (aW m) (lg e) (bQ B) 1 k=AV (aW m) (lg e) (bQ (B ++ (if e.o then [tW [111,98,115,101,114,118,97,98,108,101]] else []))) 2 k:=fun B hB=>by
  rw[Xi,aO (by decide),aG,lH (e := .bool e.o) (by decide) rfl,yg,wrap64 (by decide) (by decide)];cases e.o with
  | true=>rw[aG,lH (e := .str ⟨#[111,98,115,101,114,118,97,98,108,101]⟩) (by decide) rfl,jR,aX (iJ (by omega)),pW]; congr 1
  | false=>rw[aC,aK yx,zy]; rfl
 have s2:∀ B:List Tok,B.length<=100000200->AV (aW m) (lg e) (bQ B) 2 k=AV (aW m) (lg e) (bQ (B ++ (if e.f then [tW [102,111,114,99,105,98,108,101]] else []))) 3 k:=fun B hB=>by
  rw[Xi,aO (by decide),aG,lH (e := .bool e.f) (by decide) rfl,yg,wrap64 (by decide) (by decide)];cases e.f with
  | true=>rw[aG,lH (e := .str ⟨#[102,111,114,99,105,98,108,101]⟩) (by decide) rfl,jR,aX (iJ (by omega)),pW]; congr 1
  | false=>rw[aC,aK yx,zy]; rfl
 have l1:∀ (b:Bool) (w:Nm),(if b then [tW w] else []).length<=1:=fun b w=>by cases b<;>simp
 have q1:=l1 e.c [99,111,110,116,114,111,108,108,97,98,108,101];have q2:=l1 e.o [111,98,115,101,114,118,97,98,108,101];rw[s0 A (by omega),s1 _ (by rw[aP]; omega),s2 _ (by rw[aP,aP]; omega)]
theorem bOE (m:Mo) (ho:kY m) (hg:Eo m) (A:List Tok) (hA:A.length+(m.es.flatMap xO).length<=100000000):JZ (aW m) (bQ A) 0=JY (aW m) (bQ (A ++ m.es.flatMap xO)) 0:=by
 have hc:dm (fun k=>xO (m.es.getD k dE)) 0 m.es.length=m.es.flatMap xO:=wB dE fun _ _=>rfl
 have e:=nN (L:=fun A k=>JZ (aW m) (bQ A) (k:Int)) (F:=fun k=>xO (m.es.getD k dE)) (n:=m.es.length) 100000000 (A:=A) (fun k hk B hB=>by
  have hn:=ho.es.1;obtain ⟨_,k0,k4⟩:=hg.es _ (dw hk);rw[gD hk dE] at hB;rw[aFX,aO (show (k:Int)<((aW m).2.1.length:Int) by rw[ak]; omega),aG,a5V hk,aX (iJ (by omega)),Gw,bOF m _ _ (by simp only[aP,aY,bG]; omega),gD hk dE];rw[Xi,aT (by decide),aC,bV (by omega)];dsimp only;generalize hC:B ++ _ ++ _ ++ _ ++ _=C;have hCl:C.length<=B.length+5:=by rw[<- hC];simp only[aP,aY,bG];cases (m.es[k]).c<;>cases (m.es[k]).o<;>cases (m.es[k]).f<;>simp
  have hf:xO (m.es[k]) = [tW [101,118,101,110,116],tW (m.es[k]).n] ++ (if (m.es[k]).c then [tW [99,111,110,116,114,111,108,108,97,98,108,101]] else []) ++ (if (m.es[k]).o then [tW [111,98,115,101,114,118,97,98,108,101]] else []) ++ (if (m.es[k]).f then [tW [102,111,114,99,105,98,108,101]] else []) ++ (if (m.es[k]).k=0 then [] else tW [102,97,117,108,116]::fM (m.es[k]).k) ++ [tS [59]]:=rfl;by_cases hk0:(m.es[k]).k=0
  .rw[aT (by omega),aC,aX (iJ (by omega)),pW];congr 1
   refine qj ?_;rw[hf,aJ hk0,<- hC,bd];simp
  .have e3:fM (m.es[k]).k = [tN (m.es[k]).k.toNat]:=aK (by omega);have e4:SS.CC 35 [bSD (m.es[k]).k] []=some (.str (bs (Lib.decDigits (m.es[k]).k.toNat)),[]):=by have:=TS (m.es[k]).k.toNat (by omega);rwa [show (((m.es[k]).k.toNat:Nat):Int)=(m.es[k]).k by omega] at this
   rw[aO (by omega),aG,oO e4,aX (iJ (by omega)),Gw,aX (iJ (by simp only[aP,aY,bG]; omega)),pW];congr 1
   refine qj ?_;rw[hf,aK hk0,e3,<- hC,bd,bd];simp) (by rw[hc]; exact hA)
 refine (show JZ (aW m) (bQ A) 0=_ from e).trans ?_;rw[hc,aFX,aT (show ¬ (m.es.length:Int)<((aW m).2.1.length:Int) by rw[ak]; omega),aC]
theorem bOO (m:Mo) (ho:kY m) (hg:Eo m) (A:List Tok) (hA:A.length+(m.ts.flatMap nV).length<=100000000):JY (aW m) (bQ A) 0=Hl (aW m) ((m.cs ++ m.rs).map cu) (((m.cs ++ m.rs).map cu).length:Int) (bQ (A ++ m.ts.flatMap nV)) 0:=by
 have hc:dm (fun k=>nV (m.ts.getD k dT)) 0 m.ts.length=m.ts.flatMap nV:=wB dT fun _ _=>rfl
 have e:=nN (L:=fun A k=>JY (aW m) (bQ A) (k:Int)) (F:=fun k=>nV (m.ts.getD k dT)) (n:=m.ts.length) 100000000 (A:=A) (fun k hk B hB=>by have hn:=ho.ts.1;rw[gD hk dT] at hB;rw[aFR,aO (show (k:Int)<((aW m).2.2.1.length:Int) by rw[ak]; omega),aG,FP hk,xC (bOM _ (ho.ts.2 _ (dw hk)).2 (hg.ts _ (dw hk)).2 (by omega)),aX (iJ (by rw[lZ]; omega)),<- rY,bV (by omega),gD hk dT]) (by rw[hc]; exact hA);refine (show JY (aW m) (bQ A) 0=_ from e).trans ?_;rw[hc,aFR,aT (show ¬ (m.ts.length:Int)<((aW m).2.2.1.length:Int) by rw[ak]; omega),aC,Gh (H6 m.cs ho.is.1),aX (by rw[bM]; exact Bo ho.is.1 (by rw[bM]; exact ho.is.2.1))];dsimp only;rw[<- ry]
theorem aD1 (F:Nat->List Tok):∀ (a k b:Nat),dm F k (a+b)=dm F k a ++ dm F (k+a) b
 | 0,k,b=>by rw[kW,dm,Gf,Ei]
 | a+1,k,b=>by rw[show a+1+b=(a+b)+1 by omega,dm,aD1 F a (k+1) b,dm,jc,show k+1+a=k+(a+1) by omega]
theorem aD4 (F:Nat->List Tok) (a:Nat):∀ (m k:Nat),dm F (k+a) m=dm (fun i=>F (i+a)) k m
 | 0,_=>rfl
 | m+1,k=>by rw[dm,dm,show k+a+1=(k+1)+a by omega,aD4 F a m (k+1)]
theorem aUA (cs rs:List Ins):dm (fun k=>inT (if k<cs.length then wC else wR) ((cs ++ rs).getD k dI)) 0 (cs ++ rs).length=cs.flatMap (inT wC) ++ rs.flatMap (inT wR):=by
 rw[aP,aD1,kW];congr 1
 .refine wB dI fun k hk => ?_
  rw[aJ hk,gD (by rw[aP]; omega),gD hk,List.getElem_append_left hk]
 .have:=aD4 (fun k=>inT (if k<cs.length then wC else wR) ((cs ++ rs).getD k dI)) cs.length rs.length 0;rw[kW] at this;rw[this];refine wB dI fun k hk => ?_
  rw[aK (by omega),gD (by rw[aP]; omega),gD hk,List.getElem_append_right (by omega)];congr 2
  omega
theorem bOG (m:Mo) (ho:kY m) (h2:m.cs.length+m.rs.length<=1000) (A:List Tok) (hA:A.length+(m.cs.flatMap (inT wC) ++ m.rs.flatMap (inT wR)).length<=100000000):Hl (aW m) ((m.cs ++ m.rs).map cu) (((m.cs ++ m.rs).map cu).length:Int) (bQ A) 0=Hm (aW m) (bQ (A ++ (m.cs.flatMap (inT wC) ++ m.rs.flatMap (inT wR)))) 0:=by
 have hn:(m.cs ++ m.rs).length<=1000:=by rw[aP]; exact h2
 have hc:=aUA m.cs m.rs;have e:=nN (L:=fun A k=>Hl (aW m) ((m.cs ++ m.rs).map cu) (((m.cs ++ m.rs).map cu).length:Int) (bQ A) (k:Int)) (F:=fun k=>inT (if k<m.cs.length then wC else wR) ((m.cs ++ m.rs).getD k dI)) (n:=(m.cs ++ m.rs).length) 100000000 (A:=A) (fun k hk B hB=>by
  obtain ⟨_,_,h4⟩:=ho.is.2.2 _ (dw hk);rw[gD hk dI] at hB;have hJ:∀ w:Nm,B.length+(inT w (m.cs ++ m.rs)[k]).length<=100000000->Xh (aW m) ((m.cs ++ m.rs).map cu) (((m.cs ++ m.rs).map cu).length:Int) (D7 (m.cs ++ m.rs)[k]) (bs w) (bQ B) (k:Int)=Hl (aW m) ((m.cs ++ m.rs).map cu) (((m.cs ++ m.rs).map cu).length:Int) (bQ (B ++ inT w (m.cs ++ m.rs)[k])) ((k+1:Nat):Int):=fun w hw=>by
   unfold inT xZ at hw;simp only[aP,aY,bG] at hw;rw[a'3,aX (iJ (by omega)),xC (aR4 _ h4.1),ap5];rw[aX (iJ (by rw[lZ]; simp only[aP,aY,bG]; omega)),<- rY,aX (iJ (by simp only[aP,aY,bG]; omega)),Gw,bV (by omega)];congr 1
   refine qj ?_;unfold inT xZ;rw[bd,bd,bd];simp
  rw[aFS,aO (by rw[ak]; omega),aG,zU hk,ak,gD hk dI];by_cases hw:k<m.cs.length
  .rw[aJ hw] at hB;rw[aT (by omega),aC,aJ hw];exact hJ wC hB
  .rw[aK hw] at hB;rw[aO (by omega),aG,aK hw];exact hJ wR hB) (by rw[hc]; exact hA)
 refine (show Hl (aW m) ((m.cs ++ m.rs).map cu) (((m.cs ++ m.rs).map cu).length:Int) (bQ A) 0=_ from e).trans ?_;rw[hc,aFS,aT (by rw[ak]; omega),aC]
theorem aO6 {a b:bSG} {k:Nat}:(if k=0 then PV.str a else PV.str b) = .str (if k=0 then a else b):=by split<;>rfl
theorem bOJ (m:Mo) (x:vX) (hn:x.ls.length<=1000) (hx:x.ls ≠ []) (A:List Tok) (k:Int) (hA:A.length+(jP (tS [44]) (x.ls.map fun l => [tW l.1,tW l.2])).length<=100000100):NZ (aW m) (x.ls.map wO) (bQ A) 0 k=Hm (aW m) (bQ (A ++ tS [58]::jP (tS [44]) (x.ls.map fun l => [tW l.1,tW l.2]) ++ [tS [59]])) (i64.wrap (k+1)):=by
 have hc:dm (fun i=>(if i=0 then tS [58] else tS [44]) :: [tW (x.ls.getD i dL).1,tW (x.ls.getD i dL).2]) 0 x.ls.length = [tS [58]] ++ jP (tS [44]) (x.ls.map fun l => [tW l.1,tW l.2]):=WZ (tS [44]) dL (f:=fun l => [tW l.1,tW l.2]) [tS [58]] hx rfl fun _=>rfl
 have e:=nN (L:=fun A i=>NZ (aW m) (x.ls.map wO) (bQ A) (i:Int) k) (F:=fun i=>(if i=0 then tS [58] else tS [44]) :: [tW (x.ls.getD i dL).1,tW (x.ls.getD i dL).2]) (n:=x.ls.length) 100000200 (A:=A) (fun i hi B hB=>by
  rw[aFU,aO (by rw[ak]; omega),aG,Jz hi,a7H,aO6,jR,aX (iJ (by simp only[aY,bG] at hB; omega)),ap3,bV (by omega),gD hi dL];congr 1
  refine qj ?_;rw[bd,bd];by_cases h0:i=0
  .rw[aJ h0,aJ h0]; simp
  .rw[aK h0,aK h0]; simp) (by rw[hc,aP,ru]; omega)
 refine (show NZ (aW m) (x.ls.map wO) (bQ A) 0 k=_ from e).trans ?_;rw[hc,aFU,aT (by rw[ak]; omega),aC,aX (iJ (by simp only[aP,aY,bG]; omega)),pW];congr 1
 exact qj (by simp)
theorem bOR (m:Mo) (ho:kY m) (hg:Eo m) (A:List Tok) (hA:A.length+(m.xs.flatMap vK).length<=100000000):Hm (aW m) (bQ A) 0=Ho (m.ks.map nC) (bQ (A ++ m.xs.flatMap vK)) 0:=by
 have hc:dm (fun k=>vK (m.xs.getD k dX)) 0 m.xs.length=m.xs.flatMap vK:=wB dX fun _ _=>rfl
 have e:=nN (L:=fun A k=>Hm (aW m) (bQ A) (k:Int)) (F:=fun k=>vK (m.xs.getD k dX)) (n:=m.xs.length) 100000000 (A:=A) (fun k hk B hB=>by
  have hn:=ho.xs.1;obtain ⟨_,o2,_⟩:=ho.xs.2 _ (dw hk);obtain ⟨_,g2,_⟩:=hg.xs _ (dw hk);rw[gD hk dX] at hB;unfold vK at hB;simp only[aP,aY,bG] at hB;rw[aFT,aO (show (k:Int)<((aW m).2.2.2.2.2.1.length:Int) by rw[ak]; omega),aG,EE hk,aX (iJ (by omega)),Gw];refine (bOJ m _ o2 g2 _ _ (by simp only[aP,aY,bG]; omega)).trans ?_;rw[bV (by omega),gD hk dX];congr 1
  refine qj ?_;unfold vK;rw[bd];simp) (by rw[hc]; exact hA)
 refine (show Hm (aW m) (bQ A) 0=_ from e).trans ?_;rw[hc,aFT,aT (show ¬ (m.xs.length:Int)<((aW m).2.2.2.2.2.1.length:Int) by rw[ak]; omega),aC]
theorem bON (P:bSH) (x:Cst) (hn:x.ts.length<=1000) (hx:x.ts ≠ []) (hb:R16 x.b) (hr:∀ l,l∈x.ts->R16 l.2) (A:List Tok) (k:Int) (hA:A.length+(jP (tS [43]) (x.ts.map fun l=>fM l.2 ++ [tS [42],tW l.1])).length<=100000100):Na P (oJ x) (bQ A) 0 k=Ho P (bQ (A ++ tS [58]::jP (tS [43]) (x.ts.map fun l=>fM l.2 ++ [tS [42],tW l.1]) ++ [tS [60,61]] ++ fM x.b ++ [tS [59]])) (i64.wrap (k+1)):=by
 have hc:dm (fun i=>(if i=0 then tS [58] else tS [43])::(fM (x.ts.getD i dR).2 ++ [tS [42],tW (x.ts.getD i dR).1])) 0 x.ts.length = [tS [58]] ++ jP (tS [43]) (x.ts.map fun l=>fM l.2 ++ [tS [42],tW l.1]):=WZ (tS [43]) dR (f:=fun l=>fM l.2 ++ [tS [42],tW l.1]) [tS [58]] hx rfl fun _=>rfl
 have e:=nN (L:=fun A i=>Na P (oJ x) (bQ A) (i:Int) k) (F:=fun i=>(if i=0 then tS [58] else tS [43])::(fM (x.ts.getD i dR).2 ++ [tS [42],tW (x.ts.getD i dR).1])) (n:=x.ts.length) 100000200 (A:=A) (fun i hi B hB=>by
  have r1:=hr _ (dw hi);rw[gD hi dR] at hB;simp only[aP,aY,bG] at hB;rw[aFW,aO (show (i:Int)<((oJ x).2.1.length:Int) by rw[ak]; omega),aG,KC hi,a7H,aO6,jR,aX (iJ (by omega))];dsimp only;rw[lu (Og r1.1 r1.2),pW,aX (iJ (by rw[lZ]; simp only[aP,aY,bG]; omega)),<- rY,aX (iJ (by simp only[aP,aY,bG]; omega)),Gw,bV (by omega),gD hi dR];congr 1
  refine qj ?_;rw[bd];by_cases h0:i=0
  .rw[aJ h0,aJ h0]; simp
  .rw[aK h0,aK h0]; simp) (by rw[hc,aP,ru]; omega)
 have hq:=Tt x.b;refine (show Na P (oJ x) (bQ A) 0 k=_ from e).trans ?_;rw[hc,aFW,aT (show ¬ (x.ts.length:Int)<((oJ x).2.1.length:Int) by rw[ak]; omega),aC,aX (iJ (by simp only[aP,aY,bG]; omega)),pW];dsimp only;rw[lu (Og hb.1 hb.2),aX (iJ (by rw[lZ]; simp only[aP,aY,bG]; omega)),<- rY,aX (iJ (by simp only[aP,aY,bG]; omega)),pW];congr 1
 exact qj (by simp)
theorem bOH (l:List Cst) (hn:l.length<=1000) (ho:∀ x,x∈l->x.ts.length<=1000) (hg:∀ x,x∈l->x.ts ≠ []/\R16 x.b/\∀ t,t∈x.ts->R16 t.2) (A:List Tok) (hA:A.length+(l.flatMap ui).length<=100000000):Ho (l.map nC) (bQ A) 0=some (bSE (bQ (A ++ l.flatMap ui)),[]):=by
 have hc:dm (fun k=>ui (l.getD k dK)) 0 l.length=l.flatMap ui:=wB dK fun _ _=>rfl
 have e:=nN (L:=fun A k=>Ho (l.map nC) (bQ A) (k:Int)) (F:=fun k=>ui (l.getD k dK)) (n:=l.length) 100000000 (A:=A) (fun k hk B hB=>by
  have o2:=ho _ (dw hk);obtain ⟨g2,g3,g4⟩:=hg _ (dw hk);rw[gD hk dK] at hB;unfold ui at hB;simp only[aP,aY,bG] at hB;rw[aFV,aO (by rw[ak]; omega),aG,FO hk,aX (iJ (by omega)),Gw];refine (bON _ _ o2 g2 g3 g4 _ _ (by simp only[aP,aY,bG]; omega)).trans ?_;rw[bV (by omega),gD hk dK];congr 1
  refine qj ?_;unfold ui;rw[bd];simp) (by rw[hc]; exact hA)
 refine (show Ho (l.map nC) (bQ A) 0=_ from e).trans ?_;rw[hc,aFV,aT (by rw[ak]; omega),aC]
theorem bOK (m:Mo) (ho:kY m) (hg:Eo m) (h2:m.cs.length+m.rs.length<=1000) (hA:(lV m).length<=100000000):SS.CC 16 [A0 (aW m)] []=some (bSE (bQ (lV m)),[]):=by unfold lV at hA;simp only[aP,aY,bG] at hA;rw[a'S];have e0:([.str ⟨#[109,111,100,101,108]⟩,.str (aW m).1,.str ⟨#[59]⟩]:bSH)=bQ [tW [109,111,100,101,108],tW m.n,tS [59]]:=rfl;rw[e0,bOE m ho hg _ (by simp only[aY,bG]; omega),bOO m ho hg _ (by simp only[aP,aY,bG]; omega),bOG m ho h2 _ (by simp only[aP,aY,bG]; omega),bOR m ho hg _ (by simp only[aP,aY,bG]; omega),bOH m.ks ho.ks.1 (fun x hx=>(ho.ks.2 x hx).2.1) (fun x hx=>⟨(hg.ks x hx).2.1,(hg.ks x hx).2.2.1,fun t ht=>((hg.ks x hx).2.2.2 t ht).2⟩) _ (by simp only[aP,aY,bG]; omega)];unfold lV;rw[jc,jc,jc];simp only[jc]
abbrev GU (A:List Tok):R:=some (.tuple [],[aF (dY A)])
theorem Pn (xs:bSH) (s:bSG) (k:Nat) (A:List Tok) (hk:xs[k]? = some (.str s)) (hk2:k<1000) (h:A.length+1<=1000000):NW xs (A.map ay) (k:Int)=NW xs ((A ++ [tW s.data.toList]).map ay) ((k+1:Nat):Int):=by
 have hlt:k<xs.length:=by
  rcases lq k xs.length with h | h
  .exact h
  .rw[ww h] at hk; cases hk
 rw[Xd,aO (by omega),aG,lH (e := .str s) (by omega) (by rw[nX]; exact hk),jR,aX (aO (by rw[bM]; show _<=1073741824; omega)),bV (by omega),ry,show [tW s.data.toList].map ay = [kD (1,bs s.data.toList,0,0,0,())] from rfl,rE]
theorem aR7 (xs:bSH) (k:Nat) (A:List Tok) (hk:xs.length=k):NW xs (A.map ay) (k:Int)=GU A:=by rw[Xd,aT (by omega),aC]
theorem GV (s r:bSG) (A:List Tok) (h:A.length+2<=1000000):SS.CC 165 [bSF,bSE [.str s,.str r]] [aF (dY A)]=GU (A ++ [tW s.data.toList,tW r.data.toList]):=by rw[a2O];refine (Pn _ s 0 A rfl (by decide) (by omega)).trans ?_;refine (Pn _ r 1 _ rfl (by decide) (by simp; omega)).trans ?_;rw[aR7 _ 2 _ rfl,jc]; rfl
theorem wo4 (s r u v:bSG) (A:List Tok) (h:A.length+4<=1000000):SS.CC 165 [bSF,bSE [.str s,.str r,.str u,.str v]] [aF (dY A)]=GU (A ++ [tW s.data.toList,tW r.data.toList,tW u.data.toList,tW v.data.toList]):=by rw[a2O];refine (Pn _ s 0 A rfl (by decide) (by omega)).trans ?_;refine (Pn _ r 1 _ rfl (by decide) (by simp; omega)).trans ?_;refine (Pn _ u 2 _ rfl (by decide) (by simp; omega)).trans ?_;refine (Pn _ v 3 _ rfl (by decide) (by simp; omega)).trans ?_;rw[aR7 _ 4 _ rfl];simp only[jc]; rfl
theorem aN5 (l:List Nm) {k:Nat} (hk:k<l.length) (A:List Tok) (h:A.length+1<=1000000):SS.CC 243 [bSD (k:Int),bSF,.cst (bSE (aS l))] [some [.ptr 1 0],aF (dY A)]=some (.tuple [],[some [.ptr 1 0],aF (dY (A ++ [tW l[k]]))]):=by rw[b1W,EG hk,jR,bT (y7 _ A h),bd]
theorem aMW (l:List Nm) (hn:l.length<=1000) (A:List Tok) (hA:A.length+(xZ l).length<=1000000):SS.CC 169 [bSF,bSE (aS l)] [aF (dY A)]=GU (A ++ xZ l):=by
 unfold xZ at hA;simp only[aP,aY,bG] at hA;have hc:dm (fun k=>(if k=0 then [] else [tS [44]]) ++ [tW (l.getD k [])]) 0 l.length=jP (tS [44]) (l.map fun s => [tW s]):=RI (tS [44]) [] (f:=fun s => [tW s]) rfl (fun _=>rfl);have e:=nN (L:=fun A k=>Nh ⟨#[44]⟩ (aS l) (l.length:Int) (A.map ay) (k:Int)) (F:=fun k=>(if k=0 then [] else [tS [44]]) ++ [tW (l.getD k [])]) (n:=l.length) 1000000 (A:=A ++ [tS [40]]) (fun k hk B hB=>by
  rw[aP] at hB;simp only[aY,bG] at hB;rw[aF',aO (by omega),aG,bV (by omega),gD hk []];by_cases h0:k=0
  .rw[aT (by omega),aC,ny (aN5 l hk B (by omega)),aJ h0];try rfl
  .rw[aK h0] at hB ⊢;simp only[aY,bG] at hB;rw[aO (by omega),aG,bT (kC _ B (by omega)),ny (aN5 l hk _ (by simp; omega)),jc]) (by rw[hc]; simp only[aP,aY,bG]; omega)
 rw[hc] at e;have e2:SS.CC 170 [bSF,bSD ((aS l).length:Int),.str ⟨#[44]⟩,.func (.func 243) [] [.ptr 1 0,.cst (bSE (aS l))]] [aF (dY (A ++ [tS [40]])),some [bSF]]=some (.tuple [],[aF (dY (A ++ [tS [40]] ++ jP (tS [44]) (l.map fun s => [tW s]))),some [bSF]]):=by rw[a_1,lD];refine (show Nh ⟨#[44]⟩ (aS l) (l.length:Int) ((A ++ [tS [40]]).map ay) 0=_ from e).trans ?_;rw[aF',aT (by omega),aC]
 rw[a'2,bT (kC ⟨#[40]⟩ A (by omega))];refine (aRU e2).trans ?_;rw[bT (kC ⟨#[41]⟩ _ (by simp only[aP,aY,bG]; omega))];have e4:A ++ [tS [40]] ++ jP (tS [44]) (l.map fun s => [tW s]) ++ [tS [41]]=A ++ xZ l:=by unfold xZ; simp
 rw[<- e4]
theorem exC {ns:List Nm} {x:EX} (h:yC ns.length x) (A:List Tok) (hA:A.length+(yJ ns x).length+1<=1000000):SS.CC 113 [bSF,bSE (aS ns),A1 (ev x),bSD 0] [aF (dY A)]=GU (A ++ yJ ns x):=by
 obtain ⟨h1,h2⟩:=XB h;obtain ⟨a,b,c⟩:=bJK ns h1 h.len;have e:=D8 h.len b c a 0;have e2:wp x 0 (yJ ns x)=yJ ns x:=by unfold wp;rw[aK (by have:=a6D x; omega)]
 rw[e2] at e;exact e A hA
theorem bOA (l:List Vr) (hn:l.length<=1000):SS.CC 241 [.sl false 4 (l.map uy)] []=some (.sl true 1 (aS (l.map (·.n))),[]):=by
 have e:SS.CC 297 [.sl false 4 (l.map uy),.func (.func 298) [] []] []=some (.sl true 1 (aS (l.map (·.n))),[]):=by
  rw[b56];refine jy (n:=l.length) (L:=fun k=>Xr (l.map uy) (aS ((l.take k).map (·.n))) (k:Int)) (fun k hk => ?_) ?_
  .rw[aH2,aO (by rw[ak]; omega),aG,KE hk,oO (b57 _),aX (jZ (rP _ l k hn)),rO (·.n) l hk,bV (by omega)]
  .rw[aH2,aT (by rw[ak]; omega),aC,nZ (bW _)]
 rw[b1U,lu e]
theorem aTV (t:Tm) (ho:uY t) (P3:bSH) (A:List Tok) (hA:A.length+(Ad t.I t.mr 0 t.ls).length<=1000000):Hg (bs t.n) (aS t.ls) (aS t.es) (gX t) (A.map ay) P3 0=JX (bs t.n) (aS t.ls) (aS t.es) (gX t) ((A ++ Ad t.I t.mr 0 t.ls).map ay) P3 0:=by
 have hc:=a1E t.I t.mr t.ls 0;have e:=nN (L:=fun A k=>Hg (bs t.n) (aS t.ls) (aS t.es) (gX t) (A.map ay) P3 (k:Int)) (F:=fun k=>Ac t.I t.mr (0+k) (t.ls.getD k [])) (n:=t.ls.length) 1000000 (A:=A) (fun k hk B hB=>by
  have hn:=ho.ls.1;rw[gD hk []] at hB;unfold Ac at hB;rw[kW] at hB;simp only[aP,aY,bG] at hB;rw[aFM,aO (by rw[lD]; omega),aG,EG hk,jR,bT (GV _ _ B (by omega)),gD hk []];have hJ:∀ C:List Tok,C.length+(if (k:Int)∈t.mr then [tW [109,97,114,107,101,100]] else []).length+1<=1000000->Xe (bs t.n) (aS t.ls) (aS t.es) (gX t) (C.map ay) P3 (k:Int) (k:Int)=Hg (bs t.n) (aS t.ls) (aS t.es) (gX t) ((C ++ (if (k:Int)∈t.mr then [tW [109,97,114,107,101,100]] else []) ++ [tS [59]]).map ay) P3 ((k+1:Nat):Int):=fun C hC=>by
   rw[aZQ,bF (aMU t.mr ho.mr _),bV (by omega)];by_cases hm:(k:Int)∈t.mr
   .rw[aJ hm] at hC ⊢;simp only[aY,bG] at hC;rw[aO hm,aG,bT (y7 ⟨#[109,97,114,107,101,100]⟩ C (by omega)),bT (kC ⟨#[59]⟩ _ (by simp; omega))]
   .rw[aK hm] at hC ⊢;simp only[bG] at hC;rw[aT hm,aC,bT (kC ⟨#[59]⟩ C (by omega)),zy]
  by_cases hI:(k:Int)=t.I
  .rw[aJ hI] at hB;simp only[aY,bG] at hB;rw[show ((k:Int)==(gX t).2.2.1)=true from RX hI,aG,bT (y7 _ _ (by simp; omega)),hJ _ (by simp only[aP,aY,bG]; omega)];congr 2
   unfold Ac;rw[kW,aJ hI,bd];simp
  .rw[aK hI] at hB;simp only[bG] at hB;rw[show ((k:Int)==(gX t).2.2.1)=false from RV hI,aC,hJ _ (by simp only[aP,aY,bG]; omega)];congr 2
   unfold Ac;rw[kW,aK hI,bd];simp) (by rw[hc]; exact hA)
 refine (show Hg (bs t.n) (aS t.ls) (aS t.es) (gX t) (A.map ay) P3 0=_ from e).trans ?_;rw[hc,aFM,aT (by rw[lD]; omega),aC]
theorem aU2 (t:Tm) (ho:uY t) (hg:DR t) (P3:bSH) (A:List Tok) (hA:A.length+(t.vs.flatMap uM).length<=1000000):JX (bs t.n) (aS t.ls) (aS t.es) (gX t) (A.map ay) P3 0=F7 (bs t.n) (aS t.ls) (aS t.es) (gX t) ((A ++ t.vs.flatMap uM).map ay) P3 0:=by
 have hc:dm (fun k=>uM (t.vs.getD k dV)) 0 t.vs.length=t.vs.flatMap uM:=wB dV fun _ _=>rfl
 have e:=nN (L:=fun A k=>JX (bs t.n) (aS t.ls) (aS t.es) (gX t) (A.map ay) P3 (k:Int)) (F:=fun k=>uM (t.vs.getD k dV)) (n:=t.vs.length) 1000000 (A:=A) (fun k hk B hB=>by
  have hn:=ho.vs.1;obtain ⟨_,h1,h2,h3⟩:=hg.vs _ (dw hk);rw[gD hk dV] at hB;unfold uM at hB;simp only[aP,aY,bG] at hB;rw[aFK,aO (show (k:Int)<((gX t).2.2.2.2.1.length:Int) by rw[ak]; omega),aG,KE hk,bT (GV _ _ B (by omega))];dsimp only;rw[bT (kC _ _ (by simp only[aP,aY,bG]; omega))];rw[bT (IQ h1.1 h1.2 _ (by simp only[aP,aY,bG]; omega))];rw[bT (kC _ _ (by simp only[aP,aY,bG]; omega))];rw[bT (IQ h2.1 h2.2 _ (by simp only[aP,aY,bG]; omega))];rw[bT (kC _ _ (by simp only[aP,aY,bG]; omega))];rw[bT (IQ h3.1 h3.2 _ (by simp only[aP,aY,bG]; omega))];rw[bT (kC _ _ (by simp only[aP,aY,bG]; omega)),bV (by omega),gD hk dV];congr 2
  unfold uM;rw[bd];simp) (by rw[hc]; exact hA)
 refine (show JX (bs t.n) (aS t.ls) (aS t.es) (gX t) (A.map ay) P3 0=_ from e).trans ?_;rw[hc,aFK,aT (show ¬ (t.vs.length:Int)<((gX t).2.2.2.2.1.length:Int) by rw[ak]; omega),aC]
theorem aU1 (t:Tm) (x:Mv) (hl:x.us.length<=1000) (hg:∀ u,u∈x.us->(0<=u.1/\u.1<t.vs.length)/\yC t.vs.length u.2) (A:List Tok) (hA:A.length+(jP (tS [44]) (x.us.map (oI (t.vs.map (·.n))))).length+1<=1000000) :
 SS.CC 170 [bSF,bSD (x.us.length:Int),.str ⟨#[44]⟩,.func (.func 242) [] [.ptr 1 0,.ptr 2 0,.ptr 3 0]] [aF (dY A),some [bSF],jC (aS (t.vs.map (·.n)),()),O9 (mO x)]=some (.tuple [],[aF (dY (A ++ jP (tS [44]) (x.us.map (oI (t.vs.map (·.n)))))),some [bSF],jC (aS (t.vs.map (·.n)),()),O9 (mO x)]):=by
 have hc:dm (fun i=>(if i=0 then [] else [tS [44]]) ++ oI (t.vs.map (·.n)) (x.us.getD i dU)) 0 x.us.length=jP (tS [44]) (x.us.map (oI (t.vs.map (·.n)))):=RI (tS [44]) dU (f:=oI (t.vs.map (·.n))) rfl (fun _=>rfl);have one:∀ (i:Nat) (hi:i<x.us.length) (B:List Tok),B.length+(oI (t.vs.map (·.n)) x.us[i]).length+1<=1000000->SS.CC 242 [bSD (i:Int),bSF,.ptr 1 0,.ptr 2 0] [some [.ptr 3 0],jC (aS (t.vs.map (·.n)),()),O9 (mO x),aF (dY B)]=some (.tuple [],[some [.ptr 3 0],jC (aS (t.vs.map (·.n)),()),O9 (mO x),aF (dY (B ++ oI (t.vs.map (·.n)) x.us[i]))]):=fun i hi B hB=>by
  obtain ⟨⟨u0,u1⟩,u2⟩:=hg _ (dw hi);have u2':yC (t.vs.map (·.n)).length (x.us[i]).2:=by rw[Iq]; exact u2
  unfold oI at hB;simp only[aP,aY,bG] at hB;rw[b1V,show (mO x).2.2.2.2.2.2.2.1=x.us.map pUp from rfl,OW hi];dsimp only;rw[IC u0 (by rw[Iq]; exact u1),jR,bT (y7 _ B (by omega)),bT (kC _ _ (by simp only[aP,aY,bG]; omega)),OW hi];refine (bT (exC u2' _ (by simp only[aP,aY,bG]; omega))).trans ?_;have e4:B ++ [tW (bs ((t.vs.map (·.n)).getD (x.us[i]).1.toNat [])).data.toList] ++ [tS (⟨#[58,61]⟩:bSG).data.toList] ++ yJ (t.vs.map (·.n)) (x.us[i]).2=B ++ oI (t.vs.map (·.n)) x.us[i]:=by unfold oI;rw[bd];simp
  rw[<- e4]
 have e:=nN (L:=fun A i=>Nc ⟨#[44]⟩ (x.us.length:Int) (A.map ay) (aS (t.vs.map (·.n))) (mO x) (i:Int)) (F:=fun i=>(if i=0 then [] else [tS [44]]) ++ oI (t.vs.map (·.n)) (x.us.getD i dU)) (n:=x.us.length) 999999 (A:=A) (fun i hi B hB=>by
  rw[gD hi dU,aP] at hB;rw[aFZ,aO (by omega),aG,bV (by omega),gD hi dU];by_cases h0:i=0
  .rw[aT (by omega),aC,aBQ (one i hi B (by omega)),aJ h0];rfl
  .rw[aK h0] at hB ⊢;simp only[aY,bG] at hB;rw[aO (by omega),aG,bT (kC _ B (by omega)),aBQ (one i hi _ (by simp only[aP,aY,bG]; omega)),jc]) (by rw[hc]; omega)
 rw[hc] at e;rw[a'Y];refine (show Nc ⟨#[44]⟩ (x.us.length:Int) (A.map ay) (aS (t.vs.map (·.n))) (mO x) 0=_ from e).trans ?_;rw[aFZ,aT (by omega),aC]
theorem aTY (t:Tm) (ho:uY t) (hg:DR t) (A:List Tok) (hA:A.length+(t.ms.flatMap (qC t)).length+2<=1000000):F7 (bs t.n) (aS t.ls) (aS t.es) (gX t) (A.map ay) (aS (t.vs.map (·.n))) 0=GU (A ++ t.ms.flatMap (qC t) ++ [tS [125]]):=by
 have hc:dm (fun k=>qC t (t.ms.getD k dM)) 0 t.ms.length=t.ms.flatMap (qC t):=wB dM fun _ _=>rfl
 have e:=nN (L:=fun A k=>F7 (bs t.n) (aS t.ls) (aS t.es) (gX t) (A.map ay) (aS (t.vs.map (·.n))) (k:Int)) (F:=fun k=>qC t (t.ms.getD k dM)) (n:=t.ms.length) 999998 (A:=A) (fun k hk B hB=>by
  have hn:=ho.ms.1;obtain ⟨h1,h2,h3,h4,h5⟩:=hg.ms _ (dw hk);obtain ⟨o1,o2,o3⟩:=ho.ms.2 _ (dw hk);have h4':yC (t.vs.map (·.n)).length (t.ms[k]).g:=by rw[Iq]; exact h4
  rw[gD hk dM] at hB;unfold qC at hB;simp only[aP,aY,bG] at hB;rw[aFL,aO (show (k:Int)<((gX t).2.2.2.2.2.1.length:Int) by rw[ak]; omega),aG,Yu hk];dsimp only;rw[IC h1.1 h1.2,jR,IC h2.1 h2.2,jR,IC h3.1 h3.2,jR];rw[bT (wo4 _ _ _ _ B (by omega)),eF c116,bF (eG o1 tE),gD hk dM];have hJ:∀ C:List Tok,C.length+(if (t.ms[k]).us = [] then [] else tW [100,111]::jP (tS [44]) ((t.ms[k]).us.map (oI (t.vs.map (·.n))))).length+2<=1000000->Xf (bs t.n) (aS t.ls) (aS t.es) (gX t) (C.map ay) (aS (t.vs.map (·.n))) (mO t.ms[k]) (k:Int)=F7 (bs t.n) (aS t.ls) (aS t.es) (gX t) ((C ++ (if (t.ms[k]).us = [] then [] else tW [100,111]::jP (tS [44]) ((t.ms[k]).us.map (oI (t.vs.map (·.n))))) ++ [tS [59]]).map ay) (aS (t.vs.map (·.n))) ((k+1:Nat):Int):=fun C hC=>by
   have hK:∀ D:List Tok,D.length+(jP (tS [44]) ((t.ms[k]).us.map (oI (t.vs.map (·.n))))).length+2<=1000000->Xg (bs t.n) (aS t.ls) (aS t.es) (gX t) (D.map ay) (aS (t.vs.map (·.n))) (mO t.ms[k]) (k:Int)=F7 (bs t.n) (aS t.ls) (aS t.es) (gX t) ((D ++ jP (tS [44]) ((t.ms[k]).us.map (oI (t.vs.map (·.n)))) ++ [tS [59]]).map ay) (aS (t.vs.map (·.n))) ((k+1:Nat):Int):=fun D hD=>by rw[aZS,show (((mO t.ms[k]).2.2.2.2.2.2.2.1.length:Nat):Int)=((t.ms[k]).us.length:Int) from ak _ _,aRT (aU1 t _ o2 h5 D (by omega)),bV (by omega)];dsimp only;rw[bT (kC _ _ (by simp only[aP]; omega))]
   rw[aZR,show (((mO t.ms[k]).2.2.2.2.2.2.2.1.length:Nat):Int)=((t.ms[k]).us.length:Int) from ak _ _];by_cases hu:(t.ms[k]).us = []
   .rw[aJ hu] at hC ⊢;simp only[bG] at hC;have hl0:(t.ms[k]).us.length=0:=by rw[hu]; rfl
    rw[aT (by omega),aC,hK C (by rw[hu]; show C.length+0+2<=1000000; omega),hu];rfl
   .rw[aK hu] at hC ⊢;simp only[aY] at hC;have hl0:0<(t.ms[k]).us.length:=List.length_pos_iff.2 hu;rw[aO (by omega),aG,bT (y7 _ C (by omega)),hK _ (by simp only[aP,aY,bG]; omega)];congr 2
    simp
  cases hq:eQ (t.ms[k]).g tE with
  | true =>
   rw[hq,aJ rfl] at hB;simp only[bG] at hB;rw[nG,aC,hJ _ (by simp only[aP,aY,bG]; omega)];congr 2
   unfold qC;rw[hq,aJ rfl,bd,bd,bd];simp
  | false =>
   rw[hq,aK yx] at hB;simp only[aY] at hB;rw[rq,aG,bT (y7 _ _ (by simp only[aP,aY,bG]; omega)),bT (exC h4' _ (by simp only[aP,aY,bG]; omega)),hJ _ (by simp only[aP,aY,bG]; omega)];congr 2
   unfold qC;rw[hq,aK yx,bd,bd,bd];simp) (by rw[hc]; omega)
 refine (show F7 (bs t.n) (aS t.ls) (aS t.es) (gX t) (A.map ay) (aS (t.vs.map (·.n))) 0=_ from e).trans ?_;rw[hc,aFL,aT (show ¬ (t.ms.length:Int)<((gX t).2.2.2.2.2.1.length:Int) by rw[ak]; omega),aC,bT (kC ⟨#[125]⟩ _ (by simp only[aP]; omega))]
theorem aTZ (t:Tm) (ho:uY t) (hg:DR t) (A:List Tok) (hA:A.length+(nV t).length+2<=1000000):SS.CC 168 [bSF,A5 (fA t)] [aF (dY A)]=GU (A ++ nV t):=by
 unfold nV at hA;simp only[aP,aY,bG] at hA;rw[a'1];dsimp only;rw[lu (bOA t.vs ho.vs.1),bT (GV _ _ A (by omega)),bT (aMW t.es ho.es.1 _ (by simp only[aP,aY,bG]; omega)),bT (kC _ _ (by simp only[aP,aY,bG]; omega))];rw[aTV t ho _ _ (by simp only[aP,aY,bG]; omega),aU2 t ho hg _ _ (by simp only[aP,aY,bG]; omega),aTY t ho hg _ (by simp only[aP,aY,bG]; omega)];have e4:A ++ [tW (⟨#[116,101,109,112,108,97,116,101]⟩:bSG).data.toList,tW (bs t.n).data.toList] ++ xZ t.es ++ [tS (⟨#[123]⟩:bSG).data.toList] ++ Ad t.I t.mr 0 t.ls ++ t.vs.flatMap uM ++ t.ms.flatMap (qC t) ++ [tS [125]]=A ++ nV t:=by unfold nV;rw[bd];simp
 rw[<- e4]
abbrev fC (e:sH):List Tok:=if e.c then [tW [99,111,110,116,114,111,108,108,97,98,108,101]] else []
abbrev fO (e:sH):List Tok:=if e.o then [tW [111,98,115,101,114,118,97,98,108,101]] else []
abbrev fF (e:sH):List Tok:=if e.f then [tW [102,111,114,99,105,98,108,101]] else []
theorem aTQ (m:Mo) (e:sH) (A:List Tok) (hA:A.length+3<=1000000) (k:Int):kP (aW m) (A.map ay) (lg e) 0 k=kP (aW m) ((A ++ fC e ++ fO e ++ fF e).map ay) (lg e) 3 k:=by
 have s0:∀ B:List Tok,B.length+1<=1000000->kP (aW m) (B.map ay) (lg e) 0 k=kP (aW m) ((B ++ fC e).map ay) (lg e) 1 k:=fun B hB=>by
  have q:kP (aW m) (B.map ay) (lg e) 0 k=aA e.c (ah 165 [bSF,bSE [.str ⟨#[99,111,110,116,114,111,108,108,97,98,108,101]⟩]] [aF (dY B)] fun _ u=>kP (aW m) u.1 (lg e) 1 k) (kP (aW m) (B.map ay) (lg e) 1 k):=(Y7 _ _ _ _ _).trans (by kernel_rfl);rw[q];unfold fC;cases e.c with
  | true=>rw[aG,bT (y7 _ B hB)]; rfl
  | false=>rw[aC,aK yx,zy]
 have s1:∀ B:List Tok,B.length+1<=1000000->kP (aW m) (B.map ay) (lg e) 1 k=kP (aW m) ((B ++ fO e).map ay) (lg e) 2 k:=fun B hB=>by
  have q:kP (aW m) (B.map ay) (lg e) 1 k=aA e.o (ah 165 [bSF,bSE [.str ⟨#[111,98,115,101,114,118,97,98,108,101]⟩]] [aF (dY B)] fun _ u=>kP (aW m) u.1 (lg e) 2 k) (kP (aW m) (B.map ay) (lg e) 2 k):=(Y7 _ _ _ _ _).trans (by kernel_rfl);rw[q];unfold fO;cases e.o with
  | true=>rw[aG,bT (y7 _ B hB)]; rfl
  | false=>rw[aC,aK yx,zy]
 have s2:∀ B:List Tok,B.length+1<=1000000->kP (aW m) (B.map ay) (lg e) 2 k=kP (aW m) ((B ++ fF e).map ay) (lg e) 3 k:=fun B hB=>by
  have q:kP (aW m) (B.map ay) (lg e) 2 k=aA e.f (ah 165 [bSF,bSE [.str ⟨#[102,111,114,99,105,98,108,101]⟩]] [aF (dY B)] fun _ u=>kP (aW m) u.1 (lg e) 3 k) (kP (aW m) (B.map ay) (lg e) 3 k):=(Y7 _ _ _ _ _).trans (by kernel_rfl);rw[q];unfold fF;cases e.f with
  | true=>rw[aG,bT (y7 _ B hB)]; rfl
  | false=>rw[aC,aK yx,zy]
 have q1:(fC e).length<=1:=by unfold fC; cases e.c<;>simp
 have q2:(fO e).length<=1:=by unfold fO; cases e.o<;>simp
 rw[s0 A (by omega),s1 _ (by rw[aP]; omega),s2 _ (by rw[aP,aP]; omega)]
theorem aTP (m:Mo) (ho:kY m) (hg:Eo m) (A:List Tok) (hA:A.length+(m.es.flatMap xO).length<=900000):Jg (aW m) (A.map ay) 0=Jd (aW m) ((A ++ m.es.flatMap xO).map ay) 0:=by
 have hc:dm (fun k=>xO (m.es.getD k dE)) 0 m.es.length=m.es.flatMap xO:=wB dE fun _ _=>rfl
 have e:=nN (L:=fun A k=>Jg (aW m) (A.map ay) (k:Int)) (F:=fun k=>xO (m.es.getD k dE)) (n:=m.es.length) 900000 (A:=A) (fun k hk B hB=>by
  have hn:=ho.es.1;obtain ⟨_,k0,k4⟩:=hg.es _ (dw hk);have hf:xO (m.es[k]) = [tW [101,118,101,110,116],tW (m.es[k]).n] ++ fC m.es[k] ++ fO m.es[k] ++ fF m.es[k] ++ (if (m.es[k]).k=0 then [] else tW [102,97,117,108,116]::fM (m.es[k]).k) ++ [tS [59]]:=rfl;rw[gD hk dE] at hB ⊢;rw[hf] at hB ⊢;simp only[aP,aY,bG] at hB;have q1:(fC m.es[k]).length<=1:=by unfold fC; cases (m.es[k]).c<;>simp
  have q2:(fO m.es[k]).length<=1:=by unfold fO; cases (m.es[k]).o<;>simp
  have q3:(fF m.es[k]).length<=1:=by unfold fF; cases (m.es[k]).f<;>simp
  rw[aIC,aO (show (k:Int)<((aW m).2.1.length:Int) by rw[ak]; omega),aG,a5V hk,bT (GV _ _ B (by omega))];refine (aTQ m m.es[k] _ (by simp only[aP,aY,bG]; omega) _).trans ?_;rw[Y7,aT (by decide),aC,bV (by omega)];dsimp only;by_cases hk0:(m.es[k]).k=0
  .rw[show ((m.es[k]).k != 0)=false from ug hk0,aC,bT (kC _ _ (by simp only[aP,aY,bG]; omega)),aJ hk0];congr 2
   rw[bd];simp
  .rw[aK hk0] at hB ⊢;simp only[aY] at hB;rw[show ((m.es[k]).k != 0)=true from xM hk0,aG,bT (y7 _ _ (by simp only[aP,aY,bG]; omega)),bT (IQ (by omega) (by omega) _ (by simp only[aP,aY,bG]; omega)),bT (kC _ _ (by simp only[aP,aY,bG]; omega))];congr 2
   rw[bd];simp) (by rw[hc]; exact hA)
 refine (show Jg (aW m) (A.map ay) 0=_ from e).trans ?_;rw[hc,aIC,aT (show ¬ (m.es.length:Int)<((aW m).2.1.length:Int) by rw[ak]; omega),aC]
theorem aU0 (m:Mo) (ho:kY m) (hg:Eo m) (A:List Tok) (hA:A.length+(m.ts.flatMap nV).length<=900000):Jd (aW m) (A.map ay) 0=F9 (aW m) ((A ++ m.ts.flatMap nV).map ay) 0:=by
 have hc:dm (fun k=>nV (m.ts.getD k dT)) 0 m.ts.length=m.ts.flatMap nV:=wB dT fun _ _=>rfl
 have e:=nN (L:=fun A k=>Jd (aW m) (A.map ay) (k:Int)) (F:=fun k=>nV (m.ts.getD k dT)) (n:=m.ts.length) 900000 (A:=A) (fun k hk B hB=>by have hn:=ho.ts.1;rw[gD hk dT] at hB;rw[aI9,aO (show (k:Int)<((aW m).2.2.1.length:Int) by rw[ak]; omega),aG,FP hk,bT (aTZ _ (ho.ts.2 _ (dw hk)).2 (hg.ts _ (dw hk)).2 B (by omega)),bV (by omega),gD hk dT]) (by rw[hc]; exact hA);refine (show Jd (aW m) (A.map ay) 0=_ from e).trans ?_;rw[hc,aI9,aT (show ¬ (m.ts.length:Int)<((aW m).2.2.1.length:Int) by rw[ak]; omega),aC]
theorem aJS (w:bSG) (x:Ins) (hx:AB x.es) (B:List Tok) (K:Sh.V gY->R) (hB:B.length+(inT w.data.toList x).length<=900000):(ah 165 [bSF,bSE [.str w,.str (bs x.n)]] [aF (dY B)] fun _ u20=>ah 166 [bSF,bSE [.str ⟨#[61]⟩]] [aF u20] fun _ u23=>ah 165 [bSF,bSE [.str (bs x.t)]] [aF u23] fun _ u26=>ah 169 [bSF,bSE (aS x.es)] [aF u26] fun _ u29=>ah 166 [bSF,bSE [.str ⟨#[59]⟩]] [aF u29] fun _ u32=>K u32)=K (dY (B ++ inT w.data.toList x)):=by
 unfold inT at hB;simp only[aP,aY,bG] at hB;rw[bT (GV _ _ B (by omega)),bT (kC _ _ (by simp only[aP,aY,bG]; omega)),bT (y7 _ _ (by simp only[aP,aY,bG]; omega)),bT (aMW _ hx.1 _ (by simp only[aP,aY,bG]; omega)),bT (kC _ _ (by simp only[aP,aY,bG]; omega))];congr 2
 unfold inT;rw[bd,bd];simp
theorem aTS (m:Mo) (l:List Ins) (hn:l.length<=1000) (hl:∀ x,x∈l->AB x.es) (A:List Tok) (hA:A.length+(l.flatMap (inT wC)).length<=900000):zL (aW m) (A.map ay) 0 (l.map cu) 0 0 ((l.map cu).length:Int)=F9 (aW m) ((A ++ l.flatMap (inT wC)).map ay) 1:=by
 have hc:dm (fun k=>inT wC (l.getD k dI)) 0 l.length=l.flatMap (inT wC):=wB dI fun _ _=>rfl
 have e:=nN (L:=fun A k=>zL (aW m) (A.map ay) (k:Int) (l.map cu) 0 0 ((l.map cu).length:Int)) (F:=fun k=>inT wC (l.getD k dI)) (n:=l.length) 900000 (A:=A) (fun k hk B hB=>by rw[gD hk dI] at hB ⊢;rw[Y6,aO (by rw[ak]; omega),aG,zU hk,bV (by omega)];exact aJS ⟨#[99,111,109,112,111,110,101,110,116]⟩ _ (hl _ (dw hk)) B _ hB) (by rw[hc]; exact hA);refine (show zL (aW m) (A.map ay) 0 (l.map cu) 0 0 ((l.map cu).length:Int)=_ from e).trans ?_;rw[hc,Y6,aT (by rw[ak]; omega),aC];rfl
theorem aTT (m:Mo) (l:List Ins) (hn:l.length<=1000) (hl:∀ x,x∈l->AB x.es) (A:List Tok) (hA:A.length+(l.flatMap (inT wR)).length<=900000):zL (aW m) (A.map ay) 0 (l.map cu) 1 1 ((l.map cu).length:Int)=F9 (aW m) ((A ++ l.flatMap (inT wR)).map ay) 2:=by
 have hc:dm (fun k=>inT wR (l.getD k dI)) 0 l.length=l.flatMap (inT wR):=wB dI fun _ _=>rfl
 have e:=nN (L:=fun A k=>zL (aW m) (A.map ay) (k:Int) (l.map cu) 1 1 ((l.map cu).length:Int)) (F:=fun k=>inT wR (l.getD k dI)) (n:=l.length) 900000 (A:=A) (fun k hk B hB=>by rw[gD hk dI] at hB ⊢;rw[Y6,aO (by rw[ak]; omega),aG,zU hk,bV (by omega)];exact aJS ⟨#[114,101,113,117,105,114,101,109,101,110,116]⟩ _ (hl _ (dw hk)) B _ hB) (by rw[hc]; exact hA);refine (show zL (aW m) (A.map ay) 0 (l.map cu) 1 1 ((l.map cu).length:Int)=_ from e).trans ?_;rw[hc,Y6,aT (by rw[ak]; omega),aC];rfl
theorem aTR (m:Mo) (ho:kY m) (A:List Tok) (hA:A.length+(m.cs.flatMap (inT wC)).length+(m.rs.flatMap (inT wR)).length<=900000):F9 (aW m) (A.map ay) 0=Je (aW m) ((A ++ m.cs.flatMap (inT wC) ++ m.rs.flatMap (inT wR)).map ay) 0:=by
 have q0:F9 (aW m) (A.map ay) 0=zL (aW m) (A.map ay) 0 (m.cs.map cu) 0 0 ((m.cs.map cu).length:Int):=(a3X _ _ _).trans (by kernel_rfl);have q1:∀ B:List Tok,F9 (aW m) (B.map ay) 1=zL (aW m) (B.map ay) 0 (m.rs.map cu) 1 1 ((m.rs.map cu).length:Int):=fun B=>(a3X _ _ _).trans (by kernel_rfl)
 rw[q0,aTS m m.cs ho.is.1 (fun x hx=>(ho.is.2.2 x (a0A _ hx)).2.2) A (by omega),q1,aTT m m.rs ho.is.2.1 (fun x hx=>(ho.is.2.2 x (aB7 _ hx)).2.2) _ (by rw[aP]; omega),a3X,aT (by decide),aC]
theorem aTW (x:vX) (hn:x.ls.length<=1000) (A:List Tok) (hA:A.length+(jP (tS [44]) (x.ls.map fun l => [tW l.1,tW l.2])).length<=900000):SS.CC 170 [bSF,bSD (x.ls.length:Int),.str ⟨#[44]⟩,.func (.func 171) [] [.ptr 1 0,.ptr 2 0]] [aF (dY A),some [bSF],yE (Ec x)]=some (.tuple [],[aF (dY (A ++ jP (tS [44]) (x.ls.map fun l => [tW l.1,tW l.2]))),some [bSF],yE (Ec x)]):=by
 have hc:dm (fun i=>(if i=0 then [] else [tS [44]]) ++ [tW (x.ls.getD i dL).1,tW (x.ls.getD i dL).2]) 0 x.ls.length=jP (tS [44]) (x.ls.map fun l => [tW l.1,tW l.2]):=RI (tS [44]) dL (f:=fun l => [tW l.1,tW l.2]) rfl (fun _=>rfl);have one:∀ (i:Nat) (hi:i<x.ls.length) (B:List Tok),B.length+2<=1000000->SS.CC 171 [bSD (i:Int),bSF,.ptr 1 0] [some [.ptr 2 0],yE (Ec x),aF (dY B)]=some (.tuple [],[some [.ptr 2 0],yE (Ec x),aF (dY (B ++ [tW (x.ls[i]).1,tW (x.ls[i]).2]))]):=fun i hi B hB=>by rw[a_5,show (Ec x).2.1=x.ls.map wO from rfl,Jz hi,Jz hi,bT (GV _ _ B hB),bd,bd]
 have e:=nN (L:=fun A i=>Nj ⟨#[44]⟩ (x.ls.length:Int) (A.map ay) (Ec x) (i:Int)) (F:=fun i=>(if i=0 then [] else [tS [44]]) ++ [tW (x.ls.getD i dL).1,tW (x.ls.getD i dL).2]) (n:=x.ls.length) 900000 (A:=A) (fun i hi B hB=>by
  rw[aP] at hB;simp only[aY,bG] at hB;rw[aG0,aO (by omega),aG,bV (by omega),gD hi dL];by_cases h0:i=0
  .rw[aT (by omega),aC,aBN (one i hi B (by omega)),aJ h0];rfl
  .rw[aK h0];rw[aO (by omega),aG,bT (kC _ B (by omega)),aBN (one i hi _ (by simp only[aP,aY,bG]; omega)),jc]) (by rw[hc]; exact hA)
 rw[hc] at e;rw[a_4];refine (show Nj ⟨#[44]⟩ (x.ls.length:Int) (A.map ay) (Ec x) 0=_ from e).trans ?_;rw[aG0,aT (by omega),aC]
theorem aT' (x:Cst) (hn:x.ts.length<=1000) (hr:∀ l,l∈x.ts->R16 l.2) (A:List Tok) (hA:A.length+(jP (tS [43]) (x.ts.map fun l=>fM l.2 ++ [tS [42],tW l.1])).length<=900000):SS.CC 170 [bSF,bSD (x.ts.length:Int),.str ⟨#[43]⟩,.func (.func 172) [] [.ptr 1 0,.ptr 2 0]] [aF (dY A),some [bSF],vY (oJ x)]=some (.tuple [],[aF (dY (A ++ jP (tS [43]) (x.ts.map fun l=>fM l.2 ++ [tS [42],tW l.1]))),some [bSF],vY (oJ x)]):=by
 have hc:dm (fun i=>(if i=0 then [] else [tS [43]]) ++ (fM (x.ts.getD i dR).2 ++ [tS [42],tW (x.ts.getD i dR).1])) 0 x.ts.length=jP (tS [43]) (x.ts.map fun l=>fM l.2 ++ [tS [42],tW l.1]):=RI (tS [43]) dR (f:=fun l=>fM l.2 ++ [tS [42],tW l.1]) rfl (fun _=>rfl);have one:∀ (i:Nat) (hi:i<x.ts.length) (B:List Tok),B.length+4<=1000000->SS.CC 172 [bSD (i:Int),bSF,.ptr 1 0] [some [.ptr 2 0],vY (oJ x),aF (dY B)]=some (.tuple [],[some [.ptr 2 0],vY (oJ x),aF (dY (B ++ (fM (x.ts[i]).2 ++ [tS [42],tW (x.ts[i]).1])))]):=fun i hi B hB=>by
  have r1:=hr _ (dw hi);have l1:=Tt (x.ts[i]).2;rw[a_6,show (oJ x).2.1=x.ts.map FY from rfl,KC hi];dsimp only;rw[bT (IQ r1.1 r1.2 B (by omega)),bT (kC _ _ (by simp only[aP]; omega)),KC hi,bT (y7 _ _ (by simp only[aP,aY,bG]; omega)),bd];have e4:B ++ fM (x.ts[i]).2 ++ [tS (⟨#[42]⟩:bSG).data.toList] ++ [tW (x.ts[i]).1]=B ++ (fM (x.ts[i]).2 ++ [tS [42],tW (x.ts[i]).1]):=by simp
  rw[e4]
 have e:=nN (L:=fun A i=>Nb ⟨#[43]⟩ (x.ts.length:Int) (A.map ay) (oJ x) (i:Int)) (F:=fun i=>(if i=0 then [] else [tS [43]]) ++ (fM (x.ts.getD i dR).2 ++ [tS [42],tW (x.ts.getD i dR).1])) (n:=x.ts.length) 900000 (A:=A) (fun i hi B hB=>by
  rw[aP] at hB;rw[aFY,aO (by omega),aG,bV (by omega),gD hi dR];by_cases h0:i=0
  .rw[aT (by omega),aC,aBO (one i hi B (by omega)),aJ h0];rfl
  .rw[aK h0];rw[aO (by omega),aG,bT (kC _ B (by omega)),aBO (one i hi _ (by simp only[aP,aY,bG]; omega)),jc]) (by rw[hc]; exact hA)
 rw[hc] at e;rw[a'V];refine (show Nb ⟨#[43]⟩ (x.ts.length:Int) (A.map ay) (oJ x) 0=_ from e).trans ?_;rw[aFY,aT (by omega),aC]
theorem aU3 (m:Mo) (ho:kY m) (A:List Tok) (hA:A.length+(m.xs.flatMap vK).length<=900000):Je (aW m) (A.map ay) 0=Jf (m.ks.map nC) ((A ++ m.xs.flatMap vK).map ay) 0:=by
 have hc:dm (fun k=>vK (m.xs.getD k dX)) 0 m.xs.length=m.xs.flatMap vK:=wB dX fun _ _=>rfl
 have e:=nN (L:=fun A k=>Je (aW m) (A.map ay) (k:Int)) (F:=fun k=>vK (m.xs.getD k dX)) (n:=m.xs.length) 900000 (A:=A) (fun k hk B hB=>by
  have hn:=ho.xs.1;obtain ⟨_,o2,_⟩:=ho.xs.2 _ (dw hk);rw[gD hk dX] at hB ⊢;unfold vK at hB;simp only[aP,aY,bG] at hB;rw[aIA,aO (show (k:Int)<((aW m).2.2.2.2.2.1.length:Int) by rw[ak]; omega),aG,EE hk,bT (GV _ _ B (by omega)),bT (kC _ _ (by simp only[aP,aY,bG]; omega)),ak,aRP (aTW _ o2 _ (by simp only[aP,aY,bG]; omega)),bT (kC _ _ (by simp only[aP,aY,bG]; omega)),bV (by omega)];congr 2
  unfold vK;rw[bd];simp) (by rw[hc]; exact hA)
 refine (show Je (aW m) (A.map ay) 0=_ from e).trans ?_;rw[hc,aIA,aT (show ¬ (m.xs.length:Int)<((aW m).2.2.2.2.2.1.length:Int) by rw[ak]; omega),aC]
theorem aTU (l:List Cst) (hn:l.length<=1000) (ho:∀ x,x∈l->x.ts.length<=1000) (hg:∀ x,x∈l->R16 x.b/\∀ t,t∈x.ts->R16 t.2) (A:List Tok) (hA:A.length+(l.flatMap ui).length<=900000):Jf (l.map nC) (A.map ay) 0=GU (A ++ l.flatMap ui):=by
 have hc:dm (fun k=>ui (l.getD k dK)) 0 l.length=l.flatMap ui:=wB dK fun _ _=>rfl
 have e:=nN (L:=fun A k=>Jf (l.map nC) (A.map ay) (k:Int)) (F:=fun k=>ui (l.getD k dK)) (n:=l.length) 900000 (A:=A) (fun k hk B hB=>by
  have o2:=ho _ (dw hk);obtain ⟨g3,g4⟩:=hg _ (dw hk);rw[gD hk dK] at hB ⊢;unfold ui at hB;simp only[aP,aY,bG] at hB;rw[aIB,aO (by rw[ak]; omega),aG,FO hk,bT (GV _ _ B (by omega)),bT (kC _ _ (by simp only[aP,aY,bG]; omega)),ak,aRQ (aT' _ o2 g4 _ (by simp only[aP,aY,bG]; omega)),bT (kC _ _ (by simp only[aP,aY,bG]; omega))];dsimp only;rw[bT (IQ g3.1 g3.2 _ (by simp only[aP,aY,bG]; omega)),bT (kC _ _ (by simp only[aP,aY,bG]; omega)),bV (by omega)];congr 2
  unfold ui;rw[bd];simp) (by rw[hc]; exact hA)
 refine (show Jf (l.map nC) (A.map ay) 0=_ from e).trans ?_;rw[hc,aIB,aT (by rw[ak]; omega),aC]
theorem aTX (m:Mo) (ho:kY m) (hg:Eo m) (hA:(lV m).length<=900000):SS.CC 57 [bSF,A0 (aW m)] [aF (dY [])]=GU (lV m):=by
 unfold lV at hA;simp only[aP,aY,bG] at hA;rw[b8W,bT (GV _ _ [] (by decide)),bT (kC _ _ (by simp))];dsimp only;rw[aTP m ho hg _ (by simp only[aP,aY,bG]; omega),aU0 m ho hg _ (by simp only[aP,aY,bG]; omega),aTR m ho _ (by simp only[aP,aY,bG]; omega),aU3 m ho _ (by simp only[aP,aY,bG]; omega),aTU m.ks ho.ks.1 (fun x hx=>(ho.ks.2 x hx).2.1) (fun x hx=>⟨(hg.ks x hx).2.2.1,fun t ht=>((hg.ks x hx).2.2.2 t ht).2⟩) _ (by simp only[aP,aY,bG]; omega)];have e4 : [] ++ [tW (⟨#[109,111,100,101,108]⟩:bSG).data.toList,tW (bs m.n).data.toList] ++ [tS (⟨#[59]⟩:bSG).data.toList] ++ m.es.flatMap xO ++ m.ts.flatMap nV ++ m.cs.flatMap (inT wC) ++ m.rs.flatMap (inT wR) ++ m.xs.flatMap vK ++ m.ks.flatMap ui=lV m:=by unfold lV;rw[bd];simp
 rw[<- e4]
structure nJ where
 d:Nat
 last:Nm
 out:Nm
 fr:Bool
def uz (st:nJ) (s:Nm):nJ:=if s = [125] then ⟨st.d-1,st.last,if st.fr then st.out else st.out ++ [10],true⟩ else st
def qF (st:nJ) (s:Nm):Nm:=(if st.fr then st.out ++ Lib.repeatL [32,32] st.d else if s = [44]\/s = [59]\/s = [41]\/st.last = [40] then st.out else st.out ++ [32]) ++ s
def pend (d:Nat) (s o:Nm):nJ:=if s = [123] then ⟨d+1,s,o ++ [10],true⟩ else if s = [125]\/s = [59] then ⟨d,s,o ++ [10],true⟩ else ⟨d,s,o,false⟩
def ja (st:nJ) (s:Nm):nJ:=pend (uz st s).d s (qF (uz st s) s)
def IW (st:nJ):Nm:=if st.fr then st.out else st.out ++ [10]
theorem aD6 (l:Nm):SS.CC 162 [bSF] [oP (l,())]=some (.tuple [],[oP (l,())]):=QS rfl
theorem wby (c:Int) (l:Nm) (hl:l.length<=1000000000) (h0:0<=c) (h1:c<256):SS.CC 174 [bSF,.int .u8 c] [oP (l,())]=some (.raw .nilIface,[oP (l ++ [UInt8.ofNat c.toNat],())]):=by rw[a_8,aBP (aD6 l)];dsimp only;rw[aO (show l.length+1<=aQ by show _<=1073741824; omega),aO h0,aO h1];rfl
theorem wst (s l:Nm) (hl:l.length+s.length<=1000000000):SS.CC 52 [bSF,.str (bs s)] [oP (l,())]=some (.tuple [bSD (s.length:Int),.raw .nilIface],[oP (l ++ s,())]):=by rw[b7W,aBP (aD6 l)];dsimp only;rw[kG,aO (show l.length+s.length<=aQ by show _<=1073741824; omega),aX rfl,bd]
theorem RU (fr:Bool) (l:Nm) (hl:l.length<=1000000000):SS.CC 173 [bSF,.ptr 1 0] [vZ (fr,()),BJ (l,())]=some (.tuple [],[vZ (true,()),BJ (if fr then l else l ++ [10],())]):=by
 rw[a_7];cases fr with
 | true=>rfl
 | false=>rw[rq,aG,aBL (wby 10 l hl (by decide) (by decide))]; rfl
theorem bKO (k:Nat) (hk:k<=1000000):SS.CC 30 [.str ⟨#[32,32]⟩,bSD (k:Int)] []=some (.str (bs (Lib.repeatL [32,32] k)),[]):=by
 refine QS ?_;show (match decide (0<=(k:Int))&&(Nat.ble (k:Int).toNat 9223372036854775807&&Nat.ble ((⟨#[32,32]⟩:bSG).size*(k:Int).toNat) 140737488355328) with
  | true=>some (PV.str ⟨(Lib.repeatL [32,32] (k:Int).toNat).toArray⟩,([]:aI))
  | false=>none)=_
 rw[aO (by omega),nX,show (⟨#[32,32]⟩:bSG).size=2 from rfl,show Nat.ble k 9223372036854775807=true from VS (by omega),show Nat.ble (2*k) 140737488355328=true from VS (by omega)];rfl
theorem aOJ (k:Nat):(Lib.repeatL ([32,32]:bSI) k).length=2*k:=by rw[Lib.repeatL_length]; simp; omega
theorem Gx (s r:Nm):((bs s).toList==(bs r).toList)=decide (s=r):=aCY s r
theorem a7E (X:bSH) (d:Nat) (hd:d<=100000) (q:Sh.V lS) (s:Nm) (hq:q.2.1=bs s) (o:Nm) (ho:o.length+s.length<=900000000) (fr:Bool) (k:Nat) (hk:k<1000000):FB X o fr q (d:Int) (k:Int)=zM X ((pend d s (o ++ s)).d:Int) (bs (pend d s (o ++ s)).last) ((k+1:Nat):Int) (pend d s (o ++ s)).out (pend d s (o ++ s)).fr:=by
 have hl:(o ++ s).length<=1000000000:=by rw[aP]; omega
 rw[b8Y,hq,aBK (wst s o (by omega)),bV (k:=k) (by omega)];dsimp only;have e1:((bs s).toList==(⟨#[123]⟩:bSG).toList)=decide (s = [123]):=Gx s [123];have e2:((bs s).toList==(⟨#[125]⟩:bSG).toList)=decide (s = [125]):=Gx s [125];have e3:((bs s).toList==(⟨#[59]⟩:bSG).toList)=decide (s = [59]):=Gx s [59];rw[e1,e2,e3];unfold pend;by_cases h1:s = [123]
 .rw[aO h1,aG,aJ h1];refine (Qb (RU false (o ++ s) hl)).trans ?_;rw[bV (k:=d) (by omega)];rfl
 .rw[aT h1,aC,aK h1];by_cases h2:s = [125]
  .rw[aO h2,aG,aJ (.inl h2)];exact Qb (RU false (o ++ s) hl)
  .rw[aT h2,aC];by_cases h3:s = [59]
   .rw[aO h3,aG,aJ (.inr h3)];exact Qb (RU false (o ++ s) hl)
   .rw[aT h3,aC,aK (by rintro (h | h); exact h2 h; exact h3 h)]
theorem aO4 (X:bSH) (st:nJ) (hd:st.d<=100000) (q:Sh.V lS) (s:Nm) (hq:q.2.1=bs s) (ho:st.out.length<=800000000) (hs:s.length<=1000) (k:Nat) (hk:k<1000000):Y8 X st.out st.fr q (st.d:Int) (bs st.last) (k:Int)=zM X ((pend st.d s (qF st s)).d:Int) (bs (pend st.d s (qF st s)).last) ((k+1:Nat):Int) (pend st.d s (qF st s)).out (pend st.d s (qF st s)).fr:=by
 rw[b8X,hq];have e1:((bs s).toList==(⟨#[44]⟩:bSG).toList)=decide (s = [44]):=Gx s [44];have e2:((bs s).toList==(⟨#[59]⟩:bSG).toList)=decide (s = [59]):=Gx s [59];have e3:((bs s).toList==(⟨#[41]⟩:bSG).toList)=decide (s = [41]):=Gx s [41];have e4:((bs st.last).toList==(⟨#[40]⟩:bSG).toList)=decide (st.last = [40]):=Gx st.last [40];rw[e1,e2,e3,e4];unfold qF;cases hf:st.fr with
 | true =>have hr:=aOJ st.d;rw[aG,oO (bKO st.d (by omega)),aJ rfl];refine (aBK (wst _ _ (by omega))).trans ?_;exact a7E X st.d hd q s hq _ (by rw[aP]; omega) true k hk
 | false =>
  rw[aC,aK yx];have yes:∀ (_:s = [44]\/s = [59]\/s = [41]\/st.last = [40]),FB X st.out false q (st.d:Int) (k:Int)=zM X ((pend st.d s ((if s = [44]\/s = [59]\/s = [41]\/st.last = [40] then st.out else st.out ++ [32]) ++ s)).d:Int) (bs (pend st.d s ((if s = [44]\/s = [59]\/s = [41]\/st.last = [40] then st.out else st.out ++ [32]) ++ s)).last) ((k+1:Nat):Int) (pend st.d s ((if s = [44]\/s = [59]\/s = [41]\/st.last = [40] then st.out else st.out ++ [32]) ++ s)).out (pend st.d s ((if s = [44]\/s = [59]\/s = [41]\/st.last = [40] then st.out else st.out ++ [32]) ++ s)).fr:=fun h=>by rw[aJ h];exact a7E X st.d hd q s hq st.out (by omega) false k hk
  by_cases h1:s = [44]
  .rw[aO h1,nG,aC]; exact yes (.inl h1)
  rw[aT h1,rq,aG];by_cases h2:s = [59]
  .rw[aO h2,nG,aC]; exact yes (.inr (.inl h2))
  rw[aT h2,rq,aG];by_cases h3:s = [41]
  .rw[aO h3,nG,aC]; exact yes (.inr (.inr (.inl h3)))
  rw[aT h3,rq,aG];by_cases h4:st.last = [40]
  .rw[aO h4,nG,aC]; exact yes (.inr (.inr (.inr h4)))
  rw[aT h4,rq,aG,aBL (wby 32 _ (by omega) (by decide) (by decide)),aK (by rintro (h | h | h | h); exact h1 h; exact h2 h; exact h3 h; exact h4 h)];exact a7E X st.d hd q s hq _ (by rw[aP]; simp; omega) false k hk
theorem bJG (T:List Tok) (hn:T.length<=900000) {k:Nat} (hk:k<T.length) (st:nJ) (hd:st.d<=100000) (ho:st.out.length<=700000000) (hs:(T[k]).text.length<=1000):zM (T.map ay) (st.d:Int) (bs st.last) (k:Int) st.out st.fr=zM (T.map ay) ((ja st (T[k]).text).d:Int) (bs (ja st (T[k]).text).last) ((k+1:Nat):Int) (ja st (T[k]).text).out (ja st (T[k]).text).fr:=by
 have e2:((bs (T[k]).text).toList==(⟨#[125]⟩:bSG).toList)=decide ((T[k]).text = [125]):=Gx _ [125];rw[aIF,aO (by rw[bM]; omega),aG,U0 hk];rw[show (tk T[k]).2.1=bs (T[k]).text from rfl,e2];unfold ja uz;by_cases h:(T[k]).text = [125]
 .rw[aO h,aG,aJ h];refine (Qb (RU st.fr st.out (by omega))).trans ?_;have hz:(if (0:Int)>i64.wrap ((st.d:Int)-1) then (0:Int) else i64.wrap ((st.d:Int)-1))=((st.d-1:Nat):Int):=by rw[wrap64 (by omega) (by omega)];split<;>omega
  rw[hz];exact aO4 (T.map ay) ⟨st.d-1,st.last,if st.fr then st.out else st.out ++ [10],true⟩ (by show st.d-1<=_; omega) _ _ rfl (by
   show (if st.fr then st.out else st.out ++ [10]).length<=800000000;split
   .omega
   .rw[aP,ru]; omega) hs k (by omega)
 .rw[aT h,aC,aK h];exact aO4 (T.map ay) st hd _ _ rfl (by omega) hs k (by omega)
def dh (st:nJ) (T:List Tok):nJ:=T.foldl (fun st t=>ja st t.text) st
abbrev nS:nJ:=⟨0,[],[],true⟩
theorem bK5 (T:List Tok) {k:Nat} (hk:k<T.length) (st:nJ):dh st (T.take (k+1))=ja (dh st (T.take k)) (T[k]).text:=by unfold dh;rw[Ls hk,a07]; rfl
theorem aO3 (T:List Tok) (hn:T.length<=900000) (hs:∀ t,t∈T->t.text.length<=1000) (hb:∀ k,k<=T.length->(dh nS (T.take k)).d<=100000/\(dh nS (T.take k)).out.length<=700000000):zM (T.map ay) 0 ⟨#[]⟩ 0 [] true=some (.tuple [.str (bs (IW (dh nS T))),bSD 0],[]):=by
 refine jy (n:=T.length) (L:=fun k=>zM (T.map ay) ((dh nS (T.take k)).d:Int) (bs (dh nS (T.take k)).last) (k:Int) (dh nS (T.take k)).out (dh nS (T.take k)).fr) (fun k hk => ?_) ?_
 .have:=hb k (by omega);rw[bK5 T hk];exact bJG T hn hk _ this.1 this.2 (hs _ (dw hk))
 .have:=hb T.length (bW _);rw[nZ (bW _)] at this ⊢;rw[aIF,aT (by rw[bM]; omega),aC];refine (Qb (RU _ _ (by omega))).trans ?_;refine (aRR (s1:=bs (IW (dh nS T))) (y2:=(mF (IW (dh nS T)),())) (QS rfl)).trans rfl
def Kt (ss:List Nm) (t:Tok):Prop:=(∃ s,Gn s/\t=tW s)\/(∃ n,n<=65536/\t=tN n)\/(∃ s,s∈ss/\t=tS s)
def sP:List Nm := [[45],[40],[41],[33],[63],[58],[43],[42],[61,61],[33,61],[60],[60,61],[38,38],[124,124],[44],[46,46],[61],[58,61]]
def sA:List Nm := [59] :: [123] :: [125]::sP
abbrev Pl (T:List Tok):Prop:=∀ t,t∈T->Kt sP t
theorem aPB:∀ s,s∈sA->s∈tV:=by decide
theorem bLO:∀ s,s∈sP->s∈sA:=by decide
theorem aBW {t:Tok} (h:Kt sP t):Kt sA t:=by
 rcases h with h | h | ⟨s,hs,e⟩
 .exact .inl h
 .exact .inr (.inl h)
 .exact .inr (.inr ⟨s,bLO s hs,e⟩)
theorem Qj {t:Tok} (h:Kt sA t):Tv t:=by
 rcases h with ⟨s,hs,rfl⟩ | ⟨n,hn,rfl⟩ | ⟨s,hs,rfl⟩
 .exact bNF hs
 .exact aQU hn
 .exact bNE s (aPB s hs)
theorem bBO {s:Nm} (h:Gn s):s.length<=32:=by unfold Gn nameB at h;simp only[au,iy] at h;exact h.2.2
theorem aBX {t:Tok} (h:Kt sA t):t.text.length<=32:=by
 rcases h with ⟨s,hs,rfl⟩ | ⟨n,hn,rfl⟩ | ⟨s,hs,rfl⟩
 .exact bBO hs
 .exact oM (aDG 4 n (by omega)) (by decide)
 .exact (aA0 s (aPB s hs)).2 |> fun h=>oM h (by decide)
theorem aS4 {t:Tok} (h:Kt sP t):t.text ≠ [123]/\t.text ≠ [125]/\t.text ≠ [59]:=by
 rcases h with ⟨s,hs,rfl⟩ | ⟨n,hn,rfl⟩ | ⟨s,hs,rfl⟩
 .refine ⟨?_,?_,?_⟩<;>(intro e; have e:s=_:=e; subst e; revert hs; decide)
 .have ht:=(aQU hn).2.2.1;refine ⟨?_,?_,?_⟩<;>(intro e; rw[e] at ht; have hk:=(congrArg (fun c=>c.1) ht).trans (show (kw (tN n)).1=2 from rfl); revert hk; decide)
 .revert s; decide
theorem jM {ss:List Nm} {s:Nm} (h:Gn s):Kt ss (tW s) := .inl ⟨s,h,rfl⟩
theorem kz {ss:List Nm} {s:Nm} (h:s∈ss):Kt ss (tS s) := .inr (.inr ⟨s,h,rfl⟩)
theorem Ju {v:Int} (h:R16 v):Pl (fM v):=by
 unfold fM;split
 .intro t ht;simp only[iQ,vP,vV] at ht;rcases ht with rfl | rfl
  .exact kz (by decide)
  .exact .inr (.inl ⟨_,by omega,rfl⟩)
 .intro t ht;simp only[DK] at ht;exact .inr (.inl ⟨_,by omega,ht⟩)
theorem lJ {A B:List Tok} (ha:Pl A) (hb:Pl B):Pl (A ++ B):=fun t ht=>(yA.1 ht).elim (ha t) (hb t)
theorem eX {a:Tok} {B:List Tok} (ha:Kt sP a) (hb:Pl B):Pl (a::B):=fun t ht=>by
 rcases iQ.1 ht with rfl | ht
 .exact ha
 .exact hb t ht
theorem jU:Pl []:=fun t ht=>by cases ht
theorem FZ {x:EX} {need:Int} {B:List Tok} (h:Pl B):Pl (wp x need B):=by
 unfold wp;split
 .exact eX (kz (by decide)) (lJ h (eX (kz (by decide)) jU))
 .exact h
theorem aPS {o:Int} (h:o=2\/o=3\/o=4\/o=6\/o=7\/o=8\/o=9\/o=11\/o=12):zq o∈sP:=by rcases h with rfl | rfl | rfl | rfl | rfl | rfl | rfl | rfl | rfl<;>decide
theorem bJS {ns:List Nm} (hns:∀ s,s∈ns->Gn s) {x:EX} {B:List Tok} (h:PB ns x B):Pl B:=by
 induction h with
 | tt=>exact eX (jM (by decide)) jU
 | ff=>exact eX (jM (by decide)) jU
 | num h0 h1=>exact Ju ⟨h0,h1⟩
 | var hs=>exact eX (jM (hns _ (jq hs))) jU
 | Z8 h0 h1 _ ih=>exact eX (kz (by decide)) (eX (kz (by decide)) (lJ ih (eX (kz (by decide)) jU)))
 | neg _ _ ih=>exact eX (kz (by decide)) (FZ ih)
 | ZB _ ih=>exact eX (kz (by decide)) (FZ ih)
 | cmp ho _ _ _ _ iha ihb=>exact lJ (FZ iha) (eX (kz (aPS (by rcases ho with h | h | h | h<;>simp[h]))) (FZ ihb))
 | bin ho _ _ iha ihb=>exact lJ (FZ iha) (eX (kz (aPS (by rcases ho with ⟨h,_⟩ | ⟨h,_⟩ | ⟨h,_⟩ | ⟨h,_⟩ | ⟨h,_⟩<;>simp[h]))) (FZ ihb))
 | ite _ _ _ TM iha ihb=>exact lJ (FZ TM) (eX (kz (by decide)) (lJ (FZ iha) (eX (kz (by decide)) (FZ ihb))))
theorem bJR {ns:List Nm} (hns:∀ s,s∈ns->Gn s) {x:EX} (h:yC ns.length x):Pl (yJ ns x):=bJS hns (XB h).1
theorem UQ {s:Tok} (hs:Kt sP s):∀ {l:List (List Tok)},(∀ T,T∈l->Pl T)->Pl (jP s l)
 | [],_=>jU
 | [a],h=>h a (by simp)
 | a::b::l,h=>lJ (h a (by simp)) (eX hs (UQ hs fun T hT=>h T (by simp[hT])))
theorem aO7 {l:List Nm} (h:∀ s,s∈l->Gn s):Pl (xZ l):=eX (kz (by decide)) (lJ (UQ (kz (by decide)) fun T hT=>by obtain ⟨s,hs,rfl⟩:=qL.1 hT;exact eX (jM (h s hs)) jU) (eX (kz (by decide)) jU))
inductive xG:List Tok->Prop
 | mk {X:List Tok}:Pl X->X ≠ []->xG (X ++ [tS [59]])
inductive Sts:List Tok->Prop
 | nil:Sts []
 | cons {X T:List Tok}:xG X->Sts T->Sts (X ++ T)
inductive rC:List Tok->Prop
 | nil:rC []
 | Um {X T:List Tok}:xG X->rC T->rC (X ++ T)
 | Us {X B T:List Tok}:Pl X->X ≠ []->Sts B->rC T->rC (X ++ [tS [123]] ++ B ++ [tS [125]] ++ T)
theorem aQI {A B:List Tok} (ha:Sts A) (hb:Sts B):Sts (A ++ B):=by
 induction ha with
 | nil=>exact hb
 | cons h _ ih=>rw[jc]; exact .cons h ih
theorem LK {A B:List Tok} (ha:rC A) (hb:rC B):rC (A ++ B):=by
 induction ha with
 | nil=>exact hb
 | Um h _ ih=>rw[jc]; exact .Um h ih
 | Us h h2 h3 _ ih =>have:=rC.Us h h2 h3 ih;simpa only[jc] using this
theorem a9Z {α:Type} {f:α->List Tok}:∀ {l:List α},(∀ x,x∈l->xG (f x))->Sts (l.flatMap f)
 | [],_ => .nil
 | a::l,h=>by rw[VM]; exact .cons (h a (by simp)) (a9Z fun x hx=>h x (by simp[hx]))
theorem LM {α:Type} {f:α->List Tok}:∀ {l:List α},(∀ x,x∈l->rC (f x))->rC (l.flatMap f)
 | [],_ => .nil
 | a::l,h=>by rw[VM]; exact LK (h a (by simp)) (LM fun x hx=>h x (by simp[hx]))
theorem PX {X:List Tok} (h:xG X):rC X:=by have:=rC.Um h .nil;rwa [zy] at this
theorem Ii {X Y:List Tok} (e:Y=X ++ [tS [59]]) (h:Pl X) (h2:X ≠ []):xG Y:=e ▸ .mk h h2
theorem bME {e:sH} (h:Gn e.n) (h0:0<=e.k/\e.k<=4):xG (xO e):=by
 refine Ii rfl ?_ (by simp);refine lJ (lJ (lJ (lJ (eX (jM (by decide)) (eX (jM h) jU)) ?_) ?_) ?_) ?_
 .split
  .exact eX (jM (by decide)) jU
  .exact jU
 .split
  .exact eX (jM (by decide)) jU
  .exact jU
 .split
  .exact eX (jM (by decide)) jU
  .exact jU
 .split
  .exact jU
  .exact eX (jM (by decide)) (Ju ⟨by omega,by omega⟩)
theorem bMF {I:Int} {mr:List Int} {i:Nat} {s:Nm} (h:Gn s):xG (Ac I mr i s):=by
 refine Ii rfl ?_ (by simp);refine lJ (lJ (eX (jM (by decide)) (eX (jM h) jU)) ?_) ?_
 .split
  .exact eX (jM (by decide)) jU
  .exact jU
 .split
  .exact eX (jM (by decide)) jU
  .exact jU
theorem aQJ {I:Int} {mr:List Int}:∀ {l:List Nm} {i:Nat},(∀ s,s∈l->Gn s)->Sts (Ad I mr i l)
 | [],_,_ => .nil
 | s::l,i,h => .cons (bMF (h s (by simp))) (aQJ fun s hs=>h s (by simp[hs]))
theorem bMH {v:Vr} (h:Gn v.n/\R16 v.lo/\R16 v.hi/\R16 v.i):xG (uM v):=by refine Ii rfl ?_ (by simp);exact lJ (lJ (lJ (lJ (lJ (eX (jM (by decide)) (eX (jM h.1) (eX (kz (by decide)) jU))) (Ju h.2.1)) (eX (kz (by decide)) jU)) (Ju h.2.2.1)) (eX (kz (by decide)) jU)) (Ju h.2.2.2)
theorem YO {l:List Nm} (h:∀ s,s∈l->Gn s) {i:Int} (h0:0<=i) (h1:i<l.length):Gn (l.getD i.toNat []):=by
 have:i.toNat<l.length:=by omega
 rw[gD this];exact h _ (dw this)
theorem bMG {t:Tm} (hg:DR t) {x:Mv} (h:a0I t x):xG (qC t x):=by
 have hv:∀ s,s∈t.vs.map (·.n)->Gn s:=fun s hs=>by obtain ⟨v,hv,rfl⟩:=qL.1 hs;exact (hg.vs v hv).1
 have hx:∀ {y:EX},yC t.vs.length y->Pl (yJ (t.vs.map (·.n)) y):=fun hy=>bJR hv (by rw[Iq]; exact hy)
 refine Ii rfl ?_ (by simp);refine lJ (lJ (eX (jM (by decide)) (eX (jM (YO hg.ls h.f.1 h.f.2)) (eX (jM (YO hg.es h.e.1 h.e.2)) (eX (jM (YO hg.ls h.d.1 h.d.2)) jU)))) ?_) ?_
 .split
  .exact jU
  .exact eX (jM (by decide)) (hx h.g)
 .split
  .exact jU
  .refine eX (jM (by decide)) (UQ (kz (by decide)) fun T hT => ?_);obtain ⟨u,hu,rfl⟩:=qL.1 hT;obtain ⟨⟨u0,u1⟩,u2⟩:=h.us u hu;exact lJ (eX (jM (YO hv u0 (by rw[Iq]; exact u1))) (eX (kz (by decide)) jU)) (hx u2)
theorem bN8 {t:Tm} (hn:Gn t.n) (hg:DR t):rC (nV t):=by
 have hb:Sts (Ad t.I t.mr 0 t.ls ++ t.vs.flatMap uM ++ t.ms.flatMap (qC t)):=aQI (aQI (aQJ hg.ls) (a9Z fun v hv=>bMH (hg.vs v hv))) (a9Z fun x hx=>bMG hg (hg.ms x hx));have:=rC.Us (X := [tW [116,101,109,112,108,97,116,101],tW t.n] ++ xZ t.es) (lJ (eX (jM (by decide)) (eX (jM hn) jU)) (aO7 hg.es)) (by simp) hb .nil;have e:nV t = [tW [116,101,109,112,108,97,116,101],tW t.n] ++ xZ t.es ++ [tS [123]] ++ (Ad t.I t.mr 0 t.ls ++ t.vs.flatMap uM ++ t.ms.flatMap (qC t)) ++ [tS [125]] ++ []:=by unfold nV;simp
 rw[e]; exact this
theorem aQF {w:Nm} (hw:Gn w) {x:Ins} (h:Gn x.n/\Gn x.t/\∀ s,s∈x.es->Gn s):xG (inT w x):=by refine Ii rfl ?_ (by simp);exact lJ (eX (jM hw) (eX (jM h.1) (eX (kz (by decide)) (eX (jM h.2.1) jU)))) (aO7 h.2.2)
theorem bMI {x:vX} (h:Gn x.n/\x.ls ≠ []/\∀ l,l∈x.ls->Gn l.1/\Gn l.2):xG (vK x):=by refine Ii rfl ?_ (by simp);refine lJ (eX (jM (by decide)) (eX (jM h.1) (eX (kz (by decide)) jU))) (UQ (kz (by decide)) fun T hT => ?_);obtain ⟨l,hl,rfl⟩:=qL.1 hT;have:=h.2.2 l hl;exact eX (jM this.1) (eX (jM this.2) jU)
theorem bMD {x:Cst} (h:Gn x.n/\x.ts ≠ []/\R16 x.b/\∀ l,l∈x.ts->Gn l.1/\R16 l.2):xG (ui x):=by refine Ii rfl ?_ (by simp);refine lJ (lJ (lJ (eX (jM (by decide)) (eX (jM h.1) (eX (kz (by decide)) jU))) (UQ (kz (by decide)) fun T hT => ?_)) (eX (kz (by decide)) jU)) (Ju h.2.2.1);obtain ⟨l,hl,rfl⟩:=qL.1 hT;have:=h.2.2.2 l hl;exact lJ (Ju this.2) (eX (kz (by decide)) (eX (jM this.1) jU))
theorem Zw {m:Mo} (hg:Eo m):rC (lV m):=by unfold lV;refine LK (LK (LK (LK (LK (LK (PX ?_) (LM fun e he=>PX (bME (hg.es e he).1 (hg.es e he).2))) (LM fun t ht=>bN8 (hg.ts t ht).1 (hg.ts t ht).2)) (LM fun x hx=>PX (aQF (by decide) (hg.is x (a0A _ hx))))) (LM fun x hx=>PX (aQF (by decide) (hg.is x (aB7 _ hx))))) (LM fun x hx=>PX (bMI (hg.xs x hx)))) (LM fun x hx=>PX (bMD (hg.ks x hx)));exact Ii (X := [tW [109,111,100,101,108],tW m.n]) rfl (eX (jM (by decide)) (eX (jM hg.n) jU)) (by simp)
def jw:List Tok->Nat
 | []=>0
 | t::T=>t.text.length+1+jw T
theorem I4:∀ A B:List Tok,jw (A ++ B)=jw A+jw B
 | [],B=>by rw[Gf,jw,kW]
 | a::A,B=>by rw[lM,jw,jw,I4 A B]; omega
theorem Jr:∀ T:List Tok,T ≠ []->(joinL T).length+1=jw T
 | [],h=>absurd rfl h
 | [t],_=>rfl
 | t::u::l,_=>by have:=Jr (u::l) (by simp);rw[joinL,aP,aY,jw,<- this]; omega
theorem OL:∀ T:List Tok,T.length<=jw T
 | []=>bW _
 | t::T=>by have:=OL T; rw[aY,jw]; omega
def phi (st:nJ):Nat:=st.out.length+(if st.fr then 2 else 0)
theorem Fe (st:nJ) (A B:List Tok):dh st (A ++ B)=dh (dh st A) B:=a07
theorem a7L (st:nJ) (s:Nm) (hd:st.d<=1):(qF st s).length<=phi st+s.length+(if st.fr then 0 else 1)/\st.out.length<=(qF st s).length:=by
 have hr:=aOJ st.d;unfold qF phi;cases st.fr with
 | true =>rw[aJ rfl,aJ rfl,aJ rfl,aP,aP];omega
 | false =>
  rw[aK yx,aK yx,aK yx,aP];split
  .omega
  .rw[aP,ru]; omega
theorem a9E:∀ {X:List Tok} {st:nJ},Pl X->st.d<=1->(dh st X).d=st.d/\phi (dh st X)<=phi st+jw X/\(X ≠ []->(dh st X).fr=false)
 | [],st,_,_=>⟨rfl,by show phi st<=_; omega,fun h=>absurd rfl h⟩
 | t::X,st,h,hd=>by
  obtain ⟨n1,n2,n3⟩:=aS4 (h t (by simp));have e:ja st t.text=⟨st.d,t.text,qF st t.text,false⟩:=by unfold ja uz pend;rw[aK n2,aK n1,aK (by rintro (c | c); exact n2 c; exact n3 c)]
  have e2:dh st (t::X)=dh ⟨st.d,t.text,qF st t.text,false⟩ X:=by show dh (ja st t.text) X=_;rw[e]
  have hp:=(a7L st t.text hd).1;obtain ⟨r1,r2,r3⟩:=a9E (X:=X) (st:=⟨st.d,t.text,qF st t.text,false⟩) (fun u hu=>h u (by simp[hu])) hd;rw[e2];refine ⟨r1,?_,fun _ => ?_⟩
  .have hq:phi ⟨st.d,t.text,qF st t.text,false⟩=(qF st t.text).length:=by unfold phi; simp
   rw[hq] at r2;rw[jw];cases hf:st.fr<;>rw[hf] at hp<;>simp at hp<;>omega
  .by_cases hX:X = []
   .subst hX; rfl
   .exact r3 hX
theorem bL9 {st:nJ} (hd:st.d<=1):(ja st [59]).d=st.d/\phi (ja st [59])<=phi st+4/\(ja st [59]).fr=true:=by
 have hp:=(a7L st [59] hd).1;have e:ja st [59]=⟨st.d,[59],qF st [59] ++ [10],true⟩:=by unfold ja uz pend;simp
 have hq:st.fr=false->(qF st [59]).length=st.out.length+1:=fun hf=>by unfold qF;rw[aK (by rw[hf]; exact yx),aJ (.inr (.inl rfl)),aP]; rfl
 rw[e];refine ⟨rfl,?_,rfl⟩;unfold phi;simp only[aP,ru,aJ];cases hf:st.fr with
 | true=>rw[hf] at hp; unfold phi at hp; rw[hf] at hp; simp at hp ⊢; omega
 | false=>have:=hq hf; simp; omega
theorem aP0 {T:List Tok} (h:xG T) {st:nJ} (hd:st.d<=1):(dh st T).d=st.d/\phi (dh st T)<=phi st+2*jw T/\(dh st T).fr=true:=by
 cases h with
 | @mk X hX hne =>
  obtain ⟨r1,r2,_⟩:=a9E (st:=st) hX hd;obtain ⟨s1,s2,s3⟩:=bL9 (st:=dh st X) (by omega);have e:dh st (X ++ [tS [59]])=ja (dh st X) [59]:=by rw[Fe]; rfl
  have hj:jw (X ++ [tS [59]])=jw X+2:=by rw[I4]; rfl
  rw[e,hj];exact ⟨by omega,by omega,s3⟩
theorem bLA {T:List Tok} (h:Sts T):∀ {st:nJ},st.d<=1->st.fr=true->(dh st T).d=st.d/\phi (dh st T)<=phi st+2*jw T/\(dh st T).fr=true:=by
 induction h with
 | nil=>intro st _ hf; exact ⟨rfl,by show phi st<=_; omega,hf⟩
 | cons hX _ ih =>intro st hd hf;obtain ⟨r1,r2,r3⟩:=aP0 hX hd;obtain ⟨s1,s2,s3⟩:=ih (st:=dh st _) (by omega) r3;rw[Fe,I4];exact ⟨by omega,by omega,s3⟩
theorem aP1 {T:List Tok} (h:rC T):∀ {st:nJ},st.d=0->st.fr=true->(dh st T).d=0/\phi (dh st T)<=phi st+2*jw T/\(dh st T).fr=true:=by
 induction h with
 | nil=>intro st hd hf; exact ⟨hd,by show phi st<=_; omega,hf⟩
 | Um hX _ ih =>intro st hd hf;obtain ⟨r1,r2,r3⟩:=aP0 hX (st:=st) (by omega);obtain ⟨s1,s2,s3⟩:=ih (st:=dh st _) (by omega) r3;rw[Fe,I4];exact ⟨by omega,by omega,s3⟩
 | @Us X B T hX hne hB _ ih =>
  intro st hd hf;obtain ⟨r1,r2,r3⟩:=a9E (st:=st) hX (by omega);have r3:=r3 hne;have p1:=(a7L (dh st X) [123] (by omega)).1;have e1:ja (dh st X) [123]=⟨1,[123],qF (dh st X) [123] ++ [10],true⟩:=by unfold ja uz pend;simp[r1,hd]
  have f1:phi (ja (dh st X) [123])<=phi (dh st X)+5:=by rw[e1];unfold phi;rw[r3] at p1;simp only[aP,ru,aJ];unfold phi at p1;rw[r3] at p1 ⊢;simp at p1 ⊢;omega
  obtain ⟨b1,b2,b3⟩:=bLA hB (st:=ja (dh st X) [123]) (by rw[e1]; exact bW _) (by rw[e1]);generalize hS:dh (ja (dh st X) [123]) B=S at b1 b2 b3;have hS1:S.d=1:=by rw[b1,e1]
  have e2:ja S [125]=⟨0,[125],S.out ++ [125] ++ [10],true⟩:=by
   have hp:uz S [125]=⟨0,S.last,S.out,true⟩:=by unfold uz; simp[hS1,b3]
   unfold ja;rw[hp];unfold pend qF;simp[Lib.repeatL]
  have f2:phi (ja S [125])<=phi S+2:=by rw[e2];unfold phi;rw[b3];simp
  obtain ⟨s1,s2,s3⟩:=ih (st:=ja S [125]) (by rw[e2]) (by rw[e2]);have e:dh st (X ++ [tS [123]] ++ B ++ [tS [125]] ++ T)=dh (ja S [125]) T:=by rw[Fe,Fe,Fe,Fe];show dh (ja (dh (ja (dh st X) [123]) B) [125]) T=_;rw[hS]
  have hj:jw (X ++ [tS [123]] ++ B ++ [tS [125]] ++ T)=jw X+2+jw B+2+jw T:=by rw[I4,I4,I4,I4]; rfl
  rw[e,hj];exact ⟨s1,by omega,s3⟩
theorem bMB (st:nJ) (s:Nm):st.out.length<=(ja st s).out.length/\(ja st s).d<=st.d+1:=by
 have h1:st.out.length<=(uz st s).out.length/\(uz st s).d<=st.d:=by
  unfold uz;split
  .refine ⟨?_,by show st.d-1<=_; omega⟩;show _<=(if st.fr then st.out else st.out ++ [10]).length;split
   .omega
   .rw[aP]; omega
  .exact ⟨bW _,bW _⟩
 have h2:(uz st s).out.length<=(qF (uz st s) s).length:=by
  unfold qF;split
  .rw[aP,aP]; omega
  .rw[aP];split
   .omega
   .rw[aP]; omega
 unfold ja pend;split
 .exact ⟨by rw[aP]; omega,by show (uz st s).d+1<=_; omega⟩
 .split
  .exact ⟨by rw[aP]; omega,by show (uz st s).d<=_; omega⟩
  .exact ⟨by show _<=(qF (uz st s) s).length; omega,by show (uz st s).d<=_; omega⟩
theorem Uf:∀ (T:List Tok) (st:nJ),st.out.length<=(dh st T).out.length/\(dh st T).d<=st.d+T.length
 | [],st=>⟨bW _,bW _⟩
 | t::T,st=>by have h1:=bMB st t.text;have h2:=Uf T (ja st t.text);show st.out.length<=(dh (ja st t.text) T).out.length/\(dh (ja st t.text) T).d<=st.d+(T.length+1);omega
theorem aOE {A B:List Tok} (h:A.map (·.text)=B.map (·.text)) (st:nJ):dh st A=dh st B:=by
 have e:∀ (T:List Tok) (st:nJ),dh st T=(T.map (·.text)).foldl ja st:=fun T st=>by unfold dh; rw[List.foldl_map]
 rw[e,e,h]
theorem aKG {T:List Tok} (hne:T ≠ []) (ht:∀ t,t∈T->Tv t) (hl:(joinL T).length<=65536):SS.CC 114 [.sl false 5 (T.map ay)] []=some (.tuple [.str (bs (joinL T)),bSD 0],[]):=by
 have hn:T.length<=65537:=by have:=OL T; have:=Jr T hne; omega
 obtain ⟨T',e,h1,h2,h3⟩:=aPH hne ht hl;have hk:∀ t,t∈T->t.kind≠4:=fun t h=>(ht t h).2.2.2
 have hk':=aDF h2 hk;have hl':T'.length=T.length:=by have:=congrArg List.length h2; simpa using this
 have Hu:SS.CC 99 [.str (bs (joinL T))] []=some (.tuple [.sl false 5 ((T' ++ [e]).map ay),bSD 0,bSD 0,bSD 0],[]):=by
  have:SS.CC 99 [.str (bs (joinL T))] []=some (Cc (rX (joinL T)),[]):=by rw[J5 dZ]; rfl
  rw[this,h1]; rfl
 have hb:rD (T' ++ [e])=T':=by rw[a0V,JF hk',WI h3]; simp[rD]
 rw[a2F,J8 (m32 T (by omega)),JF hk];have:=aKD T (by omega) T.length 0 (by omega);rw[show ((0:Nat):Int)=0 from rfl,List.take_zero,QC] at this;rw[this,aF1,aT (by rw[bM]; omega),aC,oO (sjc T (by omega) (by omega)),VX Hu];dsimp only;rw[ug rfl,aC,J8 (m32 (T' ++ [e]) (by rw[aP,ru]; omega)),hb,bF (aVI T T' (by omega) h2)];rfl
theorem bK3 {T:List Tok} (hne:T ≠ []) (ht:∀ t,t∈T->Kt sA t) (hT:rC T) (hl:(joinL T).length<=30000):SS.CC 58 [.sl false 5 (T.map ay)] []=some (.tuple [.str (bs (IW (dh nS T))),bSD 0],[])/\(IW (dh nS T)).length<=65536:=by
 have hj:=Jr T hne;have hn:=OL T;obtain ⟨r1,r2,r3⟩:=aP1 hT (st:=nS) rfl rfl;have bCP:phi nS=2:=rfl;have ho:(dh nS T).out.length<=65536:=by unfold phi at r2; rw[r3] at r2; simp at r2; omega
 have hk:∀ t,t∈T->t.kind≠4:=fun t h=>(Qj (ht t h)).2.2.2
 have hb:rD T=T:=JF hk;refine ⟨?_,by unfold IW; rw[r3]; exact ho⟩;rw[aIG,QW (aKG hne (fun t h=>Qj (ht t h)) (by omega))];dsimp only;rw[ug rfl,aC,J8 (m32 T (by omega)),hb];refine aO3 T (by omega) (fun t h=>oM (aBX (ht t h)) (by decide)) fun k hk => ?_
 have m1:=Uf (T.take k) nS;have m2:=Uf (T.drop k) (dh nS (T.take k));rw[<- Fe,QE] at m2;have:(T.take k).length<=T.length:=by rw[nY]; omega
 have hd0:nS.d=0:=rfl;exact ⟨by omega,by omega⟩
theorem bDN {U T:List Tok} (hU:rD U=T) (hUn:U.length<=900000) (hne:T ≠ []) (ht:∀ t,t∈T->Tv t) (hl:(joinL T).length<=65536):SS.CC 114 [.sl false 5 (U.map ay)] []=some (.tuple [.str (bs (joinL T)),bSD 0],[]):=by
 have e:=aKG hne ht hl;have hk:∀ t,t∈T->t.kind≠4:=fun t h=>(ht t h).2.2.2
 have hn:T.length<=65537:=by have:=OL T; have:=Jr T hne; omega
 rw[a2F,J8 (m32 T (by omega)),JF hk] at e;rw[a2F,J8 (m32 U (by omega)),hU];exact e
theorem bND {T T':List Tok} (h:T'.map kw=T.map kw) (ht:∀ t,t∈T->Tv t):∀ t,t∈T'->Tv t:=fun t' hm=>by
 have:kw t'∈T.map kw:=by rw[<- h]; exact aB8 hm
 obtain ⟨t,hm2,e⟩:=qL.1 this;obtain ⟨a,b,c,d⟩:=ht t hm2;have e1:t'.text=t.text:=(congrArg (fun c=>c.2.1) e).symm;have e2:t'.kind=t.kind:=(congrArg (fun c=>c.1) e).symm;exact ⟨by rw[e1]; exact a,by rw[e1]; exact b,by rw[e1]; exact c.trans e,by rw[e2]; exact d⟩
theorem aUS {T T':List Tok} (h:T'.map kw=T.map kw):T'.map (·.text)=T.map (·.text):=by have:=congrArg (List.map fun c:Int×bSI×Int=>c.2.1) h;rw[Lp,Lp] at this;exact this
theorem aKF:∀ {A B:List Tok},A.map (·.text)=B.map (·.text)->joinL A=joinL B
 | [],[],_=>rfl
 | [],_::_,h=>by cases h
 | _::_,[],h=>by cases h
 | [a],[b],h=>by injection h
 | [_],_::_::_,h=>by injection h with _ h; cases h
 | _::_::_,[_],h=>by injection h with _ h; cases h
 | a::a2::A,b::b2::B,h=>by
  injection h with h1 h2
  rw[joinL,joinL,aKF (A:=a2::A) (B:=b2::B) h2,show a.text=b.text from h1]
theorem bK2 {U T T0:List Tok} (hU:rD U=T) (hUn:U.length<=900000) (hc:T.map kw=T0.map kw) (hne:T0 ≠ []) (ht:∀ t,t∈T0->Kt sA t) (hT:rC T0) (hl:(joinL T0).length<=30000):SS.CC 58 [.sl false 5 (U.map ay)] []=some (.tuple [.str (bs (IW (dh nS T0))),bSD 0],[]):=by
 have hx:=aUS hc;have hj:joinL T=joinL T0:=aKF hx;have hlen:T.length=T0.length:=by have:=congrArg List.length hc; simpa using this
 have hne':T ≠ []:=fun h=>hne (List.length_eq_zero_iff.1 (by rw[<- hlen,h]; rfl))
 have htv:∀ t,t∈T->Tv t:=bND hc fun t h=>Qj (ht t h)
 have hn:T0.length<=30001:=by have:=OL T0; have:=Jr T0 hne; omega
 have bCW:∀ t,t∈T->t.text.length<=1000:=fun t' hm=>by
  have:t'.text∈T0.map (·.text):=by rw[<- hx]; exact aB8 hm
  obtain ⟨t,hm2,e⟩:=qL.1 this;rw[<- e];exact oM (aBX (ht t hm2)) (by decide)
 obtain ⟨r1,r2,r3⟩:=aP1 hT (st:=nS) rfl rfl;have bCP:phi nS=2:=rfl;have hjw:=Jr T0 hne;have ho:(dh nS T0).out.length<=65536:=by unfold phi at r2; rw[r3] at r2; simp at r2; omega
 rw[aIG,QW (bDN hU hUn hne' htv (by rw[hj]; omega))];dsimp only;rw[ug rfl,aC,J8 (m32 U (by omega)),hU,<- aOE hx];refine aO3 T (by omega) bCW fun k hk => ?_
 have m1:=Uf (T.take k) nS;have m2:=Uf (T.drop k) (dh nS (T.take k));rw[<- Fe,QE,aOE hx] at m2;have:(T.take k).length<=T.length:=by rw[nY]; omega
 have hd0:nS.d=0:=rfl;exact ⟨by omega,by omega⟩
theorem aKY {T:List Tok} (h:xG T):∀ t,t∈T->Kt sA t:=by
 cases h with
 | mk hX _ =>
  intro t ht;rcases yA.1 ht with ht | ht
  .exact aBW (hX t ht)
  .rw[DK] at ht; rw[ht]; exact kz (by decide)
theorem bF0 {T:List Tok} (h:Sts T):∀ t,t∈T->Kt sA t:=by
 induction h with
 | nil=>intro t ht; cases ht
 | cons hX _ ih =>
  intro t ht;rcases yA.1 ht with ht | ht
  .exact aKY hX t ht
  .exact ih t ht
theorem aKZ {T:List Tok} (h:rC T):∀ t,t∈T->Kt sA t:=by
 induction h with
 | nil=>intro t ht; cases ht
 | Um hX _ ih =>
  intro t ht;rcases yA.1 ht with ht | ht
  .exact aKY hX t ht
  .exact ih t ht
 | Us hX _ hB _ ih =>
  intro t ht;simp only[yA,DK] at ht;rcases ht with (((ht | ht) | ht) | ht) | ht
  .exact aBW (hX t ht)
  .rw[ht]; exact kz (by decide)
  .exact bF0 hB t ht
  .rw[ht]; exact kz (by decide)
  .exact ih t ht
theorem Z7 (m:Mo):lV m ≠ []:=by unfold lV; simp
def txM (m:Mo):Nm:=IW (dh nS (lV m))
theorem aMM {m:Mo} (hl:(joinL (lV m)).length<=30000):(lV m).length<=30001:=by have:=OL (lV m); have:=Jr (lV m) (Z7 m); omega
theorem bMX {m:Mo} (ho:kY m) (h2:m.cs.length+m.rs.length<=1000) (hc:Ba m=0) (hl:(joinL (lV m)).length<=30000):SS.CC 19 [A0 (aW m)] []=some (.str (bs (txM m)),[]):=by
 have hg:=aIY ho hc;have hn:=aMM hl;have ht:=aKZ (Zw hg);obtain ⟨T',e,h1,h2',h3⟩:=aPH (Z7 m) (fun t h=>Qj (ht t h)) (by omega);have Hu:SS.CC 99 [.str (bs (joinL (lV m)))] []=some (.tuple [.sl false 5 ((T' ++ [e]).map ay),bSD 0,bSD 0,bSD 0],[]):=by
  have:SS.CC 99 [.str (bs (joinL (lV m)))] []=some (Cc (rX (joinL (lV m))),[]):=by rw[J5 dZ]; rfl
  rw[this,h1]; rfl
 have hk':=aDF h2' fun t h=>(Qj (ht t h)).2.2.2
 have hb:rD (T' ++ [e])=T':=by rw[a0V,JF hk',WI h3]; simp[rD]
 have hl':T'.length=(lV m).length:=by have:=congrArg List.length h2'; simpa using this
 rw[b0H,xC (bOK m ho hg h2 (by omega))];refine (oO (sjc (lV m) (by omega) (by omega))).trans ?_;rw[VX Hu];dsimp only;rw[QW (bK2 hb (by rw[aP,ru]; omega) h2' (Z7 m) ht (Zw hg) hl)];rfl
theorem bK4 {m:Mo} (ho:kY m) (h2:m.cs.length+m.rs.length<=1000) (hc:Ba m=0) (hl:(joinL (lV m)).length<=30000):SS.CC 17 [A0 (aW m)] []=some (.tuple [.str (bs (txM m)),bSD 0],[]):=by have hg:=aIY ho hc;have hn:=aMM hl;have ht:=aKZ (Zw hg);have hp:=bK3 (Z7 m) ht (Zw hg) hl;have c57:=aTX m ho hg (by omega);rw[a_H,bf (aDC m ho h2),hc,ug rfl,aC];refine (bT c57).trans ?_;rw[QW hp.1];dsimp only;rw[ug rfl,aC,kG,aT (by have:=hp.2; omega),aC];rfl
theorem QY {g:FuncId} {a:bSH} {x1:Sh.V S0} {n2:Int} {n3:Int} {n4:Int} {K:RS.F (.t [(true,S0),(false,[.I .i64]),(false,[.I .i64]),(false,[.I .i64])]) R} (e:SS.CC g a []=some (.tuple [A0 x1,bSD n2,bSD n3,bSD n4],[])):G9 g a K=K (x1,(n2,()),(n3,()),(n4,()),()):=wE e rfl
theorem aRJ {g:FuncId} {a:bSH} {n1:bSG} {n2:Int} {n3:Int} {n4:Int} {K:RS.F (.t [(false,[.S]),(false,[.I .i64]),(false,[.I .i64]),(false,[.I .i64])]) R} (e:SS.CC g a []=some (.tuple [.str n1,bSD n2,bSD n3,bSD n4],[])):G10 g a K=K ((n1,()),(n2,()),(n3,()),(n4,()),()):=wE e rfl
theorem Gi {g:FuncId} {a:bSH} {h:aI} {b1:Bool} {y2:Sh.V jI} {y3:Sh.V aH} {K:RS.F (.tb) (fD [.c jI,.c aH])} (e:SS.CC g a h=some (.bool b1,[kE y2,aB y3])):Qa g a h K=K b1 y2 y3:=gm e rfl
theorem JA {g:FuncId} {a:bSH} {h:aI} {y1:Sh.V jv} {y2:Sh.V jS} {y3:Sh.V aH} {K:RS.F (.t []) (fD [.c jv,.c jS,.c aH])} (e:SS.CC g a h=some (.tuple [],[fB y1,bZ y2,aB y3])):J9 g a h K=K () y1 y2 y3:=gm e rfl
theorem aBJ {g:FuncId} {a:bSH} {h:aI} {b1:Bool} {K:RS.F (.tb) (fD [.z Vh])} (e:SS.CC g a h=some (.bool b1,[some [.func (.func 134) [] []]])):H27 g a h K=K b1:=gm e rfl
theorem Qd {g:FuncId} {a:bSH} {h:aI} {b1:Bool} {y2:Sh.V dA} {y3:Sh.V aH} {K:RS.F (.tb) (fD [.c dA,.c aH])} (e:SS.CC g a h=some (.bool b1,[bP y2,aB y3])):Qc g a h K=K b1 y2 y3:=gm e rfl
theorem VY {g:FuncId} {a:bSH} {h:aI} {y1:Sh.V dA} {y2:Sh.V aH} {K:RS.F (.t []) (fD [.c dA,.c aH])} (e:SS.CC g a h=some (.tuple [],[bP y1,aB y2])):ML g a h K=K () y1 y2:=gm e rfl
theorem Qe {g:FuncId} {a:bSH} {h:aI} {y1:Sh.V BL} {y2:Sh.V jS} {y3:Sh.V aH} {K:RS.F (.t []) (fD [.z kF,.z jD,.c BL,.c jS,.c aH])} (e:SS.CC g a h=some (.tuple [],[some [.ptr 2 0],some [.ptr 3 0],mD y1,bZ y2,aB y3])):JB g a h K=K () y1 y2 y3:=gm e rfl
theorem Qg {g:FuncId} {a:bSH} {h:aI} {b1:Bool} {y2:Sh.V AL} {y3:Sh.V aH} {K:RS.F (.tb) (fD [.z nz,.c AL,.c aH])} (e:SS.CC g a h=some (.bool b1,[some [.ptr 1 0],BK y2,aB y3])):MM g a h K=K b1 y2 y3:=gm e rfl
theorem aRW {g:FuncId} {a:bSH} {h:aI} {x1:Sh.V S8} {y2:Sh.V qw} {y3:Sh.V aH} {K:RS.F (.g S8) (fD [.c qw,.c aH])} (e:SS.CC g a h=some (A8 x1,[uV y2,aB y3])):kL g a h K=K x1 y2 y3:=gm e rfl
theorem VZ {g:FuncId} {a:bSH} {h:aI} {x1:Sh.V S8} {y2:Sh.V dA} {y3:Sh.V aH} {K:RS.F (.g S8) (fD [.c dA,.c aH])} (e:SS.CC g a h=some (A8 x1,[bP y2,aB y3])):Ep g a h K=K x1 y2 y3:=gm e rfl
theorem aRX {g:FuncId} {a:bSH} {h:aI} {x1:Sh.V S8} {y2:Sh.V qx} {y3:Sh.V aH} {K:RS.F (.g S8) (fD [.c qx,.c aH])} (e:SS.CC g a h=some (A8 x1,[uX y2,aB y3])):H60 g a h K=K x1 y2 y3:=gm e rfl
theorem Va {g:FuncId} {a:bSH} {h:aI} {s1:bSG} {y2:Sh.V dA} {y3:Sh.V aH} {K:RS.F (.ts) (fD [.c dA,.c aH])} (e:SS.CC g a h=some (.str s1,[bP y2,aB y3])):JC g a h K=K s1 y2 y3:=gm e rfl
theorem aBS {g:FuncId} {a:bSH} {h:aI} {n1:Int} {y2:Sh.V dA} {y3:Sh.V aH} {K:RS.F (.ti .i64) (fD [.c dA,.c aH])} (e:SS.CC g a h=some (bSD n1,[bP y2,aB y3])):H72 g a h K=K n1 y2 y3:=gm e rfl
theorem aRZ {g:FuncId} {a:bSH} {h:aI} {s1:bSG} {y2:Sh.V qw} {y3:Sh.V aH} {K:RS.F (.ts) (fD [.c qw,.c aH])} (e:SS.CC g a h=some (.str s1,[uV y2,aB y3])):H73 g a h K=K s1 y2 y3:=gm e rfl
theorem aR' {g:FuncId} {a:bSH} {h:aI} {s1:bSG} {y2:Sh.V qx} {y3:Sh.V aH} {K:RS.F (.ts) (fD [.c qx,.c aH])} (e:SS.CC g a h=some (.str s1,[uX y2,aB y3])):H76 g a h K=K s1 y2 y3:=gm e rfl
theorem aS0 {g:FuncId} {a:bSH} {h:aI} {y1:Sh.V aH} {y2:Sh.V ku} {y3:Sh.V uf} {K:RS.F (.t []) (fD [.c aH,.z jD,.c ku,.c uf])} (e:SS.CC g a h=some (.tuple [],[aB y1,some [.ptr 3 0],kM y2,DX y3])):H78 g a h K=K () y1 y2 y3:=gm e rfl
theorem Qh {g:FuncId} {a:bSH} {h:aI} {s1:bSG} {y2:Sh.V jI} {y3:Sh.V aH} {K:RS.F (.ts) (fD [.c jI,.c aH])} (e:SS.CC g a h=some (.str s1,[kE y2,aB y3])):MN g a h K=K s1 y2 y3:=gm e rfl
theorem aS1 {g:FuncId} {a:bSH} {h:aI} {y1:Sh.V lU} {y2:Sh.V jJ} {y3:Sh.V aH} {K:RS.F (.t []) (fD [.c lU,.c jJ,.z lT,.c aH])} (e:SS.CC g a h=some (.tuple [],[oQ y1,qR y2,some [bSF],aB y3])):H83 g a h K=K () y1 y2 y3:=gm e rfl
theorem aBT {g:FuncId} {a:bSH} {h:aI} {y1:Sh.V lU} {y2:Sh.V jf} {y3:Sh.V aH} {K:RS.F (.t []) (fD [.c lU,.c jf,.z lT,.c aH])} (e:SS.CC g a h=some (.tuple [],[oQ y1,qQ y2,some [bSF],aB y3])):H84 g a h K=K () y1 y2 y3:=gm e rfl
theorem aBU {g:FuncId} {a:bSH} {h:aI} {n1:Int} {y2:Sh.V jI} {y3:Sh.V aH} {K:RS.F (.ti .i64) (fD [.c jI,.c aH])} (e:SS.CC g a h=some (bSD n1,[kE y2,aB y3])):H85 g a h K=K n1 y2 y3:=gm e rfl
theorem aS2 {g:FuncId} {a:bSH} {h:aI} {y1:Sh.V aH} {y2:Sh.V ku} {y3:Sh.V tu} {K:RS.F (.t []) (fD [.c aH,.z jD,.c ku,.c tu])} (e:SS.CC g a h=some (.tuple [],[aB y1,some [.ptr 3 0],kM y2,DY y3])):H86 g a h K=K () y1 y2 y3:=gm e rfl
theorem aS3 {g:FuncId} {a:bSH} {h:aI} {y1:Sh.V ku} {y2:Sh.V BM} {y3:Sh.V aH} {K:RS.F (.t []) (fD [.z kF,.c ku,.c BM,.c aH])} (e:SS.CC g a h=some (.tuple [],[some [.ptr 2 0],kM y1,Gl y2,aB y3])):H96 g a h K=K () y1 y2 y3:=gm e rfl
theorem aRO {g:FuncId} {a:bSH} {h:aI} {y1:Sh.V ku} {y2:Sh.V lU} {y3:Sh.V aH} {K:RS.F (.t []) (fD [.z kF,.c ku,.c lU,.c aH])} (e:SS.CC g a h=some (.tuple [],[some [.ptr 2 0],kM y1,oQ y2,aB y3])):a0J g a h K=K () y1 y2 y3:=gm e rfl
end Go.Proofs.YtcdceiloganlnaaGreatDoor.W
end

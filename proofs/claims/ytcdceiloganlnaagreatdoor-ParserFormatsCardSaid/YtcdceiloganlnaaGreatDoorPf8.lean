/- A part of the proof. -/
import Derived.Test.YtcdceiloganlnaaGreatDoorPf5
import Derived.Test.YtcdceiloganlnaaGreatDoorPf4
import Derived.Test.YtcdceiloganlnaaGreatDoorPf7
set_option linter.unusedVariables false
set_option linter.unusedSimpArgs false
set_option linter.unnecessarySimpa false
set_option linter.unusedSectionVars false
noncomputable section
open Go.IntKind (i64)
namespace Go.Proofs.YtcdceiloganlnaaGreatDoor.W
open Go.RowKit
theorem aTP {g:FuncId} {a:bTA} {x1:Sh.V S0} {n2:Int} {n3:Int} {n4:Int} {K:RS.F (.t [(true,S0),(false,[.I .i64]),(false,[.I .i64]),(false,[.I .i64])]) R} (e:SS.CC g a []=some (.tuple [A0 x1,bT6 n2,bT6 n3,bT6 n4],[])):G9 g a K=K (x1,(n2,()),(n3,()),(n4,()),()):=rZ e rfl
theorem aCJ {g:FuncId} {a:bTA} {n1:bT9} {n2:Int} {n3:Int} {n4:Int} {K:RS.F (.t [(false,[.S]),(false,[.I .i64]),(false,[.I .i64]),(false,[.I .i64])]) R} (e:SS.CC g a []=some (.tuple [.str n1,bT6 n2,bT6 n3,bT6 n4],[])):Qb g a K=K ((n1,()),(n2,()),(n3,()),(n4,()),()):=rZ e rfl
theorem Gg {g:FuncId} {a:bTA} {h:aG} {b1:Bool} {y2:Sh.V dY} {y3:Sh.V aI} {K:RS.F (.tb) (di [.c dY,.c aI])} (e:SS.CC g a h=some (.bool b1,[aZ y2,aB y3])):Qh g a h K=K b1 y2 y3:=fP e rfl
theorem JK {g:FuncId} {a:bTA} {h:aG} {y1:Sh.V bY} {y2:Sh.V iK} {y3:Sh.V aI} {K:RS.F (.t []) (di [.c bY,.c iK,.c aI])} (e:SS.CC g a h=some (.tuple [],[aT y1,bH y2,aB y3])):Gh g a h K=K () y1 y2 y3:=fP e rfl
theorem Me {g:FuncId} {a:bTA} {h:aG} {y1:Sh.V zk} {y2:Sh.V iK} {y3:Sh.V aI} {K:RS.F (.t []) (di [.z lV,.z jS,.c zk,.c iK,.c aI])} (e:SS.CC g a h=some (.tuple [],[some [.ptr 2 0],some [.ptr 3 0],kM y1,bH y2,aB y3])):JL g a h K=K () y1 y2 y3:=fP e rfl
theorem EU {g:FuncId} {a:bTA} {h:aG} {s1:bT9} {y2:Sh.V dY} {y3:Sh.V aI} {K:RS.F (.ts) (di [.c dY,.c aI])} (e:SS.CC g a h=some (.str s1,[aZ y2,aB y3])):CU g a h K=K s1 y2 y3:=fP e rfl
theorem aU3 {g:FuncId} {a:bTA} {h:aG} {y1:Sh.V gU} {y2:Sh.V gK} {y3:Sh.V aI} {K:RS.F (.t []) (di [.c gU,.c gK,.z kV,.c aI])} (e:SS.CC g a h=some (.tuple [],[fJ y1,fB y2,some [bT8],aB y3])):H83 g a h K=K () y1 y2 y3:=fP e rfl
theorem aD3 {g:FuncId} {a:bTA} {h:aG} {y1:Sh.V gU} {y2:Sh.V mF} {y3:Sh.V aI} {K:RS.F (.t []) (di [.c gU,.c mF,.z kV,.c aI])} (e:SS.CC g a h=some (.tuple [],[fJ y1,mQ y2,some [bT8],aB y3])):H84 g a h K=K () y1 y2 y3:=fP e rfl
theorem CV {g:FuncId} {a:bTA} {h:aG} {n1:Int} {y2:Sh.V dY} {y3:Sh.V aI} {K:RS.F (.ti .i64) (di [.c dY,.c aI])} (e:SS.CC g a h=some (bT6 n1,[aZ y2,aB y3])):Ah g a h K=K n1 y2 y3:=fP e rfl
theorem aU4 {g:FuncId} {a:bTA} {h:aG} {y1:Sh.V aI} {y2:Sh.V rU} {y3:Sh.V jb} {K:RS.F (.t []) (di [.c aI,.z jS,.c rU,.c jb])} (e:SS.CC g a h=some (.tuple [],[aB y1,some [.ptr 3 0],uz y2,jv y3])):H86 g a h K=K () y1 y2 y3:=fP e rfl
theorem aCN {g:FuncId} {a:bTA} {h:aG} {y1:Sh.V rU} {y2:Sh.V gU} {y3:Sh.V aI} {K:RS.F (.t []) (di [.z lV,.c rU,.c gU,.c aI])} (e:SS.CC g a h=some (.tuple [],[some [.ptr 2 0],uz y1,fJ y2,aB y3])):a2B g a h K=K () y1 y2 y3:=fP e rfl
theorem aU2 {g:FuncId} {a:bTA} {h:aG} {y1:Sh.V gU} {y2:Sh.V gK} {y3:Sh.V Am} {y4:Sh.V aI} {K:RS.F (.t []) (di [.c gU,.c gK,.c Am,.c aI])} (e:SS.CC g a h=some (.tuple [],[fJ y1,fB y2,mV y3,aB y4])):H80 g a h K=K () y1 y2 y3 y4:=fP e rfl
theorem aD2 {g:FuncId} {a:bTA} {h:aG} {y1:Sh.V bY} {y2:Sh.V gK} {y3:Sh.V aI} {K:RS.F (.t []) (di [.c bY,.c gK,.c aI])} (e:SS.CC g a h=some (.tuple [],[aT y1,fB y2,aB y3])):H81 g a h K=K () y1 y2 y3:=fP e rfl
theorem aU5 {g:FuncId} {a:bTA} {h:aG} {l1:bTA} {y2:Sh.V dY} {y3:Sh.V aI} {K:RS.F (.tl false 1) (di [.c dY,.c aI])} (e:SS.CC g a h=some (bT7 l1,[aZ y2,aB y3])):H87 g a h K=K l1 y2 y3:=fP e rfl
theorem aU6 {g:FuncId} {a:bTA} {h:aG} {y1:Sh.V aI} {y2:Sh.V gK} {y3:Sh.V jb} {K:RS.F (.t []) (di [.c aI,.c gK,.z jS,.c jb])} (e:SS.CC g a h=some (.tuple [],[aB y1,fB y2,some [.ptr 3 0],jv y3])):H97 g a h K=K () y1 y2 y3:=fP e rfl
theorem aU7 {g:FuncId} {a:bTA} {h:aG} {y1:Sh.V aI} {y2:Sh.V qZ} {y3:Sh.V jb} {K:RS.F (.t []) (di [.c aI,.z jS,.c qZ,.c jb])} (e:SS.CC g a h=some (.tuple [],[aB y1,some [.ptr 3 0],rQ y2,jv y3])):H98 g a h K=K () y1 y2 y3:=fP e rfl
theorem yg {g:FuncId} {a:bTA} {h:aG} {x1:Sh.V S1} {y2:Sh.V dY} {y3:Sh.V aI} {K:RS.F (.g S1) (di [.c dY,.c aI])} (e:SS.CC g a h=some (A1 x1,[aZ y2,aB y3])):yf g a h K=K x1 y2 y3:=fP e rfl
theorem aTR {g:FuncId} {a:bTA} {h:aG} {y1:Sh.V aI} {y2:Sh.V mF} {y3:Sh.V jb} {K:RS.F (.t []) (di [.c aI,.c mF,.z jS,.c jb])} (e:SS.CC g a h=some (.tuple [],[aB y1,mQ y2,some [.ptr 3 0],jv y3])):aCM g a h K=K () y1 y2 y3:=fP e rfl
theorem aTS {g:FuncId} {a:bTA} {h:aG} {l1:bTA} {y2:Sh.V bY} {y3:Sh.V aI} {K:RS.F (.tl false 1) (di [.z lU,.c bY,.c aI])} (e:SS.CC g a h=some (bT7 l1,[some [.ptr 1 0],aT y2,aB y3])):aCO g a h K=K l1 y2 y3:=fP e rfl
theorem aCP {g:FuncId} {a:bTA} {h:aG} {y1:Sh.V gK} {y2:Sh.V gU} {y3:Sh.V aI} {K:RS.F (.t []) (di [.c gK,.z lV,.c gU,.c aI])} (e:SS.CC g a h=some (.tuple [],[fB y1,some [.ptr 2 0],fJ y2,aB y3])):a2C g a h K=K () y1 y2 y3:=fP e rfl
theorem aCQ {g:FuncId} {a:bTA} {h:aG} {y1:Sh.V qZ} {y2:Sh.V gU} {y3:Sh.V aI} {K:RS.F (.t []) (di [.z lV,.c qZ,.c gU,.c aI])} (e:SS.CC g a h=some (.tuple [],[some [.ptr 2 0],rQ y1,fJ y2,aB y3])):a2D g a h K=K () y1 y2 y3:=fP e rfl
theorem aCR {g:FuncId} {a:bTA} {h:aG} {y1:Sh.V mF} {y2:Sh.V gU} {y3:Sh.V aI} {K:RS.F (.t []) (di [.c mF,.z lV,.c gU,.c aI])} (e:SS.CC g a h=some (.tuple [],[mQ y1,some [.ptr 2 0],fJ y2,aB y3])):a2E g a h K=K () y1 y2 y3:=fP e rfl
theorem a2F {g:FuncId} {a:bTA} {h:aG} {b1:Bool} {y2:Sh.V bY} {y3:Sh.V aI} {K:RS.F (.tb) (di [.z lU,.c bY,.c aI])} (e:SS.CC g a h=some (.bool b1,[some [.ptr 1 0],aT y2,aB y3])):Qd g a h K=K b1 y2 y3:=fP e rfl
theorem aCT {g:FuncId} {a:bTA} {h:aG} {n1:Int} {n2:Bool} {n3:Bool} {y4:Sh.V dY} {y5:Sh.V aI} {K:RS.F (.t [(false,[.I .i64]),(false,[.B]),(false,[.B])]) (di [.c dY,.c aI])} (e:SS.CC g a h=some (.tuple [bT6 n1,.bool n2,.bool n3],[aZ y4,aB y5])):aCS g a h K=K ((n1,()),(n2,()),(n3,()),()) y4 y5:=fP e rfl
theorem WV {g:FuncId} {a:bTA} {h:aG} {x1:Sh.V S1} {y2:Sh.V bY} {y3:Sh.V aI} {K:RS.F (.g S1) (di [.c bY,.z kV,.c aI])} (e:SS.CC g a h=some (A1 x1,[aT y2,some [bT8],aB y3])):MZ g a h K=K x1 y2 y3:=fP e rfl
theorem aTT {g:FuncId} {a:bTA} {h:aG} {x1:Sh.V S1} {y2:Sh.V bY} {y3:Sh.V aI} {K:RS.F (.g S1) (di [.z lU,.c bY,.c aI])} (e:SS.CC g a h=some (A1 x1,[some [.ptr 1 0],aT y2,aB y3])):Qe g a h K=K x1 y2 y3:=fP e rfl
theorem aTU {g:FuncId} {a:bTA} {h:aG} {y1:Sh.V bY} {y2:Sh.V aI} {K:RS.F (.t []) (di [.z lU,.c bY,.c aI])} (e:SS.CC g a h=some (.tuple [],[some [.ptr 1 0],aT y1,aB y2])):Qg g a h K=K () y1 y2:=fP e rfl
set_option maxRecDepth 1000000
section
theorem aGH (h0:Sh.V dY) (h1:Sh.V aI):SS.CC 102 [bT8] [aZ h0,aB h1]=yf 196 [bT8,bT6 1] [aZ h0,aB h1] fun u1 u5 u7=>iU 197 [bT8,.str ⟨#[63]⟩] [aB u7] fun b13 u14=>aA (!b13) (some (A1 u1,[aZ u5,aB u14])) (yf 102 [bT8] [aZ u5,aB u14] fun u20 u24 u26=>dw 128 [bT8,.str ⟨#[58]⟩] [aB u26] fun _ u32=>yf 102 [bT8] [aZ u24,aB u32] fun u38 u42 u44=>some (A1 (13,0,0,[A1 u1,A1 u20,A1 u38],()),[aZ u42,aB u44])):=cc
def b2T:KT:=SS.rK Tryz.f196 196 2 []
def aHH:KT:=bI 0 b2T
def b2U:KT:=SS.lK 196 48 2 [0,1,4,5] 4 (cS Tryz.f196 39) aHH
def b2V:KT:=bI 1 b2U
def Hm (x1:Int) (q0:Sh.V dY) (q1:Sh.V aI) (q3:Sh.V S1):R:=SS.LL (SS.ae 196 48) 2 [0,1,4,5] 4 (cS Tryz.f196 39) aHH ⟨[(0,bT8),(1,bT6 x1),(4,.ptr 2 0),(5,.ptr 3 0)],[aZ q0,aB q1,Wj (0,0,0,[],()),O1 q3]⟩
def a4O (x1:Int) (x6:Int) (q0:Sh.V dY) (q1:Sh.V aI) (q3:Sh.V S1) (x9:bTA):R:=bG (SS.xX 196 48 2) (cS Tryz.f196 4039) b2V ⟨[(0,bT8),(1,bT6 x1),(4,.ptr 2 0),(5,.ptr 3 0),(6,bT6 x6),(9,.sl false 4 x9)],[aZ q0,aB q1,Wj (0,0,0,[],()),O1 q3]⟩
theorem aHI (x1:Int) (q0:Sh.V dY) (q1:Sh.V aI) (q3:Sh.V S1):Hm x1 q0 q1 q3=aCS 255 [bT8,bT6 x1] [aZ q0,aB q1] fun u1 u4 u6=>aA (!u1.2.2.1.1) (some (A1 q3,[aZ u4,aB u6])) (ji 220 [bT8] [aB u6] fun u12 rE=>yf 196 [bT8,bT6 (i64.wrap (x1+1))] [aZ u4,aB rE] fun u23 u27 u29=>aA u1.2.1.1 (chk (([bT6 q3.1,bT6 q3.2.1,bT6 q3.2.2.1,.sl false 4 q3.2.2.2.1,bT6 u23.1,bT6 u23.2.1,bT6 u23.2.2.1,.sl false 4 u23.2.2.2.1]:bTA).all oZ&&true) (H53 256 [.slh 0 0 2 4] [some [bT6 q3.1,bT6 q3.2.1,bT6 q3.2.2.1,.sl false 4 q3.2.2.2.1,bT6 u23.1,bT6 u23.2.1,bT6 u23.2.2.1,.sl false 4 u23.2.2.2.1]] fun _ Zc=>chk (Zc.all oZ&&true) (chk (decide (2*4<=Zc.length)&&decide (0<4)&&Zc.all fun p=>p.one&&p.flat) (a4O x1 u1.1.1 u27 u29 q3 (lF 4 Zc 2))))) (chk (decide (2*4<=([bT6 q3.1,bT6 q3.2.1,bT6 q3.2.2.1,.sl false 4 q3.2.2.2.1,bT6 u23.1,bT6 u23.2.1,bT6 u23.2.2.1,.sl false 4 u23.2.2.2.1]:bTA).length)&&decide (0<4)&&([bT6 q3.1,bT6 q3.2.1,bT6 q3.2.2.1,.sl false 4 q3.2.2.2.1,bT6 u23.1,bT6 u23.2.1,bT6 u23.2.2.1,.sl false 4 u23.2.2.2.1]:bTA).all fun p=>p.one&&p.flat) (a4O x1 u1.1.1 u27 u29 q3 (lF 4 ([bT6 q3.1,bT6 q3.2.1,bT6 q3.2.2.1,.sl false 4 q3.2.2.2.1,bT6 u23.1,bT6 u23.2.1,bT6 u23.2.2.1,.sl false 4 u23.2.2.2.1]:bTA) 2)))):=ll
theorem b2S (x1:Int) (x6:Int) (q0:Sh.V dY) (q1:Sh.V aI) (q3:Sh.V S1) (x9:bTA):a4O x1 x6 q0 q1 q3 x9=aA (x1==3) (some (A1 (x6,0,0,x9,()),[aZ q0,aB q1])) (Hm x1 q0 q1 (x6,0,0,x9,())):=by kernel_rfl
theorem a4P (a1:Int) (h0:Sh.V dY) (h1:Sh.V aI):SS.CC 196 [bT8,bT6 a1] [aZ h0,aB h1]=aA (a1==6) (yf 254 [bT8] [aZ h0,aB h1] fun u1 u5 u7=>some (A1 u1,[aZ u5,aB u7])) (yf 196 [bT8,bT6 (i64.wrap (a1+1))] [aZ h0,aB h1] fun u13 rE sV=>Hm a1 rE sV u13):=cc
def b57:KT:=SS.rK Tryz.f254 254 2 []
def a4U (q0:Sh.V dY) (q1:Sh.V aI):R:=bG (SS.xX 254 74 2) (cS Tryz.f254 7) b57 ⟨[(1,.ptr 2 0),(2,.ptr 3 0)],[aZ q0,aB q1,some [bT8],Wj (0,0,0,[],())]⟩
theorem b56 (q0:Sh.V dY) (q1:Sh.V aI):a4U q0 q1=Ah 311 [bT8,bT7 q0.2.1] [aZ q0,aB q1] fun n1 u2 u4=>some (A1 (1,0,n1,[],()),[aZ u2,aB u4]):=by kernel_rfl
theorem Ho (h0:Sh.V dY) (h1:Sh.V aI):SS.CC 254 [bT8] [aZ h0,aB h1]=iU 257 [bT8,.str ⟨#[33]⟩] [aB h1] fun b1 u2=>aA b1 (ji 131 [bT8] [aB u2] fun u8 u13=>aA (u8.1==3) (MZ 307 [bT8,.func (.func 308) [] [.ptr 1 0]] [aT h0,some [bT8],aB u13] fun sV u23 u25=>some (A1 sV,[aZ u23,aB u25])) (iU 257 [bT8,.str ⟨#[45]⟩] [aB u13] fun b31 u32=>aA b31 (MZ 307 [bT8,.func (.func 309) [] [.ptr 1 0]] [aT h0,some [bT8],aB u32] fun u38 u42 u44=>some (A1 u38,[aZ u42,aB u44])) (iU 257 [bT8,.str ⟨#[40]⟩] [aB u32] fun b50 u51=>aA b50 (MZ 307 [bT8,.func (.func 310) [] [.ptr 1 0]] [aT h0,some [bT8],aB u51] fun La u61 u63=>some (A1 La,[aZ u61,aB u63])) (ji 131 [bT8] [aB u51] fun u69 u74=>aA (u69.1==2) (N7 276 [bT8,bT6 0,bT6 65536] [aB u74] fun n80 Vh=>some (A1 (0,n80,0,[],()),[aZ h0,aB Vh])) (iU 197 [bT8,.str ⟨#[116,114,117,101]⟩] [aB u74] fun b87 u88=>aA b87 (rP 116 [] fun u94=>some (A1 u94,[aZ h0,aB u88])) (iU 197 [bT8,.str ⟨#[102,97,108,115,101]⟩] [aB u88] fun b99 a1G=>aA b99 (rP 117 [] fun VQ=>some (A1 VQ,[aZ h0,aB a1G])) (a4U h0 a1G))))))) (iU 257 [bT8,.str ⟨#[45]⟩] [aB u2] fun aVH aBH=>aA aVH (MZ 307 [bT8,.func (.func 309) [] [.ptr 1 0]] [aT h0,some [bT8],aB aBH] fun bNY bNZ u124=>some (A1 bNY,[aZ bNZ,aB u124])) (iU 257 [bT8,.str ⟨#[40]⟩] [aB aBH] fun aVI u131=>aA aVI (MZ 307 [bT8,.func (.func 310) [] [.ptr 1 0]] [aT h0,some [bT8],aB u131] fun bO1 VY bO3=>some (A1 bO1,[aZ VY,aB bO3])) (ji 131 [bT8] [aB u131] fun bO4 u154=>aA (bO4.1==2) (N7 276 [bT8,bT6 0,bT6 65536] [aB u154] fun n160 aBN=>some (A1 (0,n160,0,[],()),[aZ h0,aB aBN])) (iU 197 [bT8,.str ⟨#[116,114,117,101]⟩] [aB u154] fun aVJ Q9=>aA aVJ (rP 116 [] fun Ve=>some (A1 Ve,[aZ h0,aB Q9])) (iU 197 [bT8,.str ⟨#[102,97,108,115,101]⟩] [aB Q9] fun aVK QA=>aA aVK (rP 117 [] fun aBQ=>some (A1 aBQ,[aZ h0,aB QA])) (a4U h0 QA)))))):=cc
theorem b58 (a1:Int) (h0:Sh.V dY) (h1:Sh.V aI):SS.CC 255 [bT8,bT6 a1] [aZ h0,aB h1]=ji 131 [bT8] [aB h1] fun u1 u6=>aA (u1.1 != 3) (some (.tuple [bT6 0,.bool false,.bool false],[aZ h0,aB u6])) (IA none [.str ⟨#[33,61]⟩,pY (3,7,false,()),.str ⟨#[38,38]⟩,pY (2,11,false,()),.str ⟨#[42]⟩,pY (5,4,false,()),.str ⟨#[43]⟩,pY (4,2,false,()),.str ⟨#[45]⟩,pY (4,3,false,()),.str ⟨#[60]⟩,pY (3,8,false,()),.str ⟨#[60,61]⟩,pY (3,9,false,()),.str ⟨#[61,61]⟩,pY (3,6,false,()),.str ⟨#[62]⟩,pY (3,8,true,()),.str ⟨#[62,61]⟩,pY (3,9,true,()),.str ⟨#[124,124]⟩,pY (1,12,false,())] (.str u1.2.1) (fun e12=>DV Wn e12 fun u13=>some (.tuple [bT6 u13.2.1,.bool u13.2.2.1,.bool (u13.1==a1)],[aZ h0,aB u6])) (some (.tuple [bT6 0,.bool false,.bool false],[aZ h0,aB u6]))):=cc
theorem b7A (h0:Sh.V bY) (h2:Sh.V aI):SS.CC 307 [bT8,.func (.func 308) [] [.ptr 1 0]] [aT h0,some [bT8],aB h2]=aA (h0.1==32) (dw 133 [bT8,bT6 3] [aB h2] fun _ u1=>some (A1 (0,0,0,[],()),[aT h0,some [bT8],aB u1])) (ji 220 [bT8] [aB h2] fun u7 u12=>Qe 308 [bT8] [some [.ptr 1 0],aT (i64.wrap (h0.1+1),h0.2.1,()),aB u12] fun ku u22 u24=>Qg 335 [bT8] [some [.ptr 1 0],aT u22,aB u24] fun _ u30 u32=>some (A1 ku,[aT u30,some [bT8],aB u32])):=cc
theorem aIL (h0:Sh.V bY) (h2:Sh.V aI):SS.CC 307 [bT8,.func (.func 309) [] [.ptr 1 0]] [aT h0,some [bT8],aB h2]=aA (h0.1==32) (dw 133 [bT8,bT6 3] [aB h2] fun _ u1=>some (A1 (0,0,0,[],()),[aT h0,some [bT8],aB u1])) (ji 220 [bT8] [aB h2] fun u7 u12=>Qe 309 [bT8] [some [.ptr 1 0],aT (i64.wrap (h0.1+1),h0.2.1,()),aB u12] fun ku u22 u24=>Qg 335 [bT8] [some [.ptr 1 0],aT u22,aB u24] fun _ u30 u32=>some (A1 ku,[aT u30,some [bT8],aB u32])):=cc
theorem b7B (h0:Sh.V bY) (h2:Sh.V aI):SS.CC 307 [bT8,.func (.func 310) [] [.ptr 1 0]] [aT h0,some [bT8],aB h2]=aA (h0.1==32) (dw 133 [bT8,bT6 3] [aB h2] fun _ u1=>some (A1 (0,0,0,[],()),[aT h0,some [bT8],aB u1])) (ji 220 [bT8] [aB h2] fun u7 u12=>Qe 310 [bT8] [some [.ptr 1 0],aT (i64.wrap (h0.1+1),h0.2.1,()),aB u12] fun ku u22 u24=>Qg 335 [bT8] [some [.ptr 1 0],aT u22,aB u24] fun _ u30 u32=>some (A1 ku,[aT u30,some [bT8],aB u32])):=cc
theorem b7C (h1:Sh.V bY) (h2:Sh.V aI):SS.CC 308 [bT8] [some [.ptr 1 0],aT h1,aB h2]=yf 254 [bT8] [aZ h1,aB h2] fun u1 u5 u7=>some (A1 (10,0,0,[A1 u1],()),[some [.ptr 1 0],aT u5,aB u7]):=cc
theorem aIM (h1:Sh.V bY) (h2:Sh.V aI):SS.CC 309 [bT8] [some [.ptr 1 0],aT h1,aB h2]=ji 131 [bT8] [aB h2] fun u1 u6=>aA (u1.1==2) (N7 276 [bT8,bT6 0,bT6 65536] [aB u6] fun n12 u13=>some (A1 (0,i64.wrap (0-n12),0,[],()),[some [.ptr 1 0],aT h1,aB u13])) (yf 254 [bT8] [aZ h1,aB u6] fun sV u23 u25=>some (A1 (5,0,0,[A1 sV],()),[some [.ptr 1 0],aT u23,aB u25])):=cc
theorem b7D (h1:Sh.V bY) (h2:Sh.V aI):SS.CC 310 [bT8] [some [.ptr 1 0],aT h1,aB h2]=yf 102 [bT8] [aZ h1,aB h2] fun u1 u5 u7=>dw 128 [bT8,.str ⟨#[41]⟩] [aB u7] fun _ u13=>some (A1 u1,[some [.ptr 1 0],aT u5,aB u13]):=cc
def b7E:KT:=SS.rK Tryz.f311 311 2 []
def Yf (x5:Int) (q0:Sh.V dY) (q1:Sh.V aI):R:=bG (SS.xX 311 37 2) (cS Tryz.f311 15) b7E ⟨[(0,bT8),(5,bT6 x5)],[aZ q0,aB q1]⟩
theorem a4Z (x5:Int) (q0:Sh.V dY) (q1:Sh.V aI):Yf x5 q0 q1=Af 129 [bT8] [aB q1] fun s1 u2=>some (bT6 (if (0:Int)>x5 then (0:Int) else x5),[aZ q0,aB u2]):=by kernel_rfl
theorem b7F (a1:bTA) (h0:Sh.V dY) (h1:Sh.V aI):SS.CC 311 [bT8,bT7 a1] [aZ h0,aB h1]=ji 131 [bT8] [aB h1] fun u1 u6=>G1 108 [bT7 a1,.str u1.2.1] fun n12=>ji 131 [bT8] [aB u6] fun u14 sV=>aA (u14.1==1) (aA (decide (n12<0)) (dw 133 [bT8,bT6 9] [aB sV] fun _ u25=>Yf n12 h0 u25) (Yf n12 h0 sV)) (Yf n12 h0 sV):=cc
theorem b80 (h1:Sh.V bY) (h2:Sh.V aI):SS.CC 335 [bT8] [some [.ptr 1 0],aT h1,aB h2]=some (.tuple [],[some [.ptr 1 0],aT (i64.wrap (h1.1-1),h1.2.1,()),aB h2]):=cc
def b3L:KT:=SS.rK Tryz.f222 222 3 []
def YS (q0:Sh.V bY) (q1:Sh.V iK) (q2:Sh.V aI) (q3:Sh.V S4):R:=bG (SS.xX 222 55 3) (cS Tryz.f222 31) b3L ⟨[(0,bT8),(1,.ptr 1 0),(4,.ptr 3 0)],[aT q0,bH q1,aB q2,O4 q3]⟩
theorem b3K (q0:Sh.V bY) (q1:Sh.V iK) (q2:Sh.V aI) (q3:Sh.V S4):YS q0 q1 q2 q3=dw 128 [bT8,.str ⟨#[59]⟩] [aB q2] fun _ u1=>chk (decide (q1.2.1.length+1<=bC)) (some (.tuple [],[aT q0,bH (q1.1,(q1.2.1 ++ ([A4 q3]:bTA)),q1.2.2.1,q1.2.2.2.1,q1.2.2.2.2.1,q1.2.2.2.2.2.1,q1.2.2.2.2.2.2.1,()),aB u1])):=by kernel_rfl
theorem b3M (h0:Sh.V bY) (h1:Sh.V iK) (h2:Sh.V aI):SS.CC 222 [bT8,.ptr 1 0] [aT h0,bH h1,aB h2]=G4 273 [.sl false 5 h1.2.1,.func (.func 274) [] []] fun l1=>CU 272 [bT8,bT7 l1] [aZ h0,aB h2] fun s3 u4 u6=>H87 275 [bT8,bT7 [.str ⟨#[99,111,110,116,114,111,108,108,97,98,108,101]⟩,.str ⟨#[111,98,115,101,114,118,97,98,108,101]⟩,.str ⟨#[102,111,114,99,105,98,108,101]⟩]] [aZ u4,aB u6] fun l12 u13 u15=>eH l12 0 fun e21=>vB e21 fun b22=>eH l12 1 fun e23=>vB e23 fun NT=>eH l12 2 fun e25=>vB e25 fun b26=>iU 197 [bT8,.str ⟨#[102,97,117,108,116]⟩] [aB u15] fun b27 u28=>aA b27 (N7 276 [bT8,bT6 1,bT6 4] [aB u28] fun n34 u35=>YS u13 h1 u35 (s3,b22,NT,b26,n34,())) (YS u13 h1 u28 (s3,b22,NT,b26,0,())):=cc
def b5L:KT:=SS.rK Tryz.f273 273 0 []
def b5M:KT:=SS.jK 273 22 0 (cS Tryz.f273 15) b5L
def b5N:KT:=bI 0 b5M
def YX (x8:bTA) (x5:bTA) (x10:Int):R:=SS.LL (SS.ae 273 22) 0 [1,5,8,9,10] 0 (cS Tryz.f273 75) b5N ⟨[(1,.func (.func 274) [] []),(5,.sl true 1 x5),(8,.sl false 5 x8),(9,bT6 (x8.length:Int)),(10,bT6 x10)],[]⟩
theorem aI9 (x8:bTA) (x5:bTA) (x10:Int):YX x8 x5 x10=aA (decide (x10<(x8.length:Int))) (bf S4 x8 x10 fun u2=>G2 274 [A4 u2] fun s7=>chk (decide (x5.length+1<=bC)) (YX x8 (x5 ++ ([.str s7]:bTA)) (i64.wrap (x10+1)))) (some (bT7 x5,[])):=ll
theorem b5O (a0:bTA):SS.CC 273 [.sl false 5 a0,.func (.func 274) [] []] []=YX a0 [] 0:=cc
theorem b5P (a0:Sh.V S4):SS.CC 274 [A4 a0] []=some (.str a0.1,[]):=cc
theorem b5Q (a1:bTA) (h0:Sh.V dY) (h1:Sh.V aI):SS.CC 275 [bT8,bT7 a1] [aZ h0,aB h1]=aCO 327 [bT7 a1,.func (.func 328) [] [bT8]] [some [.ptr 1 0],aT h0,aB h1] fun l1 u2 u4=>some (bT7 l1,[aZ u2,aB u4]):=cc
theorem b5X (h0:Sh.V gK) (h2:Sh.V gU) (h3:Sh.V aI):SS.CC 279 [bT8,.ptr 1 0] [fB h0,some [.ptr 2 0],fJ h2,aB h3]=o6 fun ag=>(fun w=>(fun z0 z1=>dA z0 (dA (dA z0 z1) (dA z0 z1))) w (ag 1 w)) (CU 272 [bT8,bT7 h0.2.2.1] [aZ h2,aB h3] fun s1 u2 u4=>chk (decide (h0.2.2.1.length+1<=bC)) (some (.tuple [],[fB (h0.1,h0.2.1,(h0.2.2.1 ++ ([.str s1]:bTA)),h0.2.2.2.1,h0.2.2.2.2.1,h0.2.2.2.2.2.1,h0.2.2.2.2.2.2.1,h0.2.2.2.2.2.2.2.1,h0.2.2.2.2.2.2.2.2.1,()),some [.ptr 2 0],fJ u2,aB u4]))):=BA cc
def aIA:KT:=SS.rK Tryz.f280 280 4 []
def Sr (q0:Sh.V gU) (q1:Sh.V gK) (eU:Bool) (q3:Sh.V aI) (x6:Int):R:=bG (SS.xX 280 77 4) (cS Tryz.f280 15) aIA ⟨[(0,bT8),(1,.ptr 1 0),(2,.ptr 2 0),(6,bT6 x6)],[fJ q0,fB q1,mV (eU,()),aB q3]⟩
def YY (x6:Int) (q0:Sh.V gU) (q1:Sh.V gK) (q3:Sh.V aI) (eU:Bool):R:=bG (SS.xX 280 77 4) (cS Tryz.f280 31) aIA ⟨[(0,bT8),(1,.ptr 1 0),(6,bT6 x6)],[fJ q0,fB q1,mV (eU,()),aB q3]⟩
theorem b5Y (q0:Sh.V gU) (q1:Sh.V gK) (eU:Bool) (q3:Sh.V aI) (x6:Int):Sr q0 q1 eU q3 x6=iU 197 [bT8,.str ⟨#[105,110,105,116,105,97,108]⟩] [aB q3] fun b1 u2=>aA b1 (YY x6 q0 (q1.1,q1.2.1,q1.2.2.1,q1.2.2.2.1,q1.2.2.2.2.1,x6,q1.2.2.2.2.2.2.1,q1.2.2.2.2.2.2.2.1,q1.2.2.2.2.2.2.2.2.1,()) u2 true) (YY x6 q0 q1 u2 eU):=by kernel_rfl
theorem b5Z (x6:Int) (q0:Sh.V gU) (q1:Sh.V gK) (q3:Sh.V aI) (eU:Bool):YY x6 q0 q1 q3 eU=iU 197 [bT8,.str ⟨#[109,97,114,107,101,100]⟩] [aB q3] fun b1 u2=>aA b1 (chk (decide (q1.2.2.2.2.2.2.1.length+1<=bC)) (dw 128 [bT8,.str ⟨#[59]⟩] [aB u2] fun _ u8=>some (.tuple [],[fJ q0,fB (q1.1,q1.2.1,q1.2.2.1,q1.2.2.2.1,q1.2.2.2.2.1,q1.2.2.2.2.2.1,(q1.2.2.2.2.2.2.1 ++ ([bT6 x6]:bTA)),q1.2.2.2.2.2.2.2.1,q1.2.2.2.2.2.2.2.2.1,()),mV (eU,()),aB u8]))) (dw 128 [bT8,.str ⟨#[59]⟩] [aB u2] fun _ u14=>some (.tuple [],[fJ q0,fB q1,mV (eU,()),aB u14])):=by kernel_rfl
theorem b5' (h0:Sh.V gU) (h1:Sh.V gK) (lG:Bool) (h3:Sh.V aI):SS.CC 280 [bT8,.ptr 1 0,.ptr 2 0] [fJ h0,fB h1,mV (lG,()),aB h3]=o6 fun ag=>(fun w=>dA w (ag 1 w)) (CU 272 [bT8,bT7 h1.2.1] [aZ h0,aB h3] fun s1 u2 u4=>chk (decide (h1.2.1.length+1<=bC)) (iU 257 [bT8,.str ⟨#[105,110,105,116,105,97,108]⟩] [aB u4] fun b10 u11=>aA b10 (aA lG (dw 133 [bT8,bT6 8] [aB u11] fun _ rE=>Sr u2 (h1.1,(h1.2.1 ++ ([.str s1]:bTA)),h1.2.2.1,h1.2.2.2.1,h1.2.2.2.2.1,h1.2.2.2.2.2.1,h1.2.2.2.2.2.2.1,h1.2.2.2.2.2.2.2.1,h1.2.2.2.2.2.2.2.2.1,()) lG rE (i64.wrap (((h1.2.1 ++ ([.str s1]:bTA)).length:Int)-1))) (Sr u2 (h1.1,(h1.2.1 ++ ([.str s1]:bTA)),h1.2.2.1,h1.2.2.2.1,h1.2.2.2.2.1,h1.2.2.2.2.2.1,h1.2.2.2.2.2.2.1,h1.2.2.2.2.2.2.2.1,h1.2.2.2.2.2.2.2.2.1,()) lG u11 (i64.wrap (((h1.2.1 ++ ([.str s1]:bTA)).length:Int)-1)))) (Sr u2 (h1.1,(h1.2.1 ++ ([.str s1]:bTA)),h1.2.2.1,h1.2.2.2.1,h1.2.2.2.2.1,h1.2.2.2.2.2.1,h1.2.2.2.2.2.2.1,h1.2.2.2.2.2.2.2.1,h1.2.2.2.2.2.2.2.2.1,()) lG u11 (i64.wrap (((h1.2.1 ++ ([.str s1]:bTA)).length:Int)-1))))):=BA cc
def b61:KT:=SS.rK Tryz.f281 281 3 []
def YZ (q0:Sh.V bY) (q1:Sh.V gK) (q2:Sh.V aI):R:=bG (SS.xX 281 74 3) (cS Tryz.f281 3) b61 ⟨[(0,bT8),(1,.ptr 1 0)],[aT q0,fB q1,aB q2]⟩
theorem b60 (q0:Sh.V bY) (q1:Sh.V gK) (q2:Sh.V aI):YZ q0 q1 q2=G7 241 [.sl false 4 q1.2.2.2.2.2.2.2.1] fun l1=>CU 272 [bT8,bT7 l1] [aZ q0,aB q2] fun s3 u4 u6=>dw 128 [bT8,.str ⟨#[58]⟩] [aB u6] fun _ u12=>Ah 289 [bT8] [aZ u4,aB u12] fun n18 sV u21=>dw 128 [bT8,.str ⟨#[46,46]⟩] [aB u21] fun _ u27=>Ah 289 [bT8] [aZ sV,aB u27] fun n33 u34 u36=>dw 128 [bT8,.str ⟨#[61]⟩] [aB u36] fun _ u42=>Ah 289 [bT8] [aZ u34,aB u42] fun n48 u49 u51=>dw 128 [bT8,.str ⟨#[59]⟩] [aB u51] fun _ La=>chk (decide (q1.2.2.2.2.2.2.2.1.length+1<=bC)) (some (.tuple [],[aT u49,fB (q1.1,q1.2.1,q1.2.2.1,q1.2.2.2.1,q1.2.2.2.2.1,q1.2.2.2.2.2.1,q1.2.2.2.2.2.2.1,(q1.2.2.2.2.2.2.2.1 ++ ([A7 (s3,n18,n33,n48,())]:bTA)),q1.2.2.2.2.2.2.2.2.1,()),aB La])):=by kernel_rfl
theorem b62 (h0:Sh.V bY) (h1:Sh.V gK) (h2:Sh.V aI):SS.CC 281 [bT8,.ptr 1 0] [aT h0,fB h1,aB h2]=ji 131 [bT8] [aB h2] fun u1 u6=>aA (u1.1==1) (G3 112 [.str u1.2.1] fun b12=>aA b12 (dw 133 [bT8,bT6 7] [aB u6] fun _ u14=>YZ h0 h1 u14) (YZ h0 h1 u6)) (YZ h0 h1 u6):=cc
def aIB:KT:=SS.rK Tryz.f282 282 3 []
def Ya (q0:Sh.V bY) (q1:Sh.V gK) (q2:Sh.V aI) (AB:Int) (Ua:Int) (Ub:Int) (uY:Int) (uZ:Int) (uf:Int) (ug:bTA):R:=bG (SS.xX 282 73 3) (cS Tryz.f282 63) aIB ⟨[(1,.ptr 1 0),(2,.ptr 3 0),(4,.ptr 4 0)],[aT q0,fB q1,aB q2,some [bT8],rQ (AB,Ua,Ub,uY,uZ,uf,ug,[],())]⟩
def Yb (q0:Sh.V bY) (q1:Sh.V gK) (q2:Sh.V aI) (q4:Sh.V qZ):R:=bG (SS.xX 282 73 3) (cS Tryz.f282 127) aIB ⟨[(1,.ptr 1 0),(2,.ptr 3 0),(4,.ptr 4 0)],[aT q0,fB q1,aB q2,some [bT8],rQ q4]⟩
theorem b63 (q0:Sh.V bY) (q1:Sh.V gK) (q2:Sh.V aI) (AB:Int) (Ua:Int) (Ub:Int) (uY:Int) (uZ:Int) (uf:Int) (ug:bTA):Ya q0 q1 q2 AB Ua Ub uY uZ uf ug=iU 197 [bT8,.str ⟨#[100,111]⟩] [aB q2] fun b1 u2=>aA b1 (H98 286 [bT8,.func (.func 329) [] [.ptr 1 0,.ptr 2 0]] [aB u2,some [.ptr 3 0],rQ (AB,Ua,Ub,uY,uZ,uf,ug,[],()),jv q0] fun _ u8 u12 u20=>Yb u20 q1 u8 u12) (Yb q0 q1 u2 (AB,Ua,Ub,uY,uZ,uf,ug,[],())):=by kernel_rfl
theorem b65 (q0:Sh.V bY) (q1:Sh.V gK) (q2:Sh.V aI) (q4:Sh.V qZ):Yb q0 q1 q2 q4=dw 128 [bT8,.str ⟨#[59]⟩] [aB q2] fun _ u1=>chk (decide (q1.2.2.2.2.2.2.2.2.1.length+1<=bC)) (some (.tuple [],[aT q0,fB (q1.1,q1.2.1,q1.2.2.1,q1.2.2.2.1,q1.2.2.2.2.1,q1.2.2.2.2.2.1,q1.2.2.2.2.2.2.1,q1.2.2.2.2.2.2.2.1,(q1.2.2.2.2.2.2.2.2.1 ++ ([A9 q4]:bTA)),()),aB u1])):=by kernel_rfl
theorem b67 (h0:Sh.V bY) (h1:Sh.V gK) (h2:Sh.V aI):SS.CC 282 [bT8,.ptr 1 0] [aT h0,fB h1,aB h2]=rP 116 [] fun u1=>Ah 311 [bT8,bT7 h1.2.1] [aZ h0,aB h2] fun n6 u7 u9=>Ah 311 [bT8,bT7 h1.2.2.1] [aZ u7,aB u9] fun n15 u16 ku=>Ah 311 [bT8,bT7 h1.2.1] [aZ u16,aB ku] fun n24 u25 u27=>G7 241 [.sl false 4 h1.2.2.2.2.2.2.2.1] fun l33=>iU 197 [bT8,.str ⟨#[119,104,101,110]⟩] [aB u27] fun b35 u36=>aA b35 (yf 102 [bT8] [aZ (u25.1,l33,()),aB u36] fun u42 u46 u48=>Ya u46 h1 u48 n6 n15 n24 u42.1 u42.2.1 u42.2.2.1 u42.2.2.2.1) (Ya (u25.1,l33,()) h1 u36 n6 n15 n24 u1.1 u1.2.1 u1.2.2.1 u1.2.2.2.1):=cc
def b7J:KT:=SS.rK Tryz.f327 327 3 []
def b7K:KT:=SS.jK 327 22 3 (cS Tryz.f327 15) b7J
def b7L:KT:=bI 0 b7K
def a5B (x8:bTA) (q1:Sh.V bY) (q2:Sh.V aI) (x5:bTA) (x10:Int):R:=SS.LL (SS.ae 327 22) 3 [1,5,8,9,10] 3 (cS Tryz.f327 75) b7L ⟨[(1,.func (.func 328) [] [bT8]),(5,.sl true 1 x5),(8,bT7 x8),(9,bT6 (x8.length:Int)),(10,bT6 x10)],[some [.ptr 1 0],aT q1,aB q2]⟩
theorem Yg (x8:bTA) (q1:Sh.V bY) (q2:Sh.V aI) (x5:bTA) (x10:Int):a5B x8 q1 q2 x5 x10=aA (decide (x10<(x8.length:Int))) (eH x8 x10 fun e1=>vS e1 fun s2=>Qd 328 [.str s2,bT8] [some [.ptr 1 0],aT q1,aB q2] fun b3 u4 u6=>chk (decide (x5.length+1<=bC)) (a5B x8 u4 u6 (x5 ++ ([.bool b3]:bTA)) (i64.wrap (x10+1)))) (some (bT7 x5,[some [.ptr 1 0],aT q1,aB q2])):=ll
theorem b7M (a0:bTA) (h1:Sh.V bY) (h2:Sh.V aI):SS.CC 327 [bT7 a0,.func (.func 328) [] [bT8]] [some [.ptr 1 0],aT h1,aB h2]=a5B a0 h1 h2 [] 0:=cc
theorem b7N (a0:bT9) (h1:Sh.V bY) (h2:Sh.V aI):SS.CC 328 [.str a0,bT8] [some [.ptr 1 0],aT h1,aB h2]=iU 197 [bT8,.str a0] [aB h2] fun b1 u2=>some (.bool b1,[some [.ptr 1 0],aT h1,aB u2]):=cc
theorem b7O (h1:Sh.V qZ) (h2:Sh.V gU) (h3:Sh.V aI):SS.CC 329 [bT8,.ptr 1 0] [some [.ptr 2 0],rQ h1,fJ h2,aB h3]=o6 fun ag=>(fun w=>dA (ag 1 w) w) (Ah 311 [bT8,bT7 h2.2.1] [aZ h2,aB h3] fun n1 u2 u4=>dw 128 [bT8,.str ⟨#[58,61]⟩] [aB u4] fun _ u10=>yf 102 [bT8] [aZ u2,aB u10] fun u16 u20 u22=>chk (decide (h1.2.2.2.2.2.2.2.1.length+1<=bC)) (some (.tuple [],[some [.ptr 2 0],rQ (h1.1,h1.2.1,h1.2.2.1,h1.2.2.2.1,h1.2.2.2.2.1,h1.2.2.2.2.2.1,h1.2.2.2.2.2.2.1,(h1.2.2.2.2.2.2.2.1 ++ ([A11 (n1,u16.1,u16.2.1,u16.2.2.1,u16.2.2.2.1,())]:bTA)),()),fJ u20,aB u22]))):=BA cc
end
section
def a5G:KT:=SS.rK Tryz.f36 36 0 []
def b8N:KT:=SS.jK 36 65 0 (cS Tryz.f36 127) a5G
def b8O:KT:=bI 0 b8N
def wz (q0:Sh.V iK) (q1:Sh.V aI) (q2:Sh.V dY):R:=SS.LL (SS.ae 36 65) 0 [2,6] 3 (cS Tryz.f36 287) b8O ⟨[(2,bT8),(6,.ptr 2 0)],[bH q0,aB q1,aZ q2]⟩
def a5F (q0:Sh.V iK) (q1:Sh.V aI) (q2:Sh.V dY):R:=bG (SS.xX 36 65 0) (cS Tryz.f36 127) a5G ⟨[(2,bT8),(6,.ptr 2 0)],[bH q0,aB q1,aZ q2]⟩
def a5E (q0:Sh.V iK) (q1:Sh.V aI) (q2:Sh.V dY):R:=bG (SS.xX 36 65 0) (cS Tryz.f36 255) a5G ⟨[(2,bT8),(6,.ptr 2 0)],[bH q0,aB q1,aZ q2]⟩
theorem aJ5 (q0:Sh.V iK) (q1:Sh.V aI) (q2:Sh.V dY):wz q0 q1 q2=Qh 130 [bT8] [aZ q2,aB q1] fun b1 u2 u4=>aA b1 (ji 131 [bT8] [aB u4] fun u10 u15=>aA (u10.1 != 4) (Gh 132 [bT8,.ptr 1 0] [aT u2,bH q0,aB u15] fun _ u21 u23 u30=>wz u23 u30 u21) (a5F q0 u15 u2)) (a5F q0 u4 u2):=ll
theorem b8M (q0:Sh.V iK) (q1:Sh.V aI) (q2:Sh.V dY):a5F q0 q1 q2=Qh 130 [bT8] [aZ q2,aB q1] fun b1 u2 u4=>aA b1 (G1 18 [A0 q0] fun n10=>dw 133 [bT8,bT6 n10] [aB u4] fun _ u12=>a5E q0 u12 u2) (a5E q0 u4 u2):=by kernel_rfl
theorem b8L (q0:Sh.V iK) (q1:Sh.V aI) (q2:Sh.V dY):a5E q0 q1 q2=H17 104 [bT8] [aB q1] fun u1 u4=>aA (u1.2.2.1.1 != 0) (some (.tuple [A0 (⟨#[]⟩,[],[],[],[],[],[],()),bT6 u1.1.1,bT6 u1.2.1.1,bT6 u1.2.2.1.1],[])) (some (.tuple [A0 q0,bT6 0,bT6 0,bT6 0],[])):=by kernel_rfl
theorem b8P (a0:bT9):SS.CC 36 [.str a0] []=H14 100 [.str a0] [] fun u1=>dw 128 [bT8,.str ⟨#[109,111,100,101,108]⟩] [aB u1] fun _ u7=>Af 129 [bT8] [aB u7] fun s13 u14=>dw 128 [bT8,.str ⟨#[59]⟩] [aB u14] fun _ u20=>wz (s13,[],[],[],[],[],[],()) u20 (0,[],()):=cc
theorem b8Q (a0:bT9):SS.CC 40 [.str a0] []=G9 36 [.str a0] fun u1=>aA (u1.2.2.2.1.1 != 0) (some (.tuple [.str ⟨#[]⟩,bT6 u1.2.1.1,bT6 u1.2.2.1.1,bT6 u1.2.2.2.1.1],[])) (G0 17 [A0 u1.1] fun u12=>aA (u12.2.1.1 != 0) (some (.tuple [.str ⟨#[]⟩,bT6 1,bT6 1,bT6 u12.2.1.1],[])) (some (.tuple [.str u12.1.1,bT6 0,bT6 0,bT6 0],[]))):=cc
def b9M:KT:=SS.rK Tryz.f59 59 0 []
def b9N:KT:=SS.jK 59 22 0 (cS Tryz.f59 15) b9M
def b9O:KT:=bI 0 b9N
def Yo (x8:bTA) (x5:bTA) (x10:Int):R:=SS.LL (SS.ae 59 22) 0 [1,5,8,9,10] 0 (cS Tryz.f59 75) b9O ⟨[(1,.func (.func 283) [] []),(5,.sl true 1 x5),(8,.sl false 3 x8),(9,bT6 (x8.length:Int)),(10,bT6 x10)],[]⟩
theorem aJG (x8:bTA) (x5:bTA) (x10:Int):Yo x8 x5 x10=aA (decide (x10<(x8.length:Int))) (bf S8 x8 x10 fun u2=>G2 283 [A8 u2] fun s5=>chk (decide (x5.length+1<=bC)) (Yo x8 (x5 ++ ([.str s5]:bTA)) (i64.wrap (x10+1)))) (some (bT7 x5,[])):=ll
theorem b9P (a0:bTA):SS.CC 59 [.sl false 3 a0,.func (.func 283) [] []] []=Yo a0 [] 0:=cc
def b9V:KT:=SS.rK Tryz.f61 61 0 []
def b9W:KT:=SS.jK 61 22 0 (cS Tryz.f61 15) b9V
def b9X:KT:=bI 0 b9W
def Yq (x8:bTA) (x5:bTA) (x10:Int):R:=SS.LL (SS.ae 61 22) 0 [1,5,8,9,10] 0 (cS Tryz.f61 75) b9X ⟨[(1,.func (.func 277) [] []),(5,.sl true 1 x5),(8,.sl false 9 x8),(9,bT6 (x8.length:Int)),(10,bT6 x10)],[]⟩
theorem aJI (x8:bTA) (x5:bTA) (x10:Int):Yq x8 x5 x10=aA (decide (x10<(x8.length:Int))) (bf S5 x8 x10 fun u2=>G2 277 [A5 u2] fun s11=>chk (decide (x5.length+1<=bC)) (Yq x8 (x5 ++ ([.str s11]:bTA)) (i64.wrap (x10+1)))) (some (bT7 x5,[])):=ll
theorem b9Y (a0:bTA):SS.CC 61 [.sl false 9 a0,.func (.func 277) [] []] []=Yq a0 [] 0:=cc
def bA3:KT:=SS.rK Tryz.f63 63 0 []
def bA4:KT:=SS.jK 63 22 0 (cS Tryz.f63 15) bA3
def bA5:KT:=bI 0 bA4
def Yt (x8:bTA) (x5:bTA) (x10:Int):R:=SS.LL (SS.ae 63 22) 0 [1,5,8,9,10] 0 (cS Tryz.f63 75) bA5 ⟨[(1,.func (.func 285) [] []),(5,.sl true 1 x5),(8,.sl false 2 x8),(9,bT6 (x8.length:Int)),(10,bT6 x10)],[]⟩
theorem aJK (x8:bTA) (x5:bTA) (x10:Int):Yt x8 x5 x10=aA (decide (x10<(x8.length:Int))) (bf mD x8 x10 fun u2=>G2 285 [GZ u2] fun s4=>chk (decide (x5.length+1<=bC)) (Yt x8 (x5 ++ ([.str s4]:bTA)) (i64.wrap (x10+1)))) (some (bT7 x5,[])):=ll
theorem bA6 (a0:bTA):SS.CC 63 [.sl false 2 a0,.func (.func 285) [] []] []=Yt a0 [] 0:=cc
def bAC:KT:=SS.rK Tryz.f65 65 0 []
def bAD:KT:=SS.jK 65 22 0 (cS Tryz.f65 15) bAC
def bAE:KT:=bI 0 bAD
def Yv (x8:bTA) (x5:bTA) (x10:Int):R:=SS.LL (SS.ae 65 22) 0 [1,5,8,9,10] 0 (cS Tryz.f65 75) bAE ⟨[(1,.func (.func 288) [] []),(5,.sl true 1 x5),(8,.sl false 3 x8),(9,bT6 (x8.length:Int)),(10,bT6 x10)],[]⟩
theorem aJM (x8:bTA) (x5:bTA) (x10:Int):Yv x8 x5 x10=aA (decide (x10<(x8.length:Int))) (bf kz x8 x10 fun u2=>G2 288 [zh u2] fun s5=>chk (decide (x5.length+1<=bC)) (Yv x8 (x5 ++ ([.str s5]:bTA)) (i64.wrap (x10+1)))) (some (bT7 x5,[])):=ll
theorem bAF (a0:bTA):SS.CC 65 [.sl false 3 a0,.func (.func 288) [] []] []=Yv a0 [] 0:=cc
theorem a_J (h0:Sh.V dY) (h1:Sh.V aI):SS.CC 130 [bT8] [aZ h0,aB h1]=H17 104 [bT8] [aB h1] fun u1 u4=>some (.bool (u1.2.2.1.1==0),[aZ h0,aB u4]):=cc
theorem O0 (h0:Sh.V bY) (h1:Sh.V iK) (h2:Sh.V aI):SS.CC 132 [bT8,.ptr 1 0] [aT h0,bH h1,aB h2]=ji 131 [bT8] [aB h2] fun u1 u6=>aA (u1.2.1.data.toList==(⟨#[99,111,109,112,111,110,101,110,116]⟩:bT9).data.toList) (aA (u1.1 != 1) (dw 133 [bT8,bT6 14] [aB u6] fun _ u208=>some (.tuple [],[aT h0,bH h1,aB u208])) (aA (decide (32<=(h1.2.2.2.1.length:Int))) (dw 133 [bT8,bT6 3] [aB u6] fun _ bOK=>some (.tuple [],[aT h0,bH h1,aB bOK])) (ji 220 [bT8] [aB u6] fun bSP aBS=>JL 225 [bT8,.ptr 1 0] [some [.ptr 2 0],some [.ptr 3 0],kM h0,bH h1,aB aBS] fun _ aBT bOP aBU=>some (.tuple [],[aT aBT,bH bOP,aB aBU])))) (aA (u1.2.1.data.toList==(⟨#[101,118,101,110,116]⟩:bT9).data.toList) (aA (u1.1 != 1) (dw 133 [bT8,bT6 14] [aB u6] fun _ bOB=>some (.tuple [],[aT h0,bH h1,aB bOB])) (ji 220 [bT8] [aB u6] fun bSO bOD=>JL 221 [bT8,.ptr 1 0] [some [.ptr 2 0],some [.ptr 3 0],kM h0,bH h1,aB bOD] fun _ u193 aBR bOG=>some (.tuple [],[aT u193,bH aBR,aB bOG]))) (aA (u1.2.1.data.toList==(⟨#[101,120,99,108,117,100,101]⟩:bT9).data.toList) (aA (u1.1 != 1) (dw 133 [bT8,bT6 14] [aB u6] fun _ u138=>some (.tuple [],[aT h0,bH h1,aB u138])) (aA (decide (32<=(h1.2.2.2.2.2.1.length:Int))) (dw 133 [bT8,bT6 3] [aB u6] fun _ VZ=>some (.tuple [],[aT h0,bH h1,aB VZ])) (ji 220 [bT8] [aB u6] fun a1H bO6=>JL 228 [bT8,.ptr 1 0] [some [.ptr 2 0],some [.ptr 3 0],kM h0,bH h1,aB bO6] fun _ aBN bO8 bOA=>some (.tuple [],[aT aBN,bH bO8,aB bOA])))) (aA (u1.2.1.data.toList==(⟨#[108,105,109,105,116]⟩:bT9).data.toList) (aA (u1.1 != 1) (dw 133 [bT8,bT6 14] [aB u6] fun _ a1G=>some (.tuple [],[aT h0,bH h1,aB a1G])) (aA (decide (32<=(h1.2.2.2.2.2.2.1.length:Int))) (dw 133 [bT8,bT6 3] [aB u6] fun _ VQ=>some (.tuple [],[aT h0,bH h1,aB VQ])) (ji 220 [bT8] [aB u6] fun aBH VS=>JL 230 [bT8,.ptr 1 0] [some [.ptr 2 0],some [.ptr 3 0],kM h0,bH h1,aB VS] fun _ VU bN' VX=>some (.tuple [],[aT VU,bH bN',aB VX])))) (aA (u1.2.1.data.toList==(⟨#[114,101,113,117,105,114,101,109,101,110,116]⟩:bT9).data.toList) (aA (u1.1 != 1) (dw 133 [bT8,bT6 14] [aB u6] fun _ u62=>some (.tuple [],[aT h0,bH h1,aB u62])) (aA (decide (32<=(h1.2.2.2.2.1.length:Int))) (dw 133 [bT8,bT6 3] [aB u6] fun _ u68=>some (.tuple [],[aT h0,bH h1,aB u68])) (ji 220 [bT8] [aB u6] fun u74 Vg=>JL 227 [bT8,.ptr 1 0] [some [.ptr 2 0],some [.ptr 3 0],kM h0,bH h1,aB Vg] fun _ u85 Vj u94=>some (.tuple [],[aT u85,bH Vj,aB u94])))) (aA (u1.2.1.data.toList==(⟨#[116,101,109,112,108,97,116,101]⟩:bT9).data.toList) (aA (u1.1 != 1) (dw 133 [bT8,bT6 14] [aB u6] fun _ u24=>some (.tuple [],[aT h0,bH h1,aB u24])) (aA (decide (16<=(h1.2.2.1.length:Int))) (dw 133 [bT8,bT6 3] [aB u6] fun _ u30=>some (.tuple [],[aT h0,bH h1,aB u30])) (ji 220 [bT8] [aB u6] fun u36 u41=>JL 223 [bT8,.ptr 1 0] [some [.ptr 2 0],some [.ptr 3 0],kM h0,bH h1,aB u41] fun _ Vf u49 u56=>some (.tuple [],[aT Vf,bH u49,aB u56])))) (aA (u1.1 != 1) (dw 133 [bT8,bT6 14] [aB u6] fun _ u12=>some (.tuple [],[aT h0,bH h1,aB u12])) (dw 133 [bT8,bT6 14] [aB u6] fun _ ku=>some (.tuple [],[aT h0,bH h1,aB ku])))))))):=cc
theorem b3J (h2:Sh.V zk) (h3:Sh.V iK) (h4:Sh.V aI):SS.CC 221 [bT8,.ptr 1 0] [some [.ptr 2 0],some [.ptr 3 0],kM h2,bH h3,aB h4]=Gh 222 [bT8,.ptr 1 0] [aT h2,bH h3,aB h4] fun _ u1 u3 u10=>some (.tuple [],[some [.ptr 2 0],some [.ptr 3 0],kM u1,bH u3,aB u10]):=cc
theorem b3N (h2:Sh.V zk) (h3:Sh.V iK) (h4:Sh.V aI):SS.CC 223 [bT8,.ptr 1 0] [some [.ptr 2 0],some [.ptr 3 0],kM h2,bH h3,aB h4]=Gh 224 [bT8,.ptr 1 0] [aT h2,bH h3,aB h4] fun _ u1 u3 u10=>some (.tuple [],[some [.ptr 2 0],some [.ptr 3 0],kM u1,bH u3,aB u10]):=cc
def aHR:KT:=SS.rK Tryz.f224 224 3 []
def b3P:KT:=SS.jK 224 87 3 (cS Tryz.f224 127) aHR
def b3Q:KT:=bI 0 b3P
def vT (q0:Sh.V bY) (q1:Sh.V iK) (q2:Sh.V aI) (q4:Sh.V gK) (zO:Bool):R:=SS.LL (SS.ae 224 87) 3 [1,2,4,5] 6 (cS Tryz.f224 287) b3Q ⟨[(1,.ptr 1 0),(2,.ptr 3 0),(4,.ptr 4 0),(5,.ptr 5 0)],[aT q0,bH q1,aB q2,some [bT8],fB q4,mV (zO,())]⟩
def a4Q (q0:Sh.V bY) (q1:Sh.V iK) (q2:Sh.V aI) (q4:Sh.V gK):R:=bG (SS.xX 224 87 3) (cS Tryz.f224 127) aHR ⟨[(1,.ptr 1 0),(2,.ptr 3 0),(4,.ptr 4 0)],[aT q0,bH q1,aB q2,some [bT8],fB q4]⟩
theorem YT (q0:Sh.V bY) (q1:Sh.V iK) (q2:Sh.V aI) (q4:Sh.V gK) (zO:Bool):vT q0 q1 q2 q4 zO=Qh 130 [bT8] [aZ q0,aB q2] fun b1 u2 u4=>aA b1 (iU 257 [bT8,.str ⟨#[125]⟩] [aB u4] fun b10 u11=>aA (!b10) (iU 197 [bT8,.str ⟨#[108,111,99,97,116,105,111,110]⟩] [aB u11] fun b17 ku=>aA b17 (H80 280 [bT8,.ptr 1 0,.ptr 2 0] [fJ u2,fB q4,mV (zO,()),aB ku] fun _ u24 u26 u35 u36=>vT u24 q1 u36 u26 u35.1) (iU 197 [bT8,.str ⟨#[118,97,114]⟩] [aB ku] fun b42 u43=>aA b42 (H81 281 [bT8,.ptr 1 0] [aT u2,fB q4,aB u43] fun _ u49 u51 u60=>vT u49 q1 u60 u51 zO) (iU 197 [bT8,.str ⟨#[101,100,103,101]⟩] [aB u43] fun b66 u67=>aA b66 (H81 282 [bT8,.ptr 1 0] [aT u2,fB q4,aB u67] fun _ u73 u75 Lc=>vT u73 q1 Lc u75 zO) (dw 133 [bT8,bT6 14] [aB u67] fun _ Vk=>vT u2 q1 Vk q4 zO)))) (a4Q u2 q1 u11 q4)) (a4Q u2 q1 u4 q4):=ll
theorem b3O (q0:Sh.V bY) (q1:Sh.V iK) (q2:Sh.V aI) (q4:Sh.V gK):a4Q q0 q1 q2 q4=dw 128 [bT8,.str ⟨#[125]⟩] [aB q2] fun _ u1=>G4 180 [bT6 (q4.2.2.1.length:Int)] fun l7=>chk (decide (q1.2.2.1.length+1<=bC)) (some (.tuple [],[aT q0,bH (q1.1,q1.2.1,(q1.2.2.1 ++ ([A5 (q4.1,q4.2.1,q4.2.2.1,l7,(q4.2.1.length:Int),q4.2.2.2.2.2.1,q4.2.2.2.2.2.2.1,q4.2.2.2.2.2.2.2.1,q4.2.2.2.2.2.2.2.2.1,())]:bTA)),q1.2.2.2.1,q1.2.2.2.2.1,q1.2.2.2.2.2.1,q1.2.2.2.2.2.2.1,()),aB u1])):=by kernel_rfl
theorem b3R (h0:Sh.V bY) (h1:Sh.V iK) (h2:Sh.V aI):SS.CC 224 [bT8,.ptr 1 0] [aT h0,bH h1,aB h2]=o6 fun ag=>G4 61 [.sl false 9 h1.2.2.1,.func (.func 277) [] []] fun l1=>ag 1 (CU 272 [bT8,bT7 l1] [aZ h0,aB h2] fun s3 u4 u6=>H83 278 [bT8,.func (.func 279) [] [.ptr 1 0,.ptr 2 0]] [fJ u4,fB (s3,[],[],[],0,0,[],[],[],()),some [bT8],aB u6] fun _ u12 u14 u23=>dw 128 [bT8,.str ⟨#[123]⟩] [aB u23] fun _ u29=>vT u12 h1 u29 u14 false):=BA cc
theorem b3S (h2:Sh.V zk) (h3:Sh.V iK) (h4:Sh.V aI):SS.CC 225 [bT8,.ptr 1 0] [some [.ptr 2 0],some [.ptr 3 0],kM h2,bH h3,aB h4]=Gh 226 [bT8,.ptr 1 0,.ptr 1 3] [aT h2,bH h3,aB h4] fun _ u1 u3 u10=>some (.tuple [],[some [.ptr 2 0],some [.ptr 3 0],kM u1,bH u3,aB u10]):=cc
theorem b3U (h0:Sh.V bY) (h1:Sh.V iK) (h2:Sh.V aI):SS.CC 226 [bT8,.ptr 1 0,.ptr 1 4] [aT h0,bH h1,aB h2]=o6 fun ag=>WT 45 [.sl false 3 h1.2.2.2.1] fun l1=>chk (decide (l1.length+h1.2.2.2.2.1.length<=bC)) (G4 59 [.sl false 3 (l1 ++ h1.2.2.2.2.1),.func (.func 283) [] []] fun l3=>ag 1 (CU 272 [bT8,bT7 l3] [aZ h0,aB h2] fun s5 u6 u8=>dw 128 [bT8,.str ⟨#[61]⟩] [aB u8] fun _ u14=>Af 129 [bT8] [aB u14] fun s20 u21=>H84 278 [bT8,.func (.func 284) [] [.ptr 1 0,.ptr 2 0]] [fJ u6,mQ (s5,s20,[],()),some [bT8],aB u21] fun _ u27 u29 u32=>dw 128 [bT8,.str ⟨#[59]⟩] [aB u32] fun _ u38=>chk (decide (h1.2.2.2.2.1.length+1<=bC)) (some (.tuple [],[aT u27,bH (h1.1,h1.2.1,h1.2.2.1,h1.2.2.2.1,(h1.2.2.2.2.1 ++ ([A8 u29]:bTA)),h1.2.2.2.2.2.1,h1.2.2.2.2.2.2.1,()),aB u38])))):=BA cc
theorem b3T (h0:Sh.V bY) (h1:Sh.V iK) (h2:Sh.V aI):SS.CC 226 [bT8,.ptr 1 0,.ptr 1 3] [aT h0,bH h1,aB h2]=o6 fun ag=>WT 45 [.sl false 3 h1.2.2.2.1] fun l1=>chk (decide (l1.length+h1.2.2.2.2.1.length<=bC)) (G4 59 [.sl false 3 (l1 ++ h1.2.2.2.2.1),.func (.func 283) [] []] fun l3=>ag 1 (CU 272 [bT8,bT7 l3] [aZ h0,aB h2] fun s5 u6 u8=>dw 128 [bT8,.str ⟨#[61]⟩] [aB u8] fun _ u14=>Af 129 [bT8] [aB u14] fun s20 u21=>H84 278 [bT8,.func (.func 284) [] [.ptr 1 0,.ptr 2 0]] [fJ u6,mQ (s5,s20,[],()),some [bT8],aB u21] fun _ u27 u29 u32=>dw 128 [bT8,.str ⟨#[59]⟩] [aB u32] fun _ u38=>chk (decide (h1.2.2.2.1.length+1<=bC)) (some (.tuple [],[aT u27,bH (h1.1,h1.2.1,h1.2.2.1,(h1.2.2.2.1 ++ ([A8 u29]:bTA)),h1.2.2.2.2.1,h1.2.2.2.2.2.1,h1.2.2.2.2.2.2.1,()),aB u38])))):=BA cc
theorem b3V (h2:Sh.V zk) (h3:Sh.V iK) (h4:Sh.V aI):SS.CC 227 [bT8,.ptr 1 0] [some [.ptr 2 0],some [.ptr 3 0],kM h2,bH h3,aB h4]=Gh 226 [bT8,.ptr 1 0,.ptr 1 4] [aT h2,bH h3,aB h4] fun _ u1 u3 u10=>some (.tuple [],[some [.ptr 2 0],some [.ptr 3 0],kM u1,bH u3,aB u10]):=cc
theorem b3W (h2:Sh.V zk) (h3:Sh.V iK) (h4:Sh.V aI):SS.CC 228 [bT8,.ptr 1 0] [some [.ptr 2 0],some [.ptr 3 0],kM h2,bH h3,aB h4]=Gh 229 [bT8,.ptr 1 0] [aT h2,bH h3,aB h4] fun _ u1 u3 u10=>some (.tuple [],[some [.ptr 2 0],some [.ptr 3 0],kM u1,bH u3,aB u10]):=cc
theorem b3X (h0:Sh.V bY) (h1:Sh.V iK) (h2:Sh.V aI):SS.CC 229 [bT8,.ptr 1 0] [aT h0,bH h1,aB h2]=o6 fun ag=>G4 63 [.sl false 2 h1.2.2.2.2.2.1,.func (.func 285) [] []] fun l1=>ag 1 (CU 272 [bT8,bT7 l1] [aZ h0,aB h2] fun s3 u4 u6=>dw 128 [bT8,.str ⟨#[58]⟩] [aB u6] fun _ u12=>H86 286 [bT8,.func (.func 287) [] [.ptr 1 0,.ptr 2 0]] [aB u12,some [.ptr 3 0],uz (s3,[],()),jv u4] fun _ ku u22 u24=>dw 128 [bT8,.str ⟨#[59]⟩] [aB ku] fun _ u28=>chk (decide (h1.2.2.2.2.2.1.length+1<=bC)) (some (.tuple [],[aT u24,bH (h1.1,h1.2.1,h1.2.2.1,h1.2.2.2.1,h1.2.2.2.2.1,(h1.2.2.2.2.2.1 ++ ([GZ u22]:bTA)),h1.2.2.2.2.2.2.1,()),aB u28]))):=BA cc
theorem b3Y (h2:Sh.V zk) (h3:Sh.V iK) (h4:Sh.V aI):SS.CC 230 [bT8,.ptr 1 0] [some [.ptr 2 0],some [.ptr 3 0],kM h2,bH h3,aB h4]=Gh 231 [bT8,.ptr 1 0] [aT h2,bH h3,aB h4] fun _ u1 u3 u10=>some (.tuple [],[some [.ptr 2 0],some [.ptr 3 0],kM u1,bH u3,aB u10]):=cc
def aHS:KT:=SS.rK Tryz.f231 231 3 []
def b41:KT:=SS.jK 231 73 3 (cS Tryz.f231 15) aHS
def b43:KT:=bI 0 b41
def Jl (q0:Sh.V bY) (q1:Sh.V iK) (q2:Sh.V aI) (dH:bT9) (x5:Bool) (AA:bTA):R:=SS.LL (SS.ae 231 73) 3 [0,1,4,5] 4 (cS Tryz.f231 75) b43 ⟨[(0,bT8),(1,.ptr 1 0),(4,.ptr 3 0),(5,.bool x5)],[aT q0,bH q1,aB q2,O64 (dH,AA,0,())]⟩
def a4R (q0:Sh.V bY) (q1:Sh.V iK) (q2:Sh.V aI) (dH:bT9) (AA:bTA):R:=bG (SS.xX 231 73 3) (cS Tryz.f231 15) aHS ⟨[(0,bT8),(1,.ptr 1 0),(4,.ptr 3 0)],[aT q0,bH q1,aB q2,O64 (dH,AA,0,())]⟩
theorem aHT (q0:Sh.V bY) (q1:Sh.V iK) (q2:Sh.V aI) (dH:bT9) (x5:Bool) (AA:bTA):Jl q0 q1 q2 dH x5 AA=aA x5 (Qh 130 [bT8] [aZ q0,aB q2] fun b1 u2 u4=>aA b1 (Ah 289 [bT8] [aZ u2,aB u4] fun n10 u11 u13=>dw 128 [bT8,.str ⟨#[42]⟩] [aB u13] fun _ sV=>Af 129 [bT8] [aB sV] fun s25 u26=>chk (decide (AA.length+1<=bC)) (iU 197 [bT8,.str ⟨#[43]⟩] [aB u26] fun b32 u33=>Jl u11 q1 u33 dH b32 (AA ++ ([QV (s25,n10,())]:bTA)))) (a4R u2 q1 u4 dH AA)) (a4R q0 q1 q2 dH AA):=ll
theorem b3Z (q0:Sh.V bY) (q1:Sh.V iK) (q2:Sh.V aI) (dH:bT9) (AA:bTA):a4R q0 q1 q2 dH AA=dw 128 [bT8,.str ⟨#[60,61]⟩] [aB q2] fun _ u1=>Ah 289 [bT8] [aZ q0,aB u1] fun n7 u8 u10=>dw 128 [bT8,.str ⟨#[59]⟩] [aB u10] fun _ u16=>chk (decide (q1.2.2.2.2.2.2.1.length+1<=bC)) (some (.tuple [],[aT u8,bH (q1.1,q1.2.1,q1.2.2.1,q1.2.2.2.1,q1.2.2.2.2.1,q1.2.2.2.2.2.1,(q1.2.2.2.2.2.2.1 ++ ([zh (dH,AA,n7,())]:bTA)),()),aB u16])):=by kernel_rfl
theorem b45 (h0:Sh.V bY) (h1:Sh.V iK) (h2:Sh.V aI):SS.CC 231 [bT8,.ptr 1 0] [aT h0,bH h1,aB h2]=G4 65 [.sl false 3 h1.2.2.2.2.2.2.1,.func (.func 288) [] []] fun l1=>CU 272 [bT8,bT7 l1] [aZ h0,aB h2] fun s3 u4 u6=>dw 128 [bT8,.str ⟨#[58]⟩] [aB u6] fun _ u12=>Jl u4 h1 u12 s3 true []:=cc
def b5J:KT:=SS.rK Tryz.f272 272 2 []
def YW (q0:Sh.V dY) (q1:Sh.V aI):R:=bG (SS.xX 272 30 2) (cS Tryz.f272 7) b5J ⟨[(0,bT8)],[aZ q0,aB q1]⟩
theorem b5I (q0:Sh.V dY) (q1:Sh.V aI):YW q0 q1=Af 129 [bT8] [aB q1] fun s1 u2=>some (.str s1,[aZ q0,aB u2]):=by kernel_rfl
theorem b5K (a1:bTA) (h0:Sh.V dY) (h1:Sh.V aI):SS.CC 272 [bT8,bT7 a1] [aZ h0,aB h1]=ji 131 [bT8] [aB h1] fun u1 u6=>aA (u1.1==1) (G3 25 [bT7 a1,.str u1.2.1] fun b12=>aA b12 (dw 133 [bT8,bT6 8] [aB u6] fun _ u14=>YW h0 u14) (YW h0 u6)) (YW h0 u6):=cc
theorem b5U (a0:Sh.V S5):SS.CC 277 [A5 a0] []=some (.str a0.1,[]):=cc
theorem b5V (h0:Sh.V gU) (h1:Sh.V mF) (h3:Sh.V aI):SS.CC 278 [bT8,.func (.func 284) [] [.ptr 1 0,.ptr 2 0]] [fJ h0,mQ h1,some [bT8],aB h3]=dw 128 [bT8,.str ⟨#[40]⟩] [aB h3] fun _ u1=>iU 257 [bT8,.str ⟨#[41]⟩] [aB u1] fun b7 u8=>aA (!b7) (aCM 286 [bT8,.func (.func 284) [] [.ptr 1 0,.ptr 2 0]] [aB u8,mQ h1,some [.ptr 3 0],jv h0] fun _ u14 ku u21=>dw 128 [bT8,.str ⟨#[41]⟩] [aB u14] fun _ u25=>some (.tuple [],[fJ u21,mQ ku,some [bT8],aB u25])) (dw 128 [bT8,.str ⟨#[41]⟩] [aB u8] fun _ u31=>some (.tuple [],[fJ h0,mQ h1,some [bT8],aB u31])):=cc
theorem b5W (h0:Sh.V gU) (h1:Sh.V gK) (h3:Sh.V aI):SS.CC 278 [bT8,.func (.func 279) [] [.ptr 1 0,.ptr 2 0]] [fJ h0,fB h1,some [bT8],aB h3]=dw 128 [bT8,.str ⟨#[40]⟩] [aB h3] fun _ u1=>iU 257 [bT8,.str ⟨#[41]⟩] [aB u1] fun b7 u8=>aA (!b7) (H97 286 [bT8,.func (.func 279) [] [.ptr 1 0,.ptr 2 0]] [aB u8,fB h1,some [.ptr 3 0],jv h0] fun _ u14 ku u27=>dw 128 [bT8,.str ⟨#[41]⟩] [aB u14] fun _ u31=>some (.tuple [],[fJ u27,fB ku,some [bT8],aB u31])) (dw 128 [bT8,.str ⟨#[41]⟩] [aB u8] fun _ u37=>some (.tuple [],[fJ h0,fB h1,some [bT8],aB u37])):=cc
theorem b68 (a0:Sh.V S8):SS.CC 283 [A8 a0] []=some (.str a0.1,[]):=cc
theorem b69 (h0:Sh.V mF) (h2:Sh.V gU) (h3:Sh.V aI):SS.CC 284 [bT8,.ptr 1 0] [mQ h0,some [.ptr 2 0],fJ h2,aB h3]=o6 fun ag=>(fun z0 z1=>dA z0 (dA z0 z1)) (Af 129 [bT8] [aB h3] fun s1 u2=>chk (decide (h0.2.2.1.length+1<=bC)) (some (.tuple [],[mQ (h0.1,h0.2.1,(h0.2.2.1 ++ ([.str s1]:bTA)),()),some [.ptr 2 0],fJ h2,aB u2]))) (ag 1 (Af 129 [bT8] [aB h3] fun s1 u2=>chk (decide (h0.2.2.1.length+1<=bC)) (some (.tuple [],[mQ (h0.1,h0.2.1,(h0.2.2.1 ++ ([.str s1]:bTA)),()),some [.ptr 2 0],fJ h2,aB u2])))):=BA cc
theorem b6A (a0:Sh.V mD):SS.CC 285 [GZ a0] []=some (.str a0.1,[]):=cc
def b6K:KT:=SS.rK Tryz.f286 286 4 []
def b6L:KT:=bI 0 b6K
def OE (q0:Sh.V aI) (q1:Sh.V mF) (q3:Sh.V jb):R:=SS.LL (SS.ae 286 19) 4 [0,1] 4 (cS Tryz.f286 19) b6L ⟨[(0,bT8),(1,.func (.func 284) [] [.ptr 1 0,.ptr 2 0])],[aB q0,mQ q1,some [.ptr 3 0],jv q3]⟩
theorem aIF (q0:Sh.V aI) (q1:Sh.V mF) (q3:Sh.V jb):OE q0 q1 q3=aA (q0.2.2.2.1==0) (iU 197 [bT8,.str ⟨#[44]⟩] [aB q0] fun b1 u2=>aA b1 (a2E 284 [bT8,.ptr 1 0] [mQ q1,some [.ptr 2 0],fJ q3,aB u2] fun _ u8 u11 u13=>OE u13 u8 u11) (some (.tuple [],[aB u2,mQ q1,some [.ptr 3 0],jv q3]))) (some (.tuple [],[aB q0,mQ q1,some [.ptr 3 0],jv q3])):=ll
theorem b6M (h0:Sh.V aI) (h1:Sh.V mF) (h3:Sh.V jb):SS.CC 286 [bT8,.func (.func 284) [] [.ptr 1 0,.ptr 2 0]] [aB h0,mQ h1,some [.ptr 3 0],jv h3]=a2E 284 [bT8,.ptr 1 0] [mQ h1,some [.ptr 2 0],fJ h3,aB h0] fun _ u1 u4 u6=>OE u6 u1 u4:=cc
def b6B:KT:=SS.rK Tryz.f286 286 4 []
def b6C:KT:=bI 0 b6B
def OC (q0:Sh.V aI) (q2:Sh.V rU) (q3:Sh.V jb):R:=SS.LL (SS.ae 286 19) 4 [0,1] 4 (cS Tryz.f286 19) b6C ⟨[(0,bT8),(1,.func (.func 287) [] [.ptr 1 0,.ptr 2 0])],[aB q0,some [.ptr 3 0],uz q2,jv q3]⟩
theorem aIC (q0:Sh.V aI) (q2:Sh.V rU) (q3:Sh.V jb):OC q0 q2 q3=aA (q0.2.2.2.1==0) (iU 197 [bT8,.str ⟨#[44]⟩] [aB q0] fun b1 u2=>aA b1 (a2B 287 [bT8,.ptr 1 0] [some [.ptr 2 0],uz q2,fJ q3,aB u2] fun _ u8 u10 u12=>OC u12 u8 u10) (some (.tuple [],[aB u2,some [.ptr 3 0],uz q2,jv q3]))) (some (.tuple [],[aB q0,some [.ptr 3 0],uz q2,jv q3])):=ll
theorem b6D (h0:Sh.V aI) (h2:Sh.V rU) (h3:Sh.V jb):SS.CC 286 [bT8,.func (.func 287) [] [.ptr 1 0,.ptr 2 0]] [aB h0,some [.ptr 3 0],uz h2,jv h3]=a2B 287 [bT8,.ptr 1 0] [some [.ptr 2 0],uz h2,fJ h3,aB h0] fun _ u1 u3 u5=>OC u5 u1 u3:=cc
def b6E:KT:=SS.rK Tryz.f286 286 4 []
def b6F:KT:=bI 0 b6E
def OD (q0:Sh.V aI) (q1:Sh.V gK) (q3:Sh.V jb):R:=SS.LL (SS.ae 286 19) 4 [0,1] 4 (cS Tryz.f286 19) b6F ⟨[(0,bT8),(1,.func (.func 279) [] [.ptr 1 0,.ptr 2 0])],[aB q0,fB q1,some [.ptr 3 0],jv q3]⟩
theorem aID (q0:Sh.V aI) (q1:Sh.V gK) (q3:Sh.V jb):OD q0 q1 q3=aA (q0.2.2.2.1==0) (iU 197 [bT8,.str ⟨#[44]⟩] [aB q0] fun b1 u2=>aA b1 (a2C 279 [bT8,.ptr 1 0] [fB q1,some [.ptr 2 0],fJ q3,aB u2] fun _ u8 rE sV=>OD sV u8 rE) (some (.tuple [],[aB u2,fB q1,some [.ptr 3 0],jv q3]))) (some (.tuple [],[aB q0,fB q1,some [.ptr 3 0],jv q3])):=ll
theorem b6G (h0:Sh.V aI) (h1:Sh.V gK) (h3:Sh.V jb):SS.CC 286 [bT8,.func (.func 279) [] [.ptr 1 0,.ptr 2 0]] [aB h0,fB h1,some [.ptr 3 0],jv h3]=a2C 279 [bT8,.ptr 1 0] [fB h1,some [.ptr 2 0],fJ h3,aB h0] fun _ u1 u10 u12=>OD u12 u1 u10:=cc
def b6H:KT:=SS.rK Tryz.f286 286 4 []
def b6I:KT:=bI 0 b6H
def Su (q0:Sh.V aI) (q2:Sh.V qZ) (q3:Sh.V jb):R:=SS.LL (SS.ae 286 19) 4 [0,1] 4 (cS Tryz.f286 19) b6I ⟨[(0,bT8),(1,.func (.func 329) [] [.ptr 1 0,.ptr 2 0])],[aB q0,some [.ptr 3 0],rQ q2,jv q3]⟩
theorem aIE (q0:Sh.V aI) (q2:Sh.V qZ) (q3:Sh.V jb):Su q0 q2 q3=aA (q0.2.2.2.1==0) (iU 197 [bT8,.str ⟨#[44]⟩] [aB q0] fun b1 u2=>aA b1 (a2D 329 [bT8,.ptr 1 0] [some [.ptr 2 0],rQ q2,fJ q3,aB u2] fun _ u8 u16 ku=>Su ku u8 u16) (some (.tuple [],[aB u2,some [.ptr 3 0],rQ q2,jv q3]))) (some (.tuple [],[aB q0,some [.ptr 3 0],rQ q2,jv q3])):=ll
theorem b6J (h0:Sh.V aI) (h2:Sh.V qZ) (h3:Sh.V jb):SS.CC 286 [bT8,.func (.func 329) [] [.ptr 1 0,.ptr 2 0]] [aB h0,some [.ptr 3 0],rQ h2,jv h3]=a2D 329 [bT8,.ptr 1 0] [some [.ptr 2 0],rQ h2,fJ h3,aB h0] fun _ u1 u9 u11=>Su u11 u1 u9:=cc
theorem b6N (h1:Sh.V rU) (h2:Sh.V gU) (h3:Sh.V aI):SS.CC 287 [bT8,.ptr 1 0] [some [.ptr 2 0],uz h1,fJ h2,aB h3]=Af 129 [bT8] [aB h3] fun s1 u2=>Af 129 [bT8] [aB u2] fun s8 u9=>chk (decide (h1.2.1.length+1<=bC)) (some (.tuple [],[some [.ptr 2 0],uz (h1.1,(h1.2.1 ++ ([MN (s1,s8,())]:bTA)),()),fJ h2,aB u9])):=cc
theorem b6O (a0:Sh.V kz):SS.CC 288 [zh a0] []=some (.str a0.1,[]):=cc
theorem b6P (h0:Sh.V dY) (h1:Sh.V aI):SS.CC 289 [bT8] [aZ h0,aB h1]=N7 276 [bT8,bT6 (-65536),bT6 65536] [aB h1] fun n1 u2=>some (bT6 n1,[aZ h0,aB u2]):=cc
end
end Go.Proofs.YtcdceiloganlnaaGreatDoor.W
namespace Go.Proofs.YtcdceiloganlnaaGreatDoor.W.P
open Go.RowKit
set_option maxRecDepth 1000000
abbrev pc (d:Int) (v:bTA):Sh.V dY:=(d,v,())
theorem opc {A:RA} (h:A.ok) (d:Int) (v:bTA) (lv:Int) (hl:0<lv):∃ o x,SS.CC 255 [bT8,bT6 lv] [aZ (pc d v),aB A.v]=some (.tuple [bT6 o,.bool x,.bool (A.Dv lv)],[aZ (pc d v),aB A.v])/\(A.Dv lv=true->o=(kD A.pk.text).2.1/\x=(kD A.pk.text).2.2):=by
 rw[b58,jH (peek h)];dsimp only;unfold RA.Dv;by_cases h3:A.pk.kind=3
 .rw[show (A.pk.kind != 3)=false by simp[h3],aC,show (A.pk.kind==3)=true by simp[h3]];have:=opm _ (aPM h h3) lv (fun a b c=>some (.tuple [bT6 b,.bool c,.bool (a==lv)],[aZ (pc d v),aB A.v])) (some (.tuple [bT6 0,.bool false,.bool false],[aZ (pc d v),aB A.v]));rw[this];by_cases h0:(kD A.pk.text).1=0
  .rw[aS h0];refine ⟨0,false,?_,?_⟩
   .rw[h0,show ((0:Int)==lv)=false by simp; omega]; rfl
   .rw[h0,show ((0:Int)==lv)=false by simp; omega]; intro c; cases c
  .rw[aQ h0];exact ⟨_,_,by rw[Aa],fun _=>⟨rfl,rfl⟩⟩
 .rw[show (A.pk.kind != 3)=true by simp[h3],aH,show (A.pk.kind==3)=false by simp[h3]];exact ⟨0,false,rfl,fun c=>by cases c⟩
theorem knc {A:RA} (h:A.ok) (q:Sh.V dY) (l:List bT9) (hl:l.length<1000000000000):SS.CC 311 [bT8,bT7 (qC l)] [aZ q,aB A.v]=some (bT6 (A.Oh l),[aZ q,aB (A.kn l).v]):=by
 rw[b7F,jH (peek h)];try dsimp only
 rw[eP (aKU l hl _),jH (peek h)];try dsimp only
 unfold RA.kn RA.Oh;by_cases hk:A.pk.kind=1
 .rw[show (A.pk.kind==1)=true by simp[hk],aH];by_cases hi:qB (bs A.pk.text) l 0<0
  .rw[aO hi,aH,jG (Jf h 9),bF7 hk hi];try dsimp only
   rw[a4Z,Ag (Zx (h.fail 9))]
  .rw[aV hi,aC,a6S (fun c=>hi c.2),a4Z,Ag (Zx h)]
 .rw[show (A.pk.kind==1)=false by simp[hk],aC,a6S (fun c=>hk c.1),a4Z,Ag (Zx h)]
theorem aXZ (d:Int) (v:bTA) (A:RA) (h1:0<=d) (h2:d<32):SS.CC 335 [bT8] [some [.ptr 1 0],aT (pc (d+1) v),aB A.v]=some (.tuple [],[some [.ptr 1 0],aT (pc d v),aB A.v]):=by rw[b80];show (some (PV.tuple [],[some [.ptr 1 0],aT (i64.wrap (d+1-1),v,()),aB A.v]):R)=_;rw[wrap64 (by omega) (by omega),show d+1-1=d by omega]
theorem Zy {g:FuncId} {v:bTA} {A B:RA} {x:EX} {d:Int} (h1:0<=d) (h2:d<32) (h:A.ok)
 (he:∀ (h0:Sh.V bY) (h2:Sh.V aI),SS.CC 307 [bT8,.func (.func g) [] [.ptr 1 0]] [aT h0,some [bT8],aB h2]=aA (h0.1==32) (dw 133 [bT8,bT6 3] [aB h2] fun _ u1=>some (A1 (0,0,0,[],()),[aT h0,some [bT8],aB u1])) (ji 220 [bT8] [aB h2] fun u7 u12=>Qe g [bT8] [some [.ptr 1 0],aT (i64.wrap (h0.1+1),h0.2.1,()),aB u12] fun ku u22 u24=>Qg 335 [bT8] [some [.ptr 1 0],aT u22,aB u24] fun _ u30 u32=>some (A1 ku,[aT u30,some [bT8],aB u32])))
 (hg:SS.CC g [bT8] [some [.ptr 1 0],aT (pc (d+1) v),aB A.next.v]=some (A1 (ev x),[some [.ptr 1 0],aT (pc (d+1) v),aB B.v])) :
 SS.CC 307 [bT8,.func (.func g) [] [.ptr 1 0]] [aT (pc d v),some [bT8],aB A.v]=some (A1 (ev x),[aT (pc d v),some [bT8],aB B.v]):=by
 rw[he,show ((pc d v).1==32)=false by simp; omega,aC,jH (next h)];try dsimp only
 rw[show i64.wrap (d+1)=d+1 from wrap64 (by omega) (by omega),aTT hg];try dsimp only
 rw[aTU (aXZ d v B h1 h2)]
section
variable {F:MF} {v:bTA} {d:Int} {A B:RA} {x:EX}
theorem aW5 (e1:SS.CC 254 [bT8] [aZ (pc d v),aB A.v]=some (A1 (ev x),[aZ (pc d v),aB B.v])):SS.CC 308 [bT8] [some [.ptr 1 0],aT (pc d v),aB A.v]=some (A1 (ev (kw 10 x)),[some [.ptr 1 0],aT (pc d v),aB B.v]):=by rw[b7C,yg e1,ev1]
theorem aW8 (hB:B.ok) (e1:SS.CC 102 [bT8] [aZ (pc d v),aB A.v]=some (A1 (ev x),[aZ (pc d v),aB B.v])):SS.CC 310 [bT8] [some [.ptr 1 0],aT (pc d v),aB A.v]=some (A1 (ev x),[some [.ptr 1 0],aT (pc d v),aB (B.exp [41]).v]):=by
 rw[b7D,yg e1];try dsimp only
 rw[jG (aYY hB)]
theorem aW6 (h:A.ok) (hk:A.pk.kind≠2) (e1:SS.CC 254 [bT8] [aZ (pc d v),aB A.v]=some (A1 (ev x),[aZ (pc d v),aB B.v])):SS.CC 309 [bT8] [some [.ptr 1 0],aT (pc d v),aB A.v]=some (A1 (ev (kw 5 x)),[some [.ptr 1 0],aT (pc d v),aB B.v]):=by
 rw[aIM,jH (peek h)];try dsimp only
 rw[show (A.pk.kind==2)=false by simpa using hk,aC,yg e1,ev1]
theorem aW7 (h:A.ok) (hk:A.pk.kind=2):SS.CC 309 [bT8] [some [.ptr 1 0],aT (pc d v),aB A.v]=some (A1 (ev (nE (i64.wrap (0-A.pk.value)))),[some [.ptr 1 0],aT (pc d v),aB A.next.v]):=by
 rw[aIM,jH (peek h)];try dsimp only
 rw[show (A.pk.kind==2)=true by simp[hk],aH,WY (ZH h 0 65536),(ZG h hk).1,(ZG h hk).2,Rl]
end
section
variable {F:MF} {l:List bT9} {d:Int}
theorem aMY {A B:RA} {lv:Int} {x x1:EX} {v:bTA} (h:A.ok) (h0:0<lv) (h6:lv<6) (c:A.Dv lv=true) (hx:(kD A.pk.text).2.2=false)
 (e:SS.CC 196 [bT8,bT6 (lv+1)] [aZ (pc d v),aB A.next.v]=some (A1 (ev x1),[aZ (pc d v),aB B.v])) :
 Hm lv (pc d v) A.v (ev x)=aA (lv==3) (some (A1 (ev (kW (kD A.pk.text).2.1 x x1)),[aZ (pc d v),aB B.v])) (Hm lv (pc d v) B.v (ev (kW (kD A.pk.text).2.1 x x1))):=by
 obtain ⟨o,xc,e1,e2⟩:=opc h d v lv h0;obtain ⟨e3,e4⟩:=e2 c;rw[hx] at e4;subst e3 e4;rw[aHI,aCT e1];try dsimp only
 rw[c,uH,aC,jH (next h)];try dsimp only
 rw[wrap64 (by omega) (by omega),yg e];try dsimp only
 rw[aC,au (aX3 (ev x) (ev x1)),aX2,b2S,Xn]
theorem bFB {A:RA} {lv:Int} {x:EX} {v:bTA} (h:A.ok) (h0:0<lv) (c:A.Dv lv=false):Hm lv (pc d v) A.v (ev x)=some (A1 (ev x),[aZ (pc d v),aB A.v]):=by
 obtain ⟨o,xc,e1,_⟩:=opc h d v lv h0;rw[aHI,aCT e1];try dsimp only
 rw[c,uq,aH]
end
section
variable {A B:RA} {x:EX} {d:Int} {v:bTA}
theorem bOS (h:A.ok) (c:A.is [40]=true) (h1:0<=d) (h2:d<32) (hB:B.ok) (e1:SS.CC 102 [bT8] [aZ (pc (d+1) v),aB A.next.v]=some (A1 (ev x),[aZ (pc (d+1) v),aB B.v])) :
 SS.CC 254 [bT8] [aZ (pc d v),aB A.v]=some (A1 (ev x),[aZ (pc d v),aB (B.exp [41]).v]):=by
 rw[Ho,dW (Hr h)];try dsimp only
 rw[is_other h (by decide) (by decide) c (by decide),aC,dW (Jz h)];try dsimp only
 rw[is_other h (by decide) (by decide) c (by decide),aC,dW (Tf h)];try dsimp only
 rw[c,aH,WV (Zy h1 h2 h b7B (aW8 hB e1))]
theorem bOR (h:A.ok) (c:A.is [33]=true) (h1:0<=d) (h2:d<32) (e1:SS.CC 254 [bT8] [aZ (pc (d+1) v),aB A.next.v]=some (A1 (ev x),[aZ (pc (d+1) v),aB B.v])) :
 SS.CC 254 [bT8] [aZ (pc d v),aB A.v]=some (A1 (ev (kw 10 x)),[aZ (pc d v),aB B.v]):=by
 rw[Ho,dW (Hr h)];try dsimp only
 rw[c,aH,jH (peek h)];try dsimp only
 rw[show (A.pk.kind==3)=true by simp[(bDK h (by decide) c).1],aH,WV (Zy h1 h2 h b7A (aW5 e1))]
theorem bOT (h:A.ok) (c:A.is [45]=true) (h1:0<=d) (h2:d<32) (hk:A.next.pk.kind≠2) (e1:SS.CC 254 [bT8] [aZ (pc (d+1) v),aB A.next.v]=some (A1 (ev x),[aZ (pc (d+1) v),aB B.v])) :
 SS.CC 254 [bT8] [aZ (pc d v),aB A.v]=some (A1 (ev (kw 5 x)),[aZ (pc d v),aB B.v]):=by
 rw[Ho,dW (Hr h)];try dsimp only
 rw[is_other h (by decide) (by decide) c (by decide),aC,dW (Jz h)];try dsimp only
 rw[c,aH,WV (Zy h1 h2 h aIL (aW6 h.next hk e1))]
end
theorem bOW {A:RA} {d:Int} {l:List bT9} (hl:l.length<1000000000000) (h:A.ok) (hk:A.pk.kind=1) (hT:A.pk.text≠nH) (hF:A.pk.text≠pz) (hi:0<=qB (bs A.pk.text) l 0) :
 SS.CC 254 [bT8] [aZ (pc d (qC l)),aB A.v]=some (A1 (ev (vE (qB (bs A.pk.text) l 0))),[aZ (pc d (qC l)),aB A.next.v]):=by
 have no:∀ s,s∈jO->A.is s=false:=fun s hs=>by rw[Oa h hs,hk]; rfl
 have cT:A.is nH=false:=by rw[aLF h (by decide),show (A.pk.text==nH)=false by simpa using hT,J5]
 have cF:A.is pz=false:=by rw[aLF h (by decide),show (A.pk.text==pz)=false by simpa using hF,J5]
 have hn:A.kn l=A.next:=by unfold RA.kn RA.kp;rw[aQ (by omega)];unfold RA.name;rw[aS hk]
 have hI:A.Oh l=qB (bs A.pk.text) l 0:=by unfold RA.Oh; rw[aQ (by omega)]
 rw[Ho,dW (Hr h)];try dsimp only
 rw[no [33] (by decide),aC,dW (Jz h)];try dsimp only
 rw[no [45] (by decide),aC,dW (Tf h)];try dsimp only
 rw[no [40] (by decide),aC,jH (peek h)];try dsimp only
 rw[show (A.pk.kind==2)=false by simp[hk],aC,dW (tkT h)];try dsimp only
 rw[cT,aC,LU cT,dW (tkF h)];try dsimp only
 rw[cF,aC,LU cF,b56,CV (knc h (pc d (qC l)) l hl),aYX,hn,hI]
section
variable {v:bTA} {d:Int} {T:List Tok} {x:EX}
def Uf (v:bTA) (d:Int) (T:List Tok) (x:EX):Prop:=∀ R,ak (T ++ R)->SS.CC 254 [bT8] [aZ (pc d v),aB (mk0 (T ++ R)).v]=some (A1 (ev x),[aZ (pc d v),aB (mk0 R).v])
def Ef (v:bTA) (d:Int) (T:List Tok) (x:EX) (n:Int):Prop:=∀ R,ak (T ++ R)->Ql R n->SS.CC 196 [bT8,bT6 n] [aZ (pc d v),aB (mk0 (T ++ R)).v]=some (A1 (ev x),[aZ (pc d v),aB (mk0 R).v])
def Lf (v:bTA) (d:Int) (T:List Tok) (x:EX) (n:Int):Prop:=∀ R,ak (T ++ R)->Ql R (n+1)->SS.CC 196 [bT8,bT6 n] [aZ (pc d v),aB (mk0 (T ++ R)).v]=Hm n (pc d v) (mk0 R).v (ev x)
def Xf (v:bTA) (d:Int) (T:List Tok) (x:EX):Prop:=∀ R,ak (T ++ R)->Ql R 1->(mk0 R).is [63]=false->SS.CC 102 [bT8] [aZ (pc d v),aB (mk0 (T ++ R)).v]=some (A1 (ev x),[aZ (pc d v),aB (mk0 R).v])
theorem aCI (h:Uf v d T x):Ef v d T x 6:=fun R hT _=>by rw[a4P];show aA true _ _=_;rw[aH,yg (h R hT)]
theorem a2H {n:Int} (h1:1<=n) (h5:n<=5) (h:Ef v d T x (n+1)):Lf v d T x n:=fun R hT hn=>by rw[a4P,show (n==6)=false by simp; omega,aC,wrap64 (by omega) (by omega),yg (h R hT hn)]
theorem aCH {n:Int} (h1:1<=n) (hk:Nk T) (h:Lf v d T x n):Ef v d T x n:=fun R hT hn=>by rw[h R hT fun lv hlv=>hn lv (by omega)];exact bFB (jX (Fp hk hT)) (by omega) (hn n (J7 _))
theorem down (hk:Nk T):∀ (m:Nat) (n:Int),1<=n->n+(m:Int)<=6->Ef v d T x (n+(m:Int))->Ef v d T x n
 | 0,n,_,_,h=>by grind
 | m+1,n,h1,h6,h=>by have:=down hk m (n+1) (by omega) (by omega) (by rw[show n+1+(m:Int)=n+((m+1:Nat):Int) by omega]; exact h);grind [aCH,a2H]
theorem Nb {m n:Int} (hk:Nk T) (h1:1<=n) (h2:n<=m) (h6:m<=6) (h:Ef v d T x m):Ef v d T x n:=down hk (m-n).toNat n h1 (by omega) (by rw[show n+((m-n).toNat:Int)=m by omega]; exact h)
theorem aDC (hk:Nk T) (h:Ef v d T x 1):Xf v d T x:=fun R hT hn h63=>by
 have hR:=jX (Fp hk hT);rw[aGH,yg (h R hT hn)];try dsimp only
 rw[dW (aSJ hR)];grind [aH,LU]
theorem aDA {o c:Tok} {T1:List Tok} (h0:0<=d) (h1:d<32) (ho:uQ [40] o) (hc:uQ [41] c) (hk:Nk T1) (h:Xf v (d+1) T1 x):Uf v d (o::(T1 ++ [c])) x:=fun R hT=>by
 have e:o::(T1 ++ [c]) ++ R=o::(T1 ++ c::R):=by simp
 rw[e] at hT ⊢;have hT2:=EJ hT (by rw[ho.1]; decide);have hcR:=Fp hk hT2;have hR:=EJ hcR (by rw[hc.1]; decide);have e1:=h (c::R) hT2 (KW hc (by decide)) (ZJ hc (by decide));have hexp:(mk0 (c::R)).exp [41]=mk0 R:=by unfold RA.exp;rw[KC (by decide) hcR hc,GX,DY hc]
 have:=bOS (A:=mk0 (o::(T1 ++ c::R))) (jX hT) (KC (by decide) hT ho) h0 h1 (jX hcR) (by rw[DY ho]; exact e1);rw[hexp] at this;exact this
theorem aUF {o:Tok} {T1:List Tok} (h0:0<=d) (h1:d<32) (ho:uQ [33] o) (h:Uf v (d+1) T1 x):Uf v d (o::T1) (kw 10 x):=fun R hT=>by have hT2:ak (T1 ++ R):=EJ hT (by rw[ho.1]; decide);exact bOR (A:=mk0 (o::(T1 ++ R))) (jX hT) (KC (by decide) hT ho) h0 h1 (by rw[DY ho]; exact h R hT2)
theorem aD9 {o t:Tok} {T1:List Tok} (h0:0<=d) (h1:d<32) (ho:uQ [45] o) (ht:t.kind≠2) (h:Uf v (d+1) (t::T1) x):Uf v d (o::t::T1) (kw 5 x):=fun R hT=>by have hT2:ak (t::T1 ++ R):=EJ hT (by rw[ho.1]; decide);exact bOT (A:=mk0 (o::(t::T1 ++ R))) (jX hT) (KC (by decide) hT ho) h0 h1 (by rw[DY ho]; exact ht) (by rw[DY ho]; exact h R hT2)
theorem aUG {t:Tok} {n:Nat} (ht:dN t=dN (tN n)):Uf v d [t] (nE (n:Int)):=fun R hT=>by
 have hT:ak (t::R):=hT;have k2:(mk0 (t::R)).pk.kind=2:=congrArg (·.1) ht;have hv:(mk0 (t::R)).pk.value=(n:Int):=congrArg (·.2.2) ht;have hA:=jX hT;show SS.CC 254 [bT8] [aZ (pc d v),aB (mk0 (t::R)).v]=_;rw[Ho,dW (Hr hA)];try dsimp only
 rw[a6E k2,aC,dW (Jz hA)];try dsimp only
 rw[a6E k2,aC,dW (Tf hA)];try dsimp only
 rw[a6E k2,aC,jH (peek hA)];try dsimp only
 rw[show ((mk0 (t::R)).pk.kind==2)=true by simp[k2],aH,WY (ZH hA 0 65536),(ZG hA k2).1,(ZG hA k2).2,Rl,hv,xG (by rw[show t.kind=2 from k2]; decide)]
theorem aUH {o t:Tok} {n:Nat} (h0:0<=d) (h1:d<32) (ho:uQ [45] o) (ht:dN t=dN (tN n)) (hn:n<=65536):Uf v d [o,t] (nE (-(n:Int))):=fun R hT=>by
 have hT:ak (o::t::R):=hT;have hT2:=EJ hT (by rw[ho.1]; decide);have hA:=jX hT;have c:=KC (by decide) hT ho;have hnx:(mk0 (o::t::R)).next=mk0 (t::R):=DY ho;have k2:(mk0 (t::R)).pk.kind=2:=congrArg (·.1) ht;have hv:(mk0 (t::R)).pk.value=(n:Int):=congrArg (·.2.2) ht;have hg:=aW7 (d:=d+1) (v:=v) (jX hT2) k2;rw[hv,xG (t:=t) (by rw[show t.kind=2 from k2]; decide),wrap64 (by omega) (by omega),show (0-(n:Int)) = -(n:Int) by omega] at hg;show SS.CC 254 [bT8] [aZ (pc d v),aB (mk0 (o::t::R)).v]=_;rw[Ho,dW (Hr hA)];try dsimp only
 rw[is_other hA (by decide) (by decide) c (by decide),aC,dW (Jz hA)];try dsimp only
 rw[c,aH,WV (Zy h0 h1 hA aIL (by rw[hnx]; exact hg))]
theorem aUI {t:Tok} (hk:t.kind=1) (hT:t.text=nH):Uf v d [t] tE:=fun R hR=>by
 have hR:ak (t::R):=hR;have hA:=jX hR;have no:∀ s,s∈jO->(mk0 (t::R)).is s=false:=fun s hs=>by rw[Oa hA hs];show (t.kind==3&&t.text==s)=false;rw[hk]; rfl
 have c:(mk0 (t::R)).is nH=true:=by show ((t.kind==1||t.kind==3)&&t.text==nH)=true;rw[hk,hT]; rfl
 show SS.CC 254 [bT8] [aZ (pc d v),aB (mk0 (t::R)).v]=_;rw[Ho,dW (Hr hA)];try dsimp only
 rw[no [33] (by decide),aC,dW (Jz hA)];try dsimp only
 rw[no [45] (by decide),aC,dW (Tf hA)];try dsimp only
 rw[no [40] (by decide),aC,jH (peek hA)];try dsimp only
 rw[show ((mk0 (t::R)).pk.kind==2)=false by show (t.kind==2)=false; rw[hk]; rfl,aC,dW (tkT hA)];try dsimp only
 rw[c,aH,gQ c116,VG c,xG (by rw[hk]; decide)]
theorem aUJ {t:Tok} (hk:t.kind=1) (hT:t.text=pz):Uf v d [t] fE:=fun R hR=>by
 have hR:ak (t::R):=hR;have hA:=jX hR;have no:∀ s,s∈jO->(mk0 (t::R)).is s=false:=fun s hs=>by rw[Oa hA hs];show (t.kind==3&&t.text==s)=false;rw[hk]; rfl
 have cT:(mk0 (t::R)).is nH=false:=by show ((t.kind==1||t.kind==3)&&t.text==nH)=false;rw[hT]; simp
 have c:(mk0 (t::R)).is pz=true:=by show ((t.kind==1||t.kind==3)&&t.text==pz)=true;rw[hk,hT]; rfl
 show SS.CC 254 [bT8] [aZ (pc d v),aB (mk0 (t::R)).v]=_;rw[Ho,dW (Hr hA)];try dsimp only
 rw[no [33] (by decide),aC,dW (Jz hA)];try dsimp only
 rw[no [45] (by decide),aC,dW (Tf hA)];try dsimp only
 rw[no [40] (by decide),aC,jH (peek hA)];try dsimp only
 rw[show ((mk0 (t::R)).pk.kind==2)=false by show (t.kind==2)=false; rw[hk]; rfl,aC,dW (tkT hA)];try dsimp only
 rw[cT,aC,LU cT,dW (tkF hA)];try dsimp only
 rw[c,aH,gQ c117,VG c,xG (by rw[hk]; decide)]
theorem aUD {o lv:Int} {a b:EX} {t:Tok} {T1 T2:List Tok} (ho:o=2/\lv=4\/o=3/\lv=4\/o=4/\lv=5\/o=11/\lv=2\/o=12/\lv=1) (ht:uQ (uj o) t) (hk1:Nk T1) (hk2:Nk T2) (ha:Lf v d T1 a lv) (hb:Ef v d T2 b (lv+1)):Lf v d (T1 ++ t::T2) (kW o a b) lv:=fun R hT hn=>by
 have e:T1 ++ t::T2 ++ R=T1 ++ t::(T2 ++ R):=by simp
 rw[e] at hT ⊢;have hop:kD (uj o)=(lv,o,false):=by rcases ho with ⟨rfl,rfl⟩ | ⟨rfl,rfl⟩ | ⟨rfl,rfl⟩ | ⟨rfl,rfl⟩ | ⟨rfl,rfl⟩<;>rfl
 have hT1:=Fp hk1 hT;have hT2:=EJ hT1 (by rw[ht.1]; decide);have htx:(mk0 (t::(T2 ++ R))).pk.text=uj o:=ht.2;have c:(mk0 (t::(T2 ++ R))).Dv lv=true:=by show (t.kind==3&&(kD t.text).1==lv)=true;rw[ht.1,ht.2,hop]; simp
 have hnx:(mk0 (t::(T2 ++ R))).next=mk0 (T2 ++ R):=DY ht;rw[ha _ hT (KW ht (by rw[hop]; omega)),aMY (x1:=b) (B:=mk0 R) (jX hT1) (by omega) (by omega) c (by rw[htx,hop]) (by rw[hnx]; exact hb R hT2 hn),show (lv==3)=false by simp; omega,aC,htx,hop]
theorem aTJ {o:Int} {a b:EX} {t:Tok} {T1 T2:List Tok} (ho:o=6\/o=7\/o=8\/o=9) (ht:uQ (uj o) t) (hk1:Nk T1) (hk2:Nk T2) (ha:Ef v d T1 a 4) (hb:Ef v d T2 b 4):Ef v d (T1 ++ t::T2) (kW o a b) 3:=fun R hT hn=>by
 have e:T1 ++ t::T2 ++ R=T1 ++ t::(T2 ++ R):=by simp
 rw[e] at hT ⊢;have hop:kD (uj o)=(3,o,false):=by rcases ho with rfl | rfl | rfl | rfl<;>rfl
 have hT1:=Fp hk1 hT;have hT2:=EJ hT1 (by rw[ht.1]; decide);have htx:(mk0 (t::(T2 ++ R))).pk.text=uj o:=ht.2;have c:(mk0 (t::(T2 ++ R))).Dv 3=true:=by show (t.kind==3&&(kD t.text).1==3)=true;rw[ht.1,ht.2,hop]; rfl
 have hnx:(mk0 (t::(T2 ++ R))).next=mk0 (T2 ++ R):=DY ht;have ha:=ha _ hT (KW ht (by rw[hop]; omega));rw[a4P];show aA false _ (yf 196 [bT8,bT6 (i64.wrap (3+1))] _ _)=_;rw[aC,wrap64 (by decide) (by decide),yg (show SS.CC 196 [bT8,bT6 (3+1)] [aZ (pc d v),aB (mk0 (T1 ++ t::(T2 ++ R))).v]=_ from ha)];show Hm 3 (pc d v) (mk0 (t::(T2 ++ R))).v (ev a)=_;rw[aMY (x1:=b) (B:=mk0 R) (jX hT1) (by decide) (by decide) c (by rw[htx,hop]) (by rw[hnx]; exact hb R hT2 fun lv h=>hn lv (by omega)),htx,hop];rfl
theorem aUR {c a b:EX} {q k:Tok} {T1 T2 T3:List Tok} (hq:uQ [63] q) (hkk:uQ [58] k) (hk1:Nk T1) (hk2:Nk T2) (hk3:Nk T3) (hc:Ef v d T1 c 1) (ha:Xf v d T2 a) (hb:Xf v d T3 b):Xf v d (T1 ++ q::(T2 ++ k::T3)) (.node 13 0 0 [c,a,b]):=fun R hT hn h63=>by
 have e:T1 ++ q::(T2 ++ k::T3) ++ R=T1 ++ q::(T2 ++ k::(T3 ++ R)):=by simp
 rw[e] at hT ⊢;have hT1:=Fp hk1 hT;have hT2:=EJ hT1 (by rw[hq.1]; decide);have TR:=Fp hk2 hT2;have hT4:=EJ TR (by rw[hkk.1]; decide);have ci:=KC (by decide) hT1 hq;have hexp:(mk0 (k::(T3 ++ R))).exp [58]=mk0 (T3 ++ R):=by unfold RA.exp;rw[KC (by decide) TR hkk,GX,DY hkk]
 rw[aGH,yg (hc _ hT (KW hq (by decide)))];try dsimp only
 rw[dW (aSJ (jX hT1))];try dsimp only
 rw[ci,uH,aC,VG ci,DY hq,yg (ha _ hT2 (KW hkk (by decide)) (ZJ hkk (by decide)))];try dsimp only
 rw[jG (aYZ (jX TR)),hexp];try dsimp only
 rw[yg (hb R hT4 hn h63),ev3]
end
def Bd (v:bTA) (d:Int) (T:List Tok) (x:EX):Prop :=(6<=iW x->Uf v d T x)/\((iW x=1\/iW x=2\/iW x=4\/iW x=5)->Lf v d T x (iW x))/\(iW x=3->Ef v d T x 3)/\(iW x=0->Xf v d T x)
section
variable {v:bTA} {d:Int} {T:List Tok} {x:EX}
theorem a2W (hk:Nk T) (h:Bd v d T x) {n:Int} (h1:1<=n) (h6:n<=6) (hn:n<=iW x):Ef v d T x n:=by
 have h7:=aNR x;obtain ⟨b1,b2,b3,b4⟩:=h;by_cases c6:6<=iW x
 .exact Nb hk h1 h6 (J7 _) (aCI (b1 c6))
 .by_cases c3:iW x=3
  .exact Nb hk h1 (by omega) (by decide) (b3 c3)
  .exact Nb hk h1 hn (by omega) (aCH (by omega) hk (b2 (by omega)))
theorem aVN (hk:Nk T) (h:Bd v d T x) {n:Int} (hc:n=1\/n=2\/n=4\/n=5) (hn:n<=iW x):Lf v d T x n:=by
 have h7:=aNR x;by_cases he:n=iW x
 .rw[he]; exact h.2.1 (by omega)
 grind [a2H,a2W]
theorem XF (hk:Nk T) (h:Bd v d T x):Xf v d T x:=by
 have h0:=a81 x;by_cases c:iW x=0
 .exact h.2.2.2 c
 grind [aDC,a2W]
end
structure Wf (v:List PV) (d:Int) (T:List Tok) (x:EX) (need:Int):Prop where
 e:1<=need->need<=6->Ef v d T x need
 l:need=1\/need=2\/need=4\/need=5->Lf v d T x need
 x0:need=0->Xf v d T x
 u:need=6->Uf v d T x
theorem JP {v:bTA} {d:Int} {T:List Tok} {x:EX} (h:6<=iW x) (u:Uf v d T x):Bd v d T x:=⟨fun _=>u,fun c=>by omega,fun c=>by omega,fun c=>by omega⟩
theorem G5 {v:bTA} {x:EX} {B:List Tok} (htv:∀ t,t∈B->Tv t) (hb:∀ (d:Int) (T:List Tok),0<=d->d+2*(fQ x:Int)<=32->T.map dN=B.map dN->Bd v d T x) {need d:Int} (h0:0<=d) (hd:d+2*(fQ x:Int)+1<=32) (hdp:1<=fQ x)
 {T:List Tok} (hT:T.map dN=(wp x need B).map dN):Wf v d T x need:=by
 have hk:Nk T:=BQ hT (xP htv);unfold wp at hT;by_cases hn:iW x<need
 .rw[aS hn] at hT;obtain ⟨o,T1,rfl,h1,h2⟩:=rq hT;obtain ⟨T2,T3,rfl,h3,h4⟩:=kN h2;obtain ⟨c,T4,rfl,h5,h6⟩:=rq h4;obtain rfl:=kP h6;have hk2:Nk T2:=BQ h3 htv;have u:Uf v d (o::(T2 ++ [c])) x:=aDA h0 (by omega) (DZ h1) (DZ h5) hk2 (XF hk2 (hb (d+1) T2 (by omega) (by omega) h3));have e6:=aCI u;exact ⟨fun k1 k2=>Nb hk k1 k2 (J7 _) e6,fun k=>a2H (by omega) (by omega) (Nb hk (by omega) (by omega) (J7 _) e6),fun _=>aDC hk (Nb hk (by decide) (by decide) (J7 _) e6),fun _=>u⟩
 .rw[aQ hn] at hT;have b:=hb d T h0 (by omega) hT;exact ⟨fun k1 k2=>a2W hk b k1 k2 (by omega),fun k=>aVN hk b k (by omega),fun _=>XF hk b,fun k=>b.1 (by omega)⟩
theorem aVO {ns:List (bTB)} {w d:Int} {T:List Tok} (h0 : -65536<=w) (h1:w<=65536) (hd0:0<=d) (hd:d<32) (hT:T.map dN=(eY w).map dN):Uf (NS ns) d T (nE w):=by
 unfold eY at hT;by_cases hw:w<0
 .rw[aS hw] at hT;obtain ⟨o,T1,rfl,k1,k2⟩:=rq hT;obtain ⟨t,T2,rfl,k3,k4⟩:=rq k2;obtain rfl:=kP k4;have:=aUH (v:=NS ns) hd0 hd (DZ k1) k3 (by omega);rwa [show -((-w).toNat:Int)=w by omega] at this
 .rw[aQ hw] at hT;obtain ⟨t,T2,rfl,k3,k4⟩:=rq hT;obtain rfl:=kP k4;have:=aUG (v:=NS ns) (d:=d) k3;rwa [show (w.toNat:Int)=w by omega] at this
theorem bJO {ns:List (bTB)} (hns:∀ s,s∈ns->nameB s=true) (hT:∀ s,s∈ns->s≠nH) (hF:∀ s,s∈ns->s≠pz) (hnd:ns.Nodup) (hlen:ns.length<=1000) {x:EX} {B:List Tok} (h:PB ns x B) :
 ∀ (d:Int) (T:List Tok),0<=d->d+2*(fQ x:Int)<=32->T.map dN=B.map dN->Bd (NS ns) d T x:=by
 induction h with
 | tt =>intro d T h0 h1 hc;obtain ⟨t,T2,rfl,k1,k2⟩:=rq hc;obtain rfl:=kP k2;exact JP (by rw[bG5]; decide) (aUI (congrArg (·.1) k1) (congrArg (·.2.1) k1))
 | ff =>intro d T h0 h1 hc;obtain ⟨t,T2,rfl,k1,k2⟩:=rq hc;obtain rfl:=kP k2;exact JP (by rw[bG2]; decide) (aUJ (congrArg (·.1) k1) (congrArg (·.2.1) k1))
 | @num w v0 v1 =>intro d T h0 h1 hc;have:=BD (nE w);exact JP (by rw[bG3]; split<;>decide) (aVO v0 v1 h0 (by omega) hc)
 | @var i s hs =>
  intro d T h0 h1 hc;obtain ⟨t,T2,rfl,k1,k2⟩:=rq hc;obtain rfl:=kP k2;have hm:=nK hs;have hk:t.kind=1:=congrArg (·.1) k1;have htx:t.text=s:=congrArg (·.2.1) k1;refine JP (by rw[bG6]; decide) fun R hR => ?_
  have hR:ak (t::R):=hR;have hi:qB (bs (mk0 (t::R)).pk.text) (qw ns) 0=(i:Int):=by show qB (bs t.text) (qw ns) 0=(i:Int);rw[htx,a6A ns i 0 s hnd hs]; simp
  have:=bOW (d:=d) (l:=qw ns) (by rw[aX]; omega) (jX hR) hk (by show t.text≠nH; rw[htx]; exact hT s hm) (by show t.text≠pz; rw[htx]; exact hF s hm) (by rw[hi]; omega);rw[hi,xG (by rw[hk]; decide)] at this;exact this
 | @KN w v0 v1 hp ih =>intro d T h0 h1 hc;rw[dp1] at h1;have hd1:=BD (nE w);obtain ⟨o,T1,rfl,k1,k2⟩:=rq hc;obtain ⟨p,T2,rfl,k3,k4⟩:=rq k2;obtain ⟨T3,T4,rfl,k5,k6⟩:=kN k4;obtain ⟨c,T5,rfl,k7,k8⟩:=rq k6;obtain rfl:=kP k8;have hk3:Nk T3:=BQ k5 (aSS (by omega) v1);have hX:=XF hk3 (ih (d+1+1) T3 (by omega) (by omega) k5);exact JP (by rw[a88 (.inl rfl)]; decide) (aD9 h0 (by omega) (DZ k1) (by rw[(DZ k3).1]; decide) (aDA (by omega) (by omega) (DZ k3) (DZ k7) hk3 hX))
 | @neg o v i l A hc0 hp ih =>intro d T h0 h1 hc;rw[dp1] at h1;have hd1:=BD (.node o v i l);obtain ⟨m,T1,rfl,k1,k2⟩:=rq hc;obtain ⟨t,T2,rfl,k3⟩:=aZ9 hc0 hp k2;have hw:=G5 (ul hns hp) ih (need:=6) (d:=d+1) (by omega) (by omega) hd1 k2;exact JP (by rw[a88 (.inl rfl)]; decide) (aD9 h0 (by omega) (DZ k1) k3 (hw.u rfl))
 | @yF a A hp ih =>intro d T h0 h1 hc;rw[dp1] at h1;have hd1:=BD a;obtain ⟨m,T1,rfl,k1,k2⟩:=rq hc;have hw:=G5 (ul hns hp) ih (need:=6) (d:=d+1) (by omega) (by omega) hd1 k2;exact JP (by rw[a88 (.inr rfl)]; decide) (aUF h0 (by omega) (DZ k1) (hw.u rfl))
 | @cmp o a b A B ho ht hf ha hb iha ihb =>intro d T h0 h1 hc;rw[dp2] at h1;have hd1:=BD a;have hd2:=BD b;obtain ⟨T1,t,T2,rfl,k1,k2,k3⟩:=Xa hc;have w1:=G5 (ul hns ha) iha (need:=4) (d:=d) h0 (by omega) hd1 k1;have w2:=G5 (ul hns hb) ihb (need:=4) (d:=d) h0 (by omega) hd2 k3;have l3:=a7' ho ht hf;exact ⟨fun c=>by omega,fun c=>by omega,fun _=>aTJ ho k2 (BQ k1 (xP (ul hns ha))) (BQ k3 (xP (ul hns hb))) (w1.e (by decide) (by decide)) (w2.e (by decide) (by decide)),fun c=>by omega⟩
 | @bin o lv a b A B ho ha hb iha ihb =>intro d T h0 h1 hc;rw[dp2] at h1;have hd1:=BD a;have hd2:=BD b;obtain ⟨T1,t,T2,rfl,k1,k2,k3⟩:=Xa hc;have w1:=G5 (ul hns ha) iha (need:=lv) (d:=d) h0 (by omega) hd1 k1;have w2:=G5 (ul hns hb) ihb (need:=lv+1) (d:=d) h0 (by omega) hd2 k3;have ll:=a7Z (a:=a) (b:=b) ho;exact ⟨fun c=>by omega,fun _=>by rw[ll]; exact aUD ho k2 (BQ k1 (xP (ul hns ha))) (BQ k3 (xP (ul hns hb))) (w1.l (by omega)) (w2.e (by omega) (by omega)),fun c=>by omega,fun c=>by omega⟩
 | @ite c a b C A B hcc ha hb OV iha ihb =>intro d T h0 h1 hc;rw[dp3] at h1;have hd0:=BD c;have hd1:=BD a;have hd2:=BD b;obtain ⟨T1,q,T2,rfl,k1,k2,k3⟩:=Xa hc;obtain ⟨T3,k,T4,rfl,k4,k5,k6⟩:=Xa k3;have w0:=G5 (ul hns hcc) OV (need:=1) (d:=d) h0 (by omega) hd0 k1;have w1:=G5 (ul hns ha) iha (need:=0) (d:=d) h0 (by omega) hd1 k4;have w2:=G5 (ul hns hb) ihb (need:=0) (d:=d) h0 (by omega) hd2 k6;have l0:=aNQ c a b;exact ⟨fun c=>by omega,fun c=>by omega,fun c=>by omega,fun _=>aUR k2 k5 (BQ k1 (xP (ul hns hcc))) (BQ k4 (xP (ul hns ha))) (BQ k6 (xP (ul hns hb))) (w0.e (by decide) (by decide)) (w1.x0 rfl) (w2.x0 rfl)⟩
end Go.Proofs.YtcdceiloganlnaaGreatDoor.W.P
namespace Go.Proofs.YtcdceiloganlnaaGreatDoor.W
open Go.RowKit
set_option maxRecDepth 1000000
abbrev wT (s:Nm) (a b:Int):Tok:=⟨1,s,0,a,b⟩
abbrev yT (s:Nm) (a b:Int):Tok:=⟨3,s,0,a,b⟩
abbrev nT (s:Nm) (v a b:Int):Tok:=⟨2,s,v,a,b⟩
section
variable {T:List Tok} {t:Tok} {s x:Nm} {a b v:Int}
theorem Dh:(1:Int)≠4:=by decide
theorem kk2:(2:Int)≠4:=by decide
theorem ZV:(3:Int)≠4:=by decide
theorem IY:(mk0 (t::T)).pk=t:=rfl
theorem a8M (h:ak (t::T)) (hk:t.kind≠4):ak T:=by
 rcases h with h | h
 .exact absurd h.1 hk
 .exact h.2
theorem iL (h:ak (wT s a b::T)):ak T:=a8M h Dh
theorem jQ (h:ak (yT s a b::T)):ak T:=a8M h ZV
theorem okn (h:ak (nT s v a b::T)):ak T:=a8M h kk2
theorem Dz (h:ak (t::T)):SS.CC 131 [bT8] [aB (mk0 (t::T)).v]=some (ng (tk t),[aB (mk0 (t::T)).v]):=peek (jX h)
theorem P8 (h:ak (t::T)) (hk:t.kind≠4):SS.CC 220 [bT8] [aB (mk0 (t::T)).v]=some (ng (tk t),[aB (mk0 T).v]):=by have e:=next (jX h);rw[xG hk] at e;exact e
theorem lW (h:ak (yT x a b::T)):SS.CC 128 [bT8,.str ⟨x.toArray⟩] [aB (mk0 (yT x a b::T)).v]=some (.tuple [],[aB (mk0 T).v]):=by
 have e:=Xx (jX h) ⟨x.toArray⟩;have e2:(mk0 (yT x a b::T)).exp (⟨x.toArray⟩:bT9).data.toList=mk0 T:=by unfold RA.exp RA.is;rw[IY,xG (t:=yT x a b) ZV];simp
 rw[e2] at e;exact e
theorem aZ3 (h:ak (wT x a b::T)):SS.CC 128 [bT8,.str ⟨x.toArray⟩] [aB (mk0 (wT x a b::T)).v]=some (.tuple [],[aB (mk0 T).v]):=by
 have e:=Xx (jX h) ⟨x.toArray⟩;have e2:(mk0 (wT x a b::T)).exp (⟨x.toArray⟩:bT9).data.toList=mk0 T:=by unfold RA.exp RA.is;rw[IY,xG (t:=wT x a b) Dh];simp
 rw[e2] at e;exact e
theorem IG (h:ak (wT s a b::T)):SS.CC 129 [bT8] [aB (mk0 (wT s a b::T)).v]=some (.str (bs s),[aB (mk0 T).v]):=by
 have e:=Zx (jX h);have e2:(mk0 (wT s a b::T)).name=mk0 T:=by unfold RA.name;rw[aS (show (mk0 (wT s a b::T)).pk.kind=1 from rfl),xG (t:=wT s a b) Dh]
 rw[e2] at e;exact e
theorem isq (h:ak (t::T)) (r:Bool) (hr:((t.kind==1||t.kind==3)&&t.text==x)=r):SS.CC 257 [bT8,.str ⟨x.toArray⟩] [aB (mk0 (t::T)).v]=some (.bool r,[aB (mk0 (t::T)).v]):=by
 have e:=Ob (jX h) ⟨x.toArray⟩;have e2:(mk0 (t::T)).is (⟨x.toArray⟩:bT9).data.toList=r:=by unfold RA.is;rw[IY,<- hr]
 rw[e2] at e;exact e
theorem aSK (h:ak (t::T)) (hr:((t.kind==1||t.kind==3)&&t.text==x)=false):SS.CC 197 [bT8,.str ⟨x.toArray⟩] [aB (mk0 (t::T)).v]=some (.bool false,[aB (mk0 (t::T)).v]):=by
 have e:=Bz (jX h) ⟨x.toArray⟩;have e2:(mk0 (t::T)).is (⟨x.toArray⟩:bT9).data.toList=false:=by unfold RA.is;rw[IY,<- hr]
 rw[LU e2,e2] at e;exact e
theorem aSL (h:ak (t::T)) (hk:t.kind≠4) (hr:((t.kind==1||t.kind==3)&&t.text==x)=true):SS.CC 197 [bT8,.str ⟨x.toArray⟩] [aB (mk0 (t::T)).v]=some (.bool true,[aB (mk0 T).v]):=by
 have e:=Bz (jX h) ⟨x.toArray⟩;have e2:(mk0 (t::T)).is (⟨x.toArray⟩:bT9).data.toList=true:=by unfold RA.is;rw[IY,<- hr]
 rw[VG e2,e2,xG hk] at e;exact e
theorem inq {lo hi:Int} (h:ak (nT s v a b::T)) (h0:lo<=v) (h1:v<=hi) (h2 : -65536<=v/\v<=65536):SS.CC 276 [bT8,bT6 lo,bT6 hi] [aB (mk0 (nT s v a b::T)).v]=some (bT6 v,[aB (mk0 T).v]):=by
 have e:=ZH (jX h) lo hi;have hm:(mk0 (nT s v a b::T)).mi=false:=rfl;have hw:i64.wrap (1*(mk0 (nT s v a b::T)).pk.value)=v:=by rw[IY,Int.one_mul]; exact wrap64 (by show _<=v; omega) (by show v<=_; omega)
 have e2:(mk0 (nT s v a b::T)).int lo hi=mk0 T:=by unfold RA.int RA.num;rw[hm,yX,aS (show (mk0 (nT s v a b::T)).pk.kind=2 from rfl),hw,aQ (by omega),xG (t:=nT s v a b) kk2]
 have e3:(mk0 (nT s v a b::T)).Hq lo hi=v:=by unfold RA.Hq RA.KX;rw[hm,yX,aS (show (mk0 (nT s v a b::T)).pk.kind=2 from rfl),hw,aQ (by omega)]
 rw[e2,e3] at e;exact e
theorem erq:SS.CC 104 [bT8] [aB (mk0 T).v]=some (.tuple [bT6 0,bT6 0,bT6 0],[aB (mk0 T).v]):=aYJ (mk0 T)
theorem IL (q:Sh.V dY):SS.CC 130 [bT8] [aZ q,aB (mk0 T).v]=some (.bool true,[aZ q,aB (mk0 T).v]):=by rw[a_J,aCU erq]; rfl
theorem Eb (q:Sh.V dY) {l:List Nm} (hl:l.length<=1000) (hs:s∉l) (h:ak (wT s a b::T)):SS.CC 272 [bT8,bT7 (aK l)] [aZ q,aB (mk0 (wT s a b::T)).v]=some (.str (bs s),[aZ q,aB (mk0 T).v]):=by rw[b5K,jH (Dz h)];show aA true (G3 25 [bT7 (aK l),.str (bs s)] _) _=_;rw[aH,bV (a5V l hl s),aV hs,aC,b5I,Ag (IG h)]
end
theorem aEX (l:List Ins) (hn:l.length<=1000):SS.CC 59 [.sl false 3 (l.map iQ),.func (.func 283) [] []] []=some (bT7 (aK (l.map (·.n))),[]):=by
 rw[b9P];refine oC (n:=l.length) (L:=fun k=>Yo (l.map iQ) (aK ((l.take k).map (·.n))) (k:Int)) (fun k hk => ?_) ?_
 .rw[aJG,aO (by rw[dn]; omega),aH,Om hk,wJ (b68 _),au (gz (Dq _ l k hn)),Dp (·.n) l hk,bu (by omega)]
 .rw[aJG,aV (by rw[dn]; omega),aC,yU (cu _)]
theorem aXF (l:List Tm) (hn:l.length<=1000):SS.CC 61 [.sl false 9 (l.map yI),.func (.func 277) [] []] []=some (bT7 (aK (l.map (·.n))),[]):=by
 rw[b9Y];refine oC (n:=l.length) (L:=fun k=>Yq (l.map yI) (aK ((l.take k).map (·.n))) (k:Int)) (fun k hk => ?_) ?_
 .rw[aJI,aO (by rw[dn]; omega),aH,Zm hk,wJ (b5U _),au (gz (Dq _ l k hn)),Dp (·.n) l hk,bu (by omega)]
 .rw[aJI,aV (by rw[dn]; omega),aC,yU (cu _)]
theorem aXG (l:List qG) (hn:l.length<=1000):SS.CC 63 [.sl false 2 (l.map zT),.func (.func 285) [] []] []=some (bT7 (aK (l.map (·.n))),[]):=by
 rw[bA6];refine oC (n:=l.length) (L:=fun k=>Yt (l.map zT) (aK ((l.take k).map (·.n))) (k:Int)) (fun k hk => ?_) ?_
 .rw[aJK,aO (by rw[dn]; omega),aH,UE hk,wJ (b6A _),au (gz (Dq _ l k hn)),Dp (·.n) l hk,bu (by omega)]
 .rw[aJK,aV (by rw[dn]; omega),aC,yU (cu _)]
theorem aXE (l:List Cst) (hn:l.length<=1000):SS.CC 65 [.sl false 3 (l.map xI),.func (.func 288) [] []] []=some (bT7 (aK (l.map (·.n))),[]):=by
 rw[bAF];refine oC (n:=l.length) (L:=fun k=>Yv (l.map xI) (aK ((l.take k).map (·.n))) (k:Int)) (fun k hk => ?_) ?_
 .rw[aJM,aO (by rw[dn]; omega),aH,Zk hk,wJ (b6O _),au (gz (Dq _ l k hn)),Dp (·.n) l hk,bu (by omega)]
 .rw[aJM,aV (by rw[dn]; omega),aC,yU (cu _)]
abbrev Co (T B:List Tok):Prop:=T.map dN=B.map dN
section
variable {T U B:List Tok} {s x:Nm}
theorem iq (h:Co T (tW s::B)):∃ a b T2,T=wT s a b::T2/\Co T2 B:=by obtain ⟨t,T2,rfl,h1,h2⟩:=rq h;obtain ⟨k,tx,v,a,b⟩:=t;have e1:k=1:=congrArg (·.1) h1;have e2:tx=s:=congrArg (·.2.1) h1;have e3:v=0:=congrArg (·.2.2) h1;subst e1 e2 e3;exact ⟨a,b,T2,rfl,h2⟩
theorem jd (h:Co T (tS s::B)):∃ a b T2,T=yT s a b::T2/\Co T2 B:=by obtain ⟨t,T2,rfl,h1,h2⟩:=rq h;obtain ⟨k,tx,v,a,b⟩:=t;have e1:k=3:=congrArg (·.1) h1;have e2:tx=s:=congrArg (·.2.1) h1;have e3:v=0:=congrArg (·.2.2) h1;subst e1 e2 e3;exact ⟨a,b,T2,rfl,h2⟩
theorem aEV {n:Nat} (h:Co T (tN n::B)):∃ s a b T2,T=nT s (n:Int) a b::T2/\Co T2 B:=by obtain ⟨t,T2,rfl,h1,h2⟩:=rq h;obtain ⟨k,tx,v,a,b⟩:=t;have e1:k=2:=congrArg (·.1) h1;have e3:v=(n:Int):=congrArg (·.2.2) h1;subst e1 e3;exact ⟨tx,a,b,T2,rfl,h2⟩
theorem aKX {v lo hi:Int} (hv : -65536<=v/\v<=65536) (h0:lo<=v) (h1:v<=hi) (h:Co T (eY v)) (hT:ak (T ++ U)):SS.CC 276 [.ptr 0 0,.int .i64 lo,.int .i64 hi] [aB (mk0 (T ++ U)).v]=some (.int .i64 v,[aB (mk0 U).v])/\ak U:=by
 unfold eY at h;by_cases c:v<0
 .rw[aS c] at h;obtain ⟨a,b,T1,e_,h_⟩:=jd h; clear h; have h:=h_; clear h_; subst e_;obtain ⟨s,a2,b2,T2,e_,h_⟩:=aEV h; clear h; have h:=h_; clear h_; subst e_;obtain rfl:=kP h;have hT:ak (yT [45] a b::nT s ((-v).toNat:Int) a2 b2::U):=hT;have hT2:=jQ hT;have e:=ZH (jX hT) lo hi;have hn:(mk0 (yT [45] a b::nT s ((-v).toNat:Int) a2 b2::U)).next=mk0 (nT s ((-v).toNat:Int) a2 b2::U):=xG ZV;have hn2:(mk0 (nT s ((-v).toNat:Int) a2 b2::U)).next=mk0 U:=xG kk2;have hw:i64.wrap (-1*(mk0 (nT s ((-v).toNat:Int) a2 b2::U)).pk.value)=v:=by show i64.wrap (-1*((-v).toNat:Int))=v;rw[wrap64 (by omega) (by omega)]; omega
  have e1:(mk0 (yT [45] a b::nT s ((-v).toNat:Int) a2 b2::U)).int lo hi=mk0 U:=by unfold RA.int;rw[show (mk0 (yT [45] a b::nT s ((-v).toNat:Int) a2 b2::U)).mi=true from rfl,GX,hn];unfold RA.num;rw[aS (show (mk0 (nT s ((-v).toNat:Int) a2 b2::U)).pk.kind=2 from rfl),hw,aQ (by omega),hn2]
  have e2:(mk0 (yT [45] a b::nT s ((-v).toNat:Int) a2 b2::U)).Hq lo hi=v:=by unfold RA.Hq;rw[show (mk0 (yT [45] a b::nT s ((-v).toNat:Int) a2 b2::U)).mi=true from rfl,GX,hn];unfold RA.KX;rw[aS (show (mk0 (nT s ((-v).toNat:Int) a2 b2::U)).pk.kind=2 from rfl),hw,aQ (by omega)]
  rw[e1,e2] at e;exact ⟨e,okn hT2⟩
 .rw[aQ c] at h;obtain ⟨s,a2,b2,T2,e_,h_⟩:=aEV h; clear h; have h:=h_; clear h_; subst e_;obtain rfl:=kP h;have hT:ak (nT s (v.toNat:Int) a2 b2::U):=hT;have e:=inq (v:=(v.toNat:Int)) (lo:=lo) (hi:=hi) hT (by omega) (by omega) (by omega);rw[show ((v.toNat:Nat):Int)=v by omega] at e hT;exact ⟨by rw[show ((v.toNat:Nat):Int)=v by omega]; exact e,okn hT⟩
theorem TW {v:Int} (q:Sh.V dY) (hv:R16 v) (h:Co T (eY v)) (hT:ak (T ++ U)):SS.CC 289 [.ptr 0 0] [aZ q,aB (mk0 (T ++ U)).v]=some (.int .i64 v,[aZ q,aB (mk0 U).v])/\ak U:=by obtain ⟨e,h2⟩:=aKX (lo := -65536) (hi:=65536) hv hv.1 hv.2 h hT;exact ⟨by rw[b6P,WY e],h2⟩
theorem Dc {α:Type} (L:List α) {C:List Tok->List α->R} {f:α->List Tok}
 (hs:∀ acc a l T tail,L=acc ++ a::l->Co T (f a)->ak (T ++ tail)->C (T ++ tail) acc=C tail (acc ++ [a])/\ak tail) :
 ∀ (l acc:List α) (T U:List Tok),L=acc ++ l->Co T (l.flatMap f)->ak (T ++ U)->C (T ++ U) acc=C U L/\ak U
 | [],acc,T,U,hL,h,hT=>by obtain rfl:=kP h;rw[wH] at hL;subst hL;exact ⟨rfl,hT⟩
 | a::l,acc,T,U,hL,h,hT=>by rw[CJ] at h;obtain ⟨T1,T2,rfl,h1,h2⟩:=kN h;rw[mO] at hT ⊢;obtain ⟨e1,hT2⟩:=hs acc a l T1 (T2 ++ U) hL h1 hT;obtain ⟨e2,TR⟩:=Dc L hs l (acc ++ [a]) T2 U (by rw[hL]; simp) h2 hT2;exact ⟨e1.trans e2,TR⟩
theorem Ph (s:Tok) (a:List Tok):∀ l:List (List Tok),jM s (a::l)=a ++ l.flatMap (s :: ·)
 | []=>by simp[jM]
 | b::l=>by rw[jM,Ph s b l,CJ]; simp
theorem a0L {α:Type} (L:List α) {C:List Tok->List α->R} {f:α->List Tok} {s:Nm}
 (hs:∀ acc a l T tail p q,L=acc ++ a::l->Co T (f a)->ak (yT s p q::(T ++ tail))->C (yT s p q::(T ++ tail)) acc=C tail (acc ++ [a])/\ak tail)
 (l acc:List α) (T U:List Tok) (hL:L=acc ++ l) (h:Co T ((l.map f).flatMap (tS s :: ·))) (hT:ak (T ++ U)):C (T ++ U) acc=C U L/\ak U :=
 Dc L (f:=fun a=>tS s::f a) (fun acc a l T tail hL h hT=>by obtain ⟨p,q,T2,e_,h_⟩:=jd h; clear h; have h:=h_; clear h_; subst e_;exact hs acc a l T2 tail p q hL h hT) l acc T U hL (by rwa [List.flatMap_map] at h) hT
end
section
variable {T U B:List Tok} {s x w:Nm}
theorem a8A {α β:Type} (f:α->β) (l:List α) (x:α):l.map f ++ [f x]=(l ++ [x]).map f:=by simp
theorem PG {b:Bool} (hb:∃ t B2,B=t::B2/\t.text≠w) (h:Co T ((if b then [tW w] else []) ++ B)) (hT:ak (T ++ U)) :
 ∃ T2,Co T2 B/\ak (T2 ++ U)/\(mk0 (T ++ U)).is w=b/\(mk0 (T ++ U)).take w=mk0 (T2 ++ U):=by
 cases b with
 | true =>obtain ⟨p,q,T2,e_,h_⟩:=iq h; grind [RA.is,IY,iL,VG,xG]
 | false =>grind [rq,RA.is,IY,LU]
theorem Q4 {p q:Int} (h:ak (wT w p q::U)):SS.CC 197 [.ptr 0 0,.str ⟨w.toArray⟩] [aB (mk0 (wT w p q::U)).v]=some (.bool true,[aB (mk0 U).v]):=aSL h Dh (by simp)
theorem VM {p q:Int} (h:ak (yT w p q::U)):SS.CC 197 [.ptr 0 0,.str ⟨w.toArray⟩] [aB (mk0 (yT w p q::U)).v]=some (.bool true,[aB (mk0 U).v]):=aSL h ZV (by simp)
theorem Q5 {p q:Int} (h:ak (yT s p q::U)) (hn:s≠w):SS.CC 197 [.ptr 0 0,.str ⟨w.toArray⟩] [aB (mk0 (yT s p q::U)).v]=some (.bool false,[aB (mk0 (yT s p q::U)).v]):=aSK h (by simp_all)
theorem Tq {p q:Int} (h:ak (wT s p q::U)) (hn:s≠w):SS.CC 257 [.ptr 0 0,.str ⟨w.toArray⟩] [aB (mk0 (wT s p q::U)).v]=some (.bool false,[aB (mk0 (wT s p q::U)).v]):=isq h false (by simp_all)
theorem a6F {p q:Int} (h:ak (yT w p q::U)):SS.CC 257 [.ptr 0 0,.str ⟨w.toArray⟩] [aB (mk0 (yT w p q::U)).v]=some (.bool true,[aB (mk0 (yT w p q::U)).v]):=isq h true (by simp)
abbrev uG:Nm := [99,111,110,116,114,111,108,108,97,98,108,101]
abbrev xR:Nm := [111,98,115,101,114,118,97,98,108,101]
abbrev AY:Nm := [102,111,114,99,105,98,108,101]
abbrev EM:Nm := [102,97,117,108,116]
theorem e328 (q:Sh.V bY) {A:RA} (h:A.ok) (w:Nm):SS.CC 328 [.str ⟨w.toArray⟩,.ptr 0 0] [some [.ptr 1 0],aT q,aB A.v]=some (.bool (A.is w),[some [.ptr 1 0],aT q,aB (A.take w).v]):=by have e:=Bz h ⟨w.toArray⟩;rw[b7N,dW e]
theorem aZB (q:Sh.V dY) {A:RA} (h:A.ok):SS.CC 275 [.ptr 0 0,.sl false 1 [.str ⟨uG.toArray⟩,.str ⟨xR.toArray⟩,.str ⟨AY.toArray⟩]] [aZ q,aB A.v] =
 some (.sl false 1 [.bool (A.is uG),.bool ((A.take uG).is xR),.bool (((A.take uG).take xR).is AY)],[aZ q,aB (((A.take uG).take xR).take AY).v]):=by
 have e:SS.CC 327 [.sl false 1 [.str ⟨uG.toArray⟩,.str ⟨xR.toArray⟩,.str ⟨AY.toArray⟩],.func (.func 328) [] [.ptr 0 0]] [some [.ptr 1 0],aT q,aB A.v] =
  some (.sl false 1 [.bool (A.is uG),.bool ((A.take uG).is xR),.bool (((A.take uG).take xR).is AY)],[some [.ptr 1 0],aT q,aB (((A.take uG).take xR).take AY).v]):=by
  rw[b7M,Yg];show aA true (Qd 328 [.str ⟨uG.toArray⟩,.ptr 0 0] [some [.ptr 1 0],aT q,aB A.v] _) _=_;rw[aH,a2F (e328 q h uG)];try dsimp only
  rw[au (gz (by decide)),Yg];show aA true (Qd 328 [.str ⟨xR.toArray⟩,.ptr 0 0] [some [.ptr 1 0],aT q,aB (A.take uG).v] _) _=_;rw[aH,a2F (e328 q (h.take _) xR)];try dsimp only
  rw[au (gz (by simp)),Yg];show aA true (Qd 328 [.str ⟨AY.toArray⟩,.ptr 0 0] [some [.ptr 1 0],aT q,aB ((A.take uG).take xR).v] _) _=_;rw[aH,a2F (e328 q ((h.take _).take _) AY)];try dsimp only
  rw[au (gz (by simp)),Yg];rfl
 rw[b5Q,aTS e]
theorem aXD (l:List kK) (hn:l.length<=1000):SS.CC 273 [.sl false 5 (l.map yH),.func (.func 274) [] []] []=some (.sl false 1 (aK (l.map (·.n))),[]):=by
 rw[b5O];refine oC (n:=l.length) (L:=fun k=>YX (l.map yH) (aK ((l.take k).map (·.n))) (k:Int)) (fun k hk => ?_) ?_
 .rw[aI9,aO (by rw[dn]; omega),aH,a7L hk,wJ (b5P _),au (gz (Dq _ l k hn)),Dp (·.n) l hk,bu (by omega)]
 grind [aI9,aC]
def evR (e:kK):List Tok:=tW e.n::((if e.c then [tW uG] else []) ++ ((if e.o then [tW xR] else []) ++ ((if e.f then [tW AY] else []) ++ ((if e.k=0 then [] else tW EM::eY e.k) ++ [tS [59]]))))
theorem aYN (e:kK):uN e=tW [101,118,101,110,116]::evR e:=by simp[uN,evR]
theorem evK (m:Mo) (q:Sh.V bY) (e:kK) (hm:m.es.length<=999) (hs:e.n∉m.es.map (·.n)) (hk:0<=e.k/\e.k<=4) (h:Co T (evR e)) (hT:ak (T ++ U)) :
 SS.CC 222 [.ptr 0 0,.ptr 1 0] [aT q,bH (aW m),aB (mk0 (T ++ U)).v]=some (.tuple [],[aT q,bH (aW { m with es:=m.es ++ [e] }),aB (mk0 U).v])/\ak U:=by
 obtain ⟨p1,q1,T1,e_,h_⟩:=iq h; clear h; have h:=h_; clear h_; subst e_;rw[gu] at hT ⊢;have h1:=iL hT;have hF:∃ t B2,(if e.k=0 then [] else tW EM::eY e.k) ++ [tS [59]]=t::B2/\t.text≠AY/\t.text≠xR/\t.text≠uG:=by grind
 obtain ⟨tf,Bf,eF,f1,f2,f3⟩:=hF;have hO:∃ t B2,(if e.f then [tW AY] else []) ++ ((if e.k=0 then [] else tW EM::eY e.k) ++ [tS [59]])=t::B2/\t.text≠xR/\t.text≠uG:=by grind
 obtain ⟨t0,Bo,eO,o1,o2⟩:=hO;have hC:∃ t B2,(if e.o then [tW xR] else []) ++ ((if e.f then [tW AY] else []) ++ ((if e.k=0 then [] else tW EM::eY e.k) ++ [tS [59]]))=t::B2/\t.text≠uG:=by grind
 obtain ⟨T2,c2,k2,i2,t2⟩:=PG hC h h1;obtain ⟨T3,c3,k3,i3,t3⟩:=PG ⟨t0,Bo,eO,o1⟩ c2 k2;obtain ⟨T4,c4,k4,i4,t4⟩:=PG ⟨tf,Bf,eF,f1⟩ c3 k3;have e5:=aZB q (jX h1);rw[i2,t2,i3,t3,i4,t4] at e5;rw[b3M,wK (aXD m.es (by omega)),EU (Eb _ (by rw[aX]; omega) hs hT)];try dsimp only
 rw[aU5 e5];try dsimp only
 show iU 197 [.ptr 0 0,.str ⟨EM.toArray⟩] [aB (mk0 (T4 ++ U)).v] _=_/\_;have fin:∀ {T5:List Tok},Co T5 [tS [59]]->ak (T5 ++ U)->YS q (aW m) (mk0 (T5 ++ U)).v (bs e.n,e.c,e.o,e.f,e.k,())=some (.tuple [],[aT q,bH (aW { m with es:=m.es ++ [e] }),aB (mk0 U).v])/\ak U:=fun {T5} c5 k5=>by obtain ⟨p,r,T6,rfl,c6⟩:=jd c5;obtain rfl:=kP c6;refine ⟨?_,jQ k5⟩;rw[b3K];refine (jG (lW k5)).trans ?_;rw[au (gz (by rw[aX]; omega))];simp
 by_cases c:e.k=0
 .rw[aS c] at c4;obtain ⟨T5,c5,k5,i5,t5⟩:=PG (b:=false) (w:=EM) ⟨_,_,rfl,by decide⟩ c4 k4;have e6:=Bz (jX k4) ⟨EM.toArray⟩;rw[show (⟨EM.toArray⟩:ByteArray).data.toList=EM from rfl,i5,t5] at e6;rw[dW e6];grind [aC]
 .rw[aQ c] at c4;obtain ⟨p,r,T5,rfl,c5⟩:=iq c4;obtain ⟨T6,T7,rfl,c6,c7⟩:=kN c5;rw[gu,mO] at k4 ⊢;obtain ⟨e7,k7⟩:=aKX (lo:=1) (hi:=4) ⟨by omega,by omega⟩ (by omega) hk.2 c6 (iL k4);rw[dW (Q4 (w:=EM) k4)];try dsimp only
  rw[aH,WY e7];grind
theorem aT4 {p q:Int} (h:ak (wT s p q::U)) (hx:x∈jO):s≠x:=fun e=>by
 subst e;rcases h with ⟨h,_⟩ | ⟨h,_⟩
 simp_all
 .rcases h with ⟨_,h⟩ | ⟨h,_⟩ | ⟨h,_⟩
  grind
  simp_all;simp_all
theorem aT6 (q:Sh.V gU) (n t:ByteArray) (l:List Nm) (hl:l.length<=1000) (h:Co T (uV l)) (hT:ak (T ++ U)) :
 SS.CC 278 [.ptr 0 0,.func (.func 284) [] [.ptr 1 0,.ptr 2 0]] [fJ q,mQ (n,t,[],()),some [.ptr 0 0],aB (mk0 (T ++ U)).v]=some (.tuple [],[fJ q,mQ (n,t,aK l,()),some [.ptr 0 0],aB (mk0 U).v])/\ak U:=by
 obtain ⟨p,r,T1,e_,h_⟩:=jd h; clear h; have h:=h_; clear h_; subst e_;rw[gu] at hT ⊢;have h1:=jQ hT;rw[b5V,jG (lW hT)];try dsimp only
 match l,hl,h with
 | [],_,k =>
  obtain ⟨p2,r2,T2,e_,k_⟩:=jd k; clear k; have k:=k_; clear k_; subst e_;obtain rfl:=kP k;refine ⟨?_,jQ h1⟩;refine (dW (a6F (w := [41]) h1)).trans ?_;try dsimp only
  rw[uH,aC];exact (jG (lW h1)).trans rfl
 | s::l,hl,k =>
  rw[oN,Ph] at k;simp only[gu,Ad] at k;obtain ⟨p2,r2,T2,e_,k_⟩:=iq k; clear k; have k:=k_; clear k_; subst e_;obtain ⟨T3,T4,rfl,h3,h4⟩:=kN k;obtain ⟨p3,r3,T5,rfl,h5⟩:=jd h4;obtain rfl:=kP h5;have k1:ak (wT s p2 r2::(T3 ++ (yT [41] p3 r3::U))):=by grind
  have et:(wT s p2 r2::(T3 ++ [yT [41] p3 r3]) ++ U:List Tok)=wT s p2 r2::(T3 ++ (yT [41] p3 r3::U)):=by simp
  have step:∀ (acc:List Nm) (a:Nm) (tail:List Tok) (p q':Int),acc.length<=1000->ak (wT a p q'::tail) ->
   SS.CC 284 [.ptr 0 0,.ptr 1 0] [mQ (n,t,aK acc,()),some [.ptr 2 0],fJ q,aB (mk0 (wT a p q'::tail)).v]=some (.tuple [],[mQ (n,t,aK (acc ++ [a]),()),some [.ptr 2 0],fJ q,aB (mk0 tail).v]):=fun acc a tail p q' ha k=>by
   rw[b69];dsimp only[o6];rw[Ag (IG k)];try dsimp only
   rw[au (gz (by rw[iR]; omega))];repeat rw[Cf]
   show some _=some _;rw[show ([.str (bs a)]:List PV)=aK [a] from rfl,a0X]
  obtain ⟨e2,k2⟩:=a0L (s::l) (C:=fun T acc=>OE (mk0 T).v (n,t,aK acc,()) q) (f:=fun a => [tW a]) (s := [44])
   (fun acc a l' T tail p' q' hL h hT=>by
    obtain ⟨p4,r4,T6,rfl,h6⟩:=iq h;obtain rfl:=kP h6;have ha:acc.length<=1000:=by have:=congrArg List.length hL; grind
    refine ⟨?_,iL (jQ hT)⟩;show OE (mk0 (yT [44] p' q'::wT a p4 r4::tail)).v _ _=_;rw[aIF];show aA true (iU 197 [.ptr 0 0,.str ⟨#[44]⟩] _ _) _=_;rw[aH];refine (dW (VM (w := [44]) hT)).trans ?_;try dsimp only
    rw[aH];exact (aCR (step acc a tail p4 r4 ha (jQ hT))).trans rfl)
   l [s] T3 (yT [41] p3 r3::U) rfl h3 (iL k1)
  have e0:SS.CC 286 [.ptr 0 0,.func (.func 284) [] [.ptr 1 0,.ptr 2 0]] [aB (mk0 (wT s p2 r2::(T3 ++ (yT [41] p3 r3::U)))).v,mQ (n,t,[],()),some [.ptr 3 0],jv q]=some (.tuple [],[aB (mk0 (yT [41] p3 r3::U)).v,mQ (n,t,aK (s::l),()),some [.ptr 3 0],jv q]):=by
   rw[b6M];refine (aCR (step [] s _ p2 r2 (by simp) k1)).trans ?_;refine e2.trans ?_;show OE _ _ _=_;rw[aIF];show aA true (iU 197 [.ptr 0 0,.str ⟨#[44]⟩] _ _) _=_;rw[aH];refine (dW (Q5 (w := [44]) k2 (by decide))).trans ?_;try dsimp only
   rw[aC]
  rw[et];refine ⟨?_,jQ k2⟩;refine (dW (Tq (w := [41]) k1 (aT4 k1 (by decide)))).trans ?_;try dsimp only
  rw[uq,aH];refine (aTR e0).trans ?_;try dsimp only
  exact (jG (lW k2)).trans rfl
end
section
variable {T U B:List Tok} {s x w:Nm}
def inR (x:Ins):List Tok:=tW x.n::tS [61]::tW x.t::(uV x.es ++ [tS [59]])
theorem aKV (w:Nm) (x:Ins):inT w x=tW w::inR x:=by rfl
theorem inC (m:Mo) (q:Sh.V bY) (x:Ins) (hm:m.cs.length+m.rs.length<=999) (hs:x.n∉(m.cs ++ m.rs).map (·.n)) (he:x.es.length<=1000) (h:Co T (inR x)) (hT:ak (T ++ U)) :
 SS.CC 226 [.ptr 0 0,.ptr 1 0,.ptr 1 3] [aT q,bH (aW m),aB (mk0 (T ++ U)).v]=some (.tuple [],[aT q,bH (aW { m with cs:=m.cs ++ [x] }),aB (mk0 U).v])/\ak U:=by
 obtain ⟨p1,r1,T1,e_,h_⟩:=iq h; clear h; have h:=h_; clear h_; subst e_;have h1:=iL hT;obtain ⟨p2,r2,T2,e_,h_⟩:=jd h; clear h; have h:=h_; clear h_; subst e_;have h2:=jQ h1;obtain ⟨p3,r3,T3,e_,h_⟩:=iq h; clear h; have h:=h_; clear h_; subst e_;have h3:=iL h2;obtain ⟨T4,T5,rfl,h4,h5⟩:=kN h;obtain ⟨p6,r6,T6,rfl,h6⟩:=jd h5;obtain rfl:=kP h6;have h3':ak (T4 ++ (yT [59] p6 r6::U)):=by simpa using h3
 obtain ⟨e4,k4⟩:=aT6 q (bs x.n) (bs x.t) x.es he h4 h3';rw[show (T4 ++ (yT [59] p6 r6::U):List Tok)=T4 ++ [yT [59] p6 r6] ++ U by simp] at e4;refine ⟨?_,jQ k4⟩;rw[b3T];dsimp only[o6];rw[a1Y (a3J m.cs (by omega)),au (UK (by rw[aX]; omega) (by rw[aX]; omega)),<- lq,wK (aEX (m.cs ++ m.rs) (by rw[aY]; omega))];refine (EU (Eb _ (by rw[aX,aY]; omega) hs hT)).trans ?_;try dsimp only
 refine (jG (lW h1)).trans ?_;try dsimp only
 refine (Ag (IG h2)).trans ?_;try dsimp only
 refine (aD3 e4).trans ?_;try dsimp only
 refine (jG (lW k4)).trans ?_;rw[au (gz (by rw[aX]; omega))];simp
theorem inQ (m:Mo) (q:Sh.V bY) (x:Ins) (hm:m.cs.length+m.rs.length<=999) (hs:x.n∉(m.cs ++ m.rs).map (·.n)) (he:x.es.length<=1000) (h:Co T (inR x)) (hT:ak (T ++ U)) :
 SS.CC 226 [.ptr 0 0,.ptr 1 0,.ptr 1 4] [aT q,bH (aW m),aB (mk0 (T ++ U)).v]=some (.tuple [],[aT q,bH (aW { m with rs:=m.rs ++ [x] }),aB (mk0 U).v])/\ak U:=by
 obtain ⟨p1,r1,T1,e_,h_⟩:=iq h; clear h; have h:=h_; clear h_; subst e_;have h1:=iL hT;obtain ⟨p2,r2,T2,e_,h_⟩:=jd h; clear h; have h:=h_; clear h_; subst e_;have h2:=jQ h1;obtain ⟨p3,r3,T3,e_,h_⟩:=iq h; clear h; have h:=h_; clear h_; subst e_;have h3:=iL h2;obtain ⟨T4,T5,rfl,h4,h5⟩:=kN h;obtain ⟨p6,r6,T6,rfl,h6⟩:=jd h5;obtain rfl:=kP h6;have h3':ak (T4 ++ (yT [59] p6 r6::U)):=by simpa using h3
 obtain ⟨e4,k4⟩:=aT6 q (bs x.n) (bs x.t) x.es he h4 h3';rw[show (T4 ++ (yT [59] p6 r6::U):List Tok)=T4 ++ [yT [59] p6 r6] ++ U by simp] at e4;refine ⟨?_,jQ k4⟩;rw[b3U];dsimp only[o6];rw[a1Y (a3J m.cs (by omega)),au (UK (by rw[aX]; omega) (by rw[aX]; omega)),<- lq,wK (aEX (m.cs ++ m.rs) (by rw[aY]; omega))];refine (EU (Eb _ (by rw[aX,aY]; omega) hs hT)).trans ?_;try dsimp only
 refine (jG (lW h1)).trans ?_;try dsimp only
 refine (Ag (IG h2)).trans ?_;try dsimp only
 refine (aD3 e4).trans ?_;try dsimp only
 refine (jG (lW k4)).trans ?_;rw[au (gz (by rw[aX]; omega))];simp
def xcR (x:qG):List Tok:=tW x.n::tS [58]::(jM (tS [44]) (x.ls.map fun l => [tW l.1,tW l.2]) ++ [tS [59]])
theorem bPN (x:qG):um x=tW [101,120,99,108,117,100,101]::xcR x:=by rfl
theorem lcK (q:Sh.V jb) (n:ByteArray) (a:Nm×Nm) (l:List (Nm×Nm)) (hl:(a::l).length<=1000) (h:Co T (jM (tS [44]) ((a::l).map fun l => [tW l.1,tW l.2]))) {p r:Int} (hT:ak (T ++ (yT [59] p r::U))) :
 SS.CC 286 [.ptr 0 0,.func (.func 287) [] [.ptr 1 0,.ptr 2 0]] [aB (mk0 (T ++ (yT [59] p r::U))).v,some [.ptr 3 0],uz (n,[],()),jv q]=some (.tuple [],[aB (mk0 (yT [59] p r::U)).v,some [.ptr 3 0],uz (n,(a::l).map BZ,()),jv q])/\ak (yT [59] p r::U):=by
 rw[oN,Ph] at h;simp only[gu,Ad] at h;obtain ⟨p2,r2,T2,e_,h_⟩:=iq h; clear h; have h:=h_; clear h_; subst e_;obtain ⟨p3,r3,T3,e_,h_⟩:=iq h; clear h; have h:=h_; clear h_; subst e_;have k1:=iL hT;have step:∀ (acc:List (Nm×Nm)) (a:Nm×Nm) (tail:List Tok) (p q1 p' q':Int),acc.length<=1000->ak (wT a.1 p q1::wT a.2 p' q'::tail) ->
  SS.CC 287 [.ptr 0 0,.ptr 1 0] [some [.ptr 2 0],uz (n,acc.map BZ,()),fJ q,aB (mk0 (wT a.1 p q1::wT a.2 p' q'::tail)).v]=some (.tuple [],[some [.ptr 2 0],uz (n,(acc ++ [a]).map BZ,()),fJ q,aB (mk0 tail).v]):=fun acc a tail p q1 p' q' ha k=>by
  rw[b6N,Ag (IG k)];try dsimp only
  rw[Ag (IG (iL k)),au (gz (by rw[aX]; omega))];simp
 obtain ⟨e2,k2⟩:=a0L (a::l) (C:=fun T acc=>OC (mk0 T).v (n,acc.map BZ,()) q) (f:=fun a => [tW a.1,tW a.2]) (s := [44])
  (fun acc a l' T tail p' q' hL h hT=>by
   obtain ⟨p4,r4,T6,rfl,h6⟩:=iq h;obtain ⟨p5,r5,T7,rfl,h7⟩:=iq h6;obtain rfl:=kP h7;have ha:acc.length<=1000:=by have:=congrArg List.length hL; grind
   refine ⟨?_,iL (iL (jQ hT))⟩;show OC (mk0 (yT [44] p' q'::wT a.1 p4 r4::wT a.2 p5 r5::tail)).v _ _=_;rw[aIC];show aA true (iU 197 [.ptr 0 0,.str ⟨#[44]⟩] _ _) _=_;rw[aH];refine (dW (VM (w := [44]) hT)).trans ?_;try dsimp only
   rw[aH];exact (aCN (step acc a tail p4 r4 p5 r5 ha (jQ hT))).trans rfl)
  l [a] T3 (yT [59] p r::U) rfl h (iL k1)
 refine ⟨?_,k2⟩;rw[b6D];refine (aCN (step [] a _ p2 r2 p3 r3 (by simp) hT)).trans ?_;refine e2.trans ?_;show OC _ _ _=_;rw[aIC];show aA true (iU 197 [.ptr 0 0,.str ⟨#[44]⟩] _ _) _=_;rw[aH];refine (dW (Q5 (w := [44]) k2 (by decide))).trans ?_;rfl
theorem xcK (m:Mo) (q:Sh.V bY) (x:qG) (hm:m.xs.length<=999) (hs:x.n∉m.xs.map (·.n)) (h0:x.ls ≠ []) (he:x.ls.length<=1000) (h:Co T (xcR x)) (hT:ak (T ++ U)) :
 SS.CC 229 [.ptr 0 0,.ptr 1 0] [aT q,bH (aW m),aB (mk0 (T ++ U)).v]=some (.tuple [],[aT q,bH (aW { m with xs:=m.xs ++ [x] }),aB (mk0 U).v])/\ak U:=by
 obtain ⟨n,ls⟩:=x;match ls,h0,he,h with
 | a::l,_,he,k =>
 obtain ⟨p1,r1,T1,e_,k_⟩:=iq k; clear k; have k:=k_; clear k_; subst e_;have h1:=iL hT;obtain ⟨p2,r2,T2,e_,k_⟩:=jd k; clear k; have k:=k_; clear k_; subst e_;have h2:=jQ h1;obtain ⟨T4,T5,rfl,h4,h5⟩:=kN k;obtain ⟨p6,r6,T6,rfl,h6⟩:=jd h5;obtain rfl:=kP h6;have h3':ak (T4 ++ (yT [59] p6 r6::U)):=by simpa using h2
 obtain ⟨e4,k4⟩:=lcK q (bs n) a l he h4 h3';rw[show (T4 ++ (yT [59] p6 r6::U):List Tok)=T4 ++ [yT [59] p6 r6] ++ U by simp] at e4;refine ⟨?_,jQ k4⟩;rw[b3X];dsimp only[o6];rw[wK (aXG m.xs (by omega))];refine (EU (Eb _ (by rw[aX]; omega) hs hT)).trans ?_;try dsimp only
 refine (jG (lW h1)).trans ?_;try dsimp only
 refine (aU4 e4).trans ?_;try dsimp only
 refine (jG (lW k4)).trans ?_;rw[au (gz (by rw[aX]; omega))];simp
def ctR (x:Cst):List Tok:=tW x.n::tS [58]::(jM (tS [43]) (x.ts.map fun l=>eY l.2 ++ [tS [42],tW l.1]) ++ (tS [60,61]::(eY x.b ++ [tS [59]])))
theorem aXR (x:Cst):su x=tW [108,105,109,105,116]::ctR x:=by simp[su,ctR]
theorem aSN (q:Sh.V bY) (y:Sh.V iK) (n:ByteArray) (acc:List (Nm×Int)) (a:Nm×Int) {tail:List Tok} (ha:acc.length<=1000) (hv:R16 a.2) (h:Co T (eY a.2 ++ [tS [42],tW a.1])) (hT:ak (T ++ tail)) :
 Jl q y (mk0 (T ++ tail)).v n true (acc.map IU)=iU 197 [.ptr 0 0,.str ⟨#[43]⟩] [aB (mk0 tail).v] (fun b u=>Jl q y u n b ((acc ++ [a]).map IU))/\ak tail:=by
 obtain ⟨T1,T2,rfl,h1,h2⟩:=kN h;rw[mO] at hT ⊢;obtain ⟨p2,r2,T3,rfl,h3⟩:=jd h2;obtain ⟨p3,r3,T4,rfl,h4⟩:=iq h3;obtain rfl:=kP h4;obtain ⟨e1,k1⟩:=TW q hv h1 hT;have k2:=jQ k1;refine ⟨?_,iL k2⟩;rw[aHT,aH,Gg (IL _)];try dsimp only
 rw[aH];refine (CV e1).trans ?_;try dsimp only
 refine (jG (lW k1)).trans ?_;try dsimp only
 refine (Ag (IG k2)).trans ?_;try dsimp only
 rw[au (gz (by rw[aX]; omega)),show (QV (bs a.1,a.2,()):PV)=IU a from rfl,a8A];rfl
theorem ctK (m:Mo) (q:Sh.V bY) (x:Cst) (hm:m.ks.length<=999) (hs:x.n∉m.ks.map (·.n)) (h0:x.ts ≠ []) (he:x.ts.length<=1000) (hv:∀ l,l∈x.ts->R16 l.2) (hb:R16 x.b) (h:Co T (ctR x)) (hT:ak (T ++ U)) :
 SS.CC 231 [.ptr 0 0,.ptr 1 0] [aT q,bH (aW m),aB (mk0 (T ++ U)).v]=some (.tuple [],[aT q,bH (aW { m with ks:=m.ks ++ [x] }),aB (mk0 U).v])/\ak U:=by
 obtain ⟨n,ts,b⟩:=x;match ts,h0,he,hv,h with
 | a::l,_,he,hv,k =>
 obtain ⟨p1,r1,T1,e_,k_⟩:=iq k; clear k; have k:=k_; clear k_; subst e_;have h1:=iL hT;obtain ⟨p2,r2,T2,e_,k_⟩:=jd k; clear k; have k:=k_; clear k_; subst e_;have h2:=jQ h1;rw[oN,Ph,mO] at k;obtain ⟨T3,T4,rfl,h3,h4⟩:=kN k;obtain ⟨T5,T6,rfl,h5,h6⟩:=kN h4;obtain ⟨p7,r7,T7,rfl,h7⟩:=jd h6;obtain ⟨T8,T9,rfl,h8,h9⟩:=kN h7;obtain ⟨p9,r9,T10,rfl,h10⟩:=jd h9;obtain rfl:=kP h10;have et:(T3 ++ (T5 ++ yT [60,61] p7 r7::(T8 ++ [yT [59] p9 r9])) ++ U:List Tok)=T3 ++ (T5 ++ (yT [60,61] p7 r7::(T8 ++ (yT [59] p9 r9::U)))):=by simp
 have h2':ak (T3 ++ (T5 ++ (yT [60,61] p7 r7::(T8 ++ (yT [59] p9 r9::U))))):=by rw[<- et]; exact h2
 obtain ⟨e3,k3⟩:=aSN q (aW m) (bs n) [] a (by simp) (hv a (by simp)) h3 h2';obtain ⟨e5,k5⟩:=a0L (a::l) (C:=fun T acc=>iU 197 [.ptr 0 0,.str ⟨#[43]⟩] [aB (mk0 T).v] (fun b u=>Jl q (aW m) u (bs n) b (acc.map IU))) (f:=fun l=>eY l.2 ++ [tS [42],tW l.1]) (s := [43])
  (fun acc a' l' T tail p' q' hL h hT=>by
   have ha:acc.length<=1000:=by have:=congrArg List.length hL; simp at this he; omega
   have hm':a'∈a::l:=by rw[hL]; simp
   obtain ⟨e6,k6⟩:=aSN q (aW m) (bs n) acc a' ha (hv a' hm') h (jQ hT);exact ⟨(dW (VM (w := [43]) hT)).trans e6,k6⟩)
  l [a] T5 _ rfl h5 k3
 have k7:=jQ k5;obtain ⟨e8,k8⟩:=TW q hb h8 k7;refine ⟨?_,jQ k8⟩;rw[b45,wK (aXE m.ks (by omega))];refine (EU (Eb _ (by rw[aX]; omega) hs hT)).trans ?_;try dsimp only
 refine (jG (lW h1)).trans ?_;try dsimp only
 show Jl q (aW m) (mk0 (T3 ++ (T5 ++ yT [60,61] p7 r7::(T8 ++ [yT [59] p9 r9])) ++ U)).v (bs n) true []=_;rw[et];refine e3.trans (e5.trans ?_);try dsimp only
 refine (dW (Q5 (w := [43]) k5 (by decide))).trans ?_;try dsimp only
 rw[aHT,aC,b3Z];refine (jG (lW k5)).trans ?_;try dsimp only
 refine (CV e8).trans ?_;try dsimp only
 refine (jG (lW k8)).trans ?_;rw[au (gz (by rw[aX]; omega))];show some _=some _;rw[show (zh (bs n,(a::l).map IU,b,()):PV)=xI ⟨n,a::l,b⟩ from rfl,a8A]
end
section
variable {T U B:List Tok} {s x w:Nm}
abbrev tQ (n:ByteArray) (es ls:List Nm) (I:Int) (mr:List Int) (vs:List Vr) (ms:List Mv):Sh.V gK:=(n,aK ls,aK es,[],0,I,fV mr,vs.map kE,ms.map AO,())
theorem bPL (q:Sh.V gU) (n:ByteArray) (l:List Nm) (hl:l.length<=1000) (hd:l.Nodup) (h:Co T (uV l)) (hT:ak (T ++ U)) :
 SS.CC 278 [.ptr 0 0,.func (.func 279) [] [.ptr 1 0,.ptr 2 0]] [fJ q,fB (tQ n [] [] 0 [] [] []),some [.ptr 0 0],aB (mk0 (T ++ U)).v]=some (.tuple [],[fJ q,fB (tQ n l [] 0 [] [] []),some [.ptr 0 0],aB (mk0 U).v])/\ak U:=by
 obtain ⟨p,r,T1,e_,h_⟩:=jd h; clear h; have h:=h_; clear h_; subst e_;rw[gu] at hT ⊢;have h1:=jQ hT;rw[b5W,jG (lW hT)];try dsimp only
 match l,hl,hd,h with
 | [],_,_,k =>
  obtain ⟨p2,r2,T2,e_,k_⟩:=jd k; clear k; have k:=k_; clear k_; subst e_;obtain rfl:=kP k;refine ⟨?_,jQ h1⟩;refine (dW (a6F (w := [41]) h1)).trans ?_;try dsimp only
  rw[uH,aC];exact (jG (lW h1)).trans rfl
 | s::l,hl,hd,k =>
  rw[oN,Ph] at k;simp only[gu,Ad] at k;obtain ⟨p2,r2,T2,e_,k_⟩:=iq k; clear k; have k:=k_; clear k_; subst e_;obtain ⟨T3,T4,rfl,h3,h4⟩:=kN k;obtain ⟨p3,r3,T5,rfl,h5⟩:=jd h4;obtain rfl:=kP h5;have k1:ak (wT s p2 r2::(T3 ++ (yT [41] p3 r3::U))):=by grind
  have et:(wT s p2 r2::(T3 ++ [yT [41] p3 r3]) ++ U:List Tok)=wT s p2 r2::(T3 ++ (yT [41] p3 r3::U)):=by simp
  have step:∀ (acc:List Nm) (a:Nm) (tail:List Tok) (p q':Int),acc.length<=1000->a∉acc->ak (wT a p q'::tail) ->
   SS.CC 279 [.ptr 0 0,.ptr 1 0] [fB (tQ n acc [] 0 [] [] []),some [.ptr 2 0],fJ q,aB (mk0 (wT a p q'::tail)).v]=some (.tuple [],[fB (tQ n (acc ++ [a]) [] 0 [] [] []),some [.ptr 2 0],fJ q,aB (mk0 tail).v]):=fun acc a tail p q' ha hn k=>by
   rw[b5X];dsimp only[o6];rw[EU (Eb q ha hn k)];try dsimp only
   rw[au (gz (by rw[iR]; omega))];repeat rw[Cf]
   show some _=some _;rw[show ([.str (bs a)]:List PV)=aK [a] from rfl,a0X]
  obtain ⟨e2,k2⟩:=a0L (s::l) (C:=fun T acc=>OD (mk0 T).v (tQ n acc [] 0 [] [] []) q) (f:=fun a => [tW a]) (s := [44])
   (fun acc a l' T tail p' q' hL h hT=>by
    obtain ⟨p4,r4,T6,rfl,h6⟩:=iq h;obtain rfl:=kP h6;have ha:acc.length<=1000:=by have:=congrArg List.length hL; grind
    have hn:a∉acc:=fun hm=>by rw[hL,a1N] at hd;grind
    refine ⟨?_,iL (jQ hT)⟩;show OD (mk0 (yT [44] p' q'::wT a p4 r4::tail)).v _ _=_;rw[aID];show aA true (iU 197 [.ptr 0 0,.str ⟨#[44]⟩] _ _) _=_;rw[aH];refine (dW (VM (w := [44]) hT)).trans ?_;try dsimp only
    rw[aH];exact (aCP (step acc a tail p4 r4 ha hn (jQ hT))).trans rfl)
   l [s] T3 (yT [41] p3 r3::U) rfl h3 (iL k1)
  have e0:SS.CC 286 [.ptr 0 0,.func (.func 279) [] [.ptr 1 0,.ptr 2 0]] [aB (mk0 (wT s p2 r2::(T3 ++ (yT [41] p3 r3::U)))).v,fB (tQ n [] [] 0 [] [] []),some [.ptr 3 0],jv q]=some (.tuple [],[aB (mk0 (yT [41] p3 r3::U)).v,fB (tQ n (s::l) [] 0 [] [] []),some [.ptr 3 0],jv q]):=by rw[b6G];refine (aCP (step [] s _ p2 r2 (by simp) (by simp) k1)).trans ?_;refine e2.trans ?_;show OD _ _ _=_;rw[aID];show aA true (iU 197 [.ptr 0 0,.str ⟨#[44]⟩] _ _) _=_;rw[aH];refine (dW (Q5 (w := [44]) k2 (by decide))).trans ?_;rfl
  rw[et];refine ⟨?_,jQ k2⟩;refine (dW (Tq (w := [41]) k1 (aT4 k1 (by decide)))).trans ?_;try dsimp only
  rw[uq,aH];refine (aU6 e0).trans ?_;try dsimp only
  exact (jG (lW k2)).trans rfl
abbrev Fz:Nm := [105,110,105,116,105,97,108]
abbrev Lj:Nm := [109,97,114,107,101,100]
abbrev QE:Nm := [108,111,99,97,116,105,111,110]
abbrev wVa:Nm := [118,97,114]
abbrev wEd:Nm := [101,100,103,101]
theorem bFD (q:Sh.V gU) (n:ByteArray) (es:List Nm) {pre:List Nm} (hs:s∉pre) (hp:pre.length<=999) {b1 b2 fl:Bool} (hfl:b1=true->fl=false) (I:Int) {mr:List Int} (hm:mr.length<=1000)
 (h:Co T (tW s::((if b1 then [tW Fz] else []) ++ ((if b2 then [tW Lj] else []) ++ [tS [59]])))) (hT:ak (T ++ U)) :
 SS.CC 280 [.ptr 0 0,.ptr 1 0,.ptr 2 0] [fJ q,fB (tQ n es pre I mr [] []),mV (fl,()),aB (mk0 (T ++ U)).v]=some (.tuple [],[fJ q,fB (tQ n es (pre ++ [s]) (if b1 then (pre.length:Int) else I) (if b2 then mr ++ [(pre.length:Int)] else mr) [] []),mV (b1||fl,()),aB (mk0 U).v])/\ak U:=by
 obtain ⟨p,r,T1,e_,h_⟩:=iq h; clear h; have h:=h_; clear h_; subst e_;rw[gu] at hT ⊢;have hB:∃ t B2,(if b2 then [tW Lj] else []) ++ [tS [59]]=t::B2/\t.text≠Fz:=by grind
 obtain ⟨T2,c2,k2,i2,t2⟩:=PG hB h (iL hT);obtain ⟨T3,c3,k3,i3,t3⟩:=PG (w:=Lj) ⟨_,_,rfl,by decide⟩ c2 k2;obtain ⟨p4,r4,T4,rfl,c4⟩:=jd c3;obtain rfl:=kP c4;have ei:=Ob (jX (iL hT)) ⟨Fz.toArray⟩;rw[show (⟨Fz.toArray⟩:ByteArray).data.toList=Fz from rfl,i2] at ei;have eT:=Bz (jX (iL hT)) ⟨Fz.toArray⟩;rw[show (⟨Fz.toArray⟩:ByteArray).data.toList=Fz from rfl,i2,t2] at eT;have eM:=Bz (jX k2) ⟨Lj.toArray⟩;rw[show (⟨Lj.toArray⟩:ByteArray).data.toList=Lj from rfl,i3,t3] at eM;have hw:i64.wrap (((aK pre ++ ([.str (bs s)]:List PV)).length:Int)-1)=(pre.length:Int):=by rw[aY,iR,rH,wrap64 (by omega) (by omega)]; omega
 have e7:∀ (I':Int) (f':Bool),YY (pre.length:Int) q (tQ n es (pre ++ [s]) I' mr [] []) (mk0 (T2 ++ U)).v f'=some (.tuple [],[fJ q,fB (tQ n es (pre ++ [s]) I' (if b2 then mr ++ [(pre.length:Int)] else mr) [] []),mV (f',()),aB (mk0 U).v]):=fun I' f'=>by
  rw[b5Z];refine (dW eM).trans ?_;try dsimp only
  cases b2 with
  | true =>rw[aH,au (gz (by rw[aX]; omega))];refine (jG (lW k3)).trans ?_;simp
  | false =>rw[aC];exact (jG (lW k3)).trans rfl
 have e5:Sr q (tQ n es (pre ++ [s]) I mr [] []) fl (mk0 (T1 ++ U)).v (pre.length:Int)=some (.tuple [],[fJ q,fB (tQ n es (pre ++ [s]) (if b1 then (pre.length:Int) else I) (if b2 then mr ++ [(pre.length:Int)] else mr) [] []),mV (b1||fl,()),aB (mk0 U).v]):=by rw[b5Y];refine (dW eT).trans ?_;grind [aH,aC]
 refine ⟨?_,jQ k3⟩;rw[b5'];dsimp only[o6];rw[EU (Eb q (by omega) hs hT)];try dsimp only
 rw[au (gz (by rw[iR]; omega)),dW (show SS.CC 257 [.ptr 0 0,.str ⟨#[105,110,105,116,105,97,108]⟩] [aB (mk0 (T1 ++ U)).v]=_ from ei)];try dsimp only
 repeat rw[Cf]
 rw[hw,show aK pre ++ ([.str (bs s)]:List PV)=aK (pre ++ [s]) by rw[show ([.str (bs s)]:List PV)=aK [s] from rfl,a0X]];grind [aH,aC]
theorem aZH {mr:List Int} (hp:mr.Pairwise (· < ·)) (k:Int):mr.filter (fun i=>decide (i<k+1))=if k∈mr then mr.filter (fun i=>decide (i<k)) ++ [k] else mr.filter (fun i=>decide (i<k)):=by
 induction mr with
 | nil=>simp
 | cons a l ih =>
  rw[List.pairwise_cons] at hp;have ih:=ih hp.2;by_cases h1:a<k;grind
  .have e1:l.filter (fun i=>decide (i<k+1)) = []:=List.filter_eq_nil_iff.2 fun b hb=>by have:=hp.1 b hb; simp; omega
   have e2:l.filter (fun i=>decide (i<k)) = []:=List.filter_eq_nil_iff.2 fun b hb=>by have:=hp.1 b hb; simp; omega
   have h3:k∉l:=fun hm=>by have:=hp.1 k hm; omega
   grind
abbrev EW (I:Int) (k:Nat):Int:=if I<(k:Int) then I else 0
abbrev IC (mr:List Int) (k:Nat):List Int:=mr.filter fun i=>decide (i<(k:Int))
theorem aM' (q:Sh.V bY) (m:Sh.V iK) (n:ByteArray) (es:List Nm) {I:Int} (hI:0<=I) {mr:List Int} (hmr:mr.Pairwise (· < ·)) (hml:mr.length<=1000) :
 ∀ (l pre:List Nm) (T:List Tok),(pre ++ l).Nodup->(pre ++ l).length<=1000->Co T (tK I mr pre.length l)->ak (T ++ U) ->
 vT q m (mk0 (T ++ U)).v (tQ n es pre (EW I pre.length) (IC mr pre.length) [] []) (decide (I<(pre.length:Int)))=vT q m (mk0 U).v (tQ n es (pre ++ l) (EW I (pre ++ l).length) (IC mr (pre ++ l).length) [] []) (decide (I<((pre ++ l).length:Int)))/\ak U
 | [],pre,T,_,_,h,hT=>by obtain rfl:=kP h;rw[wH];simp_all
 | s::l,pre,T,hd,hl,h,hT=>by
  rw[tK] at h;obtain ⟨T1,T2,rfl,h1,h2⟩:=kN h;have h1':Co T1 (tW QE::tW s::((if decide (((pre.length:Nat):Int)=I) then [tW Fz] else []) ++ ((if decide (((pre.length:Nat):Int)∈mr) then [tW Lj] else []) ++ [tS [59]]))):=by grind [BH]
  obtain ⟨p,r,T3,rfl,h3⟩:=iq h1';have eT:(wT QE p r::T3 ++ T2 ++ U:List Tok)=wT QE p r::(T3 ++ (T2 ++ U)):=by simp
  rw[eT] at hT ⊢;have hs:s∉pre:=fun hm=>by rw[a1N] at hd;grind
  have hpl:pre.length<=999:=by grind
  obtain ⟨e1,k1⟩:=bFD q n es hs hpl (fl:=decide (I<(pre.length:Int))) (fun c=>by simp_all) (EW I pre.length) (mr:=IC mr pre.length) (mP (List.length_filter_le _ mr) hml) h3 (iL hT);have ih:=aM' q m n es hI hmr hml l (pre ++ [s]) T2 (by grind) (by grind) (by grind) k1;have a1:(if decide (((pre.length:Nat):Int)=I) then ((pre.length:Nat):Int) else EW I pre.length)=EW I (pre ++ [s]).length:=by rw[aY,rH];grind
  have a2:(if decide (((pre.length:Nat):Int)∈mr) then IC mr pre.length ++ [((pre.length:Nat):Int)] else IC mr pre.length)=IC mr (pre ++ [s]).length:=by rw[aY,rH];grind [aZH]
  have a3:(decide (((pre.length:Nat):Int)=I)||decide (I<(pre.length:Int)))=decide (I<((pre ++ [s]).length:Int)):=by rw[aY,rH,<- Bool.decide_or];grind
  rw[a1,a2,a3] at e1;rw[mO] at ih;refine ⟨?_,ih.2⟩;rw[YT,Gg (IL _)];try dsimp only
  rw[aH];refine (dW (Tq (w := [125]) hT (by decide))).trans ?_;try dsimp only
  rw[uq,aH];refine (dW (Q4 (w:=QE) hT)).trans ?_;try dsimp only
  rw[aH];refine (aU2 e1).trans ?_;exact ih.1
end
section
variable {T U B:List Tok} {s x w:Nm}
theorem aBB {p q:Int} (h:ak (wT s p q::U)) (hn:s≠w):SS.CC 197 [.ptr 0 0,.str ⟨w.toArray⟩] [aB (mk0 (wT s p q::U)).v]=some (.bool false,[aB (mk0 (wT s p q::U)).v]):=aSK h (by simp_all)
def vrR (v:Vr):List Tok:=tW v.n::tS [58]::(eY v.lo ++ (tS [46,46]::(eY v.hi ++ (tS [61]::(eY v.i ++ [tS [59]])))))
theorem bP6 (v:Vr):sW v=tW wVa::vrR v:=by simp[sW,vrR]
theorem bP5 (q:Sh.V bY) (n:ByteArray) (es ls:List Nm) (I:Int) (mr:List Int) {pre:List Vr} {v:Vr} (hs:v.n∉pre.map (·.n)) (hp:pre.length<=999) (htf:v.n≠nH/\v.n≠pz) (hr:R16 v.lo/\R16 v.hi/\R16 v.i) (h:Co T (vrR v)) (hT:ak (T ++ U)) :
 SS.CC 281 [.ptr 0 0,.ptr 1 0] [aT q,fB (tQ n es ls I mr pre []),aB (mk0 (T ++ U)).v]=some (.tuple [],[aT q,fB (tQ n es ls I mr (pre ++ [v]) []),aB (mk0 U).v])/\ak U:=by
 obtain ⟨p1,r1,T1,rfl,h1⟩:=iq h;obtain ⟨p2,r2,T2,rfl,h2⟩:=jd h1;obtain ⟨Ta,T3,rfl,ha,h3⟩:=kN h2;obtain ⟨p4,r4,T4,rfl,h4⟩:=jd h3;obtain ⟨Tb,T5,rfl,hb,h5⟩:=kN h4;obtain ⟨p6,r6,T6,rfl,h6⟩:=jd h5;obtain ⟨Tc,T7,rfl,hc,h7⟩:=kN h6;obtain ⟨p8,r8,T8,rfl,h8⟩:=jd h7;obtain rfl:=kP h8;simp only[gu,mO,Ad] at hT ⊢;have k1:=iL hT;obtain ⟨ea,k2⟩:=TW q hr.1 ha (jQ k1);obtain ⟨eb,k3⟩:=TW q hr.2.1 hb (jQ k2);obtain ⟨ec,k4⟩:=TW q hr.2.2 hc (jQ k3);refine ⟨?_,jQ k4⟩;have hk:=aQ9 v.n;rw[show (v.n==nH)=false by simp_all,show (v.n==pz)=false by simp_all] at hk;rw[b62,jH (Dz hT)];show aA true (G3 112 [.str (bs v.n)] _) _=_;rw[aH,bV hk];show aA false _ _=_;rw[aC,b60,WU (aBX pre (by omega))];refine (EU (Eb q (by rw[aX]; omega) hs hT)).trans ?_;try dsimp only
 refine (jG (lW k1)).trans ?_;try dsimp only
 refine (CV ea).trans ?_;try dsimp only
 refine (jG (lW k2)).trans ?_;try dsimp only
 refine (CV eb).trans ?_;try dsimp only
 refine (jG (lW k3)).trans ?_;try dsimp only
 refine (CV ec).trans ?_;try dsimp only
 refine (jG (lW k4)).trans ?_;rw[au (gz (by rw[aX]; omega))];simp
theorem vsK (q:Sh.V bY) (m:Sh.V iK) (n:ByteArray) (es ls:List Nm) (I:Int) (mr:List Int) (fl:Bool) {vs:List Vr} (hl:vs.length<=1000) (hd:(vs.map (·.n)).Nodup) (htf:∀ v,v∈vs->v.n≠nH/\v.n≠pz) (hr:∀ v,v∈vs->R16 v.lo/\R16 v.hi/\R16 v.i) (h:Co T (vs.flatMap sW)) (hT:ak (T ++ U)) :
 vT q m (mk0 (T ++ U)).v (tQ n es ls I mr [] []) fl=vT q m (mk0 U).v (tQ n es ls I mr vs []) fl/\ak U :=
 Dc vs (C:=fun T acc=>vT q m (mk0 T).v (tQ n es ls I mr acc []) fl) (fun acc a l T tail hL h hT=>by
  rw[bP6] at h;obtain ⟨p,r,T1,rfl,h1⟩:=iq h;rw[gu] at hT ⊢;have hm:a∈vs:=by rw[hL]; simp
  have ha:acc.length<=999:=by have:=congrArg List.length hL; grind
  have hn:a.n∉acc.map (·.n):=fun c=>by rw[hL,lq,a1N] at hd;grind
  obtain ⟨e,k⟩:=bP5 q n es ls I mr hn ha (htf a hm) (hr a hm) h1 (iL hT);refine ⟨?_,k⟩;show vT q m (mk0 (wT wVa p r::(T1 ++ tail))).v _ _=_;rw[YT,Gg (IL _)];try dsimp only
  rw[aH];refine (dW (Tq (w := [125]) hT (by decide))).trans ?_;try dsimp only
  rw[uq,aH];refine (dW (aBB (w:=QE) hT (by decide))).trans ?_;try dsimp only
  rw[aC];refine (dW (Q4 (w:=wVa) hT)).trans ?_;try dsimp only
  rw[aH];exact (aD2 e).trans rfl) vs [] T U rfl h hT
theorem ZW (q:Sh.V dY) {ns:List Nm} {i:Nat} (hn:ns.Nodup) (hi:ns[i]? = some s) (hl:ns.length<=1000) {p r:Int} (h:ak (wT s p r::U)) :
 SS.CC 311 [.ptr 0 0,.sl false 1 (aK ns)] [aZ q,aB (mk0 (wT s p r::U)).v]=some (.int .i64 (i:Int),[aZ q,aB (mk0 U).v]):=by
 have e:=P.knc (jX h) q (qw ns) (by rw[aX]; omega);have hx:qB (bs (mk0 (wT s p r::U)).pk.text) (qw ns) 0=(i:Int):=by show qB (bs s) (qw ns) 0=_;rw[a6A ns i 0 s hn hi]; simp
 have h1:(mk0 (wT s p r::U)).Oh (qw ns)=(i:Int):=by grind [RA.Oh]
 have h2:(mk0 (wT s p r::U)).kn (qw ns)=mk0 U:=by unfold RA.kn;rw[a6S (fun c=>by rw[hx] at c; omega)];rfl
 rw[h1,h2] at e;exact e
def Stp (U:List Tok):Prop:=∃ t U2,U=t::U2/\((t.kind=1/\t.text ≠ [63])\/uQ [44] t\/uQ [59] t)
theorem aS7 (h:Stp U):Ql U 1/\(mk0 U).is [63]=false:=by
 obtain ⟨t,U2,rfl,h⟩:=h;rcases h with ⟨h1,h2⟩ | h | h
 .refine ⟨fun lv _ => ?_,?_⟩
  .unfold RA.Dv;show (t.kind==3&&_)=false;rw[h1]; rfl
  .show ((t.kind==1||t.kind==3)&&t.text == [63])=false;rw[show (t.text == [63])=false by grind,J5]
 .exact ⟨KW h (by decide),ZJ h (by decide)⟩
 .exact ⟨KW h (by decide),ZJ h (by decide)⟩
structure Qm (ns:List Nm):Prop where
 g:∀ s,s∈ns->Gn s
 t:∀ s,s∈ns->s≠nH
 f:∀ s,s∈ns->s≠pz
 d:ns.Nodup
 l:ns.length<=1000
theorem bG {ns:List Nm} (hn:Qm ns) {x:EX} (hx:wL ns.length x) (hdp:fQ x<=8) (h:Co T (wo ns x)) (hT:ak (T ++ U)) (hU:Stp U) :
 SS.CC 102 [.ptr 0 0] [aZ (0,aK ns,()),aB (mk0 (T ++ U)).v]=some (A1 (ev x),[aZ (0,aK ns,()),aB (mk0 U).v])/\ak U:=by
 have pb:=(Xw hx).1;have hk:Nk T:=BQ h (ul hn.g pb);have hX:=P.XF hk (P.bJO hn.g hn.t hn.f hn.d hn.l pb 0 T (by decide) (by omega) h);exact ⟨hX U hT (aS7 hU).1 (aS7 hU).2,Fp hk hT⟩
abbrev v48 (x:Mv):Sh.V qZ:=(x.f,x.e,x.t,(ev x.g).1,(ev x.g).2.1,(ev x.g).2.2.1,(ev x.g).2.2.2.1,x.us.map pUp,())
theorem aS' {ns:List Nm} (hn:Qm ns) (x:Mv) (hl:x.us.length<=999) {u:Int×EX} (hu:0<=u.1/\u.1<ns.length) (hx:wL ns.length u.2) (hdp:fQ u.2<=8) (h:Co T (pK ns u)) (hT:ak (T ++ U)) (hU:Stp U) :
 SS.CC 329 [.ptr 0 0,.ptr 1 0] [some [.ptr 2 0],rQ (v48 x),fJ (0,aK ns,()),aB (mk0 (T ++ U)).v]=some (.tuple [],[some [.ptr 2 0],rQ (v48 { x with us:=x.us ++ [u] }),fJ (0,aK ns,()),aB (mk0 U).v])/\ak U:=by
 obtain ⟨p1,r1,T1,rfl,h1⟩:=iq h;obtain ⟨p2,r2,T2,rfl,h2⟩:=jd h1;simp only[gu] at hT ⊢;have k1:=iL hT;obtain ⟨e3,k3⟩:=bG hn hx hdp h2 (jQ k1) hU;have hi:ns[u.1.toNat]? = some (ns.getD u.1.toNat []):=by simp_all
 have e1:=ZW (0,aK ns,()) hn.d hi hn.l hT;rw[show ((u.1.toNat:Nat):Int)=u.1 by omega] at e1;refine ⟨?_,k3⟩;rw[b7O];dsimp only[o6];rw[CV e1];try dsimp only
 rw[jG (show SS.CC 128 [.ptr 0 0,.str ⟨#[58,61]⟩] _=_ from lW k1)];try dsimp only
 rw[yg e3];grind [au,gz,Cf]
theorem bP2 {ns:List Nm} (hn:Qm ns) (x:Mv) (hx0:x.us = []) (a:Int×EX) (l:List (Int×EX)) (hl:(a::l).length<=1000) (hu:∀ u,u∈a::l->(0<=u.1/\u.1<ns.length)/\wL ns.length u.2/\fQ u.2<=8)
 (h:Co T (jM (tS [44]) ((a::l).map (pK ns)))) {p r:Int} (hT:ak (T ++ (yT [59] p r::U))) :
 SS.CC 286 [.ptr 0 0,.func (.func 329) [] [.ptr 1 0,.ptr 2 0]] [aB (mk0 (T ++ (yT [59] p r::U))).v,some [.ptr 3 0],rQ (v48 x),jv (0,aK ns,())]=some (.tuple [],[aB (mk0 (yT [59] p r::U)).v,some [.ptr 3 0],rQ (v48 { x with us:=a::l }),jv (0,aK ns,())])/\ak (yT [59] p r::U):=by
 rw[oN,Ph] at h;obtain ⟨T1,T2,rfl,h1,h2⟩:=kN h;rw[mO] at hT ⊢;have st:∀ {l2:List (Int×EX)} {T2:List Tok},Co T2 ((l2.map (pK ns)).flatMap (tS [44] :: ·))->Stp (T2 ++ (yT [59] p r::U)):=fun {l2 T2} h2=>by
  match l2,h2 with
  | [],h2 =>obtain rfl:=kP h2;exact ⟨_,_,rfl,.inr (.inr ⟨rfl,rfl⟩)⟩
  | b::l3,h2 =>obtain ⟨p5,r5,T5,rfl,_⟩:=jd h2;exact ⟨_,_,rfl,.inr (.inl ⟨rfl,rfl⟩)⟩
 obtain ⟨ua,ub,uc⟩:=hu a (by simp);obtain ⟨e1,k1⟩:=aS' hn x (by rw[hx0]; decide) ua ub uc h1 hT (st h2);have loop:∀ (l2 acc:List (Int×EX)) (T:List Tok),a::l=acc ++ l2->Co T ((l2.map (pK ns)).flatMap (tS [44] :: ·))->ak (T ++ (yT [59] p r::U)) ->
  Su (mk0 (T ++ (yT [59] p r::U))).v (v48 { x with us:=acc }) (0,aK ns,())=Su (mk0 (yT [59] p r::U)).v (v48 { x with us:=a::l }) (0,aK ns,())/\ak (yT [59] p r::U):=by
  intro l2;induction l2 with
  | nil =>grind [kP]
  | cons b l3 ih =>
   intro acc T hL h2 hT;rw[oN,CJ] at h2;obtain ⟨T3,T4,rfl,h3,h4⟩:=kN h2;obtain ⟨p5,r5,T5,rfl,h5⟩:=jd h3;simp only[gu,mO] at hT ⊢;obtain ⟨wa,wb,wc⟩:=hu b (by rw[hL]; simp);obtain ⟨e6,k6⟩:=aS' hn { x with us:=acc } (by have:=congrArg List.length hL; simp at this hl ⊢; omega) wa wb wc h5 (jQ hT) (st h4);obtain ⟨e7,k7⟩:=ih (acc ++ [b]) T4 (by rw[hL]; simp) h4 k6;refine ⟨?_,k7⟩;rw[aIE];show aA true (iU 197 [.ptr 0 0,.str ⟨#[44]⟩] _ _) _=_;rw[aH];refine (dW (VM (w := [44]) hT)).trans ?_;try dsimp only
   rw[aH];exact (aCQ e6).trans e7
 obtain ⟨e2,k2⟩:=loop l [a] T2 rfl h2 k1;refine ⟨?_,k2⟩;rw[b6J];rw[hx0] at e1;refine (aCQ e1).trans ?_;refine e2.trans ?_;rw[aIE];show aA true (iU 197 [.ptr 0 0,.str ⟨#[44]⟩] _ _) _=_;rw[aH];refine (dW (Q5 (w := [44]) k2 (by decide))).trans ?_;try dsimp only
 rw[aC]
end
section
variable {T U B:List Tok} {s x w:Nm}
abbrev wDo:Nm := [100,111]
abbrev Ll:Nm := [119,104,101,110]
def Iu (ns:List Nm) (us:List (Int×EX)):List Tok:=(if us = [] then [] else tW wDo::jM (tS [44]) (us.map (pK ns))) ++ [tS [59]]
def mvR (t:Tm) (x:Mv):List Tok:=tW (t.ls.getD x.f.toNat [])::tW (t.es.getD x.e.toNat [])::tW (t.ls.getD x.t.toNat [])::((if gq x.g tE then [] else tW Ll::wo (t.vs.map (·.n)) x.g) ++ Iu (t.vs.map (·.n)) x.us)
theorem bGQ (t:Tm) (x:Mv):qp t x=tW wEd::mvR t x:=by simp[qp,mvR,Iu]
theorem aT1 {ns:List Nm} {us:List (Int×EX)} (h:Co T (Iu ns us)):Stp (T ++ U):=by
 unfold Iu at h;by_cases c:us = []
 .rw[aS c] at h;obtain ⟨p,r,T2,rfl,_⟩:=jd h;exact ⟨_,_,rfl,.inr (.inr ⟨rfl,rfl⟩)⟩
 .rw[aQ c] at h;obtain ⟨p,r,T2,rfl,_⟩:=iq h;exact ⟨_,_,rfl,.inl ⟨rfl,(by decide:wDo ≠ [63])⟩⟩
theorem mvJ {ns:List Nm} (hn:Qm ns) (n:ByteArray) (es ls:List Nm) (I:Int) (mr:List Int) (vs:List Vr) {pre:List Mv} (hp:pre.length<=999) (x:Mv) (hl:x.us.length<=1000) (hu:∀ u,u∈x.us->(0<=u.1/\u.1<ns.length)/\wL ns.length u.2/\fQ u.2<=8) (h:Co T (Iu ns x.us)) (hT:ak (T ++ U)) :
 Ya (0,aK ns,()) (tQ n es ls I mr vs pre) (mk0 (T ++ U)).v x.f x.e x.t (ev x.g).1 (ev x.g).2.1 (ev x.g).2.2.1 (ev x.g).2.2.2.1=some (.tuple [],[aT (0,aK ns,()),fB (tQ n es ls I mr vs (pre ++ [x])),aB (mk0 U).v])/\ak U:=by
 have fin:∀ (p r:Int) (V:List Tok),ak (yT [59] p r::V)->Yb (0,aK ns,()) (tQ n es ls I mr vs pre) (mk0 (yT [59] p r::V)).v (v48 x)=some (.tuple [],[aT (0,aK ns,()),fB (tQ n es ls I mr vs (pre ++ [x])),aB (mk0 V).v]):=fun p r V k=>by rw[b65];refine (jG (lW k)).trans ?_;rw[au (gz (by rw[aX]; omega))];simp
 rw[b63];unfold Iu at h;by_cases c:x.us = []
 .rw[aS c] at h;obtain ⟨p,r,T2,rfl,k2⟩:=jd h;obtain rfl:=kP k2;simp only[gu,Ad] at hT ⊢;refine ⟨?_,jQ hT⟩;refine (dW (Q5 (w:=wDo) hT (by decide))).trans ?_;grind [aC]
 .obtain ⟨a,l,hx⟩:=List.exists_cons_of_ne_nil c;rw[aQ c,hx] at h;simp only[gu] at h;obtain ⟨p,r,T2,rfl,k2⟩:=iq h;obtain ⟨T3,T4,rfl,h3,h4⟩:=kN k2;obtain ⟨p5,r5,T5,rfl,h5⟩:=jd h4;obtain rfl:=kP h5;simp only[gu,mO,Ad] at hT ⊢;obtain ⟨e6,k6⟩:=bP2 hn { x with us := [] } rfl a l (by rw[<- hx]; exact hl) (by rw[<- hx]; exact hu) h3 (iL hT);refine ⟨?_,jQ k6⟩;refine (dW (Q4 (w:=wDo) hT)).trans ?_;try dsimp only
  rw[aH];refine (aU7 e6).trans ?_;grind
theorem bHB {t:Tm} (h:NE t):Qm (t.vs.map (·.n)):=by
 refine ⟨fun s hs => ?_,fun s hs => ?_,fun s hs => ?_,h.vn,by rw[aX]; exact h.ok.vs.1⟩;all_goals
  obtain ⟨v,hv,rfl⟩:=qR.1 hs
 .exact (h.gd.vs v hv).1
 .exact (h.tf v hv).1
 .exact (h.tf v hv).2
theorem a5K {l:List Nm} {i:Int} (h:0<=i/\i<l.length):l[i.toNat]? = some (l.getD i.toNat []):=by simp_all
theorem bGP {t:Tm} (ht:NE t) (v:List PV) (n:ByteArray) (I:Int) (mr:List Int) {pre:List Mv} (hp:pre.length<=999) {x:Mv} (hx:x∈t.ms) (h:Co T (mvR t x)) (hT:ak (T ++ U)) :
 SS.CC 282 [.ptr 0 0,.ptr 1 0] [aT (0,v,()),fB (tQ n t.es t.ls I mr t.vs pre),aB (mk0 (T ++ U)).v]=some (.tuple [],[aT (0,aK (t.vs.map (·.n)),()),fB (tQ n t.es t.ls I mr t.vs (pre ++ [x])),aB (mk0 U).v])/\ak U:=by
 have hg:=ht.gd.ms x hx;have hd:=ht.dp x hx;have ho:=ht.ok.ms.2 x hx;have hn:=bHB ht;have hlv:(t.vs.map (·.n)).length=t.vs.length:=aX ..;obtain ⟨p1,r1,T1,rfl,h1⟩:=iq h;obtain ⟨p2,r2,T2,rfl,h2⟩:=iq h1;obtain ⟨p3,r3,T3,rfl,h3⟩:=iq h2;simp only[gu] at hT ⊢;have k1:=iL hT;have k2:=iL k1;have k3:=iL k2;have hus:∀ u,u∈x.us->(0<=u.1/\u.1<((t.vs.map (·.n)).length:Int))/\wL (t.vs.map (·.n)).length u.2/\fQ u.2<=8:=fun u hu=>by rw[hlv];exact ⟨(hg.us u hu).1,(hg.us u hu).2,hd.2 u hu⟩
 have e1:=ZW (0,v,()) ht.ls (a5K hg.f) ht.ok.ls.1 hT;have e2:=ZW (0,v,()) ht.es (a5K hg.e) ht.ok.es.1 k1;have e3:=ZW (0,v,()) ht.ls (a5K hg.d) ht.ok.ls.1 k2;rw[show ((x.f.toNat:Nat):Int)=x.f by have:=hg.f; omega] at e1;rw[show ((x.e.toNat:Nat):Int)=x.e by have:=hg.e; omega] at e2;rw[show ((x.t.toNat:Nat):Int)=x.t by have:=hg.d; omega] at e3;rw[b67,gQ c116];try dsimp only
 rw[CV e1];try dsimp only
 rw[CV e2];try dsimp only
 rw[CV e3];try dsimp only
 rw[WU (aBX t.vs ht.ok.vs.1)];by_cases c:gq x.g tE=true
 .rw[aS c,Ad] at h3;obtain ⟨ef,kf⟩:=mvJ hn n t.es t.ls I mr t.vs hp x ho.2.1 hus h3 k3;refine ⟨?_,kf⟩;obtain ⟨tk0,Tk,hTk,_⟩:=aT1 (U:=U) h3;have hnw:(mk0 (T3 ++ U)).is Ll=false:=by
   have:∀ us,Co T3 (Iu (t.vs.map (·.n)) us)->(mk0 (T3 ++ U)).is Ll=false:=fun us h=>by
    unfold Iu at h;by_cases c:us = []
    .rw[aS c] at h;obtain ⟨p,r,T2,rfl,_⟩:=jd h;rfl
    .rw[aQ c] at h;obtain ⟨p,r,T2,rfl,_⟩:=iq h;rfl
   grind
  have e4:=Bz (jX k3) ⟨Ll.toArray⟩;rw[show (⟨Ll.toArray⟩:ByteArray).data.toList=Ll from rfl,hnw,LU hnw] at e4;refine (dW e4).trans ?_;grind [aC,a3Q]
 .rw[aQ c] at h3;obtain ⟨p4,r4,T4,rfl,h4⟩:=iq h3;obtain ⟨T5,T6,rfl,h5,h6⟩:=kN h4;simp only[gu,mO] at k3 ⊢;obtain ⟨e7,k7⟩:=bG hn (x:=x.g) (by rw[hlv]; exact hg.g) hd.1 h5 (iL k3) (aT1 h6);obtain ⟨ef,kf⟩:=mvJ hn n t.es t.ls I mr t.vs hp x ho.2.1 hus h6 k7;refine ⟨?_,kf⟩;refine (dW (Q4 (w:=Ll) k3)).trans ?_;try dsimp only
  rw[aH];refine (yg e7).trans ?_;exact ef
theorem msK {t:Tm} (ht:NE t) (v:List PV) (m:Sh.V iK) (n:ByteArray) (I:Int) (mr:List Int) (fl:Bool) (h:Co T (t.ms.flatMap (qp t))) (hT:ak (T ++ U)) :
 vT (0,v,()) m (mk0 (T ++ U)).v (tQ n t.es t.ls I mr t.vs []) fl=vT (0,(if t.ms = [] then v else aK (t.vs.map (·.n))),()) m (mk0 U).v (tQ n t.es t.ls I mr t.vs t.ms) fl/\ak U:=by
 have:=Dc t.ms (C:=fun T acc=>vT (0,(if acc = [] then v else aK (t.vs.map fun w:Vr=>w.n)),()) m (mk0 T).v (tQ n t.es t.ls I mr t.vs acc) fl) (fun acc a l T tail hL h hT=>by
  rw[bGQ] at h;obtain ⟨p,r,T1,rfl,h1⟩:=iq h;rw[gu] at hT ⊢;have ha:acc.length<=999:=by have:=congrArg List.length hL; have:=ht.ok.ms.1; grind
  obtain ⟨e,k⟩:=bGP ht (if acc = [] then v else aK (t.vs.map (·.n))) n I mr ha (x:=a) (by rw[hL]; simp) h1 (iL hT);refine ⟨?_,k⟩;show vT _ m (mk0 (wT wEd p r::(T1 ++ tail))).v _ _=_;rw[aQ (show acc ++ [a] ≠ [] by simp),YT,Gg (IL _)];try dsimp only
  rw[aH];refine (dW (Tq (w := [125]) hT (by decide))).trans ?_;try dsimp only
  rw[uq,aH];refine (dW (aBB (w:=QE) hT (by decide))).trans ?_;try dsimp only
  rw[aC];refine (dW (aBB (w:=wVa) hT (by decide))).trans ?_;try dsimp only
  rw[aC];refine (dW (Q4 (w:=wEd) hT)).trans ?_;try dsimp only
  rw[aH];exact (aD2 e).trans rfl) t.ms [] T U rfl h hT
 rw[aS rfl] at this;exact this
def tmR (t:Tm):List Tok:=tW t.n::(uV t.es ++ (tS [123]::(tK t.I t.mr 0 t.ls ++ (t.vs.flatMap sW ++ (t.ms.flatMap (qp t) ++ [tS [125]])))))
abbrev wTe:Nm := [116,101,109,112,108,97,116,101]
theorem bNI (t:Tm):pI t=tW wTe::tmR t:=by simp[pI,tmR]
theorem bNM (m:Mo) (v:List PV) {t:Tm} (ht:NE t) (hm:m.ts.length<=999) (hs:t.n∉m.ts.map (·.n)) (h:Co T (tmR t)) (hT:ak (T ++ U)) :
 SS.CC 224 [.ptr 0 0,.ptr 1 0] [aT (0,v,()),bH (aW m),aB (mk0 (T ++ U)).v]=some (.tuple [],[aT (0,(if t.ms = [] then v else aK (t.vs.map (·.n))),()),bH (aW { m with ts:=m.ts ++ [t] }),aB (mk0 U).v])/\ak U:=by
 obtain ⟨p1,r1,T1,rfl,h1⟩:=iq h;obtain ⟨Ta,T2,rfl,ha,h2⟩:=kN h1;obtain ⟨p3,r3,T3,rfl,h3⟩:=jd h2;obtain ⟨Tb,T4,rfl,hb,h4⟩:=kN h3;obtain ⟨Tc,T5,rfl,hc,h5⟩:=kN h4;obtain ⟨Td,T6,rfl,hd,h6⟩:=kN h5;obtain ⟨p7,r7,T7,rfl,h7⟩:=jd h6;obtain rfl:=kP h7;simp only[gu,mO,Ad] at hT ⊢;obtain ⟨ea,ka⟩:=bPL (0,v,()) (bs t.n) t.es ht.ok.es.1 ht.es ha (iL hT);obtain ⟨eb,kb⟩:=aM' (0,v,()) (aW m) (bs t.n) t.es ht.I.1 ht.mr.1 ht.ok.mr t.ls [] Tb (by simpa using ht.ls) (by simpa using ht.ok.ls.1) hb (jQ ka);have i0:EW t.I ([]:List Nm).length=0:=by unfold EW; rw[aQ (by have:=ht.I.1; simp; omega)]
 have m0:IC t.mr ([]:List Nm).length = []:=List.filter_eq_nil_iff.2 fun i hi=>by have:=(ht.mr.2 i hi).1; simp; omega
 have f0:decide (t.I<((([]:List Nm).length:Nat):Int))=false:=aV (by have:=ht.I.1; simp; omega);have i1:EW t.I ([] ++ t.ls).length=t.I:=by
  unfold EW;rw[Ad];split
  .rfl
  .rcases ht.I.2 with h | h<;>omega
 have m1:IC t.mr ([] ++ t.ls).length=t.mr:=aC5.2 fun i hi=>by have:=(ht.mr.2 i hi).2; simpa using this
 rw[i0,m0,f0,i1,m1,Ad] at eb;obtain ⟨ec,kc⟩:=vsK (0,v,()) (aW m) (bs t.n) t.es t.ls t.I t.mr (decide (t.I<(t.ls.length:Int))) ht.ok.vs.1 ht.vn ht.tf (fun v hv=>(ht.gd.vs v hv).2) hc kb;obtain ⟨ed,kd⟩:=msK ht v (aW m) (bs t.n) t.I t.mr (decide (t.I<(t.ls.length:Int))) hd kc;refine ⟨?_,jQ kd⟩;rw[b3R];dsimp only[o6];rw[wK (aXF m.ts (by omega))];refine (EU (Eb _ (by rw[aX]; omega) hs hT)).trans ?_;try dsimp only
 refine (aU3 ea).trans ?_;try dsimp only
 refine (jG (lW ka)).trans ?_;refine eb.trans (ec.trans (ed.trans ?_));rw[YT,Gg (IL _)];try dsimp only
 rw[aH];refine (dW (a6F (w := [125]) kd)).trans ?_;try dsimp only
 rw[uH,aC,b3O];refine (jG (lW kd)).trans ?_;try dsimp only
 have hn:SS.CC 180 [.int .i64 (((aK t.es).length:Nat):Int)] []=some (.sl false 1 (fV (uB t.es.length)),[]):=by rw[iR]; exact aOV _ ht.ok.es.1
 rw[wK hn,au (gz (by rw[aX]; omega))];show some _=some _;rw[show (A5 (bs t.n,aK t.ls,aK t.es,fV (uB t.es.length),(((aK t.ls).length:Nat):Int),t.I,fV t.mr,t.vs.map kE,t.ms.map AO,()):PV)=yI t by rw[iR,<- ht.L,<- ht.al],a8A]
end
section
variable {T:List Tok} {s:Nm} {a0 b0 a1 b1 a2 b2 a3 b3 a4 b4 a5 b5 a6 b6 a7 b7 a8 b8:Int}
end
abbrev kwX:Nm := [101,120,99,108,117,100,101]
abbrev kwL:Nm := [108,105,109,105,116]
section
variable {T:List Tok} {s:Nm} {a0 b0:Int}
theorem UB {l:bTA} {n:Nat} {k:Int} (h:l.length=n) (h2:(n:Int)<k):decide (k<=((l.length:Nat):Int))=false:=aV (by omega)
end
def Xv (m:Mo) (a b e:Int):R:=some (.tuple [A0 (aW m),bT6 a,bT6 b,bT6 e],[])
abbrev zM:Mo:=⟨[],[],[],[],[],[],[]⟩
abbrev mW:Nm := [109,111,100,101,108]
section
variable {T U B:List Tok}
abbrev wEv:Nm := [101,118,101,110,116]
abbrev PO (m:Mo) (v:List PV) (A:RA):R:=some (.tuple [],[aT (0,v,()),bH (aW m),aB A.v])
theorem diE (m m':Mo) (v v':List PV) {p r:Int} (hT:ak (wT wEv p r::T)) (h:SS.CC 222 [.ptr 0 0,.ptr 1 0] [aT (0,v,()),bH (aW m),aB (mk0 T).v]=PO m' v' (mk0 U)) :
 SS.CC 132 [.ptr 0 0,.ptr 1 0] [aT (0,v,()),bH (aW m),aB (mk0 (wT wEv p r::T)).v]=PO m' v' (mk0 U):=by
 rw[O0,jH (Dz hT)];show aA false _ (aA true (aA false _ _) _)=_;rw[aC,aH,aC];refine (jH (P8 hT Dh)).trans ?_;try dsimp only
 have e:SS.CC 221 [.ptr 0 0,.ptr 1 0] [some [.ptr 2 0],some [.ptr 3 0],kM (0,v,()),bH (aW m),aB (mk0 T).v]=some (.tuple [],[some [.ptr 2 0],some [.ptr 3 0],kM (0,v',()),bH (aW m'),aB (mk0 U).v]):=by rw[b3J];exact (JK h).trans rfl
 exact (Me e).trans rfl
theorem diT (m m':Mo) (v v':List PV) (hn:m.ts.length<16) {p r:Int} (hT:ak (wT wTe p r::T)) (h:SS.CC 224 [.ptr 0 0,.ptr 1 0] [aT (0,v,()),bH (aW m),aB (mk0 T).v]=PO m' v' (mk0 U)) :
 SS.CC 132 [.ptr 0 0,.ptr 1 0] [aT (0,v,()),bH (aW m),aB (mk0 (wT wTe p r::T)).v]=PO m' v' (mk0 U):=by
 rw[O0,jH (Dz hT)];show aA false _ (aA false _ (aA false _ (aA false _ (aA false _ (aA true (aA false _ (aA (decide ((16:Int)<=(((aW m).2.2.1.length:Nat):Int))) _ _)) _)))))=_;rw[aC,aC,aC,aC,aC,aH,aC,UB (aX ..) (by omega),aC];refine (jH (P8 hT Dh)).trans ?_;try dsimp only
 have e:SS.CC 223 [.ptr 0 0,.ptr 1 0] [some [.ptr 2 0],some [.ptr 3 0],kM (0,v,()),bH (aW m),aB (mk0 T).v]=some (.tuple [],[some [.ptr 2 0],some [.ptr 3 0],kM (0,v',()),bH (aW m'),aB (mk0 U).v]):=by rw[b3N];exact (JK h).trans rfl
 exact (Me e).trans rfl
theorem diC (m m':Mo) (v v':List PV) (hn:m.cs.length<32) {p r:Int} (hT:ak (wT wC p r::T)) (h:SS.CC 226 [.ptr 0 0,.ptr 1 0,.ptr 1 3] [aT (0,v,()),bH (aW m),aB (mk0 T).v]=PO m' v' (mk0 U)) :
 SS.CC 132 [.ptr 0 0,.ptr 1 0] [aT (0,v,()),bH (aW m),aB (mk0 (wT wC p r::T)).v]=PO m' v' (mk0 U):=by
 rw[O0,jH (Dz hT)];show aA true (aA false _ (aA (decide ((32:Int)<=(((aW m).2.2.2.1.length:Nat):Int))) _ _)) _=_;rw[aH,aC,UB (aX ..) (by omega),aC];refine (jH (P8 hT Dh)).trans ?_;try dsimp only
 have e:SS.CC 225 [.ptr 0 0,.ptr 1 0] [some [.ptr 2 0],some [.ptr 3 0],kM (0,v,()),bH (aW m),aB (mk0 T).v]=some (.tuple [],[some [.ptr 2 0],some [.ptr 3 0],kM (0,v',()),bH (aW m'),aB (mk0 U).v]):=by rw[b3S];exact (JK h).trans rfl
 exact (Me e).trans rfl
theorem diQ (m m':Mo) (v v':List PV) (hn:m.rs.length<32) {p r:Int} (hT:ak (wT wR p r::T)) (h:SS.CC 226 [.ptr 0 0,.ptr 1 0,.ptr 1 4] [aT (0,v,()),bH (aW m),aB (mk0 T).v]=PO m' v' (mk0 U)) :
 SS.CC 132 [.ptr 0 0,.ptr 1 0] [aT (0,v,()),bH (aW m),aB (mk0 (wT wR p r::T)).v]=PO m' v' (mk0 U):=by
 rw[O0,jH (Dz hT)];show aA false _ (aA false _ (aA false _ (aA false _ (aA true (aA false _ (aA (decide ((32:Int)<=(((aW m).2.2.2.2.1.length:Nat):Int))) _ _)) _))))=_;rw[aC,aC,aC,aC,aH,aC,UB (aX ..) (by omega),aC];refine (jH (P8 hT Dh)).trans ?_;try dsimp only
 have e:SS.CC 227 [.ptr 0 0,.ptr 1 0] [some [.ptr 2 0],some [.ptr 3 0],kM (0,v,()),bH (aW m),aB (mk0 T).v]=some (.tuple [],[some [.ptr 2 0],some [.ptr 3 0],kM (0,v',()),bH (aW m'),aB (mk0 U).v]):=by rw[b3V];exact (JK h).trans rfl
 exact (Me e).trans rfl
theorem diX (m m':Mo) (v v':List PV) (hn:m.xs.length<32) {p r:Int} (hT:ak (wT kwX p r::T)) (h:SS.CC 229 [.ptr 0 0,.ptr 1 0] [aT (0,v,()),bH (aW m),aB (mk0 T).v]=PO m' v' (mk0 U)) :
 SS.CC 132 [.ptr 0 0,.ptr 1 0] [aT (0,v,()),bH (aW m),aB (mk0 (wT kwX p r::T)).v]=PO m' v' (mk0 U):=by
 rw[O0,jH (Dz hT)];show aA false _ (aA false _ (aA true (aA false _ (aA (decide ((32:Int)<=(((aW m).2.2.2.2.2.1.length:Nat):Int))) _ _)) _))=_;rw[aC,aC,aH,aC,UB (aX ..) (by omega),aC];refine (jH (P8 hT Dh)).trans ?_;try dsimp only
 have e:SS.CC 228 [.ptr 0 0,.ptr 1 0] [some [.ptr 2 0],some [.ptr 3 0],kM (0,v,()),bH (aW m),aB (mk0 T).v]=some (.tuple [],[some [.ptr 2 0],some [.ptr 3 0],kM (0,v',()),bH (aW m'),aB (mk0 U).v]):=by rw[b3W];exact (JK h).trans rfl
 exact (Me e).trans rfl
theorem diL (m m':Mo) (v v':List PV) (hn:m.ks.length<32) {p r:Int} (hT:ak (wT kwL p r::T)) (h:SS.CC 231 [.ptr 0 0,.ptr 1 0] [aT (0,v,()),bH (aW m),aB (mk0 T).v]=PO m' v' (mk0 U)) :
 SS.CC 132 [.ptr 0 0,.ptr 1 0] [aT (0,v,()),bH (aW m),aB (mk0 (wT kwL p r::T)).v]=PO m' v' (mk0 U):=by
 rw[O0,jH (Dz hT)];show aA false _ (aA false _ (aA false _ (aA true (aA false _ (aA (decide ((32:Int)<=(((aW m).2.2.2.2.2.2.1.length:Nat):Int))) _ _)) _)))=_;rw[aC,aC,aC,aH,aC,UB (aX ..) (by omega),aC];refine (jH (P8 hT Dh)).trans ?_;try dsimp only
 have e:SS.CC 230 [.ptr 0 0,.ptr 1 0] [some [.ptr 2 0],some [.ptr 3 0],kM (0,v,()),bH (aW m),aB (mk0 T).v]=some (.tuple [],[some [.ptr 2 0],some [.ptr 3 0],kM (0,v',()),bH (aW m'),aB (mk0 U).v]):=by rw[b3Y];exact (JK h).trans rfl
 exact (Me e).trans rfl
theorem go1 {m m':Mo} {v v':List PV} {w:Nm} {p r:Int} (hT:ak (wT w p r::T)) (h:SS.CC 132 [.ptr 0 0,.ptr 1 0] [aT (0,v,()),bH (aW m),aB (mk0 (wT w p r::T)).v]=PO m' v' (mk0 U)) :
 wz (aW m) (mk0 (wT w p r::T)).v (0,v,())=wz (aW m') (mk0 U).v (0,v',()):=by
 rw[aJ5,Gg (IL _)];try dsimp only
 rw[aH,jH (Dz hT)];show aA true _ _=_;rw[aH];exact (JK h).trans rfl
theorem UR {α:Type} {f:α->Nm} {L acc l:List α} {a:α} (hd:(L.map f).Nodup) (hL:L=acc ++ a::l):f a∉acc.map f:=fun c=>by rw[hL,lq,a1N] at hd;grind
theorem Ot {α:Type} {L acc l:List α} {a:α} (hL:L=acc ++ a::l):acc.length<L.length:=by rw[hL]; simp
theorem Oy {α:Type} {L acc l:List α} {a:α} (hL:L=acc ++ a::l):a∈L:=by rw[hL]; simp
def L6 (v:List PV) (l:List Tm):List PV:=l.foldl (fun v t=>if t.ms = [] then v else aK (t.vs.map (·.n))) v
theorem bLD {m:Mo} (hm:PgM m) (h:Co T (m.es.flatMap uN ++ (m.ts.flatMap pI ++ (m.cs.flatMap (inT wC) ++ (m.rs.flatMap (inT wR) ++ (m.xs.flatMap um ++ m.ks.flatMap su)))))) (hT:ak (T ++ U)) :
 ∃ v,wz (aW { zM with n:=m.n }) (mk0 (T ++ U)).v (0,[],())=wz (aW m) (mk0 U).v (0,v,())/\ak U:=by
 obtain ⟨T1,R1,rfl,h1,k1⟩:=kN h;obtain ⟨T2,R2,rfl,h2,k2⟩:=kN k1;obtain ⟨T3,R3,rfl,h3,k3⟩:=kN k2;obtain ⟨T4,R4,rfl,h4,k4⟩:=kN k3;obtain ⟨T5,T6,rfl,h5,h6⟩:=kN k4;simp only[mO] at hT ⊢;have ho:=hm.ok;have hg:=hm.gd;obtain ⟨e1,t1⟩:=Dc m.es (C:=fun T acc=>wz (aW { zM with n:=m.n,es:=acc }) (mk0 T).v (0,[],())) (fun acc a l T tail hL h hT=>by rw[aYN] at h;obtain ⟨p,r,T1,rfl,h1⟩:=iq h;rw[gu] at hT ⊢;have:=ho.es.1;have:=Ot hL;obtain ⟨e,k⟩:=evK { zM with n:=m.n,es:=acc } (0,[],()) a (by grind) (UR hm.es hL) (hg.es a (Oy hL)).2 h1 (iL hT);exact ⟨go1 hT (diE _ _ _ _ hT e),k⟩) m.es [] T1 _ rfl h1 hT;obtain ⟨e2,t2⟩:=Dc m.ts (C:=fun T acc=>wz (aW { zM with n:=m.n,es:=m.es,ts:=acc }) (mk0 T).v (0,L6 [] acc,())) (fun acc a l T tail hL h hT=>by
  rw[bNI] at h;obtain ⟨p,r,T1,rfl,h1⟩:=iq h;rw[gu] at hT ⊢;have:=hm.nt.1;have:=Ot hL;obtain ⟨e,k⟩:=bNM { zM with n:=m.n,es:=m.es,ts:=acc } (L6 [] acc) (hm.ts.2 a (Oy hL)) (by grind) (UR hm.ts.1 hL) h1 (iL hT);refine ⟨?_,k⟩;have hq:L6 [] (acc ++ [a])=if a.ms = [] then L6 [] acc else aK (a.vs.map (·.n)):=by unfold L6; rw[aC7]; rfl
  show _=wz _ _ (0,L6 [] (acc ++ [a]),());rw[hq];exact go1 hT (diT _ _ _ _ (by grind) hT e)) m.ts [] T2 _ rfl h2 t1
 generalize L6 [] m.ts=v at e2;have hi:=hm.is;obtain ⟨e3,t3⟩:=Dc m.cs (C:=fun T acc=>wz (aW { zM with n:=m.n,es:=m.es,ts:=m.ts,cs:=acc }) (mk0 T).v (0,v,())) (fun acc a l T tail hL h hT=>by
  rw[aKV] at h;obtain ⟨p,r,T1,rfl,h1⟩:=iq h;rw[gu] at hT ⊢;have:=hm.nt.2.1;have:=Ot hL;have hd:(m.cs.map (·.n)).Nodup:=by rw[lq,a1N] at hi; exact hi.1
  have hx:=ho.is.2.2 a (by simp_all);obtain ⟨e,k⟩:=inC { zM with n:=m.n,es:=m.es,ts:=m.ts,cs:=acc } (0,v,()) a (by grind) (by grind) hx.2.2.1 h1 (iL hT);exact ⟨go1 hT (diC _ _ _ _ (by grind) hT e),k⟩) m.cs [] T3 _ rfl h3 t2
 obtain ⟨e4,t4⟩:=Dc m.rs (C:=fun T acc=>wz (aW { zM with n:=m.n,es:=m.es,ts:=m.ts,cs:=m.cs,rs:=acc }) (mk0 T).v (0,v,())) (fun acc a l T tail hL h hT=>by rw[aKV] at h;obtain ⟨p,r,T1,rfl,h1⟩:=iq h;rw[gu] at hT ⊢;have:=hm.nt.2.1;have:=hm.nt.2.2.1;have:=Ot hL;have hx:=ho.is.2.2 a (by simp_all);obtain ⟨e,k⟩:=inQ { zM with n:=m.n,es:=m.es,ts:=m.ts,cs:=m.cs,rs:=acc } (0,v,()) a (by grind) (UR (L:=m.cs ++ m.rs) (l:=l) hi (by rw[hL]; simp)) hx.2.2.1 h1 (iL hT);exact ⟨go1 hT (diQ _ _ _ _ (by grind) hT e),k⟩) m.rs [] T4 _ rfl h4 t3;obtain ⟨e5,t5⟩:=Dc m.xs (C:=fun T acc=>wz (aW { zM with n:=m.n,es:=m.es,ts:=m.ts,cs:=m.cs,rs:=m.rs,xs:=acc }) (mk0 T).v (0,v,())) (fun acc a l T tail hL h hT=>by rw[bPN] at h;obtain ⟨p,r,T1,rfl,h1⟩:=iq h;rw[gu] at hT ⊢;have:=hm.nt.2.2.2.1;have:=Ot hL;obtain ⟨e,k⟩:=xcK { zM with n:=m.n,es:=m.es,ts:=m.ts,cs:=m.cs,rs:=m.rs,xs:=acc } (0,v,()) a (by grind) (UR hm.xs hL) (hg.xs a (Oy hL)).2.1 (ho.xs.2 a (Oy hL)).2.1 h1 (iL hT);exact ⟨go1 hT (diX _ _ _ _ (by grind) hT e),k⟩) m.xs [] T5 _ rfl h5 t4;obtain ⟨e6,t6⟩:=Dc m.ks (C:=fun T acc=>wz (aW { zM with n:=m.n,es:=m.es,ts:=m.ts,cs:=m.cs,rs:=m.rs,xs:=m.xs,ks:=acc }) (mk0 T).v (0,v,())) (fun acc a l T tail hL h hT=>by rw[aXR] at h;obtain ⟨p,r,T1,rfl,h1⟩:=iq h;rw[gu] at hT ⊢;have:=hm.nt.2.2.2.2;have:=Ot hL;have hx:=hg.ks a (Oy hL);obtain ⟨e,k⟩:=ctK { zM with n:=m.n,es:=m.es,ts:=m.ts,cs:=m.cs,rs:=m.rs,xs:=m.xs,ks:=acc } (0,v,()) a (by grind) (UR hm.ks hL) hx.2.1 (ho.ks.2 a (Oy hL)).2.1 (fun l hl=>(hx.2.2.2 l hl).2) hx.2.2.1 h1 (iL hT);exact ⟨go1 hT (diL _ _ _ _ (by grind) hT e),k⟩) m.ks [] T6 U rfl h6 t5;exact ⟨v,e1.trans (e2.trans (e3.trans (e4.trans (e5.trans e6)))),t6⟩
end
theorem aY7 (m:Mo) (v:List PV) {e:Tok} (he:e.kind=4) (ho:qX m) (h2:m.cs.length+m.rs.length<=1000) (hc:Ej m=0):wz (aW m) (mk0 [e]).v (0,v,())=Xv m 0 0 0:=by
 have ok:ak [e] := .inl ⟨he,rfl⟩;have hz:(mk0 [e]).fail 0=mk0 [e]:=by rfl
 have hf:=Jf (jX ok) 0;rw[hz] at hf;have hcc:=aEW m ho h2;rw[hc] at hcc;rw[aJ5,Gg (IL _)];try dsimp only
 rw[aH,jH (Dz ok)];show aA (e.kind != 4) _ _=_;rw[show (e.kind != 4)=false by simp[he],aC,b8M,Gg (IL _)];try dsimp only
 rw[aH,eP hcc,jG hf];try dsimp only
 rw[b8L,aCU erq];rfl
theorem bJG {t:List UInt8} {T:List Tok} {e:Tok} {m:Mo} (ho:qX m) (hc:Ej m=0) (hs:uC t = .ok (T ++ [e])) (he:e.kind=4) (h:Co T (lX m)):SS.CC 36 [.str (bs t)] []=Xv m 0 0 0:=by
 have hm:=bJT ho hc;have ht:ak (T ++ [e]):=bL' hs;have hmo:lX m=tW mW::tW m.n::tS [59]::(m.es.flatMap uN ++ (m.ts.flatMap pI ++ (m.cs.flatMap (inT wC) ++ (m.rs.flatMap (inT wR) ++ (m.xs.flatMap um ++ m.ks.flatMap su))))):=by simp[lX]
 rw[hmo] at h;obtain ⟨p1,r1,T1,rfl,h1⟩:=iq h;obtain ⟨p2,r2,T2,rfl,h2⟩:=iq h1;obtain ⟨p3,r3,T3,rfl,h3⟩:=jd h2;simp only[gu] at hs ht;obtain ⟨v,e1,_⟩:=bLD hm h3 (jQ (iL (iL ht)));rw[b8P,aTV (bGV t),bGU hs];try dsimp only
 refine (jG (aZ3 ht)).trans ?_;try dsimp only
 refine (Ag (IG (iL ht))).trans ?_;try dsimp only
 refine (jG (lW (iL (iL ht)))).trans ?_;exact e1.trans (aY7 m v he ho (by have:=hm.nt; omega) hc)
section
variable {T:List Tok} {s:Nm} {a0 b0 a1 b1 a2 b2 a3 b3 a4 b4 a5 b5 a6 b6 a7 b7 a8 b8:Int}
end
section
variable {T:List Tok} {s:Nm}
end
theorem aZJ {t:bTB} {m:Mo} (hp:SS.CC 36 [.str (bs t)] []=Xv m 0 0 0) (ho:qX m) (h2:m.cs.length+m.rs.length<=1000) (hc:Ej m=0) (hl:(joinL (lX m)).length<=30000) :
 SS.CC 40 [.str (bs t)] []=some (.tuple [.str (bs (uD m)),bT6 0,bT6 0,bT6 0],[]):=by
 rw[b8Q,aTP hp];show aA false _ _=_;rw[aC,WS (aPR ho h2 hc hl)];rfl
theorem NU (A B:List Tok):oU (A ++ B)=oU A+oU B:=by simp[oU]
theorem a2X:∀ {X:List Tok},Pl X->oU X=0
 | [],_=>rfl
 | t::X,h=>by
  obtain ⟨n1,n2,n3⟩:=aD6 (h t (by simp));have:=a2X (X:=X) fun u hu=>h u (by simp[hu])
  have e:oU (t::X)=bk t+oU X:=by simp[oU]
  rw[e,this];unfold bk;rw[aQ (by rintro (c | c | c); exact n1 c; exact n2 c; exact n3 c)]
theorem Eg {X:List Tok} (h:vF X):oU X=2:=by
 cases h with
 | mk h _=>rw[NU,a2X h]; rfl
theorem Ee {α:Type} (f:α->List Tok) (b:Nat):∀ l:List α,(∀ a,a∈l->oU (f a)<=b)->oU (l.flatMap f)<=l.length*b
 | [],_=>by simp[oU]
 | a::l,h=>by
  have h1:=h a (by simp);have h2:=Ee f b l fun x hx=>h x (by simp[hx])
  rw[CJ,NU,bP,nM];omega
theorem aE6 {I:Int} {mr:List Int}:∀ {l:List Nm} {i:Nat},(∀ s,s∈l->Gn s)->oU (tK I mr i l)=l.length*2
 | [],_,_=>by simp[oU,tK]
 | s::l,i,h=>by rw[tK,NU,Eg (aS3 (h s (by simp))),aE6 fun s hs=>h s (by simp[hs]),bP];omega
theorem aVW {m:Mo} (h:Gj m):oU (lX m)<=100:=by
 have hg:=TK (PD h) (Na h);obtain ⟨hn,⟨e1,e2⟩,⟨t1,t2⟩,⟨i1,i2,i3⟩,⟨x1,x2⟩,k1,k2⟩:=h;have el:m.es.length=5:=by rw[<- aX (f:=fun e:kK=>e.n),e1]; rfl
 have c1:=Ee uN 2 m.es fun e he=>xZ (Eg (aS2 (hg.es e he).1 (hg.es e he).2))
 have c2:=Ee pI 26 m.ts fun t ht=>by
  obtain ⟨i,h1,h2,h3⟩:=zG (P:=fun i (t:Tm)=>t.n=jY 116 i/\Cc t) t2 ht;obtain ⟨gn,gt⟩:=hg.ts t ht;obtain ⟨⟨nl,l1,l2,l3⟩,_,_,_,_,⟨v1,v2⟩,s1,s2⟩:=h3;have ell:t.ls.length<=4:=by rw[l3,FI]; omega
  have d1:=Ee sW 2 t.vs fun v hv=>xZ (Eg (aS5 (gt.vs v hv)))
  have d2:=Ee (qp t) 2 t.ms fun x hx=>xZ (Eg (aS4 gt (gt.ms x hx)))
  have d3:oU ([tW [116,101,109,112,108,97,116,101],tW t.n] ++ uV t.es)=0:=a2X (lZ (eu (iy (by decide)) (eu (iy gn) mJ)) (a98 gt.es));rw[NU] at d3;unfold pI;simp only[NU,aE6 gt.ls];rw[show oU [tS [123]]=2 from rfl,show oU [tS [125]]=2 from rfl];omega
 have c3:=Ee (inT wC) 2 m.cs fun x hx=>xZ (Eg (a0V (by decide) (hg.is x (WH _ hx))))
 have c4:=Ee (inT wR) 2 m.rs fun x hx=>xZ (Eg (a0V (by decide) (hg.is x (WI _ hx))))
 have c5:=Ee um 2 m.xs fun x hx=>xZ (Eg (aS6 (hg.xs x hx)))
 have c6:=Ee su 2 m.ks fun x hx=>xZ (Eg (aS1 (hg.ks x hx)))
 have c0:oU [tW [109,111,100,101,108],tW m.n,tS [59]]=2:=Eg (Fe (X := [tW [109,111,100,101,108],tW m.n]) rfl (eu (iy (by decide)) (eu (iy hg.n) mJ)) (by simp));unfold lX;simp only[NU];omega
theorem aSU {m:Mo} (h:Gj m):(uD m).length<=60010:=by have hg:=TK (PD h) (Na h);obtain ⟨r1,r2,r3⟩:=aQL (a1B hg) (st:=pF) rfl rfl;have bD1:phi pF=2:=rfl;have hj:=U0 (lX m) (a8C m);have hl:=a8B h;unfold uD Dy;rw[r3];unfold phi at r2; rw[r3] at r2; simp at r2 ⊢; omega
theorem bMQ {l r:Nm} (h:(10:UInt8)∉l):rD 10 (l ++ 10::r)=l::rD 10 r:=by
 induction l with
 | nil=>simp[rD]
 | cons b l ih =>
  have h1:b≠10:=fun c=>h (by simp[c])
  rw[gu,rD,aQ h1,ih fun c=>h (by simp[c])];rfl
theorem aRR:∀ {Ls:List (Nm×List Tok)},(∀ p,p∈Ls->NC p)->rD 10 (nS Ls)=Ls.map (·.1) ++ [[]]
 | [],_=>rfl
 | p::Ls,h=>by
  have:=aRR (Ls:=Ls) fun q hq=>h q (by simp[hq])
  have e:nS (p::Ls)=p.1 ++ 10::nS Ls:=by simp[nS]
  rw[e,bMQ (h p (by simp)).1,this];rfl
theorem spc (t:Nm) (h:t.length<=100000):SS.CC 39 [.str (bs t),.str ⟨#[10]⟩] []=some (bT7 (aK (rD 10 t)),[]):=by refine JH ?_;show (match Nat.ble (bs t).size 1073741824 with | true=>some (PV.sl false 1 (Iq (rD 10 t)),([]:aG)) | false=>none)=_;rw[JC (by rw[jy]; omega)];simp[Iq,aK,qC,qw,bs]
theorem aLL:∀ (A:List Nm) (z:Nm),([10]:Nm).intercalate (A ++ [z])=(A.flatMap fun l=>l ++ [10]) ++ z
 | [],z=>by simp[List.intercalate]
 | [a],z=>by simp[List.intercalate]
 | a::b::A,z=>by have:=aLL (b::A) z;rw[CJ,mO,<- this];simp[List.intercalate]
theorem joc (X:List Nm) (h1:X.length<=1000000) (h2:(([10]:Nm).intercalate X).length<=1000000):SS.CC 15 [bT7 (aK X),.str ⟨#[10]⟩] []=some (.str (bs (([10]:Nm).intercalate X)),[]):=by
 refine JH ?_;have hs:strsOf (aK X)=some (X.map bs):=by have:=aB6 X;rwa [show (X.map fun s=>PV.str (bs s))=aK X by simp[aK,qC,qw]] at this
 have hj:BF (X.map bs) ⟨#[10]⟩=([10]:Nm).intercalate X:=by
  unfold BF Lib.join;rw[List.map_map];have:((fun x:bT9=>x.data.toList) ∘ bs)=id:=by funext x; rfl
  rw[this,List.map_id]
 rw[aLN,hs];dsimp only;rw[hj,aX,JC (by omega),JC (by omega)];rfl
theorem dd {k:Nat} (h:k<1000):(Lib.decDigits k).length<=3/\(10:UInt8)∉Lib.decDigits k:=by
 have:∀ n,n<1000->(Lib.decDigits n).length<=3/\(10:UInt8)∉Lib.decDigits n:=by decide +kernel
 exact this k h
structure McT (c:Mc):Prop where
 a:U8 c.a
 b:U8 c.b
 i:U8 c.i
 m:U8 c.m
 rg:∀ r,r∈c.rg->I8 r.1/\I8 r.2
 mv:∀ x,x∈c.mv->U8 x.1/\U8 x.2.1/\U8 x.2.2
structure SkT (s:Sk):Prop where
 e:U8 s.e.1/\U8 s.e.2.1/\U8 s.e.2.2.1/\U8 s.e.2.2.2.1/\U8 s.e.2.2.2.2
 ts:∀ c,c∈s.ts->McT c
 is:∀ x,x∈s.is->U8 x.1/\U8 x.2.1/\U8 x.2.2
 xs:∀ x,x∈s.xs->U8 x.1/\U8 x.2.1/\U8 x.2.2.1/\U8 x.2.2.2
 ks:∀ x,x∈s.ks->I8 x.1/\I8 x.2.1/\I8 x.2.2
def McS (c:Mc):Prop:=c.rg.length<=6/\c.mv.length<=8/\c.y.length<=200
theorem aVT (c:Mc):∃ b,SS.CC 124 [zi (wF c)] []=some (.bool b,[])/\(b=false->McS c):=by
 rw[a_1];show ∃ b,aA (decide ((6:Int)<((c.rg.map Kr).length:Int))) _ (aA (decide ((8:Int)<((c.mv.map IQ).length:Int))) _ (some (.bool (decide ((200:Int)<((wY c.y).length:Int))),[])))=_/\_;rw[aX,aX,aX];by_cases h1:(6:Int)<(c.rg.length:Int)
 .rw[aO h1,aH]; exact ⟨_,rfl,fun h=>(nomatch h)⟩
 rw[aV h1,aC];by_cases h2:(8:Int)<(c.mv.length:Int)
 .rw[aO h2,aH]; exact ⟨_,rfl,fun h=>(nomatch h)⟩
 rw[aV h2,aC];exact ⟨_,rfl,fun h=>⟨by omega,by omega,by have:=of_decide_eq_false h; omega⟩⟩
theorem aRM {ts:List Mc} (hl:ts.length<=4):∀ (m k:Nat),k+m=ts.length->∃ n,YQ (ts.map IR) (k:Int)=some (bT6 n,[])/\(n<0->∀ i,k<=i->∀ h:i<ts.length,McS ts[i])
 | 0,k,hk=>by rw[aHP,aV (by rw[aX]; omega),aC];exact ⟨_,rfl,fun _ i h1 h2=>by omega⟩
 | m+1,k,hk=>by
  have tC:k<ts.length:=by omega
  obtain ⟨b,e,hb⟩:=aVT ts[k];rw[aHP,aO (by rw[aX]; omega),aH,a7N tC,bV e];cases b with
  | true=>rw[aH]; exact ⟨_,rfl,fun h=>by omega⟩
  | false =>
   rw[aC,bu (by omega)];obtain ⟨n,e2,h2⟩:=aRM hl m (k+1) (by omega);refine ⟨n,e2,fun h i h1 hi => ?_⟩;by_cases c:i=k
   .subst c; exact hb rfl
   .exact h2 h i (by omega) hi
theorem bMN {s:Sk} (hs:SkT s):∃ b,SS.CC 32 [A2 (nX s)] []=some (.bool b,[])/\(b=true->a2L s):=by
 rw[b7P];show ∃ b,aA (decide ((4:Int)<((s.ts.map IR).length:Int))) _ (aA (decide ((8:Int)<((s.is.map IQ).length:Int))) _ (aA (decide ((4:Int)<((s.xs.map Uk).length:Int))) _ (aA (decide ((4:Int)<((s.ks.map Uj).length:Int))) _ _)))=_/\_;rw[aX,aX,aX,aX];by_cases h1:(4:Int)<(s.ts.length:Int)
 .rw[aO h1,aH]; exact ⟨_,rfl,fun h=>(nomatch h)⟩
 rw[aV h1,aC];by_cases h2:(8:Int)<(s.is.length:Int)
 .rw[aO h2,aH]; exact ⟨_,rfl,fun h=>(nomatch h)⟩
 rw[aV h2,aC];by_cases h3:(4:Int)<(s.xs.length:Int)
 .rw[aO h3,aH]; exact ⟨_,rfl,fun h=>(nomatch h)⟩
 rw[aV h3,aC];by_cases h4:(4:Int)<(s.ks.length:Int)
 .rw[aO h4,aH]; exact ⟨_,rfl,fun h=>(nomatch h)⟩
 rw[aV h4,aC];obtain ⟨n,e,hn⟩:=aRM (ts:=s.ts) (by omega) s.ts.length 0 (by omega);have aY4:SS.CC 123 [.sl false 7 (s.ts.map IR),.func (.func 124) [] []] []=some (.bool (decide (0<=n)),[]):=by rw[a_0,eP ((b3C _).trans e)]
 rw[bV aY4];refine ⟨_,rfl,fun h => ?_⟩;have hn0:n<0:=by
  have:decide (0<=n)=false:=by simpa using h
  have:=of_decide_eq_false this;omega
 refine ⟨hs.e,⟨by omega,fun c hc => ?_⟩,⟨by omega,hs.is⟩,⟨by omega,hs.xs⟩,by omega,hs.ks⟩;obtain ⟨i,hi,rfl⟩:=aCB hc;obtain ⟨q1,q2,q3⟩:=hn hn0 i (zg _) hi;have:=hs.ts _ (gG hi);exact ⟨this.a,this.b,this.i,this.m,⟨by omega,this.rg⟩,⟨by omega,this.mv⟩,by omega⟩
theorem a3B (a b:bTB):bs a ++ bs b=bs (a ++ b):=by apply ByteArray.ext; simp[bs]
theorem tabs (s:Nm):(⟨#[9]⟩:bT9) ++ bs s=bs (9::s):=by show bs [9] ++ bs s=_;rw[a3B]; rfl
theorem aXX (l d:Nm):((((⟨#[9]⟩:bT9) ++ bs l) ++ (⟨#[32,32,47,47,32]⟩:bT9)) ++ bs d)=bs (9::(l ++ ([32,32,47,47,32] ++ d))):=by rw[tabs];show bs (9::l) ++ bs [32,32,47,47,32] ++ bs d=_;rw[a3B,a3B]; simp
structure DcP (Ls:List (Nm×List Tok)) (k:Nat) (A:List (Nm×List Tok)):Prop where
 n:A.length=k
 e:∀ p,p∈A->Wh p
 t:A.flatMap (·.2)=(Ls.take k).flatMap (·.2)
 l:(nS A).length<=(nS (Ls.take k)).length+12*k
theorem bFN {Ls:List (Nm×List Tok)} {p:Nm×List Tok} (h:p∈Ls):p.1.length<=(nS Ls).length:=by obtain ⟨A,B,rfl⟩:=List.append_of_mem h;rw[UL];simp[nS];omega
theorem aF0 {x1:Int} {x5:bT9} {x6:Int} {W:List Nm} {X:List Nm} {k:Nat} (hk:k<W.length) (hk2:k<1000) (hX:X.length<=1000) (hl:W[k].length<=100000) :
 ∃ d,Es x1 x5 x6 (aK W) (aK X) (k:Int)=Es x1 x5 x6 (aK W) (aK (X ++ [d])) ((k+1:Nat):Int)/\(d=W[k]\/d=9::(W[k] ++ ([32,32,47,47,32] ++ Lib.decDigits k))):=by
 have hd:=(dd hk2).1;rw[aGP,aO (by rw[iR]; omega),aH,Di hk,nY,au (aO (MB _ (by omega)))];generalize (IntKind.u16.wrap _==(1:Int))=bb;cases bb with
 | false =>rw[aC,au (gz (by rw[iR]; omega)),bu (by omega),aB3];exact ⟨_,rfl,.inl rfl⟩
 | true =>rw[aH];have s1:(⟨#[9]⟩:bT9).size=1:=rfl;have s2:(⟨#[32,32,47,47,32]⟩:bT9).size=5:=rfl;have hz:bC=1073741824:=rfl;rw[au (aO (by rw[s1,jy,hz]; omega)),au (aO (by rw[tabs,jy,s2,hz,bP]; omega)),wJ (aLH k (by omega)),au (aO (by rw[ByteArray.size_append,tabs,jy,s2,jy,hz,bP]; omega)),aXX,au (gz (by rw[iR]; omega)),bu (by omega),aB3];exact ⟨_,rfl,.inr rfl⟩
theorem aSG {α:Type} {l:List α} {k:Nat} (h:k<l.length):l.take (k+1)=l.take k ++ [l[k]]:=GR h
theorem aN9 (p:Nm×List Tok):nS [p]=p.1 ++ [10]:=by simp[nS]
theorem bKF {n:Nat} (h:n<1000) {d:Nm} (hd:d = []\/d=9::([] ++ ([32,32,47,47,32] ++ Lib.decDigits n))):Rd d []:=by
 rcases hd with rfl | rfl
 .exact aPV
 .have hx:(10:UInt8)∉(32:UInt8)::Lib.decDigits n:=fun c=>by
   rcases jV.1 c with c | c
   .cases c
   .exact (dd h).2 c
  have:=aA1 (x:=32::Lib.decDigits n) (u := []) (T := []) hx bKE;rw[wH] at this;exact E5 rfl (E5 rfl (E5 rfl (aPU this)))
abbrev IW (Ls:List (Nm×List Tok)):List Nm:=Ls.map (·.1) ++ [[]]
abbrev II (A:List (Nm×List Tok)):List Nm:=A.map (·.1)
theorem aXY {m:Mo} (h:Gj m) (x1:Int):∃ u,Es x1 (bs (uD m)) 0 (aK (rD 10 (uD m))) [] 0=(Qb 40 [.str (bs u)] fun u7=>Qb 40 [.str u7.1.1] fun u12=>aA ((0:Int)==0) (aA (u7.2.2.2.1.1==0) (aA (u12.2.2.2.1.1==0) (aA (u7.1.1.toList==(bs (uD m)).toList) (some (.bool (u12.1.1.toList==(bs (uD m)).toList),[])) (some (.bool false,[]))) (some (.bool false,[]))) (some (.bool false,[]))) (some (.bool false,[])))/\Rd u (lX m)/\u.length<=65536/\Rd (uD m) (lX m):=by
 have hg:=TK (PD h) (Na h);have ht:=aM6 (a1B hg);obtain ⟨Ls,e1,e2,e3,e4⟩:=bNU fun t hm=>a2G (ht t hm)
 have e1:uD m=nS Ls:=e1;have hb:=aVW h;have hl:=aSU h;have hr:Rd (uD m) (lX m):=by
  have:=aA3 aPV (.inl rfl) Ls fun p hp=>aNH (e2 p hp)
  rwa [wH,e3,<- e1] at this
 have hs:rD 10 (uD m)=IW Ls:=by rw[e1]; exact aRR e2
 rw[hs];rw[e1] at hl;have hW:(IW Ls).length=Ls.length+1:=by simp
 obtain ⟨A,q1,q2⟩:=BL (n:=Ls.length) (L:=fun k (A:List (Nm×List Tok))=>Es x1 (bs (uD m)) 0 (aK (IW Ls)) (aK (II A)) (k:Int)) (E:=fun A=>Es x1 (bs (uD m)) 0 (aK (IW Ls)) (aK (II A)) (Ls.length:Int)) (P:=DcP Ls) (fun k A hk hp=>by
  have hw:(IW Ls)[k]'(by omega)=Ls[k].1:=by rw[List.getElem_append_left (by rw[aX]; omega),J8]
  have hle:=bFN (gG hk);obtain ⟨d,s1,s2⟩:=aF0 (x1:=x1) (x5:=bs (uD m)) (x6:=0) (W:=IW Ls) (X:=II A) (k:=k) (by omega) (by omega) (by rw[aX,hp.n]; omega) (by rw[hw]; omega);rw[hw] at s2;have hd:=dd (show k<1000 by omega);refine ⟨A ++ [(d,Ls[k].2)],?_,⟨by rw[aY,hp.n]; rfl,fun p hm => ?_,?_,?_⟩⟩
  .rw[show II (A ++ [(d,Ls[k].2)])=II A ++ [d] from lq]; exact s1
  .rw[qQ,uI] at hm;rcases hm with hm | rfl
   .exact hp.e p hm
   .have hLk:=e2 _ (gG hk);rcases s2 with rfl | rfl
    .exact aNH hLk
    .exact bFT hLk hd.2
  .rw[aC6,hp.t,aSG hk,aC6]; simp
  .rw[UL,aSG hk,UL,aN9,aN9];have:=hp.l;simp only[aY,rH];rcases s2 with rfl | rfl
   .omega
   .simp only[aY,bP,dZ];omega) (fun A hp=>rfl) [] ⟨rfl,fun p hp=>(nomatch hp),rfl,zg _⟩
 have hw:(IW Ls)[Ls.length]'(by omega) = []:=by rw[List.getElem_append_right (by rw[aX]; omega)]; simp
 obtain ⟨d,s1,s2⟩:=aF0 (x1:=x1) (x5:=bs (uD m)) (x6:=0) (W:=IW Ls) (X:=II A) (k:=Ls.length) (by omega) (by omega) (by rw[aX,q2.n]; omega) (by rw[hw]; exact zg _);rw[hw] at s2;have hn:Ls.length<1000:=by omega
 have hd:=dd hn;have hu:(([10]:Nm).intercalate (II A ++ [d]))=nS A ++ d:=by rw[aLL];simp[nS,List.flatMap_map]
 have hdl:d.length<=9:=by
  rcases s2 with rfl | rfl
  .exact zg _
  .simp only[aY,bP,dZ]; omega
 have hlen:(nS A ++ d).length<=65536:=by have:=q2.l;rw[List.take_length] at this;rw[aY]; omega
 refine ⟨nS A ++ d,?_,?_,hlen,hr⟩
 .refine (q1.trans s1).trans ?_;rw[aGP,aV (by rw[iR,hW]; omega),aC,wJ (joc (II A ++ [d]) (by rw[aY,aX,q2.n]; simp; omega) (by rw[hu]; omega)),hu]
 .have:=aA3 (bKF hn s2) (.inr trivial) A q2.e;rwa [q2.t,List.take_length,e3] at this
theorem aGA {m:Mo} (h:Gj m) {u:Nm} (hr:Rd u (lX m)) (hl:u.length<=65536):SS.CC 36 [.str (bs u)] []=Xv m 0 0 0/\SS.CC 40 [.str (bs u)] []=some (.tuple [.str (bs (uD m)),bT6 0,bT6 0,bT6 0],[]):=by obtain ⟨us,e,h1,h2,h3⟩:=bKG hr hl;have hp:=bJG (PD h) (Na h) h1 h3 h2;exact ⟨hp,aZJ hp (PD h) (by have:=h.is.1; omega) (Na h) (a8B h)⟩
theorem c11 {s:Sk} (hs:SkT s) (n:Int):SS.CC 11 [A2 (nX s),.int .u16 n] []=some (.bool true,[]):=by
 obtain ⟨b,e,hb⟩:=bMN hs;rw[a'Y,bV known,uH,aC,bV e];cases b with
 | false=>rw[uq,aH,bV known]
 | true =>
  obtain ⟨m,em,hm⟩:=yE (hb rfl);have hl:=aSU hm;obtain ⟨u,q1,q2,q3,q4⟩:=aXY hm n;rw[uH,aC,aTO em,WS (aPR (PD hm) (by have:=hm.is.1; omega) (Na hm) (a8B hm))];try dsimp only
  rw[wK (spc (uD m) (by omega)),q1,aCJ (aGA hm q2 q3).2];try dsimp only
  rw[aCJ (aGA hm q4 (by omega)).2];simp[aA]
end Go.Proofs.YtcdceiloganlnaaGreatDoor.W
namespace Go.Proofs.YtcdceiloganlnaaGreatDoor
open Go.RowKit Go.ChangeShapes Go.WideShapes Go.ChangeAt
set_option maxRecDepth 100000
def aXO:List TypeId := [5,188,65,117,300,180,189,62,186,60,187,61,58,182,59,64]
theorem aE':a3K Tryz.prog aXO=true:=by kernel_rfl
theorem RZ:Tryz.prog.cellsOf 5=1:=by kernel_rfl
theorem aEO:Tryz.prog.cellsOf 188=1:=by kernel_rfl
theorem vk {fuel:Nat} {ps:List PV} (h:iZ Tryz.prog fuel 5 ps):∃ n,ps = [.int .u8 n]/\W.U8 n:=by obtain ⟨c,rfl⟩:=aRC h;have:=c.toNat_lt;exact ⟨_,rfl,by omega,by omega⟩
theorem V9 {fuel:Nat} {ps:List PV} (h:iZ Tryz.prog fuel 188 ps):∃ n,ps = [.int .i8 n]/\W.I8 n:=by
 cases fuel with
 | zero=>exact h.elim
 | succ fuel =>simp only[iZ,Tryz.underlying188] at h;obtain ⟨n,rfl,hn⟩:=h;refine ⟨n,rfl,?_⟩;simp[Lit.wf,IntKind.min,IntKind.max,IntKind.signed,IntKind.bits] at hn;exact hn
theorem bME {fuel:Nat} {ps:List PV} (h:iZ Tryz.prog fuel 65 ps):∃ n,wX Tryz.prog 65 ps = .int .u16 n/\True:=by
 cases fuel with
 | zero=>exact h.elim
 | succ fuel =>simp only[iZ,Tryz.underlying65] at h;obtain ⟨n,rfl,hn⟩:=h;exact ⟨n,by simp[wX,show Ci Tryz.prog 65=false by kernel_rfl],trivial⟩
theorem jk {n:Nat} {ps:List PV} (h:ps.length=n+1):∃ a qs,ps=a::qs/\qs.length=n:=by
 match ps,h with
 | a::qs,h=>exact ⟨a,qs,rfl,by simpa using h⟩
theorem V8 {t:TypeId} {a:_} {b:_} {k:Nat} {l:List (Nat×TypeId)} (hu:Tryz.prog.underlying t=some (.array a b)) (hp:parts Tryz.prog t=l) (hk:Tryz.prog.cellsOf t=k) {fuel:Nat} {ps:List PV} (h:iZ Tryz.prog fuel t ps) :
 ps.length=k/\∃ fuel',∀ x,x∈l->iZ Tryz.prog fuel' x.2 ((ps.drop x.1).take (Tryz.prog.cellsOf x.2)):=by
 cases fuel with
 | zero=>exact h.elim
 | succ fuel =>simp only[iZ,hu,hp,hk] at h;exact ⟨h.1,fuel,h.2⟩
theorem aR8 {t:TypeId} {a:_} {k:Nat} {l:List (Nat×TypeId)} (hu:Tryz.prog.underlying t=some (.struct a)) (hp:parts Tryz.prog t=l) (hk:Tryz.prog.cellsOf t=k) {fuel:Nat} {ps:List PV} (h:iZ Tryz.prog fuel t ps) :
 ps.length=k/\∃ fuel',∀ x,x∈l->iZ Tryz.prog fuel' x.2 ((ps.drop x.1).take (Tryz.prog.cellsOf x.2)):=by
 cases fuel with
 | zero=>exact h.elim
 | succ fuel =>simp only[iZ,hu,hp,hk] at h;exact ⟨h.1,fuel,h.2⟩
theorem Pj {t e:TypeId} {k:Nat} {α:Type} {f:α->PV} {Q:α->Prop} (hu:Tryz.prog.underlying t=some (.slice e)) (hk:Tryz.prog.cellsOf e=k)
 (hf:∀ {fuel:Nat} {qs:List PV},iZ Tryz.prog fuel e qs->∃ x,wX Tryz.prog e qs=f x/\Q x) {fuel:Nat} {ps:List PV} (h:iZ Tryz.prog fuel t ps):∃ l:List α,ps = [.sl false k (l.map f)]/\∀ x,x∈l->Q x:=by
 cases fuel with
 | zero=>exact h.elim
 | succ fuel =>
  simp only[iZ,hu] at h;obtain ⟨es,rfl,hw,hes⟩:=h;obtain ⟨l,rfl,hq⟩:=aNB (f:=f) (Q:=Q) (es:=es) fun p hp=>by obtain ⟨qs,hs,rfl⟩:=hes p hp;exact hf hs
  exact ⟨l,by rw[hk],hq⟩
theorem elS {t:TypeId} {ps:List PV} (h:Ci Tryz.prog t=true):wX Tryz.prog t ps = .agg ps:=by simp only[wX,h,yY]
theorem aEQ:Tryz.prog.cellsOf 300=2:=by kernel_rfl
theorem bJK:parts Tryz.prog 300 = [(0,188),(1,188)]:=by kernel_rfl
theorem bM6 {fuel:Nat} {ps:List PV} (h:iZ Tryz.prog fuel 300 ps):∃ x:Int×Int,ps = [.int .i8 x.1,.int .i8 x.2]/\W.I8 x.1/\W.I8 x.2:=by obtain ⟨hl,fuel,h⟩:=V8 Tryz.underlying300 bJK aEQ h;obtain ⟨a0,q0,rfl,l0⟩:=jk hl;obtain ⟨a1,q1,rfl,l1⟩:=jk l0;obtain rfl:=kU l1;have h0:=h (0,188) (by simp);have h1:=h (1,188) (by simp);simp only[aEO,List.drop,List.take] at h0 h1;obtain ⟨n0,e0,i0⟩:=V9 h0;obtain ⟨n1,e1,i1⟩:=V9 h1;cases e0;cases e1;exact ⟨(n0,n1),rfl,i0,i1⟩
theorem aER:Tryz.prog.cellsOf 189=3:=by kernel_rfl
theorem bJL:parts Tryz.prog 189 = [(0,188),(1,188),(2,188)]:=by kernel_rfl
theorem bM8 {fuel:Nat} {ps:List PV} (h:iZ Tryz.prog fuel 189 ps):∃ x:Int×Int×Int,ps = [.int .i8 x.1,.int .i8 x.2.1,.int .i8 x.2.2]/\W.I8 x.1/\W.I8 x.2.1/\W.I8 x.2.2:=by obtain ⟨hl,fuel,h⟩:=V8 Tryz.underlying189 bJL aER h;obtain ⟨a0,q0,rfl,l0⟩:=jk hl;obtain ⟨a1,q1,rfl,l1⟩:=jk l0;obtain ⟨a2,q2,rfl,l2⟩:=jk l1;obtain rfl:=kU l2;have h0:=h (0,188) (by simp);have h1:=h (1,188) (by simp);have h2:=h (2,188) (by simp);simp only[aEO,List.drop,List.take] at h0 h1 h2;obtain ⟨n0,e0,i0⟩:=V9 h0;obtain ⟨n1,e1,i1⟩:=V9 h1;obtain ⟨n2,e2,i2⟩:=V9 h2;cases e0;cases e1;cases e2;exact ⟨(n0,n1,n2),rfl,i0,i1,i2⟩
theorem aES:Tryz.prog.cellsOf 186=3:=by kernel_rfl
theorem bJM:parts Tryz.prog 186 = [(0,5),(1,5),(2,5)]:=by kernel_rfl
theorem bMA {fuel:Nat} {ps:List PV} (h:iZ Tryz.prog fuel 186 ps):∃ x:Int×Int×Int,ps = [.int .u8 x.1,.int .u8 x.2.1,.int .u8 x.2.2]/\W.U8 x.1/\W.U8 x.2.1/\W.U8 x.2.2:=by obtain ⟨hl,fuel,h⟩:=V8 Tryz.underlying186 bJM aES h;obtain ⟨a0,q0,rfl,l0⟩:=jk hl;obtain ⟨a1,q1,rfl,l1⟩:=jk l0;obtain ⟨a2,q2,rfl,l2⟩:=jk l1;obtain rfl:=kU l2;have h0:=h (0,5) (by simp);have h1:=h (1,5) (by simp);have h2:=h (2,5) (by simp);simp only[RZ,List.drop,List.take] at h0 h1 h2;obtain ⟨n0,e0,i0⟩:=vk h0;obtain ⟨n1,e1,i1⟩:=vk h1;obtain ⟨n2,e2,i2⟩:=vk h2;cases e0;cases e1;cases e2;exact ⟨(n0,n1,n2),rfl,i0,i1,i2⟩
theorem aEU:Tryz.prog.cellsOf 187=4:=by kernel_rfl
theorem bJN:parts Tryz.prog 187 = [(0,5),(1,5),(2,5),(3,5)]:=by kernel_rfl
theorem bMB {fuel:Nat} {ps:List PV} (h:iZ Tryz.prog fuel 187 ps):∃ x:Int×Int×Int×Int,ps = [.int .u8 x.1,.int .u8 x.2.1,.int .u8 x.2.2.1,.int .u8 x.2.2.2]/\W.U8 x.1/\W.U8 x.2.1/\W.U8 x.2.2.1/\W.U8 x.2.2.2:=by obtain ⟨hl,fuel,h⟩:=V8 Tryz.underlying187 bJN aEU h;obtain ⟨a0,q0,rfl,l0⟩:=jk hl;obtain ⟨a1,q1,rfl,l1⟩:=jk l0;obtain ⟨a2,q2,rfl,l2⟩:=jk l1;obtain ⟨a3,q3,rfl,l3⟩:=jk l2;obtain rfl:=kU l3;have h0:=h (0,5) (by simp);have h1:=h (1,5) (by simp);have h2:=h (2,5) (by simp);have h3:=h (3,5) (by simp);simp only[RZ,List.drop,List.take] at h0 h1 h2 h3;obtain ⟨n0,e0,i0⟩:=vk h0;obtain ⟨n1,e1,i1⟩:=vk h1;obtain ⟨n2,e2,i2⟩:=vk h2;obtain ⟨n3,e3,i3⟩:=vk h3;cases e0;cases e1;cases e2;cases e3;exact ⟨(n0,n1,n2,n3),rfl,i0,i1,i2,i3⟩
theorem aEN:Tryz.prog.cellsOf 58=5:=by kernel_rfl
theorem bJH:parts Tryz.prog 58 = [(0,5),(1,5),(2,5),(3,5),(4,5)]:=by kernel_rfl
theorem bM2 {fuel:Nat} {ps:List PV} (h:iZ Tryz.prog fuel 58 ps):∃ x:Int×Int×Int×Int×Int,ps = [.int .u8 x.1,.int .u8 x.2.1,.int .u8 x.2.2.1,.int .u8 x.2.2.2.1,.int .u8 x.2.2.2.2]/\W.U8 x.1/\W.U8 x.2.1/\W.U8 x.2.2.1/\W.U8 x.2.2.2.1/\W.U8 x.2.2.2.2:=by obtain ⟨hl,fuel,h⟩:=V8 Tryz.underlying58 bJH aEN h;obtain ⟨a0,q0,rfl,l0⟩:=jk hl;obtain ⟨a1,q1,rfl,l1⟩:=jk l0;obtain ⟨a2,q2,rfl,l2⟩:=jk l1;obtain ⟨a3,q3,rfl,l3⟩:=jk l2;obtain ⟨a4,q4,rfl,l4⟩:=jk l3;obtain rfl:=kU l4;have h0:=h (0,5) (by simp);have h1:=h (1,5) (by simp);have h2:=h (2,5) (by simp);have h3:=h (3,5) (by simp);have h4:=h (4,5) (by simp);simp only[RZ,List.drop,List.take] at h0 h1 h2 h3 h4;obtain ⟨n0,e0,i0⟩:=vk h0;obtain ⟨n1,e1,i1⟩:=vk h1;obtain ⟨n2,e2,i2⟩:=vk h2;obtain ⟨n3,e3,i3⟩:=vk h3;obtain ⟨n4,e4,i4⟩:=vk h4;cases e0;cases e1;cases e2;cases e3;cases e4;exact ⟨(n0,n1,n2,n3,n4),rfl,i0,i1,i2,i3,i4⟩
theorem aX9:Tryz.prog.cellsOf 180=1:=by kernel_rfl
theorem bM7 {fuel:Nat} {ps:List PV} (h:iZ Tryz.prog fuel 180 ps):∃ l:List (Int×Int),ps = [.sl false 2 (l.map W.Kr)]/\∀ x,x∈l->(fun x=>W.I8 x.1/\W.I8 x.2) x:=by refine Pj (e:=300) Tryz.underlying180 aEQ (fun h => ?_) h;obtain ⟨x,rfl,hx⟩:=bM6 h;exact ⟨x,elS (by kernel_rfl),hx⟩
theorem aXA:Tryz.prog.cellsOf 62=1:=by kernel_rfl
theorem bM9 {fuel:Nat} {ps:List PV} (h:iZ Tryz.prog fuel 62 ps):∃ l:List (Int×Int×Int),ps = [.sl false 3 (l.map W.Uj)]/\∀ x,x∈l->(fun x=>W.I8 x.1/\W.I8 x.2.1/\W.I8 x.2.2) x:=by refine Pj (e:=189) Tryz.underlying62 aER (fun h => ?_) h;obtain ⟨x,rfl,hx⟩:=bM8 h;exact ⟨x,elS (by kernel_rfl),hx⟩
theorem aET:Tryz.prog.cellsOf 60=1:=by kernel_rfl
theorem aR9 {fuel:Nat} {ps:List PV} (h:iZ Tryz.prog fuel 60 ps):∃ l:List (Int×Int×Int),ps = [.sl false 3 (l.map W.IQ)]/\∀ x,x∈l->(fun x=>W.U8 x.1/\W.U8 x.2.1/\W.U8 x.2.2) x:=by refine Pj (e:=186) Tryz.underlying60 aES (fun h => ?_) h;obtain ⟨x,rfl,hx⟩:=bMA h;exact ⟨x,elS (by kernel_rfl),hx⟩
theorem aXB:Tryz.prog.cellsOf 61=1:=by kernel_rfl
theorem bMC {fuel:Nat} {ps:List PV} (h:iZ Tryz.prog fuel 61 ps):∃ l:List (Int×Int×Int×Int),ps = [.sl false 4 (l.map W.Uk)]/\∀ x,x∈l->(fun x=>W.U8 x.1/\W.U8 x.2.1/\W.U8 x.2.2.1/\W.U8 x.2.2.2) x:=by refine Pj (e:=187) Tryz.underlying61 aEU (fun h => ?_) h;obtain ⟨x,rfl,hx⟩:=bMB h;exact ⟨x,elS (by kernel_rfl),hx⟩
theorem aX7:Tryz.prog.cellsOf 117=1:=by kernel_rfl
theorem bM5 {fuel:Nat} {ps:List PV} (h:iZ Tryz.prog fuel 117 ps):∃ l:List UInt8,ps = [.sl false 1 (W.wY l)]:=by obtain ⟨l,e,_⟩:=Pj (k:=1) (f:=fun c:UInt8=>PV.int .u8 (c.toNat:Int)) (Q:=fun _=>True) (e:=5) Tryz.underlying117 RZ bMF h;exact ⟨l,e⟩
theorem aEP:Tryz.prog.cellsOf 182=7:=by kernel_rfl
theorem bJI:parts Tryz.prog 182 = [(0,5),(1,5),(2,5),(3,5),(4,180),(5,60),(6,117)]:=by kernel_rfl
theorem bM3 {fuel:Nat} {ps:List PV} (h:iZ Tryz.prog fuel 182 ps):∃ c:W.Mc,.agg ps=W.IR c/\W.McT c:=by obtain ⟨hl,fuel,h⟩:=aR8 Tryz.underlying182 bJI aEP h;obtain ⟨a0,q0,rfl,l0⟩:=jk hl;obtain ⟨a1,q1,rfl,l1⟩:=jk l0;obtain ⟨a2,q2,rfl,l2⟩:=jk l1;obtain ⟨a3,q3,rfl,l3⟩:=jk l2;obtain ⟨a4,q4,rfl,l4⟩:=jk l3;obtain ⟨a5,q5,rfl,l5⟩:=jk l4;obtain ⟨a6,q6,rfl,l6⟩:=jk l5;obtain rfl:=kU l6;have h0:=h (0,5) (by simp);have h1:=h (1,5) (by simp);have h2:=h (2,5) (by simp);have h3:=h (3,5) (by simp);have h4:=h (4,180) (by simp);have h5:=h (5,60) (by simp);have h6:=h (6,117) (by simp);simp only[RZ,aX9,aET,aX7,List.drop,List.take] at h0 h1 h2 h3 h4 h5 h6;obtain ⟨n0,e0,i0⟩:=vk h0;obtain ⟨n1,e1,i1⟩:=vk h1;obtain ⟨n2,e2,i2⟩:=vk h2;obtain ⟨n3,e3,i3⟩:=vk h3;obtain ⟨rg,e4,i4⟩:=bM7 h4;obtain ⟨mv,e5,i5⟩:=aR9 h5;obtain ⟨y,e6⟩:=bM5 h6;cases e0;cases e1;cases e2;cases e3;cases e4;cases e5;cases e6;exact ⟨⟨n0,n1,n2,n3,rg,mv,y⟩,rfl,i0,i1,i2,i3,i4,i5⟩
theorem aX5:Tryz.prog.cellsOf 59=1:=by kernel_rfl
theorem bM4 {fuel:Nat} {ps:List PV} (h:iZ Tryz.prog fuel 59 ps):∃ l:List W.Mc,ps = [.sl false 7 (l.map W.IR)]/\∀ x,x∈l->W.McT x:=by refine Pj (e:=182) Tryz.underlying59 aEP (fun h => ?_) h;obtain ⟨x,e,hx⟩:=bM3 h;exact ⟨x,(elS (by kernel_rfl)).trans e,hx⟩
theorem aX6:Tryz.prog.cellsOf 64=9:=by kernel_rfl
theorem bJJ:parts Tryz.prog 64 = [(0,58),(5,59),(6,60),(7,61),(8,62)]:=by kernel_rfl
theorem bMD {fuel:Nat} {ps:List PV} (h:iZ Tryz.prog fuel 64 ps):∃ s:W.Sk,wX Tryz.prog 64 ps=W.A2 (W.nX s)/\W.SkT s:=by obtain ⟨hl,fuel,h⟩:=aR8 Tryz.underlying64 bJJ aX6 h;obtain ⟨a0,q0,rfl,l0⟩:=jk hl;obtain ⟨a1,q1,rfl,l1⟩:=jk l0;obtain ⟨a2,q2,rfl,l2⟩:=jk l1;obtain ⟨a3,q3,rfl,l3⟩:=jk l2;obtain ⟨a4,q4,rfl,l4⟩:=jk l3;obtain ⟨a5,q5,rfl,l5⟩:=jk l4;obtain ⟨a6,q6,rfl,l6⟩:=jk l5;obtain ⟨a7,q7,rfl,l7⟩:=jk l6;obtain ⟨a8,q8,rfl,l8⟩:=jk l7;obtain rfl:=kU l8;have h0:=h (0,58) (by simp);have h1:=h (5,59) (by simp);have h2:=h (6,60) (by simp);have h3:=h (7,61) (by simp);have h4:=h (8,62) (by simp);simp only[aEN,aX5,aET,aXB,aXA,List.drop,List.take] at h0 h1 h2 h3 h4;obtain ⟨e,e0,i0⟩:=bM2 h0;obtain ⟨ts,e1,i1⟩:=bM4 h1;obtain ⟨is,e2,i2⟩:=aR9 h2;obtain ⟨xs,e3,i3⟩:=bMC h3;obtain ⟨ks,e4,i4⟩:=bM9 h4;cases e0;cases e1;cases e2;cases e3;cases e4;exact ⟨⟨e,ts,is,xs,ks⟩,elS (by kernel_rfl),i0,i1,i2,i3,i4⟩
end Go.Proofs.YtcdceiloganlnaaGreatDoor
namespace Go.Proofs.YtcdceiloganlnaaGreatDoor
open Go.ChangeShapes Go.WideShapes Go.ChangeAt Go.RowKit
set_option maxRecDepth 100000 in
theorem aZP (os:Os) (started:os.Started) (H:Type) (enc:TypeId×Value->H) (F:Stop.Interp) :
 ReturnsInHanded {} Tryz.checked os 11 .any ((OpenSpec.ofChange Rows.parserFormatsSpec).preRow enc Tryz.prog Tryz.f11 Rows.parserFormatsRow.domain false Rows.parserFormatsRow.laid) (((OpenSpec.ofChange Rows.parserFormatsSpec).at F).post enc Tryz.prog Tryz.f11 false true false false):=by
 obtain ⟨x,hx⟩:=Option.isSome_iff_exists.1 (show (DataW.whole enc Tryz.prog ((laidWorld6 os).forCall (fun _ _=>0) ⟨#[],#[.agg #[.int .u8 0,.int .u8 0,.int .u8 0,.int .u8 0,.int .u8 0,.slice none 0 0,.slice none 0 0,.slice none 0 0,.slice none 0 0],.int .u16 0],[]⟩).memory Tryz.f11.params.toList Rows.parserFormatsSpec.vars false (#[.agg #[.int .u8 0,.int .u8 0,.int .u8 0,.int .u8 0,.int .u8 0,.slice none 0 0,.slice none 0 0,.slice none 0 0,.slice none 0 0],.int .u16 0]:Array Value).toList 8).isSome=true by kernel_rfl);refine returnsInHanded_of_row (C:=Tryz.checked) (s:=OpenSpec.ofChange Rows.parserFormatsSpec) bHR started (by kernel_rfl) Tryz.func11
  (witness_row_at (enc:=enc) (C:=Tryz.checked) false (laidWorld6 os) #[.agg #[.int .u8 0,.int .u8 0,.int .u8 0,.int .u8 0,.int .u8 0,.slice none 0 0,.slice none 0 0,.slice none 0 0,.slice none 0 0],.int .u16 0] rfl (by kernel_rfl) (by kernel_rfl) (by kernel_rfl)
   (OpenSpec.preRow_of_cond 8 hx (by kernel_rfl) (fun k hk=>by cases hk) (by kernel_rfl) (laidMet_of_run' 8 (by kernel_rfl) (by kernel_rfl)))) ?_
 intro W base args ds gs before hval0 hW hcnd _ hsz0 hlaid bD6 _;have hval:∀ (j:Nat) t v,Tryz.f11.params[j]? = some t->args[j]? = some v->Value.okWide Tryz.prog W .any base t v:=hval0;have hsz:(DataW.weightsEach Tryz.prog (Tryz.f11.params.toList ++ Rows.parserFormatsSpec.plain.varTypes Tryz.prog) (ds ++ gs)).all (· <= reachBytes)=true:=hsz0;have hW':=hW;obtain ⟨p,q,hA0,hV,rfl,hfz,hnd⟩:=hW;have hA:DataW.TrodAll enc Tryz.prog W 0 (fun _=>true) true Tryz.f11.params.toList args.toList ds p:=hA0;rw[Tryz.params11] at hA hval hsz;have hsz1:∀ (j:Nat) t d,(Tryz.f11.params.toList)[j]? = some t->ds[j]? = some d->∀ n,n∈d.weights Tryz.prog t->n<=reachBytes:=fun j t d ht hd n hn=>ML (iY.1 hsz0 _ (DataW.weights_mem_each (j:=j) (t:=t) (d:=d) (by rw[ut (iJ.1 ht).1]; exact ht) (by rw[ut (iJ.1 hd).1]; exact hd) n hn))
 rw[Tryz.params11] at hsz1;clear hsz hsz0;have gw:GW W:=bCM hlaid.tail.tail bD6;obtain ⟨v0,vs0,d0,ds0,p0,q0,hargs,rfl,rfl,h0,r0⟩:=trodAll_cons hA;obtain ⟨v1,vs1,d1,ds1,p1,q1,rfl,rfl,rfl,h1,r1⟩:=trodAll_cons r0;obtain ⟨rfl,rfl,rfl⟩:=trodAll_nil r1;obtain rfl:args = #[v0,v1]:=by cases args; simp_all
 obtain ⟨rfl,rfl⟩:=trodVars_none hV;have k0:=h0;have lt0:∀ x∈p0,x.block<W.heap.size:=by obtain ⟨m,hm⟩:=k0; exact DataW.trod_lt m _ _ _ hm
 obtain ⟨f0,q0,s0,aPZ⟩:=open_arg (hW:=gw) aE' (by decide) (hval 0 64 v0 rfl rfl) h0 (hsz1 0 64 d0 rfl rfl);obtain ⟨e0,he0,x0⟩:=bMD s0;rw[he0] at aPZ;have k1:=h1;have lt1:∀ x∈p1,x.block<W.heap.size:=by obtain ⟨m,hm⟩:=k1; exact DataW.trod_lt m _ _ _ hm
 obtain ⟨f1,q1,s1,aP'⟩:=open_arg (hW:=gw) aE' (by decide) (hval 1 65 v1 rfl rfl) h1 (hsz1 1 65 d1 rfl rfl);obtain ⟨e1,he1,x1⟩:=bME s1;rw[he1] at aP';clear hA0 hval0;refine (Ev.top (aYU (Go.Proofs.YtcdceiloganlnaaGreatDoor.W.c11 x0 e1)) (aQ4 aPZ (aQ4 aP' bKU))).mono fun e W' ⟨vr,M',he,hrep,_,bel⟩ => ?_
 subst he;obtain rfl:=jo.1 hrep;exact ⟨_,rfl,_,_,_,[],_,[],hW',trodAll_mk1 (shut_bool Tryz.underlying4 _),(trodAll_cons_mk (Below.trod aMZ (by kernel_rfl) (ML (by kernel_rfl)) k0 bel lt0) (trodAll_cons_mk (Below.trod aMZ (by kernel_rfl) (ML (by kernel_rfl)) k1 bel lt1) trodAll_mk0)),rfl,bel.frame _,fun h=>by cases h⟩
theorem aZN:(Rows.parserFormatsRow.inPlace==Tryz.prog.inPlace 11)=true:=by kernel_rfl
theorem aZT:(Rows.parserFormatsRow.unfollowed==Tryz.prog.unfollowed 11)=true:=by kernel_rfl
theorem aZR:(Rows.parserFormatsRow.recurses==Tryz.prog.recurses 11)=true:=by kernel_rfl
theorem aZU:(Rows.parserFormatsRow.named==Tryz.prog.varsNamed 11)=true:=by kernel_rfl
theorem aZO:joinedFacts Tryz.prog 11 Tryz.f11 (OpenSpec.ofChange Rows.parserFormatsSpec).bare Rows.parserFormatsRow=true :=bDZ (by kernel_rfl) aZN aZT aZR aZU (by kernel_rfl)
theorem aZV:Tryz.f11.isWrapper Tryz.prog Rows.parserFormatsRow.wrapper Rows.parserFormatsRow.mainSum:=by unfold Func.isWrapper;first | (rw[aS (by decide +kernel)]; kernel_rfl) | (rw[aQ (by decide +kernel)]; exact ⟨rfl,rfl⟩)
theorem aZS:Rows.ParserFormatsSaid :=
 OpenClaim.holds_of_cond 11 Tryz.f11 rfl rfl rfl rfl rfl rfl rfl ⟨rfl,rfl,rfl,rfl,rfl⟩ rfl rfl rfl rfl rfl (by kernel_rfl) Tryz.func11 aZO
  (ML (by kernel_rfl)) aZV
  (fun os started H enc _ F=>by rw[OpenClaim.pre_eq_preRow]; exact aZP os started H enc F)
end Go.Proofs.YtcdceiloganlnaaGreatDoor
end

/- A part of the proof: G17, L18, HO17c, W17k, Y17, Y18, Y19, Y20, Y21, Y22, Y23, W17p, Y24, Y25, Y26, Y27, Y28, Y29, Y30, Y31, Y32, Y33, Y34, Y35, Y36, Y37. -/
import Derived.Test.YtcdceiloganlnaaGreatDoorPc5
import Derived.Test.YtcdceiloganlnaaGreatDoorPc6
import Derived.Test.YtcdceiloganlnaaGreatDoorPc4
set_option linter.unusedVariables false
set_option linter.unusedSimpArgs false
set_option linter.unnecessarySimpa false
set_option linter.unusedSectionVars false
noncomputable section
open Go.IntKind (i64)
namespace Go.Proofs.YtcdceiloganlnaaGreatDoor.W
open Go.RowKit
set_option maxRecDepth 1000000
theorem known:SS.CC 12 [] []=some (.bool true,[]):=k52
def XY (r:R):Prop:=∃ b c',r=some (.bool b,[eP (c',())])/\0<=c'/\c'<=80
theorem aJW {o v i d:Int} (hd:0<=d/\d<=10) (all:List EX) (hn:all.length<=4) (ih:∀ e,e∈all->∀ d c,0<=d->d<=11->0<=c->c<=80->XY (SS.CC 201 [A1 (ev e),.int .i64 d,.ptr 0 0] [eP (c,())])) :
 ∀ (l:List EX) (k:Nat) (c:Int),all.drop k=l->0<=c->c<=80->XY (UU d (o,v,i,mJ all,()) c (k:Int))
 | [],k,c,ha,h0,h1=>by
  have h2:all.length<=k:=J3.1 ha;rw[aAX];try dsimp only
  rw[aT (by rw[xk]; omega),aC];exact ⟨_,c,rfl,h0,h1⟩
 | a::l,k,c,ha,h0,h1=>by
  obtain ⟨k1,k2,k3⟩:=drop_cons ha;rw[aAX];try dsimp only
  rw[aN (by rw[xk]; omega),aG,BA k1,k2,wrap64 (n:=d+1) (by omega) (by omega)];obtain ⟨b,c',r1,r2,r3⟩:=ih a (by rw[<- k2]; exact dD k1) (d+1) c (by omega) (by omega) h0 h1;rw[a5F r1];cases b with
  | false=>exact ⟨_,c',rfl,r2,r3⟩
  | true =>rw[uq,aC,wrap64 (by omega) (by omega),show ((k:Int)+1)=((k+1:Nat):Int) by omega];exact aJW hd all hn ih l (k+1) c' k3 r2 r3
theorem smc {x:EX} (hx:x.Len):∀ d c,0<=d->d<=11->0<=c->c<=80->XY (SS.CC 201 [A1 (ev x),.int .i64 d,.ptr 0 0] [eP (c,())]):=by
 induction hx with
 | @mk o v i l hl hv ho hi _ ih =>
  intro d c h0 h1 h2 h3;rw[aW1,iw];try dsimp only
  by_cases hc:c=0
  .rw[show (c==0)=true by simp[hc],aG]; exact ⟨_,c,rfl,h2,h3⟩
  rw[show (c==0)=false by simpa using hc,aC];by_cases hd:10<d
  .rw[aN hd,aG]; exact ⟨_,c,rfl,h2,h3⟩
  rw[aT hd,aC,xk];by_cases hl4:(4:Int)<(l.length:Int)
  .rw[aN hl4,aG]; exact ⟨_,c,rfl,h2,h3⟩
  rw[aT hl4,aC,wrap64 (by omega) (by omega)];exact aJW ⟨h0,by omega⟩ l (by omega) ih l 0 (c-1) rfl (by omega) (by omega)
theorem aJX {x:EX} (hx:x.Len):∃ b,SS.CC 24 [A1 (ev x)] []=some (.bool b,[]):=by
 obtain ⟨b,c',h,_,_⟩:=smc hx 1 80 (by decide) (by decide) (by decide) (by decide);have h2:SS.CC 107 [A1 (ev x)] []=some (.bool b,[]):=by rw[aR2,a5F h]
 exact ⟨b,by rw[aX2,bD h2]⟩
theorem aDV {s:List UInt8}:∀ (l:List (List UInt8)) (k:Nat),(0<=Hm (bs s) (y5 l) k↔s∈l)
 | [],k=>by
  constructor
  .intro h;have:(0:Int) <= -1:=h;omega
  .intro h; cases h
 | a::l,k=>by
  show 0<=(if bs s=bs a then (k:Int) else Hm (bs s) (y5 l) (k+1))↔_;by_cases h:bs s=bs a
  .rw[aH h];exact ⟨fun _=>by rw[aMY h]; simp,fun _=>by omega⟩
  .rw[aI h,aDV l (k+1),fQ];exact ⟨fun hm => .inr hm,fun hm=>hm.resolve_left fun e=>h (by rw[e])⟩
theorem Rj {g:FuncId} {a:List PV} {l1:List PV} {K:RS.F (.tl true 3) R} (e:SS.CC g a []=some (.sl true 3 l1,[])):NV g a K=K l1:=vK e rfl
theorem aLL {g:FuncId} {a:List PV} {h:aF} {y1:Sh.V fU} {y2:Sh.V jk} {K:RS.F (.t []) (jU [.c fU,.z lT,.c jk])} (e:SS.CC g a h=some (.tuple [],[aB y1,some [.ptr 0 0],uy y2])):H28 g a h K=K () y1 y2:=nY e rfl
theorem aLM {g:FuncId} {a:List PV} {h:aF} {y1:Sh.V fU} {y2:Sh.V ik} {K:RS.F (.t []) (jU [.c fU,.z lT,.c ik])} (e:SS.CC g a h=some (.tuple [],[aB y1,some [.ptr 0 0],rW y2])):H29 g a h K=K () y1 y2:=nY e rfl
theorem NY {g:FuncId} {a:List PV} {h:aF} {y1:Sh.V Dw} {y2:Sh.V JP} {K:RS.F (.t []) (jU [.c Dw,.c JP])} (e:SS.CC g a h=some (.tuple [],[uz y1,yR y2])):JI g a h K=K () y1 y2:=nY e rfl
theorem aLN {g:FuncId} {a:List PV} {h:aF} {s1:ByteArray} {y2:Sh.V Nc} {K:RS.F (.ts) (jU [.c Nc])} (e:SS.CC g a h=some (.str s1,[some (mkS Nc y2)])):H31 g a h K=K s1 y2:=nY e rfl
theorem a5D {g:FuncId} {a:List PV} {h:aF} {n1:Int} {y2:Sh.V qY} {K:RS.F (.t [(false,[.I .i64]),(false,[.ni])]) (jU [.c qY])} (e:SS.CC g a h=some (.tuple [.int .i64 n1,.raw .nilIface],[lu y2])):XM g a h K=K ((n1,()),(),()) y2:=nY e rfl
theorem a5E {g:FuncId} {a:List PV} {h:aF} {y1:Sh.V qY} {K:RS.F (.z (.ni)) (jU [.c qY])} (e:SS.CC g a h=some (.raw .nilIface,[lu y1])):XN g a h K=K y1:=nY e rfl
theorem a5G {g:FuncId} {a:List PV} {h:aF} {b1:Bool} {y2:Sh.V S7} {K:RS.F (.tb) (jU [.c S7])} (e:SS.CC g a h=some (.bool b1,[O7 y2])):XP g a h K=K b1 y2:=nY e rfl
theorem aLP {g:FuncId} {a:List PV} {h:aF} {y1:Sh.V fU} {y2:Sh.V rX} {y3:Sh.V S9} {K:RS.F (.t []) (jU [.c fU,.z lT,.c rX,.c S9])} (e:SS.CC g a h=some (.tuple [],[aB y1,some [.ptr 0 0],iG y2,O9 y3])):H45 g a h K=K () y1 y2 y3:=nY e rfl
theorem aLQ {g:FuncId} {a:List PV} {h:aF} {y1:Sh.V fU} {K:RS.F (.t []) (jU [.c fU,.z lT])} (e:SS.CC g a h=some (.tuple [],[aB y1,some [.ptr 0 0]])):H46 g a h K=K () y1:=nY e rfl
theorem a5H {g:FuncId} {a:List PV} {h:aF} {y1:Sh.V jk} {y2:Sh.V fU} {K:RS.F (.t []) (jU [.z vF,.c jk,.c fU])} (e:SS.CC g a h=some (.tuple [],[some [.ptr 2 0],uy y1,aB y2])):XQ g a h K=K () y1 y2:=nY e rfl
theorem a5I {g:FuncId} {a:List PV} {h:aF} {y1:Sh.V ik} {y2:Sh.V fU} {K:RS.F (.t []) (jU [.z vF,.c ik,.c fU])} (e:SS.CC g a h=some (.tuple [],[some [.ptr 2 0],rW y1,aB y2])):XR g a h K=K () y1 y2:=nY e rfl
theorem a5J {g:FuncId} {a:List PV} {h:aF} {y1:Sh.V qY} {K:RS.F (.t []) (jU [.c qY])} (e:SS.CC g a h=some (.tuple [],[lu y1])):XT g a h K=K () y1:=nY e rfl
theorem aLS {g:FuncId} {a:List PV} {h:aF} {n1:Int} {y2:Sh.V S7} {K:RS.F (.ti .i64) (jU [.c S7])} (e:SS.CC g a h=some (.int .i64 n1,[O7 y2])):H63 g a h K=K n1 y2:=nY e rfl
theorem a5K {g:FuncId} {a:List PV} {h:aF} {y1:Sh.V rX} {y2:Sh.V S9} {y3:Sh.V fU} {K:RS.F (.t []) (jU [.z kQ,.c rX,.c S9,.c fU])} (e:SS.CC g a h=some (.tuple [],[some [.ptr 3 0],iG y1,O9 y2,aB y3])):XU g a h K=K () y1 y2 y3:=nY e rfl
section
def Oa:KT:=SS.rK Tryz.f13 13 0 []
def aRW:KT:=SS.jK 13 312 0 (cS Tryz.f13 31) Oa
def aS4:KT:=au 0 aRW
def aSD:KT:=SS.jK 13 312 0 (cS Tryz.f13 63) Oa
def a9O:KT:=au 2 aSD
def aSE:KT:=SS.lK 13 312 0 [1,3,4,84,85,86] 0 (cS Tryz.f13 303) a9O
def aSF:KT:=SS.jK 13 312 0 (cS Tryz.f13 3887) aSE
def a9P:KT:=au 3 aSF
def aSG:KT:=SS.jK 13 312 0 (cS Tryz.f13 127791) a9P
def aSH:KT:=au 4 aSG
def aRX:KT:=SS.jK 13 312 0 (cS Tryz.f13 127) Oa
def aRY:KT:=au 10 aRX
def a9L:KT:=au 6 a9P
def aRZ:KT:=SS.jK 13 312 0 (cS Tryz.f13 255) Oa
def a9M:KT:=au 12 aRZ
def aR':KT:=SS.lK 13 312 0 [1,3,4,84,85,86,165,166,167] 0 (cS Tryz.f13 652079) a9L
def aS0:KT:=SS.jK 13 312 0 (cS Tryz.f13 7992111) aR'
def aS1:KT:=au 7 aS0
def aS2:KT:=au 8 aS1
def aS3:KT:=SS.lK 13 312 0 [1,3,4,234,235,236] 0 (cS Tryz.f13 1215) a9M
def aS5:KT:=SS.jK 13 312 0 (cS Tryz.f13 15551) aS3
def aS6:KT:=au 13 aS5
def aS7:KT:=au 14 aS6
def aS8:KT:=SS.jK 13 312 0 (cS Tryz.f13 511) Oa
def a9N:KT:=au 16 aS8
def aS9:KT:=SS.lK 13 312 0 [3,4,274,275,276] 0 (cS Tryz.f13 2431) a9N
def aSA:KT:=SS.jK 13 312 0 (cS Tryz.f13 31103) aS9
def aSB:KT:=au 17 aSA
def aSC:KT:=au 18 aSB
def uT (x1:Sh.V S0) (x4:Bool) (Iq:Int):R:=SS.LL (SS.ae 13 312) 0 [1,3,4,68,69,70] 0 (cS Tryz.f13 151) aS4 ⟨[(1,.cst (A0 x1)),(3,.func (.func 42) [] []),(4,.bool x4),(68,.sl false 5 x1.2.1),(69,.int .i64 (x1.2.1.length:Int)),(70,.int .i64 Iq)],[]⟩
def CU (x1:Sh.V S0) (x4:Bool) (x86:Int):R:=SS.LL (SS.ae 13 312) 0 [1,3,4,84,85,86] 0 (cS Tryz.f13 303) a9O ⟨[(1,.cst (A0 x1)),(3,.func (.func 42) [] []),(4,.bool x4),(84,.sl false 9 x1.2.2.1),(85,.int .i64 (x1.2.2.1.length:Int)),(86,.int .i64 x86)],[]⟩
def jm (x1:Sh.V S0) (q0:Sh.V S5) (x4:Bool) (x151:Int) (x86:Int):R:=SS.LL (SS.ae 13 312) 0 [1,3,4,9,84,85,86,149,150,151] 2 (cS Tryz.f13 619311) aSH ⟨[(1,.cst (A0 x1)),(3,.func (.func 42) [] []),(4,.bool x4),(9,.ptr 1 0),(84,.sl false 9 x1.2.2.1),(85,.int .i64 (x1.2.2.1.length:Int)),(86,.int .i64 x86),(149,.sl false 4 q0.2.2.2.2.2.2.2.1),(150,.int .i64 (q0.2.2.2.2.2.2.2.1.length:Int)),(151,.int .i64 x151)],[O5 q0,O6 (q0.2.2.2.1,q0.2.2.2.2.1,q0.2.2.2.2.2.1,q0.2.2.2.2.2.2.1,q0.2.2.2.2.2.2.2.1,q0.2.2.2.2.2.2.2.2.1,())]⟩
def yj (x1:Sh.V S0) (x4:Bool) (Ff:List PV) (Fg:Int) (Dp:Int):R:=SS.LL (SS.ae 13 312) 0 [1,3,4,204,205,206] 0 (cS Tryz.f13 607) aRY ⟨[(1,.cst (A0 x1)),(3,.func (.func 42) [] []),(4,.bool x4),(204,.sl true 3 Ff),(205,.int .i64 Fg),(206,.int .i64 Dp)],[]⟩
def ER (x1:Sh.V S0) (x4:Bool) (rE:List PV) (x167:Int) (x86:Int):R:=SS.LL (SS.ae 13 312) 0 [1,3,4,84,85,86,165,166,167] 0 (cS Tryz.f13 652079) a9L ⟨[(1,.cst (A0 x1)),(3,.func (.func 42) [] []),(4,.bool x4),(84,.sl false 9 x1.2.2.1),(85,.int .i64 (x1.2.2.1.length:Int)),(86,.int .i64 x86),(165,.sl false 8 rE),(166,.int .i64 (rE.length:Int)),(167,.int .i64 x167)],[]⟩
def ES (x1:Sh.V S0) (x4:Bool) (um:Int):R:=SS.LL (SS.ae 13 312) 0 [1,3,4,234,235,236] 0 (cS Tryz.f13 1215) a9M ⟨[(1,.cst (A0 x1)),(3,.func (.func 42) [] []),(4,.bool x4),(234,.sl false 2 x1.2.2.2.2.2.1),(235,.int .i64 (x1.2.2.2.2.2.1.length:Int)),(236,.int .i64 um)],[]⟩
def yh (x1:Sh.V S0) (rE:List PV) (Fe:List PV) (x4:Bool) (Il:Int) (x86:Int) (x167:Int):R:=SS.LL (SS.ae 13 312) 0 [1,3,4,84,85,86,165,166,167,184,185,186] 0 (cS Tryz.f13 328856367) aS2 ⟨[(1,.cst (A0 x1)),(3,.func (.func 42) [] []),(4,.bool x4),(84,.sl false 9 x1.2.2.1),(85,.int .i64 (x1.2.2.1.length:Int)),(86,.int .i64 x86),(165,.sl false 8 rE),(166,.int .i64 (rE.length:Int)),(167,.int .i64 x167),(184,.sl false 5 Fe),(185,.int .i64 (Fe.length:Int)),(186,.int .i64 Il)],[]⟩
def yl (x1:Sh.V S0) (Fh:List PV) (x4:Bool) (Io:Int) (um:Int):R:=SS.LL (SS.ae 13 312) 0 [1,3,4,234,235,236,255,256,257] 0 (cS Tryz.f13 642239) aS7 ⟨[(1,.cst (A0 x1)),(3,.func (.func 42) [] []),(4,.bool x4),(234,.sl false 2 x1.2.2.2.2.2.1),(235,.int .i64 (x1.2.2.2.2.2.1.length:Int)),(236,.int .i64 um),(255,.sl false 2 Fh),(256,.int .i64 (Fh.length:Int)),(257,.int .i64 Io)],[]⟩
def ET (x4:Bool) (rF:List PV) (uo:Int):R:=SS.LL (SS.ae 13 312) 0 [3,4,274,275,276] 0 (cS Tryz.f13 2431) a9N ⟨[(3,.func (.func 42) [] []),(4,.bool x4),(274,.sl false 3 rF),(275,.int .i64 (rF.length:Int)),(276,.int .i64 uo)],[]⟩
def yu (rF:List PV) (Fj:List PV) (x4:Bool) (Ip:Int) (uo:Int):R:=SS.LL (SS.ae 13 312) 0 [3,4,274,275,276,295,296,297] 0 (cS Tryz.f13 1284479) aSC ⟨[(3,.func (.func 42) [] []),(4,.bool x4),(274,.sl false 3 rF),(275,.int .i64 (rF.length:Int)),(276,.int .i64 uo),(295,.sl false 2 Fj),(296,.int .i64 (Fj.length:Int)),(297,.int .i64 Ip)],[]⟩
theorem a9Z (x1:Sh.V S0) (x4:Bool) (Iq:Int):uT x1 x4 Iq =
 aA (decide (Iq<(x1.2.1.length:Int))) (bG S4 x1.2.1 Iq fun u2=>aA x4 (G3 42 [.sl false 1 [.str u2.1]] fun b7=>uT x1 b7 (i64.wrap (Iq+1))) (uT x1 false (i64.wrap (Iq+1)))) (CU x1 x4 0):=ll
theorem a9Q (x1:Sh.V S0) (x4:Bool) (x86:Int):CU x1 x4 x86 =
 aA (decide (x86<(x1.2.2.1.length:Int))) (bG S5 x1.2.2.1 x86 fun u2=>aA x4 (G3 42 [.sl false 1 [.str u2.1]] fun b11=>aA b11 (G3 42 [.sl false 1 u2.2.2.1] fun b13=>aA b13 (G3 42 [.sl false 1 u2.2.1] fun b15=>aA b15 (aA (decide ((u2.2.2.1.length:Int)<=40)) (aA (decide ((u2.2.1.length:Int)<=40)) (aA (decide ((u2.2.2.2.1.length:Int)<=40)) (aA (decide ((u2.2.2.2.2.2.2.1.length:Int)<=40)) (aA (decide ((u2.2.2.2.2.2.2.2.1.length:Int)<=20)) (jm x1 u2 (decide ((u2.2.2.2.2.2.2.2.2.1.length:Int)<=40)) 0 x86) (jm x1 u2 false 0 x86)) (jm x1 u2 false 0 x86)) (jm x1 u2 false 0 x86)) (jm x1 u2 false 0 x86)) (jm x1 u2 false 0 x86)) (jm x1 u2 false 0 x86)) (jm x1 u2 false 0 x86)) (jm x1 u2 false 0 x86)) (jm x1 u2 false 0 x86)) (NV 45 [.sl false 3 x1.2.2.2.1] fun l17=>chk (decide (l17.length+x1.2.2.2.2.1.length<=aV)) (yj x1 x4 (l17 ++ x1.2.2.2.2.1) ((l17 ++ x1.2.2.2.2.1).length:Int) 0)):=ll
theorem a9R (x1:Sh.V S0) (q0:Sh.V S5) (x4:Bool) (x151:Int) (x86:Int):jm x1 q0 x4 x151 x86 =
 aA (decide (x151<(q0.2.2.2.2.2.2.2.1.length:Int))) (bG S7 q0.2.2.2.2.2.2.2.1 x151 fun u2=>aA x4 (G3 42 [.sl false 1 [.str u2.1]] fun b6=>jm x1 q0 b6 (i64.wrap (x151+1)) x86) (jm x1 q0 false (i64.wrap (x151+1)) x86)) (ER x1 x4 q0.2.2.2.2.2.2.2.2.1 0 x86):=ll
theorem a9U (x1:Sh.V S0) (x4:Bool) (Ff:List PV) (Fg:Int) (Dp:Int):yj x1 x4 Ff Fg Dp =
 aA (decide (Dp<Fg)) (bG S8 Ff Dp fun u2=>aA x4 (G3 42 [.sl false 1 [.str u2.1,.str u2.2.1]] fun b5=>aA b5 (G3 42 [.sl false 1 u2.2.2.1] fun b7=>aA b7 (yj x1 (decide ((u2.2.2.1.length:Int)<=40)) Ff Fg (i64.wrap (Dp+1))) (yj x1 false Ff Fg (i64.wrap (Dp+1)))) (yj x1 false Ff Fg (i64.wrap (Dp+1)))) (yj x1 false Ff Fg (i64.wrap (Dp+1)))) (ES x1 x4 0):=ll
theorem a9S (x1:Sh.V S0) (x4:Bool) (rE:List PV) (x167:Int) (x86:Int):ER x1 x4 rE x167 x86 =
 aA (decide (x167<(rE.length:Int))) (bG S9 rE x167 fun u2=>aA x4 (G3 24 [A1 (u2.2.2.2.1,u2.2.2.2.2.1,u2.2.2.2.2.2.1,u2.2.2.2.2.2.2.1,())] fun b10=>aA b10 (yh x1 rE u2.2.2.2.2.2.2.2.1 (decide ((u2.2.2.2.2.2.2.2.1.length:Int)<=20)) 0 x86 x167) (yh x1 rE u2.2.2.2.2.2.2.2.1 false 0 x86 x167)) (yh x1 rE u2.2.2.2.2.2.2.2.1 false 0 x86 x167)) (CU x1 x4 (i64.wrap (x86+1))):=ll
theorem a9V (x1:Sh.V S0) (x4:Bool) (um:Int):ES x1 x4 um =
 aA (decide (um<(x1.2.2.2.2.2.1.length:Int))) (bG jk x1.2.2.2.2.2.1 um fun u2=>aA x4 (G3 42 [.sl false 1 [.str u2.1]] fun b4=>aA b4 (yl x1 u2.2.1 (decide ((u2.2.1.length:Int)<=40)) 0 um) (yl x1 u2.2.1 false 0 um)) (yl x1 u2.2.1 false 0 um)) (ET x4 x1.2.2.2.2.2.2.1 0):=ll
theorem a9T (x1:Sh.V S0) (rE:List PV) (Fe:List PV) (x4:Bool) (Il:Int) (x86:Int) (x167:Int):yh x1 rE Fe x4 Il x86 x167 =
 aA (decide (Il<(Fe.length:Int))) (bG pF Fe Il fun u2=>aA x4 (G3 24 [A1 (u2.2.1,u2.2.2.1,u2.2.2.2.1,u2.2.2.2.2.1,())] fun b7=>yh x1 rE Fe b7 (i64.wrap (Il+1)) x86 x167) (yh x1 rE Fe false (i64.wrap (Il+1)) x86 x167)) (ER x1 x4 rE (i64.wrap (x167+1)) x86):=ll
theorem a9W (x1:Sh.V S0) (Fh:List PV) (x4:Bool) (Io:Int) (um:Int):yl x1 Fh x4 Io um =
 aA (decide (Io<(Fh.length:Int))) (bG xQ Fh Io fun u2=>aA x4 (G3 42 [.sl false 1 [.str u2.1,.str u2.2.1]] fun b4=>yl x1 Fh b4 (i64.wrap (Io+1)) um) (yl x1 Fh false (i64.wrap (Io+1)) um)) (ES x1 x4 (i64.wrap (um+1))):=ll
theorem a9X (x4:Bool) (rF:List PV) (uo:Int):ET x4 rF uo =
 aA (decide (uo<(rF.length:Int))) (bG ik rF uo fun u2=>aA x4 (G3 42 [.sl false 1 [.str u2.1]] fun b5=>aA b5 (yu rF u2.2.1 (decide ((u2.2.1.length:Int)<=40)) 0 uo) (yu rF u2.2.1 false 0 uo)) (yu rF u2.2.1 false 0 uo)) (some (.bool x4,[])):=ll
theorem a9Y (rF:List PV) (Fj:List PV) (x4:Bool) (Ip:Int) (uo:Int):yu rF Fj x4 Ip uo =
 aA (decide (Ip<(Fj.length:Int))) (bG yS Fj Ip fun u2=>aA x4 (G3 42 [.sl false 1 [.str u2.1]] fun b4=>yu rF Fj b4 (i64.wrap (Ip+1)) uo) (yu rF Fj false (i64.wrap (Ip+1)) uo)) (ET x4 rF (i64.wrap (uo+1))):=ll
theorem aSI (a0:Sh.V S0):SS.CC 13 [A0 a0] [] =
 G3 42 [.sl false 1 [.str a0.1]] fun b1=>aA b1 (aA (decide ((a0.2.1.length:Int)<=40)) (aA (decide ((a0.2.2.1.length:Int)<=20)) (aA (decide ((a0.2.2.2.1.length:Int)<=40)) (aA (decide ((a0.2.2.2.2.1.length:Int)<=40)) (aA (decide ((a0.2.2.2.2.2.1.length:Int)<=40)) (uT a0 (decide ((a0.2.2.2.2.2.2.1.length:Int)<=40)) 0) (uT a0 false 0)) (uT a0 false 0)) (uT a0 false 0)) (uT a0 false 0)) (uT a0 false 0)) (uT a0 false 0):=cc
def aSJ:KT:=SS.rK Tryz.f14 14 0 []
def aSK:KT:=SS.jK 14 80 0 (cS Tryz.f14 127) aSJ
def aSL:KT:=au 0 aSK
def Ob (x1:Sh.V S0) (x4:List PV) (MX:Int):R:=SS.LL (SS.ae 14 80) 0 [1,4,49,50,51] 0 (cS Tryz.f14 607) aSL ⟨[(1,.cst (A0 x1)),(4,.sl true 1 x4),(49,.sl false 9 x1.2.2.1),(50,.int .i64 (x1.2.2.1.length:Int)),(51,.int .i64 MX)],[]⟩
theorem a9' (x1:Sh.V S0) (x4:List PV) (MX:Int):Ob x1 x4 MX =
 aA (decide (MX<(x1.2.2.1.length:Int))) (bG S5 x1.2.2.1 MX fun u2=>G1 47 [.sl false 1 x4,.str u2.1] fun n11=>aA (n11 != 0) (some (.int .i64 n11,[])) (chk (decide (x4.length+1<=aV)) (G1 48 [A5 u2] fun n13=>aA (n13 != 0) (some (.int .i64 n13,[])) (Ob x1 (x4 ++ ([.str u2.1]:List PV)) (i64.wrap (MX+1)))))) (G1 49 [A0 x1] fun n15=>aA (n15 != 0) (some (.int .i64 n15,[])) (G1 50 [A0 x1] fun n17=>some (.int .i64 n17,[]))):=ll
theorem aSM (a0:Sh.V S0):SS.CC 14 [A0 a0] [] =
 G3 26 [.str a0.1] fun b1=>aA (!b1) (some (.int .i64 7,[])) (G1 46 [.sl false 5 a0.2.1] fun n3=>aA (n3 != 0) (some (.int .i64 n3,[])) (aA (decide (16<(a0.2.2.1.length:Int))) (some (.int .i64 3,[])) (aA (decide (32<(a0.2.2.2.1.length:Int))) (some (.int .i64 3,[])) (aA (decide (32<(a0.2.2.2.2.1.length:Int))) (some (.int .i64 3,[])) (aA (decide (32<(a0.2.2.2.2.2.1.length:Int))) (some (.int .i64 3,[])) (aA (decide (32<(a0.2.2.2.2.2.2.1.length:Int))) (some (.int .i64 3,[])) (Ob a0 [] 0))))))):=cc
theorem aVJ (a0:Sh.V S0):SS.CC 18 [A0 a0] [] =
 NV 45 [.sl false 3 a0.2.2.2.1] fun l1=>chk (decide (l1.length+a0.2.2.2.2.1.length<=aV)) (G4 59 [.sl false 3 (l1 ++ a0.2.2.2.2.1),.func (.func 60) [] []] fun l3=>G4 61 [.sl false 9 a0.2.2.1,.func (.func 62) [] []] fun l5=>G4 63 [.sl false 2 a0.2.2.2.2.2.1,.func (.func 64) [] []] fun l7=>G4 65 [.sl false 3 a0.2.2.2.2.2.2.1,.func (.func 66) [] []] fun l9=>G1 67 [.sl false 1 [.func (.func 68) [] [.cst (A0 a0)],.func (.func 70) [] [.cst (A0 a0)],.func (.func 71) [] [.cst (A0 a0)],.func (.func 72) [] [.cst (A0 a0),.cst (.sl false 1 l5)],.func (.func 79) [] [.cst (.sl false 3 (l1 ++ a0.2.2.2.2.1)),.cst (.sl false 1 l3)],.func (.func 85) [] [.cst (A0 a0),.cst (.sl false 1 l7)],.func (.func 93) [] [.cst (A0 a0),.cst (.sl false 1 l9)]]] fun n11=>some (.int .i64 n11,[])):=cc
theorem aYP (a0:List PV):SS.CC 42 [.sl false 1 a0] [] =
 G3 43 [.sl false 1 a0,.func (.func 44) [] []] fun b1=>some (.bool (!b1),[]):=cc
theorem aYR (a0:List PV):SS.CC 43 [.sl false 1 a0,.func (.func 192) [] []] [] =
 G1 158 [.sl false 1 a0,.func (.func 192) [] []] fun n1=>some (.bool (decide (0<=n1)),[]):=cc
theorem aYQ (a0:List PV):SS.CC 43 [.sl false 1 a0,.func (.func 44) [] []] [] =
 G1 158 [.sl false 1 a0,.func (.func 44) [] []] fun n1=>some (.bool (decide (0<=n1)),[]):=cc
theorem aYS (a0:ByteArray):SS.CC 44 [.str a0] [] =
 some (.bool (decide (60<(a0.size:Int))),[]):=cc
theorem aBR (a0:List PV):SS.CC 45 [.sl false 3 a0] [] =
 F5 a0 fun b1=>aA (b1==true) (some (.sl true 3 [],[])) (chk (decide (0+a0.length<=aV)) (some (.sl true 3 a0,[]))):=cc
def aYT:KT:=SS.rK Tryz.f46 46 0 []
def aYU:KT:=SS.jK 46 51 0 (cS Tryz.f46 31) aYT
def aYV:KT:=au 0 aYU
def Gv (x10:List PV) (x12:Int) (aJ:List PV):R:=SS.LL (SS.ae 46 51) 0 [3,10,11,12] 1 (cS Tryz.f46 151) aYV ⟨[(3,.bf 0 0),(10,.sl false 5 x10),(11,.int .i64 (x10.length:Int)),(12,.int .i64 x12)],[O33 (aJ,())]⟩
theorem aBS (x10:List PV) (x12:Int) (aJ:List PV):Gv x10 x12 aJ =
 aA (decide (x12<(x10.length:Int))) (bG S4 x10 x12 fun u2=>G3 26 [.str u2.1] fun b7=>aA (!b7) (some (.int .i64 7,[])) (LJ none aJ (.str u2.1) (fun e9=>vB e9 fun b10=>aA b10 (some (.int .i64 8,[])) (aA (decide (u2.2.2.2.2.1<0)) (some (.int .i64 2,[])) (aA (decide (4<u2.2.2.2.2.1)) (some (.int .i64 2,[])) (aA (u2.2.2.2.2.1 != 0) (aA u2.2.1 (some (.int .i64 13,[])) (aA u2.2.2.1 (some (.int .i64 13,[])) (chk (nP none aJ (.str u2.1)&&true) (Gv x10 (i64.wrap (x12+1)) (iL none aJ (.str u2.1) (.bool true)))))) (chk (nP none aJ (.str u2.1)&&true) (Gv x10 (i64.wrap (x12+1)) (iL none aJ (.str u2.1) (.bool true)))))))) (aA (decide (u2.2.2.2.2.1<0)) (some (.int .i64 2,[])) (aA (decide (4<u2.2.2.2.2.1)) (some (.int .i64 2,[])) (aA (u2.2.2.2.2.1 != 0) (aA u2.2.1 (some (.int .i64 13,[])) (aA u2.2.2.1 (some (.int .i64 13,[])) (chk (nP none aJ (.str u2.1)&&true) (Gv x10 (i64.wrap (x12+1)) (iL none aJ (.str u2.1) (.bool true)))))) (chk (nP none aJ (.str u2.1)&&true) (Gv x10 (i64.wrap (x12+1)) (iL none aJ (.str u2.1) (.bool true))))))))) (some (.int .i64 0,[])):=ll
theorem aYW (a0:List PV):SS.CC 46 [.sl false 5 a0] [] =
 aA (decide (32<(a0.length:Int))) (some (.int .i64 3,[])) (Gv a0 0 []):=cc
theorem aYX (a0:List PV) (a1:ByteArray):SS.CC 47 [.sl false 1 a0,.str a1] [] =
 G3 26 [.str a1] fun b1=>aA (!b1) (some (.int .i64 7,[])) (G3 25 [.sl false 1 a0,.str a1] fun b3=>aA b3 (some (.int .i64 8,[])) (some (.int .i64 0,[]))):=cc
def Uf:KT:=SS.rK Tryz.f48 48 0 []
def aYZ:KT:=SS.jK 48 209 0 (cS Tryz.f48 7) Uf
def aBV:KT:=au 0 aYZ
def aZ7:KT:=SS.lK 48 209 0 [1,26,27,28] 0 (cS Tryz.f48 37) aBV
def aZ8:KT:=SS.jK 48 209 0 (cS Tryz.f48 485) aZ7
def aZ9:KT:=au 1 aZ8
def aZA:KT:=au 2 aZ9
def aZB:KT:=SS.jK 48 209 0 (cS Tryz.f48 63) Uf
def aZC:KT:=au 4 aZB
def aZD:KT:=SS.jK 48 209 0 (cS Tryz.f48 4095) Uf
def aY':KT:=au 6 aZD
def aZ0:KT:=SS.jK 48 209 0 (cS Tryz.f48 8191) Uf
def aBT:KT:=au 8 aZ0
def aZ1:KT:=SS.lK 48 209 0 [1,8,11,117,118,119] 1 (cS Tryz.f48 38911) aBT
def aZ2:KT:=SS.jK 48 209 0 (cS Tryz.f48 497663) aZ1
def aZ3:KT:=au 9 aZ2
def aBU:KT:=au 10 aZ3
def aZ4:KT:=SS.lK 48 209 0 [1,8,11,17,117,118,119,166,167,168] 2 (cS Tryz.f48 41523199) aBU
def aZ5:KT:=SS.jK 48 209 0 (cS Tryz.f48 511285247) aZ4
def aZ6:KT:=au 11 aZ5
def Ug (x1:Sh.V S5) (x28:Int):R:=SS.LL (SS.ae 48 209) 0 [1,26,27,28] 0 (cS Tryz.f48 37) aBV ⟨[(1,.cst (A5 x1)),(26,.sl true 1 [.sl false 1 x1.2.2.1,.sl false 1 x1.2.1]),(27,.int .i64 2),(28,.int .i64 x28)],[]⟩
def Oz (x1:Sh.V S5) (x4:List PV) (x34:Int) (x28:Int):R:=SS.LL (SS.ae 48 209) 0 [1,4,26,27,28,32,33,34] 0 (cS Tryz.f48 9829) aZA ⟨[(1,.cst (A5 x1)),(4,.sl false 1 x4),(26,.sl true 1 [.sl false 1 x1.2.2.1,.sl false 1 x1.2.1]),(27,.int .i64 2),(28,.int .i64 x28),(32,.sl false 1 x4),(33,.int .i64 (x4.length:Int)),(34,.int .i64 x34)],[]⟩
def Gw (x1:ByteArray) (dB:List PV) (ed:List PV) (q0:Sh.V S6) (nT:Int):R:=SS.LL (SS.ae 48 209) 0 [1,8,59,60,61] 1 (cS Tryz.f48 303) aZC ⟨[(1,.cst (A5 (x1,dB,ed,q0.1,q0.2.1,q0.2.2.1,q0.2.2.2.1,q0.2.2.2.2.1,q0.2.2.2.2.2.1,()))),(8,.ptr 0 0),(59,.sl false 1 q0.1),(60,.int .i64 (q0.1.length:Int)),(61,.int .i64 nT)],[O6 q0]⟩
def Ox (x1:ByteArray) (dB:List PV) (ed:List PV) (q0:Sh.V S6) (x103:Int):R:=SS.LL (SS.ae 48 209) 0 [1,8,11,101,102,103] 1 (cS Tryz.f48 19455) aY' ⟨[(1,.cst (A5 (x1,dB,ed,q0.1,q0.2.1,q0.2.2.1,q0.2.2.2.1,q0.2.2.2.2.1,q0.2.2.2.2.2.1,()))),(8,.ptr 0 0),(11,.int .i64 (dB.length:Int)),(101,.sl false 4 q0.2.2.2.2.1),(102,.int .i64 (q0.2.2.2.2.1.length:Int)),(103,.int .i64 x103)],[O6 q0]⟩
def Jz (x1:ByteArray) (dB:List PV) (ed:List PV) (q0:Sh.V S6) (qO:Int):R:=SS.LL (SS.ae 48 209) 0 [1,8,11,117,118,119] 1 (cS Tryz.f48 38911) aBT ⟨[(1,.cst (A5 (x1,dB,ed,q0.1,q0.2.1,q0.2.2.1,q0.2.2.2.1,q0.2.2.2.2.1,q0.2.2.2.2.2.1,()))),(8,.ptr 0 0),(11,.int .i64 (dB.length:Int)),(117,.sl false 8 q0.2.2.2.2.2.1),(118,.int .i64 (q0.2.2.2.2.2.1.length:Int)),(119,.int .i64 qO)],[O6 q0]⟩
def Oy (x1:ByteArray) (dB:List PV) (ed:List PV) (q0:Sh.V S6) (q1:Sh.V S9) (x168:Int) (qO:Int):R:=SS.LL (SS.ae 48 209) 0 [1,8,11,17,117,118,119,166,167,168] 2 (cS Tryz.f48 41523199) aBU ⟨[(1,.cst (A5 (x1,dB,ed,q0.1,q0.2.1,q0.2.2.1,q0.2.2.2.1,q0.2.2.2.2.1,q0.2.2.2.2.2.1,()))),(8,.ptr 0 0),(11,.int .i64 (dB.length:Int)),(17,.ptr 1 0),(117,.sl false 8 q0.2.2.2.2.2.1),(118,.int .i64 (q0.2.2.2.2.2.1.length:Int)),(119,.int .i64 qO),(166,.sl false 5 q1.2.2.2.2.2.2.2.1),(167,.int .i64 (q1.2.2.2.2.2.2.2.1.length:Int)),(168,.int .i64 x168)],[O6 q0,O9 q1]⟩
def Yk (x1:ByteArray) (dB:List PV) (ed:List PV) (q0:Sh.V S6) (q1:Sh.V S9) (q2:Sh.V pF) (qO:Int) (x168:Int):R:=bI (SS.xX 48 209 0) (cS Tryz.f48 8161695743) aZ6 ⟨[(1,.cst (A5 (x1,dB,ed,q0.1,q0.2.1,q0.2.2.1,q0.2.2.2.1,q0.2.2.2.2.1,q0.2.2.2.2.2.1,()))),(8,.ptr 0 0),(11,.int .i64 (dB.length:Int)),(17,.ptr 1 0),(20,.ptr 2 0),(117,.sl false 8 q0.2.2.2.2.2.1),(118,.int .i64 (q0.2.2.2.2.2.1.length:Int)),(119,.int .i64 qO),(166,.sl false 5 q1.2.2.2.2.2.2.2.1),(167,.int .i64 (q1.2.2.2.2.2.2.2.1.length:Int)),(168,.int .i64 x168)],[O6 q0,O9 q1,O11 q2]⟩
theorem Yl (x1:Sh.V S5) (x28:Int):Ug x1 x28 =
 aA (decide (x28<2)) (dH [.sl false 1 x1.2.2.1,.sl false 1 x1.2.1] x28 fun e1=>vL false 1 e1 fun l2=>Oz x1 l2 0 x28) (aA ((x1.2.2.2.1.length:Int) !=(x1.2.2.1.length:Int)) (some (.int .i64 6,[])) (Gw x1.1 x1.2.1 x1.2.2.1 (x1.2.2.2.1,x1.2.2.2.2.1,x1.2.2.2.2.2.1,x1.2.2.2.2.2.2.1,x1.2.2.2.2.2.2.2.1,x1.2.2.2.2.2.2.2.2.1,()) 0)):=ll
theorem aB' (x1:Sh.V S5) (x4:List PV) (x34:Int) (x28:Int):Oz x1 x4 x34 x28 =
 aA (decide (x34<(x4.length:Int))) (dH x4 x34 fun e1=>vS e1 fun s2=>chk (decide (0<=x34)&&decide (x34<=(x4.length:Int))) (G1 47 [.sl false 1 (x4.take x34.toNat),.str s2] fun n3=>aA (n3 != 0) (some (.int .i64 n3,[])) (Oz x1 x4 (i64.wrap (x34+1)) x28))) (Ug x1 (i64.wrap (x28+1))):=ll
theorem aBW (x1:ByteArray) (dB:List PV) (ed:List PV) (q0:Sh.V S6) (nT:Int):Gw x1 dB ed q0 nT =
 aA (decide (nT<(q0.1.length:Int))) (dH q0.1 nT fun e1=>vI .i64 e1 fun n2=>aA (n2 != nT) (some (.int .i64 6,[])) (Gw x1 dB ed q0 (i64.wrap (nT+1)))) (aA (q0.2.1 !=(dB.length:Int)) (some (.int .i64 4,[])) (aA (decide (q0.2.2.1<0)) (some (.int .i64 2,[])) (aA (decide ((if (1:Int)>(dB.length:Int) then (1:Int) else (dB.length:Int))<=q0.2.2.1)) (some (.int .i64 2,[])) (G1 159 [.sl false 1 q0.2.2.2.1,.int .i64 (dB.length:Int)] fun n3=>aA (n3 != 0) (some (.int .i64 n3,[])) (G1 160 [.sl false 4 q0.2.2.2.2.1] fun n5=>aA (n5 != 0) (some (.int .i64 n5,[])) (Ox x1 dB ed q0 0)))))):=ll
theorem aBX (x1:ByteArray) (dB:List PV) (ed:List PV) (q0:Sh.V S6) (x103:Int):Ox x1 dB ed q0 x103 =
 aA (decide (x103<(q0.2.2.2.2.1.length:Int))) (bG S7 q0.2.2.2.2.1 x103 fun u2=>aA (u2.1.toList==(⟨#[116,114,117,101]⟩:ByteArray).toList) (some (.int .i64 7,[])) (aA (u2.1.toList==(⟨#[102,97,108,115,101]⟩:ByteArray).toList) (some (.int .i64 7,[])) (Ox x1 dB ed q0 (i64.wrap (x103+1))))) (Jz x1 dB ed q0 0):=ll
theorem aBY (x1:ByteArray) (dB:List PV) (ed:List PV) (q0:Sh.V S6) (qO:Int):Jz x1 dB ed q0 qO =
 aA (decide (qO<(q0.2.2.2.2.2.1.length:Int))) (bG S9 q0.2.2.2.2.2.1 qO fun u2=>aA (decide (u2.1<0)) (some (.int .i64 2,[])) (aA (decide ((dB.length:Int)<=u2.1)) (some (.int .i64 2,[])) (aA (decide (u2.2.1<0)) (some (.int .i64 2,[])) (aA (decide ((ed.length:Int)<=u2.2.1)) (some (.int .i64 2,[])) (aA (decide (u2.2.2.1<0)) (some (.int .i64 2,[])) (aA (decide ((dB.length:Int)<=u2.2.2.1)) (some (.int .i64 2,[])) (G1 161 [A1 (u2.2.2.2.1,u2.2.2.2.2.1,u2.2.2.2.2.2.1,u2.2.2.2.2.2.2.1,()),.int .i64 (q0.2.2.2.2.1.length:Int),.int .i64 2] fun n10=>aA (n10 != 0) (some (.int .i64 n10,[])) (Oy x1 dB ed q0 u2 0 qO)))))))) (some (.int .i64 0,[])):=ll
theorem aBZ (x1:ByteArray) (dB:List PV) (ed:List PV) (q0:Sh.V S6) (q1:Sh.V S9) (x168:Int) (qO:Int):Oy x1 dB ed q0 q1 x168 qO =
 aA (decide (x168<(q1.2.2.2.2.2.2.2.1.length:Int))) (bG pF q1.2.2.2.2.2.2.2.1 x168 fun u2=>aA (decide (u2.1<0)) (some (.int .i64 2,[])) (aA (decide ((q0.2.2.2.2.1.length:Int)<=u2.1)) (some (.int .i64 2,[])) (aA (decide (0<x168)) (bG pF q1.2.2.2.2.2.2.2.1 (i64.wrap (x168-1)) fun u8=>aA (decide (u2.1<=u8.1)) (some (.int .i64 5,[])) (Yk x1 dB ed q0 q1 u2 qO x168)) (Yk x1 dB ed q0 q1 u2 qO x168)))) (Jz x1 dB ed q0 (i64.wrap (qO+1))):=ll
theorem aYY (x1:ByteArray) (dB:List PV) (ed:List PV) (q0:Sh.V S6) (q1:Sh.V S9) (q2:Sh.V pF) (qO:Int) (x168:Int):Yk x1 dB ed q0 q1 q2 qO x168 =
 G1 161 [A1 (q2.2.1,q2.2.2.1,q2.2.2.2.1,q2.2.2.2.2.1,()),.int .i64 (q0.2.2.2.2.1.length:Int),.int .i64 1] fun n1=>aA (n1 != 0) (some (.int .i64 n1,[])) (Oy x1 dB ed q0 q1 (i64.wrap (x168+1)) qO):=by kernel_rfl
theorem aZE (a0:Sh.V S5):SS.CC 48 [A5 a0] [] =
 Ug a0 0:=cc
def aZF:KT:=SS.rK Tryz.f49 49 0 []
def aZG:KT:=SS.jK 49 48 0 (cS Tryz.f49 15) aZF
def aC0:KT:=au 0 aZG
def aZH:KT:=SS.lK 49 48 0 [3,14,15,16] 0 (cS Tryz.f49 75) aC0
def aZI:KT:=SS.jK 49 48 0 (cS Tryz.f49 971) aZH
def aZJ:KT:=au 1 aZI
def aZK:KT:=au 2 aZJ
def KC (x14:List PV) (x15:Int) (x3:List PV) (x16:Int):R:=SS.LL (SS.ae 49 48) 0 [3,14,15,16] 0 (cS Tryz.f49 75) aC0 ⟨[(3,.sl true 1 x3),(14,.sl true 3 x14),(15,.int .i64 x15),(16,.int .i64 x16)],[]⟩
def P5 (x14:List PV) (x15:Int) (x3:List PV) (RJ:List PV) (x38:Int) (x39:Int) (x16:Int):R:=SS.LL (SS.ae 49 48) 0 [3,14,15,16,37,38,39] 0 (cS Tryz.f49 81099) aZK ⟨[(3,.sl true 1 x3),(14,.sl true 3 x14),(15,.int .i64 x15),(16,.int .i64 x16),(37,.sl true 1 RJ),(38,.int .i64 x38),(39,.int .i64 x39)],[]⟩
theorem aC2 (x14:List PV) (x15:Int) (x3:List PV) (x16:Int):KC x14 x15 x3 x16 =
 aA (decide (x16<x15)) (bG S8 x14 x16 fun u2=>G1 47 [.sl false 1 x3,.str u2.1] fun n5=>aA (n5 != 0) (some (.int .i64 n5,[])) (chk (decide (x3.length+1<=aV)) (chk (decide (1+u2.2.2.1.length<=aV)) (P5 x14 x15 (x3 ++ ([.str u2.1]:List PV)) (([.str u2.2.1]:List PV) ++ u2.2.2.1) ((([.str u2.2.1]:List PV) ++ u2.2.2.1).length:Int) 0 x16)))) (some (.int .i64 0,[])):=ll
theorem aC1 (x14:List PV) (x15:Int) (x3:List PV) (RJ:List PV) (x38:Int) (x39:Int) (x16:Int):P5 x14 x15 x3 RJ x38 x39 x16 =
 aA (decide (x39<x38)) (dH RJ x39 fun e1=>vS e1 fun s2=>G3 26 [.str s2] fun b3=>aA (!b3) (some (.int .i64 7,[])) (P5 x14 x15 x3 RJ x38 (i64.wrap (x39+1)) x16)) (KC x14 x15 x3 (i64.wrap (x16+1))):=ll
theorem aZL (a0:Sh.V S0):SS.CC 49 [A0 a0] [] =
 NV 45 [.sl false 3 a0.2.2.2.1] fun l1=>chk (decide (l1.length+a0.2.2.2.2.1.length<=aV)) (KC (l1 ++ a0.2.2.2.2.1) ((l1 ++ a0.2.2.2.2.1).length:Int) [] 0):=cc
def aC3:KT:=SS.rK Tryz.f50 50 0 []
def aZM:KT:=SS.jK 50 108 0 (cS Tryz.f50 15) aC3
def aC4:KT:=au 0 aZM
def aZR:KT:=SS.lK 50 108 0 [1,3,15,16,17] 0 (cS Tryz.f50 75) aC4
def aZS:KT:=SS.jK 50 108 0 (cS Tryz.f50 971) aZR
def aZT:KT:=au 1 aZS
def aZU:KT:=au 2 aZT
def aZV:KT:=SS.jK 50 108 0 (cS Tryz.f50 63) aC3
def aC5:KT:=au 4 aZV
def aZW:KT:=SS.lK 50 108 0 [3,57,58,59] 0 (cS Tryz.f50 303) aC5
def aZN:KT:=SS.jK 50 108 0 (cS Tryz.f50 3887) aZW
def aZO:KT:=au 5 aZN
def aZP:KT:=SS.jK 50 108 0 (cS Tryz.f50 258863) aZO
def aZQ:KT:=au 6 aZP
def KF (x1:Sh.V S0) (x3:List PV) (x17:Int):R:=SS.LL (SS.ae 50 108) 0 [1,3,15,16,17] 0 (cS Tryz.f50 75) aC4 ⟨[(1,.cst (A0 x1)),(3,.sl true 1 x3),(15,.sl false 2 x1.2.2.2.2.2.1),(16,.int .i64 (x1.2.2.2.2.2.1.length:Int)),(17,.int .i64 x17)],[]⟩
def P6 (x1:Sh.V S0) (x38:List PV) (x3:List PV) (x40:Int) (x17:Int):R:=SS.LL (SS.ae 50 108) 0 [1,3,15,16,17,38,39,40] 0 (cS Tryz.f50 163019) aZU ⟨[(1,.cst (A0 x1)),(3,.sl true 1 x3),(15,.sl false 2 x1.2.2.2.2.2.1),(16,.int .i64 (x1.2.2.2.2.2.1.length:Int)),(17,.int .i64 x17),(38,.sl false 2 x38),(39,.int .i64 (x38.length:Int)),(40,.int .i64 x40)],[]⟩
def KE (wE:List PV) (x3:List PV) (yM:Int):R:=SS.LL (SS.ae 50 108) 0 [3,57,58,59] 0 (cS Tryz.f50 303) aC5 ⟨[(3,.sl true 1 x3),(57,.sl false 3 wE),(58,.int .i64 (wE.length:Int)),(59,.int .i64 yM)],[]⟩
def P7 (wE:List PV) (q0:Sh.V ik) (x82:Int) (x3:List PV) (yM:Int):R:=SS.LL (SS.ae 50 108) 0 [3,10,57,58,59,80,81,82] 1 (cS Tryz.f50 1241903) aZQ ⟨[(3,.sl true 1 x3),(10,.ptr 0 0),(57,.sl false 3 wE),(58,.int .i64 (wE.length:Int)),(59,.int .i64 yM),(80,.sl false 2 q0.2.1),(81,.int .i64 (q0.2.1.length:Int)),(82,.int .i64 x82)],[rW q0]⟩
theorem aC9 (x1:Sh.V S0) (x3:List PV) (x17:Int):KF x1 x3 x17 =
 aA (decide (x17<(x1.2.2.2.2.2.1.length:Int))) (bG jk x1.2.2.2.2.2.1 x17 fun u2=>G1 47 [.sl false 1 x3,.str u2.1] fun n4=>aA (n4 != 0) (some (.int .i64 n4,[])) (chk (decide (x3.length+1<=aV)) (aA ((u2.2.1.length:Int)==0) (some (.int .i64 12,[])) (P6 x1 u2.2.1 (x3 ++ ([.str u2.1]:List PV)) 0 x17)))) (KE x1.2.2.2.2.2.2.1 [] 0):=ll
theorem aC6 (x1:Sh.V S0) (x38:List PV) (x3:List PV) (x40:Int) (x17:Int):P6 x1 x38 x3 x40 x17 =
 aA (decide (x40<(x38.length:Int))) (bG xQ x38 x40 fun u2=>G3 26 [.str u2.1] fun b4=>aA (!b4) (some (.int .i64 7,[])) (G3 26 [.str u2.2.1] fun b6=>aA (!b6) (some (.int .i64 7,[])) (P6 x1 x38 x3 (i64.wrap (x40+1)) x17))) (KF x1 x3 (i64.wrap (x17+1))):=ll
theorem aC7 (wE:List PV) (x3:List PV) (yM:Int):KE wE x3 yM =
 aA (decide (yM<(wE.length:Int))) (bG ik wE yM fun u2=>G1 47 [.sl false 1 x3,.str u2.1] fun n5=>aA (n5 != 0) (some (.int .i64 n5,[])) (chk (decide (x3.length+1<=aV)) (aA ((u2.2.1.length:Int)==0) (some (.int .i64 12,[])) (P7 wE u2 0 (x3 ++ ([.str u2.1]:List PV)) yM)))) (some (.int .i64 0,[])):=ll
theorem aC8 (wE:List PV) (q0:Sh.V ik) (x82:Int) (x3:List PV) (yM:Int):P7 wE q0 x82 x3 yM =
 aA (decide (x82<(q0.2.1.length:Int))) (bG yS q0.2.1 x82 fun u2=>G3 26 [.str u2.1] fun b4=>aA (!b4) (some (.int .i64 7,[])) (aA (decide (u2.2.1<(-65536))) (some (.int .i64 2,[])) (aA (decide (65536<u2.2.1)) (some (.int .i64 2,[])) (P7 wE q0 (i64.wrap (x82+1)) x3 yM)))) (aA (decide (q0.2.2.1<(-65536))) (some (.int .i64 2,[])) (aA (decide (65536<q0.2.2.1)) (some (.int .i64 2,[])) (KE wE x3 (i64.wrap (yM+1))))):=ll
theorem aZX (a0:Sh.V S0):SS.CC 50 [A0 a0] [] =
 KF a0 [] 0:=cc
def a_4:KT:=SS.rK Tryz.f59 59 0 []
def a_5:KT:=SS.jK 59 22 0 (cS Tryz.f59 15) a_4
def a_6:KT:=au 0 a_5
def Um (x8:List PV) (x5:List PV) (x10:Int):R:=SS.LL (SS.ae 59 22) 0 [1,5,8,9,10] 0 (cS Tryz.f59 75) a_6 ⟨[(1,.func (.func 60) [] []),(5,.sl true 1 x5),(8,.sl false 3 x8),(9,.int .i64 (x8.length:Int)),(10,.int .i64 x10)],[]⟩
theorem aCS (x8:List PV) (x5:List PV) (x10:Int):Um x8 x5 x10 =
 aA (decide (x10<(x8.length:Int))) (bG S8 x8 x10 fun u2=>G2 60 [A8 u2] fun s5=>chk (decide (x5.length+1<=aV)) (Um x8 (x5 ++ ([.str s5]:List PV)) (i64.wrap (x10+1)))) (some (.sl false 1 x5,[])):=ll
theorem a_7 (a0:List PV):SS.CC 59 [.sl false 3 a0,.func (.func 60) [] []] [] =
 Um a0 [] 0:=cc
theorem a_8 (a0:Sh.V S8):SS.CC 60 [A8 a0] [] =
 some (.str a0.1,[]):=cc
def a_9:KT:=SS.rK Tryz.f61 61 0 []
def a_A:KT:=SS.jK 61 22 0 (cS Tryz.f61 15) a_9
def a_B:KT:=au 0 a_A
def Un (x8:List PV) (x5:List PV) (x10:Int):R:=SS.LL (SS.ae 61 22) 0 [1,5,8,9,10] 0 (cS Tryz.f61 75) a_B ⟨[(1,.func (.func 62) [] []),(5,.sl true 1 x5),(8,.sl false 9 x8),(9,.int .i64 (x8.length:Int)),(10,.int .i64 x10)],[]⟩
theorem aCT (x8:List PV) (x5:List PV) (x10:Int):Un x8 x5 x10 =
 aA (decide (x10<(x8.length:Int))) (bG S5 x8 x10 fun u2=>G2 62 [A5 u2] fun s11=>chk (decide (x5.length+1<=aV)) (Un x8 (x5 ++ ([.str s11]:List PV)) (i64.wrap (x10+1)))) (some (.sl false 1 x5,[])):=ll
theorem a_C (a0:List PV):SS.CC 61 [.sl false 9 a0,.func (.func 62) [] []] [] =
 Un a0 [] 0:=cc
theorem a_D (a0:Sh.V S5):SS.CC 62 [A5 a0] [] =
 some (.str a0.1,[]):=cc
def a_E:KT:=SS.rK Tryz.f63 63 0 []
def a_F:KT:=SS.jK 63 22 0 (cS Tryz.f63 15) a_E
def a_G:KT:=au 0 a_F
def Uo (x8:List PV) (x5:List PV) (x10:Int):R:=SS.LL (SS.ae 63 22) 0 [1,5,8,9,10] 0 (cS Tryz.f63 75) a_G ⟨[(1,.func (.func 64) [] []),(5,.sl true 1 x5),(8,.sl false 2 x8),(9,.int .i64 (x8.length:Int)),(10,.int .i64 x10)],[]⟩
theorem aCU (x8:List PV) (x5:List PV) (x10:Int):Uo x8 x5 x10 =
 aA (decide (x10<(x8.length:Int))) (bG jk x8 x10 fun u2=>G2 64 [XB u2] fun s4=>chk (decide (x5.length+1<=aV)) (Uo x8 (x5 ++ ([.str s4]:List PV)) (i64.wrap (x10+1)))) (some (.sl false 1 x5,[])):=ll
theorem a_H (a0:List PV):SS.CC 63 [.sl false 2 a0,.func (.func 64) [] []] [] =
 Uo a0 [] 0:=cc
theorem a_I (a0:Sh.V jk):SS.CC 64 [XB a0] [] =
 some (.str a0.1,[]):=cc
def a_J:KT:=SS.rK Tryz.f65 65 0 []
def a_K:KT:=SS.jK 65 22 0 (cS Tryz.f65 15) a_J
def a_L:KT:=au 0 a_K
def Ur (x8:List PV) (x5:List PV) (x10:Int):R:=SS.LL (SS.ae 65 22) 0 [1,5,8,9,10] 0 (cS Tryz.f65 75) a_L ⟨[(1,.func (.func 66) [] []),(5,.sl true 1 x5),(8,.sl false 3 x8),(9,.int .i64 (x8.length:Int)),(10,.int .i64 x10)],[]⟩
theorem aCV (x8:List PV) (x5:List PV) (x10:Int):Ur x8 x5 x10 =
 aA (decide (x10<(x8.length:Int))) (bG ik x8 x10 fun u2=>G2 66 [GH u2] fun s5=>chk (decide (x5.length+1<=aV)) (Ur x8 (x5 ++ ([.str s5]:List PV)) (i64.wrap (x10+1)))) (some (.sl false 1 x5,[])):=ll
theorem a_M (a0:List PV):SS.CC 65 [.sl false 3 a0,.func (.func 66) [] []] [] =
 Ur a0 [] 0:=cc
theorem a_N (a0:Sh.V ik):SS.CC 66 [GH a0] [] =
 some (.str a0.1,[]):=cc
def a_O:KT:=SS.rK Tryz.f67 67 0 []
def a_P:KT:=SS.jK 67 18 0 (cS Tryz.f67 7) a_O
def a_Q:KT:=au 0 a_P
def Us (x6:List PV) (x8:Int):R:=SS.LL (SS.ae 67 18) 0 [6,7,8] 0 (cS Tryz.f67 37) a_Q ⟨[(6,.sl false 1 x6),(7,.int .i64 (x6.length:Int)),(8,.int .i64 x8)],[]⟩
theorem aCW (x6:List PV) (x8:Int):Us x6 x8 =
 aA (decide (x8<(x6.length:Int))) (dH x6 x8 fun e1=>chk (decide (e1.isAgg=false)&&decide (e1.size=1)) (Jp (PV.un (PV.un (PV.un e1))) fun g2 f3 c4=>chk (PV.flats (f3 ++ [] ++ c4)) (iI SS.CC g2 (f3 ++ [] ++ c4) fun r5=>vI .i64 r5 fun n6=>aA (n6 != 0) (some (.int .i64 n6,[])) (Us x6 (i64.wrap (x8+1)))))) (some (.int .i64 0,[])):=ll
theorem a_R (a0:List PV):SS.CC 67 [.sl false 1 a0] [] =
 Us a0 0:=cc
theorem a_S (a0:Sh.V S0):SS.CC 68 [.cst (A0 a0)] [] =
 G3 26 [.str a0.1] fun b1=>G1 69 [.bool (!b1),.int .i64 7] fun n3=>some (.int .i64 n3,[]):=cc
theorem a_T (a0:Bool) (a1:Int):SS.CC 69 [.bool a0,.int .i64 a1] [] =
 aA a0 (some (.int .i64 a1,[])) (some (.int .i64 0,[])):=cc
theorem a_U (a0:Sh.V S0):SS.CC 70 [.cst (A0 a0)] [] =
 G1 46 [.sl false 5 a0.2.1] fun n1=>some (.int .i64 n1,[]):=cc
theorem a_V (a0:Sh.V S0):SS.CC 71 [.cst (A0 a0)] [] =
 aA (decide (16<(a0.2.2.1.length:Int))) (G1 69 [.bool true,.int .i64 3] fun n1=>some (.int .i64 n1,[])) (G1 69 [.bool (decide (32<(if (a0.2.2.2.2.2.2.1.length:Int)>(if (a0.2.2.2.2.2.1.length:Int)>(if (a0.2.2.2.2.1.length:Int)>(a0.2.2.2.1.length:Int) then (a0.2.2.2.2.1.length:Int) else (a0.2.2.2.1.length:Int)) then (a0.2.2.2.2.2.1.length:Int) else (if (a0.2.2.2.2.1.length:Int)>(a0.2.2.2.1.length:Int) then (a0.2.2.2.2.1.length:Int) else (a0.2.2.2.1.length:Int))) then (a0.2.2.2.2.2.2.1.length:Int) else (if (a0.2.2.2.2.2.1.length:Int)>(if (a0.2.2.2.2.1.length:Int)>(a0.2.2.2.1.length:Int) then (a0.2.2.2.2.1.length:Int) else (a0.2.2.2.1.length:Int)) then (a0.2.2.2.2.2.1.length:Int) else (if (a0.2.2.2.2.1.length:Int)>(a0.2.2.2.1.length:Int) then (a0.2.2.2.2.1.length:Int) else (a0.2.2.2.1.length:Int)))))),.int .i64 3] fun n3=>some (.int .i64 n3,[])):=cc
theorem a_W (a0:Sh.V S0) (a1:List PV):SS.CC 72 [.cst (A0 a0),.cst (.sl false 1 a1)] [] =
 G1 73 [.sl false 9 a0.2.2.1,.func (.func 74) [] [.cst (.sl false 1 a1),.cst (A0 a0)]] fun n1=>some (.int .i64 n1,[]):=cc
def a_X:KT:=SS.rK Tryz.f73 73 0 []
def a_Y:KT:=SS.jK 73 19 0 (cS Tryz.f73 7) a_X
def a_Z:KT:=au 0 a_Y
def Ut (x1:List PV) (dB:ByteArray) (ed:List PV) (mY:List PV) (mZ:List PV) (mf:List PV) (mg:List PV) (nC:List PV) (x8:Int) (x9:Int):R:=SS.LL (SS.ae 73 19) 0 [1,8,9] 0 (cS Tryz.f73 37) a_Z ⟨[(1,.func (.func 74) [] [.cst (.sl false 1 x1),.cst (A0 (dB,ed,mY,mZ,mf,mg,nC,()))]),(8,.int .i64 x8),(9,.int .i64 x9)],[]⟩
theorem aCX (x1:List PV) (dB:ByteArray) (ed:List PV) (mY:List PV) (mZ:List PV) (mf:List PV) (mg:List PV) (nC:List PV) (x8:Int) (x9:Int):Ut x1 dB ed mY mZ mf mg nC x8 x9 =
 aA (decide (x9<x8)) (G1 74 [.int .i64 x9,.cst (.sl false 1 x1),.cst (A0 (dB,ed,mY,mZ,mf,mg,nC,()))] fun n1=>aA (n1 != 0) (some (.int .i64 n1,[])) (Ut x1 dB ed mY mZ mf mg nC x8 (i64.wrap (x9+1)))) (some (.int .i64 0,[])):=ll
theorem a_' (a0:List PV) (a1:List PV) (vG:ByteArray) (yU:List PV) (yV:List PV) (yX:List PV) (yY:List PV) (yZ:List PV) (yc:List PV):SS.CC 73 [.sl false 9 a0,.func (.func 74) [] [.cst (.sl false 1 a1),.cst (A0 (vG,yU,yV,yX,yY,yZ,yc,()))]] [] =
 Ut a1 vG yU yV yX yY yZ yc (a0.length:Int) 0:=cc
theorem b03 (a0:Int) (a1:List PV) (a2:Sh.V S0):SS.CC 74 [.int .i64 a0,.cst (.sl false 1 a1),.cst (A0 a2)] [] =
 G1 67 [.sl false 1 [.func (.func 75) [] [.cst (.sl false 1 a1),.cst (.int .i64 a0)],.func (.func 77) [] [.cst (A0 a2),.cst (.int .i64 a0)]]] fun n1=>some (.int .i64 n1,[]):=cc
theorem b04 (a0:List PV) (a1:Int):SS.CC 75 [.cst (.sl false 1 a0),.cst (.int .i64 a1)] [] =
 chk (decide (0<=(i64.wrap (a1+1)))&&decide ((i64.wrap (a1+1))<=(a0.length:Int))) (G1 76 [.sl false 1 (a0.take (i64.wrap (a1+1)).toNat)] fun n1=>some (.int .i64 n1,[])):=cc
theorem b05 (a0:List PV):SS.CC 76 [.sl false 1 a0] [] =
 dH a0 (i64.wrap ((a0.length:Int)-1)) fun e1=>vS e1 fun s2=>G3 26 [.str s2] fun b3=>aA (!b3) (some (.int .i64 7,[])) (chk (decide (0<=(i64.wrap ((a0.length:Int)-1)))&&decide ((i64.wrap ((a0.length:Int)-1))<=(a0.length:Int))) (G3 25 [.sl false 1 (a0.take (i64.wrap ((a0.length:Int)-1)).toNat),.str s2] fun b5=>G1 69 [.bool b5,.int .i64 8] fun n7=>some (.int .i64 n7,[]))):=cc
theorem b06 (a0:Sh.V S0) (a1:Int):SS.CC 77 [.cst (A0 a0),.cst (.int .i64 a1)] [] =
 bG S5 a0.2.2.1 a1 fun u2=>G1 78 [A5 u2] fun n11=>some (.int .i64 n11,[]):=cc
theorem b07 (a0:Sh.V S5):SS.CC 78 [A5 a0] [] =
 G1 67 [.sl false 1 [.func (.func 176) [] [.cst (A5 a0)],.func (.func 178) [] [.cst (A5 a0)],.func (.func 179) [] [.cst (A6 (a0.2.2.2.1,a0.2.2.2.2.1,a0.2.2.2.2.2.1,a0.2.2.2.2.2.2.1,a0.2.2.2.2.2.2.2.1,a0.2.2.2.2.2.2.2.2.1,())),.cst (A5 a0)],.func (.func 181) [] [.cst (A6 (a0.2.2.2.1,a0.2.2.2.2.1,a0.2.2.2.2.2.1,a0.2.2.2.2.2.2.1,a0.2.2.2.2.2.2.2.1,a0.2.2.2.2.2.2.2.2.1,())),.cst (A5 a0)],.func (.func 182) [] [.cst (A6 (a0.2.2.2.1,a0.2.2.2.2.1,a0.2.2.2.2.2.1,a0.2.2.2.2.2.2.1,a0.2.2.2.2.2.2.2.1,a0.2.2.2.2.2.2.2.2.1,()))],.func (.func 183) [] [.cst (A6 (a0.2.2.2.1,a0.2.2.2.2.1,a0.2.2.2.2.2.1,a0.2.2.2.2.2.2.1,a0.2.2.2.2.2.2.2.1,a0.2.2.2.2.2.2.2.2.1,()))],.func (.func 184) [] [.cst (A6 (a0.2.2.2.1,a0.2.2.2.2.1,a0.2.2.2.2.2.1,a0.2.2.2.2.2.2.1,a0.2.2.2.2.2.2.2.1,a0.2.2.2.2.2.2.2.2.1,()))],.func (.func 185) [] [.cst (A6 (a0.2.2.2.1,a0.2.2.2.2.1,a0.2.2.2.2.2.1,a0.2.2.2.2.2.2.1,a0.2.2.2.2.2.2.2.1,a0.2.2.2.2.2.2.2.2.1,()))],.func (.func 188) [] [.cst (A6 (a0.2.2.2.1,a0.2.2.2.2.1,a0.2.2.2.2.2.1,a0.2.2.2.2.2.2.1,a0.2.2.2.2.2.2.2.1,a0.2.2.2.2.2.2.2.2.1,())),.cst (A5 a0)]]] fun n1=>some (.int .i64 n1,[]):=cc
theorem b08 (a0:List PV) (a1:List PV):SS.CC 79 [.cst (.sl false 3 a0),.cst (.sl false 1 a1)] [] =
 G1 80 [.sl false 3 a0,.func (.func 81) [] [.cst (.sl false 1 a1),.cst (.sl false 3 a0)]] fun n1=>some (.int .i64 n1,[]):=cc
def b09:KT:=SS.rK Tryz.f80 80 0 []
def b0A:KT:=SS.jK 80 19 0 (cS Tryz.f80 7) b09
def b0B:KT:=au 0 b0A
def Uu (x1:List PV) (dB:List PV) (x8:Int) (x9:Int):R:=SS.LL (SS.ae 80 19) 0 [1,8,9] 0 (cS Tryz.f80 37) b0B ⟨[(1,.func (.func 81) [] [.cst (.sl false 1 x1),.cst (.sl false 3 dB)]),(8,.int .i64 x8),(9,.int .i64 x9)],[]⟩
theorem aCY (x1:List PV) (dB:List PV) (x8:Int) (x9:Int):Uu x1 dB x8 x9 =
 aA (decide (x9<x8)) (G1 81 [.int .i64 x9,.cst (.sl false 1 x1),.cst (.sl false 3 dB)] fun n1=>aA (n1 != 0) (some (.int .i64 n1,[])) (Uu x1 dB x8 (i64.wrap (x9+1)))) (some (.int .i64 0,[])):=ll
theorem b0C (a0:List PV) (a1:List PV) (vG:List PV):SS.CC 80 [.sl false 3 a0,.func (.func 81) [] [.cst (.sl false 1 a1),.cst (.sl false 3 vG)]] [] =
 Uu a1 vG (a0.length:Int) 0:=cc
theorem b0D (a0:Int) (a1:List PV) (a2:List PV):SS.CC 81 [.int .i64 a0,.cst (.sl false 1 a1),.cst (.sl false 3 a2)] [] =
 G1 67 [.sl false 1 [.func (.func 82) [] [.cst (.sl false 1 a1),.cst (.int .i64 a0)],.func (.func 83) [] [.cst (.sl false 3 a2),.cst (.int .i64 a0)]]] fun n1=>some (.int .i64 n1,[]):=cc
theorem b0E (a0:List PV) (a1:Int):SS.CC 82 [.cst (.sl false 1 a0),.cst (.int .i64 a1)] [] =
 chk (decide (0<=(i64.wrap (a1+1)))&&decide ((i64.wrap (a1+1))<=(a0.length:Int))) (G1 76 [.sl false 1 (a0.take (i64.wrap (a1+1)).toNat)] fun n1=>some (.int .i64 n1,[])):=cc
theorem b0F (a0:List PV) (a1:Int):SS.CC 83 [.cst (.sl false 3 a0),.cst (.int .i64 a1)] [] =
 bG S8 a0 a1 fun u2=>bG S8 a0 a1 fun u6=>chk (decide (1+u6.2.2.1.length<=aV)) (G3 84 [.sl false 1 (([.str u2.2.1]:List PV) ++ u6.2.2.1)] fun b9=>G1 69 [.bool (!b9),.int .i64 7] fun n11=>some (.int .i64 n11,[])):=cc
theorem b0G (a0:List PV):SS.CC 84 [.sl false 1 a0] [] =
 G3 43 [.sl false 1 a0,.func (.func 192) [] []] fun b1=>some (.bool (!b1),[]):=cc
theorem b0H (a0:Sh.V S0) (a1:List PV):SS.CC 85 [.cst (A0 a0),.cst (.sl false 1 a1)] [] =
 G1 86 [.sl false 2 a0.2.2.2.2.2.1,.func (.func 87) [] [.cst (.sl false 1 a1),.cst (A0 a0)]] fun n1=>some (.int .i64 n1,[]):=cc
def b0I:KT:=SS.rK Tryz.f86 86 0 []
def b0J:KT:=SS.jK 86 19 0 (cS Tryz.f86 7) b0I
def b0K:KT:=au 0 b0J
def Uw (x1:List PV) (dB:ByteArray) (ed:List PV) (mY:List PV) (mZ:List PV) (mf:List PV) (mg:List PV) (nC:List PV) (x8:Int) (x9:Int):R:=SS.LL (SS.ae 86 19) 0 [1,8,9] 0 (cS Tryz.f86 37) b0K ⟨[(1,.func (.func 87) [] [.cst (.sl false 1 x1),.cst (A0 (dB,ed,mY,mZ,mf,mg,nC,()))]),(8,.int .i64 x8),(9,.int .i64 x9)],[]⟩
theorem aCZ (x1:List PV) (dB:ByteArray) (ed:List PV) (mY:List PV) (mZ:List PV) (mf:List PV) (mg:List PV) (nC:List PV) (x8:Int) (x9:Int):Uw x1 dB ed mY mZ mf mg nC x8 x9 =
 aA (decide (x9<x8)) (G1 87 [.int .i64 x9,.cst (.sl false 1 x1),.cst (A0 (dB,ed,mY,mZ,mf,mg,nC,()))] fun n1=>aA (n1 != 0) (some (.int .i64 n1,[])) (Uw x1 dB ed mY mZ mf mg nC x8 (i64.wrap (x9+1)))) (some (.int .i64 0,[])):=ll
theorem b0L (a0:List PV) (a1:List PV) (vG:ByteArray) (yU:List PV) (yV:List PV) (yX:List PV) (yY:List PV) (yZ:List PV) (yc:List PV):SS.CC 86 [.sl false 2 a0,.func (.func 87) [] [.cst (.sl false 1 a1),.cst (A0 (vG,yU,yV,yX,yY,yZ,yc,()))]] [] =
 Uw a1 vG yU yV yX yY yZ yc (a0.length:Int) 0:=cc
theorem b0M (a0:Int) (a1:List PV) (a2:Sh.V S0):SS.CC 87 [.int .i64 a0,.cst (.sl false 1 a1),.cst (A0 a2)] [] =
 G1 67 [.sl false 1 [.func (.func 88) [] [.cst (.sl false 1 a1),.cst (.int .i64 a0)],.func (.func 89) [] [.cst (A0 a2),.cst (.int .i64 a0)],.func (.func 90) [] [.cst (A0 a2),.cst (.int .i64 a0)]]] fun n1=>some (.int .i64 n1,[]):=cc
theorem b0N (a0:List PV) (a1:Int):SS.CC 88 [.cst (.sl false 1 a0),.cst (.int .i64 a1)] [] =
 chk (decide (0<=(i64.wrap (a1+1)))&&decide ((i64.wrap (a1+1))<=(a0.length:Int))) (G1 76 [.sl false 1 (a0.take (i64.wrap (a1+1)).toNat)] fun n1=>some (.int .i64 n1,[])):=cc
theorem b0O (a0:Sh.V S0) (a1:Int):SS.CC 89 [.cst (A0 a0),.cst (.int .i64 a1)] [] =
 bG jk a0.2.2.2.2.2.1 a1 fun u2=>G1 69 [.bool ((u2.2.1.length:Int)==0),.int .i64 12] fun n4=>some (.int .i64 n4,[]):=cc
theorem b0P (a0:Sh.V S0) (a1:Int):SS.CC 90 [.cst (A0 a0),.cst (.int .i64 a1)] [] =
 bG jk a0.2.2.2.2.2.1 a1 fun u2=>G3 91 [.sl false 2 u2.2.1,.func (.func 92) [] []] fun b4=>G1 69 [.bool b4,.int .i64 7] fun n6=>some (.int .i64 n6,[]):=cc
theorem b0Q (a0:List PV):SS.CC 91 [.sl false 2 a0,.func (.func 92) [] []] [] =
 G1 193 [.sl false 2 a0,.func (.func 92) [] []] fun n1=>some (.bool (decide (0<=n1)),[]):=cc
theorem b0R (a0:Sh.V xQ):SS.CC 92 [Ri a0] [] =
 G3 84 [.sl false 1 [.str a0.1,.str a0.2.1]] fun b1=>some (.bool (!b1),[]):=cc
theorem b0S (a0:Sh.V S0) (a1:List PV):SS.CC 93 [.cst (A0 a0),.cst (.sl false 1 a1)] [] =
 G1 94 [.sl false 3 a0.2.2.2.2.2.2.1,.func (.func 95) [] [.cst (.sl false 1 a1),.cst (A0 a0)]] fun n1=>some (.int .i64 n1,[]):=cc
def b0T:KT:=SS.rK Tryz.f94 94 0 []
def b0U:KT:=SS.jK 94 19 0 (cS Tryz.f94 7) b0T
def b0V:KT:=au 0 b0U
def Ux (x1:List PV) (dB:ByteArray) (ed:List PV) (mY:List PV) (mZ:List PV) (mf:List PV) (mg:List PV) (nC:List PV) (x8:Int) (x9:Int):R:=SS.LL (SS.ae 94 19) 0 [1,8,9] 0 (cS Tryz.f94 37) b0V ⟨[(1,.func (.func 95) [] [.cst (.sl false 1 x1),.cst (A0 (dB,ed,mY,mZ,mf,mg,nC,()))]),(8,.int .i64 x8),(9,.int .i64 x9)],[]⟩
theorem aC' (x1:List PV) (dB:ByteArray) (ed:List PV) (mY:List PV) (mZ:List PV) (mf:List PV) (mg:List PV) (nC:List PV) (x8:Int) (x9:Int):Ux x1 dB ed mY mZ mf mg nC x8 x9 =
 aA (decide (x9<x8)) (G1 95 [.int .i64 x9,.cst (.sl false 1 x1),.cst (A0 (dB,ed,mY,mZ,mf,mg,nC,()))] fun n1=>aA (n1 != 0) (some (.int .i64 n1,[])) (Ux x1 dB ed mY mZ mf mg nC x8 (i64.wrap (x9+1)))) (some (.int .i64 0,[])):=ll
theorem b0W (a0:List PV) (a1:List PV) (vG:ByteArray) (yU:List PV) (yV:List PV) (yX:List PV) (yY:List PV) (yZ:List PV) (yc:List PV):SS.CC 94 [.sl false 3 a0,.func (.func 95) [] [.cst (.sl false 1 a1),.cst (A0 (vG,yU,yV,yX,yY,yZ,yc,()))]] [] =
 Ux a1 vG yU yV yX yY yZ yc (a0.length:Int) 0:=cc
theorem b0X (a0:Int) (a1:List PV) (a2:Sh.V S0):SS.CC 95 [.int .i64 a0,.cst (.sl false 1 a1),.cst (A0 a2)] [] =
 G1 67 [.sl false 1 [.func (.func 96) [] [.cst (.sl false 1 a1),.cst (.int .i64 a0)],.func (.func 97) [] [.cst (A0 a2),.cst (.int .i64 a0)]]] fun n1=>some (.int .i64 n1,[]):=cc
theorem b0Y (a0:List PV) (a1:Int):SS.CC 96 [.cst (.sl false 1 a0),.cst (.int .i64 a1)] [] =
 chk (decide (0<=(i64.wrap (a1+1)))&&decide ((i64.wrap (a1+1))<=(a0.length:Int))) (G1 76 [.sl false 1 (a0.take (i64.wrap (a1+1)).toNat)] fun n1=>some (.int .i64 n1,[])):=cc
theorem b0Z (a0:Sh.V S0) (a1:Int):SS.CC 97 [.cst (A0 a0),.cst (.int .i64 a1)] [] =
 bG ik a0.2.2.2.2.2.2.1 a1 fun u2=>G1 98 [GH u2] fun n5=>some (.int .i64 n5,[]):=cc
def b1A:KT:=SS.rK Tryz.f98 98 0 []
def b1B:KT:=SS.jK 98 28 0 (cS Tryz.f98 15) b1A
def b1C:KT:=au 0 b1B
def P9 (x1:Sh.V ik) (x12:Int):R:=SS.LL (SS.ae 98 28) 0 [1,10,11,12] 0 (cS Tryz.f98 75) b1C ⟨[(1,.cst (GH x1)),(10,.sl false 2 x1.2.1),(11,.int .i64 (x1.2.1.length:Int)),(12,.int .i64 x12)],[]⟩
theorem aD0 (x1:Sh.V ik) (x12:Int):P9 x1 x12 =
 aA (decide (x12<(x1.2.1.length:Int))) (bG yS x1.2.1 x12 fun u2=>G3 26 [.str u2.1] fun b4=>aA (!b4) (some (.int .i64 7,[])) (G3 194 [.int .i64 u2.2.1] fun b6=>aA b6 (some (.int .i64 2,[])) (P9 x1 (i64.wrap (x12+1))))) (G3 194 [.int .i64 x1.2.2.1] fun b8=>G1 69 [.bool b8,.int .i64 2] fun n10=>some (.int .i64 n10,[])):=ll
theorem b1D (a0:Sh.V ik):SS.CC 98 [GH a0] [] =
 aA ((a0.2.1.length:Int)==0) (some (.int .i64 12,[])) (P9 a0 0):=cc
def aRS:KT:=SS.rK Tryz.f139 139 0 []
def aRT:KT:=SS.jK 139 26 0 (cS Tryz.f139 15) aRS
def aRU:KT:=au 0 aRT
def UH (x0:List PV) (x1:List PV) (Ii:Int):R:=SS.LL (SS.ae 139 26) 0 [0,1,12,13] 0 (cS Tryz.f139 75) aRU ⟨[(0,.sl false 1 x0),(1,.sl false 1 x1),(12,.int .i64 (x0.length:Int)),(13,.int .i64 Ii)],[]⟩
theorem a9K (x0:List PV) (x1:List PV) (Ii:Int):UH x0 x1 Ii =
 aA (decide (Ii<(x0.length:Int))) (dH x0 Ii fun e1=>vI .i64 e1 fun n2=>dH x1 Ii fun e3=>vI .i64 e3 fun n4=>aA (n2 != n4) (some (.bool false,[])) (UH x0 x1 (i64.wrap (Ii+1)))) (some (.bool true,[])):=ll
theorem aRV (a0:List PV) (a1:List PV):SS.CC 139 [.sl false 1 a0,.sl false 1 a1] [] =
 aA ((a0.length:Int) !=(a1.length:Int)) (some (.bool false,[])) (UH a0 a1 0):=cc
def aSN:KT:=SS.rK Tryz.f158 158 0 []
def aSO:KT:=SS.jK 158 19 0 (cS Tryz.f158 7) aSN
def aSP:KT:=au 0 aSO
def Oc (x0:List PV) (x8:Int):R:=SS.LL (SS.ae 158 19) 0 [0,1,7,8] 0 (cS Tryz.f158 37) aSP ⟨[(0,.sl false 1 x0),(1,.func (.func 44) [] []),(7,.int .i64 (x0.length:Int)),(8,.int .i64 x8)],[]⟩
theorem aA0 (x0:List PV) (x8:Int):Oc x0 x8 =
 aA (decide (x8<(x0.length:Int))) (dH x0 x8 fun e1=>vS e1 fun s2=>G3 44 [.str s2] fun b3=>aA b3 (some (.int .i64 x8,[])) (Oc x0 (i64.wrap (x8+1)))) (some (.int .i64 (-1),[])):=ll
theorem aSQ (a0:List PV):SS.CC 158 [.sl false 1 a0,.func (.func 44) [] []] [] =
 Oc a0 0:=cc
def aSR:KT:=SS.rK Tryz.f158 158 0 []
def aSS:KT:=SS.jK 158 19 0 (cS Tryz.f158 7) aSR
def aST:KT:=au 0 aSS
def Oe (x0:List PV) (x8:Int):R:=SS.LL (SS.ae 158 19) 0 [0,1,7,8] 0 (cS Tryz.f158 37) aST ⟨[(0,.sl false 1 x0),(1,.func (.func 192) [] []),(7,.int .i64 (x0.length:Int)),(8,.int .i64 x8)],[]⟩
theorem aA1 (x0:List PV) (x8:Int):Oe x0 x8 =
 aA (decide (x8<(x0.length:Int))) (dH x0 x8 fun e1=>vS e1 fun s2=>G3 192 [.str s2] fun b3=>aA b3 (some (.int .i64 x8,[])) (Oe x0 (i64.wrap (x8+1)))) (some (.int .i64 (-1),[])):=ll
theorem aSU (a0:List PV):SS.CC 158 [.sl false 1 a0,.func (.func 192) [] []] [] =
 Oe a0 0:=cc
def aSV:KT:=SS.rK Tryz.f159 159 0 []
def aSW:KT:=SS.jK 159 33 0 (cS Tryz.f159 7) aSV
def aSX:KT:=au 0 aSW
def Og (x0:List PV) (x1:Int) (x9:Int):R:=SS.LL (SS.ae 159 33) 0 [0,1,7,8,9] 0 (cS Tryz.f159 37) aSX ⟨[(0,.sl false 1 x0),(1,.int .i64 x1),(7,.sl false 1 x0),(8,.int .i64 (x0.length:Int)),(9,.int .i64 x9)],[]⟩
theorem aA2 (x0:List PV) (x1:Int) (x9:Int):Og x0 x1 x9 =
 aA (decide (x9<(x0.length:Int))) (dH x0 x9 fun e1=>vI .i64 e1 fun n2=>aA (decide (n2<0)) (some (.int .i64 2,[])) (aA (decide (x1<=n2)) (some (.int .i64 2,[])) (aA (decide (0<x9)) (dH x0 (i64.wrap (x9-1)) fun e3=>vI .i64 e3 fun n4=>aA (decide (n2<=n4)) (some (.int .i64 5,[])) (Og x0 x1 (i64.wrap (x9+1)))) (Og x0 x1 (i64.wrap (x9+1)))))) (some (.int .i64 0,[])):=ll
theorem aSY (a0:List PV) (a1:Int):SS.CC 159 [.sl false 1 a0,.int .i64 a1] [] =
 Og a0 a1 0:=cc
def aSZ:KT:=SS.rK Tryz.f160 160 0 []
def aS':KT:=SS.jK 160 55 0 (cS Tryz.f160 15) aSZ
def aT0:KT:=au 0 aS'
def UI (x0:List PV) (x10:Int):R:=SS.LL (SS.ae 160 55) 0 [0,8,9,10] 0 (cS Tryz.f160 75) aT0 ⟨[(0,.sl false 4 x0),(8,.sl false 4 x0),(9,.int .i64 (x0.length:Int)),(10,.int .i64 x10)],[]⟩
theorem aA3 (x0:List PV) (x10:Int):UI x0 x10 =
 aA (decide (x10<(x0.length:Int))) (bG S7 x0 x10 fun u2=>G3 26 [.str u2.1] fun b6=>aA (!b6) (some (.int .i64 7,[])) (chk (decide (0<=x10)&&decide (x10<=(x0.length:Int))) (XP 186 [.sl false 4 (x0.take x10.toNat),.func (.func 237) [] [.ptr 0 0]] [O7 u2] fun b8 u9=>aA b8 (some (.int .i64 8,[])) (G3 203 [.int .i64 u9.2.1,.int .i64 65536] fun b15=>aA b15 (some (.int .i64 2,[])) (G3 203 [.int .i64 u9.2.2.1,.int .i64 65536] fun b17=>aA b17 (some (.int .i64 2,[])) (aA (decide (u9.2.2.1<u9.2.1)) (some (.int .i64 5,[])) (aA (decide (u9.2.2.2.1<u9.2.1)) (some (.int .i64 2,[])) (aA (decide (u9.2.2.1<u9.2.2.2.1)) (some (.int .i64 2,[])) (UI x0 (i64.wrap (x10+1))))))))))) (some (.int .i64 0,[])):=ll
theorem aT1 (a0:List PV):SS.CC 160 [.sl false 4 a0] [] =
 aA (decide (16<(a0.length:Int))) (some (.int .i64 3,[])) (UI a0 0):=cc
theorem aT2 (a0:Sh.V S1) (a1:Int) (a2:Int):SS.CC 161 [A1 a0,.int .i64 a1,.int .i64 a2] [] =
 G6 27 [A1 a0,.int .i64 a1] fun u1=>aA (u1.2.1.1==0) (aA (u1.1.1 != a2) (some (.int .i64 16,[])) (some (.int .i64 u1.2.1.1,[]))) (some (.int .i64 u1.2.1.1,[])):=cc
theorem aUV (a0:Sh.V S5):SS.CC 176 [.cst (A5 a0)] [] =
 G1 177 [.sl false 1 a0.2.2.1] fun n1=>some (.int .i64 n1,[]):=cc
def aUW:KT:=SS.rK Tryz.f177 177 0 []
def aUX:KT:=SS.jK 177 21 0 (cS Tryz.f177 7) aUW
def aUY:KT:=au 0 aUX
def UQ (x0:List PV) (x7:Int):R:=SS.LL (SS.ae 177 21) 0 [0,5,6,7] 0 (cS Tryz.f177 37) aUY ⟨[(0,.sl false 1 x0),(5,.sl false 1 x0),(6,.int .i64 (x0.length:Int)),(7,.int .i64 x7)],[]⟩
theorem aAQ (x0:List PV) (x7:Int):UQ x0 x7 =
 aA (decide (x7<(x0.length:Int))) (dH x0 x7 fun e1=>vS e1 fun s2=>G3 26 [.str s2] fun b3=>aA (!b3) (some (.int .i64 7,[])) (chk (decide (0<=x7)&&decide (x7<=(x0.length:Int))) (G3 25 [.sl false 1 (x0.take x7.toNat),.str s2] fun b5=>aA b5 (some (.int .i64 8,[])) (UQ x0 (i64.wrap (x7+1)))))) (some (.int .i64 0,[])):=ll
theorem aUZ (a0:List PV):SS.CC 177 [.sl false 1 a0] [] =
 UQ a0 0:=cc
theorem aU' (a0:Sh.V S5):SS.CC 178 [.cst (A5 a0)] [] =
 G1 177 [.sl false 1 a0.2.1] fun n1=>some (.int .i64 n1,[]):=cc
theorem aV1 (a0:Sh.V S6) (a1:Sh.V S5):SS.CC 179 [.cst (A6 a0),.cst (A5 a1)] [] =
 G4 180 [.int .i64 (a1.2.2.1.length:Int)] fun l1=>G3 139 [.sl false 1 a0.1,.sl false 1 l1] fun b3=>G1 69 [.bool (!b3),.int .i64 6] fun n5=>some (.int .i64 n5,[]):=cc
def aV2:KT:=SS.rK Tryz.f180 180 0 []
def aV3:KT:=SS.jK 180 15 0 (cS Tryz.f180 15) aV2
def aV4:KT:=au 0 aV3
def UR (x5:Int) (x3:List PV) (x6:Int):R:=SS.LL (SS.ae 180 15) 0 [3,5,6] 0 (cS Tryz.f180 75) aV4 ⟨[(3,.sl true 1 x3),(5,.int .i64 x5),(6,.int .i64 x6)],[]⟩
theorem aAS (x5:Int) (x3:List PV) (x6:Int):UR x5 x3 x6 =
 aA (decide (x6<x5)) (chk (decide (x3.length+1<=aV)) (UR x5 (x3 ++ ([.int .i64 x6]:List PV)) (i64.wrap (x6+1)))) (some (.sl false 1 x3,[])):=ll
theorem aV5 (a0:Int):SS.CC 180 [.int .i64 a0] [] =
 UR a0 [] 0:=cc
theorem aV6 (a0:Sh.V S6) (a1:Sh.V S5):SS.CC 181 [.cst (A6 a0),.cst (A5 a1)] [] =
 G1 69 [.bool (a0.2.1 !=(a1.2.1.length:Int)),.int .i64 4] fun n1=>some (.int .i64 n1,[]):=cc
theorem aV7 (a0:Sh.V S6):SS.CC 182 [.cst (A6 a0)] [] =
 aA (decide (a0.2.2.1<0)) (G1 69 [.bool true,.int .i64 2] fun n1=>some (.int .i64 n1,[])) (G1 69 [.bool (decide ((if (1:Int)>a0.2.1 then (1:Int) else a0.2.1)<=a0.2.2.1)),.int .i64 2] fun n3=>some (.int .i64 n3,[])):=cc
theorem aV8 (a0:Sh.V S6):SS.CC 183 [.cst (A6 a0)] [] =
 G1 159 [.sl false 1 a0.2.2.2.1,.int .i64 a0.2.1] fun n1=>some (.int .i64 n1,[]):=cc
theorem aV9 (a0:Sh.V S6):SS.CC 184 [.cst (A6 a0)] [] =
 G1 160 [.sl false 4 a0.2.2.2.2.1] fun n1=>some (.int .i64 n1,[]):=cc
theorem aVA (a0:Sh.V S6):SS.CC 185 [.cst (A6 a0)] [] =
 G3 186 [.sl false 4 a0.2.2.2.2.1,.func (.func 187) [] []] fun b1=>G1 69 [.bool b1,.int .i64 7] fun n3=>some (.int .i64 n3,[]):=cc
theorem aVB (a0:List PV):SS.CC 186 [.sl false 4 a0,.func (.func 187) [] []] [] =
 G1 247 [.sl false 4 a0,.func (.func 187) [] []] fun n1=>some (.bool (decide (0<=n1)),[]):=cc
theorem aVC (a0:List PV) (h0:Sh.V S7):SS.CC 186 [.sl false 4 a0,.func (.func 237) [] [.ptr 0 0]] [O7 h0] =
 H63 247 [.sl false 4 a0,.func (.func 237) [] [.ptr 0 0]] [O7 h0] fun n1 u2=>some (.bool (decide (0<=n1)),[O7 u2]):=cc
theorem aVD (a0:Sh.V S7):SS.CC 187 [A7 a0] [] =
 G3 112 [.str a0.1] fun b1=>some (.bool b1,[]):=cc
theorem aVE (a0:Sh.V S6) (a1:Sh.V S5):SS.CC 188 [.cst (A6 a0),.cst (A5 a1)] [] =
 G1 189 [.sl false 8 a0.2.2.2.2.2.1,.func (.func 190) [] [.cst (A5 a1),.cst (A6 a0)]] fun n1=>some (.int .i64 n1,[]):=cc
def aVF:KT:=SS.rK Tryz.f189 189 0 []
def aVG:KT:=SS.jK 189 19 0 (cS Tryz.f189 7) aVF
def aVH:KT:=au 0 aVG
def UT (x1:ByteArray) (dB:List PV) (ed:List PV) (mY:List PV) (mZ:Int) (mf:Int) (mg:List PV) (nC:List PV) (Qy:List PV) (Qz:List PV) (RD:Int) (RF:Int) (RG:List PV) (RH:List PV) (RI:List PV) (x8:Int) (x9:Int):R:=SS.LL (SS.ae 189 19) 0 [1,8,9] 0 (cS Tryz.f189 37) aVH ⟨[(1,.func (.func 190) [] [.cst (A5 (x1,dB,ed,mY,mZ,mf,mg,nC,Qy,())),.cst (A6 (Qz,RD,RF,RG,RH,RI,()))]),(8,.int .i64 x8),(9,.int .i64 x9)],[]⟩
theorem aAT (x1:ByteArray) (dB:List PV) (ed:List PV) (mY:List PV) (mZ:Int) (mf:Int) (mg:List PV) (nC:List PV) (Qy:List PV) (Qz:List PV) (RD:Int) (RF:Int) (RG:List PV) (RH:List PV) (RI:List PV) (x8:Int) (x9:Int):UT x1 dB ed mY mZ mf mg nC Qy Qz RD RF RG RH RI x8 x9 =
 aA (decide (x9<x8)) (G1 190 [.int .i64 x9,.cst (A5 (x1,dB,ed,mY,mZ,mf,mg,nC,Qy,())),.cst (A6 (Qz,RD,RF,RG,RH,RI,()))] fun n1=>aA (n1 != 0) (some (.int .i64 n1,[])) (UT x1 dB ed mY mZ mf mg nC Qy Qz RD RF RG RH RI x8 (i64.wrap (x9+1)))) (some (.int .i64 0,[])):=ll
theorem aVI (a0:List PV) (a1:ByteArray) (vG:List PV) (yU:List PV) (yV:List PV) (yX:Int) (yY:Int) (yZ:List PV) (yc:List PV) (a5X:List PV) (a5Y:List PV) (a5S:Int) (a5T:Int) (a5U:List PV) (a5V:List PV) (a5W:List PV):SS.CC 189 [.sl false 8 a0,.func (.func 190) [] [.cst (A5 (a1,vG,yU,yV,yX,yY,yZ,yc,a5X,())),.cst (A6 (a5Y,a5S,a5T,a5U,a5V,a5W,()))]] [] =
 UT a1 vG yU yV yX yY yZ yc a5X a5Y a5S a5T a5U a5V a5W (a0.length:Int) 0:=cc
theorem aVK (a0:Int) (a1:Sh.V S5) (a2:Sh.V S6):SS.CC 190 [.int .i64 a0,.cst (A5 a1),.cst (A6 a2)] [] =
 bG S9 a2.2.2.2.2.2.1 a0 fun u2=>G1 191 [A5 a1,A9 u2] fun n10=>some (.int .i64 n10,[]):=cc
def aVM:KT:=SS.rK Tryz.f191 191 0 []
def aVN:KT:=SS.jK 191 97 0 (cS Tryz.f191 63) aVM
def aAU:KT:=au 0 aVN
def aVO:KT:=SS.lK 191 97 0 [3,5,59,60,61] 0 (cS Tryz.f191 303) aAU
def aVP:KT:=SS.jK 191 97 0 (cS Tryz.f191 3887) aVO
def aVQ:KT:=au 1 aVP
def Oj (x3:Sh.V S9) (x5:Int) (nT:Int):R:=SS.LL (SS.ae 191 97) 0 [3,5,59,60,61] 0 (cS Tryz.f191 303) aAU ⟨[(3,.cst (A9 x3)),(5,.int .i64 x5),(59,.sl false 5 x3.2.2.2.2.2.2.2.1),(60,.int .i64 (x3.2.2.2.2.2.2.2.1.length:Int)),(61,.int .i64 nT)],[]⟩
def Yb (x3:Sh.V S9) (x5:Int) (q0:Sh.V pF) (nT:Int):R:=bI (SS.xX 191 97 0) (cS Tryz.f191 62255) aVQ ⟨[(3,.cst (A9 x3)),(5,.int .i64 x5),(8,.ptr 0 0),(59,.sl false 5 x3.2.2.2.2.2.2.2.1),(60,.int .i64 (x3.2.2.2.2.2.2.2.1.length:Int)),(61,.int .i64 nT)],[O11 q0]⟩
theorem aAV (x3:Sh.V S9) (x5:Int) (nT:Int):Oj x3 x5 nT =
 aA (decide (nT<(x3.2.2.2.2.2.2.2.1.length:Int))) (bG pF x3.2.2.2.2.2.2.2.1 nT fun u2=>aA (decide (u2.1<0)) (some (.int .i64 2,[])) (aA (decide (x5<=u2.1)) (some (.int .i64 2,[])) (aA (decide (0<nT)) (bG pF x3.2.2.2.2.2.2.2.1 (i64.wrap (nT-1)) fun u8=>aA (decide (u2.1<=u8.1)) (some (.int .i64 5,[])) (Yb x3 x5 u2 nT)) (Yb x3 x5 u2 nT)))) (some (.int .i64 0,[])):=ll
theorem aVL (x3:Sh.V S9) (x5:Int) (q0:Sh.V pF) (nT:Int):Yb x3 x5 q0 nT =
 G1 248 [A1 (q0.2.1,q0.2.2.1,q0.2.2.2.1,q0.2.2.2.2.1,()),.int .i64 x5,.int .i64 1] fun n1=>aA (n1 != 0) (some (.int .i64 n1,[])) (Oj x3 x5 (i64.wrap (nT+1))):=by kernel_rfl
theorem aVR (a0:Sh.V S5) (a1:Sh.V S9):SS.CC 191 [A5 a0,A9 a1] [] =
 aA (decide (a1.1<0)) (some (.int .i64 2,[])) (aA (decide (a0.2.2.2.2.1<=a1.1)) (some (.int .i64 2,[])) (aA (decide (a1.2.1<0)) (some (.int .i64 2,[])) (aA (decide ((a0.2.2.1.length:Int)<=a1.2.1)) (some (.int .i64 2,[])) (aA (decide (a1.2.2.1<0)) (some (.int .i64 2,[])) (aA (decide (a0.2.2.2.2.1<=a1.2.2.1)) (some (.int .i64 2,[])) (G1 248 [A1 (a1.2.2.2.1,a1.2.2.2.2.1,a1.2.2.2.2.2.1,a1.2.2.2.2.2.2.1,()),.int .i64 (a0.2.2.2.2.2.2.2.1.length:Int),.int .i64 2] fun n1=>aA (n1 != 0) (some (.int .i64 n1,[])) (Oj a1 (a0.2.2.2.2.2.2.2.1.length:Int) 0))))))):=cc
theorem aVS (a0:ByteArray):SS.CC 192 [.str a0] [] =
 G3 26 [.str a0] fun b1=>some (.bool (!b1),[]):=cc
def aVT:KT:=SS.rK Tryz.f193 193 0 []
def aVU:KT:=SS.jK 193 19 0 (cS Tryz.f193 7) aVT
def aVV:KT:=au 0 aVU
def Ol (x0:List PV) (x8:Int):R:=SS.LL (SS.ae 193 19) 0 [0,1,7,8] 0 (cS Tryz.f193 37) aVV ⟨[(0,.sl false 2 x0),(1,.func (.func 92) [] []),(7,.int .i64 (x0.length:Int)),(8,.int .i64 x8)],[]⟩
theorem aAW (x0:List PV) (x8:Int):Ol x0 x8 =
 aA (decide (x8<(x0.length:Int))) (bG xQ x0 x8 fun u2=>G3 92 [Ri u2] fun b4=>aA b4 (some (.int .i64 x8,[])) (Ol x0 (i64.wrap (x8+1)))) (some (.int .i64 (-1),[])):=ll
theorem aVW (a0:List PV):SS.CC 193 [.sl false 2 a0,.func (.func 92) [] []] [] =
 Ol a0 0:=cc
theorem aVX (a0:Int):SS.CC 194 [.int .i64 a0] [] =
 aA (decide (a0<(-65536))) (some (.bool true,[])) (some (.bool (decide (65536<a0)),[])):=cc
theorem aWF (a0:Sh.V S7) (h0:Sh.V S7):SS.CC 237 [A7 a0,.ptr 0 0] [O7 h0] =
 some (.bool (a0.1.toList==h0.1.toList),[O7 h0]):=cc
def aWY:KT:=SS.rK Tryz.f247 247 1 []
def aWZ:KT:=SS.jK 247 19 1 (cS Tryz.f247 7) aWY
def aW':KT:=au 0 aWZ
def Ot (x0:List PV) (q0:Sh.V S7) (x8:Int):R:=SS.LL (SS.ae 247 19) 1 [0,1,7,8] 1 (cS Tryz.f247 37) aW' ⟨[(0,.sl false 4 x0),(1,.func (.func 237) [] [.ptr 0 0]),(7,.int .i64 (x0.length:Int)),(8,.int .i64 x8)],[O7 q0]⟩
theorem aB2 (x0:List PV) (q0:Sh.V S7) (x8:Int):Ot x0 q0 x8 =
 aA (decide (x8<(x0.length:Int))) (bG S7 x0 x8 fun u2=>XP 237 [A7 u2,.ptr 0 0] [O7 q0] fun b6 u7=>aA b6 (some (.int .i64 x8,[O7 u7])) (Ot x0 u7 (i64.wrap (x8+1)))) (some (.int .i64 (-1),[O7 q0])):=ll
theorem aX0 (a0:List PV) (h0:Sh.V S7):SS.CC 247 [.sl false 4 a0,.func (.func 237) [] [.ptr 0 0]] [O7 h0] =
 Ot a0 h0 0:=cc
def aWU:KT:=SS.rK Tryz.f247 247 0 []
def aWV:KT:=SS.jK 247 19 0 (cS Tryz.f247 7) aWU
def aWW:KT:=au 0 aWV
def Oq (x0:List PV) (x8:Int):R:=SS.LL (SS.ae 247 19) 0 [0,1,7,8] 0 (cS Tryz.f247 37) aWW ⟨[(0,.sl false 4 x0),(1,.func (.func 187) [] []),(7,.int .i64 (x0.length:Int)),(8,.int .i64 x8)],[]⟩
theorem aB1 (x0:List PV) (x8:Int):Oq x0 x8 =
 aA (decide (x8<(x0.length:Int))) (bG S7 x0 x8 fun u2=>G3 187 [A7 u2] fun b6=>aA b6 (some (.int .i64 x8,[])) (Oq x0 (i64.wrap (x8+1)))) (some (.int .i64 (-1),[])):=ll
theorem aWX (a0:List PV):SS.CC 247 [.sl false 4 a0,.func (.func 187) [] []] [] =
 Oq a0 0:=cc
theorem aX1 (a0:Sh.V S1) (a1:Int) (a2:Int):SS.CC 248 [A1 a0,.int .i64 a1,.int .i64 a2] [] =
 G6 27 [A1 a0,.int .i64 a1] fun u1=>aA (u1.2.1.1 != 0) (some (.int .i64 u1.2.1.1,[])) (G1 69 [.bool (u1.1.1 != a2),.int .i64 16] fun n4=>some (.int .i64 n4,[])):=cc
end
abbrev Nm:=List UInt8
structure Vr where
 n:Nm
 lo:Int
 hi:Int
 i:Int
structure nD where
 n:Nm
 c:Bool
 o:Bool
 f:Bool
 k:Int
structure Mv where
 f:Int
 e:Int
 t:Int
 g:EX
 us:List (Int×EX)
structure Tm where
 n:Nm
 ls:List Nm
 es:List Nm
 al:List Int
 L:Int
 I:Int
 mr:List Int
 vs:List Vr
 ms:List Mv
structure Ins where
 n:Nm
 t:Nm
 es:List Nm
structure qX where
 n:Nm
 ls:List (Nm×Nm)
structure Cst where
 n:Nm
 ts:List (Nm×Int)
 b:Int
structure Mo where
 n:Nm
 es:List nD
 ts:List Tm
 cs:List Ins
 rs:List Ins
 xs:List qX
 ks:List Cst
abbrev aS (l:List Nm):List PV:=uZ (y5 l)
abbrev FZ (v:Vr):Sh.V S7:=(bs v.n,v.lo,v.hi,v.i,())
abbrev kC (e:nD):Sh.V S4:=(bs e.n,e.c,e.o,e.f,e.k,())
abbrev vUp (u:Int×EX):Sh.V pF:=(u.1,(ev u.2).1,(ev u.2).2.1,(ev u.2).2.2.1,(ev u.2).2.2.2.1,())
abbrev pUp (u:Int×EX):PV:=A11 (vUp u)
abbrev jc (x:Mv):Sh.V S9:=(x.f,x.e,x.t,(ev x.g).1,(ev x.g).2.1,(ev x.g).2.2.1,(ev x.g).2.2.2.1,x.us.map pUp,())
abbrev xC (x:Mv):PV:=A9 (jc x)
abbrev qH (v:Vr):PV:=A7 (FZ v)
abbrev LZ (e:nD):PV:=A4 (kC e)
abbrev bU (t:Tm):Sh.V S5:=(bs t.n,aS t.ls,aS t.es,jF t.al,t.L,t.I,jF t.mr,t.vs.map qH,t.ms.map xC,())
abbrev IK (t:Tm):PV:=A5 (bU t)
abbrev Qu (x:Ins):Sh.V S8:=(bs x.n,bs x.t,aS x.es,())
abbrev di (x:Ins):PV:=A8 (Qu x)
abbrev Wp (l:Nm×Nm):Sh.V xQ:=(bs l.1,bs l.2,())
abbrev su (l:Nm×Nm):PV:=Ri (Wp l)
abbrev yH (x:qX):Sh.V jk:=(bs x.n,x.ls.map su,())
abbrev FC (x:qX):PV:=XB (yH x)
abbrev vTr (t:Nm×Int):Sh.V yS:=(bs t.1,t.2,())
abbrev DC (t:Nm×Int):PV:=A14 (vTr t)
abbrev kw (x:Cst):Sh.V ik:=(bs x.n,x.ts.map DC,x.b,())
abbrev kL (x:Cst):PV:=GH (kw x)
abbrev aO (m:Mo):Sh.V S0:=(bs m.n,m.es.map LZ,m.ts.map IK,m.cs.map di,m.rs.map di,m.xs.map FC,m.ks.map kL,())
abbrev xP (l:List Nm):Prop:=l.length<=1000/\∀ s,s∈l->s.length<=1000
abbrev JJ (n:Int):Prop := -9223372036854775808<=n/\n<=9223372036854775807
structure pq (t:Tm):Prop where
 ls:xP t.ls
 es:xP t.es
 al:t.al.length<=1000
 mr:t.mr.length<=1000
 vs:t.vs.length<=1000/\∀ v,v∈t.vs->v.n.length<=1000/\JJ v.lo/\JJ v.hi
 ms:t.ms.length<=1000/\∀ x,x∈t.ms->x.g.Len/\x.us.length<=1000/\∀ u,u∈x.us->u.2.Len
structure ji (m:Mo):Prop where
 n:m.n.length<=1000
 es:m.es.length<=1000/\∀ e,e∈m.es->e.n.length<=1000
 ts:m.ts.length<=1000/\∀ t,t∈m.ts->t.n.length<=1000/\pq t
 is:m.cs.length<=1000/\m.rs.length<=1000/\∀ x,x∈m.cs ++ m.rs->x.n.length<=1000/\x.t.length<=1000/\xP x.es
 xs:m.xs.length<=1000/\∀ x,x∈m.xs->x.n.length<=1000/\x.ls.length<=1000/\∀ l,l∈x.ls->l.1.length<=1000/\l.2.length<=1000
 ks:m.ks.length<=1000/\∀ x,x∈m.ks->x.n.length<=1000/\x.ts.length<=1000/\∀ l,l∈x.ts->l.1.length<=1000
theorem BB {α:Type} {S:List Sh} {f:α->PV} {g:α->Sh.V S} (hg:∀ a (K:Sh.V S->R),Eb S (f a) K=K (g a)) {l:List α} {k:Nat} (hk:k<l.length) (K:Sh.V S->R):bG S (l.map f) (k:Int) K=K (g l[k]):=by show dH (l.map f) (k:Int) _=_;rw[jo (e:=f l[k]) (by omega) (by rw[lm,gV,fJ hk]; rfl)];exact hg _ _
theorem VX {l:List nD} {k:Nat} (hk:k<l.length) (K:Sh.V S4->R):bG S4 (l.map LZ) (k:Int) K=K (kC l[k]):=BB (g:=kC) (fun _ _=>rfl) hk K
theorem Es {l:List Vr} {k:Nat} (hk:k<l.length) (K:Sh.V S7->R):bG S7 (l.map qH) (k:Int) K=K (FZ l[k]):=BB (g:=FZ) (fun _ _=>rfl) hk K
theorem I5 {l:List (Int×EX)} {k:Nat} (hk:k<l.length) (K:Sh.V pF->R):bG pF (l.map pUp) (k:Int) K=K (vUp l[k]):=BB (g:=vUp) (fun _ _=>rfl) hk K
theorem Pn {l:List Mv} {k:Nat} (hk:k<l.length) (K:Sh.V S9->R):bG S9 (l.map xC) (k:Int) K=K (jc l[k]):=BB (g:=jc) (fun _ _=>rfl) hk K
theorem L6 {l:List Tm} {k:Nat} (hk:k<l.length) (K:Sh.V S5->R):bG S5 (l.map IK) (k:Int) K=K (bU l[k]):=BB (g:=bU) (fun _ _=>rfl) hk K
theorem Eo {l:List Ins} {k:Nat} (hk:k<l.length) (K:Sh.V S8->R):bG S8 (l.map di) (k:Int) K=K (Qu l[k]):=BB (g:=Qu) (fun _ _=>rfl) hk K
theorem Kz {l:List (Nm×Nm)} {k:Nat} (hk:k<l.length) (K:Sh.V xQ->R):bG xQ (l.map su) (k:Int) K=K (Wp l[k]):=BB (g:=Wp) (fun _ _=>rfl) hk K
theorem I4 {l:List qX} {k:Nat} (hk:k<l.length) (K:Sh.V jk->R):bG jk (l.map FC) (k:Int) K=K (yH l[k]):=BB (g:=yH) (fun _ _=>rfl) hk K
theorem L9 {l:List (Nm×Int)} {k:Nat} (hk:k<l.length) (K:Sh.V yS->R):bG yS (l.map DC) (k:Int) K=K (vTr l[k]):=BB (g:=vTr) (fun _ _=>rfl) hk K
theorem Kw {l:List Cst} {k:Nat} (hk:k<l.length) (K:Sh.V ik->R):bG ik (l.map kL) (k:Int) K=K (kw l[k]):=BB (g:=kw) (fun _ _=>rfl) hk K
theorem zD {l:List Nm} {k:Nat} (hk:k<l.length) (K:PV->R):dH (aS l) (k:Int) K=K (.str (bs l[k])):=jo (by omega) (a0K hk)
theorem Ky {l:List Int} {k:Nat} (hk:k<l.length) (K:PV->R):dH (jF l) (k:Int) K=K (.int .i64 l[k]):=jo (by omega) (by rw[lm,gV,fJ hk]; rfl)
theorem WX (l:List Nm) (k:Nat):(aS l).take k=aS (l.take k):=by unfold aS uZ y5; rw[Bi,Bi,X5]
theorem jD (l:List Nm):(aS l).length=l.length:=b77 l
theorem bD9 (a b:List Nm):aS a ++ aS b=aS (a ++ b):=by unfold aS uZ y5; simp
abbrev bF (e:Int):R:=some (.int .i64 e,[])
def xJ (v:Nat->Int):Nat->Nat->Int
 | _,0=>0
 | k,m+1=>if v k=0 then xJ v (k+1) m else v k
def nH (v:Nat->Int) (n:Nat):Int:=xJ v 0 n
def sq (a b:Int):Int:=if a=0 then b else a
theorem aJB {v w:Nat->Int}:∀ (m k:Nat),(∀ i,k<=i->i<k+m->v i=w i)->xJ v k m=xJ w k m
 | 0,_,_=>rfl
 | m+1,k,h=>by rw[xJ,xJ,h k (bQ _) (by omega),aJB m (k+1) fun i a b=>h i (by omega) (by omega)]
theorem a6A {v w:Nat->Int} {n:Nat} (h:∀ i,i<n->v i=w i):nH v n=nH w n:=aJB n 0 fun i _ b=>h i (by omega)
theorem aJD {L:Nat->R} {E:R} {v:Nat->Int} {n:Nat} (hs:∀ k,k<n->L k=aA (v k != 0) (bF (v k)) (L (k+1))) (he:L n=E):∀ (m k:Nat),k+m=n->L k=aA (xJ v k m != 0) (bF (xJ v k m)) E
 | 0,k,h=>by
  have:k=n:=by omega
  subst this;rw[he]; rfl
 | m+1,k,h=>by
  rw[hs k (by omega),aJD hs he m (k+1) (by omega),xJ];by_cases hv:v k=0
  .rw[qZ hv,aC,aH hv]
  .rw[ru hv,aG,aI hv,ru hv,aG]
theorem zI {L:Nat->R} {E:R} {v:Nat->Int} {n:Nat} (hs:∀ k,k<n->L k=aA (v k != 0) (bF (v k)) (L (k+1))) (he:L n=E):L 0=aA (nH v n != 0) (bF (nH v n)) E:=aJD hs he n 0 (by omega)
theorem nM (e:Int):aA (e != 0) (bF e) (bF 0)=bF e:=by
 by_cases h:e=0
 .rw[qZ h,aC,h]
 .rw[ru h,aG]
theorem wu {L:Nat->R} {v:Nat->Int} {n:Nat} (hs:∀ k,k<n->L k=aA (v k != 0) (bF (v k)) (L (k+1))) (he:L n=bF 0):L 0=bF (nH v n):=(zI hs he).trans (nM _)
theorem a6G {L:Nat->R} {p:Nat->Bool} {n:Nat} {h:aF} (hs:∀ k,k<n->L k=aA (p k) (some (.int .i64 (k:Int),h)) (L (k+1))) (he:L n=some (.int .i64 (-1),h)):∀ (m k:Nat),k+m=n->∃ r,L k=some (.int .i64 r,h)/\decide (0<=r)=(List.range' k m).any p
 | 0,k,e=>by
  have:k=n:=by omega
  subst this;exact ⟨_,he,rfl⟩
 | m+1,k,e=>by
  rw[hs k (by omega),X7,zo];cases hp:p k with
  | true=>exact ⟨_,rfl,aN (by omega)⟩
  | false =>rw[aC,Bool.false_or];exact a6G hs he m (k+1) (by omega)
def uJ (p:Nat->Bool) (n:Nat):Bool:=(List.range' 0 n).any p
theorem loopA {L:Nat->R} {p:Nat->Bool} {n:Nat} {h:aF} (hs:∀ k,k<n->L k=aA (p k) (some (.int .i64 (k:Int),h)) (L (k+1))) (he:L n=some (.int .i64 (-1),h)):∃ r,L 0=some (.int .i64 r,h)/\decide (0<=r)=uJ p n:=a6G hs he n 0 (by omega)
theorem aJA {p:Nat->Bool} {c:Int}:∀ (m k:Nat),xJ (fun k=>bif p k then c else 0) k m=bif (List.range' k m).any p then c else 0
 | 0,_=>rfl
 | m+1,k=>by
  rw[xJ,X7,zo,aJA m (k+1)];cases p k with
  | true =>
   by_cases hc:c=0
   .subst hc; cases (List.range' (k+1) m).any p<;>rfl
   .exact aI hc
  | false=>exact aH rfl
theorem SA {p:Nat->Bool} {c:Int} {n:Nat}:nH (fun k=>bif p k then c else 0) n=bif uJ p n then c else 0:=aJA n 0
theorem Ia {b:Bool} {c w:Int} {X:R} (hc:c≠0):aA ((bif b then c else w) != 0) (bF (bif b then c else w)) X=aA b (bF c) (aA (w != 0) (bF w) X):=by
 cases b with
 | false=>rfl
 | true=>rw[cond_true,ru hc,aG,aG]
theorem st2 {b:Bool} {w:Int} {X:R}:aA ((bif b then 2 else w) != 0) (bF (bif b then 2 else w)) X=aA b (bF 2) (aA (w != 0) (bF w) X):=Ia (by decide)
theorem st5 {b:Bool} {w:Int} {X:R}:aA ((bif b then 5 else w) != 0) (bF (bif b then 5 else w)) X=aA b (bF 5) (aA (w != 0) (bF w) X):=Ia (by decide)
theorem st6 {b:Bool} {w:Int} {X:R}:aA ((bif b then 6 else w) != 0) (bF (bif b then 6 else w)) X=aA b (bF 6) (aA (w != 0) (bF w) X):=Ia (by decide)
theorem FU {b:Bool} {w:Int} {X:R}:aA ((bif b then 7 else w) != 0) (bF (bif b then 7 else w)) X=aA b (bF 7) (aA (w != 0) (bF w) X):=Ia (by decide)
theorem st8 {b:Bool} {w:Int} {X:R}:aA ((bif b then 8 else w) != 0) (bF (bif b then 8 else w)) X=aA b (bF 8) (aA (w != 0) (bF w) X):=Ia (by decide)
theorem aK5 {b:Bool} {w:Int} {X:R}:aA ((bif b then 12 else w) != 0) (bF (bif b then 12 else w)) X=aA b (bF 12) (aA (w != 0) (bF w) X):=Ia (by decide)
theorem bCW {b:Bool} {w:Int} {X:R}:aA ((bif b then 13 else w) != 0) (bF (bif b then 13 else w)) X=aA b (bF 13) (aA (w != 0) (bF w) X):=Ia (by decide)
theorem pX {a w:Int} {X:R}:aA (sq a w != 0) (bF (sq a w)) X=aA (a != 0) (bF a) (aA (w != 0) (bF w) X):=by
 unfold sq;by_cases h:a=0
 .rw[aH h,qZ h,aC]
 .rw[aI h,ru h,aG,aG]
theorem st0 {X:R}:aA ((0:Int) != 0) (bF 0) X=X:=rfl
theorem kS {b:Bool} {x y:Int}:aA b (bF x) (bF y)=bF (bif b then x else y):=by cases b<;>rfl
theorem MC (a:Int):sq a 0=a:=by unfold sq; split<;>simp_all
theorem wB (b:Bool) (c:Int):SS.CC 69 [.bool b,.int .i64 c] []=bF (bif b then c else 0):=by rw[a_T,kS]
def vM (l:List Nm) (s:Nm):Int:=bif !nameB s then 7 else bif decide (s∈l) then 8 else 0
theorem ZC (l:List Nm) (hn:l.length<=1000) (s:Nm):SS.CC 25 [.sl false 1 (aS l),.str (bs s)] []=some (.bool (decide (s∈l)),[]):=by rw[hasc (y5 l) (by rw[bW]; omega) (bs s)];rw[decide_eq_decide.2 (aDV l 0)]
theorem OX (l:List Nm) (hn:l.length<=1000) (s:Nm) (hs:s.length<=1000):SS.CC 47 [.sl false 1 (aS l),.str (bs s)] []=bF (vM l s):=by rw[aYX,bD (ww s hs),bD (ZC l hn s),kS,kS]; rfl
theorem aHE (n:Int):SS.CC 194 [.int .i64 n] []=some (.bool (decide (n < -65536)||decide (65536<n)),[]):=by rw[aVX];cases decide (n < -65536)<;>rfl
theorem aFX (v:Int):SS.CC 203 [.int .i64 v,.int .i64 65536] []=some (.bool (decide (65536<v)||decide (v < -65536)),[]):=by rw[aAY,wrap64 (by decide) (by decide)];cases decide ((65536:Int)<v)<;>rfl
def Jc (l:List Int) (n:Int):Int:=nH (fun k=>bif decide (l.getD k 0<0) then 2 else bif decide (n<=l.getD k 0) then 2 else bif decide ((0:Int)<(k:Int))&&decide (l.getD k 0<=l.getD (k-1) 0) then 5 else 0) l.length
theorem gD {α:Type} {l:List α} {k:Nat} (h:k<l.length) (d:α):l.getD k d=l[k]:=by simp[h]
theorem csc (l:List Int) (hn:l.length<=1000) (n:Int):SS.CC 159 [.sl false 1 (jF l),.int .i64 n] []=bF (Jc l n):=by
 rw[aSY];refine wu (L:=fun k=>Og (jF l) n (k:Int)) (fun k hk => ?_) ?_
 .rw[aA2,aN (by rw[bW]; omega),aG,Ky hk,bT (by omega),gD hk 0];simp only[st2,st5,st0];show aA _ _ (aA _ _ (aA _ _ _))=_;cases hz:decide ((0:Int)<(k:Int)) with
  | false=>rfl
  | true =>
   have h0:0<k:=by simpa using hz
   have e1:(k:Int)-1=((k-1:Nat):Int):=by omega
   have hk1:k-1<l.length:=by omega
   rw[aG,wrap64 (by omega) (by omega),e1,Ky hk1,gD hk1 0];rfl
 .rw[aA2,aT (by rw[bW]; omega),aC]
theorem SH {α:Type} (f:α->Bool) (l:List α) (d:α):uJ (fun k=>f (l.getD k d)) l.length=l.any f:=by
 unfold uJ;rw[N8,a4O,a4O];constructor
 .rintro ⟨k,hk,h⟩;rw[List.mem_range'_1] at hk;have hk':k<l.length:=by omega
  rw[gD hk'] at h;exact ⟨_,dD hk',h⟩
 .rintro ⟨x,hx,h⟩;obtain ⟨k,hk,e⟩:=List.getElem_of_mem hx;refine ⟨k,List.mem_range'_1.2 (by omega),?_⟩;rw[gD hk,e]; exact h
theorem Jb {A:R}:chk (true&&true) A=A:=rfl
def F8 (l:List Nm):Int:=nH (fun k=>vM (l.take k) (l.getD k [])) l.length
theorem nsc (l:List Nm) (h:xP l):SS.CC 177 [.sl false 1 (aS l)] []=bF (F8 l):=by
 rw[aUZ];refine wu (L:=fun k=>UQ (aS l) (k:Int)) (fun k hk => ?_) ?_
 .have h1:(l.take k).length<=1000:=by have:=h.1; rw[kz]; omega
  rw[aAQ,aN (by rw[jD]; omega),aG,zD hk,iO,bT (by omega),gD hk []];rw[bD (ww _ (h.2 _ (dD hk))),aN (show (0:Int)<=k by omega),aN (show (k:Int)<=(aS l).length by rw[jD]; omega),Jb,lm,WX,bD (ZC _ h1 _)];unfold vM;simp only[FU,st8,st0]
 .rw[aAQ,aT (by rw[jD]; omega),aC]
def big (x:Int):Bool:=decide (65536<x)||decide (x < -65536)
def vrE (pre:List Vr) (v:Vr):Int:=bif !nameB v.n then 7 else bif decide (v.n∈pre.map (·.n)) then 8 else bif big v.lo then 2 else bif big v.hi then 2 else bif decide (v.hi<v.lo) then 5 else bif decide (v.i<v.lo) then 2 else bif decide (v.hi<v.i) then 2 else 0
def dV:Vr:=⟨[],0,0,0⟩
def Gf (vs:List Vr):Int:=bif decide ((16:Int)<(vs.length:Int)) then 3 else nH (fun k=>vrE (vs.take k) (vs.getD k dV)) vs.length
theorem a6X (a b:Nm):((bs a).toList==(bs b).toList)=decide (a=b):=by rw[EH,EH]; by_cases h:a=b<;>simp[h]
theorem aPE (l:List Vr) (hn:l.length<=1000) (v:Vr):SS.CC 186 [.sl false 4 (l.map qH),.func (.func 237) [] [.ptr 0 0]] [O7 (FZ v)]=some (.bool (decide (v.n∈l.map (·.n))),[O7 (FZ v)]):=by
 have hl:∃ r,Ot (l.map qH) (FZ v) ((0:Nat):Int)=some (.int .i64 r,[O7 (FZ v)])/\decide (0<=r)=uJ (fun k=>decide ((l.getD k dV).n=v.n)) l.length:=by
  refine loopA (L:=fun k=>Ot (l.map qH) (FZ v) (k:Int)) (fun k hk => ?_) ?_
  .rw[aB2,aN (by rw[bW]; omega),aG,Es hk,a5G (aWF _ _),bT (by omega),gD hk dV,a6X]
  .rw[aB2,aT (by rw[bW]; omega),aC]
 obtain ⟨r,e1,e2⟩:=hl;rw[aVC,aLS ((aX0 _ _).trans e1),e2,SH (fun w:Vr=>decide (w.n=v.n)) l dV];have:(l.any fun w=>decide (w.n=v.n))=decide (v.n∈l.map (·.n)):=by rw[N8]; simp
 rw[this]
theorem cvc (vs:List Vr) (hn:vs.length<=1000) (hs:∀ v,v∈vs->v.n.length<=1000):SS.CC 160 [.sl false 4 (vs.map qH)] []=bF (Gf vs):=by
 rw[aT1];unfold Gf;rw[bW,<- kS];congr 1
 refine wu (L:=fun k=>UI (vs.map qH) (k:Int)) (fun k hk => ?_) ?_
 .have h1:(vs.take k).length<=1000:=by rw[kz]; omega
  rw[aA3,aN (by rw[bW]; omega),aG,Es hk,bT (by omega),gD hk dV];rw[bD (ww _ (hs _ (dD hk))),aN (show (0:Int)<=k by omega),aN (show (k:Int)<=(vs.map qH).length by rw[bW]; omega),Jb,lm,<- X5,a5G (aPE _ h1 _),bD (aFX _),bD (aFX _)];unfold vrE big;simp only[FU,st8,st2,st5,st0]
 .rw[aA3,aT (by rw[bW]; omega),aC]
def evE (pre:List nD) (e:nD):Int:=bif !nameB e.n then 7 else bif decide (e.n∈pre.map (·.n)) then 8 else bif decide (e.k<0) then 2 else bif decide (4<e.k) then 2 else bif (e.k != 0)&&e.c then 13 else bif (e.k != 0)&&e.o then 13 else 0
def dE:nD:=⟨[],false,false,false,0⟩
def Nj (es:List nD):Int:=bif decide ((32:Int)<(es.length:Int)) then 3 else nH (fun k=>evE (es.take k) (es.getD k dE)) es.length
def sW:List Nm->List PV
 | [] => []
 | a::l => .str (bs a) :: .bool true::sW l
theorem TT (a b:Nm):eqK none (.str (bs a)) (.str (bs b))=some (decide (a=b)):=by show some ((bs a).data.toList==(bs b).data.toList)=_;rw[show (bs a).data.toList=a from by simp[bs],show (bs b).data.toList=b from by simp[bs]];by_cases h:a=b<;>simp[h]
theorem aD2 (q:Nm):∀ l:List Nm,uY none (sW l) (.str (bs q))=some (if q∈l then some (.bool true) else none)
 | []=>rfl
 | a::l=>by
  rw[sW,uY,TT,aD2 q l];by_cases h:q=a
  .simp[h]
  .simp[h]
theorem aHA (q:Nm):∀ l:List Nm,nP none (sW l) (.str (bs q))=true
 | []=>rfl
 | a::l=>by rw[sW,nP,TT,aHA q l]; rfl
theorem aGQ (q:Nm):∀ l:List Nm,kX none (sW l) (.str (bs q)) (.bool true)=sW l
 | []=>rfl
 | a::l=>by
  rw[sW,kX,TT,aGQ q l];by_cases h:q=a
  .rw[aN h,h]
  .rw[aT h]
theorem aE0 (q:Nm):∀ l:List Nm,∃ l',lX (sW l) (.str (bs q)) (.bool true)=sW l'/\∀ x,x∈l'↔x=q\/x∈l
 | []=>⟨[q],rfl,by simp⟩
 | a::l=>by
  obtain ⟨l',h1,h2⟩:=aE0 q l;rw[sW,lX,h1];split
  .exact ⟨q::a::l,rfl,by simp⟩
  .exact ⟨a::l',rfl,fun x=>by
    rw[fQ,fQ,h2];constructor
    .rintro (h | h | h)
     .exact .inr (.inl h)
     .exact .inl h
     .exact .inr (.inr h)
    .rintro (h | h | h)
     .exact .inr (.inl h)
     .exact .inl h
     .exact .inr (.inr h)⟩
def LH (l:List nD):List PV:=l.foldl (fun L e=>iL none L (.str (bs e.n)) (.bool true)) []
theorem aDI (q:Nm):∀ l:List Nm,ng none (sW l) (.str (bs q))=decide (q∈l)
 | []=>rfl
 | a::l=>by
  rw[sW,ng,TT,aDI q l];by_cases h:q=a
  .simp[h]
  .simp[h]
theorem bAD (q:Nm) (l:List Nm):∃ l',iL none (sW l) (.str (bs q)) (.bool true)=sW l'/\∀ x,x∈l'↔x=q\/x∈l:=by
 unfold iL;rw[aDI];by_cases h:q∈l
 .rw[aN h];exact ⟨l,aGQ q l,fun x=>⟨.inr,fun c=>c.elim (fun e=>e▸h) id⟩⟩
 .rw[aT h];exact aE0 q l
theorem aGF (l:List nD):∀ k,k<=l.length->∃ l',LH (l.take k)=sW l'/\∀ x,x∈l'↔x∈(l.take k).map (·.n)
 | 0,_=>⟨[],rfl,by simp⟩
 | k+1,hk=>by
  obtain ⟨l',h1,h2⟩:=aGF l k (by omega);have hk':k<l.length:=by omega
  obtain ⟨l2,h3,h4⟩:=bAD (l[k]).n l';refine ⟨l2,?_,fun x => ?_⟩
  .rw[J7 hk'];unfold LH at h1 ⊢;rw[X0,h1];exact h3
  .rw[h4,h2,J7 hk'];simp only[tY,rP,o8,NF,Bj];exact or_comm
theorem b6G (l:List nD) {k:Nat} (hk:k<l.length):LH (l.take (k+1))=iL none (LH (l.take k)) (.str (bs l[k].n)) (.bool true):=by rw[J7 hk];unfold LH;rw[X0]; rfl
theorem acc (es:List nD) (hn:es.length<=1000) (hs:∀ e,e∈es->e.n.length<=1000):SS.CC 46 [.sl false 5 (es.map LZ)] []=bF (Nj es):=by
 rw[aYW];unfold Nj;rw[bW,<- kS];congr 1
 refine wu (L:=fun k=>Gv (es.map LZ) (k:Int) (LH (es.take k))) (fun k hk => ?_) ?_
 .obtain ⟨l',h1,h2⟩:=aGF es k (by omega);rw[aBS,aN (by rw[bW]; omega),aG,VX hk,bT (by omega),gD hk dE];rw[bD (ww _ (hs _ (dD hk)))];rw[b6G es hk,h1];dsimp only;rw[aHA];unfold LJ;rw[aD2];have hm:decide ((es[k]).n∈(es.take k).map (·.n))=decide ((es[k]).n∈l'):=decide_eq_decide.2 (h2 _).symm;unfold evE;rw[hm];simp only[FU,st8,st2,bCW,st0];congr 1
  by_cases h:(es[k]).n∈l'
  .rw[aH h,aN h,aG]; rfl
  .rw[aI h,aT h,aC];dsimp only;congr 1
   congr 1
   cases hk0:(es[k]).k != 0 with
   | false=>rfl
   | true =>rw[aG,Bg,Bg];rfl
 .rw[aBS,aT (by rw[bW]; omega),aC]
def vJ (x:EX) (n:Int):Int×Int:=match SS.CC 27 [A1 (ev x),.int .i64 n] [] with
 | some (.tuple [.int _ k,.int _ e],_)=>(k,e)
 | _=>(0,0)
theorem Y2 {x:EX} (hx:x.Len) {n:Int} (h0:0<=n):SS.CC 27 [A1 (ev x),.int .i64 n] []=some (.tuple [.int .i64 (vJ x n).1,.int .i64 (vJ x n).2],[]):=by
 have:∃ k e,SS.CC 27 [A1 (ev x),.int .i64 n] []=some (.tuple [.int .i64 k,.int .i64 e],[]):=by
  by_cases h1:n<=16
  .obtain ⟨k,e,h,_⟩:=a7L hx h0 h1;exact ⟨k,e,h⟩
  .rw[aBD,aT (by omega),aC,aN (by omega),aG];exact ⟨_,_,rfl⟩
 obtain ⟨k,e,h⟩:=this;have e2:vJ x n=(k,e):=by unfold vJ; rw[h]
 rw[h,e2]
def Bd (x:EX) (n want:Int):Int:=bif (vJ x n).2==0 then (bif (vJ x n).1 != want then 16 else 0) else (vJ x n).2
theorem aKW {x:EX} (hx:x.Len) {n:Int} (h0:0<=n) (w:Int):SS.CC 161 [A1 (ev x),.int .i64 n,.int .i64 w] []=bF (Bd x n w):=by
 rw[aT2,a5B (Y2 hx h0)];dsimp only;unfold Bd;cases he:(vJ x n).2==0 with
 | true =>
  have e0:(vJ x n).2=0:=by simpa using he
  rw[aG,cond_true,e0,kS]
 | false=>rw[aC,uu]
theorem aKX {x:EX} (hx:x.Len) {n:Int} (h0:0<=n) (w:Int):SS.CC 248 [A1 (ev x),.int .i64 n,.int .i64 w] []=bF (Bd x n w):=by
 rw[aX1,a5B (Y2 hx h0)];dsimp only;rw[bV (wB _ _)];unfold Bd;by_cases he:(vJ x n).2=0
 .rw[he,qZ rfl,aC]; rfl
 .rw[ru he,aG,show ((vJ x n).2==0)=false by simpa using he,uu]
def dU:Int×EX:=(0,zE)
def Qs (nv:Int) (us:List (Int×EX)) (k:Nat):Int:=bif decide ((us.getD k dU).1<0) then 2 else bif decide (nv<=(us.getD k dU).1) then 2 else bif decide ((0:Int)<(k:Int))&&decide ((us.getD k dU).1<=(us.getD (k-1) dU).1) then 5 else Bd (us.getD k dU).2 nv 1
def Wl (nv:Int) (us:List (Int×EX)):Int:=nH (Qs nv us) us.length
def Pz (nl ne nv:Int) (x:Mv):Int:=bif decide (x.f<0) then 2 else bif decide (nl<=x.f) then 2 else bif decide (x.e<0) then 2 else bif decide (ne<=x.e) then 2 else bif decide (x.t<0) then 2 else bif decide (nl<=x.t) then 2 else sq (Bd x.g nv 2) (Wl nv x.us)
theorem aKY {nv:Int} {us:List (Int×EX)} (hn:us.length<=1000) {k:Nat} (hk:k<us.length) {J X:R} (hJ:J=aA (Bd (us[k]).2 nv 1 != 0) (bF (Bd (us[k]).2 nv 1)) X) :
 aA (decide ((us[k]).1<0)) (bF 2) (aA (decide (nv<=(us[k]).1)) (bF 2) (aA (decide ((0:Int)<(k:Int))) (bG pF (us.map pUp) (i64.wrap ((k:Int)-1)) fun u8=>aA (decide ((us[k]).1<=u8.1)) (bF 5) J) J))=aA (Qs nv us k != 0) (bF (Qs nv us k)) X:=by
 unfold Qs;simp only[gD hk dU,st2,st5];rw[<- hJ];cases hz:decide ((0:Int)<(k:Int)) with
 | false=>rfl
 | true =>
  have h0:0<k:=by simpa using hz
  have e1:(k:Int)-1=((k-1:Nat):Int):=by omega
  have hk1:k-1<us.length:=by omega
  rw[aG,wrap64 (by omega) (by omega),e1,I5 hk1,gD hk1 dU];rfl
abbrev fP (t:Tm):Sh.V S6:=(jF t.al,t.L,t.I,jF t.mr,t.vs.map qH,t.ms.map xC,())
theorem ak {α β:Type} (f:α->β) (l:List α):((l.map f).length:Int)=(l.length:Int):=by rw[bW]
theorem b5J (t:Tm) (x:Mv) (hl:x.us.length<=1000) (hu:∀ u,u∈x.us->u.2.Len) (k:Int):Oy (bs t.n) (aS t.ls) (aS t.es) (fP t) (jc x) 0 k=aA (Wl (t.vs.length:Int) x.us != 0) (bF (Wl (t.vs.length:Int) x.us)) (Jz (bs t.n) (aS t.ls) (aS t.es) (fP t) (i64.wrap (k+1))):=by
 refine zI (L:=fun i=>Oy (bs t.n) (aS t.ls) (aS t.es) (fP t) (jc x) (i:Int) k) (fun i hi => ?_) ?_
 .rw[aBZ,aN (show (i:Int)<((jc x).2.2.2.2.2.2.2.1.length:Int) by rw[ak]; omega),aG,I5 hi,ak];refine aKY hl hi ?_;rw[aYY,ak,bT (by omega)];exact bV (aKW (hu _ (dD hi)) (by omega) 1)
 .rw[aBZ,aT (show ¬ (x.us.length:Int)<((jc x).2.2.2.2.2.2.2.1.length:Int) by rw[ak]; omega),aC]
def dM:Mv:=⟨0,0,0,zE,[]⟩
def Cm (nl ne nv:Int) (ms:List Mv):Int:=nH (fun k=>Pz nl ne nv (ms.getD k dM)) ms.length
theorem b5E (t:Tm) (h:pq t):Jz (bs t.n) (aS t.ls) (aS t.es) (fP t) 0=bF (Cm (t.ls.length:Int) (t.es.length:Int) (t.vs.length:Int) t.ms):=by
 refine wu (L:=fun i=>Jz (bs t.n) (aS t.ls) (aS t.es) (fP t) (i:Int)) (fun i hi => ?_) ?_
 .obtain ⟨h1,h2,h3⟩:=h.ms.2 _ (dD hi);rw[aBY,aN (show (i:Int)<((fP t).2.2.2.2.2.1.length:Int) by rw[ak]; omega),aG,Pn hi,ak,jD,jD];rw[bV (aKW h1 (by omega) 2),b5J t _ h2 h3,bT (by have:=h.ms.1; omega),gD hi dM];unfold Pz;simp only[st2,pX]
 .rw[aBY,aT (show ¬ (t.ms.length:Int)<((fP t).2.2.2.2.2.1.length:Int) by rw[ak]; omega),aC]
def rvE (v:Vr):Int:=bif v.n==Bc then 7 else bif v.n==EO then 7 else 0
def rsE (vs:List Vr):Int:=nH (fun k=>rvE (vs.getD k dV)) vs.length
def JS (al:List Int):Int:=nH (fun k=>bif al.getD k 0 !=(k:Int) then 6 else 0) al.length
def Q3 (n:Int):Int:=if (1:Int)>n then 1 else n
def Df (t:Tm):Int:=sq (F8 t.es) (sq (F8 t.ls) (bif (t.al.length:Int) !=(t.es.length:Int) then 6 else sq (JS t.al) (bif t.L !=(t.ls.length:Int) then 4 else bif decide (t.I<0) then 2 else bif decide (Q3 (t.ls.length:Int)<=t.I) then 2 else sq (Jc t.mr (t.ls.length:Int)) (sq (Gf t.vs) (sq (rsE t.vs) (Cm (t.ls.length:Int) (t.es.length:Int) (t.vs.length:Int) t.ms))))))
theorem b5G (t:Tm) (h:pq t):Ox (bs t.n) (aS t.ls) (aS t.es) (fP t) 0=aA (rsE t.vs != 0) (bF (rsE t.vs)) (bF (Cm (t.ls.length:Int) (t.es.length:Int) (t.vs.length:Int) t.ms)):=by
 refine zI (L:=fun i=>Ox (bs t.n) (aS t.ls) (aS t.es) (fP t) (i:Int)) (fun i hi => ?_) ?_
 .rw[aBX,aN (show (i:Int)<((fP t).2.2.2.2.1.length:Int) by rw[ak]; omega),aG,Es hi,bT (by have:=h.vs.1; omega),gD hi dV];dsimp only;rw[EH,tlT,tlF];unfold rvE;simp only[FU,st0]
 .rw[aBX,aT (show ¬ (t.vs.length:Int)<((fP t).2.2.2.2.1.length:Int) by rw[ak]; omega),aC,b5E t h]
theorem b59 (t:Tm) (h:pq t):Gw (bs t.n) (aS t.ls) (aS t.es) (fP t) 0=bF (sq (JS t.al) (bif t.L !=(t.ls.length:Int) then 4 else bif decide (t.I<0) then 2 else bif decide (Q3 (t.ls.length:Int)<=t.I) then 2 else sq (Jc t.mr (t.ls.length:Int)) (sq (Gf t.vs) (sq (rsE t.vs) (Cm (t.ls.length:Int) (t.es.length:Int) (t.vs.length:Int) t.ms))))):=by
 have e:Gw (bs t.n) (aS t.ls) (aS t.es) (fP t) 0=aA (JS t.al != 0) (bF (JS t.al)) (bF (bif t.L !=(t.ls.length:Int) then 4 else bif decide (t.I<0) then 2 else bif decide (Q3 (t.ls.length:Int)<=t.I) then 2 else sq (Jc t.mr (t.ls.length:Int)) (sq (Gf t.vs) (sq (rsE t.vs) (Cm (t.ls.length:Int) (t.es.length:Int) (t.vs.length:Int) t.ms))))):=by
  refine zI (L:=fun i=>Gw (bs t.n) (aS t.ls) (aS t.es) (fP t) (i:Int)) (fun i hi => ?_) ?_
  .rw[aBW,aN (show (i:Int)<((fP t).1.length:Int) by rw[ak]; omega),aG,Ky hi,yI,bT (by have:=h.al; omega),gD hi 0];simp only[st6,st0]
  .rw[aBW,aT (show ¬ (t.al.length:Int)<((fP t).1.length:Int) by rw[ak]; omega),aC,jD];rw[bV (csc t.mr h.mr _),bV (cvc t.vs h.vs.1 fun v hv=>(h.vs.2 v hv).1),b5G t h];rw[<- kS,<- kS,<- kS];rw[<- nM (sq (Jc _ _) _),<- nM (Cm _ _ _ _)];rw[pX,pX,pX,nM];rfl
 rw[e,<- nM (sq _ _),pX,nM]
theorem aFS (t:Tm) (l:List Nm) (hl:xP l) (k:Int):Oz (bU t) (aS l) 0 k=aA (F8 l != 0) (bF (F8 l)) (Ug (bU t) (i64.wrap (k+1))):=by
 refine zI (L:=fun i=>Oz (bU t) (aS l) (i:Int) k) (fun i hi => ?_) ?_
 .have h1:(l.take i).length<=1000:=by have:=hl.1; rw[kz]; omega
  rw[aB',aN (by rw[jD]; omega),aG,zD hi,iO,aN (show (0:Int)<=i by omega),aN (show (i:Int)<=(aS l).length by rw[jD]; omega),Jb,lm,WX,bV (OX _ h1 _ (hl.2 _ (dD hi))),bT (by have:=hl.1; omega),gD hi []]
 .rw[aB',aT (by rw[jD]; omega),aC]
theorem tmc (t:Tm) (h:pq t):SS.CC 48 [A5 (bU t)] []=bF (Df t):=by rw[aZE,Yl,aN (by decide),aG,jo (e := .sl false 1 (aS t.es)) (by decide) rfl,Wn,aFS t _ h.es];rw[show i64.wrap ((0:Int)+1)=1 from wrap64 (by decide) (by decide),Yl,aN (by decide),aG,jo (e := .sl false 1 (aS t.ls)) (by decide) rfl,Wn,aFS t _ h.ls];rw[show i64.wrap ((1:Int)+1)=2 from wrap64 (by decide) (by decide),Yl,aT (by decide),aC];have e:=b59 t h;rw[show Gw (bU t).1 (bU t).2.1 (bU t).2.2.1 ((bU t).2.2.2.1,(bU t).2.2.2.2.1,(bU t).2.2.2.2.2.1,(bU t).2.2.2.2.2.2.1,(bU t).2.2.2.2.2.2.2.1,(bU t).2.2.2.2.2.2.2.2.1,()) 0=_ from e];rw[show ((bU t).2.2.2.1.length:Int)=(t.al.length:Int) from ak _ _,show ((bU t).2.2.1.length:Int)=(t.es.length:Int) by rw[jD],kS];rw[<- nM (Df t)];unfold Df;rw[pX,pX,nM]
theorem BG {α:Type} (f:α->Nm) (l:List α) {k:Nat} (hk:k<l.length):aS ((l.take k).map f) ++ ([.str (bs (f l[k]))]:List PV)=aS ((l.take (k+1)).map f):=by rw[J7 hk,tY,<- bD9]; rfl
theorem zF {l:List PV} (h:l.length<=1000):decide (l.length+1<=aV)=true:=aN (by show l.length+1<=1073741824; omega)
theorem LD {a b:Nat} (h:a<=1000) (h2:b<=1000):decide (a+b<=aV)=true:=aN (by show a+b<=1073741824; omega)
theorem BH {α:Type} (f:α->Nm) (l:List α) (k:Nat) (h:l.length<=1000):(aS ((l.take k).map f)).length<=1000:=by rw[jD,bW,kz]; omega
theorem Vk {α:Type} (f:α->Nm) (l:List α) (k:Nat) (h:l.length<=1000):((l.take k).map f).length<=1000:=by rw[bW,kz]; omega
def Q9 (l:List Nm):Int:=nH (fun k=>bif !nameB (l.getD k []) then 7 else 0) l.length
def ZN (pre:List Ins) (x:Ins):Int:=sq (vM (pre.map (·.n)) x.n) (Q9 (x.t::x.es))
def dI:Ins:=⟨[],[],[]⟩
def Ed (l:List Ins):Int:=nH (fun k=>ZN (l.take k) (l.getD k dI)) l.length
theorem b5F (P:List PV) (n:Int) (P3:List PV) (l:List Nm) (hl:∀ s,s∈l->s.length<=1000) (hn:l.length<=2000) (i:Int):P5 P n P3 (aS l) ((aS l).length:Int) 0 i=aA (Q9 l != 0) (bF (Q9 l)) (KC P n P3 (i64.wrap (i+1))):=by
 refine zI (L:=fun k=>P5 P n P3 (aS l) ((aS l).length:Int) (k:Int) i) (fun k hk => ?_) ?_
 .rw[aC1,aN (by rw[jD]; omega),aG,zD hk,iO,bD (ww _ (hl _ (dD hk))),bT (by omega),gD hk []];simp only[FU,st0]
 .rw[aC1,aT (by rw[jD]; omega),aC]
theorem b5B (l:List Ins) (hn:l.length<=2000) (h:∀ x,x∈l->x.n.length<=1000/\x.t.length<=1000/\xP x.es) (h3:l.length<=1000):KC (l.map di) ((l.map di).length:Int) [] 0=bF (Ed l):=by
 refine wu (L:=fun k=>KC (l.map di) ((l.map di).length:Int) (aS ((l.take k).map (·.n))) (k:Int)) (fun k hk => ?_) ?_
 .obtain ⟨h1,h2,h4⟩:=h _ (dD hk);rw[aC2,aN (by rw[ak]; omega),aG,Eo hk,bV (OX _ (Vk _ l k h3) _ h1),ah (zF (BH _ l k h3))];dsimp only;rw[ah (LD (by decide) (by rw[jD]; exact h4.1)),BG (·.n) l hk];rw[show ([.str (bs (l[k]).t)]:List PV) ++ aS (l[k]).es=aS ((l[k]).t::(l[k]).es) from rfl];rw[b5F _ _ _ _ (fun s hs=>by
   rcases fQ.1 hs with e | e
   .rw[e]; exact h2
   .exact h4.2 s e) (by have:=h4.1; rw[aU]; omega),bT (by omega),gD hk dI]
  unfold ZN;rw[pX]
 .rw[aC2,aT (by rw[ak]; omega),aC]
theorem Y3 (l:List Ins) (hn:l.length<=1000):SS.CC 45 [.sl false 3 (l.map di)] []=some (.sl true 3 (l.map di),[]):=by
 rw[aBR];refine a0I ?_ fun h => ?_
 .rw[show (false==true)=false from rfl,aC,ah (by rw[bW]; exact LD (by decide) hn)]
 .rw[show (true==true)=true from rfl,aG,h]
theorem b3A (m:Mo) (h:ji m) (h2:m.cs.length+m.rs.length<=1000):SS.CC 49 [A0 (aO m)] []=bF (Ed (m.cs ++ m.rs)):=by
 have hl:(m.cs ++ m.rs).length<=1000:=by rw[aK]; exact h2
 rw[aZL,Rj (Y3 m.cs h.is.1),ah (by rw[bW]; exact LD h.is.1 (by rw[bW]; exact h.is.2.1))];rw[<- tY];exact b5B _ (by omega) h.is.2.2 hl
def lcE (l:Nm×Nm):Int:=bif !nameB l.1 then 7 else bif !nameB l.2 then 7 else 0
def dL:Nm×Nm:=([],[])
def Ku (ls:List (Nm×Nm)):Int:=nH (fun k=>lcE (ls.getD k dL)) ls.length
def YG (pre:List qX) (x:qX):Int:=sq (vM (pre.map (·.n)) x.n) (bif (x.ls.length:Int)==0 then 12 else Ku x.ls)
def dX:qX:=⟨[],[]⟩
def Ir (l:List qX):Int:=nH (fun k=>YG (l.take k) (l.getD k dX)) l.length
def trE (t:Nm×Int):Int:=bif !nameB t.1 then 7 else bif decide (t.2 < -65536) then 2 else bif decide (65536<t.2) then 2 else 0
def dR:Nm×Int:=([],0)
def MM (ls:List (Nm×Int)):Int:=nH (fun k=>trE (ls.getD k dR)) ls.length
def AU (b:Int):Int:=bif decide (b < -65536) then 2 else bif decide (65536<b) then 2 else 0
def Y7 (pre:List Cst) (x:Cst):Int:=sq (vM (pre.map (·.n)) x.n) (bif (x.ts.length:Int)==0 then 12 else sq (MM x.ts) (AU x.b))
def dK:Cst:=⟨[],[],0⟩
def Eg (l:List Cst):Int:=nH (fun k=>Y7 (l.take k) (l.getD k dK)) l.length
theorem b5D (m:Mo) (P3:List PV) (ls:List (Nm×Nm)) (hn:ls.length<=1000) (hl:∀ l,l∈ls->l.1.length<=1000/\l.2.length<=1000) (i:Int):P6 (aO m) (ls.map su) P3 0 i=aA (Ku ls != 0) (bF (Ku ls)) (KF (aO m) P3 (i64.wrap (i+1))):=by
 refine zI (L:=fun k=>P6 (aO m) (ls.map su) P3 (k:Int) i) (fun k hk => ?_) ?_
 .obtain ⟨h1,h2⟩:=hl _ (dD hk);rw[aC6,aN (by rw[ak]; omega),aG,Kz hk,bD (ww _ h1)];dsimp only;rw[bD (ww _ h2),bT (by omega),gD hk dL];unfold lcE;simp only[FU,st0]
 .rw[aC6,aT (by rw[ak]; omega),aC]
theorem b5H (P:List PV) (x:Cst) (P3:List PV) (hn:x.ts.length<=1000) (hl:∀ l,l∈x.ts->l.1.length<=1000) (i:Int):P7 P (kw x) 0 P3 i=aA (sq (MM x.ts) (AU x.b) != 0) (bF (sq (MM x.ts) (AU x.b))) (KE P P3 (i64.wrap (i+1))):=by
 rw[pX];refine zI (L:=fun k=>P7 P (kw x) (k:Int) P3 i) (fun k hk => ?_) ?_
 .rw[aC8,aN (show (k:Int)<((kw x).2.1.length:Int) by rw[ak]; omega),aG,L9 hk,bD (ww _ (hl _ (dD hk))),bT (by omega),gD hk dR];unfold trE;simp only[FU,st2,st0]
 .rw[aC8,aT (show ¬ (x.ts.length:Int)<((kw x).2.1.length:Int) by rw[ak]; omega),aC];unfold AU;simp only[st2,st0]
theorem b5C (l:List Cst) (hn:l.length<=1000) (h:∀ x,x∈l->x.n.length<=1000/\x.ts.length<=1000/\∀ t,t∈x.ts->t.1.length<=1000):KE (l.map kL) [] 0=bF (Eg l):=by
 refine wu (L:=fun k=>KE (l.map kL) (aS ((l.take k).map (·.n))) (k:Int)) (fun k hk => ?_) ?_
 .obtain ⟨h1,h2,h4⟩:=h _ (dD hk);rw[aC7,aN (by rw[ak]; omega),aG,Kw hk,bV (OX _ (Vk _ l k hn) _ h1),ah (zF (BH _ l k hn))];dsimp only;rw[BG (·.n) l hk,b5H _ _ _ h2 h4,bT (by omega),gD hk dK];unfold Y7;rw[ak];simp only[pX,aK5]
 .rw[aC7,aT (by rw[ak]; omega),aC]
theorem b5K (m:Mo) (h:ji m):KF (aO m) [] 0=bF (sq (Ir m.xs) (Eg m.ks)):=by
 rw[<- nM (sq _ _),pX,nM];refine zI (L:=fun k=>KF (aO m) (aS ((m.xs.take k).map (·.n))) (k:Int)) (fun k hk => ?_) ?_
 .obtain ⟨h1,h2,h4⟩:=h.xs.2 _ (dD hk);rw[aC9,aN (show (k:Int)<((aO m).2.2.2.2.2.1.length:Int) by rw[ak]; omega),aG,I4 hk,bV (OX _ (Vk _ _ k h.xs.1) _ h1),ah (zF (BH _ _ k h.xs.1))];dsimp only;rw[BG (·.n) m.xs hk];have e:=b5D m (aS ((m.xs.take (k+1)).map (·.n))) (m.xs[k]).ls h2 h4 (k:Int);rw[e,bT (by have:=h.xs.1; omega),gD hk dX];unfold YG;rw[ak];simp only[pX,aK5]
 .rw[aC9,aT (show ¬ (m.xs.length:Int)<((aO m).2.2.2.2.2.1.length:Int) by rw[ak]; omega),aC];exact b5C _ h.ks.1 h.ks.2
theorem cdc (m:Mo) (h:ji m):SS.CC 50 [A0 (aO m)] []=bF (sq (Ir m.xs) (Eg m.ks)):=(aZX _).trans (b5K m h)
def tpE (pre:List Tm) (t:Tm):Int:=sq (vM (pre.map (·.n)) t.n) (Df t)
def dT:Tm:=⟨[],[],[],[],0,0,[],[],[]⟩
def MN (l:List Tm):Int:=nH (fun k=>tpE (l.take k) (l.getD k dT)) l.length
def sF (m:Mo):Int:=bif !nameB m.n then 7 else sq (Nj m.es) (bif decide ((16:Int)<(m.ts.length:Int)) then 3 else bif decide ((32:Int)<(m.cs.length:Int)) then 3 else bif decide ((32:Int)<(m.rs.length:Int)) then 3 else bif decide ((32:Int)<(m.xs.length:Int)) then 3 else bif decide ((32:Int)<(m.ks.length:Int)) then 3 else sq (MN m.ts) (sq (Ed (m.cs ++ m.rs)) (sq (Ir m.xs) (Eg m.ks))))
theorem b5I (m:Mo) (h:ji m) (h2:m.cs.length+m.rs.length<=1000):Ob (aO m) [] 0=bF (sq (MN m.ts) (sq (Ed (m.cs ++ m.rs)) (sq (Ir m.xs) (Eg m.ks)))):=by
 rw[<- nM (sq (MN _) _),pX,nM];refine zI (L:=fun k=>Ob (aO m) (aS ((m.ts.take k).map (·.n))) (k:Int)) (fun k hk => ?_) ?_
 .obtain ⟨h1,h4⟩:=h.ts.2 _ (dD hk);rw[a9',aN (show (k:Int)<((aO m).2.2.1.length:Int) by rw[ak]; omega),aG,L6 hk,bV (OX _ (Vk _ _ k h.ts.1) _ h1),ah (zF (BH _ _ k h.ts.1)),bV (tmc _ h4),bT (by have:=h.ts.1; omega)];dsimp only;rw[BG (·.n) m.ts hk,gD hk dT];unfold tpE;rw[pX]
 .rw[a9',aT (show ¬ (m.ts.length:Int)<((aO m).2.2.1.length:Int) by rw[ak]; omega),aC,bV (b3A m h h2),bV (cdc m h)];rw[<- nM (sq (Ed _) _),pX,nM]
theorem b5A (m:Mo) (h:ji m) (h2:m.cs.length+m.rs.length<=1000):SS.CC 14 [A0 (aO m)] []=bF (sF m):=by rw[aSM,bD (ww _ h.n),bV (acc _ h.es.1 h.es.2),b5I m h h2];dsimp only;rw[ak,ak,ak,ak,ak,kS,kS,kS,kS,kS];unfold sF;rw[<- kS (b := !nameB m.n)];refine congrArg (aA _ _) ?_;rw[<- nM (sq (Nj _) _),pX,nM]
def YT (f:FuncId×List PV×Int):PV := .func (.func f.1) [] f.2.1
def Lu:List Int->Int
 | []=>0
 | a::l=>sq a (Lu l)
theorem a8W (all:List (FuncId×List PV×Int)) (hn:all.length<=1000) (h:∀ f,f∈all->SS.CC f.1 f.2.1 []=bF f.2.2/\PV.flats f.2.1=true):∀ (l:List (FuncId×List PV×Int)) (k:Nat),all.drop k=l->Us (all.map YT) (k:Int)=bF (Lu (l.map (·.2.2)))
 | [],k,e=>by have:all.length<=k:=J3.1 e;rw[aCW,aT (by rw[ak]; omega),aC]; rfl
 | f::l,k,e=>by obtain ⟨k1,k2,k3⟩:=drop_cons e;obtain ⟨h1,h2⟩:=h f (by rw[<- k2]; exact dD k1);rw[aCW,aN (by rw[ak]; omega),aG,jo (e:=YT f) (by omega) (by rw[lm,gV,fJ k1,k2]; rfl),bT (by omega),a8W all hn h l (k+1) k3];show chk (true&&true) (chk (PV.flats f.2.1) (iI SS.CC f.1 f.2.1 _))=_;rw[Jb,ah h2,vK h1 (v:=bF (Lu ((f::l).map (·.2.2)))) ?_];rw[yI];show _=bF (sq f.2.2 (Lu (l.map (·.2.2))));rw[<- nM (sq _ _),pX,nM]
theorem Jn (all:List (FuncId×List PV×Int)) (hn:all.length<=1000) (h:∀ f,f∈all->SS.CC f.1 f.2.1 []=bF f.2.2/\PV.flats f.2.1=true):SS.CC 67 [.sl false 1 (all.map YT)] []=bF (Lu (all.map (·.2.2))):=(a_R _).trans (a8W all hn h all 0 rfl)
theorem sU {L:Nat->R} {E:R} {n:Nat} (hs:∀ k,k<n->L k=L (k+1)) (he:L n=E):L 0=E:=by
 have:∀ (m k:Nat),k+m=n->L k=E:=by
  intro m;induction m with
  | zero=>intro k h; rw[<- he]; congr 1
  | succ m ih=>intro k h; rw[hs k (by omega)]; exact ih (k+1) (by omega)
 exact this n 0 (by omega)
def SG (l:List Nm):Bool:=uJ (fun k => !nameB (l.getD k [])) l.length
theorem a6D (l:List Nm) (hn:l.length<=2000) (hl:∀ s,s∈l->s.length<=1000):SS.CC 84 [.sl false 1 (aS l)] []=some (.bool (!SG l),[]):=by
 have e:∃ r,Oe (aS l) ((0:Nat):Int)=some (.int .i64 r,[])/\decide (0<=r)=SG l:=by
  refine loopA (L:=fun k=>Oe (aS l) (k:Int)) (fun k hk => ?_) ?_
  .rw[aA1,aN (by rw[jD]; omega),aG,zD hk,iO,bD ((aVS _).trans (bD (ww _ (hl _ (dD hk))))),bT (by omega),gD hk []]
  .rw[aA1,aT (by rw[jD]; omega),aC]
 obtain ⟨r,e1,e2⟩:=e;rw[b0G,bD ((aYR _).trans (bV ((aSU _).trans e1))),e2]
theorem b78 (l:List Nm):Q9 l=bif SG l then 7 else 0:=SA
theorem b58 (l:List Nm) (hl:xP l) {k:Nat} (hk:k<l.length):SS.CC 76 [.sl false 1 (aS (l.take (k+1)))] []=bF (vM (l.take k) l[k]):=by
 have hn:=hl.1;have hL:(l.take (k+1)).length=k+1:=by rw[kz]; omega
 have e0:i64.wrap (((aS (l.take (k+1))).length:Int)-1)=(k:Int):=by rw[jD,hL,wrap64 (by omega) (by omega)]; omega
 have hk':k<(l.take (k+1)).length:=by omega
 have e1:(l.take (k+1))[k]=l[k]:=by rw[List.getElem_take]
 rw[b05,e0,zD hk',e1,iO,bD (ww _ (hl.2 _ (dD hk))),aN (show (0:Int)<=k by omega),aN (show (k:Int)<=(aS (l.take (k+1))).length by rw[jD]; omega),Jb,lm,WX,List.take_take,RZ (by omega)];rw[bD (ZC _ (by rw[kz]; omega) _),bV (wB _ _),kS];rfl
def yC (n:Nat):List Int:=(List.range n).map fun i:Nat=>(i:Int)
theorem b7A (n:Nat) (hn:n<=1000):SS.CC 180 [.int .i64 (n:Int)] []=some (.sl false 1 (jF (yC n)),[]):=by
 rw[aV5];refine sU (n:=n) (L:=fun k=>UR (n:Int) (jF (yC k)) (k:Int)) (fun k hk => ?_) ?_
 .have hl:(jF (yC k)).length<=1000:=by unfold yC; rw[bW,bW,List.length_range]; omega
  rw[aAS,aN (by omega),aG,ah (zF hl),bT (by omega)];congr 1
  unfold yC;rw[List.range_succ,tY];show _=jF (_ ++ [(k:Int)]);unfold jF;rw[tY]; rfl
 .rw[aAS,aT (by omega),aC]
theorem a1U (n:Nat):(yC n).length=n:=by unfold yC; rw[bW,List.length_range]
theorem bB3 {n k:Nat} (h:k<n):(yC n)[k]'(by rw[a1U]; exact h)=(k:Int):=by unfold yC; simp
theorem aPR (a:List Int) (n:Nat) (ha:a.length<=1000):SS.CC 139 [.sl false 1 (jF a),.sl false 1 (jF (yC n))] []=some (.bool (bif (a.length:Int) !=(n:Int) then false else !uJ (fun k=>a.getD k 0 !=(k:Int)) a.length),[]):=by
 rw[aRV,ak,ak,a1U];by_cases h:a.length=n
 .have h0:((a.length:Int) !=(n:Int))=false:=by simp[h]
  rw[h0,aC,uu];have:∀ (m k:Nat),k+m=a.length->UH (jF a) (jF (yC n)) (k:Int)=some (.bool (!(List.range' k m).any fun k=>a.getD k 0 !=(k:Int)),[]):=by
   intro m;induction m with
   | zero =>intro k hk;rw[a9K,aT (by rw[ak]; omega),aC]; rfl
   | succ m ih =>
    intro k hk;have hk1:k<a.length:=by omega
    have hk2:k<(yC n).length:=by rw[a1U]; omega
    rw[a9K,aN (by rw[ak]; omega),aG,Ky hk1,yI,Ky hk2,yI,bB3 (by omega),bT (by omega),ih (k+1) (by omega),X7,zo,gD hk1 0];cases a[k] !=(k:Int)<;>rfl
  exact this a.length 0 (by omega)
 .have h0:((a.length:Int) !=(n:Int))=true:=by simp; omega
  rw[h0,aG,cond_true]
theorem aOX (x:Mv) (nv:Int) (h0:0<=nv) (hl:x.us.length<=1000) (hu:∀ u,u∈x.us->u.2.Len):Oj (jc x) nv 0=bF (Wl nv x.us):=by
 refine wu (L:=fun i=>Oj (jc x) nv (i:Int)) (fun i hi => ?_) ?_
 .rw[aAV,aN (show (i:Int)<((jc x).2.2.2.2.2.2.2.1.length:Int) by rw[ak]; omega),aG,I5 hi];refine aKY hl hi ?_;rw[aVL,bT (by omega)];exact bV (aKX (hu _ (dD hi)) h0 1)
 .rw[aAV,aT (show ¬ (x.us.length:Int)<((jc x).2.2.2.2.2.2.2.1.length:Int) by rw[ak]; omega),aC]
theorem b6V (t:Tm) (x:Mv) (h1:x.g.Len) (hl:x.us.length<=1000) (hu:∀ u,u∈x.us->u.2.Len):SS.CC 191 [A5 (bU t),A9 (jc x)] []=bF (Pz t.L (t.es.length:Int) (t.vs.length:Int) x):=by rw[aVR];dsimp only;rw[ak,jD,bV (aKX h1 (by omega) 2),aOX x _ (by omega) hl hu];unfold Pz;rw[<- kS,<- kS,<- kS,<- kS,<- kS,<- kS,<- nM (sq _ _),pX,nM]
theorem b6W (t:Tm) (h:pq t):SS.CC 188 [.cst (A6 (fP t)),.cst (A5 (bU t))] []=bF (Cm t.L (t.es.length:Int) (t.vs.length:Int) t.ms):=by
 rw[aVE];suffices e:SS.CC 189 [.sl false 8 (fP t).2.2.2.2.2.1,.func (.func 190) [] [.cst (A5 (bU t)),.cst (A6 (fP t))]] []=bF (Cm t.L (t.es.length:Int) (t.vs.length:Int) t.ms) from bV e
 refine (aVI _ _ _ _ _ _ _ _ _ _ _ _ _ _ _ _).trans ?_;rw[ak];refine wu (L:=fun i=>UT _ _ _ _ _ _ _ _ _ _ _ _ _ _ _ (t.ms.length:Int) (i:Int)) (fun i hi => ?_) ?_
 .obtain ⟨h1,h2,h3⟩:=h.ms.2 _ (dD hi);rw[aAT,aN (by omega),aG,bT (by have:=h.ms.1; omega),gD hi dM];refine bV ?_;refine (aVK _ _ _).trans ?_;rw[show (fP t).2.2.2.2.2.1=t.ms.map xC from rfl,Pn hi];exact bV (b6V t _ h1 h2 h3)
 .rw[aAT,aT (by omega),aC]
theorem MG {b:Bool} {c x:Int} (hc:c≠0):sq (bif b then c else 0) x=bif b then c else x:=by
 cases b with
 | false=>exact aH rfl
 | true=>exact aI hc
def VB (v:Vr):Bool:=v.n==Bc||v.n==EO
theorem bBA (vs:List Vr):rsE vs=bif uJ (fun k=>VB (vs.getD k dV)) vs.length then 7 else 0:=by
 rw[<- SA];unfold rsE;refine a6A fun i _ => ?_
 unfold rvE VB;cases (vs.getD i dV).n==Bc<;>rfl
theorem bAZ (vs:List Vr) (hn:vs.length<=1000):SS.CC 186 [.sl false 4 (vs.map qH),.func (.func 187) [] []] []=some (.bool (uJ (fun k=>VB (vs.getD k dV)) vs.length),[]):=by
 have e:∃ r,Oq (vs.map qH) ((0:Nat):Int)=some (.int .i64 r,[])/\decide (0<=r)=uJ (fun k=>VB (vs.getD k dV)) vs.length:=by
  refine loopA (L:=fun k=>Oq (vs.map qH) (k:Int)) (fun k hk => ?_) ?_
  .rw[aB1,aN (by rw[ak]; omega),aG,Es hk,bD ((aVD _).trans (bD (bAX _))),bT (by omega),gD hk dV];rfl
  .rw[aB1,aT (by rw[ak]; omega),aC]
 obtain ⟨r,e1,e2⟩:=e;rw[aVB,bV ((aWX _).trans e1),e2]
def YB (al:List Int) (n:Nat):Bool:=bif (al.length:Int) !=(n:Int) then false else !uJ (fun k=>al.getD k 0 !=(k:Int)) al.length
def iE (L I:Int):Int:=bif decide (I<0) then 2 else bif decide (Q3 L<=I) then 2 else 0
def UC (t:Tm):List (FuncId×List PV×Int) := [(176,[.cst (A5 (bU t))],F8 t.es),(178,[.cst (A5 (bU t))],F8 t.ls),(179,[.cst (A6 (fP t)),.cst (A5 (bU t))],bif !YB t.al t.es.length then 6 else 0),(181,[.cst (A6 (fP t)),.cst (A5 (bU t))],bif t.L !=(t.ls.length:Int) then 4 else 0),(182,[.cst (A6 (fP t))],iE t.L t.I),(183,[.cst (A6 (fP t))],Jc t.mr t.L),(184,[.cst (A6 (fP t))],Gf t.vs),(185,[.cst (A6 (fP t))],rsE t.vs),(188,[.cst (A6 (fP t)),.cst (A5 (bU t))],Cm t.L (t.es.length:Int) (t.vs.length:Int) t.ms)]
theorem aQX (t:Tm) (h:pq t):∀ f,f∈UC t->SS.CC f.1 f.2.1 []=bF f.2.2/\PV.flats f.2.1=true:=by
 intro f hf;simp only[UC,fQ,tZ,uC] at hf;rcases hf with rfl | rfl | rfl | rfl | rfl | rfl | rfl | rfl | rfl
 .exact ⟨(aUV _).trans (bV (nsc _ h.es)),rfl⟩
 .exact ⟨(aU' _).trans (bV (nsc _ h.ls)),rfl⟩
 .refine ⟨(aV1 _ _).trans ?_,rfl⟩;rw[jD,zx (b7A _ h.es.1),bD (aPR t.al _ h.al),bV (wB _ _)];rfl
 .refine ⟨(aV6 _ _).trans ?_,rfl⟩;rw[jD,bV (wB _ _)]
 .refine ⟨(aV7 _).trans ?_,rfl⟩;rw[bV (wB _ _),bV (wB _ _)];show aA (decide (t.I<0)) (bF 2) (bF (bif decide (Q3 t.L<=t.I) then 2 else 0))=_;rw[kS]; rfl
 .exact ⟨(aV8 _).trans (bV (csc _ h.mr _)),rfl⟩
 .exact ⟨(aV9 _).trans (bV (cvc _ h.vs.1 fun v hv=>(h.vs.2 v hv).1)),rfl⟩
 .refine ⟨(aVA _).trans ?_,rfl⟩;rw[bD (bAZ t.vs h.vs.1),bV (wB _ _),bBA]
 .exact ⟨b6W t h,rfl⟩
theorem tmK (t:Tm):Lu ((UC t).map (·.2.2))=Df t:=by
 show sq _ (sq _ (sq _ (sq _ (sq _ (sq _ (sq _ (sq _ (sq _ 0))))))))=_;rw[MC,MG (by decide),MG (by decide)];unfold Df;congr 2
 have ha:∀ X:Int,(bif !YB t.al t.es.length then 6 else X)=bif (t.al.length:Int) !=(t.es.length:Int) then 6 else sq (JS t.al) X:=by
  intro X;unfold YB JS;rw[SA,MG (by decide)];cases (t.al.length:Int) !=(t.es.length:Int) with
  | true=>rfl
  | false=>rw[uu,uu,Bool.not_not]
 rw[ha];congr 2
 by_cases hL:t.L=(t.ls.length:Int)
 .rw[hL];have h0:((t.ls.length:Int) !=(t.ls.length:Int))=false:=by simp
  rw[h0,uu,uu];unfold iE;cases decide (t.I<0) with
  | true=>rfl
  | false =>rw[uu,uu,MG (by decide)]
 .have h0:(t.L !=(t.ls.length:Int))=true:=by simpa using hL
  rw[h0,cond_true,cond_true]
theorem bDR (t:Tm) (h:pq t):SS.CC 78 [A5 (bU t)] []=bF (Df t):=by rw[b07];have e:=Jn (UC t) (by show 9<=1000; decide) (aQX t h);rw[tmK] at e;exact bV e
theorem aOY (l:List Ins) (hn:l.length<=1000):SS.CC 59 [.sl false 3 (l.map di),.func (.func 60) [] []] []=some (.sl false 1 (aS (l.map (·.n))),[]):=by
 rw[a_7];refine sU (n:=l.length) (L:=fun k=>Um (l.map di) (aS ((l.take k).map (·.n))) (k:Int)) (fun k hk => ?_) ?_
 .rw[aCS,aN (by rw[ak]; omega),aG,Eo hk,ou (a_8 _),ah (zF (BH _ l k hn)),BG (·.n) l hk,bT (by omega)]
 .rw[aCS,aT (by rw[ak]; omega),aC,tq (bQ _)]
theorem aO' (l:List Tm) (hn:l.length<=1000):SS.CC 61 [.sl false 9 (l.map IK),.func (.func 62) [] []] []=some (.sl false 1 (aS (l.map (·.n))),[]):=by
 rw[a_C];refine sU (n:=l.length) (L:=fun k=>Un (l.map IK) (aS ((l.take k).map (·.n))) (k:Int)) (fun k hk => ?_) ?_
 .rw[aCT,aN (by rw[ak]; omega),aG,L6 hk,ou (a_D _),ah (zF (BH _ l k hn)),BG (·.n) l hk,bT (by omega)]
 .rw[aCT,aT (by rw[ak]; omega),aC,tq (bQ _)]
theorem aP0 (l:List qX) (hn:l.length<=1000):SS.CC 63 [.sl false 2 (l.map FC),.func (.func 64) [] []] []=some (.sl false 1 (aS (l.map (·.n))),[]):=by
 rw[a_H];refine sU (n:=l.length) (L:=fun k=>Uo (l.map FC) (aS ((l.take k).map (·.n))) (k:Int)) (fun k hk => ?_) ?_
 .rw[aCU,aN (by rw[ak]; omega),aG,I4 hk,ou (a_I _),ah (zF (BH _ l k hn)),BG (·.n) l hk,bT (by omega)]
 .rw[aCU,aT (by rw[ak]; omega),aC,tq (bQ _)]
theorem aOZ (l:List Cst) (hn:l.length<=1000):SS.CC 65 [.sl false 3 (l.map kL),.func (.func 66) [] []] []=some (.sl false 1 (aS (l.map (·.n))),[]):=by
 rw[a_M];refine sU (n:=l.length) (L:=fun k=>Ur (l.map kL) (aS ((l.take k).map (·.n))) (k:Int)) (fun k hk => ?_) ?_
 .rw[aCV,aN (by rw[ak]; omega),aG,Kw hk,ou (a_N _),ah (zF (BH _ l k hn)),BG (·.n) l hk,bT (by omega)]
 .rw[aCV,aT (by rw[ak]; omega),aC,tq (bQ _)]
theorem VS {α:Type} (f:α->Nm) (l:List α) (hn:l.length<=1000) (hs:∀ x,x∈l->(f x).length<=1000) {k:Nat} (hk:k<l.length) :
 chk (decide (0<=(i64.wrap ((k:Int)+1)))&&decide ((i64.wrap ((k:Int)+1))<=((aS (l.map f)).length:Int))) (G1 76 [.sl false 1 ((aS (l.map f)).take (i64.wrap ((k:Int)+1)).toNat)] fun n1=>some (.int .i64 n1,[]))=bF (vM ((l.take k).map f) (f l[k])):=by
 have hk2:k<(l.map f).length:=by rw[bW]; exact hk
 rw[bT (by omega),aN (by omega),aN (by rw[jD]; omega),Jb,lm,WX];rw[bV (b58 (l.map f) ⟨by rw[bW]; exact hn,fun s hs2=>by obtain ⟨x,hx,rfl⟩:=kP.1 hs2;exact hs x hx⟩ hk2),List.getElem_map,X5]
theorem bDV (m:Mo) (h:ji m) {k:Nat} (hk:k<m.ts.length):SS.CC 74 [.int .i64 (k:Int),.cst (.sl false 1 (aS (m.ts.map (·.n)))),.cst (A0 (aO m))] []=bF (tpE (m.ts.take k) m.ts[k]):=by
 have ht:=h.ts.2 _ (dD hk);rw[b03];have e:=Jn [(75,[.cst (.sl false 1 (aS (m.ts.map (·.n)))),.cst (.int .i64 (k:Int))],vM ((m.ts.take k).map (·.n)) (m.ts[k]).n),(77,[.cst (A0 (aO m)),.cst (.int .i64 (k:Int))],Df m.ts[k])] (by show 2<=1000; decide) (by
  intro f hf;simp only[fQ,tZ,uC] at hf;rcases hf with rfl | rfl
  .exact ⟨(b04 _ _).trans (VS (·.n) m.ts h.ts.1 (fun x hx=>(h.ts.2 x hx).1) hk),rfl⟩
  .refine ⟨(b06 _ _).trans ?_,rfl⟩;rw[show (aO m).2.2.1=m.ts.map IK from rfl,L6 hk];exact bV (bDR _ ht.2))
 refine (bV e).trans ?_;show bF (sq _ (sq _ 0))=_;rw[MC]; rfl
theorem tsc (m:Mo) (h:ji m):SS.CC 72 [.cst (A0 (aO m)),.cst (.sl false 1 (aS (m.ts.map (·.n))))] []=bF (MN m.ts):=by
 rw[a_W];suffices e:SS.CC 73 [.sl false 9 (aO m).2.2.1,.func (.func 74) [] [.cst (.sl false 1 (aS (m.ts.map (·.n)))),.cst (A0 (aO m))]] []=bF (MN m.ts) from bV e
 refine (a_' _ _ _ _ _ _ _ _ _).trans ?_;rw[ak];refine wu (L:=fun i=>Ut _ _ _ _ _ _ _ _ (m.ts.length:Int) (i:Int)) (fun i hi => ?_) ?_
 .rw[aCX,aN (by omega),aG,bT (by have:=h.ts.1; omega),gD hi dT];exact bV (bDV m h hi)
 .rw[aCX,aT (by omega),aC]
theorem b3F (l:List Ins) (hn:l.length<=1000) (h:∀ x,x∈l->x.n.length<=1000/\x.t.length<=1000/\xP x.es) {k:Nat} (hk:k<l.length):SS.CC 81 [.int .i64 (k:Int),.cst (.sl false 1 (aS (l.map (·.n)))),.cst (.sl false 3 (l.map di))] []=bF (ZN (l.take k) l[k]):=by
 obtain ⟨h1,h2,h4⟩:=h _ (dD hk);rw[b0D];have e:=Jn [(82,[.cst (.sl false 1 (aS (l.map (·.n)))),.cst (.int .i64 (k:Int))],vM ((l.take k).map (·.n)) (l[k]).n),(83,[.cst (.sl false 3 (l.map di)),.cst (.int .i64 (k:Int))],Q9 ((l[k]).t::(l[k]).es))] (by show 2<=1000; decide) (by
  intro f hf;simp only[fQ,tZ,uC] at hf;rcases hf with rfl | rfl
  .exact ⟨(b0E _ _).trans (VS (·.n) l hn (fun x hx=>(h x hx).1) hk),rfl⟩
  .refine ⟨(b0F _ _).trans ?_,rfl⟩;rw[Eo hk,Eo hk];dsimp only;rw[ah (LD (by decide) (by rw[jD]; exact h4.1)),show ([.str (bs (l[k]).t)]:List PV) ++ aS (l[k]).es=aS ((l[k]).t::(l[k]).es) from rfl];rw[bD (a6D _ (by have:=h4.1; rw[aU]; omega) (fun s hs=>by
    rcases fQ.1 hs with e | e
    .rw[e]; exact h2
    .exact h4.2 s e)),bV (wB _ _),b78,Bool.not_not])
 refine (bV e).trans ?_;show bF (sq _ (sq _ 0))=_;rw[MC]; rfl
theorem b3G (l:List Ins) (hn:l.length<=1000) (h:∀ x,x∈l->x.n.length<=1000/\x.t.length<=1000/\xP x.es):SS.CC 79 [.cst (.sl false 3 (l.map di)),.cst (.sl false 1 (aS (l.map (·.n))))] []=bF (Ed l):=by
 rw[b08];suffices e:SS.CC 80 [.sl false 3 (l.map di),.func (.func 81) [] [.cst (.sl false 1 (aS (l.map (·.n)))),.cst (.sl false 3 (l.map di))]] []=bF (Ed l) from bV e
 refine (b0C _ _ _).trans ?_;rw[ak];refine wu (L:=fun i=>Uu _ _ (l.length:Int) (i:Int)) (fun i hi => ?_) ?_
 .rw[aCY,aN (by omega),aG,bT (by omega),gD hi dI];exact bV (b3F l hn h hi)
 .rw[aCY,aT (by omega),aC]
theorem b5M (ls:List (Nm×Nm)):Ku ls=bif uJ (fun k => !nameB (ls.getD k dL).1 || !nameB (ls.getD k dL).2) ls.length then 7 else 0:=by
 rw[<- SA];unfold Ku;refine a6A fun i _ => ?_
 unfold lcE;cases nameB (ls.getD i dL).1<;>rfl
theorem aMO (l:Nm×Nm) (h1:l.1.length<=1000) (h2:l.2.length<=1000):SS.CC 92 [Ri (Wp l)] []=some (.bool (!nameB l.1 || !nameB l.2),[]):=by have e:=a6D [l.1,l.2] (by show 2<=2000; decide) (fun s hs=>by simp only[fQ,tZ,uC] at hs;rcases hs with rfl | rfl<;>assumption);rw[b0R];refine (bD e).trans ?_;rw[Bool.not_not];unfold SG;rw[SH (fun s => !nameB s) [l.1,l.2] []];simp
theorem bFI (m:Mo) (h:ji m) {k:Nat} (hk:k<m.xs.length):SS.CC 87 [.int .i64 (k:Int),.cst (.sl false 1 (aS (m.xs.map (·.n)))),.cst (A0 (aO m))] []=bF (YG (m.xs.take k) m.xs[k]):=by
 obtain ⟨h1,h2,h4⟩:=h.xs.2 _ (dD hk);rw[b0M];have e:=Jn [(88,[.cst (.sl false 1 (aS (m.xs.map (·.n)))),.cst (.int .i64 (k:Int))],vM ((m.xs.take k).map (·.n)) (m.xs[k]).n),(89,[.cst (A0 (aO m)),.cst (.int .i64 (k:Int))],bif ((m.xs[k]).ls.length:Int)==0 then 12 else 0),(90,[.cst (A0 (aO m)),.cst (.int .i64 (k:Int))],Ku (m.xs[k]).ls)] (by show 3<=1000; decide) (by
  intro f hf;simp only[fQ,tZ,uC] at hf;rcases hf with rfl | rfl | rfl
  .exact ⟨(b0N _ _).trans (VS (·.n) m.xs h.xs.1 (fun x hx=>(h.xs.2 x hx).1) hk),rfl⟩
  .refine ⟨(b0O _ _).trans ?_,rfl⟩;rw[show (aO m).2.2.2.2.2.1=m.xs.map FC from rfl,I4 hk,ak];exact bV (wB _ _)
  .refine ⟨(b0P _ _).trans ?_,rfl⟩;rw[show (aO m).2.2.2.2.2.1=m.xs.map FC from rfl,I4 hk];have e:∃ r,Ol ((m.xs[k]).ls.map su) ((0:Nat):Int)=some (.int .i64 r,[])/\decide (0<=r)=uJ (fun i => !nameB ((m.xs[k]).ls.getD i dL).1 || !nameB ((m.xs[k]).ls.getD i dL).2) (m.xs[k]).ls.length:=by
    refine loopA (L:=fun i=>Ol ((m.xs[k]).ls.map su) (i:Int)) (fun i hi => ?_) ?_
    .obtain ⟨a1,a2⟩:=h4 _ (dD hi);rw[aAW,aN (by rw[ak]; omega),aG,Kz hi,bD (aMO _ a1 a2),bT (by omega),gD hi dL]
    .rw[aAW,aT (by rw[ak]; omega),aC]
   obtain ⟨r,e1,e2⟩:=e;rw[bD ((b0Q _).trans (bV ((aVW _).trans e1))),e2,bV (wB _ _),b5M])
 refine (bV e).trans ?_;show bF (sq _ (sq _ (sq _ 0)))=_;rw[MC,MG (by decide)]; rfl
theorem xsc (m:Mo) (h:ji m):SS.CC 85 [.cst (A0 (aO m)),.cst (.sl false 1 (aS (m.xs.map (·.n))))] []=bF (Ir m.xs):=by
 rw[b0H];suffices e:SS.CC 86 [.sl false 2 (aO m).2.2.2.2.2.1,.func (.func 87) [] [.cst (.sl false 1 (aS (m.xs.map (·.n)))),.cst (A0 (aO m))]] []=bF (Ir m.xs) from bV e
 refine (b0L _ _ _ _ _ _ _ _ _).trans ?_;rw[ak];refine wu (L:=fun i=>Uw _ _ _ _ _ _ _ _ (m.xs.length:Int) (i:Int)) (fun i hi => ?_) ?_
 .rw[aCZ,aN (by omega),aG,bT (by have:=h.xs.1; omega),gD hi dX];exact bV (bFI m h hi)
 .rw[aCZ,aT (by omega),aC]
theorem ctc (x:Cst) (hn:x.ts.length<=1000) (hl:∀ l,l∈x.ts->l.1.length<=1000):SS.CC 98 [GH (kw x)] []=bF (bif (x.ts.length:Int)==0 then 12 else sq (MM x.ts) (AU x.b)):=by
 rw[b1D,ak];have hb:(bif decide (x.b < -65536)||decide (65536<x.b) then (2:Int) else 0)=AU x.b:=by unfold AU;cases decide (x.b < -65536)<;>rfl
 have e:P9 (kw x) 0=bF (sq (MM x.ts) (AU x.b)):=by
  rw[<- nM (sq _ _),pX,nM];refine zI (L:=fun k=>P9 (kw x) (k:Int)) (fun k hk => ?_) ?_
  .rw[aD0,aN (show (k:Int)<((kw x).2.1.length:Int) by rw[ak]; omega),aG,L9 hk,bD (ww _ (hl _ (dD hk))),bD (aHE _),bT (by omega),gD hk dR];unfold trE;simp only[FU,st2,st0];cases decide ((x.ts[k]).2 < -65536)<;>rfl
  .rw[aD0,aT (show ¬ (x.ts.length:Int)<((kw x).2.1.length:Int) by rw[ak]; omega),aC,bD (aHE _),bV (wB _ _),hb]
 rw[e,kS]
theorem b55 (m:Mo) (h:ji m) {k:Nat} (hk:k<m.ks.length):SS.CC 95 [.int .i64 (k:Int),.cst (.sl false 1 (aS (m.ks.map (·.n)))),.cst (A0 (aO m))] []=bF (Y7 (m.ks.take k) m.ks[k]):=by
 obtain ⟨h1,h2,h4⟩:=h.ks.2 _ (dD hk);rw[b0X];have e:=Jn [(96,[.cst (.sl false 1 (aS (m.ks.map (·.n)))),.cst (.int .i64 (k:Int))],vM ((m.ks.take k).map (·.n)) (m.ks[k]).n),(97,[.cst (A0 (aO m)),.cst (.int .i64 (k:Int))],bif ((m.ks[k]).ts.length:Int)==0 then 12 else sq (MM (m.ks[k]).ts) (AU (m.ks[k]).b))] (by show 2<=1000; decide) (by
  intro f hf;simp only[fQ,tZ,uC] at hf;rcases hf with rfl | rfl
  .exact ⟨(b0Y _ _).trans (VS (·.n) m.ks h.ks.1 (fun x hx=>(h.ks.2 x hx).1) hk),rfl⟩
  .refine ⟨(b0Z _ _).trans ?_,rfl⟩;rw[show (aO m).2.2.2.2.2.2.1=m.ks.map kL from rfl,Kw hk];exact bV (ctc _ h2 h4))
 refine (bV e).trans ?_;show bF (sq _ (sq _ 0))=_;rw[MC]; rfl
theorem ksc (m:Mo) (h:ji m):SS.CC 93 [.cst (A0 (aO m)),.cst (.sl false 1 (aS (m.ks.map (·.n))))] []=bF (Eg m.ks):=by
 rw[b0S];suffices e:SS.CC 94 [.sl false 3 (aO m).2.2.2.2.2.2.1,.func (.func 95) [] [.cst (.sl false 1 (aS (m.ks.map (·.n)))),.cst (A0 (aO m))]] []=bF (Eg m.ks) from bV e
 refine (b0W _ _ _ _ _ _ _ _ _).trans ?_;rw[ak];refine wu (L:=fun i=>Ux _ _ _ _ _ _ _ _ (m.ks.length:Int) (i:Int)) (fun i hi => ?_) ?_
 .rw[aC',aN (by omega),aG,bT (by have:=h.ks.1; omega),gD hi dK];exact bV (b55 m h hi)
 .rw[aC',aT (by omega),aC]
def Pq (m:Mo):Int:=bif decide ((16:Int)<(m.ts.length:Int)) then 3 else bif decide ((32:Int)<(m.cs.length:Int)) then 3 else bif decide ((32:Int)<(m.rs.length:Int)) then 3 else bif decide ((32:Int)<(m.xs.length:Int)) then 3 else bif decide ((32:Int)<(m.ks.length:Int)) then 3 else 0
theorem lic (m:Mo):SS.CC 71 [.cst (A0 (aO m))] []=bF (Pq m):=by
 rw[a_V,bV (wB _ _),bV (wB _ _)];dsimp only;rw[ak,ak,ak,ak,ak,kS];refine congrArg bF ?_;unfold Pq;generalize (m.ts.length:Int)=a;generalize (m.cs.length:Int)=b;generalize (m.rs.length:Int)=c;generalize (m.xs.length:Int)=d;generalize (m.ks.length:Int)=e;by_cases h0:(16:Int)<a
 .rw[aN h0]; rfl
 rw[aT h0,uu,uu];by_cases h1:(32:Int)<b
 .rw[aN h1,aN (by split<;>split<;>(try split)<;>(try split)<;>omega)]; rfl
 rw[aT h1,uu];by_cases h2:(32:Int)<c
 .rw[aN h2,aN (by split<;>split<;>(try split)<;>(try split)<;>omega)]; rfl
 rw[aT h2,uu];by_cases h3:(32:Int)<d
 .rw[aN h3,aN (by split<;>split<;>(try split)<;>(try split)<;>omega)]; rfl
 rw[aT h3,uu];by_cases h4:(32:Int)<e
 .rw[aN h4,aN (by split<;>split<;>(try split)<;>(try split)<;>omega)];try rfl
 rw[aT h4,uu,aT (by split<;>split<;>(try split)<;>(try split)<;>omega),uu]
theorem bCV (m:Mo) (x:Int):sq (Pq m) x=bif decide ((16:Int)<(m.ts.length:Int)) then 3 else bif decide ((32:Int)<(m.cs.length:Int)) then 3 else bif decide ((32:Int)<(m.rs.length:Int)) then 3 else bif decide ((32:Int)<(m.xs.length:Int)) then 3 else bif decide ((32:Int)<(m.ks.length:Int)) then 3 else x:=by unfold Pq;cases decide ((16:Int)<(m.ts.length:Int))<;>cases decide ((32:Int)<(m.cs.length:Int))<;>cases decide ((32:Int)<(m.rs.length:Int))<;>cases decide ((32:Int)<(m.xs.length:Int))<;>cases decide ((32:Int)<(m.ks.length:Int))<;>rfl
theorem TQ (m:Mo) (h:ji m) (h2:m.cs.length+m.rs.length<=1000):SS.CC 18 [A0 (aO m)] []=bF (sF m):=by
 have hl:(m.cs ++ m.rs).length<=1000:=by rw[aK]; exact h2
 rw[aVJ,Rj (Y3 m.cs h.is.1),ah (by rw[bW]; exact LD h.is.1 (by rw[bW]; exact h.is.2.1))];dsimp only;rw[<- tY,zx (aOY _ hl),zx (aO' _ h.ts.1),zx (aP0 _ h.xs.1),zx (aOZ _ h.ks.1)];have e:=Jn [(68,[.cst (A0 (aO m))],bif !nameB m.n then 7 else 0),(70,[.cst (A0 (aO m))],Nj m.es),(71,[.cst (A0 (aO m))],Pq m),(72,[.cst (A0 (aO m)),.cst (.sl false 1 (aS (m.ts.map (·.n))))],MN m.ts),(79,[.cst (.sl false 3 ((m.cs ++ m.rs).map di)),.cst (.sl false 1 (aS ((m.cs ++ m.rs).map (·.n))))],Ed (m.cs ++ m.rs)),(85,[.cst (A0 (aO m)),.cst (.sl false 1 (aS (m.xs.map (·.n))))],Ir m.xs),(93,[.cst (A0 (aO m)),.cst (.sl false 1 (aS (m.ks.map (·.n))))],Eg m.ks)] (by show 7<=1000; decide) (by
  intro f hf;simp only[fQ,tZ,uC] at hf;rcases hf with rfl | rfl | rfl | rfl | rfl | rfl | rfl
  .refine ⟨(a_S _).trans ?_,rfl⟩;rw[bD (ww _ h.n),bV (wB _ _)]
  .exact ⟨(a_U _).trans (bV (acc _ h.es.1 h.es.2)),rfl⟩
  .exact ⟨lic m,rfl⟩
  .exact ⟨tsc m h,rfl⟩
  .exact ⟨b3G _ hl h.is.2.2,rfl⟩
  .exact ⟨xsc m h,rfl⟩
  .exact ⟨ksc m h,rfl⟩)
 refine (bV e).trans ?_;show bF (sq _ (sq _ (sq _ (sq _ (sq _ (sq _ (sq _ 0)))))))=_;rw[MC,MG (by decide),bCV];rfl
section
def aYN:KT:=SS.rK Tryz.f3 3 0 []
def Ue (x1:Sh.V S0) (x3:Int):R:=bI (SS.xX 3 55 0) (cS Tryz.f3 31) aYN ⟨[(1,.cst (A0 x1)),(3,.int .i64 x3)],[]⟩
theorem aYM (x1:Sh.V S0) (x3:Int):Ue x1 x3 =
 G0 17 [A0 x1] fun u1=>G1 18 [A0 x1] fun n4=>aA (n4 != x3) (some (.bool false,[])) (aA (u1.2.1.1 != x3) (some (.bool false,[])) (aA (x3 != 0) (aA (u1.1.1.toList==(⟨#[]⟩:ByteArray).toList) (some (.bool true,[])) (aA (x3==0) (G2 19 [A0 x1] fun s6=>some (.bool (u1.1.1.toList==s6.toList),[])) (some (.bool false,[])))) (aA (x3==0) (G2 19 [A0 x1] fun s8=>some (.bool (u1.1.1.toList==s8.toList),[])) (some (.bool false,[]))))):=by kernel_rfl
theorem aYO (a0:Sh.V S0):SS.CC 3 [A0 a0] [] =
 G3 12 [] fun b1=>aA (!b1) (G3 12 [] fun b3=>some (.bool b3,[])) (G3 13 [A0 a0] fun b5=>aA (!b5) (G3 12 [] fun b7=>some (.bool b7,[])) (G1 14 [A0 a0] fun n9=>aA (n9==0) (G4 16 [A0 a0] fun Hu=>G2 15 [.sl false 1 Hu,.str ⟨#[32]⟩] fun s13=>aA (decide (30000<(s13.size:Int))) (some (.bool true,[])) (Ue a0 n9)) (Ue a0 n9))):=cc
def Oi:KT:=SS.rK Tryz.f16 16 0 []
def aTQ:KT:=SS.jK 16 200 0 (cS Tryz.f16 15) Oi
def aAD:KT:=au 0 aTQ
def aU6:KT:=SS.lK 16 200 0 [1,3,25,26,27] 0 (cS Tryz.f16 75) aAD
def aU7:KT:=SS.jK 16 200 0 (cS Tryz.f16 971) aU6
def aU8:KT:=au 1 aU7
def aU9:KT:=SS.jK 16 200 0 (cS Tryz.f16 15563) aU8
def aUA:KT:=au 2 aU9
def aUB:KT:=SS.jK 16 200 0 (cS Tryz.f16 31) Oi
def aUC:KT:=au 4 aUB
def aTR:KT:=SS.jK 16 200 0 (cS Tryz.f16 63) Oi
def aAB:KT:=au 6 aTR
def aTS:KT:=SS.lK 16 200 0 [1,3,88,89,90] 0 (cS Tryz.f16 303) aAB
def aTT:KT:=SS.jK 16 200 0 (cS Tryz.f16 3887) aTS
def aTU:KT:=au 7 aTT
def aTV:KT:=SS.jK 16 200 0 (cS Tryz.f16 127) Oi
def aAC:KT:=au 8 aTV
def aTW:KT:=SS.lK 16 200 0 [1,3,116,117,118] 0 (cS Tryz.f16 607) aAC
def aTX:KT:=SS.jK 16 200 0 (cS Tryz.f16 7775) aTW
def aTY:KT:=au 9 aTX
def aTZ:KT:=SS.jK 16 200 0 (cS Tryz.f16 124511) aTY
def aT':KT:=au 10 aTZ
def aU0:KT:=SS.jK 16 200 0 (cS Tryz.f16 255) Oi
def aAE:KT:=au 12 aU0
def aU1:KT:=SS.lK 16 200 0 [3,153,154,155] 0 (cS Tryz.f16 1215) aAE
def aU2:KT:=SS.jK 16 200 0 (cS Tryz.f16 15551) aU1
def aU3:KT:=au 13 aU2
def aU4:KT:=SS.jK 16 200 0 (cS Tryz.f16 249023) aU3
def aU5:KT:=au 14 aU4
def Gu (x1:Sh.V S0) (x3:List PV) (x27:Int):R:=SS.LL (SS.ae 16 200) 0 [1,3,25,26,27] 0 (cS Tryz.f16 75) aAD ⟨[(1,.cst (A0 x1)),(3,.sl true 1 x3),(25,.sl false 5 x1.2.1),(26,.int .i64 (x1.2.1.length:Int)),(27,.int .i64 x27)],[]⟩
def xm (x1:Sh.V S0) (q0:Sh.V S4) (x3:List PV) (Fp:Int) (x27:Int):R:=SS.LL (SS.ae 16 200) 0 [1,3,5,25,26,27,42,43,44] 1 (cS Tryz.f16 77003) aUA ⟨[(1,.cst (A0 x1)),(3,.sl true 1 x3),(5,.ptr 0 0),(25,.sl false 5 x1.2.1),(26,.int .i64 (x1.2.1.length:Int)),(27,.int .i64 x27),(42,.sl true 1 [.bool q0.2.1,.bool q0.2.2.1,.bool q0.2.2.2.1]),(43,.int .i64 3),(44,.int .i64 Fp)],[O4 q0]⟩
def Gt (x1:Sh.V S0) (x3:List PV) (xO:Int):R:=SS.LL (SS.ae 16 200) 0 [1,3,72,73,74] 0 (cS Tryz.f16 151) aUC ⟨[(1,.cst (A0 x1)),(3,.sl true 1 x3),(72,.sl false 9 x1.2.2.1),(73,.int .i64 (x1.2.2.1.length:Int)),(74,.int .i64 xO)],[]⟩
def EW (x1:Sh.V S0) (x88:List PV) (x89:Int) (x3:List PV) (x90:Int):R:=SS.LL (SS.ae 16 200) 0 [1,3,88,89,90] 0 (cS Tryz.f16 303) aAB ⟨[(1,.cst (A0 x1)),(3,.sl true 1 x3),(88,.sl true 3 x88),(89,.int .i64 x89),(90,.int .i64 x90)],[]⟩
def UN (x1:Sh.V S0) (x88:List PV) (x89:Int) (q0:Sh.V S8) (x12:ByteArray) (x3:List PV) (x90:Int):R:=bI (SS.xX 16 200 0) (cS Tryz.f16 62255) aTU ⟨[(1,.cst (A0 x1)),(3,.sl true 1 x3),(11,.ptr 0 0),(12,.str x12),(88,.sl true 3 x88),(89,.int .i64 x89),(90,.int .i64 x90)],[O8 q0]⟩
def EY (x1:Sh.V S0) (x3:List PV) (yK:Int):R:=SS.LL (SS.ae 16 200) 0 [1,3,116,117,118] 0 (cS Tryz.f16 607) aAC ⟨[(1,.cst (A0 x1)),(3,.sl true 1 x3),(116,.sl false 2 x1.2.2.2.2.2.1),(117,.int .i64 (x1.2.2.2.2.2.1.length:Int)),(118,.int .i64 yK)],[]⟩
def Js (x1:Sh.V S0) (Ih:List PV) (x3:List PV) (Fa:Int) (yK:Int):R:=SS.LL (SS.ae 16 200) 0 [1,3,116,117,118,128,129,130] 0 (cS Tryz.f16 616031) aT' ⟨[(1,.cst (A0 x1)),(3,.sl true 1 x3),(116,.sl false 2 x1.2.2.2.2.2.1),(117,.int .i64 (x1.2.2.2.2.2.1.length:Int)),(118,.int .i64 yK),(128,.sl false 2 Ih),(129,.int .i64 (Ih.length:Int)),(130,.int .i64 Fa)],[]⟩
def EZ (x153:List PV) (x3:List PV) (yL:Int):R:=SS.LL (SS.ae 16 200) 0 [3,153,154,155] 0 (cS Tryz.f16 1215) aAE ⟨[(3,.sl true 1 x3),(153,.sl false 3 x153),(154,.int .i64 (x153.length:Int)),(155,.int .i64 yL)],[]⟩
def Jt (x153:List PV) (q0:Sh.V ik) (x3:List PV) (x167:Int) (yL:Int):R:=SS.LL (SS.ae 16 200) 0 [3,18,153,154,155,165,166,167] 1 (cS Tryz.f16 1232063) aU5 ⟨[(3,.sl true 1 x3),(18,.ptr 0 0),(153,.sl false 3 x153),(154,.int .i64 (x153.length:Int)),(155,.int .i64 yL),(165,.sl false 2 q0.2.1),(166,.int .i64 (q0.2.1.length:Int)),(167,.int .i64 x167)],[rW q0]⟩
theorem aAL (x1:Sh.V S0) (x3:List PV) (x27:Int):Gu x1 x3 x27 =
 aA (decide (x27<(x1.2.1.length:Int))) (bG S4 x1.2.1 x27 fun u2=>chk (decide (x3.length+2<=aV)) (xm x1 u2 (x3 ++ ([.str ⟨#[101,118,101,110,116]⟩,.str u2.1]:List PV)) 0 x27)) (Gt x1 x3 0):=ll
theorem UO (x1:Sh.V S0) (q0:Sh.V S4) (x3:List PV) (Fp:Int) (x27:Int):xm x1 q0 x3 Fp x27 =
 aA (decide (Fp<3)) (dH [.bool q0.2.1,.bool q0.2.2.1,.bool q0.2.2.2.1] Fp fun e1=>vB e1 fun b2=>aA b2 (dH [.str ⟨#[99,111,110,116,114,111,108,108,97,98,108,101]⟩,.str ⟨#[111,98,115,101,114,118,97,98,108,101]⟩,.str ⟨#[102,111,114,99,105,98,108,101]⟩] Fp fun e3=>vS e3 fun s4=>chk (decide (x3.length+1<=aV)) (xm x1 q0 (x3 ++ ([.str s4]:List PV)) (i64.wrap (Fp+1)) x27)) (xm x1 q0 x3 (i64.wrap (Fp+1)) x27)) (aA (decide (0<q0.2.2.2.2.1)) (G2 35 [.int .i64 q0.2.2.2.2.1] fun s5=>chk (decide (x3.length+2<=aV)) (chk (decide ((x3 ++ ([.str ⟨#[102,97,117,108,116]⟩,.str s5]:List PV)).length+1<=aV)) (Gu x1 ((x3 ++ ([.str ⟨#[102,97,117,108,116]⟩,.str s5]:List PV)) ++ ([.str ⟨#[59]⟩]:List PV)) (i64.wrap (x27+1))))) (chk (decide (x3.length+1<=aV)) (Gu x1 (x3 ++ ([.str ⟨#[59]⟩]:List PV)) (i64.wrap (x27+1))))):=ll
theorem aAF (x1:Sh.V S0) (x3:List PV) (xO:Int):Gt x1 x3 xO =
 aA (decide (xO<(x1.2.2.1.length:Int))) (bG S5 x1.2.2.1 xO fun u2=>G4 54 [A5 u2] fun Hu=>chk (decide (x3.length+Hu.length<=aV)) (Gt x1 (x3 ++ Hu) (i64.wrap (xO+1)))) (NV 45 [.sl false 3 x1.2.2.2.1] fun Zg=>chk (decide (Zg.length+x1.2.2.2.2.1.length<=aV)) (EW x1 (Zg ++ x1.2.2.2.2.1) ((Zg ++ x1.2.2.2.2.1).length:Int) x3 0)):=ll
theorem aAG (x1:Sh.V S0) (x88:List PV) (x89:Int) (x3:List PV) (x90:Int):EW x1 x88 x89 x3 x90 =
 aA (decide (x90<x89)) (bG S8 x88 x90 fun u2=>aA (decide ((x1.2.2.2.1.length:Int)<=x90)) (UN x1 x88 x89 u2 ⟨#[114,101,113,117,105,114,101,109,101,110,116]⟩ x3 x90) (UN x1 x88 x89 u2 ⟨#[99,111,109,112,111,110,101,110,116]⟩ x3 x90)) (EY x1 x3 0):=ll
theorem aTP (x1:Sh.V S0) (x88:List PV) (x89:Int) (q0:Sh.V S8) (x12:ByteArray) (x3:List PV) (x90:Int):UN x1 x88 x89 q0 x12 x3 x90 =
 chk (decide (x3.length+5<=aV)) (G4 55 [.sl false 1 q0.2.2.1] fun l1=>chk (decide ((x3 ++ ([.str x12,.str q0.1,.str ⟨#[61]⟩,.str q0.2.1,.str ⟨#[40]⟩]:List PV)).length+l1.length<=aV)) (chk (decide (((x3 ++ ([.str x12,.str q0.1,.str ⟨#[61]⟩,.str q0.2.1,.str ⟨#[40]⟩]:List PV)) ++ l1).length+2<=aV)) (EW x1 x88 x89 (((x3 ++ ([.str x12,.str q0.1,.str ⟨#[61]⟩,.str q0.2.1,.str ⟨#[40]⟩]:List PV)) ++ l1) ++ ([.str ⟨#[41]⟩,.str ⟨#[59]⟩]:List PV)) (i64.wrap (x90+1))))):=by kernel_rfl
theorem aAH (x1:Sh.V S0) (x3:List PV) (yK:Int):EY x1 x3 yK =
 aA (decide (yK<(x1.2.2.2.2.2.1.length:Int))) (bG jk x1.2.2.2.2.2.1 yK fun u2=>chk (decide (x3.length+2<=aV)) (Js x1 u2.2.1 (x3 ++ ([.str ⟨#[101,120,99,108,117,100,101]⟩,.str u2.1]:List PV)) 0 yK)) (EZ x1.2.2.2.2.2.2.1 x3 0):=ll
theorem aAI (x1:Sh.V S0) (Ih:List PV) (x3:List PV) (Fa:Int) (yK:Int):Js x1 Ih x3 Fa yK =
 aA (decide (Fa<(Ih.length:Int))) (bG xQ Ih Fa fun u2=>dH [.str ⟨#[58]⟩,.str ⟨#[44]⟩] (if (1:Int)<Fa then (1:Int) else Fa) fun e4=>vS e4 fun s5=>chk (decide (x3.length+3<=aV)) (Js x1 Ih (x3 ++ ([.str s5,.str u2.1,.str u2.2.1]:List PV)) (i64.wrap (Fa+1)) yK)) (chk (decide (x3.length+1<=aV)) (EY x1 (x3 ++ ([.str ⟨#[59]⟩]:List PV)) (i64.wrap (yK+1)))):=ll
theorem aAJ (x153:List PV) (x3:List PV) (yL:Int):EZ x153 x3 yL =
 aA (decide (yL<(x153.length:Int))) (bG ik x153 yL fun u2=>chk (decide (x3.length+2<=aV)) (Jt x153 u2 (x3 ++ ([.str ⟨#[108,105,109,105,116]⟩,.str u2.1]:List PV)) 0 yL)) (some (.sl false 1 x3,[])):=ll
theorem aAK (x153:List PV) (q0:Sh.V ik) (x3:List PV) (x167:Int) (yL:Int):Jt x153 q0 x3 x167 yL =
 aA (decide (x167<(q0.2.1.length:Int))) (bG yS q0.2.1 x167 fun u2=>dH [.str ⟨#[58]⟩,.str ⟨#[43]⟩] (if (1:Int)<x167 then (1:Int) else x167) fun e4=>vS e4 fun s5=>chk (decide (x3.length+1<=aV)) (G7 56 [.int .i64 u2.2.1] fun l6=>chk (decide ((x3 ++ ([.str s5]:List PV)).length+l6.length<=aV)) (chk (decide (((x3 ++ ([.str s5]:List PV)) ++ l6).length+2<=aV)) (Jt x153 q0 (((x3 ++ ([.str s5]:List PV)) ++ l6) ++ ([.str ⟨#[42]⟩,.str u2.1]:List PV)) (i64.wrap (x167+1)) yL)))) (chk (decide (x3.length+1<=aV)) (G7 56 [.int .i64 q0.2.2.1] fun l8=>chk (decide ((x3 ++ ([.str ⟨#[60,61]⟩]:List PV)).length+l8.length<=aV)) (chk (decide (((x3 ++ ([.str ⟨#[60,61]⟩]:List PV)) ++ l8).length+1<=aV)) (EZ x153 (((x3 ++ ([.str ⟨#[60,61]⟩]:List PV)) ++ l8) ++ ([.str ⟨#[59]⟩]:List PV)) (i64.wrap (yL+1)))))):=ll
theorem aUD (a0:Sh.V S0):SS.CC 16 [A0 a0] [] =
 Gu a0 [.str ⟨#[109,111,100,101,108]⟩,.str a0.1,.str ⟨#[59]⟩] 0:=cc
theorem aAR (a0:Sh.V S0):SS.CC 17 [A0 a0] [] =
 G1 18 [A0 a0] fun n1=>aA (n1 != 0) (some (.tuple [.str ⟨#[]⟩,.int .i64 n1],[])) (aX 57 [.ptr 0 0,A0 a0] [aB ([],())] fun _ u3=>G0 58 [.sl false 5 u3.1] fun u6=>aA (u6.2.1.1 != 0) (some (.tuple [.str ⟨#[]⟩,.int .i64 u6.2.1.1],[])) (aA (decide (65536<(u6.1.1.size:Int))) (some (.tuple [.str ⟨#[]⟩,.int .i64 15],[])) (some (.tuple [.str u6.1.1,.int .i64 0],[])))):=cc
theorem aVY (a0:Sh.V S0):SS.CC 19 [A0 a0] [] =
 G4 16 [A0 a0] fun l1=>G2 15 [.sl false 1 l1,.str ⟨#[32]⟩] fun s3=>XK 99 [.str s3] fun u5=>G0 58 [.sl false 5 u5.1.1] fun u10=>some (.str u10.1.1,[]):=cc
theorem aZY (a1:ByteArray) (PI:List UInt8):SS.CC 52 [.ptr 0 0,.str a1] [lu (PI,())] =
 XT 162 [.ptr 0 0] [lu (PI,())] fun _ u1=>chk (decide (u1.1.length+a1.size<=aV)) (some (.tuple [.int .i64 (a1.size:Int),.raw .nilIface],[lu ((u1.1 ++ a1.data.toList),())])):=cc
def Ym:KT:=SS.rK Tryz.f54 54 0 []
def a'0:KT:=SS.jK 54 170 0 (cS Tryz.f54 15) Ym
def aCB:KT:=au 0 a'0
def a'5:KT:=SS.lK 54 170 0 [1,3,23,24,25] 0 (cS Tryz.f54 75) aCB
def a'6:KT:=SS.jK 54 170 0 (cS Tryz.f54 971) a'5
def a'7:KT:=au 1 a'6
def a'8:KT:=SS.jK 54 170 0 (cS Tryz.f54 63) Ym
def a'9:KT:=au 2 a'8
def a'A:KT:=SS.jK 54 170 0 (cS Tryz.f54 127) Ym
def aCC:KT:=au 4 a'A
def a'1:KT:=SS.lK 54 170 0 [1,3,6,95,96,97] 0 (cS Tryz.f54 607) aCC
def a'2:KT:=SS.jK 54 170 0 (cS Tryz.f54 7775) a'1
def aCA:KT:=au 5 a'2
def a'3:KT:=SS.jK 54 170 0 (cS Tryz.f54 255583) aCA
def a'4:KT:=au 6 a'3
def Ea (x1:Sh.V S5) (x3:List PV) (x25:Int):R:=SS.LL (SS.ae 54 170) 0 [1,3,23,24,25] 0 (cS Tryz.f54 75) aCB ⟨[(1,.cst (A5 x1)),(3,.sl true 1 x3),(23,.sl false 1 x1.2.1),(24,.int .i64 (x1.2.1.length:Int)),(25,.int .i64 x25)],[]⟩
def Ui (x1:Sh.V S5) (x3:List PV) (x4:Int) (x25:Int):R:=bI (SS.xX 54 170 0) (cS Tryz.f54 15563) a'7 ⟨[(1,.cst (A5 x1)),(3,.sl true 1 x3),(4,.int .i64 x4),(23,.sl false 1 x1.2.1),(24,.int .i64 (x1.2.1.length:Int)),(25,.int .i64 x25)],[]⟩
def Gx (x1:Sh.V S5) (x3:List PV) (x6:List PV) (MZ:Int):R:=SS.LL (SS.ae 54 170) 0 [1,3,6,56,57,58] 0 (cS Tryz.f54 303) a'9 ⟨[(1,.cst (A5 x1)),(3,.sl true 1 x3),(6,.sl true 1 x6),(56,.sl false 4 x1.2.2.2.2.2.2.2.1),(57,.int .i64 (x1.2.2.2.2.2.2.2.1.length:Int)),(58,.int .i64 MZ)],[]⟩
def CW (x1:Sh.V S5) (x3:List PV) (qP:Int) (x6:List PV):R:=SS.LL (SS.ae 54 170) 0 [1,3,6,95,96,97] 0 (cS Tryz.f54 607) aCC ⟨[(1,.cst (A5 x1)),(3,.sl true 1 x3),(6,.sl true 1 x6),(95,.sl false 8 x1.2.2.2.2.2.2.2.2.1),(96,.int .i64 (x1.2.2.2.2.2.2.2.2.1.length:Int)),(97,.int .i64 qP)],[]⟩
def Uh (x1:Sh.V S5) (q0:Sh.V S9) (x3:List PV) (x6:List PV) (qP:Int):R:=bI (SS.xX 54 170 0) (cS Tryz.f54 124511) aCA ⟨[(1,.cst (A5 x1)),(3,.sl true 1 x3),(6,.sl true 1 x6),(10,.ptr 0 0),(95,.sl false 8 x1.2.2.2.2.2.2.2.2.1),(96,.int .i64 (x1.2.2.2.2.2.2.2.2.1.length:Int)),(97,.int .i64 qP)],[O9 q0]⟩
def KG (x1:Sh.V S5) (x3:List PV) (Ij:List PV) (Fb:Int) (x6:List PV) (qP:Int):R:=SS.LL (SS.ae 54 170) 0 [1,3,6,95,96,97,136,137,138] 0 (cS Tryz.f54 1238623) a'4 ⟨[(1,.cst (A5 x1)),(3,.sl true 1 x3),(6,.sl true 1 x6),(95,.sl false 8 x1.2.2.2.2.2.2.2.2.1),(96,.int .i64 (x1.2.2.2.2.2.2.2.2.1.length:Int)),(97,.int .i64 qP),(136,.sl false 5 Ij),(137,.int .i64 (Ij.length:Int)),(138,.int .i64 Fb)],[]⟩
theorem aCG (x1:Sh.V S5) (x3:List PV) (x25:Int):Ea x1 x3 x25 =
 aA (decide (x25<(x1.2.1.length:Int))) (dH x1.2.1 x25 fun e1=>vS e1 fun s2=>chk (decide (x3.length+2<=aV)) (aA (x25==x1.2.2.2.2.2.1) (chk (decide ((x3 ++ ([.str ⟨#[108,111,99,97,116,105,111,110]⟩,.str s2]:List PV)).length+1<=aV)) (Ui x1 ((x3 ++ ([.str ⟨#[108,111,99,97,116,105,111,110]⟩,.str s2]:List PV)) ++ ([.str ⟨#[105,110,105,116,105,97,108]⟩]:List PV)) x25 x25)) (Ui x1 (x3 ++ ([.str ⟨#[108,111,99,97,116,105,111,110]⟩,.str s2]:List PV)) x25 x25))) (Gx x1 x3 [] 0):=ll
theorem aZ' (x1:Sh.V S5) (x3:List PV) (x4:Int) (x25:Int):Ui x1 x3 x4 x25 =
 G3 164 [.sl false 1 x1.2.2.2.2.2.2.1,.int .i64 x4] fun b1=>aA b1 (chk (decide (x3.length+1<=aV)) (chk (decide ((x3 ++ ([.str ⟨#[109,97,114,107,101,100]⟩]:List PV)).length+1<=aV)) (Ea x1 ((x3 ++ ([.str ⟨#[109,97,114,107,101,100]⟩]:List PV)) ++ ([.str ⟨#[59]⟩]:List PV)) (i64.wrap (x25+1))))) (chk (decide (x3.length+1<=aV)) (Ea x1 (x3 ++ ([.str ⟨#[59]⟩]:List PV)) (i64.wrap (x25+1)))):=by kernel_rfl
theorem aCD (x1:Sh.V S5) (x3:List PV) (x6:List PV) (MZ:Int):Gx x1 x3 x6 MZ =
 aA (decide (MZ<(x1.2.2.2.2.2.2.2.1.length:Int))) (bG S7 x1.2.2.2.2.2.2.2.1 MZ fun u2=>chk (decide (x6.length+1<=aV)) (chk (decide (x3.length+3<=aV)) (G7 56 [.int .i64 u2.2.1] fun l6=>chk (decide ((x3 ++ ([.str ⟨#[118,97,114]⟩,.str u2.1,.str ⟨#[58]⟩]:List PV)).length+l6.length<=aV)) (chk (decide (((x3 ++ ([.str ⟨#[118,97,114]⟩,.str u2.1,.str ⟨#[58]⟩]:List PV)) ++ l6).length+1<=aV)) (G7 56 [.int .i64 u2.2.2.1] fun l8=>chk (decide ((((x3 ++ ([.str ⟨#[118,97,114]⟩,.str u2.1,.str ⟨#[58]⟩]:List PV)) ++ l6) ++ ([.str ⟨#[46,46]⟩]:List PV)).length+l8.length<=aV)) (chk (decide (((((x3 ++ ([.str ⟨#[118,97,114]⟩,.str u2.1,.str ⟨#[58]⟩]:List PV)) ++ l6) ++ ([.str ⟨#[46,46]⟩]:List PV)) ++ l8).length+1<=aV)) (G7 56 [.int .i64 u2.2.2.2.1] fun l10=>chk (decide ((((((x3 ++ ([.str ⟨#[118,97,114]⟩,.str u2.1,.str ⟨#[58]⟩]:List PV)) ++ l6) ++ ([.str ⟨#[46,46]⟩]:List PV)) ++ l8) ++ ([.str ⟨#[61]⟩]:List PV)).length+l10.length<=aV)) (chk (decide (((((((x3 ++ ([.str ⟨#[118,97,114]⟩,.str u2.1,.str ⟨#[58]⟩]:List PV)) ++ l6) ++ ([.str ⟨#[46,46]⟩]:List PV)) ++ l8) ++ ([.str ⟨#[61]⟩]:List PV)) ++ l10).length+1<=aV)) (Gx x1 (((((((x3 ++ ([.str ⟨#[118,97,114]⟩,.str u2.1,.str ⟨#[58]⟩]:List PV)) ++ l6) ++ ([.str ⟨#[46,46]⟩]:List PV)) ++ l8) ++ ([.str ⟨#[61]⟩]:List PV)) ++ l10) ++ ([.str ⟨#[59]⟩]:List PV)) (x6 ++ ([.str u2.1]:List PV)) (i64.wrap (MZ+1))))))))))) (CW x1 x3 0 x6):=ll
theorem aCE (x1:Sh.V S5) (x3:List PV) (qP:Int) (x6:List PV):CW x1 x3 qP x6 =
 aA (decide (qP<(x1.2.2.2.2.2.2.2.2.1.length:Int))) (bG S9 x1.2.2.2.2.2.2.2.2.1 qP fun u2=>dH x1.2.1 u2.1 fun e10=>vS e10 fun s11=>dH x1.2.2.1 u2.2.1 fun e12=>vS e12 fun s13=>dH x1.2.1 u2.2.2.1 fun e14=>vS e14 fun s15=>chk (decide (x3.length+4<=aV)) (wK 116 [] fun u16=>G3 23 [A1 (u2.2.2.2.1,u2.2.2.2.2.1,u2.2.2.2.2.2.1,u2.2.2.2.2.2.2.1,()),A1 u16] fun b21=>aA (!b21) (chk (decide ((x3 ++ ([.str ⟨#[101,100,103,101]⟩,.str s11,.str s13,.str s15]:List PV)).length+1<=aV)) (G7 29 [.sl false 1 x6,A1 (u2.2.2.2.1,u2.2.2.2.2.1,u2.2.2.2.2.2.1,u2.2.2.2.2.2.2.1,()),.int .i64 0] fun l23=>chk (decide (((x3 ++ ([.str ⟨#[101,100,103,101]⟩,.str s11,.str s13,.str s15]:List PV)) ++ ([.str ⟨#[119,104,101,110]⟩]:List PV)).length+l23.length<=aV)) (Uh x1 u2 (((x3 ++ ([.str ⟨#[101,100,103,101]⟩,.str s11,.str s13,.str s15]:List PV)) ++ ([.str ⟨#[119,104,101,110]⟩]:List PV)) ++ l23) x6 qP))) (Uh x1 u2 (x3 ++ ([.str ⟨#[101,100,103,101]⟩,.str s11,.str s13,.str s15]:List PV)) x6 qP))) (chk (decide (x3.length+1<=aV)) (some (.sl false 1 (x3 ++ ([.str ⟨#[125]⟩]:List PV)),[]))):=ll
theorem aZZ (x1:Sh.V S5) (q0:Sh.V S9) (x3:List PV) (x6:List PV) (qP:Int):Uh x1 q0 x3 x6 qP =
 KG x1 x3 q0.2.2.2.2.2.2.2.1 0 x6 qP:=by kernel_rfl
theorem aCF (x1:Sh.V S5) (x3:List PV) (Ij:List PV) (Fb:Int) (x6:List PV) (qP:Int):KG x1 x3 Ij Fb x6 qP =
 aA (decide (Fb<(Ij.length:Int))) (bG pF Ij Fb fun u2=>dH [.str ⟨#[100,111]⟩,.str ⟨#[44]⟩] (if (1:Int)<Fb then (1:Int) else Fb) fun e7=>vS e7 fun s8=>dH x6 u2.1 fun e9=>vS e9 fun s10=>chk (decide (x3.length+3<=aV)) (G7 29 [.sl false 1 x6,A1 (u2.2.1,u2.2.2.1,u2.2.2.2.1,u2.2.2.2.2.1,()),.int .i64 0] fun Hu=>chk (decide ((x3 ++ ([.str s8,.str s10,.str ⟨#[58,61]⟩]:List PV)).length+Hu.length<=aV)) (KG x1 ((x3 ++ ([.str s8,.str s10,.str ⟨#[58,61]⟩]:List PV)) ++ Hu) Ij (i64.wrap (Fb+1)) x6 qP))) (chk (decide (x3.length+1<=aV)) (CW x1 (x3 ++ ([.str ⟨#[59]⟩]:List PV)) (i64.wrap (qP+1)) x6)):=ll
theorem a'B (a0:Sh.V S5):SS.CC 54 [A5 a0] [] =
 G4 55 [.sl false 1 a0.2.2.1] fun l1=>chk (decide (3+l1.length<=aV)) (chk (decide ((([.str ⟨#[116,101,109,112,108,97,116,101]⟩,.str a0.1,.str ⟨#[40]⟩]:List PV) ++ l1).length+2<=aV)) (Ea a0 ((([.str ⟨#[116,101,109,112,108,97,116,101]⟩,.str a0.1,.str ⟨#[40]⟩]:List PV) ++ l1) ++ ([.str ⟨#[41]⟩,.str ⟨#[123]⟩]:List PV)) 0)):=cc
def a'C:KT:=SS.rK Tryz.f55 55 0 []
def a'D:KT:=SS.jK 55 24 0 (cS Tryz.f55 15) a'C
def a'E:KT:=au 0 a'D
def KH (x6:List PV) (x3:List PV) (x8:Int):R:=SS.LL (SS.ae 55 24) 0 [3,6,7,8] 0 (cS Tryz.f55 75) a'E ⟨[(3,.sl true 1 x3),(6,.sl false 1 x6),(7,.int .i64 (x6.length:Int)),(8,.int .i64 x8)],[]⟩
theorem aCH (x6:List PV) (x3:List PV) (x8:Int):KH x6 x3 x8 =
 aA (decide (x8<(x6.length:Int))) (dH x6 x8 fun e1=>vS e1 fun s2=>aA (decide (0<x8)) (chk (decide (x3.length+1<=aV)) (chk (decide ((x3 ++ ([.str ⟨#[44]⟩]:List PV)).length+1<=aV)) (KH x6 ((x3 ++ ([.str ⟨#[44]⟩]:List PV)) ++ ([.str s2]:List PV)) (i64.wrap (x8+1))))) (chk (decide (x3.length+1<=aV)) (KH x6 (x3 ++ ([.str s2]:List PV)) (i64.wrap (x8+1))))) (some (.sl false 1 x3,[])):=ll
theorem a'F (a0:List PV):SS.CC 55 [.sl false 1 a0] [] =
 KH a0 [] 0:=cc
def P8:KT:=SS.rK Tryz.f57 57 1 []
def a'H:KT:=SS.jK 57 179 1 (cS Tryz.f57 31) P8
def aCJ:KT:=au 0 a'H
def a'Q:KT:=SS.lK 57 179 1 [2,3,27,28,29] 2 (cS Tryz.f57 151) aCJ
def a'R:KT:=SS.jK 57 179 1 (cS Tryz.f57 1943) a'Q
def a'S:KT:=au 1 a'R
def a'T:KT:=SS.jK 57 179 1 (cS Tryz.f57 31127) a'S
def a'U:KT:=au 2 a'T
def a'V:KT:=SS.jK 57 179 1 (cS Tryz.f57 63) P8
def a'W:KT:=au 4 a'V
def a'I:KT:=SS.jK 57 179 1 (cS Tryz.f57 127) P8
def aCI:KT:=au 6 a'I
def a'J:KT:=SS.lK 57 179 1 [2,3,86,87] 2 (cS Tryz.f57 607) aCI
def a'K:KT:=SS.jK 57 179 1 (cS Tryz.f57 7775) a'J
def a'L:KT:=au 7 a'K
def a'M:KT:=au 8 a'L
def a'N:KT:=SS.jK 57 179 1 (cS Tryz.f57 255) P8
def a'O:KT:=au 10 a'N
def a'P:KT:=au 12 P8
def H6 (x3:Sh.V S0) (aJ:List PV) (x29:Int):R:=SS.LL (SS.ae 57 179) 1 [2,3,27,28,29] 2 (cS Tryz.f57 151) aCJ ⟨[(2,.ptr 1 0),(3,.cst (A0 x3)),(27,.sl false 5 x3.2.1),(28,.int .i64 (x3.2.1.length:Int)),(29,.int .i64 x29)],[aB (aJ,()),some [.ptr 0 0]]⟩
def jG (x3:Sh.V S0) (aJ:List PV) (q2:Sh.V S4) (iT:Int) (x29:Int):R:=SS.LL (SS.ae 57 179) 1 [2,3,5,27,28,29,44,45] 3 (cS Tryz.f57 154007) a'U ⟨[(2,.ptr 1 0),(3,.cst (A0 x3)),(5,.ptr 2 0),(27,.sl false 5 x3.2.1),(28,.int .i64 (x3.2.1.length:Int)),(29,.int .i64 x29),(44,A35 (q2.2.1,q2.2.2.1,q2.2.2.2.1,())),(45,.int .i64 iT)],[aB (aJ,()),some [.ptr 0 0],O4 q2]⟩
def Gy (x3:Sh.V S0) (aJ:List PV) (xO:Int):R:=SS.LL (SS.ae 57 179) 1 [2,3,72,73,74] 2 (cS Tryz.f57 303) a'W ⟨[(2,.ptr 1 0),(3,.cst (A0 x3)),(72,.sl false 9 x3.2.2.1),(73,.int .i64 (x3.2.2.1.length:Int)),(74,.int .i64 xO)],[aB (aJ,()),some [.ptr 0 0]]⟩
def CX (x3:Sh.V S0) (aJ:List PV) (x87:Int):R:=SS.LL (SS.ae 57 179) 1 [2,3,86,87] 2 (cS Tryz.f57 607) aCI ⟨[(2,.ptr 1 0),(3,.cst (A0 x3)),(86,A34 (x3.2.2.2.1,x3.2.2.2.2.1,())),(87,.int .i64 x87)],[aB (aJ,()),some [.ptr 0 0]]⟩
def wU (x3:Sh.V S0) (aJ:List PV) (x93:Int) (x91:List PV) (x10:Int) (x87:Int) (Md:Int):R:=SS.LL (SS.ae 57 179) 1 [2,3,10,86,87,91,92,93] 2 (cS Tryz.f57 157279) a'M ⟨[(2,.ptr 1 0),(3,.cst (A0 x3)),(10,.int .i64 x10),(86,A34 (x3.2.2.2.1,x3.2.2.2.2.1,())),(87,.int .i64 x87),(91,.sl false 3 x91),(92,.int .i64 Md),(93,.int .i64 x93)],[aB (aJ,()),some [.ptr 0 0]]⟩
def Gz (x3:Sh.V S0) (aJ:List PV) (MV:Int):R:=SS.LL (SS.ae 57 179) 1 [2,3,123,124,125] 2 (cS Tryz.f57 1215) a'O ⟨[(2,.ptr 1 0),(3,.cst (A0 x3)),(123,.sl false 2 x3.2.2.2.2.2.1),(124,.int .i64 (x3.2.2.2.2.2.1.length:Int)),(125,.int .i64 MV)],[aB (aJ,()),some [.ptr 0 0]]⟩
def H5 (Ik:List PV) (aJ:List PV) (x150:Int):R:=SS.LL (SS.ae 57 179) 1 [2,148,149,150] 2 (cS Tryz.f57 1279) a'P ⟨[(2,.ptr 1 0),(148,.sl false 3 Ik),(149,.int .i64 (Ik.length:Int)),(150,.int .i64 x150)],[aB (aJ,()),some [.ptr 0 0]]⟩
theorem aCN (x3:Sh.V S0) (aJ:List PV) (x29:Int):H6 x3 aJ x29 =
 aA (decide (x29<(x3.2.1.length:Int))) (bG S4 x3.2.1 x29 fun u2=>aX 165 [.ptr 0 0,.sl false 1 [.str ⟨#[101,118,101,110,116]⟩,.str u2.1]] [aB (aJ,())] fun _ u7=>jG x3 u7.1 u2 0 x29) (Gy x3 aJ 0):=ll
theorem Uk (x3:Sh.V S0) (aJ:List PV) (q2:Sh.V S4) (iT:Int) (x29:Int):jG x3 aJ q2 iT x29 =
 aA (decide (iT<3)) (chk (decide (0<=iT)&&decide (iT<(3:Int))) (aA (iT==0) (aA q2.2.1 (chk (decide (0<=iT)&&decide (iT<(3:Int))) (aA (iT==0) (aX 165 [.ptr 0 0,.sl false 1 [.str ⟨#[99,111,110,116,114,111,108,108,97,98,108,101]⟩]] [aB (aJ,())] fun _ u25=>jG x3 u25.1 q2 (i64.wrap (iT+1)) x29) (aA (iT==1) (aX 165 [.ptr 0 0,.sl false 1 [.str ⟨#[111,98,115,101,114,118,97,98,108,101]⟩]] [aB (aJ,())] fun _ u22=>jG x3 u22.1 q2 (i64.wrap (iT+1)) x29) (aA (iT==2) (aX 165 [.ptr 0 0,.sl false 1 [.str ⟨#[102,111,114,99,105,98,108,101]⟩]] [aB (aJ,())] fun _ u19=>jG x3 u19.1 q2 (i64.wrap (iT+1)) x29) (none))))) (jG x3 aJ q2 (i64.wrap (iT+1)) x29)) (aA (iT==1) (aA q2.2.2.1 (chk (decide (0<=iT)&&decide (iT<(3:Int))) (aA (iT==0) (aX 165 [.ptr 0 0,.sl false 1 [.str ⟨#[99,111,110,116,114,111,108,108,97,98,108,101]⟩]] [aB (aJ,())] fun _ u16=>jG x3 u16.1 q2 (i64.wrap (iT+1)) x29) (aA (iT==1) (aX 165 [.ptr 0 0,.sl false 1 [.str ⟨#[111,98,115,101,114,118,97,98,108,101]⟩]] [aB (aJ,())] fun _ u13=>jG x3 u13.1 q2 (i64.wrap (iT+1)) x29) (aA (iT==2) (aX 165 [.ptr 0 0,.sl false 1 [.str ⟨#[102,111,114,99,105,98,108,101]⟩]] [aB (aJ,())] fun _ u10=>jG x3 u10.1 q2 (i64.wrap (iT+1)) x29) (none))))) (jG x3 aJ q2 (i64.wrap (iT+1)) x29)) (aA (iT==2) (aA q2.2.2.2.1 (chk (decide (0<=iT)&&decide (iT<(3:Int))) (aA (iT==0) (aX 165 [.ptr 0 0,.sl false 1 [.str ⟨#[99,111,110,116,114,111,108,108,97,98,108,101]⟩]] [aB (aJ,())] fun _ u7=>jG x3 u7.1 q2 (i64.wrap (iT+1)) x29) (aA (iT==1) (aX 165 [.ptr 0 0,.sl false 1 [.str ⟨#[111,98,115,101,114,118,97,98,108,101]⟩]] [aB (aJ,())] fun _ u4=>jG x3 u4.1 q2 (i64.wrap (iT+1)) x29) (aA (iT==2) (aX 165 [.ptr 0 0,.sl false 1 [.str ⟨#[102,111,114,99,105,98,108,101]⟩]] [aB (aJ,())] fun _ u1=>jG x3 u1.1 q2 (i64.wrap (iT+1)) x29) (none))))) (jG x3 aJ q2 (i64.wrap (iT+1)) x29)) (none))))) (aA (q2.2.2.2.2.1 != 0) (aX 165 [.ptr 0 0,.sl false 1 [.str ⟨#[102,97,117,108,116]⟩]] [aB (aJ,())] fun _ u28=>aX 167 [.ptr 0 0,.int .i64 q2.2.2.2.2.1] [aB u28] fun _ u31=>aX 166 [.ptr 0 0,.sl false 1 [.str ⟨#[59]⟩]] [aB u31] fun _ u34=>H6 x3 u34.1 (i64.wrap (x29+1))) (aX 166 [.ptr 0 0,.sl false 1 [.str ⟨#[59]⟩]] [aB (aJ,())] fun _ u37=>H6 x3 u37.1 (i64.wrap (x29+1)))):=ll
theorem aCK (x3:Sh.V S0) (aJ:List PV) (xO:Int):Gy x3 aJ xO =
 aA (decide (xO<(x3.2.2.1.length:Int))) (bG S5 x3.2.2.1 xO fun u2=>aX 168 [.ptr 0 0,A5 u2] [aB (aJ,())] fun _ u11=>Gy x3 u11.1 (i64.wrap (xO+1))) (CX x3 aJ 0):=ll
theorem Yn (x3:Sh.V S0) (aJ:List PV) (x87:Int):CX x3 aJ x87 =
 aA (decide (x87<2)) (chk (decide (0<=x87)&&decide (x87<(2:Int))) (aA (x87==0) (wU x3 aJ 0 x3.2.2.2.1 x87 x87 (x3.2.2.2.1.length:Int)) (aA (x87==1) (wU x3 aJ 0 x3.2.2.2.2.1 x87 x87 (x3.2.2.2.2.1.length:Int)) (none)))) (Gz x3 aJ 0):=ll
theorem Uj (x3:Sh.V S0) (aJ:List PV) (x93:Int) (x91:List PV) (x10:Int) (x87:Int) (Md:Int):wU x3 aJ x93 x91 x10 x87 Md =
 aA (decide (x93<Md)) (bG S8 x91 x93 fun u2=>chk (decide (0<=x10)&&decide (x10<(2:Int))) (aA (x10==0) (aX 165 [.ptr 0 0,.sl false 1 [.str ⟨#[99,111,109,112,111,110,101,110,116]⟩,.str u2.1]] [aB (aJ,())] fun _ u20=>aX 166 [.ptr 0 0,.sl false 1 [.str ⟨#[61]⟩]] [aB u20] fun _ u23=>aX 165 [.ptr 0 0,.sl false 1 [.str u2.2.1]] [aB u23] fun _ u26=>aX 169 [.ptr 0 0,.sl false 1 u2.2.2.1] [aB u26] fun _ u29=>aX 166 [.ptr 0 0,.sl false 1 [.str ⟨#[59]⟩]] [aB u29] fun _ u32=>wU x3 u32.1 (i64.wrap (x93+1)) x91 x10 x87 Md) (aA (x10==1) (aX 165 [.ptr 0 0,.sl false 1 [.str ⟨#[114,101,113,117,105,114,101,109,101,110,116]⟩,.str u2.1]] [aB (aJ,())] fun _ u5=>aX 166 [.ptr 0 0,.sl false 1 [.str ⟨#[61]⟩]] [aB u5] fun _ u8=>aX 165 [.ptr 0 0,.sl false 1 [.str u2.2.1]] [aB u8] fun _ u11=>aX 169 [.ptr 0 0,.sl false 1 u2.2.2.1] [aB u11] fun _ u14=>aX 166 [.ptr 0 0,.sl false 1 [.str ⟨#[59]⟩]] [aB u14] fun _ MP=>wU x3 MP.1 (i64.wrap (x93+1)) x91 x10 x87 Md) (none)))) (CX x3 aJ (i64.wrap (x87+1))):=ll
theorem aCL (x3:Sh.V S0) (aJ:List PV) (MV:Int):Gz x3 aJ MV =
 aA (decide (MV<(x3.2.2.2.2.2.1.length:Int))) (bG jk x3.2.2.2.2.2.1 MV fun u2=>aX 165 [.ptr 0 0,.sl false 1 [.str ⟨#[101,120,99,108,117,100,101]⟩,.str u2.1]] [aB (aJ,())] fun _ u4=>aX 166 [.ptr 0 0,.sl false 1 [.str ⟨#[58]⟩]] [aB u4] fun _ u7=>H28 170 [.ptr 0 0,.int .i64 (u2.2.1.length:Int),.str ⟨#[44]⟩,.func (.func 171) [] [.ptr 1 0,.ptr 2 0]] [aB u7,some [.ptr 0 0],uy u2] fun _ u10 u11=>aX 166 [.ptr 0 0,.sl false 1 [.str ⟨#[59]⟩]] [aB u10] fun _ u15=>Gz x3 u15.1 (i64.wrap (MV+1))) (H5 x3.2.2.2.2.2.2.1 aJ 0):=ll
theorem aCM (Ik:List PV) (aJ:List PV) (x150:Int):H5 Ik aJ x150 =
 aA (decide (x150<(Ik.length:Int))) (bG ik Ik x150 fun u2=>aX 165 [.ptr 0 0,.sl false 1 [.str ⟨#[108,105,109,105,116]⟩,.str u2.1]] [aB (aJ,())] fun _ u5=>aX 166 [.ptr 0 0,.sl false 1 [.str ⟨#[58]⟩]] [aB u5] fun _ u8=>H29 170 [.ptr 0 0,.int .i64 (u2.2.1.length:Int),.str ⟨#[43]⟩,.func (.func 172) [] [.ptr 1 0,.ptr 2 0]] [aB u8,some [.ptr 0 0],rW u2] fun _ u11 u12=>aX 166 [.ptr 0 0,.sl false 1 [.str ⟨#[60,61]⟩]] [aB u11] fun _ MP=>aX 167 [.ptr 0 0,.int .i64 u12.2.2.1] [aB MP] fun _ u20=>aX 166 [.ptr 0 0,.sl false 1 [.str ⟨#[59]⟩]] [aB u20] fun _ u23=>H5 Ik u23.1 (i64.wrap (x150+1))) (some (.tuple [],[aB (aJ,())])):=ll
theorem a'X (a1:Sh.V S0) (ay:List PV):SS.CC 57 [.ptr 0 0,A0 a1] [aB (ay,())] =
 aX 165 [.ptr 0 0,.sl false 1 [.str ⟨#[109,111,100,101,108]⟩,.str a1.1]] [aB (ay,())] fun _ u1=>aX 166 [.ptr 0 0,.sl false 1 [.str ⟨#[59]⟩]] [aB u1] fun _ u4=>H6 a1 u4.1 0:=cc
def a_0:KT:=SS.rK Tryz.f58 58 0 []
def a_1:KT:=SS.jK 58 83 0 (cS Tryz.f58 255) a_0
def aCO:KT:=au 0 a_1
def a_2:KT:=SS.lK 58 83 0 [6,7,8,9,10,23,24,25] 2 (cS Tryz.f58 1215) aCO
def a_3:KT:=SS.jK 58 83 0 (cS Tryz.f58 15551) a_2
def aCP:KT:=au 1 a_3
def wV (kD:List PV) (x7:Int) (x9:ByteArray) (x25:Int) (ny:List UInt8) (jq:Bool):R:=SS.LL (SS.ae 58 83) 0 [6,7,8,9,10,23,24,25] 2 (cS Tryz.f58 1215) aCO ⟨[(6,.ptr 0 0),(7,.int .i64 x7),(8,.ptr 1 0),(9,.str x9),(10,.func (.func 173) [] [.ptr 1 0,.ptr 0 0]),(23,.sl false 5 kD),(24,.int .i64 (kD.length:Int)),(25,.int .i64 x25)],[lu (ny,()),uz (jq,())]⟩
def Ul (kD:List PV) (ny:List UInt8) (jq:Bool) (q2:Sh.V jl) (x7:Int) (x9:ByteArray) (x25:Int):R:=bI (SS.xX 58 83 0) (cS Tryz.f58 117951) aCP ⟨[(6,.ptr 0 0),(7,.int .i64 x7),(8,.ptr 1 0),(9,.str x9),(10,.func (.func 173) [] [.ptr 1 0,.ptr 0 0]),(12,.ptr 2 0),(23,.sl false 5 kD),(24,.int .i64 (kD.length:Int)),(25,.int .i64 x25)],[lu (ny,()),uz (jq,()),O30 q2]⟩
def CY (kD:List PV) (ny:List UInt8) (jq:Bool) (q2:Sh.V jl) (x7:Int) (x25:Int):R:=bI (SS.xX 58 83 0) (cS Tryz.f58 249023) aCP ⟨[(6,.ptr 0 0),(7,.int .i64 x7),(8,.ptr 1 0),(10,.func (.func 173) [] [.ptr 1 0,.ptr 0 0]),(12,.ptr 2 0),(23,.sl false 5 kD),(24,.int .i64 (kD.length:Int)),(25,.int .i64 x25)],[lu (ny,()),uz (jq,()),O30 q2]⟩
theorem aCQ (kD:List PV) (x7:Int) (x9:ByteArray) (x25:Int) (ny:List UInt8) (jq:Bool):wV kD x7 x9 x25 ny jq =
 aA (decide (x25<(kD.length:Int))) (bG jl kD x25 fun u2=>aA (u2.2.1.toList==(⟨#[125]⟩:ByteArray).toList) (JI 173 [.ptr 0 0,.ptr 1 0] [uz (jq,()),yR (ny,())] fun _ u7 u8=>Ul kD u8.1 u7.1 u2 (if (0:Int)>(i64.wrap (x7-1)) then (0:Int) else (i64.wrap (x7-1))) x9 x25) (Ul kD ny jq u2 x7 x9 x25)) (JI 173 [.ptr 0 0,.ptr 1 0] [uz (jq,()),yR (ny,())] fun _ u11 u12=>H31 53 [.ptr 0 0] [lu u12] fun s15 u16=>some (.tuple [.str s15,.int .i64 0],[])):=ll
theorem a'Y (kD:List PV) (ny:List UInt8) (jq:Bool) (q2:Sh.V jl) (x7:Int) (x9:ByteArray) (x25:Int):Ul kD ny jq q2 x7 x9 x25 =
 aA jq (G2 30 [.str ⟨#[32,32]⟩,.int .i64 x7] fun s1=>XM 52 [.ptr 0 0,.str s1] [lu (ny,())] fun u3 u4=>CY kD u4.1 jq q2 x7 x25) (aA (!(q2.2.1.toList==(⟨#[44]⟩:ByteArray).toList)) (aA (!(q2.2.1.toList==(⟨#[59]⟩:ByteArray).toList)) (aA (!(q2.2.1.toList==(⟨#[41]⟩:ByteArray).toList)) (aA (!(x9.toList==(⟨#[40]⟩:ByteArray).toList)) (XN 174 [.ptr 0 0,.int .u8 32] [lu (ny,())] fun u7=>CY kD u7.1 jq q2 x7 x25) (CY kD ny jq q2 x7 x25)) (CY kD ny jq q2 x7 x25)) (CY kD ny jq q2 x7 x25)) (CY kD ny jq q2 x7 x25)):=by kernel_rfl
theorem a'Z (kD:List PV) (ny:List UInt8) (jq:Bool) (q2:Sh.V jl) (x7:Int) (x25:Int):CY kD ny jq q2 x7 x25 =
 XM 52 [.ptr 0 0,.str q2.2.1] [lu (ny,())] fun u1 u2=>aA (q2.2.1.toList==(⟨#[123]⟩:ByteArray).toList) (JI 173 [.ptr 0 0,.ptr 1 0] [uz (false,()),yR u2] fun _ u5 u6=>wV kD (i64.wrap (x7+1)) q2.2.1 (i64.wrap (x25+1)) u6.1 u5.1) (aA (q2.2.1.toList==(⟨#[125]⟩:ByteArray).toList) (JI 173 [.ptr 0 0,.ptr 1 0] [uz (false,()),yR u2] fun _ u9 u10=>wV kD x7 q2.2.1 (i64.wrap (x25+1)) u10.1 u9.1) (aA (q2.2.1.toList==(⟨#[59]⟩:ByteArray).toList) (JI 173 [.ptr 0 0,.ptr 1 0] [uz (false,()),yR u2] fun _ u13 u14=>wV kD x7 q2.2.1 (i64.wrap (x25+1)) u14.1 u13.1) (wV kD x7 q2.2.1 (i64.wrap (x25+1)) u2.1 false))):=by kernel_rfl
theorem aCR (a0:List PV):SS.CC 58 [.sl false 5 a0] [] =
 G0 114 [.sl false 5 a0] fun u1=>aA (u1.2.1.1 != 0) (some (.tuple [.str ⟨#[]⟩,.int .i64 u1.2.1.1],[])) (NW 175 [.sl false 5 a0] fun l4=>wV l4 0 ⟨#[]⟩ 0 [] true):=cc
theorem aT3 (a0:List PV) (a1:Int):SS.CC 164 [.sl false 1 a0,.int .i64 a1] [] =
 G1 240 [.sl false 1 a0,.int .i64 a1] fun n1=>some (.bool (decide (0<=n1)),[]):=cc
def Ya:KT:=SS.rK Tryz.f168 168 1 []
def aTE:KT:=SS.jK 168 157 1 (cS Tryz.f168 255) Ya
def aA6:KT:=au 0 aTE
def aTH:KT:=SS.lK 168 157 1 [2,3,4,5,30,31,32] 4 (cS Tryz.f168 1215) aA6
def aTI:KT:=SS.jK 168 157 1 (cS Tryz.f168 15551) aTH
def aTJ:KT:=au 1 aTI
def aTK:KT:=SS.jK 168 157 1 (cS Tryz.f168 511) Ya
def aTL:KT:=au 2 aTK
def aTM:KT:=SS.jK 168 157 1 (cS Tryz.f168 1023) Ya
def aA7:KT:=au 4 aTM
def aTF:KT:=SS.lK 168 157 1 [2,3,5,97,98,99] 4 (cS Tryz.f168 4863) aA7
def aTG:KT:=SS.jK 168 157 1 (cS Tryz.f168 62207) aTF
def aA5:KT:=au 5 aTG
def EU (x3:ByteArray) (gm:List PV) (iR:List PV) (q2:Sh.V S6) (aJ:List PV) (gZ:List PV) (x32:Int):R:=SS.LL (SS.ae 168 157) 1 [2,3,4,5,30,31,32] 4 (cS Tryz.f168 1215) aA6 ⟨[(2,.ptr 1 0),(3,.cst (A5 (x3,gm,iR,q2.1,q2.2.1,q2.2.2.1,q2.2.2.2.1,q2.2.2.2.2.1,q2.2.2.2.2.2.1,()))),(4,.ptr 2 0),(5,.ptr 3 0),(30,.sl false 1 gm),(31,.int .i64 (gm.length:Int)),(32,.int .i64 x32)],[aB (aJ,()),some [.ptr 0 0],O6 q2,iG (gZ,())]⟩
def UK (x3:ByteArray) (gm:List PV) (iR:List PV) (q2:Sh.V S6) (aJ:List PV) (gZ:List PV) (x6:Int) (x32:Int):R:=bI (SS.xX 168 157 1) (cS Tryz.f168 249023) aTJ ⟨[(2,.ptr 1 0),(3,.cst (A5 (x3,gm,iR,q2.1,q2.2.1,q2.2.2.1,q2.2.2.2.1,q2.2.2.2.2.1,q2.2.2.2.2.2.1,()))),(4,.ptr 2 0),(5,.ptr 3 0),(6,.int .i64 x6),(30,.sl false 1 gm),(31,.int .i64 (gm.length:Int)),(32,.int .i64 x32)],[aB (aJ,()),some [.ptr 0 0],O6 q2,iG (gZ,())]⟩
def Gs (x3:ByteArray) (gm:List PV) (iR:List PV) (q2:Sh.V S6) (aJ:List PV) (gZ:List PV) (Mc:Int):R:=SS.LL (SS.ae 168 157) 1 [2,3,4,5,60,61,62] 4 (cS Tryz.f168 2431) aTL ⟨[(2,.ptr 1 0),(3,.cst (A5 (x3,gm,iR,q2.1,q2.2.1,q2.2.2.1,q2.2.2.2.1,q2.2.2.2.2.1,q2.2.2.2.2.2.1,()))),(4,.ptr 2 0),(5,.ptr 3 0),(60,.sl false 4 q2.2.2.2.2.1),(61,.int .i64 (q2.2.2.2.2.1.length:Int)),(62,.int .i64 Mc)],[aB (aJ,()),some [.ptr 0 0],O6 q2,iG (gZ,())]⟩
def CV (x3:ByteArray) (gm:List PV) (iR:List PV) (q2:Sh.V S6) (aJ:List PV) (gZ:List PV) (x99:Int):R:=SS.LL (SS.ae 168 157) 1 [2,3,5,97,98,99] 4 (cS Tryz.f168 4863) aA7 ⟨[(2,.ptr 1 0),(3,.cst (A5 (x3,gm,iR,q2.1,q2.2.1,q2.2.2.1,q2.2.2.2.1,q2.2.2.2.2.1,q2.2.2.2.2.2.1,()))),(5,.ptr 3 0),(97,.sl false 8 q2.2.2.2.2.2.1),(98,.int .i64 (q2.2.2.2.2.2.1.length:Int)),(99,.int .i64 x99)],[aB (aJ,()),some [.ptr 0 0],O6 q2,iG (gZ,())]⟩
def UL (x3:ByteArray) (gm:List PV) (iR:List PV) (q2:Sh.V S6) (aJ:List PV) (gZ:List PV) (q4:Sh.V S9) (x99:Int):R:=bI (SS.xX 168 157 1) (cS Tryz.f168 996095) aA5 ⟨[(2,.ptr 1 0),(3,.cst (A5 (x3,gm,iR,q2.1,q2.2.1,q2.2.2.1,q2.2.2.2.1,q2.2.2.2.2.1,q2.2.2.2.2.2.1,()))),(5,.ptr 3 0),(11,.ptr 4 0),(97,.sl false 8 q2.2.2.2.2.2.1),(98,.int .i64 (q2.2.2.2.2.2.1.length:Int)),(99,.int .i64 x99)],[aB (aJ,()),some [.ptr 0 0],O6 q2,iG (gZ,()),O9 q4]⟩
def UM (x3:ByteArray) (gm:List PV) (iR:List PV) (q2:Sh.V S6) (aJ:List PV) (gZ:List PV) (q4:Sh.V S9) (x99:Int):R:=bI (SS.xX 168 157 1) (cS Tryz.f168 2044671) aA5 ⟨[(2,.ptr 1 0),(3,.cst (A5 (x3,gm,iR,q2.1,q2.2.1,q2.2.2.1,q2.2.2.2.1,q2.2.2.2.2.1,q2.2.2.2.2.2.1,()))),(5,.ptr 3 0),(11,.ptr 4 0),(97,.sl false 8 q2.2.2.2.2.2.1),(98,.int .i64 (q2.2.2.2.2.2.1.length:Int)),(99,.int .i64 x99)],[aB (aJ,()),some [.ptr 0 0],O6 q2,iG (gZ,()),O9 q4]⟩
theorem aAA (x3:ByteArray) (gm:List PV) (iR:List PV) (q2:Sh.V S6) (aJ:List PV) (gZ:List PV) (x32:Int):EU x3 gm iR q2 aJ gZ x32 =
 aA (decide (x32<(gm.length:Int))) (dH gm x32 fun e1=>vS e1 fun s2=>aX 165 [.ptr 0 0,.sl false 1 [.str ⟨#[108,111,99,97,116,105,111,110]⟩,.str s2]] [aB (aJ,())] fun _ u3=>aA (x32==q2.2.2.1) (aX 165 [.ptr 0 0,.sl false 1 [.str ⟨#[105,110,105,116,105,97,108]⟩]] [aB u3] fun _ u6=>UK x3 gm iR q2 u6.1 gZ x32 x32) (UK x3 gm iR q2 u3.1 gZ x32 x32)) (Gs x3 gm iR q2 aJ gZ 0):=ll
theorem aTB (x3:ByteArray) (gm:List PV) (iR:List PV) (q2:Sh.V S6) (aJ:List PV) (gZ:List PV) (x6:Int) (x32:Int):UK x3 gm iR q2 aJ gZ x6 x32 =
 G3 164 [.sl false 1 q2.2.2.2.1,.int .i64 x6] fun b1=>aA b1 (aX 165 [.ptr 0 0,.sl false 1 [.str ⟨#[109,97,114,107,101,100]⟩]] [aB (aJ,())] fun _ u3=>aX 166 [.ptr 0 0,.sl false 1 [.str ⟨#[59]⟩]] [aB u3] fun _ u6=>EU x3 gm iR q2 u6.1 gZ (i64.wrap (x32+1))) (aX 166 [.ptr 0 0,.sl false 1 [.str ⟨#[59]⟩]] [aB (aJ,())] fun _ u9=>EU x3 gm iR q2 u9.1 gZ (i64.wrap (x32+1))):=by kernel_rfl
theorem aA8 (x3:ByteArray) (gm:List PV) (iR:List PV) (q2:Sh.V S6) (aJ:List PV) (gZ:List PV) (Mc:Int):Gs x3 gm iR q2 aJ gZ Mc =
 aA (decide (Mc<(q2.2.2.2.2.1.length:Int))) (bG S7 q2.2.2.2.2.1 Mc fun u2=>aX 165 [.ptr 0 0,.sl false 1 [.str ⟨#[118,97,114]⟩,.str u2.1]] [aB (aJ,())] fun _ u6=>aX 166 [.ptr 0 0,.sl false 1 [.str ⟨#[58]⟩]] [aB u6] fun _ u9=>aX 167 [.ptr 0 0,.int .i64 u2.2.1] [aB u9] fun _ u12=>aX 166 [.ptr 0 0,.sl false 1 [.str ⟨#[46,46]⟩]] [aB u12] fun _ u15=>aX 167 [.ptr 0 0,.int .i64 u2.2.2.1] [aB u15] fun _ u18=>aX 166 [.ptr 0 0,.sl false 1 [.str ⟨#[61]⟩]] [aB u18] fun _ u21=>aX 167 [.ptr 0 0,.int .i64 u2.2.2.2.1] [aB u21] fun _ u24=>aX 166 [.ptr 0 0,.sl false 1 [.str ⟨#[59]⟩]] [aB u24] fun _ u27=>Gs x3 gm iR q2 u27.1 gZ (i64.wrap (Mc+1))) (CV x3 gm iR q2 aJ gZ 0):=ll
theorem aA9 (x3:ByteArray) (gm:List PV) (iR:List PV) (q2:Sh.V S6) (aJ:List PV) (gZ:List PV) (x99:Int):CV x3 gm iR q2 aJ gZ x99 =
 aA (decide (x99<(q2.2.2.2.2.2.1.length:Int))) (bG S9 q2.2.2.2.2.2.1 x99 fun u2=>dH gm u2.1 fun e10=>vS e10 fun s11=>dH iR u2.2.1 fun e12=>vS e12 fun s13=>dH gm u2.2.2.1 fun e14=>vS e14 fun s15=>aX 165 [.ptr 0 0,.sl false 1 [.str ⟨#[101,100,103,101]⟩,.str s11,.str s13,.str s15]] [aB (aJ,())] fun _ u16=>wK 116 [] fun u19=>G3 23 [A1 (u2.2.2.2.1,u2.2.2.2.2.1,u2.2.2.2.2.2.1,u2.2.2.2.2.2.2.1,()),A1 u19] fun Xo=>aA (!Xo) (aX 165 [.ptr 0 0,.sl false 1 [.str ⟨#[119,104,101,110]⟩]] [aB u16] fun _ u26=>aX 113 [.ptr 0 0,.sl false 1 gZ,A1 (u2.2.2.2.1,u2.2.2.2.2.1,u2.2.2.2.2.2.1,u2.2.2.2.2.2.2.1,()),.int .i64 0] [aB u26] fun _ u29=>UL x3 gm iR q2 u29.1 gZ u2 x99) (UL x3 gm iR q2 u16.1 gZ u2 x99)) (aX 166 [.ptr 0 0,.sl false 1 [.str ⟨#[125]⟩]] [aB (aJ,())] fun _ u32=>some (.tuple [],[aB u32])):=ll
theorem aTC (x3:ByteArray) (gm:List PV) (iR:List PV) (q2:Sh.V S6) (aJ:List PV) (gZ:List PV) (q4:Sh.V S9) (x99:Int):UL x3 gm iR q2 aJ gZ q4 x99 =
 aA (decide (0<(q4.2.2.2.2.2.2.2.1.length:Int))) (aX 165 [.ptr 0 0,.sl false 1 [.str ⟨#[100,111]⟩]] [aB (aJ,())] fun _ u1=>UM x3 gm iR q2 u1.1 gZ q4 x99) (UM x3 gm iR q2 aJ gZ q4 x99):=by kernel_rfl
theorem aTD (x3:ByteArray) (gm:List PV) (iR:List PV) (q2:Sh.V S6) (aJ:List PV) (gZ:List PV) (q4:Sh.V S9) (x99:Int):UM x3 gm iR q2 aJ gZ q4 x99 =
 H45 170 [.ptr 0 0,.int .i64 (q4.2.2.2.2.2.2.2.1.length:Int),.str ⟨#[44]⟩,.func (.func 242) [] [.ptr 1 0,.ptr 2 0,.ptr 3 0]] [aB (aJ,()),some [.ptr 0 0],iG (gZ,()),O9 q4] fun _ u1 u2 u3=>aX 166 [.ptr 0 0,.sl false 1 [.str ⟨#[59]⟩]] [aB u1] fun _ u13=>CV x3 gm iR q2 u13.1 u2.1 (i64.wrap (x99+1)):=by kernel_rfl
theorem aTN (a1:Sh.V S5) (ay:List PV):SS.CC 168 [.ptr 0 0,A5 a1] [aB (ay,())] =
 G7 241 [.sl false 4 a1.2.2.2.2.2.2.2.1] fun l1=>aX 165 [.ptr 0 0,.sl false 1 [.str ⟨#[116,101,109,112,108,97,116,101]⟩,.str a1.1]] [aB (ay,())] fun _ u3=>aX 169 [.ptr 0 0,.sl false 1 a1.2.2.1] [aB u3] fun _ u6=>aX 166 [.ptr 0 0,.sl false 1 [.str ⟨#[123]⟩]] [aB u6] fun _ u9=>EU a1.1 a1.2.1 a1.2.2.1 (a1.2.2.2.1,a1.2.2.2.2.1,a1.2.2.2.2.2.1,a1.2.2.2.2.2.2.1,a1.2.2.2.2.2.2.2.1,a1.2.2.2.2.2.2.2.2.1,()) u9.1 l1 0:=cc
theorem aTO (a1:List PV) (ay:List PV):SS.CC 169 [.ptr 0 0,.sl false 1 a1] [aB (ay,())] =
 aX 166 [.ptr 0 0,.sl false 1 [.str ⟨#[40]⟩]] [aB (ay,())] fun _ u1=>H46 170 [.ptr 0 0,.int .i64 (a1.length:Int),.str ⟨#[44]⟩,.func (.func 243) [] [.ptr 1 0,.cst (.sl false 1 a1)]] [aB u1,some [.ptr 0 0]] fun _ u4=>aX 166 [.ptr 0 0,.sl false 1 [.str ⟨#[41]⟩]] [aB u4] fun _ u7=>some (.tuple [],[aB u7]):=cc
def aUN:KT:=SS.rK Tryz.f170 170 3 []
def aUO:KT:=au 0 aUN
def Jy (x2:ByteArray) (x9:Int) (aJ:List PV) (q2:Sh.V jk) (x10:Int):R:=SS.LL (SS.ae 170 23) 3 [0,2,3,9,10] 3 (cS Tryz.f170 9) aUO ⟨[(0,.ptr 0 0),(2,.str x2),(3,.func (.func 171) [] [.ptr 1 0,.ptr 2 0]),(9,.int .i64 x9),(10,.int .i64 x10)],[aB (aJ,()),some [.ptr 0 0],uy q2]⟩
theorem aAP (x2:ByteArray) (x9:Int) (aJ:List PV) (q2:Sh.V jk) (x10:Int):Jy x2 x9 aJ q2 x10 =
 aA (decide (x10<x9)) (aA (decide (0<x10)) (aX 166 [.ptr 0 0,.sl false 1 [.str x2]] [aB (aJ,())] fun _ u1=>XQ 171 [.int .i64 x10,.ptr 0 0,.ptr 1 0] [some [.ptr 2 0],uy q2,aB u1] fun _ u4 u6=>Jy x2 x9 u6.1 u4 (i64.wrap (x10+1))) (XQ 171 [.int .i64 x10,.ptr 0 0,.ptr 1 0] [some [.ptr 2 0],uy q2,aB (aJ,())] fun _ u9 u11=>Jy x2 x9 u11.1 u9 (i64.wrap (x10+1)))) (some (.tuple [],[aB (aJ,()),some [.ptr 0 0],uy q2])):=ll
theorem aUP (a1:Int) (a2:ByteArray) (ay:List PV) (h2:Sh.V jk):SS.CC 170 [.ptr 0 0,.int .i64 a1,.str a2,.func (.func 171) [] [.ptr 1 0,.ptr 2 0]] [aB (ay,()),some [.ptr 0 0],uy h2] =
 Jy a2 a1 ay h2 0:=cc
def aUE:KT:=SS.rK Tryz.f170 170 3 []
def aUF:KT:=au 0 aUE
def Ju (x2:ByteArray) (x9:Int) (aJ:List PV) (q2:Sh.V ik) (x10:Int):R:=SS.LL (SS.ae 170 23) 3 [0,2,3,9,10] 3 (cS Tryz.f170 9) aUF ⟨[(0,.ptr 0 0),(2,.str x2),(3,.func (.func 172) [] [.ptr 1 0,.ptr 2 0]),(9,.int .i64 x9),(10,.int .i64 x10)],[aB (aJ,()),some [.ptr 0 0],rW q2]⟩
theorem aAM (x2:ByteArray) (x9:Int) (aJ:List PV) (q2:Sh.V ik) (x10:Int):Ju x2 x9 aJ q2 x10 =
 aA (decide (x10<x9)) (aA (decide (0<x10)) (aX 166 [.ptr 0 0,.sl false 1 [.str x2]] [aB (aJ,())] fun _ u1=>XR 172 [.int .i64 x10,.ptr 0 0,.ptr 1 0] [some [.ptr 2 0],rW q2,aB u1] fun _ u4 u7=>Ju x2 x9 u7.1 u4 (i64.wrap (x10+1))) (XR 172 [.int .i64 x10,.ptr 0 0,.ptr 1 0] [some [.ptr 2 0],rW q2,aB (aJ,())] fun _ u10 u13=>Ju x2 x9 u13.1 u10 (i64.wrap (x10+1)))) (some (.tuple [],[aB (aJ,()),some [.ptr 0 0],rW q2])):=ll
theorem aUG (a1:Int) (a2:ByteArray) (ay:List PV) (h2:Sh.V ik):SS.CC 170 [.ptr 0 0,.int .i64 a1,.str a2,.func (.func 172) [] [.ptr 1 0,.ptr 2 0]] [aB (ay,()),some [.ptr 0 0],rW h2] =
 Ju a2 a1 ay h2 0:=cc
def aUH:KT:=SS.rK Tryz.f170 170 4 []
def aUI:KT:=au 0 aUH
def Jv (x2:ByteArray) (x9:Int) (aJ:List PV) (wz:List PV) (q3:Sh.V S9) (x10:Int):R:=SS.LL (SS.ae 170 23) 4 [0,2,3,9,10] 4 (cS Tryz.f170 9) aUI ⟨[(0,.ptr 0 0),(2,.str x2),(3,.func (.func 242) [] [.ptr 1 0,.ptr 2 0,.ptr 3 0]),(9,.int .i64 x9),(10,.int .i64 x10)],[aB (aJ,()),some [.ptr 0 0],iG (wz,()),O9 q3]⟩
theorem aAN (x2:ByteArray) (x9:Int) (aJ:List PV) (wz:List PV) (q3:Sh.V S9) (x10:Int):Jv x2 x9 aJ wz q3 x10 =
 aA (decide (x10<x9)) (aA (decide (0<x10)) (aX 166 [.ptr 0 0,.sl false 1 [.str x2]] [aB (aJ,())] fun _ u1=>XU 242 [.int .i64 x10,.ptr 0 0,.ptr 1 0,.ptr 2 0] [some [.ptr 3 0],iG (wz,()),O9 q3,aB u1] fun _ u4 u5 u13=>Jv x2 x9 u13.1 u4.1 u5 (i64.wrap (x10+1))) (XU 242 [.int .i64 x10,.ptr 0 0,.ptr 1 0,.ptr 2 0] [some [.ptr 3 0],iG (wz,()),O9 q3,aB (aJ,())] fun _ u16 MP u25=>Jv x2 x9 u25.1 u16.1 MP (i64.wrap (x10+1)))) (some (.tuple [],[aB (aJ,()),some [.ptr 0 0],iG (wz,()),O9 q3])):=ll
theorem aUJ (a1:Int) (a2:ByteArray) (ay:List PV) (mQ:List PV) (h3:Sh.V S9):SS.CC 170 [.ptr 0 0,.int .i64 a1,.str a2,.func (.func 242) [] [.ptr 1 0,.ptr 2 0,.ptr 3 0]] [aB (ay,()),some [.ptr 0 0],iG (mQ,()),O9 h3] =
 Jv a2 a1 ay mQ h3 0:=cc
def aUK:KT:=SS.rK Tryz.f170 170 2 []
def aUL:KT:=au 0 aUK
def Jw (x2:ByteArray) (x3:List PV) (x9:Int) (aJ:List PV) (x10:Int):R:=SS.LL (SS.ae 170 23) 2 [0,2,3,9,10] 2 (cS Tryz.f170 9) aUL ⟨[(0,.ptr 0 0),(2,.str x2),(3,.func (.func 243) [] [.ptr 1 0,.cst (.sl false 1 x3)]),(9,.int .i64 x9),(10,.int .i64 x10)],[aB (aJ,()),some [.ptr 0 0]]⟩
theorem aAO (x2:ByteArray) (x3:List PV) (x9:Int) (aJ:List PV) (x10:Int):Jw x2 x3 x9 aJ x10 =
 aA (decide (x10<x9)) (aA (decide (0<x10)) (aX 166 [.ptr 0 0,.sl false 1 [.str x2]] [aB (aJ,())] fun _ u1=>dh 243 [.int .i64 x10,.ptr 0 0,.cst (.sl false 1 x3)] [some [.ptr 1 0],aB u1] fun _ u4=>Jw x2 x3 x9 u4.1 (i64.wrap (x10+1))) (dh 243 [.int .i64 x10,.ptr 0 0,.cst (.sl false 1 x3)] [some [.ptr 1 0],aB (aJ,())] fun _ u7=>Jw x2 x3 x9 u7.1 (i64.wrap (x10+1)))) (some (.tuple [],[aB (aJ,()),some [.ptr 0 0]])):=ll
theorem aUM (a1:Int) (a2:ByteArray) (a3:List PV) (ay:List PV):SS.CC 170 [.ptr 0 0,.int .i64 a1,.str a2,.func (.func 243) [] [.ptr 1 0,.cst (.sl false 1 a3)]] [aB (ay,()),some [.ptr 0 0]] =
 Jw a2 a3 a1 ay 0:=cc
theorem aUQ (a0:Int) (h1:Sh.V jk) (mQ:List PV):SS.CC 171 [.int .i64 a0,.ptr 0 0,.ptr 1 0] [some [.ptr 2 0],uy h1,aB (mQ,())] =
 bG xQ h1.2.1 a0 fun u2=>bG xQ h1.2.1 a0 fun u5=>aX 165 [.ptr 0 0,.sl false 1 [.str u2.1,.str u5.2.1]] [aB (mQ,())] fun _ u7=>some (.tuple [],[some [.ptr 2 0],uy h1,aB u7]):=cc
theorem aUR (a0:Int) (h1:Sh.V ik) (mQ:List PV):SS.CC 172 [.int .i64 a0,.ptr 0 0,.ptr 1 0] [some [.ptr 2 0],rW h1,aB (mQ,())] =
 bG yS h1.2.1 a0 fun u2=>aX 167 [.ptr 0 0,.int .i64 u2.2.1] [aB (mQ,())] fun _ u4=>aX 166 [.ptr 0 0,.sl false 1 [.str ⟨#[42]⟩]] [aB u4] fun _ u7=>bG yS h1.2.1 a0 fun u11=>aX 165 [.ptr 0 0,.sl false 1 [.str u11.1]] [aB u7] fun _ u13=>some (.tuple [],[some [.ptr 2 0],rW h1,aB u13]):=cc
theorem aUS (ay:Bool) (Yy:List UInt8):SS.CC 173 [.ptr 0 0,.ptr 1 0] [uz (ay,()),yR (Yy,())] =
 aA (!ay) (XN 174 [.ptr 0 0,.int .u8 10] [lu (Yy,())] fun u1=>some (.tuple [],[uz (true,()),yR u1])) (some (.tuple [],[uz (ay,()),yR (Yy,())])):=cc
theorem aUT (a1:Int) (PI:List UInt8):SS.CC 174 [.ptr 0 0,.int .u8 a1] [lu (PI,())] =
 XT 162 [.ptr 0 0] [lu (PI,())] fun _ u1=>chk (decide (u1.1.length+1<=aV)&&decide ((0:Int)<=a1)&&decide (a1<(256:Int))) (some (.raw .nilIface,[lu ((u1.1 ++ [UInt8.ofNat (Int.toNat a1)]),())])):=cc
def aWH:KT:=SS.rK Tryz.f240 240 0 []
def aWI:KT:=SS.jK 240 19 0 (cS Tryz.f240 7) aWH
def aWJ:KT:=au 0 aWI
def Om (x0:List PV) (x1:Int) (x8:Int):R:=SS.LL (SS.ae 240 19) 0 [0,1,7,8] 0 (cS Tryz.f240 37) aWJ ⟨[(0,.sl false 1 x0),(1,.int .i64 x1),(7,.int .i64 (x0.length:Int)),(8,.int .i64 x8)],[]⟩
theorem aA' (x0:List PV) (x1:Int) (x8:Int):Om x0 x1 x8 =
 aA (decide (x8<(x0.length:Int))) (dH x0 x8 fun e1=>vI .i64 e1 fun n2=>aA (x1==n2) (some (.int .i64 x8,[])) (Om x0 x1 (i64.wrap (x8+1)))) (some (.int .i64 (-1),[])):=ll
theorem aWK (a0:List PV) (a1:Int):SS.CC 240 [.sl false 1 a0,.int .i64 a1] [] =
 Om a0 a1 0:=cc
theorem aWL (a0:List PV):SS.CC 241 [.sl false 4 a0] [] =
 G7 297 [.sl false 4 a0,.func (.func 298) [] []] fun l1=>some (.sl true 1 l1,[]):=cc
theorem aWM (a0:Int) (lD:List PV) (h2:Sh.V S9) (aDG:List PV):SS.CC 242 [.int .i64 a0,.ptr 0 0,.ptr 1 0,.ptr 2 0] [some [.ptr 3 0],iG (lD,()),O9 h2,aB (aDG,())] =
 bG pF h2.2.2.2.2.2.2.2.1 a0 fun u2=>dH lD u2.1 fun e7=>vS e7 fun s8=>aX 165 [.ptr 0 0,.sl false 1 [.str s8]] [aB (aDG,())] fun _ u9=>aX 166 [.ptr 0 0,.sl false 1 [.str ⟨#[58,61]⟩]] [aB u9] fun _ u12=>bG pF h2.2.2.2.2.2.2.2.1 a0 fun u16=>aX 113 [.ptr 0 0,.sl false 1 lD,A1 (u16.2.1,u16.2.2.1,u16.2.2.2.1,u16.2.2.2.2.1,()),.int .i64 0] [aB u12] fun _ u21=>some (.tuple [],[some [.ptr 3 0],iG (lD,()),O9 h2,aB u21]):=cc
theorem aWN (a0:Int) (a2:List PV) (lD:List PV):SS.CC 243 [.int .i64 a0,.ptr 0 0,.cst (.sl false 1 a2)] [some [.ptr 1 0],aB (lD,())] =
 dH a2 a0 fun e1=>vS e1 fun s2=>aX 165 [.ptr 0 0,.sl false 1 [.str s2]] [aB (lD,())] fun _ u3=>some (.tuple [],[some [.ptr 1 0],aB u3]):=cc
def aXN:KT:=SS.rK Tryz.f297 297 0 []
def aXO:KT:=SS.jK 297 22 0 (cS Tryz.f297 15) aXN
def aXP:KT:=au 0 aXO
def UY (x8:List PV) (x5:List PV) (x10:Int):R:=SS.LL (SS.ae 297 22) 0 [1,5,8,9,10] 0 (cS Tryz.f297 75) aXP ⟨[(1,.func (.func 298) [] []),(5,.sl true 1 x5),(8,.sl false 4 x8),(9,.int .i64 (x8.length:Int)),(10,.int .i64 x10)],[]⟩
theorem aBE (x8:List PV) (x5:List PV) (x10:Int):UY x8 x5 x10 =
 aA (decide (x10<(x8.length:Int))) (bG S7 x8 x10 fun u2=>G2 298 [A7 u2] fun s6=>chk (decide (x5.length+1<=aV)) (UY x8 (x5 ++ ([.str s6]:List PV)) (i64.wrap (x10+1)))) (some (.sl true 1 x5,[])):=ll
theorem aXQ (a0:List PV):SS.CC 297 [.sl false 4 a0,.func (.func 298) [] []] [] =
 UY a0 [] 0:=cc
theorem aXR (a0:Sh.V S7):SS.CC 298 [A7 a0] [] =
 some (.str a0.1,[]):=cc
end
theorem aJC {v:Nat->Int}:∀ (m k:Nat),xJ v k m=0->∀ i,k<=i->i<k+m->v i=0
 | 0,k,_,i,a,b=>by omega
 | m+1,k,h,i,a,b=>by
  rw[xJ] at h;by_cases hv:v k=0
  .rw[aH hv] at h;by_cases hi:i=k
   .rw[hi]; exact hv
   .exact aJC m (k+1) h i (by omega) (by omega)
  .rw[aI hv] at h; exact absurd h hv
theorem xY {v:Nat->Int} {n:Nat} (h:nH v n=0) {i:Nat} (hi:i<n):v i=0:=aJC n 0 h i (uA _) (by omega)
theorem tH {a b:Int} (h:sq a b=0):a=0/\b=0:=by
 unfold sq at h;by_cases ha:a=0
 .rw[aH ha] at h; exact ⟨ha,h⟩
 .rw[aI ha] at h; exact absurd h ha
theorem gp {b:Bool} {c x:Int} (hc:c≠0) (h:(bif b then c else x)=0):b=false/\x=0:=by
 cases b with
 | false=>exact ⟨rfl,h⟩
 | true=>exact absurd h hc
theorem xu {α:Type} {l:List α} {x:α} (h:x∈l):∃ k,∃ hk:k<l.length,l[k]=x:=List.getElem_of_mem h
theorem aKV {x:EX} (hx:x.Len) {n w:Int} (h0:0<=n) (h1:n<=16) (h:Bd x n w=0):Fd n x/\lg x<=64:=by
 have h2:(vJ x n).2=0:=by
  unfold Bd at h;cases he:(vJ x n).2==0 with
  | true=>simpa using he
  | false=>rw[he] at h; exact h
 obtain ⟨k,e,r1,r2⟩:=a7L hx h0 h1;have r3:=Y2 hx h0;rw[r1] at r3;have:e=(vJ x n).2:=by injection r3 with r3; injection r3 with r3 _; injection r3 with r3; injection r3 with _ r3; injection r3 with r3 _; injection r3
 have r4:=r2 (this.trans h2);exact ⟨r4.1,r4.2.2⟩
structure uF (n:Nat) (x:EX):Prop where
 len:x.Len
 fd:Fd (n:Int) x
 sz:lg x<=64
abbrev R16 (v:Int):Prop := -65536<=v/\v<=65536
abbrev Gn (s:Nm):Prop:=nameB s=true
structure Rk (t:Tm) (x:Mv):Prop where
 f:0<=x.f/\x.f<t.ls.length
 e:0<=x.e/\x.e<t.es.length
 d:0<=x.t/\x.t<t.ls.length
 g:uF t.vs.length x.g
 us:∀ u,u∈x.us->(0<=u.1/\u.1<t.vs.length)/\uF t.vs.length u.2
structure yP (t:Tm):Prop where
 ls:∀ s,s∈t.ls->Gn s
 es:∀ s,s∈t.es->Gn s
 vs:∀ v,v∈t.vs->Gn v.n/\R16 v.lo/\R16 v.hi/\R16 v.i
 v16:t.vs.length<=16
 ms:∀ x,x∈t.ms->Rk t x
structure zy (m:Mo):Prop where
 n:Gn m.n
 es:∀ e,e∈m.es->Gn e.n/\0<=e.k/\e.k<=4
 ts:∀ t,t∈m.ts->Gn t.n/\yP t
 is:∀ x,x∈m.cs ++ m.rs->Gn x.n/\Gn x.t/\∀ s,s∈x.es->Gn s
 xs:∀ x,x∈m.xs->Gn x.n/\x.ls ≠ []/\∀ l,l∈x.ls->Gn l.1/\Gn l.2
 ks:∀ x,x∈m.ks->Gn x.n/\x.ts ≠ []/\R16 x.b/\∀ l,l∈x.ts->Gn l.1/\R16 l.2
theorem F7 {b:Bool} (h:(!b)=false):b=true:=by cases b<;>simp_all
theorem OW {l:List Nm} {s:Nm} (h:vM l s=0):Gn s/\s∉l:=by obtain ⟨a,b⟩:=gp (by decide) h;obtain ⟨c,_⟩:=gp (by decide) b;exact ⟨F7 a,by simpa using c⟩
theorem aH5 {l:List Nm} (h:F8 l=0):∀ s,s∈l->Gn s:=fun s hs=>by obtain ⟨k,hk,e⟩:=xu hs;have:=xY h hk;rw[gD hk,e] at this;exact (OW this).1
theorem bEU {l:List Vr} {v:Vr} (h:vrE l v=0):Gn v.n/\R16 v.lo/\R16 v.hi/\R16 v.i:=by obtain ⟨a,h⟩:=gp (by decide) h;obtain ⟨b,h⟩:=gp (by decide) h;obtain ⟨c,h⟩:=gp (by decide) h;obtain ⟨d,h⟩:=gp (by decide) h;obtain ⟨e,h⟩:=gp (by decide) h;obtain ⟨f,h⟩:=gp (by decide) h;obtain ⟨g,_⟩:=gp (by decide) h;simp only[big,Iy,NK] at c d e f g;exact ⟨F7 a,by omega,by omega,by omega⟩
theorem aP7 {l:List Vr} (h:Gf l=0):l.length<=16/\∀ v,v∈l->Gn v.n/\R16 v.lo/\R16 v.hi/\R16 v.i:=by obtain ⟨a,h⟩:=gp (by decide) h;simp only[NK] at a;refine ⟨by omega,fun v hv => ?_⟩;obtain ⟨k,hk,e⟩:=xu hv;have:=xY h hk;rw[gD hk,e] at this;exact bEU this
theorem b6Y {t:Tm} (h16:t.vs.length<=16) {x:Mv} (hx:x.g.Len) (hu:∀ u,u∈x.us->u.2.Len) (h:Pz (t.ls.length:Int) (t.es.length:Int) (t.vs.length:Int) x=0):Rk t x:=by obtain ⟨a,h⟩:=gp (by decide) h;obtain ⟨b,h⟩:=gp (by decide) h;obtain ⟨c,h⟩:=gp (by decide) h;obtain ⟨d,h⟩:=gp (by decide) h;obtain ⟨e,h⟩:=gp (by decide) h;obtain ⟨f,h⟩:=gp (by decide) h;obtain ⟨g,h⟩:=tH h;simp only[NK] at a b c d e f;obtain ⟨g1,g2⟩:=aKV hx (by omega) (by omega) g;refine ⟨⟨by omega,by omega⟩,⟨by omega,by omega⟩,⟨by omega,by omega⟩,⟨hx,g1,g2⟩,fun u hu2 => ?_⟩;obtain ⟨k,hk,e⟩:=xu hu2;have:=xY h hk;unfold Qs at this;rw[gD hk,e] at this;obtain ⟨a,h⟩:=gp (by decide) this;obtain ⟨b,h⟩:=gp (by decide) h;obtain ⟨_,h⟩:=gp (by decide) h;simp only[NK] at a b;obtain ⟨g1,g2⟩:=aKV (hu u hu2) (by omega) (by omega) h;exact ⟨⟨by omega,by omega⟩,hu u hu2,g1,g2⟩
theorem b1F {t:Tm} (ho:pq t) (h:Df t=0):yP t:=by obtain ⟨h1,h⟩:=tH h;obtain ⟨h2,h⟩:=tH h;obtain ⟨_,h⟩:=gp (by decide) h;obtain ⟨_,h⟩:=tH h;obtain ⟨_,h⟩:=gp (by decide) h;obtain ⟨_,h⟩:=gp (by decide) h;obtain ⟨_,h⟩:=gp (by decide) h;obtain ⟨_,h⟩:=tH h;obtain ⟨h3,h⟩:=tH h;obtain ⟨_,h⟩:=tH h;obtain ⟨c1,c2⟩:=aP7 h3;refine ⟨aH5 h2,aH5 h1,c2,c1,fun x hx => ?_⟩;obtain ⟨k,hk,e⟩:=xu hx;have:=xY h hk;rw[gD hk,e] at this;obtain ⟨o1,_,o2⟩:=ho.ms.2 x hx;exact b6Y c1 o1 o2 this
theorem a6S {b:Int} (h:AU b=0):R16 b:=by obtain ⟨a,h⟩:=gp (by decide) h;obtain ⟨c,_⟩:=gp (by decide) h;simp only[NK] at a c;exact ⟨by omega,by omega⟩
theorem Yq {m:Mo} (ho:ji m) (h:sF m=0):zy m:=by
 obtain ⟨h1,h⟩:=gp (by decide) h;obtain ⟨h2,h⟩:=tH h;obtain ⟨_,h⟩:=gp (by decide) h;obtain ⟨_,h⟩:=gp (by decide) h;obtain ⟨_,h⟩:=gp (by decide) h;obtain ⟨_,h⟩:=gp (by decide) h;obtain ⟨_,h⟩:=gp (by decide) h;obtain ⟨h3,h⟩:=tH h;obtain ⟨h4,h⟩:=tH h;obtain ⟨h5,h6⟩:=tH h;obtain ⟨_,h2⟩:=gp (by decide) h2;refine ⟨F7 h1,fun e he => ?_,fun t ht => ?_,fun x hx => ?_,fun x hx => ?_,fun x hx => ?_⟩
 .obtain ⟨k,hk,e1⟩:=xu he;have:=xY h2 hk;rw[gD hk,e1] at this;obtain ⟨a,h⟩:=gp (by decide) this;obtain ⟨_,h⟩:=gp (by decide) h;obtain ⟨b,h⟩:=gp (by decide) h;obtain ⟨c,h⟩:=gp (by decide) h;simp only[NK] at b c;exact ⟨F7 a,by omega,by omega⟩
 .obtain ⟨k,hk,e1⟩:=xu ht;have:=xY h3 hk;rw[gD hk,e1] at this;obtain ⟨a,b⟩:=tH this;exact ⟨(OW a).1,b1F (ho.ts.2 t ht).2 b⟩
 .obtain ⟨k,hk,e1⟩:=xu hx;have:=xY h4 hk;rw[gD hk,e1] at this;obtain ⟨a,b⟩:=tH this;have b2:∀ s,s∈x.t::x.es->Gn s:=fun s hs=>by obtain ⟨j,hj,e2⟩:=xu hs;have:=xY b hj;rw[gD hj,e2] at this;exact F7 (gp (by decide) this).1
  exact ⟨(OW a).1,b2 _ (by simp),fun s hs=>b2 s (by simp[hs])⟩
 .obtain ⟨k,hk,e1⟩:=xu hx;have:=xY h5 hk;rw[gD hk,e1] at this;obtain ⟨a,b⟩:=tH this;obtain ⟨c,d⟩:=gp (by decide) b;refine ⟨(OW a).1,fun hc=>by rw[hc] at c; simp at c,fun l hl => ?_⟩;obtain ⟨j,hj,e2⟩:=xu hl;have:=xY d hj;rw[gD hj,e2] at this;obtain ⟨p,q⟩:=gp (by decide) this;exact ⟨F7 p,F7 (gp (by decide) q).1⟩
 .obtain ⟨k,hk,e1⟩:=xu hx;have:=xY h6 hk;rw[gD hk,e1] at this;obtain ⟨a,b⟩:=tH this;obtain ⟨c,d⟩:=gp (by decide) b;obtain ⟨d,e⟩:=tH d;refine ⟨(OW a).1,fun hc=>by rw[hc] at c; simp at c,a6S e,fun l hl => ?_⟩;obtain ⟨j,hj,e2⟩:=xu hl;have:=xY d hj;rw[gD hj,e2] at this;obtain ⟨p,q⟩:=gp (by decide) this;exact ⟨F7 p,a6S q⟩
def uP (ns:List Nm) (x:EX):List Tok:=open Classical in if h:∃ B,PB ns x B/\B.length<=8*lg x then Classical.choose h else []
theorem Tz {ns:List Nm} {x:EX} (h:uF ns.length x):PB ns x (uP ns x)/\(uP ns x).length<=512:=by have hx:=b9S ns h.fd;have hs:=h.sz;unfold uP;rw[dif_pos hx];have:=N9 hx;exact ⟨this.1,by omega⟩
def gq (s:Tok):List (List Tok)->List Tok
 | [] => []
 | [a]=>a
 | a::b::l=>a ++ s::gq s (b::l)
def qo (l:List Nm):List Tok:=tS [40]::(gq (tS [44]) (l.map fun s => [tW s]) ++ [tS [41]])
def pz (e:nD):List Tok := [tW [101,118,101,110,116],tW e.n] ++ (if e.c then [tW [99,111,110,116,114,111,108,108,97,98,108,101]] else []) ++ (if e.o then [tW [111,98,115,101,114,118,97,98,108,101]] else []) ++ (if e.f then [tW [102,111,114,99,105,98,108,101]] else []) ++ (if e.k=0 then [] else tW [102,97,117,108,116]::eG e.k) ++ [tS [59]]
def vV (I:Int) (mr:List Int) (i:Nat) (s:Nm):List Tok := [tW [108,111,99,97,116,105,111,110],tW s] ++ (if (i:Int)=I then [tW [105,110,105,116,105,97,108]] else []) ++ (if (i:Int)∈mr then [tW [109,97,114,107,101,100]] else []) ++ [tS [59]]
def vW (I:Int) (mr:List Int):Nat->List Nm->List Tok
 | _,[] => []
 | i,s::l=>vV I mr i s ++ vW I mr (i+1) l
def o6 (v:Vr):List Tok := [tW [118,97,114],tW v.n,tS [58]] ++ eG v.lo ++ [tS [46,46]] ++ eG v.hi ++ [tS [61]] ++ eG v.i ++ [tS [59]]
def ku (ns:List Nm) (u:Int×EX):List Tok := [tW (ns.getD u.1.toNat []),tS [58,61]] ++ uP ns u.2
def lJ (t:Tm) (x:Mv):List Tok := [tW [101,100,103,101],tW (t.ls.getD x.f.toNat []),tW (t.es.getD x.e.toNat []),tW (t.ls.getD x.t.toNat [])] ++ (if dY x.g tE then [] else tW [119,104,101,110]::uP (t.vs.map (·.n)) x.g) ++ (if x.us = [] then [] else tW [100,111]::gq (tS [44]) (x.us.map (ku (t.vs.map (·.n))))) ++ [tS [59]]
def jv (t:Tm):List Tok := [tW [116,101,109,112,108,97,116,101],tW t.n] ++ qo t.es ++ [tS [123]] ++ vW t.I t.mr 0 t.ls ++ t.vs.flatMap o6 ++ t.ms.flatMap (lJ t) ++ [tS [125]]
def inT (w:Nm) (x:Ins):List Tok := [tW w,tW x.n,tS [61],tW x.t] ++ qo x.es ++ [tS [59]]
abbrev wC:Nm := [99,111,109,112,111,110,101,110,116]
abbrev wR:Nm := [114,101,113,117,105,114,101,109,101,110,116]
def pY (x:qX):List Tok := [tW [101,120,99,108,117,100,101],tW x.n,tS [58]] ++ gq (tS [44]) (x.ls.map fun l => [tW l.1,tW l.2]) ++ [tS [59]]
def pJ (x:Cst):List Tok := [tW [108,105,109,105,116],tW x.n,tS [58]] ++ gq (tS [43]) (x.ts.map fun l=>eG l.2 ++ [tS [42],tW l.1]) ++ [tS [60,61]] ++ eG x.b ++ [tS [59]]
def jH (m:Mo):List Tok := [tW [109,111,100,101,108],tW m.n,tS [59]] ++ m.es.flatMap pz ++ m.ts.flatMap jv ++ m.cs.flatMap (inT wC) ++ m.rs.flatMap (inT wR) ++ m.xs.flatMap pY ++ m.ks.flatMap pJ
def dP (F:Nat->List Tok):Nat->Nat->List Tok
 | _,0 => []
 | k,m+1=>F k ++ dP F (k+1) m
theorem a7E {L:List Tok->Nat->R} {F:Nat->List Tok} {n N:Nat} (hs:∀ k,k<n->∀ A:List Tok,A.length+(F k).length<=N->L A k=L (A ++ F k) (k+1)):∀ (m k:Nat) (A:List Tok),k+m=n->A.length+(dP F k m).length<=N->L A k=L (A ++ dP F k m) n
 | 0,k,A,h,_=>by
  have:k=n:=by omega
  subst this;rw[dP,yN]
 | m+1,k,A,h,hN=>by rw[dP,aK] at hN;rw[hs k (by omega) A (by omega),a7E hs m (k+1) _ (by omega) (by rw[aK]; omega),dP,kN]
theorem lG {L:List Tok->Nat->R} {F:Nat->List Tok} {n:Nat} (N:Nat) {A:List Tok} (hs:∀ k,k<n->∀ A:List Tok,A.length+(F k).length<=N->L A k=L (A ++ F k) (k+1)) (hN:A.length+(dP F 0 n).length<=N):L A 0=L (A ++ dP F 0 n) n:=a7E hs n 0 A (by omega) hN
theorem a7D {α:Type} (l:List α) (d:α) (F:Nat->List Tok) (f:α->List Tok) (h:∀ k,k<l.length->F k=f (l.getD k d)):∀ (m k:Nat),k+m=l.length->dP F k m=(l.drop k).flatMap f
 | 0,k,e=>by rw[zq (by omega)]; rfl
 | m+1,k,e=>by rw[dP,a7D l d F f h m (k+1) (by omega),h k (by omega),yO (by omega:k<l.length),J5,gD (by omega:k<l.length)]
theorem sD {α:Type} {l:List α} (d:α) {F:Nat->List Tok} {f:α->List Tok} (h:∀ k,k<l.length->F k=f (l.getD k d)):dP F 0 l.length=l.flatMap f:=a7D l d F f h l.length 0 (by omega)
theorem Xy {F G:Nat->List Tok}:∀ (m k:Nat),(∀ i,k<=i->i<k+m->F i=G i)->dP F k m=dP G k m
 | 0,_,_=>rfl
 | m+1,k,h=>by rw[dP,dP,h k (bQ _) (by omega),Xy m (k+1) fun i a b=>h i (by omega) (by omega)]
theorem TK (F:Nat->List Tok):∀ (m k:Nat),dP F (k+1) m=dP (fun i=>F (i+1)) k m
 | 0,_=>rfl
 | m+1,k=>by rw[dP,dP,TK F m (k+1)]
theorem a7G {α:Type} (s:Tok) (d:α) (f:α->List Tok):∀ (l:List α) (a:List Tok),a ++ dP (fun k=>s::f (l.getD k d)) 0 l.length=gq s (a::l.map f)
 | [],a=>by rw[aj,dP,yN]; rfl
 | b::l,a=>by rw[aU,dP,TK];show a ++ (s::(f b ++ dP (fun k=>s::f (l.getD k d)) 0 l.length))=_;rw[a7G s d f l (f b)]; rfl
theorem TJ {α:Type} {l:List α} (s:Tok) (d:α) {F:Nat->List Tok} {f:α->List Tok} (p:List Tok) (hl:l ≠ []) (h0:F 0=p ++ f (l.getD 0 d)) (h:∀ k,F (k+1)=s::f (l.getD (k+1) d)):dP F 0 l.length=p ++ gq s (l.map f):=by
 match l,hl with
 | a::l,_ =>rw[aU,dP,TK,h0,Xy (G:=fun k=>s::f (l.getD k d)) l.length 0 (fun i _ _=>h i),kN,a7G];rfl
theorem O0 {α:Type} {l:List α} (s:Tok) (d:α) {F:Nat->List Tok} {f:α->List Tok} (h0:F 0=f (l.getD 0 d)) (h:∀ k,F (k+1)=s::f (l.getD (k+1) d)):dP F 0 l.length=gq s (l.map f):=by
 by_cases hl:l = []
 .subst hl; rfl
 .exact TJ s d [] hl h0 h
theorem Xz (I:Int) (mr:List Int):∀ (l:List Nm) (k:Nat),dP (fun i=>vV I mr (k+i) (l.getD i [])) 0 l.length=vW I mr k l
 | [],_=>rfl
 | s::l,k=>by
  rw[aU,dP,TK,vW,<- Xz I mr l (k+1)];congr 1
  exact Xy _ _ fun i _ _=>by show vV I mr (k+(i+1)) _=vV I mr (k+1+i) _;rw[show k+(i+1)=k+1+i by omega]; rfl
theorem gW {A:List Tok} {j:Nat} (h:A.length+j<=200000000):decide ((bH A).length+j<=aV)=true:=aN (by rw[jy]; show A.length+j<=1073741824; omega)
theorem nJ (A:List Tok) (b:ByteArray):bH A ++ ([.str b]:List PV)=bH (A ++ [tW b.data.toList]):=by rw[oW];show _=bH A ++ [.str (bs b.data.toList)];rw[oK]
theorem EE (A:List Tok) (b c:ByteArray):bH A ++ ([.str b,.str c]:List PV)=bH (A ++ [tW b.data.toList,tW c.data.toList]):=by rw[oW];show _=bH A ++ [.str (bs b.data.toList),.str (bs c.data.toList)];rw[oK,oK]
theorem Xl (A:List Tok) (b c d:ByteArray):bH A ++ ([.str b,.str c,.str d]:List PV)=bH (A ++ [tW b.data.toList,tW c.data.toList,tW d.data.toList]):=by rw[oW];show _=bH A ++ [.str (bs b.data.toList),.str (bs c.data.toList),.str (bs d.data.toList)];rw[oK,oK,oK]
theorem ap4 (A:List Tok) (b c d e:ByteArray):bH A ++ ([.str b,.str c,.str d,.str e]:List PV)=bH (A ++ [tW b.data.toList,tW c.data.toList,tW d.data.toList,tW e.data.toList]):=by rw[oW];show _=bH A ++ [.str (bs b.data.toList),.str (bs c.data.toList),.str (bs d.data.toList),.str (bs e.data.toList)];rw[oK,oK,oK,oK]
theorem ap5 (A:List Tok) (b c d e f:ByteArray):bH A ++ ([.str b,.str c,.str d,.str e,.str f]:List PV)=bH (A ++ [tW b.data.toList,tW c.data.toList,tW d.data.toList,tW e.data.toList,tW f.data.toList]):=by rw[oW];show _=bH A ++ [.str (bs b.data.toList),.str (bs c.data.toList),.str (bs d.data.toList),.str (bs e.data.toList),.str (bs f.data.toList)];rw[oK,oK,oK,oK,oK]
theorem nz {A B:List Tok} (h:A.map (·.text)=B.map (·.text)):bH A=bH B:=by
 have e:∀ T:List Tok,bH T=(T.map (·.text)).map fun s=>PV.str (bs s):=fun T=>by unfold bH; rw[Bi]; rfl
 rw[e,e,h]
theorem bd (s:Nm):(bs s).data.toList=s:=by simp[bs]
theorem zB (v:Int):(eG v).length<=2:=by unfold eG; split<;>simp
theorem aL1 (l:List Nm) (hn:l.length<=1000):SS.CC 55 [.sl false 1 (aS l)] []=some (.sl false 1 (bH (gq (tS [44]) (l.map fun s => [tW s]))),[]):=by
 rw[a'F];have e:=lG (L:=fun A k=>KH (aS l) (bH A) (k:Int)) (F:=fun k=>(if k=0 then [] else [tS [44]]) ++ [tW (l.getD k [])]) (n:=l.length) 100000000 (A := []) (fun k hk A hA=>by
  rw[aCH,aN (by rw[jD]; omega),aG,zD hk,iO,bT (by omega),gD hk []];rw[aK] at hA;by_cases h0:k=0
  .subst h0;rw[aT (by decide),aC,ah (gW (by omega)),nJ];rw[bd];rfl
  .rw[aN (by omega),aG,ah (gW (by omega)),nJ,ah (gW (by rw[aK,oh]; omega)),nJ,bd,aI h0];congr 1
   exact nz (by simp)) (by
  have:∀ (m k:Nat),(dP (fun k=>(if k=0 then [] else [tS [44]]) ++ [tW (l.getD k [])]) k m).length<=2*m:=by
   intro m;induction m with
   | zero=>intro k; exact uA _
   | succ m ih =>
    intro k;rw[dP,aK];have:=ih (k+1);have h2:((if k=0 then [] else [tS [44]]) ++ [tW (l.getD k [])]:List Tok).length<=2:=by split<;>simp
    omega
  have:=this l.length 0;rw[aj]; omega)
 refine (show KH (aS l) [] 0=_ from e).trans ?_;rw[aCH,aT (by rw[jD]; omega),aC,RU,O0 (tS [44]) [] (f:=fun s => [tW s]) rfl (fun k=>rfl)]
theorem aFV (s:Tok):∀ (l:List (List Tok)),(gq s l).length<=(l.flatMap id).length+l.length
 | []=>uA _
 | [a]=>by rw[gq]; simp
 | a::b::l=>by have:=aFV s (b::l);rw[gq,aK,aU,J5,aK];simp only[id,aU] at this ⊢;omega
theorem Ep {l:List Nm} {i:Int} (h0:0<=i) (h1:i<l.length) (K:PV->R):dH (aS l) i K=K (.str (bs (l.getD i.toNat []))):=by
 have hk:i.toNat<l.length:=by omega
 have e:=zD hk K;rw[show ((i.toNat:Nat):Int)=i by omega] at e;rw[e,gD hk]
theorem aGU (l:List Int) (hn:l.length<=1000) (k:Int):SS.CC 164 [.sl false 1 (jF l),.int .i64 k] []=some (.bool (decide (k∈l)),[]):=by
 have e:∃ r,Om (jF l) k ((0:Nat):Int)=some (.int .i64 r,[])/\decide (0<=r)=uJ (fun i=>k==l.getD i 0) l.length:=by
  refine loopA (L:=fun i=>Om (jF l) k (i:Int)) (fun i hi => ?_) ?_
  .rw[aA',aN (by rw[ak]; omega),aG,Ky hi,yI,bT (by omega),gD hi 0]
  .rw[aA',aT (by rw[ak]; omega),aC]
 obtain ⟨r,e1,e2⟩:=e;rw[aT3,bV ((aWK _ _).trans e1),e2,SH (fun y=>k==y) l 0];have:(l.any fun y=>k==y)=decide (k∈l):=by rw[N8]; simp
 rw[this]
theorem bF0 (t:Tm) (ho:pq t) (A:List Tok) (hA:A.length+(vW t.I t.mr 0 t.ls).length<=100000000):Ea (bU t) (bH A) 0=Gx (bU t) (bH (A ++ vW t.I t.mr 0 t.ls)) [] 0:=by
 have hc:=Xz t.I t.mr t.ls 0;have e:=lG (L:=fun A k=>Ea (bU t) (bH A) (k:Int)) (F:=fun k=>vV t.I t.mr (0+k) (t.ls.getD k [])) (n:=t.ls.length) 100000000 (A:=A) (fun k hk A hA=>by
  have hn:=ho.ls.1;rw[aCG,aN (show (k:Int)<((bU t).2.1.length:Int) by rw[jD]; omega),aG,zD hk,iO,ah (gW (by omega)),EE,gD hk []];dsimp only;have hJ:∀ B:List Tok,B.length<=100000010->Ui (bU t) (bH B) (k:Int) (k:Int)=Ea (bU t) (bH (B ++ (if (k:Int)∈t.mr then [tW [109,97,114,107,101,100]] else []) ++ [tS [59]])) ((k+1:Nat):Int):=fun B hB=>by
   rw[aZ',bD (aGU t.mr ho.mr _),bT (by omega)];by_cases hm:(k:Int)∈t.mr
   .rw[aN hm,aG,ah (gW (by omega)),nJ,ah (gW (by rw[aK,oh]; omega)),nJ,aH hm];congr 1
    exact nz (by simp)
   .rw[aT hm,aC,ah (gW (by omega)),nJ,aI hm,yN];congr 1
    exact nz (by simp)
  by_cases hI:(k:Int)=t.I
  .rw[OH hI,aG,ah (gW (by simp only[aK,aU,aj]; omega)),nJ,hJ _ (by simp only[aK,aU,aj]; omega)];congr 1
   refine nz ?_;unfold vV;rw[jW,aH hI,bd];simp
  .rw[OG hI,aC,hJ _ (by simp only[aK,aU,aj]; omega)];congr 1
   refine nz ?_;unfold vV;rw[jW,aI hI,bd];simp) (by rw[hc]; exact hA)
 refine (show Ea (bU t) (bH A) 0=_ from e).trans ?_;rw[hc,aCG,aT (show ¬ (t.ls.length:Int)<((bU t).2.1.length:Int) by rw[jD]; omega),aC]
theorem bF7 (t:Tm) (ho:pq t) (hg:yP t) (A:List Tok) (hA:A.length+(t.vs.flatMap o6).length<=100000000):Gx (bU t) (bH A) [] 0=CW (bU t) (bH (A ++ t.vs.flatMap o6)) 0 (aS (t.vs.map (·.n))):=by
 have hc:dP (fun k=>o6 (t.vs.getD k dV)) 0 t.vs.length=t.vs.flatMap o6:=sD dV fun _ _=>rfl
 have e:=lG (L:=fun A k=>Gx (bU t) (bH A) (aS ((t.vs.take k).map (·.n))) (k:Int)) (F:=fun k=>o6 (t.vs.getD k dV)) (n:=t.vs.length) 100000000 (A:=A) (fun k hk A hA=>by
  have hn:=ho.vs.1;obtain ⟨_,h1,h2,h3⟩:=hg.vs _ (dD hk);have a1:=zB (t.vs[k]).lo;have a2:=zB (t.vs[k]).hi;have a3:=zB (t.vs[k]).i;rw[aCD,aN (show (k:Int)<((bU t).2.2.2.2.2.2.2.1.length:Int) by rw[ak]; omega),aG,Es hk,ah (zF (BH _ _ k hn)),ah (gW (by omega))];dsimp only;rw[kG (LK h1.1 h1.2),Xl,BG (·.n) t.vs hk,bT (by omega),gD hk dV];rw[ah (gW (by rw[aK,jy]; simp only[aU,aj]; omega)),<- oW];rw[ah (gW (by simp only[aK,aU,aj]; omega)),nJ,kG (LK h2.1 h2.2)];rw[ah (gW (by rw[jy]; simp only[aK,aU,aj]; omega)),<- oW];rw[ah (gW (by simp only[aK,aU,aj]; omega)),nJ,kG (LK h3.1 h3.2)];rw[ah (gW (by rw[jy]; simp only[aK,aU,aj]; omega)),<- oW];rw[ah (gW (by simp only[aK,aU,aj]; omega)),nJ];congr 1
  refine nz ?_;unfold o6;rw[bd];simp) (by rw[hc]; exact hA)
 refine (show Gx (bU t) (bH A) [] 0=_ from e).trans ?_;rw[hc,aCD,aT (show ¬ (t.vs.length:Int)<((bU t).2.2.2.2.2.2.2.1.length:Int) by rw[ak]; omega),aC,tq (bQ _)]
theorem exw {ns:List Nm} {x:EX} (h:uF ns.length x):SS.CC 29 [.sl false 1 (aS ns),A1 (ev x),.int .i64 0] []=some (.sl true 1 (bH (uP ns x)),[]):=by obtain ⟨h1,h2⟩:=Tz h;exact (b9T ns h1 h.len).1 (by omega) 0 (a0C x)
theorem a00 {ns:List Nm} {x:EX} (h:uF ns.length x):(uP ns x).length<=512:=(Tz h).2
theorem Dj (t:Tm):(t.vs.map (·.n)).length=t.vs.length:=bW _
theorem a1F {a b:PV} {k:Nat} (K:PV->R):dH [a,b] (if (1:Int)<(k:Int) then (1:Int) else (k:Int)) K=K (if k=0 then a else b):=by
 by_cases h:k=0
 .subst h; rfl
 .rw[aI h,show (if (1:Int)<(k:Int) then (1:Int) else (k:Int))=1 by split<;>omega]; rfl
theorem bF6 (t:Tm) (x:Mv) (hl:x.us.length<=1000) (hg:∀ u,u∈x.us->(0<=u.1/\u.1<t.vs.length)/\uF t.vs.length u.2) (A:List Tok) (k:Int) (hA:A.length+(if x.us = [] then [] else tW [100,111]::gq (tS [44]) (x.us.map (ku (t.vs.map (·.n))))).length<=100001000) :
 KG (bU t) (bH A) (x.us.map pUp) 0 (aS (t.vs.map (·.n))) k=CW (bU t) (bH (A ++ (if x.us = [] then [] else tW [100,111]::gq (tS [44]) (x.us.map (ku (t.vs.map (·.n))))) ++ [tS [59]])) (i64.wrap (k+1)) (aS (t.vs.map (·.n))):=by
 have hc:dP (fun i=>(if i=0 then tW [100,111] else tS [44])::ku (t.vs.map (·.n)) (x.us.getD i dU)) 0 x.us.length=(if x.us = [] then [] else tW [100,111]::gq (tS [44]) (x.us.map (ku (t.vs.map (·.n))))):=by
  by_cases h:x.us = []
  .rw[aH h,h]; rfl
  .rw[aI h];exact TJ (tS [44]) dU [tW [100,111]] h rfl fun _=>rfl
 have e:=lG (L:=fun A i=>KG (bU t) (bH A) (x.us.map pUp) (i:Int) (aS (t.vs.map (·.n))) k) (F:=fun i=>(if i=0 then tW [100,111] else tS [44])::ku (t.vs.map (·.n)) (x.us.getD i dU)) (n:=x.us.length) 100001000 (A:=A) (fun i hi B hB=>by
  obtain ⟨⟨u0,u1⟩,u2⟩:=hg _ (dD hi);have Wi:uF (t.vs.map (·.n)).length (x.us[i]).2:=by rw[Dj]; exact u2
  have u3:=a00 Wi;rw[aCF,aN (by rw[ak]; omega),aG,I5 hi,a1F];dsimp only;rw[show (if i=0 then PV.str ⟨#[100,111]⟩ else PV.str ⟨#[44]⟩) = .str (if i=0 then ⟨#[100,111]⟩ else ⟨#[44]⟩) by split<;>rfl,iO,Ep u0 (by rw[Dj]; exact u1),iO,ah (gW (by omega)),kG (exw Wi),Xl,ah (gW (by rw[jy]; simp only[aK,aU,aj]; omega)),<- oW,bT (by omega),gD hi dU];congr 1
  refine nz ?_;unfold ku;rw[bd];by_cases h0:i=0
  .rw[aH h0,aH h0]; simp
  .rw[aI h0,aI h0]; simp) (by rw[hc]; exact hA)
 refine (show KG (bU t) (bH A) (x.us.map pUp) 0 (aS (t.vs.map (·.n))) k=_ from e).trans ?_;rw[hc,aCF,aT (by rw[ak]; omega),aC,ah (gW (by rw[aK]; omega)),nJ];congr 1
 exact nz (by simp)
theorem bF2 (t:Tm) (ho:pq t) (hg:yP t) (A:List Tok) (hA:A.length+(t.ms.flatMap (lJ t)).length<=100000000):CW (bU t) (bH A) 0 (aS (t.vs.map (·.n)))=some (.sl false 1 (bH (A ++ t.ms.flatMap (lJ t) ++ [tS [125]])),[]):=by
 have hc:dP (fun k=>lJ t (t.ms.getD k dM)) 0 t.ms.length=t.ms.flatMap (lJ t):=sD dM fun _ _=>rfl
 have e:=lG (L:=fun A k=>CW (bU t) (bH A) (k:Int) (aS (t.vs.map (·.n)))) (F:=fun k=>lJ t (t.ms.getD k dM)) (n:=t.ms.length) 100000000 (A:=A) (fun k hk B hB=>by
  have hn:=ho.ms.1;obtain ⟨h1,h2,h3,h4,h5⟩:=hg.ms _ (dD hk);obtain ⟨o1,o2,o3⟩:=ho.ms.2 _ (dD hk);have h4':uF (t.vs.map (·.n)).length (t.ms[k]).g:=by rw[Dj]; exact h4
  have u3:=a00 h4';rw[gD hk dM] at hB;unfold lJ at hB;simp only[aK,aU,aj] at hB;rw[aCE,aN (show (k:Int)<((bU t).2.2.2.2.2.2.2.2.1.length:Int) by rw[ak]; omega),aG,Pn hk];rw[show dH (bU t).2.1 (jc t.ms[k]).1=dH (aS t.ls) (t.ms[k]).f from rfl,Ep h1.1 h1.2,iO];rw[show dH (bU t).2.2.1 (jc t.ms[k]).2.1=dH (aS t.es) (t.ms[k]).e from rfl,Ep h2.1 h2.2,iO];rw[show dH (bU t).2.1 (jc t.ms[k]).2.2.1=dH (aS t.ls) (t.ms[k]).t from rfl,Ep h3.1 h3.2,iO];rw[ah (gW (by omega)),dS c116,bD (dW o1 tE),ap4,gD hk dM];have hJ:∀ C:List Tok,C.length+(if (t.ms[k]).us = [] then [] else tW [100,111]::gq (tS [44]) ((t.ms[k]).us.map (ku (t.vs.map (·.n))))).length<=100001000->Uh (bU t) (jc t.ms[k]) (bH C) (aS (t.vs.map (·.n))) (k:Int)=CW (bU t) (bH (C ++ (if (t.ms[k]).us = [] then [] else tW [100,111]::gq (tS [44]) ((t.ms[k]).us.map (ku (t.vs.map (·.n))))) ++ [tS [59]])) ((k+1:Nat):Int) (aS (t.vs.map (·.n))):=fun C hC=>by rw[aZZ,<- bT (by omega)];exact bF6 t _ o2 h5 C _ hC
  cases hq:dY (t.ms[k]).g tE with
  | true =>
   rw[hq,aH rfl] at hB;simp only[aj] at hB;rw[uq,aC,hJ _ (by simp only[aK,aU,aj]; omega)];congr 1
   refine nz ?_;unfold lJ;rw[hq,aH rfl,bd,bd,bd];simp
  | false =>
   rw[hq,aI wG] at hB;simp only[aU] at hB;rw[zn,aG,ah (gW (by simp only[aK,aU,aj]; omega)),kG (exw h4'),nJ,ah (gW (by rw[jy]; simp only[aK,aU,aj]; omega)),<- oW,hJ _ (by simp only[aK,aU,aj]; omega)];congr 1
   refine nz ?_;unfold lJ;rw[hq,aI wG,bd,bd,bd];simp) (by rw[hc]; exact hA)
 refine (show CW (bU t) (bH A) 0 (aS (t.vs.map (·.n)))=_ from e).trans ?_;rw[hc,aCE,aT (show ¬ (t.ms.length:Int)<((bU t).2.2.2.2.2.2.2.2.1.length:Int) by rw[ak]; omega),aC,ah (gW (by rw[aK]; omega)),nJ];rw[nz (B:=A ++ t.ms.flatMap (lJ t) ++ [tS [125]]) (by simp)]
theorem bF3 (t:Tm) (ho:pq t) (hg:yP t) (hA:(jv t).length<=100000000):SS.CC 54 [A5 (bU t)] []=some (.sl false 1 (bH (jv t)),[]):=by unfold jv qo at hA;simp only[aK,aU,aj] at hA;rw[a'B,zx (aL1 t.es ho.es.1),ah (aN (by rw[jy]; show _<=1073741824; omega))];have e0:([.str ⟨#[116,101,109,112,108,97,116,101]⟩,.str (bU t).1,.str ⟨#[40]⟩]:List PV)=bH [tW [116,101,109,112,108,97,116,101],tW t.n,tS [40]]:=rfl;rw[e0,<- oW,ah (gW (by simp only[aK,aU,aj]; omega)),EE,bF0 t ho _ (by simp only[aK,aU,aj]; omega),bF7 t ho hg _ (by simp only[aK,aU,aj]; omega),bF2 t ho hg _ (by simp only[aK,aU,aj]; omega)];rw[nz (B:=jv t) (by unfold jv qo; simp)]
theorem b5N (e:nD):(pz e).length<=9:=by have h:=zB e.k;unfold pz;simp only[aK,aU,aj];split<;>split<;>split<;>split<;>simp<;>omega
theorem bEY (m:Mo) (e:nD) (A:List Tok) (hA:A.length<=100000100) (k:Int):xm (aO m) (kC e) (bH A) 0 k=xm (aO m) (kC e) (bH (A ++ (if e.c then [tW [99,111,110,116,114,111,108,108,97,98,108,101]] else []) ++ (if e.o then [tW [111,98,115,101,114,118,97,98,108,101]] else []) ++ (if e.f then [tW [102,111,114,99,105,98,108,101]] else []))) 3 k:=by
 have s0:∀ B:List Tok,B.length<=100000200->xm (aO m) (kC e) (bH B) 0 k=xm (aO m) (kC e) (bH (B ++ (if e.c then [tW [99,111,110,116,114,111,108,108,97,98,108,101]] else []))) 1 k:=fun B hB=>by
  rw[UO,aN (by decide),aG,jo (e := .bool e.c) (by decide) rfl,vw,wrap64 (by decide) (by decide)];cases e.c with
  | true=>rw[aG,jo (e := .str ⟨#[99,111,110,116,114,111,108,108,97,98,108,101]⟩) (by decide) rfl,iO,ah (gW (by omega)),nJ]; congr 1
  | false=>rw[aC,aI wG,yN]; rfl
 have s1:∀ B:List Tok,B.length<=100000200->xm (aO m) (kC e) (bH B) 1 k=xm (aO m) (kC e) (bH (B ++ (if e.o then [tW [111,98,115,101,114,118,97,98,108,101]] else []))) 2 k:=fun B hB=>by
  rw[UO,aN (by decide),aG,jo (e := .bool e.o) (by decide) rfl,vw,wrap64 (by decide) (by decide)];cases e.o with
  | true=>rw[aG,jo (e := .str ⟨#[111,98,115,101,114,118,97,98,108,101]⟩) (by decide) rfl,iO,ah (gW (by omega)),nJ]; congr 1
  | false=>rw[aC,aI wG,yN]; rfl
 have s2:∀ B:List Tok,B.length<=100000200->xm (aO m) (kC e) (bH B) 2 k=xm (aO m) (kC e) (bH (B ++ (if e.f then [tW [102,111,114,99,105,98,108,101]] else []))) 3 k:=fun B hB=>by
  rw[UO,aN (by decide),aG,jo (e := .bool e.f) (by decide) rfl,vw,wrap64 (by decide) (by decide)];cases e.f with
  | true=>rw[aG,jo (e := .str ⟨#[102,111,114,99,105,98,108,101]⟩) (by decide) rfl,iO,ah (gW (by omega)),nJ]; congr 1
  | false=>rw[aC,aI wG,yN]; rfl
 have l1:∀ (b:Bool) (w:Nm),(if b then [tW w] else []).length<=1:=fun b w=>by cases b<;>simp
 have q1:=l1 e.c [99,111,110,116,114,111,108,108,97,98,108,101];have q2:=l1 e.o [111,98,115,101,114,118,97,98,108,101];rw[s0 A (by omega),s1 _ (by rw[aK]; omega),s2 _ (by rw[aK,aK]; omega)]
theorem bEX (m:Mo) (ho:ji m) (hg:zy m) (A:List Tok) (hA:A.length+(m.es.flatMap pz).length<=100000000):Gu (aO m) (bH A) 0=Gt (aO m) (bH (A ++ m.es.flatMap pz)) 0:=by
 have hc:dP (fun k=>pz (m.es.getD k dE)) 0 m.es.length=m.es.flatMap pz:=sD dE fun _ _=>rfl
 have e:=lG (L:=fun A k=>Gu (aO m) (bH A) (k:Int)) (F:=fun k=>pz (m.es.getD k dE)) (n:=m.es.length) 100000000 (A:=A) (fun k hk B hB=>by
  have hn:=ho.es.1;obtain ⟨_,k0,k4⟩:=hg.es _ (dD hk);rw[gD hk dE] at hB;rw[aAL,aN (show (k:Int)<((aO m).2.1.length:Int) by rw[ak]; omega),aG,VX hk,ah (gW (by omega)),EE,bEY m _ _ (by simp only[aK,aU,aj]; omega),gD hk dE];rw[UO,aT (by decide),aC,bT (by omega)];dsimp only;generalize hC:B ++ _ ++ _ ++ _ ++ _=C;have hCl:C.length<=B.length+5:=by rw[<- hC];simp only[aK,aU,aj];cases (m.es[k]).c<;>cases (m.es[k]).o<;>cases (m.es[k]).f<;>simp
  have hf:pz (m.es[k]) = [tW [101,118,101,110,116],tW (m.es[k]).n] ++ (if (m.es[k]).c then [tW [99,111,110,116,114,111,108,108,97,98,108,101]] else []) ++ (if (m.es[k]).o then [tW [111,98,115,101,114,118,97,98,108,101]] else []) ++ (if (m.es[k]).f then [tW [102,111,114,99,105,98,108,101]] else []) ++ (if (m.es[k]).k=0 then [] else tW [102,97,117,108,116]::eG (m.es[k]).k) ++ [tS [59]]:=rfl;by_cases hk0:(m.es[k]).k=0
  .rw[aT (by omega),aC,ah (gW (by omega)),nJ];congr 1
   refine nz ?_;rw[hf,aH hk0,<- hC,bd];simp
  .have e3:eG (m.es[k]).k = [tN (m.es[k]).k.toNat]:=aI (by omega);have e4:SS.CC 35 [.int .i64 (m.es[k]).k] []=some (.str (bs (Lib.decDigits (m.es[k]).k.toNat)),[]):=by have:=VD (m.es[k]).k.toNat (by omega);rwa [show (((m.es[k]).k.toNat:Nat):Int)=(m.es[k]).k by omega] at this
   rw[aN (by omega),aG,ou e4,ah (gW (by omega)),EE,ah (gW (by simp only[aK,aU,aj]; omega)),nJ];congr 1
   refine nz ?_;rw[hf,aI hk0,e3,<- hC,bd,bd];simp) (by rw[hc]; exact hA)
 refine (show Gu (aO m) (bH A) 0=_ from e).trans ?_;rw[hc,aAL,aT (show ¬ (m.es.length:Int)<((aO m).2.1.length:Int) by rw[ak]; omega),aC]
theorem bF5 (m:Mo) (ho:ji m) (hg:zy m) (A:List Tok) (hA:A.length+(m.ts.flatMap jv).length<=100000000):Gt (aO m) (bH A) 0=EW (aO m) ((m.cs ++ m.rs).map di) (((m.cs ++ m.rs).map di).length:Int) (bH (A ++ m.ts.flatMap jv)) 0:=by
 have hc:dP (fun k=>jv (m.ts.getD k dT)) 0 m.ts.length=m.ts.flatMap jv:=sD dT fun _ _=>rfl
 have e:=lG (L:=fun A k=>Gt (aO m) (bH A) (k:Int)) (F:=fun k=>jv (m.ts.getD k dT)) (n:=m.ts.length) 100000000 (A:=A) (fun k hk B hB=>by have hn:=ho.ts.1;rw[gD hk dT] at hB;rw[aAF,aN (show (k:Int)<((aO m).2.2.1.length:Int) by rw[ak]; omega),aG,L6 hk,zx (bF3 _ (ho.ts.2 _ (dD hk)).2 (hg.ts _ (dD hk)).2 (by omega)),ah (gW (by rw[jy]; omega)),<- oW,bT (by omega),gD hk dT]) (by rw[hc]; exact hA);refine (show Gt (aO m) (bH A) 0=_ from e).trans ?_;rw[hc,aAF,aT (show ¬ (m.ts.length:Int)<((aO m).2.2.1.length:Int) by rw[ak]; omega),aC,Rj (Y3 m.cs ho.is.1),ah (by rw[bW]; exact LD ho.is.1 (by rw[bW]; exact ho.is.2.1))];dsimp only;rw[<- tY]
theorem a7C (F:Nat->List Tok):∀ (a k b:Nat),dP F k (a+b)=dP F k a ++ dP F (k+a) b
 | 0,k,b=>by rw[jW,dP,RU,zt]
 | a+1,k,b=>by rw[show a+1+b=(a+b)+1 by omega,dP,a7C F a (k+1) b,dP,kN,show k+1+a=k+(a+1) by omega]
theorem a7F (F:Nat->List Tok) (a:Nat):∀ (m k:Nat),dP F (k+a) m=dP (fun i=>F (i+a)) k m
 | 0,_=>rfl
 | m+1,k=>by rw[dP,dP,show k+a+1=(k+1)+a by omega,a7F F a m (k+1)]
theorem aNT (cs rs:List Ins):dP (fun k=>inT (if k<cs.length then wC else wR) ((cs ++ rs).getD k dI)) 0 (cs ++ rs).length=cs.flatMap (inT wC) ++ rs.flatMap (inT wR):=by
 rw[aK,a7C,jW];congr 1
 .refine sD dI fun k hk => ?_
  rw[aH hk,gD (by rw[aK]; omega),gD hk,List.getElem_append_left hk]
 .have:=a7F (fun k=>inT (if k<cs.length then wC else wR) ((cs ++ rs).getD k dI)) cs.length rs.length 0;rw[jW] at this;rw[this];refine sD dI fun k hk => ?_
  rw[aI (by omega),gD (by rw[aK]; omega),gD hk,List.getElem_append_right (by omega)];congr 2
  omega
theorem bEZ (m:Mo) (ho:ji m) (h2:m.cs.length+m.rs.length<=1000) (A:List Tok) (hA:A.length+(m.cs.flatMap (inT wC) ++ m.rs.flatMap (inT wR)).length<=100000000):EW (aO m) ((m.cs ++ m.rs).map di) (((m.cs ++ m.rs).map di).length:Int) (bH A) 0=EY (aO m) (bH (A ++ (m.cs.flatMap (inT wC) ++ m.rs.flatMap (inT wR)))) 0:=by
 have hn:(m.cs ++ m.rs).length<=1000:=by rw[aK]; exact h2
 have hc:=aNT m.cs m.rs;have e:=lG (L:=fun A k=>EW (aO m) ((m.cs ++ m.rs).map di) (((m.cs ++ m.rs).map di).length:Int) (bH A) (k:Int)) (F:=fun k=>inT (if k<m.cs.length then wC else wR) ((m.cs ++ m.rs).getD k dI)) (n:=(m.cs ++ m.rs).length) 100000000 (A:=A) (fun k hk B hB=>by
  obtain ⟨_,_,h4⟩:=ho.is.2.2 _ (dD hk);rw[gD hk dI] at hB;have hJ:∀ w:Nm,B.length+(inT w (m.cs ++ m.rs)[k]).length<=100000000->UN (aO m) ((m.cs ++ m.rs).map di) (((m.cs ++ m.rs).map di).length:Int) (Qu (m.cs ++ m.rs)[k]) (bs w) (bH B) (k:Int)=EW (aO m) ((m.cs ++ m.rs).map di) (((m.cs ++ m.rs).map di).length:Int) (bH (B ++ inT w (m.cs ++ m.rs)[k])) ((k+1:Nat):Int):=fun w hw=>by
   unfold inT qo at hw;simp only[aK,aU,aj] at hw;rw[aTP,ah (gW (by omega)),zx (aL1 _ h4.1),ap5];rw[ah (gW (by rw[jy]; simp only[aK,aU,aj]; omega)),<- oW,ah (gW (by simp only[aK,aU,aj]; omega)),EE,bT (by omega)];congr 1
   refine nz ?_;unfold inT qo;rw[bd,bd,bd];simp
  rw[aAG,aN (by rw[ak]; omega),aG,Eo hk,ak,gD hk dI];by_cases hw:k<m.cs.length
  .rw[aH hw] at hB;rw[aT (by omega),aC,aH hw];exact hJ wC hB
  .rw[aI hw] at hB;rw[aN (by omega),aG,aI hw];exact hJ wR hB) (by rw[hc]; exact hA)
 refine (show EW (aO m) ((m.cs ++ m.rs).map di) (((m.cs ++ m.rs).map di).length:Int) (bH A) 0=_ from e).trans ?_;rw[hc,aAG,aT (by rw[ak]; omega),aC]
theorem aHY {a b:ByteArray} {k:Nat}:(if k=0 then PV.str a else PV.str b) = .str (if k=0 then a else b):=by split<;>rfl
theorem bF1 (m:Mo) (x:qX) (hn:x.ls.length<=1000) (hx:x.ls ≠ []) (A:List Tok) (k:Int) (hA:A.length+(gq (tS [44]) (x.ls.map fun l => [tW l.1,tW l.2])).length<=100000100):Js (aO m) (x.ls.map su) (bH A) 0 k=EY (aO m) (bH (A ++ tS [58]::gq (tS [44]) (x.ls.map fun l => [tW l.1,tW l.2]) ++ [tS [59]])) (i64.wrap (k+1)):=by
 have hc:dP (fun i=>(if i=0 then tS [58] else tS [44]) :: [tW (x.ls.getD i dL).1,tW (x.ls.getD i dL).2]) 0 x.ls.length = [tS [58]] ++ gq (tS [44]) (x.ls.map fun l => [tW l.1,tW l.2]):=TJ (tS [44]) dL (f:=fun l => [tW l.1,tW l.2]) [tS [58]] hx rfl fun _=>rfl
 have e:=lG (L:=fun A i=>Js (aO m) (x.ls.map su) (bH A) (i:Int) k) (F:=fun i=>(if i=0 then tS [58] else tS [44]) :: [tW (x.ls.getD i dL).1,tW (x.ls.getD i dL).2]) (n:=x.ls.length) 100000200 (A:=A) (fun i hi B hB=>by
  rw[aAI,aN (by rw[ak]; omega),aG,Kz hi,a1F,aHY,iO,ah (gW (by simp only[aU,aj] at hB; omega)),Xl,bT (by omega),gD hi dL];congr 1
  refine nz ?_;rw[bd,bd];by_cases h0:i=0
  .rw[aH h0,aH h0]; simp
  .rw[aI h0,aI h0]; simp) (by rw[hc,aK,oh]; omega)
 refine (show Js (aO m) (x.ls.map su) (bH A) 0 k=_ from e).trans ?_;rw[hc,aAI,aT (by rw[ak]; omega),aC,ah (gW (by simp only[aK,aU,aj]; omega)),nJ];congr 1
 exact nz (by simp)
theorem bF8 (m:Mo) (ho:ji m) (hg:zy m) (A:List Tok) (hA:A.length+(m.xs.flatMap pY).length<=100000000):EY (aO m) (bH A) 0=EZ (m.ks.map kL) (bH (A ++ m.xs.flatMap pY)) 0:=by
 have hc:dP (fun k=>pY (m.xs.getD k dX)) 0 m.xs.length=m.xs.flatMap pY:=sD dX fun _ _=>rfl
 have e:=lG (L:=fun A k=>EY (aO m) (bH A) (k:Int)) (F:=fun k=>pY (m.xs.getD k dX)) (n:=m.xs.length) 100000000 (A:=A) (fun k hk B hB=>by
  have hn:=ho.xs.1;obtain ⟨_,o2,_⟩:=ho.xs.2 _ (dD hk);obtain ⟨_,g2,_⟩:=hg.xs _ (dD hk);rw[gD hk dX] at hB;unfold pY at hB;simp only[aK,aU,aj] at hB;rw[aAH,aN (show (k:Int)<((aO m).2.2.2.2.2.1.length:Int) by rw[ak]; omega),aG,I4 hk,ah (gW (by omega)),EE];refine (bF1 m _ o2 g2 _ _ (by simp only[aK,aU,aj]; omega)).trans ?_;rw[bT (by omega),gD hk dX];congr 1
  refine nz ?_;unfold pY;rw[bd];simp) (by rw[hc]; exact hA)
 refine (show EY (aO m) (bH A) 0=_ from e).trans ?_;rw[hc,aAH,aT (show ¬ (m.xs.length:Int)<((aO m).2.2.2.2.2.1.length:Int) by rw[ak]; omega),aC]
theorem bF4 (P:List PV) (x:Cst) (hn:x.ts.length<=1000) (hx:x.ts ≠ []) (hb:R16 x.b) (hr:∀ l,l∈x.ts->R16 l.2) (A:List Tok) (k:Int) (hA:A.length+(gq (tS [43]) (x.ts.map fun l=>eG l.2 ++ [tS [42],tW l.1])).length<=100000100):Jt P (kw x) (bH A) 0 k=EZ P (bH (A ++ tS [58]::gq (tS [43]) (x.ts.map fun l=>eG l.2 ++ [tS [42],tW l.1]) ++ [tS [60,61]] ++ eG x.b ++ [tS [59]])) (i64.wrap (k+1)):=by
 have hc:dP (fun i=>(if i=0 then tS [58] else tS [43])::(eG (x.ts.getD i dR).2 ++ [tS [42],tW (x.ts.getD i dR).1])) 0 x.ts.length = [tS [58]] ++ gq (tS [43]) (x.ts.map fun l=>eG l.2 ++ [tS [42],tW l.1]):=TJ (tS [43]) dR (f:=fun l=>eG l.2 ++ [tS [42],tW l.1]) [tS [58]] hx rfl fun _=>rfl
 have e:=lG (L:=fun A i=>Jt P (kw x) (bH A) (i:Int) k) (F:=fun i=>(if i=0 then tS [58] else tS [43])::(eG (x.ts.getD i dR).2 ++ [tS [42],tW (x.ts.getD i dR).1])) (n:=x.ts.length) 100000200 (A:=A) (fun i hi B hB=>by
  have r1:=hr _ (dD hi);rw[gD hi dR] at hB;simp only[aK,aU,aj] at hB;rw[aAK,aN (show (i:Int)<((kw x).2.1.length:Int) by rw[ak]; omega),aG,L9 hi,a1F,aHY,iO,ah (gW (by omega))];dsimp only;rw[kG (LK r1.1 r1.2),nJ,ah (gW (by rw[jy]; simp only[aK,aU,aj]; omega)),<- oW,ah (gW (by simp only[aK,aU,aj]; omega)),EE,bT (by omega),gD hi dR];congr 1
  refine nz ?_;rw[bd];by_cases h0:i=0
  .rw[aH h0,aH h0]; simp
  .rw[aI h0,aI h0]; simp) (by rw[hc,aK,oh]; omega)
 have hq:=zB x.b;refine (show Jt P (kw x) (bH A) 0 k=_ from e).trans ?_;rw[hc,aAK,aT (show ¬ (x.ts.length:Int)<((kw x).2.1.length:Int) by rw[ak]; omega),aC,ah (gW (by simp only[aK,aU,aj]; omega)),nJ];dsimp only;rw[kG (LK hb.1 hb.2),ah (gW (by rw[jy]; simp only[aK,aU,aj]; omega)),<- oW,ah (gW (by simp only[aK,aU,aj]; omega)),nJ];congr 1
 exact nz (by simp)
theorem bE' (l:List Cst) (hn:l.length<=1000) (ho:∀ x,x∈l->x.ts.length<=1000) (hg:∀ x,x∈l->x.ts ≠ []/\R16 x.b/\∀ t,t∈x.ts->R16 t.2) (A:List Tok) (hA:A.length+(l.flatMap pJ).length<=100000000):EZ (l.map kL) (bH A) 0=some (.sl false 1 (bH (A ++ l.flatMap pJ)),[]):=by
 have hc:dP (fun k=>pJ (l.getD k dK)) 0 l.length=l.flatMap pJ:=sD dK fun _ _=>rfl
 have e:=lG (L:=fun A k=>EZ (l.map kL) (bH A) (k:Int)) (F:=fun k=>pJ (l.getD k dK)) (n:=l.length) 100000000 (A:=A) (fun k hk B hB=>by
  have o2:=ho _ (dD hk);obtain ⟨g2,g3,g4⟩:=hg _ (dD hk);rw[gD hk dK] at hB;unfold pJ at hB;simp only[aK,aU,aj] at hB;rw[aAJ,aN (by rw[ak]; omega),aG,Kw hk,ah (gW (by omega)),EE];refine (bF4 _ _ o2 g2 g3 g4 _ _ (by simp only[aK,aU,aj]; omega)).trans ?_;rw[bT (by omega),gD hk dK];congr 1
  refine nz ?_;unfold pJ;rw[bd];simp) (by rw[hc]; exact hA)
 refine (show EZ (l.map kL) (bH A) 0=_ from e).trans ?_;rw[hc,aAJ,aT (by rw[ak]; omega),aC]
theorem aL0 (m:Mo) (ho:ji m) (hg:zy m) (h2:m.cs.length+m.rs.length<=1000) (hA:(jH m).length<=100000000):SS.CC 16 [A0 (aO m)] []=some (.sl false 1 (bH (jH m)),[]):=by unfold jH at hA;simp only[aK,aU,aj] at hA;rw[aUD];have e0:([.str ⟨#[109,111,100,101,108]⟩,.str (aO m).1,.str ⟨#[59]⟩]:List PV)=bH [tW [109,111,100,101,108],tW m.n,tS [59]]:=rfl;rw[e0,bEX m ho hg _ (by simp only[aU,aj]; omega),bF5 m ho hg _ (by simp only[aK,aU,aj]; omega),bEZ m ho h2 _ (by simp only[aK,aU,aj]; omega),bF8 m ho hg _ (by simp only[aK,aU,aj]; omega),bE' m.ks ho.ks.1 (fun x hx=>(ho.ks.2 x hx).2.1) (fun x hx=>⟨(hg.ks x hx).2.1,(hg.ks x hx).2.2.1,fun t ht=>((hg.ks x hx).2.2.2 t ht).2⟩) _ (by simp only[aK,aU,aj]; omega)];unfold jH;rw[kN,kN,kN];simp only[kN]
abbrev Dk (A:List Tok):R:=some (.tuple [],[aB (dJ A)])
theorem MS (xs:List PV) (s:ByteArray) (k:Nat) (A:List Tok) (hk:xs[k]? = some (.str s)) (hk2:k<1000) (h:A.length+1<=1000000):Jq xs (A.map aZ) (k:Int)=Jq xs ((A ++ [tW s.data.toList]).map aZ) ((k+1:Nat):Int):=by
 have hlt:k<xs.length:=by
  rcases je k xs.length with h | h
  .exact h
  .rw[rO h] at hk; cases hk
 rw[UJ,aN (by omega),aG,jo (e := .str s) (by omega) (by rw[lm]; exact hk),iO,ah (aN (by rw[bW]; show _<=1073741824; omega)),bT (by omega),tY,show [tW s.data.toList].map aZ = [jf (1,bs s.data.toList,0,0,0,())] from rfl,oK]
theorem aL3 (xs:List PV) (k:Nat) (A:List Tok) (hk:xs.length=k):Jq xs (A.map aZ) (k:Int)=Dk A:=by rw[UJ,aT (by omega),aC]
theorem Dl (s r:ByteArray) (A:List Tok) (h:A.length+2<=1000000):SS.CC 165 [.ptr 0 0,.sl false 1 [.str s,.str r]] [aB (dJ A)]=Dk (A ++ [tW s.data.toList,tW r.data.toList]):=by rw[YY];refine (MS _ s 0 A rfl (by decide) (by omega)).trans ?_;refine (MS _ r 1 _ rfl (by decide) (by simp; omega)).trans ?_;rw[aL3 _ 2 _ rfl,kN]; rfl
theorem wo4 (s r u v:ByteArray) (A:List Tok) (h:A.length+4<=1000000):SS.CC 165 [.ptr 0 0,.sl false 1 [.str s,.str r,.str u,.str v]] [aB (dJ A)]=Dk (A ++ [tW s.data.toList,tW r.data.toList,tW u.data.toList,tW v.data.toList]):=by rw[YY];refine (MS _ s 0 A rfl (by decide) (by omega)).trans ?_;refine (MS _ r 1 _ rfl (by decide) (by simp; omega)).trans ?_;refine (MS _ u 2 _ rfl (by decide) (by simp; omega)).trans ?_;refine (MS _ v 3 _ rfl (by decide) (by simp; omega)).trans ?_;rw[aL3 _ 4 _ rfl];simp only[kN]; rfl
theorem aH1 (l:List Nm) {k:Nat} (hk:k<l.length) (A:List Tok) (h:A.length+1<=1000000):SS.CC 243 [.int .i64 (k:Int),.ptr 0 0,.cst (.sl false 1 (aS l))] [some [.ptr 1 0],aB (dJ A)]=some (.tuple [],[some [.ptr 1 0],aB (dJ (A ++ [tW l[k]]))]):=by rw[aWN,zD hk,iO,bJ (ul _ A h),bd]
theorem aGV (l:List Nm) (hn:l.length<=1000) (A:List Tok) (hA:A.length+(qo l).length<=1000000):SS.CC 169 [.ptr 0 0,.sl false 1 (aS l)] [aB (dJ A)]=Dk (A ++ qo l):=by
 unfold qo at hA;simp only[aK,aU,aj] at hA;have hc:dP (fun k=>(if k=0 then [] else [tS [44]]) ++ [tW (l.getD k [])]) 0 l.length=gq (tS [44]) (l.map fun s => [tW s]):=O0 (tS [44]) [] (f:=fun s => [tW s]) rfl (fun _=>rfl);have e:=lG (L:=fun A k=>Jw ⟨#[44]⟩ (aS l) (l.length:Int) (A.map aZ) (k:Int)) (F:=fun k=>(if k=0 then [] else [tS [44]]) ++ [tW (l.getD k [])]) (n:=l.length) 1000000 (A:=A ++ [tS [40]]) (fun k hk B hB=>by
  rw[aK] at hB;simp only[aU,aj] at hB;rw[aAO,aN (by omega),aG,bT (by omega),gD hk []];by_cases h0:k=0
  .rw[aT (by omega),aC,lS (aH1 l hk B (by omega)),aH h0];try rfl
  .rw[aI h0] at hB ⊢;simp only[aU,aj] at hB;rw[aN (by omega),aG,bJ (jE _ B (by omega)),lS (aH1 l hk _ (by simp; omega)),kN]) (by rw[hc]; simp only[aK,aU,aj]; omega)
 rw[hc] at e;have e2:SS.CC 170 [.ptr 0 0,.int .i64 ((aS l).length:Int),.str ⟨#[44]⟩,.func (.func 243) [] [.ptr 1 0,.cst (.sl false 1 (aS l))]] [aB (dJ (A ++ [tS [40]])),some [.ptr 0 0]]=some (.tuple [],[aB (dJ (A ++ [tS [40]] ++ gq (tS [44]) (l.map fun s => [tW s]))),some [.ptr 0 0]]):=by rw[aUM,jD];refine (show Jw ⟨#[44]⟩ (aS l) (l.length:Int) ((A ++ [tS [40]]).map aZ) 0=_ from e).trans ?_;rw[aAO,aT (by omega),aC]
 rw[aTO,bJ (jE ⟨#[40]⟩ A (by omega))];refine (aLQ e2).trans ?_;rw[bJ (jE ⟨#[41]⟩ _ (by simp only[aK,aU,aj]; omega))];have e4:A ++ [tS [40]] ++ gq (tS [44]) (l.map fun s => [tW s]) ++ [tS [41]]=A ++ qo l:=by unfold qo; simp
 rw[<- e4]
theorem exC {ns:List Nm} {x:EX} (h:uF ns.length x) (A:List Tok) (hA:A.length+(uP ns x).length+1<=1000000):SS.CC 113 [.ptr 0 0,.sl false 1 (aS ns),A1 (ev x),.int .i64 0] [aB (dJ A)]=Dk (A ++ uP ns x):=by
 obtain ⟨h1,h2⟩:=Tz h;obtain ⟨a,b,c⟩:=b9U ns h1 h.len;have e:=zk h.len b c a 0;have e2:wp x 0 (uP ns x)=uP ns x:=by unfold wp;rw[aI (by have:=a0C x; omega)]
 rw[e2] at e;exact e A hA
theorem bES (l:List Vr) (hn:l.length<=1000):SS.CC 241 [.sl false 4 (l.map qH)] []=some (.sl true 1 (aS (l.map (·.n))),[]):=by
 have e:SS.CC 297 [.sl false 4 (l.map qH),.func (.func 298) [] []] []=some (.sl true 1 (aS (l.map (·.n))),[]):=by
  rw[aXQ];refine sU (n:=l.length) (L:=fun k=>UY (l.map qH) (aS ((l.take k).map (·.n))) (k:Int)) (fun k hk => ?_) ?_
  .rw[aBE,aN (by rw[ak]; omega),aG,Es hk,ou (aXR _),ah (zF (BH _ l k hn)),BG (·.n) l hk,bT (by omega)]
  .rw[aBE,aT (by rw[ak]; omega),aC,tq (bQ _)]
 rw[aWL,kG e]
theorem aND (t:Tm) (ho:pq t) (P3:List PV) (A:List Tok) (hA:A.length+(vW t.I t.mr 0 t.ls).length<=1000000):EU (bs t.n) (aS t.ls) (aS t.es) (fP t) (A.map aZ) P3 0=Gs (bs t.n) (aS t.ls) (aS t.es) (fP t) ((A ++ vW t.I t.mr 0 t.ls).map aZ) P3 0:=by
 have hc:=Xz t.I t.mr t.ls 0;have e:=lG (L:=fun A k=>EU (bs t.n) (aS t.ls) (aS t.es) (fP t) (A.map aZ) P3 (k:Int)) (F:=fun k=>vV t.I t.mr (0+k) (t.ls.getD k [])) (n:=t.ls.length) 1000000 (A:=A) (fun k hk B hB=>by
  have hn:=ho.ls.1;rw[gD hk []] at hB;unfold vV at hB;rw[jW] at hB;simp only[aK,aU,aj] at hB;rw[aAA,aN (by rw[jD]; omega),aG,zD hk,iO,bJ (Dl _ _ B (by omega)),gD hk []];have hJ:∀ C:List Tok,C.length+(if (k:Int)∈t.mr then [tW [109,97,114,107,101,100]] else []).length+1<=1000000->UK (bs t.n) (aS t.ls) (aS t.es) (fP t) (C.map aZ) P3 (k:Int) (k:Int)=EU (bs t.n) (aS t.ls) (aS t.es) (fP t) ((C ++ (if (k:Int)∈t.mr then [tW [109,97,114,107,101,100]] else []) ++ [tS [59]]).map aZ) P3 ((k+1:Nat):Int):=fun C hC=>by
   rw[aTB,bD (aGU t.mr ho.mr _),bT (by omega)];by_cases hm:(k:Int)∈t.mr
   .rw[aH hm] at hC ⊢;simp only[aU,aj] at hC;rw[aN hm,aG,bJ (ul ⟨#[109,97,114,107,101,100]⟩ C (by omega)),bJ (jE ⟨#[59]⟩ _ (by simp; omega))]
   .rw[aI hm] at hC ⊢;simp only[aj] at hC;rw[aT hm,aC,bJ (jE ⟨#[59]⟩ C (by omega)),yN]
  by_cases hI:(k:Int)=t.I
  .rw[aH hI] at hB;simp only[aU,aj] at hB;rw[show ((k:Int)==(fP t).2.2.1)=true from OH hI,aG,bJ (ul _ _ (by simp; omega)),hJ _ (by simp only[aK,aU,aj]; omega)];congr 2
   unfold vV;rw[jW,aH hI,bd];simp
  .rw[aI hI] at hB;simp only[aj] at hB;rw[show ((k:Int)==(fP t).2.2.1)=false from OG hI,aC,hJ _ (by simp only[aK,aU,aj]; omega)];congr 2
   unfold vV;rw[jW,aI hI,bd];simp) (by rw[hc]; exact hA)
 refine (show EU (bs t.n) (aS t.ls) (aS t.es) (fP t) (A.map aZ) P3 0=_ from e).trans ?_;rw[hc,aAA,aT (by rw[jD]; omega),aC]
theorem aNL (t:Tm) (ho:pq t) (hg:yP t) (P3:List PV) (A:List Tok) (hA:A.length+(t.vs.flatMap o6).length<=1000000):Gs (bs t.n) (aS t.ls) (aS t.es) (fP t) (A.map aZ) P3 0=CV (bs t.n) (aS t.ls) (aS t.es) (fP t) ((A ++ t.vs.flatMap o6).map aZ) P3 0:=by
 have hc:dP (fun k=>o6 (t.vs.getD k dV)) 0 t.vs.length=t.vs.flatMap o6:=sD dV fun _ _=>rfl
 have e:=lG (L:=fun A k=>Gs (bs t.n) (aS t.ls) (aS t.es) (fP t) (A.map aZ) P3 (k:Int)) (F:=fun k=>o6 (t.vs.getD k dV)) (n:=t.vs.length) 1000000 (A:=A) (fun k hk B hB=>by
  have hn:=ho.vs.1;obtain ⟨_,h1,h2,h3⟩:=hg.vs _ (dD hk);rw[gD hk dV] at hB;unfold o6 at hB;simp only[aK,aU,aj] at hB;rw[aA8,aN (show (k:Int)<((fP t).2.2.2.2.1.length:Int) by rw[ak]; omega),aG,Es hk,bJ (Dl _ _ B (by omega))];dsimp only;rw[bJ (jE _ _ (by simp only[aK,aU,aj]; omega))];rw[bJ (F9 h1.1 h1.2 _ (by simp only[aK,aU,aj]; omega))];rw[bJ (jE _ _ (by simp only[aK,aU,aj]; omega))];rw[bJ (F9 h2.1 h2.2 _ (by simp only[aK,aU,aj]; omega))];rw[bJ (jE _ _ (by simp only[aK,aU,aj]; omega))];rw[bJ (F9 h3.1 h3.2 _ (by simp only[aK,aU,aj]; omega))];rw[bJ (jE _ _ (by simp only[aK,aU,aj]; omega)),bT (by omega),gD hk dV];congr 2
  unfold o6;rw[bd];simp) (by rw[hc]; exact hA)
 refine (show Gs (bs t.n) (aS t.ls) (aS t.es) (fP t) (A.map aZ) P3 0=_ from e).trans ?_;rw[hc,aA8,aT (show ¬ (t.vs.length:Int)<((fP t).2.2.2.2.1.length:Int) by rw[ak]; omega),aC]
theorem aNK (t:Tm) (x:Mv) (hl:x.us.length<=1000) (hg:∀ u,u∈x.us->(0<=u.1/\u.1<t.vs.length)/\uF t.vs.length u.2) (A:List Tok) (hA:A.length+(gq (tS [44]) (x.us.map (ku (t.vs.map (·.n))))).length+1<=1000000) :
 SS.CC 170 [.ptr 0 0,.int .i64 (x.us.length:Int),.str ⟨#[44]⟩,.func (.func 242) [] [.ptr 1 0,.ptr 2 0,.ptr 3 0]] [aB (dJ A),some [.ptr 0 0],iG (aS (t.vs.map (·.n)),()),O9 (jc x)]=some (.tuple [],[aB (dJ (A ++ gq (tS [44]) (x.us.map (ku (t.vs.map (·.n)))))),some [.ptr 0 0],iG (aS (t.vs.map (·.n)),()),O9 (jc x)]):=by
 have hc:dP (fun i=>(if i=0 then [] else [tS [44]]) ++ ku (t.vs.map (·.n)) (x.us.getD i dU)) 0 x.us.length=gq (tS [44]) (x.us.map (ku (t.vs.map (·.n)))):=O0 (tS [44]) dU (f:=ku (t.vs.map (·.n))) rfl (fun _=>rfl);have one:∀ (i:Nat) (hi:i<x.us.length) (B:List Tok),B.length+(ku (t.vs.map (·.n)) x.us[i]).length+1<=1000000->SS.CC 242 [.int .i64 (i:Int),.ptr 0 0,.ptr 1 0,.ptr 2 0] [some [.ptr 3 0],iG (aS (t.vs.map (·.n)),()),O9 (jc x),aB (dJ B)]=some (.tuple [],[some [.ptr 3 0],iG (aS (t.vs.map (·.n)),()),O9 (jc x),aB (dJ (B ++ ku (t.vs.map (·.n)) x.us[i]))]):=fun i hi B hB=>by
  obtain ⟨⟨u0,u1⟩,u2⟩:=hg _ (dD hi);have Wi:uF (t.vs.map (·.n)).length (x.us[i]).2:=by rw[Dj]; exact u2
  unfold ku at hB;simp only[aK,aU,aj] at hB;rw[aWM,show (jc x).2.2.2.2.2.2.2.1=x.us.map pUp from rfl,I5 hi];dsimp only;rw[Ep u0 (by rw[Dj]; exact u1),iO,bJ (ul _ B (by omega)),bJ (jE _ _ (by simp only[aK,aU,aj]; omega)),I5 hi];refine (bJ (exC Wi _ (by simp only[aK,aU,aj]; omega))).trans ?_;have e4:B ++ [tW (bs ((t.vs.map (·.n)).getD (x.us[i]).1.toNat [])).data.toList] ++ [tS (⟨#[58,61]⟩:ByteArray).data.toList] ++ uP (t.vs.map (·.n)) (x.us[i]).2=B ++ ku (t.vs.map (·.n)) x.us[i]:=by unfold ku;rw[bd];simp
  rw[<- e4]
 have e:=lG (L:=fun A i=>Jv ⟨#[44]⟩ (x.us.length:Int) (A.map aZ) (aS (t.vs.map (·.n))) (jc x) (i:Int)) (F:=fun i=>(if i=0 then [] else [tS [44]]) ++ ku (t.vs.map (·.n)) (x.us.getD i dU)) (n:=x.us.length) 999999 (A:=A) (fun i hi B hB=>by
  rw[gD hi dU,aK] at hB;rw[aAN,aN (by omega),aG,bT (by omega),gD hi dU];by_cases h0:i=0
  .rw[aT (by omega),aC,a5K (one i hi B (by omega)),aH h0];rfl
  .rw[aI h0] at hB ⊢;simp only[aU,aj] at hB;rw[aN (by omega),aG,bJ (jE _ B (by omega)),a5K (one i hi _ (by simp only[aK,aU,aj]; omega)),kN]) (by rw[hc]; omega)
 rw[hc] at e;rw[aUJ];refine (show Jv ⟨#[44]⟩ (x.us.length:Int) (A.map aZ) (aS (t.vs.map (·.n))) (jc x) 0=_ from e).trans ?_;rw[aAN,aT (by omega),aC]
theorem aNG (t:Tm) (ho:pq t) (hg:yP t) (A:List Tok) (hA:A.length+(t.ms.flatMap (lJ t)).length+2<=1000000):CV (bs t.n) (aS t.ls) (aS t.es) (fP t) (A.map aZ) (aS (t.vs.map (·.n))) 0=Dk (A ++ t.ms.flatMap (lJ t) ++ [tS [125]]):=by
 have hc:dP (fun k=>lJ t (t.ms.getD k dM)) 0 t.ms.length=t.ms.flatMap (lJ t):=sD dM fun _ _=>rfl
 have e:=lG (L:=fun A k=>CV (bs t.n) (aS t.ls) (aS t.es) (fP t) (A.map aZ) (aS (t.vs.map (·.n))) (k:Int)) (F:=fun k=>lJ t (t.ms.getD k dM)) (n:=t.ms.length) 999998 (A:=A) (fun k hk B hB=>by
  have hn:=ho.ms.1;obtain ⟨h1,h2,h3,h4,h5⟩:=hg.ms _ (dD hk);obtain ⟨o1,o2,o3⟩:=ho.ms.2 _ (dD hk);have h4':uF (t.vs.map (·.n)).length (t.ms[k]).g:=by rw[Dj]; exact h4
  rw[gD hk dM] at hB;unfold lJ at hB;simp only[aK,aU,aj] at hB;rw[aA9,aN (show (k:Int)<((fP t).2.2.2.2.2.1.length:Int) by rw[ak]; omega),aG,Pn hk];dsimp only;rw[Ep h1.1 h1.2,iO,Ep h2.1 h2.2,iO,Ep h3.1 h3.2,iO];rw[bJ (wo4 _ _ _ _ B (by omega)),dS c116,bD (dW o1 tE),gD hk dM];have hJ:∀ C:List Tok,C.length+(if (t.ms[k]).us = [] then [] else tW [100,111]::gq (tS [44]) ((t.ms[k]).us.map (ku (t.vs.map (·.n))))).length+2<=1000000->UL (bs t.n) (aS t.ls) (aS t.es) (fP t) (C.map aZ) (aS (t.vs.map (·.n))) (jc t.ms[k]) (k:Int)=CV (bs t.n) (aS t.ls) (aS t.es) (fP t) ((C ++ (if (t.ms[k]).us = [] then [] else tW [100,111]::gq (tS [44]) ((t.ms[k]).us.map (ku (t.vs.map (·.n))))) ++ [tS [59]]).map aZ) (aS (t.vs.map (·.n))) ((k+1:Nat):Int):=fun C hC=>by
   have hK:∀ D:List Tok,D.length+(gq (tS [44]) ((t.ms[k]).us.map (ku (t.vs.map (·.n))))).length+2<=1000000->UM (bs t.n) (aS t.ls) (aS t.es) (fP t) (D.map aZ) (aS (t.vs.map (·.n))) (jc t.ms[k]) (k:Int)=CV (bs t.n) (aS t.ls) (aS t.es) (fP t) ((D ++ gq (tS [44]) ((t.ms[k]).us.map (ku (t.vs.map (·.n)))) ++ [tS [59]]).map aZ) (aS (t.vs.map (·.n))) ((k+1:Nat):Int):=fun D hD=>by rw[aTD,show (((jc t.ms[k]).2.2.2.2.2.2.2.1.length:Nat):Int)=((t.ms[k]).us.length:Int) from ak _ _,aLP (aNK t _ o2 h5 D (by omega)),bT (by omega)];dsimp only;rw[bJ (jE _ _ (by simp only[aK]; omega))]
   rw[aTC,show (((jc t.ms[k]).2.2.2.2.2.2.2.1.length:Nat):Int)=((t.ms[k]).us.length:Int) from ak _ _];by_cases hu:(t.ms[k]).us = []
   .rw[aH hu] at hC ⊢;simp only[aj] at hC;have hl0:(t.ms[k]).us.length=0:=by rw[hu]; rfl
    rw[aT (by omega),aC,hK C (by rw[hu]; show C.length+0+2<=1000000; omega),hu];rfl
   .rw[aI hu] at hC ⊢;simp only[aU] at hC;have hl0:0<(t.ms[k]).us.length:=List.length_pos_iff.2 hu;rw[aN (by omega),aG,bJ (ul _ C (by omega)),hK _ (by simp only[aK,aU,aj]; omega)];congr 2
    simp
  cases hq:dY (t.ms[k]).g tE with
  | true =>
   rw[hq,aH rfl] at hB;simp only[aj] at hB;rw[uq,aC,hJ _ (by simp only[aK,aU,aj]; omega)];congr 2
   unfold lJ;rw[hq,aH rfl,bd,bd,bd];simp
  | false =>
   rw[hq,aI wG] at hB;simp only[aU] at hB;rw[zn,aG,bJ (ul _ _ (by simp only[aK,aU,aj]; omega)),bJ (exC h4' _ (by simp only[aK,aU,aj]; omega)),hJ _ (by simp only[aK,aU,aj]; omega)];congr 2
   unfold lJ;rw[hq,aI wG,bd,bd,bd];simp) (by rw[hc]; omega)
 refine (show CV (bs t.n) (aS t.ls) (aS t.es) (fP t) (A.map aZ) (aS (t.vs.map (·.n))) 0=_ from e).trans ?_;rw[hc,aA9,aT (show ¬ (t.ms.length:Int)<((fP t).2.2.2.2.2.1.length:Int) by rw[ak]; omega),aC,bJ (jE ⟨#[125]⟩ _ (by simp only[aK]; omega))]
theorem aNH (t:Tm) (ho:pq t) (hg:yP t) (A:List Tok) (hA:A.length+(jv t).length+2<=1000000):SS.CC 168 [.ptr 0 0,A5 (bU t)] [aB (dJ A)]=Dk (A ++ jv t):=by
 unfold jv at hA;simp only[aK,aU,aj] at hA;rw[aTN];dsimp only;rw[kG (bES t.vs ho.vs.1),bJ (Dl _ _ A (by omega)),bJ (aGV t.es ho.es.1 _ (by simp only[aK,aU,aj]; omega)),bJ (jE _ _ (by simp only[aK,aU,aj]; omega))];rw[aND t ho _ _ (by simp only[aK,aU,aj]; omega),aNL t ho hg _ _ (by simp only[aK,aU,aj]; omega),aNG t ho hg _ (by simp only[aK,aU,aj]; omega)];have e4:A ++ [tW (⟨#[116,101,109,112,108,97,116,101]⟩:ByteArray).data.toList,tW (bs t.n).data.toList] ++ qo t.es ++ [tS (⟨#[123]⟩:ByteArray).data.toList] ++ vW t.I t.mr 0 t.ls ++ t.vs.flatMap o6 ++ t.ms.flatMap (lJ t) ++ [tS [125]]=A ++ jv t:=by unfold jv;rw[bd];simp
 rw[<- e4]
abbrev fC (e:nD):List Tok:=if e.c then [tW [99,111,110,116,114,111,108,108,97,98,108,101]] else []
abbrev fO (e:nD):List Tok:=if e.o then [tW [111,98,115,101,114,118,97,98,108,101]] else []
abbrev fF (e:nD):List Tok:=if e.f then [tW [102,111,114,99,105,98,108,101]] else []
theorem aN8 (m:Mo) (e:nD) (A:List Tok) (hA:A.length+3<=1000000) (k:Int):jG (aO m) (A.map aZ) (kC e) 0 k=jG (aO m) ((A ++ fC e ++ fO e ++ fF e).map aZ) (kC e) 3 k:=by
 have s0:∀ B:List Tok,B.length+1<=1000000->jG (aO m) (B.map aZ) (kC e) 0 k=jG (aO m) ((B ++ fC e).map aZ) (kC e) 1 k:=fun B hB=>by
  have q:jG (aO m) (B.map aZ) (kC e) 0 k=aA e.c (aX 165 [.ptr 0 0,.sl false 1 [.str ⟨#[99,111,110,116,114,111,108,108,97,98,108,101]⟩]] [aB (dJ B)] fun _ u=>jG (aO m) u.1 (kC e) 1 k) (jG (aO m) (B.map aZ) (kC e) 1 k):=(Uk _ _ _ _ _).trans (by kernel_rfl);rw[q];unfold fC;cases e.c with
  | true=>rw[aG,bJ (ul _ B hB)]; rfl
  | false=>rw[aC,aI wG,yN]
 have s1:∀ B:List Tok,B.length+1<=1000000->jG (aO m) (B.map aZ) (kC e) 1 k=jG (aO m) ((B ++ fO e).map aZ) (kC e) 2 k:=fun B hB=>by
  have q:jG (aO m) (B.map aZ) (kC e) 1 k=aA e.o (aX 165 [.ptr 0 0,.sl false 1 [.str ⟨#[111,98,115,101,114,118,97,98,108,101]⟩]] [aB (dJ B)] fun _ u=>jG (aO m) u.1 (kC e) 2 k) (jG (aO m) (B.map aZ) (kC e) 2 k):=(Uk _ _ _ _ _).trans (by kernel_rfl);rw[q];unfold fO;cases e.o with
  | true=>rw[aG,bJ (ul _ B hB)]; rfl
  | false=>rw[aC,aI wG,yN]
 have s2:∀ B:List Tok,B.length+1<=1000000->jG (aO m) (B.map aZ) (kC e) 2 k=jG (aO m) ((B ++ fF e).map aZ) (kC e) 3 k:=fun B hB=>by
  have q:jG (aO m) (B.map aZ) (kC e) 2 k=aA e.f (aX 165 [.ptr 0 0,.sl false 1 [.str ⟨#[102,111,114,99,105,98,108,101]⟩]] [aB (dJ B)] fun _ u=>jG (aO m) u.1 (kC e) 3 k) (jG (aO m) (B.map aZ) (kC e) 3 k):=(Uk _ _ _ _ _).trans (by kernel_rfl);rw[q];unfold fF;cases e.f with
  | true=>rw[aG,bJ (ul _ B hB)]; rfl
  | false=>rw[aC,aI wG,yN]
 have q1:(fC e).length<=1:=by unfold fC; cases e.c<;>simp
 have q2:(fO e).length<=1:=by unfold fO; cases e.o<;>simp
 rw[s0 A (by omega),s1 _ (by rw[aK]; omega),s2 _ (by rw[aK,aK]; omega)]
theorem aN7 (m:Mo) (ho:ji m) (hg:zy m) (A:List Tok) (hA:A.length+(m.es.flatMap pz).length<=900000):H6 (aO m) (A.map aZ) 0=Gy (aO m) ((A ++ m.es.flatMap pz).map aZ) 0:=by
 have hc:dP (fun k=>pz (m.es.getD k dE)) 0 m.es.length=m.es.flatMap pz:=sD dE fun _ _=>rfl
 have e:=lG (L:=fun A k=>H6 (aO m) (A.map aZ) (k:Int)) (F:=fun k=>pz (m.es.getD k dE)) (n:=m.es.length) 900000 (A:=A) (fun k hk B hB=>by
  have hn:=ho.es.1;obtain ⟨_,k0,k4⟩:=hg.es _ (dD hk);have hf:pz (m.es[k]) = [tW [101,118,101,110,116],tW (m.es[k]).n] ++ fC m.es[k] ++ fO m.es[k] ++ fF m.es[k] ++ (if (m.es[k]).k=0 then [] else tW [102,97,117,108,116]::eG (m.es[k]).k) ++ [tS [59]]:=rfl;rw[gD hk dE] at hB ⊢;rw[hf] at hB ⊢;simp only[aK,aU,aj] at hB;have q1:(fC m.es[k]).length<=1:=by unfold fC; cases (m.es[k]).c<;>simp
  have q2:(fO m.es[k]).length<=1:=by unfold fO; cases (m.es[k]).o<;>simp
  have q3:(fF m.es[k]).length<=1:=by unfold fF; cases (m.es[k]).f<;>simp
  rw[aCN,aN (show (k:Int)<((aO m).2.1.length:Int) by rw[ak]; omega),aG,VX hk,bJ (Dl _ _ B (by omega))];refine (aN8 m m.es[k] _ (by simp only[aK,aU,aj]; omega) _).trans ?_;rw[Uk,aT (by decide),aC,bT (by omega)];dsimp only;by_cases hk0:(m.es[k]).k=0
  .rw[show ((m.es[k]).k != 0)=false from qZ hk0,aC,bJ (jE _ _ (by simp only[aK,aU,aj]; omega)),aH hk0];congr 2
   rw[bd];simp
  .rw[aI hk0] at hB ⊢;simp only[aU] at hB;rw[show ((m.es[k]).k != 0)=true from ru hk0,aG,bJ (ul _ _ (by simp only[aK,aU,aj]; omega)),bJ (F9 (by omega) (by omega) _ (by simp only[aK,aU,aj]; omega)),bJ (jE _ _ (by simp only[aK,aU,aj]; omega))];congr 2
   rw[bd];simp) (by rw[hc]; exact hA)
 refine (show H6 (aO m) (A.map aZ) 0=_ from e).trans ?_;rw[hc,aCN,aT (show ¬ (m.es.length:Int)<((aO m).2.1.length:Int) by rw[ak]; omega),aC]
theorem aNJ (m:Mo) (ho:ji m) (hg:zy m) (A:List Tok) (hA:A.length+(m.ts.flatMap jv).length<=900000):Gy (aO m) (A.map aZ) 0=CX (aO m) ((A ++ m.ts.flatMap jv).map aZ) 0:=by
 have hc:dP (fun k=>jv (m.ts.getD k dT)) 0 m.ts.length=m.ts.flatMap jv:=sD dT fun _ _=>rfl
 have e:=lG (L:=fun A k=>Gy (aO m) (A.map aZ) (k:Int)) (F:=fun k=>jv (m.ts.getD k dT)) (n:=m.ts.length) 900000 (A:=A) (fun k hk B hB=>by have hn:=ho.ts.1;rw[gD hk dT] at hB;rw[aCK,aN (show (k:Int)<((aO m).2.2.1.length:Int) by rw[ak]; omega),aG,L6 hk,bJ (aNH _ (ho.ts.2 _ (dD hk)).2 (hg.ts _ (dD hk)).2 B (by omega)),bT (by omega),gD hk dT]) (by rw[hc]; exact hA);refine (show Gy (aO m) (A.map aZ) 0=_ from e).trans ?_;rw[hc,aCK,aT (show ¬ (m.ts.length:Int)<((aO m).2.2.1.length:Int) by rw[ak]; omega),aC]
theorem aDW (w:ByteArray) (x:Ins) (hx:xP x.es) (B:List Tok) (K:Sh.V fU->R) (hB:B.length+(inT w.data.toList x).length<=900000):(aX 165 [.ptr 0 0,.sl false 1 [.str w,.str (bs x.n)]] [aB (dJ B)] fun _ u20=>aX 166 [.ptr 0 0,.sl false 1 [.str ⟨#[61]⟩]] [aB u20] fun _ u23=>aX 165 [.ptr 0 0,.sl false 1 [.str (bs x.t)]] [aB u23] fun _ u26=>aX 169 [.ptr 0 0,.sl false 1 (aS x.es)] [aB u26] fun _ u29=>aX 166 [.ptr 0 0,.sl false 1 [.str ⟨#[59]⟩]] [aB u29] fun _ u32=>K u32)=K (dJ (B ++ inT w.data.toList x)):=by
 unfold inT at hB;simp only[aK,aU,aj] at hB;rw[bJ (Dl _ _ B (by omega)),bJ (jE _ _ (by simp only[aK,aU,aj]; omega)),bJ (ul _ _ (by simp only[aK,aU,aj]; omega)),bJ (aGV _ hx.1 _ (by simp only[aK,aU,aj]; omega)),bJ (jE _ _ (by simp only[aK,aU,aj]; omega))];congr 2
 unfold inT;rw[bd,bd];simp
theorem aNA (m:Mo) (l:List Ins) (hn:l.length<=1000) (hl:∀ x,x∈l->xP x.es) (A:List Tok) (hA:A.length+(l.flatMap (inT wC)).length<=900000):wU (aO m) (A.map aZ) 0 (l.map di) 0 0 ((l.map di).length:Int)=CX (aO m) ((A ++ l.flatMap (inT wC)).map aZ) 1:=by
 have hc:dP (fun k=>inT wC (l.getD k dI)) 0 l.length=l.flatMap (inT wC):=sD dI fun _ _=>rfl
 have e:=lG (L:=fun A k=>wU (aO m) (A.map aZ) (k:Int) (l.map di) 0 0 ((l.map di).length:Int)) (F:=fun k=>inT wC (l.getD k dI)) (n:=l.length) 900000 (A:=A) (fun k hk B hB=>by rw[gD hk dI] at hB ⊢;rw[Uj,aN (by rw[ak]; omega),aG,Eo hk,bT (by omega)];exact aDW ⟨#[99,111,109,112,111,110,101,110,116]⟩ _ (hl _ (dD hk)) B _ hB) (by rw[hc]; exact hA);refine (show wU (aO m) (A.map aZ) 0 (l.map di) 0 0 ((l.map di).length:Int)=_ from e).trans ?_;rw[hc,Uj,aT (by rw[ak]; omega),aC];rfl
theorem aNB (m:Mo) (l:List Ins) (hn:l.length<=1000) (hl:∀ x,x∈l->xP x.es) (A:List Tok) (hA:A.length+(l.flatMap (inT wR)).length<=900000):wU (aO m) (A.map aZ) 0 (l.map di) 1 1 ((l.map di).length:Int)=CX (aO m) ((A ++ l.flatMap (inT wR)).map aZ) 2:=by
 have hc:dP (fun k=>inT wR (l.getD k dI)) 0 l.length=l.flatMap (inT wR):=sD dI fun _ _=>rfl
 have e:=lG (L:=fun A k=>wU (aO m) (A.map aZ) (k:Int) (l.map di) 1 1 ((l.map di).length:Int)) (F:=fun k=>inT wR (l.getD k dI)) (n:=l.length) 900000 (A:=A) (fun k hk B hB=>by rw[gD hk dI] at hB ⊢;rw[Uj,aN (by rw[ak]; omega),aG,Eo hk,bT (by omega)];exact aDW ⟨#[114,101,113,117,105,114,101,109,101,110,116]⟩ _ (hl _ (dD hk)) B _ hB) (by rw[hc]; exact hA);refine (show wU (aO m) (A.map aZ) 0 (l.map di) 1 1 ((l.map di).length:Int)=_ from e).trans ?_;rw[hc,Uj,aT (by rw[ak]; omega),aC];rfl
theorem aN9 (m:Mo) (ho:ji m) (A:List Tok) (hA:A.length+(m.cs.flatMap (inT wC)).length+(m.rs.flatMap (inT wR)).length<=900000):CX (aO m) (A.map aZ) 0=Gz (aO m) ((A ++ m.cs.flatMap (inT wC) ++ m.rs.flatMap (inT wR)).map aZ) 0:=by
 have q0:CX (aO m) (A.map aZ) 0=wU (aO m) (A.map aZ) 0 (m.cs.map di) 0 0 ((m.cs.map di).length:Int):=(Yn _ _ _).trans (by kernel_rfl);have q1:∀ B:List Tok,CX (aO m) (B.map aZ) 1=wU (aO m) (B.map aZ) 0 (m.rs.map di) 1 1 ((m.rs.map di).length:Int):=fun B=>(Yn _ _ _).trans (by kernel_rfl)
 rw[q0,aNA m m.cs ho.is.1 (fun x hx=>(ho.is.2.2 x (RQ _ hx)).2.2) A (by omega),q1,aNB m m.rs ho.is.2.1 (fun x hx=>(ho.is.2.2 x (X6 _ hx)).2.2) _ (by rw[aK]; omega),Yn,aT (by decide),aC]
theorem aNE (x:qX) (hn:x.ls.length<=1000) (A:List Tok) (hA:A.length+(gq (tS [44]) (x.ls.map fun l => [tW l.1,tW l.2])).length<=900000):SS.CC 170 [.ptr 0 0,.int .i64 (x.ls.length:Int),.str ⟨#[44]⟩,.func (.func 171) [] [.ptr 1 0,.ptr 2 0]] [aB (dJ A),some [.ptr 0 0],uy (yH x)]=some (.tuple [],[aB (dJ (A ++ gq (tS [44]) (x.ls.map fun l => [tW l.1,tW l.2]))),some [.ptr 0 0],uy (yH x)]):=by
 have hc:dP (fun i=>(if i=0 then [] else [tS [44]]) ++ [tW (x.ls.getD i dL).1,tW (x.ls.getD i dL).2]) 0 x.ls.length=gq (tS [44]) (x.ls.map fun l => [tW l.1,tW l.2]):=O0 (tS [44]) dL (f:=fun l => [tW l.1,tW l.2]) rfl (fun _=>rfl);have one:∀ (i:Nat) (hi:i<x.ls.length) (B:List Tok),B.length+2<=1000000->SS.CC 171 [.int .i64 (i:Int),.ptr 0 0,.ptr 1 0] [some [.ptr 2 0],uy (yH x),aB (dJ B)]=some (.tuple [],[some [.ptr 2 0],uy (yH x),aB (dJ (B ++ [tW (x.ls[i]).1,tW (x.ls[i]).2]))]):=fun i hi B hB=>by rw[aUQ,show (yH x).2.1=x.ls.map su from rfl,Kz hi,Kz hi,bJ (Dl _ _ B hB),bd,bd]
 have e:=lG (L:=fun A i=>Jy ⟨#[44]⟩ (x.ls.length:Int) (A.map aZ) (yH x) (i:Int)) (F:=fun i=>(if i=0 then [] else [tS [44]]) ++ [tW (x.ls.getD i dL).1,tW (x.ls.getD i dL).2]) (n:=x.ls.length) 900000 (A:=A) (fun i hi B hB=>by
  rw[aK] at hB;simp only[aU,aj] at hB;rw[aAP,aN (by omega),aG,bT (by omega),gD hi dL];by_cases h0:i=0
  .rw[aT (by omega),aC,a5H (one i hi B (by omega)),aH h0];rfl
  .rw[aI h0];rw[aN (by omega),aG,bJ (jE _ B (by omega)),a5H (one i hi _ (by simp only[aK,aU,aj]; omega)),kN]) (by rw[hc]; exact hA)
 rw[hc] at e;rw[aUP];refine (show Jy ⟨#[44]⟩ (x.ls.length:Int) (A.map aZ) (yH x) 0=_ from e).trans ?_;rw[aAP,aT (by omega),aC]
theorem aNI (x:Cst) (hn:x.ts.length<=1000) (hr:∀ l,l∈x.ts->R16 l.2) (A:List Tok) (hA:A.length+(gq (tS [43]) (x.ts.map fun l=>eG l.2 ++ [tS [42],tW l.1])).length<=900000):SS.CC 170 [.ptr 0 0,.int .i64 (x.ts.length:Int),.str ⟨#[43]⟩,.func (.func 172) [] [.ptr 1 0,.ptr 2 0]] [aB (dJ A),some [.ptr 0 0],rW (kw x)]=some (.tuple [],[aB (dJ (A ++ gq (tS [43]) (x.ts.map fun l=>eG l.2 ++ [tS [42],tW l.1]))),some [.ptr 0 0],rW (kw x)]):=by
 have hc:dP (fun i=>(if i=0 then [] else [tS [43]]) ++ (eG (x.ts.getD i dR).2 ++ [tS [42],tW (x.ts.getD i dR).1])) 0 x.ts.length=gq (tS [43]) (x.ts.map fun l=>eG l.2 ++ [tS [42],tW l.1]):=O0 (tS [43]) dR (f:=fun l=>eG l.2 ++ [tS [42],tW l.1]) rfl (fun _=>rfl);have one:∀ (i:Nat) (hi:i<x.ts.length) (B:List Tok),B.length+4<=1000000->SS.CC 172 [.int .i64 (i:Int),.ptr 0 0,.ptr 1 0] [some [.ptr 2 0],rW (kw x),aB (dJ B)]=some (.tuple [],[some [.ptr 2 0],rW (kw x),aB (dJ (B ++ (eG (x.ts[i]).2 ++ [tS [42],tW (x.ts[i]).1])))]):=fun i hi B hB=>by
  have r1:=hr _ (dD hi);have l1:=zB (x.ts[i]).2;rw[aUR,show (kw x).2.1=x.ts.map DC from rfl,L9 hi];dsimp only;rw[bJ (F9 r1.1 r1.2 B (by omega)),bJ (jE _ _ (by simp only[aK]; omega)),L9 hi,bJ (ul _ _ (by simp only[aK,aU,aj]; omega)),bd];have e4:B ++ eG (x.ts[i]).2 ++ [tS (⟨#[42]⟩:ByteArray).data.toList] ++ [tW (x.ts[i]).1]=B ++ (eG (x.ts[i]).2 ++ [tS [42],tW (x.ts[i]).1]):=by simp
  rw[e4]
 have e:=lG (L:=fun A i=>Ju ⟨#[43]⟩ (x.ts.length:Int) (A.map aZ) (kw x) (i:Int)) (F:=fun i=>(if i=0 then [] else [tS [43]]) ++ (eG (x.ts.getD i dR).2 ++ [tS [42],tW (x.ts.getD i dR).1])) (n:=x.ts.length) 900000 (A:=A) (fun i hi B hB=>by
  rw[aK] at hB;rw[aAM,aN (by omega),aG,bT (by omega),gD hi dR];by_cases h0:i=0
  .rw[aT (by omega),aC,a5I (one i hi B (by omega)),aH h0];rfl
  .rw[aI h0];rw[aN (by omega),aG,bJ (jE _ B (by omega)),a5I (one i hi _ (by simp only[aK,aU,aj]; omega)),kN]) (by rw[hc]; exact hA)
 rw[hc] at e;rw[aUG];refine (show Ju ⟨#[43]⟩ (x.ts.length:Int) (A.map aZ) (kw x) 0=_ from e).trans ?_;rw[aAM,aT (by omega),aC]
theorem aNM (m:Mo) (ho:ji m) (A:List Tok) (hA:A.length+(m.xs.flatMap pY).length<=900000):Gz (aO m) (A.map aZ) 0=H5 (m.ks.map kL) ((A ++ m.xs.flatMap pY).map aZ) 0:=by
 have hc:dP (fun k=>pY (m.xs.getD k dX)) 0 m.xs.length=m.xs.flatMap pY:=sD dX fun _ _=>rfl
 have e:=lG (L:=fun A k=>Gz (aO m) (A.map aZ) (k:Int)) (F:=fun k=>pY (m.xs.getD k dX)) (n:=m.xs.length) 900000 (A:=A) (fun k hk B hB=>by
  have hn:=ho.xs.1;obtain ⟨_,o2,_⟩:=ho.xs.2 _ (dD hk);rw[gD hk dX] at hB ⊢;unfold pY at hB;simp only[aK,aU,aj] at hB;rw[aCL,aN (show (k:Int)<((aO m).2.2.2.2.2.1.length:Int) by rw[ak]; omega),aG,I4 hk,bJ (Dl _ _ B (by omega)),bJ (jE _ _ (by simp only[aK,aU,aj]; omega)),ak,aLL (aNE _ o2 _ (by simp only[aK,aU,aj]; omega)),bJ (jE _ _ (by simp only[aK,aU,aj]; omega)),bT (by omega)];congr 2
  unfold pY;rw[bd];simp) (by rw[hc]; exact hA)
 refine (show Gz (aO m) (A.map aZ) 0=_ from e).trans ?_;rw[hc,aCL,aT (show ¬ (m.xs.length:Int)<((aO m).2.2.2.2.2.1.length:Int) by rw[ak]; omega),aC]
theorem aNC (l:List Cst) (hn:l.length<=1000) (ho:∀ x,x∈l->x.ts.length<=1000) (hg:∀ x,x∈l->R16 x.b/\∀ t,t∈x.ts->R16 t.2) (A:List Tok) (hA:A.length+(l.flatMap pJ).length<=900000):H5 (l.map kL) (A.map aZ) 0=Dk (A ++ l.flatMap pJ):=by
 have hc:dP (fun k=>pJ (l.getD k dK)) 0 l.length=l.flatMap pJ:=sD dK fun _ _=>rfl
 have e:=lG (L:=fun A k=>H5 (l.map kL) (A.map aZ) (k:Int)) (F:=fun k=>pJ (l.getD k dK)) (n:=l.length) 900000 (A:=A) (fun k hk B hB=>by
  have o2:=ho _ (dD hk);obtain ⟨g3,g4⟩:=hg _ (dD hk);rw[gD hk dK] at hB ⊢;unfold pJ at hB;simp only[aK,aU,aj] at hB;rw[aCM,aN (by rw[ak]; omega),aG,Kw hk,bJ (Dl _ _ B (by omega)),bJ (jE _ _ (by simp only[aK,aU,aj]; omega)),ak,aLM (aNI _ o2 g4 _ (by simp only[aK,aU,aj]; omega)),bJ (jE _ _ (by simp only[aK,aU,aj]; omega))];dsimp only;rw[bJ (F9 g3.1 g3.2 _ (by simp only[aK,aU,aj]; omega)),bJ (jE _ _ (by simp only[aK,aU,aj]; omega)),bT (by omega)];congr 2
  unfold pJ;rw[bd];simp) (by rw[hc]; exact hA)
 refine (show H5 (l.map kL) (A.map aZ) 0=_ from e).trans ?_;rw[hc,aCM,aT (by rw[ak]; omega),aC]
theorem aNF (m:Mo) (ho:ji m) (hg:zy m) (hA:(jH m).length<=900000):SS.CC 57 [.ptr 0 0,A0 (aO m)] [aB (dJ [])]=Dk (jH m):=by
 unfold jH at hA;simp only[aK,aU,aj] at hA;rw[a'X,bJ (Dl _ _ [] (by decide)),bJ (jE _ _ (by simp))];dsimp only;rw[aN7 m ho hg _ (by simp only[aK,aU,aj]; omega),aNJ m ho hg _ (by simp only[aK,aU,aj]; omega),aN9 m ho _ (by simp only[aK,aU,aj]; omega),aNM m ho _ (by simp only[aK,aU,aj]; omega),aNC m.ks ho.ks.1 (fun x hx=>(ho.ks.2 x hx).2.1) (fun x hx=>⟨(hg.ks x hx).2.2.1,fun t ht=>((hg.ks x hx).2.2.2 t ht).2⟩) _ (by simp only[aK,aU,aj]; omega)];have e4 : [] ++ [tW (⟨#[109,111,100,101,108]⟩:ByteArray).data.toList,tW (bs m.n).data.toList] ++ [tS (⟨#[59]⟩:ByteArray).data.toList] ++ m.es.flatMap pz ++ m.ts.flatMap jv ++ m.cs.flatMap (inT wC) ++ m.rs.flatMap (inT wR) ++ m.xs.flatMap pY ++ m.ks.flatMap pJ=jH m:=by unfold jH;rw[bd];simp
 rw[<- e4]
structure lC where
 d:Nat
 last:Nm
 out:Nm
 fr:Bool
def qw (st:lC) (s:Nm):lC:=if s = [125] then ⟨st.d-1,st.last,if st.fr then st.out else st.out ++ [10],true⟩ else st
def nR (st:lC) (s:Nm):Nm:=(if st.fr then st.out ++ Lib.repeatL [32,32] st.d else if s = [44]\/s = [59]\/s = [41]\/st.last = [40] then st.out else st.out ++ [32]) ++ s
def pend (d:Nat) (s o:Nm):lC:=if s = [123] then ⟨d+1,s,o ++ [10],true⟩ else if s = [125]\/s = [59] then ⟨d,s,o ++ [10],true⟩ else ⟨d,s,o,false⟩
def iW (st:lC) (s:Nm):lC:=pend (qw st s).d s (nR (qw st s) s)
def FH (st:lC):Nm:=if st.fr then st.out else st.out ++ [10]
theorem a7H (l:Nm):SS.CC 162 [.ptr 0 0] [lu (l,())]=some (.tuple [],[lu (l,())]):=JC rfl
theorem wby (c:Int) (l:Nm) (hl:l.length<=1000000000) (h0:0<=c) (h1:c<256):SS.CC 174 [.ptr 0 0,.int .u8 c] [lu (l,())]=some (.raw .nilIface,[lu (l ++ [UInt8.ofNat c.toNat],())]):=by rw[aUT,a5J (a7H l)];dsimp only;rw[aN (show l.length+1<=aV by show _<=1073741824; omega),aN h0,aN h1];rfl
theorem wst (s l:Nm) (hl:l.length+s.length<=1000000000):SS.CC 52 [.ptr 0 0,.str (bs s)] [lu (l,())]=some (.tuple [.int .i64 (s.length:Int),.raw .nilIface],[lu (l ++ s,())]):=by rw[aZY,a5J (a7H l)];dsimp only;rw[jR,aN (show l.length+s.length<=aV by show _<=1073741824; omega),ah rfl,bd]
theorem OE (fr:Bool) (l:Nm) (hl:l.length<=1000000000):SS.CC 173 [.ptr 0 0,.ptr 1 0] [uz (fr,()),yR (l,())]=some (.tuple [],[uz (true,()),yR (if fr then l else l ++ [10],())]):=by
 rw[aUS];cases fr with
 | true=>rfl
 | false=>rw[zn,aG,a5E (wby 10 l hl (by decide) (by decide))]; rfl
theorem bAP (k:Nat) (hk:k<=1000000):SS.CC 30 [.str ⟨#[32,32]⟩,.int .i64 (k:Int)] []=some (.str (bs (Lib.repeatL [32,32] k)),[]):=by
 refine JC ?_;show (match decide (0<=(k:Int))&&(Nat.ble (k:Int).toNat 9223372036854775807&&Nat.ble ((⟨#[32,32]⟩:ByteArray).size*(k:Int).toNat) 140737488355328) with
  | true=>some (PV.str ⟨(Lib.repeatL [32,32] (k:Int).toNat).toArray⟩,([]:aF))
  | false=>none)=_
 rw[aN (by omega),lm,show (⟨#[32,32]⟩:ByteArray).size=2 from rfl,show Nat.ble k 9223372036854775807=true from J8 (by omega),show Nat.ble (2*k) 140737488355328=true from J8 (by omega)];rfl
theorem aIB (k:Nat):(Lib.repeatL ([32,32]:List UInt8) k).length=2*k:=by rw[Lib.repeatL_length]; simp; omega
theorem EF (s r:Nm):((bs s).toList==(bs r).toList)=decide (s=r):=a6X s r
theorem a1C (X:List PV) (d:Nat) (hd:d<=100000) (q:Sh.V jl) (s:Nm) (hq:q.2.1=bs s) (o:Nm) (ho:o.length+s.length<=900000000) (fr:Bool) (k:Nat) (hk:k<1000000):CY X o fr q (d:Int) (k:Int)=wV X ((pend d s (o ++ s)).d:Int) (bs (pend d s (o ++ s)).last) ((k+1:Nat):Int) (pend d s (o ++ s)).out (pend d s (o ++ s)).fr:=by
 have hl:(o ++ s).length<=1000000000:=by rw[aK]; omega
 rw[a'Z,hq,a5D (wst s o (by omega)),bT (k:=k) (by omega)];dsimp only;have e1:((bs s).toList==(⟨#[123]⟩:ByteArray).toList)=decide (s = [123]):=EF s [123];have e2:((bs s).toList==(⟨#[125]⟩:ByteArray).toList)=decide (s = [125]):=EF s [125];have e3:((bs s).toList==(⟨#[59]⟩:ByteArray).toList)=decide (s = [59]):=EF s [59];rw[e1,e2,e3];unfold pend;by_cases h1:s = [123]
 .rw[aN h1,aG,aH h1];refine (NY (OE false (o ++ s) hl)).trans ?_;rw[bT (k:=d) (by omega)];rfl
 .rw[aT h1,aC,aI h1];by_cases h2:s = [125]
  .rw[aN h2,aG,aH (.inl h2)];exact NY (OE false (o ++ s) hl)
  .rw[aT h2,aC];by_cases h3:s = [59]
   .rw[aN h3,aG,aH (.inr h3)];exact NY (OE false (o ++ s) hl)
   .rw[aT h3,aC,aI (by rintro (h | h); exact h2 h; exact h3 h)]
theorem aHX (X:List PV) (st:lC) (hd:st.d<=100000) (q:Sh.V jl) (s:Nm) (hq:q.2.1=bs s) (ho:st.out.length<=800000000) (hs:s.length<=1000) (k:Nat) (hk:k<1000000):Ul X st.out st.fr q (st.d:Int) (bs st.last) (k:Int)=wV X ((pend st.d s (nR st s)).d:Int) (bs (pend st.d s (nR st s)).last) ((k+1:Nat):Int) (pend st.d s (nR st s)).out (pend st.d s (nR st s)).fr:=by
 rw[a'Y,hq];have e1:((bs s).toList==(⟨#[44]⟩:ByteArray).toList)=decide (s = [44]):=EF s [44];have e2:((bs s).toList==(⟨#[59]⟩:ByteArray).toList)=decide (s = [59]):=EF s [59];have e3:((bs s).toList==(⟨#[41]⟩:ByteArray).toList)=decide (s = [41]):=EF s [41];have e4:((bs st.last).toList==(⟨#[40]⟩:ByteArray).toList)=decide (st.last = [40]):=EF st.last [40];rw[e1,e2,e3,e4];unfold nR;cases hf:st.fr with
 | true =>have hr:=aIB st.d;rw[aG,ou (bAP st.d (by omega)),aH rfl];refine (a5D (wst _ _ (by omega))).trans ?_;exact a1C X st.d hd q s hq _ (by rw[aK]; omega) true k hk
 | false =>
  rw[aC,aI wG];have yes:∀ (_:s = [44]\/s = [59]\/s = [41]\/st.last = [40]),CY X st.out false q (st.d:Int) (k:Int)=wV X ((pend st.d s ((if s = [44]\/s = [59]\/s = [41]\/st.last = [40] then st.out else st.out ++ [32]) ++ s)).d:Int) (bs (pend st.d s ((if s = [44]\/s = [59]\/s = [41]\/st.last = [40] then st.out else st.out ++ [32]) ++ s)).last) ((k+1:Nat):Int) (pend st.d s ((if s = [44]\/s = [59]\/s = [41]\/st.last = [40] then st.out else st.out ++ [32]) ++ s)).out (pend st.d s ((if s = [44]\/s = [59]\/s = [41]\/st.last = [40] then st.out else st.out ++ [32]) ++ s)).fr:=fun h=>by rw[aH h];exact a1C X st.d hd q s hq st.out (by omega) false k hk
  by_cases h1:s = [44]
  .rw[aN h1,uq,aC]; exact yes (.inl h1)
  rw[aT h1,zn,aG];by_cases h2:s = [59]
  .rw[aN h2,uq,aC]; exact yes (.inr (.inl h2))
  rw[aT h2,zn,aG];by_cases h3:s = [41]
  .rw[aN h3,uq,aC]; exact yes (.inr (.inr (.inl h3)))
  rw[aT h3,zn,aG];by_cases h4:st.last = [40]
  .rw[aN h4,uq,aC]; exact yes (.inr (.inr (.inr h4)))
  rw[aT h4,zn,aG,a5E (wby 32 _ (by omega) (by decide) (by decide)),aI (by rintro (h | h | h | h); exact h1 h; exact h2 h; exact h3 h; exact h4 h)];exact a1C X st.d hd q s hq _ (by rw[aK]; simp; omega) false k hk
theorem b9E (T:List Tok) (hn:T.length<=900000) {k:Nat} (hk:k<T.length) (st:lC) (hd:st.d<=100000) (ho:st.out.length<=700000000) (hs:(T[k]).text.length<=1000):wV (T.map aZ) (st.d:Int) (bs st.last) (k:Int) st.out st.fr=wV (T.map aZ) ((iW st (T[k]).text).d:Int) (bs (iW st (T[k]).text).last) ((k+1:Nat):Int) (iW st (T[k]).text).out (iW st (T[k]).text).fr:=by
 have e2:((bs (T[k]).text).toList==(⟨#[125]⟩:ByteArray).toList)=decide ((T[k]).text = [125]):=EF _ [125];rw[aCQ,aN (by rw[bW]; omega),aG,Po hk];rw[show (tk T[k]).2.1=bs (T[k]).text from rfl,e2];unfold iW qw;by_cases h:(T[k]).text = [125]
 .rw[aN h,aG,aH h];refine (NY (OE st.fr st.out (by omega))).trans ?_;have hz:(if (0:Int)>i64.wrap ((st.d:Int)-1) then (0:Int) else i64.wrap ((st.d:Int)-1))=((st.d-1:Nat):Int):=by rw[wrap64 (by omega) (by omega)];split<;>omega
  rw[hz];exact aHX (T.map aZ) ⟨st.d-1,st.last,if st.fr then st.out else st.out ++ [10],true⟩ (by show st.d-1<=_; omega) _ _ rfl (by
   show (if st.fr then st.out else st.out ++ [10]).length<=800000000;split
   .omega
   .rw[aK,oh]; omega) hs k (by omega)
 .rw[aT h,aC,aI h];exact aHX (T.map aZ) st hd _ _ rfl (by omega) hs k (by omega)
def dN (st:lC) (T:List Tok):lC:=T.foldl (fun st t=>iW st t.text) st
abbrev lL:lC:=⟨0,[],[],true⟩
theorem bAA (T:List Tok) {k:Nat} (hk:k<T.length) (st:lC):dN st (T.take (k+1))=iW (dN st (T.take k)) (T[k]).text:=by unfold dN;rw[J7 hk,X0]; rfl
theorem aHW (T:List Tok) (hn:T.length<=900000) (hs:∀ t,t∈T->t.text.length<=1000) (hb:∀ k,k<=T.length->(dN lL (T.take k)).d<=100000/\(dN lL (T.take k)).out.length<=700000000):wV (T.map aZ) 0 ⟨#[]⟩ 0 [] true=some (.tuple [.str (bs (FH (dN lL T))),.int .i64 0],[]):=by
 refine sU (n:=T.length) (L:=fun k=>wV (T.map aZ) ((dN lL (T.take k)).d:Int) (bs (dN lL (T.take k)).last) (k:Int) (dN lL (T.take k)).out (dN lL (T.take k)).fr) (fun k hk => ?_) ?_
 .have:=hb k (by omega);rw[bAA T hk];exact b9E T hn hk _ this.1 this.2 (hs _ (dD hk))
 .have:=hb T.length (bQ _);rw[tq (bQ _)] at this ⊢;rw[aCQ,aT (by rw[bW]; omega),aC];refine (NY (OE _ _ (by omega))).trans ?_;refine (aLN (s1:=bs (FH (dN lL T))) (y2:=(kH (FH (dN lL T)),())) (JC rfl)).trans rfl
def Kt (ss:List Nm) (t:Tok):Prop:=(∃ s,Gn s/\t=tW s)\/(∃ n,n<=65536/\t=tN n)\/(∃ s,s∈ss/\t=tS s)
def sP:List Nm := [[45],[40],[41],[33],[63],[58],[43],[42],[61,61],[33,61],[60],[60,61],[38,38],[124,124],[44],[46,46],[61],[58,61]]
def sA:List Nm := [59] :: [123] :: [125]::sP
abbrev Pl (T:List Tok):Prop:=∀ t,t∈T->Kt sP t
theorem aJ1:∀ s,s∈sA->s∈ui:=by decide
theorem bBQ:∀ s,s∈sP->s∈sA:=by decide
theorem a5L {t:Tok} (h:Kt sP t):Kt sA t:=by
 rcases h with h | h | ⟨s,hs,e⟩
 .exact .inl h
 .exact .inr (.inl h)
 .exact .inr (.inr ⟨s,bBQ s hs,e⟩)
theorem Na {t:Tok} (h:Kt sA t):Tv t:=by
 rcases h with ⟨s,hs,rfl⟩ | ⟨n,hn,rfl⟩ | ⟨s,hs,rfl⟩
 .exact bD' hs
 .exact aKT hn
 .exact bDZ s (aJ1 s hs)
theorem b1H {s:Nm} (h:Gn s):s.length<=32:=by unfold Gn nameB at h;simp only[aY,gu] at h;exact h.2.2
theorem XV {t:Tok} (h:Kt sA t):t.text.length<=32:=by
 rcases h with ⟨s,hs,rfl⟩ | ⟨n,hn,rfl⟩ | ⟨s,hs,rfl⟩
 .exact b1H hs
 .exact iC (a7Q 4 n (by omega)) (by decide)
 .exact (a2Y s (aJ1 s hs)).2 |> fun h=>iC h (by decide)
theorem aLT {t:Tok} (h:Kt sP t):t.text ≠ [123]/\t.text ≠ [125]/\t.text ≠ [59]:=by
 rcases h with ⟨s,hs,rfl⟩ | ⟨n,hn,rfl⟩ | ⟨s,hs,rfl⟩
 .refine ⟨?_,?_,?_⟩<;>(intro e; have e:s=_:=e; subst e; revert hs; decide)
 .have ht:=(aKT hn).2.2.1;refine ⟨?_,?_,?_⟩<;>(intro e; rw[e] at ht; have hk:=(congrArg (fun c=>c.1) ht).trans (show (jS (tN n)).1=2 from rfl); revert hk; decide)
 .revert s; decide
theorem iK {ss:List Nm} {s:Nm} (h:Gn s):Kt ss (tW s) := .inl ⟨s,h,rfl⟩
theorem jT {ss:List Nm} {s:Nm} (h:s∈ss):Kt ss (tS s) := .inr (.inr ⟨s,h,rfl⟩)
theorem Ht {v:Int} (h:R16 v):Pl (eG v):=by
 unfold eG;split
 .intro t ht;simp only[fQ,tZ,uC] at ht;rcases ht with rfl | rfl
  .exact jT (by decide)
  .exact .inr (.inl ⟨_,by omega,rfl⟩)
 .intro t ht;simp only[Bj] at ht;exact .inr (.inl ⟨_,by omega,ht⟩)
theorem ja {A B:List Tok} (ha:Pl A) (hb:Pl B):Pl (A ++ B):=fun t ht=>(rP.1 ht).elim (ha t) (hb t)
theorem dZ {a:Tok} {B:List Tok} (ha:Kt sP a) (hb:Pl B):Pl (a::B):=fun t ht=>by
 rcases fQ.1 ht with rfl | ht
 .exact ha
 .exact hb t ht
theorem iP:Pl []:=fun t ht=>by cases ht
theorem DD {x:EX} {need:Int} {B:List Tok} (h:Pl B):Pl (wp x need B):=by
 unfold wp;split
 .exact dZ (jT (by decide)) (ja h (dZ (jT (by decide)) iP))
 .exact h
theorem aJG {o:Int} (h:o=2\/o=3\/o=4\/o=6\/o=7\/o=8\/o=9\/o=11\/o=12):xK o∈sP:=by rcases h with rfl | rfl | rfl | rfl | rfl | rfl | rfl | rfl | rfl<;>decide
theorem b9W {ns:List Nm} (hns:∀ s,s∈ns->Gn s) {x:EX} {B:List Tok} (h:PB ns x B):Pl B:=by
 induction h with
 | tt=>exact dZ (iK (by decide)) iP
 | ff=>exact dZ (iK (by decide)) iP
 | num h0 h1=>exact Ht ⟨h0,h1⟩
 | var hs=>exact dZ (iK (hns _ (iV hs))) iP
 | Vh h0 h1 _ ih=>exact dZ (jT (by decide)) (dZ (jT (by decide)) (ja ih (dZ (jT (by decide)) iP)))
 | neg _ _ ih=>exact dZ (jT (by decide)) (DD ih)
 | Vl _ ih=>exact dZ (jT (by decide)) (DD ih)
 | cmp ho _ _ _ _ iha ihb=>exact ja (DD iha) (dZ (jT (aJG (by rcases ho with h | h | h | h<;>simp[h]))) (DD ihb))
 | bin ho _ _ iha ihb=>exact ja (DD iha) (dZ (jT (aJG (by rcases ho with ⟨h,_⟩ | ⟨h,_⟩ | ⟨h,_⟩ | ⟨h,_⟩ | ⟨h,_⟩<;>simp[h]))) (DD ihb))
 | ite _ _ _ PO iha ihb=>exact ja (DD PO) (dZ (jT (by decide)) (ja (DD iha) (dZ (jT (by decide)) (DD ihb))))
theorem b9V {ns:List Nm} (hns:∀ s,s∈ns->Gn s) {x:EX} (h:uF ns.length x):Pl (uP ns x):=b9W hns (Tz h).1
theorem QK {s:Tok} (hs:Kt sP s):∀ {l:List (List Tok)},(∀ T,T∈l->Pl T)->Pl (gq s l)
 | [],_=>iP
 | [a],h=>h a (by simp)
 | a::b::l,h=>ja (h a (by simp)) (dZ hs (QK hs fun T hT=>h T (by simp[hT])))
theorem aHZ {l:List Nm} (h:∀ s,s∈l->Gn s):Pl (qo l):=dZ (jT (by decide)) (ja (QK (jT (by decide)) fun T hT=>by obtain ⟨s,hs,rfl⟩:=kP.1 hT;exact dZ (iK (h s hs)) iP) (dZ (jT (by decide)) iP))
inductive uH:List Tok->Prop
 | mk {X:List Tok}:Pl X->X ≠ []->uH (X ++ [tS [59]])
inductive Sts:List Tok->Prop
 | nil:Sts []
 | cons {X T:List Tok}:uH X->Sts T->Sts (X ++ T)
inductive oI:List Tok->Prop
 | nil:oI []
 | Qi {X T:List Tok}:uH X->oI T->oI (X ++ T)
 | Ql {X B T:List Tok}:Pl X->X ≠ []->Sts B->oI T->oI (X ++ [tS [123]] ++ B ++ [tS [125]] ++ T)
theorem aKG {A B:List Tok} (ha:Sts A) (hb:Sts B):Sts (A ++ B):=by
 induction ha with
 | nil=>exact hb
 | cons h _ ih=>rw[kN]; exact .cons h ih
theorem Ic {A B:List Tok} (ha:oI A) (hb:oI B):oI (A ++ B):=by
 induction ha with
 | nil=>exact hb
 | Qi h _ ih=>rw[kN]; exact .Qi h ih
 | Ql h h2 h3 _ ih =>have:=oI.Ql h h2 h3 ih;simpa only[kN] using this
theorem a2X {α:Type} {f:α->List Tok}:∀ {l:List α},(∀ x,x∈l->uH (f x))->Sts (l.flatMap f)
 | [],_ => .nil
 | a::l,h=>by rw[J5]; exact .cons (h a (by simp)) (a2X fun x hx=>h x (by simp[hx]))
theorem Ie {α:Type} {f:α->List Tok}:∀ {l:List α},(∀ x,x∈l->oI (f x))->oI (l.flatMap f)
 | [],_ => .nil
 | a::l,h=>by rw[J5]; exact Ic (h a (by simp)) (Ie fun x hx=>h x (by simp[hx]))
theorem ML {X:List Tok} (h:uH X):oI X:=by have:=oI.Qi h .nil;rwa [yN] at this
theorem FV {X Y:List Tok} (e:Y=X ++ [tS [59]]) (h:Pl X) (h2:X ≠ []):uH Y:=e ▸ .mk h h2
theorem bD0 {e:nD} (h:Gn e.n) (h0:0<=e.k/\e.k<=4):uH (pz e):=by
 refine FV rfl ?_ (by simp);refine ja (ja (ja (ja (dZ (iK (by decide)) (dZ (iK h) iP)) ?_) ?_) ?_) ?_
 .split
  .exact dZ (iK (by decide)) iP
  .exact iP
 .split
  .exact dZ (iK (by decide)) iP
  .exact iP
 .split
  .exact dZ (iK (by decide)) iP
  .exact iP
 .split
  .exact iP
  .exact dZ (iK (by decide)) (Ht ⟨by omega,by omega⟩)
theorem bD1 {I:Int} {mr:List Int} {i:Nat} {s:Nm} (h:Gn s):uH (vV I mr i s):=by
 refine FV rfl ?_ (by simp);refine ja (ja (dZ (iK (by decide)) (dZ (iK h) iP)) ?_) ?_
 .split
  .exact dZ (iK (by decide)) iP
  .exact iP
 .split
  .exact dZ (iK (by decide)) iP
  .exact iP
theorem aKH {I:Int} {mr:List Int}:∀ {l:List Nm} {i:Nat},(∀ s,s∈l->Gn s)->Sts (vW I mr i l)
 | [],_,_ => .nil
 | s::l,i,h => .cons (bD1 (h s (by simp))) (aKH fun s hs=>h s (by simp[hs]))
theorem bD3 {v:Vr} (h:Gn v.n/\R16 v.lo/\R16 v.hi/\R16 v.i):uH (o6 v):=by refine FV rfl ?_ (by simp);exact ja (ja (ja (ja (ja (dZ (iK (by decide)) (dZ (iK h.1) (dZ (jT (by decide)) iP))) (Ht h.2.1)) (dZ (jT (by decide)) iP)) (Ht h.2.2.1)) (dZ (jT (by decide)) iP)) (Ht h.2.2.2)
theorem Uy {l:List Nm} (h:∀ s,s∈l->Gn s) {i:Int} (h0:0<=i) (h1:i<l.length):Gn (l.getD i.toNat []):=by
 have:i.toNat<l.length:=by omega
 rw[gD this];exact h _ (dD this)
theorem bD2 {t:Tm} (hg:yP t) {x:Mv} (h:Rk t x):uH (lJ t x):=by
 have hv:∀ s,s∈t.vs.map (·.n)->Gn s:=fun s hs=>by obtain ⟨v,hv,rfl⟩:=kP.1 hs;exact (hg.vs v hv).1
 have hx:∀ {y:EX},uF t.vs.length y->Pl (uP (t.vs.map (·.n)) y):=fun hy=>b9V hv (by rw[Dj]; exact hy)
 refine FV rfl ?_ (by simp);refine ja (ja (dZ (iK (by decide)) (dZ (iK (Uy hg.ls h.f.1 h.f.2)) (dZ (iK (Uy hg.es h.e.1 h.e.2)) (dZ (iK (Uy hg.ls h.d.1 h.d.2)) iP)))) ?_) ?_
 .split
  .exact iP
  .exact dZ (iK (by decide)) (hx h.g)
 .split
  .exact iP
  .refine dZ (iK (by decide)) (QK (jT (by decide)) fun T hT => ?_);obtain ⟨u,hu,rfl⟩:=kP.1 hT;obtain ⟨⟨u0,u1⟩,u2⟩:=h.us u hu;exact ja (dZ (iK (Uy hv u0 (by rw[Dj]; exact u1))) (dZ (jT (by decide)) iP)) (hx u2)
theorem bDT {t:Tm} (hn:Gn t.n) (hg:yP t):oI (jv t):=by
 have hb:Sts (vW t.I t.mr 0 t.ls ++ t.vs.flatMap o6 ++ t.ms.flatMap (lJ t)):=aKG (aKG (aKH hg.ls) (a2X fun v hv=>bD3 (hg.vs v hv))) (a2X fun x hx=>bD2 hg (hg.ms x hx));have:=oI.Ql (X := [tW [116,101,109,112,108,97,116,101],tW t.n] ++ qo t.es) (ja (dZ (iK (by decide)) (dZ (iK hn) iP)) (aHZ hg.es)) (by simp) hb .nil;have e:jv t = [tW [116,101,109,112,108,97,116,101],tW t.n] ++ qo t.es ++ [tS [123]] ++ (vW t.I t.mr 0 t.ls ++ t.vs.flatMap o6 ++ t.ms.flatMap (lJ t)) ++ [tS [125]] ++ []:=by unfold jv;simp
 rw[e]; exact this
theorem aKE {w:Nm} (hw:Gn w) {x:Ins} (h:Gn x.n/\Gn x.t/\∀ s,s∈x.es->Gn s):uH (inT w x):=by refine FV rfl ?_ (by simp);exact ja (dZ (iK hw) (dZ (iK h.1) (dZ (jT (by decide)) (dZ (iK h.2.1) iP)))) (aHZ h.2.2)
theorem bD4 {x:qX} (h:Gn x.n/\x.ls ≠ []/\∀ l,l∈x.ls->Gn l.1/\Gn l.2):uH (pY x):=by refine FV rfl ?_ (by simp);refine ja (dZ (iK (by decide)) (dZ (iK h.1) (dZ (jT (by decide)) iP))) (QK (jT (by decide)) fun T hT => ?_);obtain ⟨l,hl,rfl⟩:=kP.1 hT;have:=h.2.2 l hl;exact dZ (iK this.1) (dZ (iK this.2) iP)
theorem bC' {x:Cst} (h:Gn x.n/\x.ts ≠ []/\R16 x.b/\∀ l,l∈x.ts->Gn l.1/\R16 l.2):uH (pJ x):=by refine FV rfl ?_ (by simp);refine ja (ja (ja (dZ (iK (by decide)) (dZ (iK h.1) (dZ (jT (by decide)) iP))) (QK (jT (by decide)) fun T hT => ?_)) (dZ (jT (by decide)) iP)) (Ht h.2.2.1);obtain ⟨l,hl,rfl⟩:=kP.1 hT;have:=h.2.2.2 l hl;exact ja (Ht this.2) (dZ (jT (by decide)) (dZ (iK this.1) iP))
theorem Qp {m:Mo} (hg:zy m):oI (jH m):=by unfold jH;refine Ic (Ic (Ic (Ic (Ic (Ic (ML ?_) (Ie fun e he=>ML (bD0 (hg.es e he).1 (hg.es e he).2))) (Ie fun t ht=>bDT (hg.ts t ht).1 (hg.ts t ht).2)) (Ie fun x hx=>ML (aKE (by decide) (hg.is x (RQ _ hx))))) (Ie fun x hx=>ML (aKE (by decide) (hg.is x (X6 _ hx))))) (Ie fun x hx=>ML (bD4 (hg.xs x hx)))) (Ie fun x hx=>ML (bC' (hg.ks x hx)));exact FV (X := [tW [109,111,100,101,108],tW m.n]) rfl (dZ (iK (by decide)) (dZ (iK hg.n) iP)) (by simp)
def jw:List Tok->Nat
 | []=>0
 | t::T=>t.text.length+1+jw T
theorem Ef:∀ A B:List Tok,jw (A ++ B)=jw A+jw B
 | [],B=>by rw[RU,jw,jW]
 | a::A,B=>by rw[og,jw,jw,Ef A B]; omega
theorem Ho:∀ T:List Tok,T ≠ []->(joinL T).length+1=jw T
 | [],h=>absurd rfl h
 | [t],_=>rfl
 | t::u::l,_=>by have:=Ho (u::l) (by simp);rw[joinL,aK,aU,jw,<- this]; omega
theorem KX:∀ T:List Tok,T.length<=jw T
 | []=>bQ _
 | t::T=>by have:=KX T; rw[aU,jw]; omega
def phi (st:lC):Nat:=st.out.length+(if st.fr then 2 else 0)
theorem DJ (st:lC) (A B:List Tok):dN st (A ++ B)=dN (dN st A) B:=X0
theorem a1J (st:lC) (s:Nm) (hd:st.d<=1):(nR st s).length<=phi st+s.length+(if st.fr then 0 else 1)/\st.out.length<=(nR st s).length:=by
 have hr:=aIB st.d;unfold nR phi;cases st.fr with
 | true =>rw[aH rfl,aH rfl,aH rfl,aK,aK];omega
 | false =>
  rw[aI wG,aI wG,aI wG,aK];split
  .omega
  .rw[aK,oh]; omega
theorem a1Z:∀ {X:List Tok} {st:lC},Pl X->st.d<=1->(dN st X).d=st.d/\phi (dN st X)<=phi st+jw X/\(X ≠ []->(dN st X).fr=false)
 | [],st,_,_=>⟨rfl,by show phi st<=_; omega,fun h=>absurd rfl h⟩
 | t::X,st,h,hd=>by
  obtain ⟨n1,n2,n3⟩:=aLT (h t (by simp));have e:iW st t.text=⟨st.d,t.text,nR st t.text,false⟩:=by unfold iW qw pend;rw[aI n2,aI n1,aI (by rintro (c | c); exact n2 c; exact n3 c)]
  have e2:dN st (t::X)=dN ⟨st.d,t.text,nR st t.text,false⟩ X:=by show dN (iW st t.text) X=_;rw[e]
  have hp:=(a1J st t.text hd).1;obtain ⟨r1,r2,r3⟩:=a1Z (X:=X) (st:=⟨st.d,t.text,nR st t.text,false⟩) (fun u hu=>h u (by simp[hu])) hd;rw[e2];refine ⟨r1,?_,fun _ => ?_⟩
  .have hq:phi ⟨st.d,t.text,nR st t.text,false⟩=(nR st t.text).length:=by unfold phi; simp
   rw[hq] at r2;rw[jw];cases hf:st.fr<;>rw[hf] at hp<;>simp at hp<;>omega
  .by_cases hX:X = []
   .subst hX; rfl
   .exact r3 hX
theorem bBD {st:lC} (hd:st.d<=1):(iW st [59]).d=st.d/\phi (iW st [59])<=phi st+4/\(iW st [59]).fr=true:=by
 have hp:=(a1J st [59] hd).1;have e:iW st [59]=⟨st.d,[59],nR st [59] ++ [10],true⟩:=by unfold iW qw pend;simp
 have hq:st.fr=false->(nR st [59]).length=st.out.length+1:=fun hf=>by unfold nR;rw[aI (by rw[hf]; exact wG),aH (.inr (.inl rfl)),aK]; rfl
 rw[e];refine ⟨rfl,?_,rfl⟩;unfold phi;simp only[aK,oh,aH];cases hf:st.fr with
 | true=>rw[hf] at hp; unfold phi at hp; rw[hf] at hp; simp at hp ⊢; omega
 | false=>have:=hq hf; simp; omega
theorem aIT {T:List Tok} (h:uH T) {st:lC} (hd:st.d<=1):(dN st T).d=st.d/\phi (dN st T)<=phi st+2*jw T/\(dN st T).fr=true:=by
 cases h with
 | @mk X hX hne =>
  obtain ⟨r1,r2,_⟩:=a1Z (st:=st) hX hd;obtain ⟨s1,s2,s3⟩:=bBD (st:=dN st X) (by omega);have e:dN st (X ++ [tS [59]])=iW (dN st X) [59]:=by rw[DJ]; rfl
  have hj:jw (X ++ [tS [59]])=jw X+2:=by rw[Ef]; rfl
  rw[e,hj];exact ⟨by omega,by omega,s3⟩
theorem bBE {T:List Tok} (h:Sts T):∀ {st:lC},st.d<=1->st.fr=true->(dN st T).d=st.d/\phi (dN st T)<=phi st+2*jw T/\(dN st T).fr=true:=by
 induction h with
 | nil=>intro st _ hf; exact ⟨rfl,by show phi st<=_; omega,hf⟩
 | cons hX _ ih =>intro st hd hf;obtain ⟨r1,r2,r3⟩:=aIT hX hd;obtain ⟨s1,s2,s3⟩:=ih (st:=dN st _) (by omega) r3;rw[DJ,Ef];exact ⟨by omega,by omega,s3⟩
theorem aIU {T:List Tok} (h:oI T):∀ {st:lC},st.d=0->st.fr=true->(dN st T).d=0/\phi (dN st T)<=phi st+2*jw T/\(dN st T).fr=true:=by
 induction h with
 | nil=>intro st hd hf; exact ⟨hd,by show phi st<=_; omega,hf⟩
 | Qi hX _ ih =>intro st hd hf;obtain ⟨r1,r2,r3⟩:=aIT hX (st:=st) (by omega);obtain ⟨s1,s2,s3⟩:=ih (st:=dN st _) (by omega) r3;rw[DJ,Ef];exact ⟨by omega,by omega,s3⟩
 | @Ql X B T hX hne hB _ ih =>
  intro st hd hf;obtain ⟨r1,r2,r3⟩:=a1Z (st:=st) hX (by omega);have r3:=r3 hne;have p1:=(a1J (dN st X) [123] (by omega)).1;have e1:iW (dN st X) [123]=⟨1,[123],nR (dN st X) [123] ++ [10],true⟩:=by unfold iW qw pend;simp[r1,hd]
  have f1:phi (iW (dN st X) [123])<=phi (dN st X)+5:=by rw[e1];unfold phi;rw[r3] at p1;simp only[aK,oh,aH];unfold phi at p1;rw[r3] at p1 ⊢;simp at p1 ⊢;omega
  obtain ⟨b1,b2,b3⟩:=bBE hB (st:=iW (dN st X) [123]) (by rw[e1]; exact bQ _) (by rw[e1]);generalize hS:dN (iW (dN st X) [123]) B=S at b1 b2 b3;have hS1:S.d=1:=by rw[b1,e1]
  have e2:iW S [125]=⟨0,[125],S.out ++ [125] ++ [10],true⟩:=by
   have hp:qw S [125]=⟨0,S.last,S.out,true⟩:=by unfold qw; simp[hS1,b3]
   unfold iW;rw[hp];unfold pend nR;simp[Lib.repeatL]
  have f2:phi (iW S [125])<=phi S+2:=by rw[e2];unfold phi;rw[b3];simp
  obtain ⟨s1,s2,s3⟩:=ih (st:=iW S [125]) (by rw[e2]) (by rw[e2]);have e:dN st (X ++ [tS [123]] ++ B ++ [tS [125]] ++ T)=dN (iW S [125]) T:=by rw[DJ,DJ,DJ,DJ];show dN (iW (dN (iW (dN st X) [123]) B) [125]) T=_;rw[hS]
  have hj:jw (X ++ [tS [123]] ++ B ++ [tS [125]] ++ T)=jw X+2+jw B+2+jw T:=by rw[Ef,Ef,Ef,Ef]; rfl
  rw[e,hj];exact ⟨s1,by omega,s3⟩
theorem bCY (st:lC) (s:Nm):st.out.length<=(iW st s).out.length/\(iW st s).d<=st.d+1:=by
 have h1:st.out.length<=(qw st s).out.length/\(qw st s).d<=st.d:=by
  unfold qw;split
  .refine ⟨?_,by show st.d-1<=_; omega⟩;show _<=(if st.fr then st.out else st.out ++ [10]).length;split
   .omega
   .rw[aK]; omega
  .exact ⟨bQ _,bQ _⟩
 have h2:(qw st s).out.length<=(nR (qw st s) s).length:=by
  unfold nR;split
  .rw[aK,aK]; omega
  .rw[aK];split
   .omega
   .rw[aK]; omega
 unfold iW pend;split
 .exact ⟨by rw[aK]; omega,by show (qw st s).d+1<=_; omega⟩
 .split
  .exact ⟨by rw[aK]; omega,by show (qw st s).d<=_; omega⟩
  .exact ⟨by show _<=(nR (qw st s) s).length; omega,by show (qw st s).d<=_; omega⟩
theorem Qa:∀ (T:List Tok) (st:lC),st.out.length<=(dN st T).out.length/\(dN st T).d<=st.d+T.length
 | [],st=>⟨bQ _,bQ _⟩
 | t::T,st=>by have h1:=bCY st t.text;have h2:=Qa T (iW st t.text);show st.out.length<=(dN (iW st t.text) T).out.length/\(dN (iW st t.text) T).d<=st.d+(T.length+1);omega
theorem aI5 {A B:List Tok} (h:A.map (·.text)=B.map (·.text)) (st:lC):dN st A=dN st B:=by
 have e:∀ (T:List Tok) (st:lC),dN st T=(T.map (·.text)).foldl iW st:=fun T st=>by unfold dN; rw[List.foldl_map]
 rw[e,e,h]
theorem aEI {T:List Tok} (hne:T ≠ []) (ht:∀ t,t∈T->Tv t) (hl:(joinL T).length<=65536):SS.CC 114 [.sl false 5 (T.map aZ)] []=some (.tuple [.str (bs (joinL T)),.int .i64 0],[]):=by
 have hn:T.length<=65537:=by have:=KX T; have:=Ho T hne; omega
 obtain ⟨T',e,h1,h2,h3⟩:=aJ6 hne ht hl;have hk:∀ t,t∈T->t.kind≠4:=fun t h=>(ht t h).2.2.2
 have hk':=a7P h2 hk;have hl':T'.length=T.length:=by have:=congrArg List.length h2; simpa using this
 have Yz:SS.CC 99 [.str (bs (joinL T))] []=some (.tuple [.sl false 5 ((T' ++ [e]).map aZ),.int .i64 0,.int .i64 0,.int .i64 0],[]):=by
  have:SS.CC 99 [.str (bs (joinL T))] []=some (BR (BU (joinL T)),[]):=by rw[JD dO]; rfl
  rw[this,h1]; rfl
 have hb:oJ (T' ++ [e])=T':=by rw[Xp,GR hk',Sl h3]; simp[oJ]
 rw[YX,GM (m32 T (by omega)),GR hk];have:=aEC T (by omega) T.length 0 (by omega);rw[show ((0:Nat):Int)=0 from rfl,List.take_zero,NF] at this;rw[this,a9J,aT (by rw[bW]; omega),aC,ou (sjc T (by omega) (by omega)),a5A Yz];dsimp only;rw[qZ rfl,aC,GM (m32 (T' ++ [e]) (by rw[aK,oh]; omega)),hb,bD (aPQ T T' (by omega) h2)];rfl
theorem bA7 {T:List Tok} (hne:T ≠ []) (ht:∀ t,t∈T->Kt sA t) (hT:oI T) (hl:(joinL T).length<=30000):SS.CC 58 [.sl false 5 (T.map aZ)] []=some (.tuple [.str (bs (FH (dN lL T))),.int .i64 0],[])/\(FH (dN lL T)).length<=65536:=by
 have hj:=Ho T hne;have hn:=KX T;obtain ⟨r1,r2,r3⟩:=aIU hT (st:=lL) rfl rfl;have b2R:phi lL=2:=rfl;have ho:(dN lL T).out.length<=65536:=by unfold phi at r2; rw[r3] at r2; simp at r2; omega
 have hk:∀ t,t∈T->t.kind≠4:=fun t h=>(Na (ht t h)).2.2.2
 have hb:oJ T=T:=GR hk;refine ⟨?_,by unfold FH; rw[r3]; exact ho⟩;rw[aCR,JG (aEI hne (fun t h=>Na (ht t h)) (by omega))];dsimp only;rw[qZ rfl,aC,GM (m32 T (by omega)),hb];refine aHW T (by omega) (fun t h=>iC (XV (ht t h)) (by decide)) fun k hk => ?_
 have m1:=Qa (T.take k) lL;have m2:=Qa (T.drop k) (dN lL (T.take k));rw[<- DJ,J6] at m2;have:(T.take k).length<=T.length:=by rw[kz]; omega
 have hd0:lL.d=0:=rfl;exact ⟨by omega,by omega⟩
theorem b3Q {U T:List Tok} (hU:oJ U=T) (hUn:U.length<=900000) (hne:T ≠ []) (ht:∀ t,t∈T->Tv t) (hl:(joinL T).length<=65536):SS.CC 114 [.sl false 5 (U.map aZ)] []=some (.tuple [.str (bs (joinL T)),.int .i64 0],[]):=by
 have e:=aEI hne ht hl;have hk:∀ t,t∈T->t.kind≠4:=fun t h=>(ht t h).2.2.2
 have hn:T.length<=65537:=by have:=KX T; have:=Ho T hne; omega
 rw[YX,GM (m32 T (by omega)),GR hk] at e;rw[YX,GM (m32 U (by omega)),hU];exact e
theorem bDY {T T':List Tok} (h:T'.map jS=T.map jS) (ht:∀ t,t∈T->Tv t):∀ t,t∈T'->Tv t:=fun t' hm=>by
 have:jS t'∈T.map jS:=by rw[<- h]; exact a4S hm
 obtain ⟨t,hm2,e⟩:=kP.1 this;obtain ⟨a,b,c,d⟩:=ht t hm2;have e1:t'.text=t.text:=(congrArg (fun c=>c.2.1) e).symm;have e2:t'.kind=t.kind:=(congrArg (fun c=>c.1) e).symm;exact ⟨by rw[e1]; exact a,by rw[e1]; exact b,by rw[e1]; exact c.trans e,by rw[e2]; exact d⟩
theorem aP4 {T T':List Tok} (h:T'.map jS=T.map jS):T'.map (·.text)=T.map (·.text):=by have:=congrArg (List.map fun c:Int×List UInt8×Int=>c.2.1) h;rw[Bi,Bi] at this;exact this
theorem aEH:∀ {A B:List Tok},A.map (·.text)=B.map (·.text)->joinL A=joinL B
 | [],[],_=>rfl
 | [],_::_,h=>by cases h
 | _::_,[],h=>by cases h
 | [a],[b],h=>by injection h
 | [_],_::_::_,h=>by injection h with _ h; cases h
 | _::_::_,[_],h=>by injection h with _ h; cases h
 | a::a2::A,b::b2::B,h=>by
  injection h with h1 h2
  rw[joinL,joinL,aEH (A:=a2::A) (B:=b2::B) h2,show a.text=b.text from h1]
theorem bA6 {U T T0:List Tok} (hU:oJ U=T) (hUn:U.length<=900000) (hc:T.map jS=T0.map jS) (hne:T0 ≠ []) (ht:∀ t,t∈T0->Kt sA t) (hT:oI T0) (hl:(joinL T0).length<=30000):SS.CC 58 [.sl false 5 (U.map aZ)] []=some (.tuple [.str (bs (FH (dN lL T0))),.int .i64 0],[]):=by
 have hx:=aP4 hc;have hj:joinL T=joinL T0:=aEH hx;have hlen:T.length=T0.length:=by have:=congrArg List.length hc; simpa using this
 have hne':T ≠ []:=fun h=>hne (List.length_eq_zero_iff.1 (by rw[<- hlen,h]; rfl))
 have htv:∀ t,t∈T->Tv t:=bDY hc fun t h=>Na (ht t h)
 have hn:T0.length<=30001:=by have:=KX T0; have:=Ho T0 hne; omega
 have b2Y:∀ t,t∈T->t.text.length<=1000:=fun t' hm=>by
  have:t'.text∈T0.map (·.text):=by rw[<- hx]; exact a4S hm
  obtain ⟨t,hm2,e⟩:=kP.1 this;rw[<- e];exact iC (XV (ht t hm2)) (by decide)
 obtain ⟨r1,r2,r3⟩:=aIU hT (st:=lL) rfl rfl;have b2R:phi lL=2:=rfl;have hjw:=Ho T0 hne;have ho:(dN lL T0).out.length<=65536:=by unfold phi at r2; rw[r3] at r2; simp at r2; omega
 rw[aCR,JG (b3Q hU hUn hne' htv (by rw[hj]; omega))];dsimp only;rw[qZ rfl,aC,GM (m32 U (by omega)),hU,<- aI5 hx];refine aHW T (by omega) b2Y fun k hk => ?_
 have m1:=Qa (T.take k) lL;have m2:=Qa (T.drop k) (dN lL (T.take k));rw[<- DJ,J6,aI5 hx] at m2;have:(T.take k).length<=T.length:=by rw[kz]; omega
 have hd0:lL.d=0:=rfl;exact ⟨by omega,by omega⟩
theorem aE' {T:List Tok} (h:uH T):∀ t,t∈T->Kt sA t:=by
 cases h with
 | mk hX _ =>
  intro t ht;rcases rP.1 ht with ht | ht
  .exact a5L (hX t ht)
  .rw[Bj] at ht; rw[ht]; exact jT (by decide)
theorem b56 {T:List Tok} (h:Sts T):∀ t,t∈T->Kt sA t:=by
 induction h with
 | nil=>intro t ht; cases ht
 | cons hX _ ih =>
  intro t ht;rcases rP.1 ht with ht | ht
  .exact aE' hX t ht
  .exact ih t ht
theorem Ze {T:List Tok} (h:oI T):∀ t,t∈T->Kt sA t:=by
 induction h with
 | nil=>intro t ht; cases ht
 | Qi hX _ ih =>
  intro t ht;rcases rP.1 ht with ht | ht
  .exact aE' hX t ht
  .exact ih t ht
 | Ql hX _ hB _ ih =>
  intro t ht;simp only[rP,Bj] at ht;rcases ht with (((ht | ht) | ht) | ht) | ht
  .exact a5L (hX t ht)
  .rw[ht]; exact jT (by decide)
  .exact b56 hB t ht
  .rw[ht]; exact jT (by decide)
  .exact ih t ht
theorem Vg (m:Mo):jH m ≠ []:=by unfold jH; simp
def txM (m:Mo):Nm:=FH (dN lL (jH m))
theorem aGM {m:Mo} (hl:(joinL (jH m)).length<=30000):(jH m).length<=30001:=by have:=KX (jH m); have:=Ho (jH m) (Vg m); omega
theorem bDH {m:Mo} (ho:ji m) (h2:m.cs.length+m.rs.length<=1000) (hc:sF m=0) (hl:(joinL (jH m)).length<=30000):SS.CC 19 [A0 (aO m)] []=some (.str (bs (txM m)),[]):=by
 have hg:=Yq ho hc;have hn:=aGM hl;have ht:=Ze (Qp hg);obtain ⟨T',e,h1,h2',h3⟩:=aJ6 (Vg m) (fun t h=>Na (ht t h)) (by omega);have Yz:SS.CC 99 [.str (bs (joinL (jH m)))] []=some (.tuple [.sl false 5 ((T' ++ [e]).map aZ),.int .i64 0,.int .i64 0,.int .i64 0],[]):=by
  have:SS.CC 99 [.str (bs (joinL (jH m)))] []=some (BR (BU (joinL (jH m))),[]):=by rw[JD dO]; rfl
  rw[this,h1]; rfl
 have hk':=a7P h2' fun t h=>(Na (ht t h)).2.2.2
 have hb:oJ (T' ++ [e])=T':=by rw[Xp,GR hk',Sl h3]; simp[oJ]
 have hl':T'.length=(jH m).length:=by have:=congrArg List.length h2'; simpa using this
 rw[aVY,zx (aL0 m ho hg h2 (by omega))];refine (ou (sjc (jH m) (by omega) (by omega))).trans ?_;rw[a5A Yz];dsimp only;rw[JG (bA6 hb (by rw[aK,oh]; omega) h2' (Vg m) ht (Qp hg) hl)];rfl
theorem bA8 {m:Mo} (ho:ji m) (h2:m.cs.length+m.rs.length<=1000) (hc:sF m=0) (hl:(joinL (jH m)).length<=30000):SS.CC 17 [A0 (aO m)] []=some (.tuple [.str (bs (txM m)),.int .i64 0],[]):=by have hg:=Yq ho hc;have hn:=aGM hl;have ht:=Ze (Qp hg);have hp:=bA7 (Vg m) ht (Qp hg) hl;have c57:=aNF m ho hg (by omega);rw[aAR,bV (TQ m ho h2),hc,qZ rfl,aC];refine (bJ c57).trans ?_;rw[JG hp.1];dsimp only;rw[qZ rfl,aC,jR,aT (by have:=hp.2; omega),aC];rfl
theorem bA9 {m:Mo} (ho:ji m) (h2:m.cs.length+m.rs.length<=1000) (hc:sF m≠0):SS.CC 17 [A0 (aO m)] []=some (.tuple [.str ⟨#[]⟩,.int .i64 (sF m)],[]):=by rw[aAR,bV (TQ m ho h2),ru hc,aG]
abbrev BK:Nat:=300000000
structure XD (t:Tm):Prop where
 ls:t.ls.length<=BK
 es:t.es.length<=BK
 vs:t.vs.length<=BK/\∀ v,v∈t.vs->JJ v.lo/\JJ v.hi
 ms:t.ms.length<=BK/\∀ x,x∈t.ms->x.g.Len/\x.us.length<=BK/\∀ u,u∈x.us->u.2.Len
structure JB (m:Mo):Prop where
 es:m.es.length<=BK
 ts:m.ts.length<=BK/\∀ t,t∈m.ts->XD t
 is:m.cs.length<=BK/\m.rs.length<=BK/\∀ x,x∈m.cs ++ m.rs->x.es.length<=BK
 xs:m.xs.length<=BK/\∀ x,x∈m.xs->x.ls.length<=BK
 ks:m.ks.length<=BK/\∀ x,x∈m.ks->x.ts.length<=BK
theorem BD {α:Type} {l:List α} {P:α->Prop} {L:Bool->Nat->R} (hs:∀ k (hk:k<l.length) (b:Bool),∃ b':Bool,L b k=L b' (k+1)/\(b'=true->b=true/\P l[k])) (b:Bool):∃ b':Bool,L b 0=L b' l.length/\(b'=true->b=true/\∀ x,x∈l->P x):=by
 have:∀ (m k:Nat) (b:Bool),k+m=l.length->∃ b':Bool,L b k=L b' l.length/\(b'=true->b=true/\∀ x,x∈l.drop k->P x):=by
  intro m;induction m with
  | zero =>
   intro k b h;have:k=l.length:=by omega
   subst this;exact ⟨b,rfl,fun h=>⟨h,fun x hx=>by rw[List.drop_length] at hx; cases hx⟩⟩
  | succ m ih =>
   intro k b h;obtain ⟨b1,e1,f1⟩:=hs k (by omega) b;obtain ⟨b2,e2,f2⟩:=ih (k+1) b1 (by omega);refine ⟨b2,e1.trans e2,fun hb => ?_⟩;obtain ⟨g1,g2⟩:=f2 hb;obtain ⟨g3,g4⟩:=f1 g1;refine ⟨g3,fun x hx => ?_⟩;rw[yO (by omega:k<l.length)] at hx;rcases fQ.1 hx with rfl | hx
   .exact g4
   .exact g2 x hx
 obtain ⟨b',e,f⟩:=this l.length 0 b (by omega);exact ⟨b',e,fun h=>by have:=f h; rwa [ND] at this⟩
abbrev oG (l:List Nm):Prop:=∀ s,s∈l->s.length<=60
theorem shc (l:List Nm) (hn:l.length<=BK):∃ b:Bool,SS.CC 42 [.sl false 1 (aS l)] []=some (.bool b,[])/\(b=true->oG l):=by
 have e:∃ r,Oc (aS l) ((0:Nat):Int)=some (.int .i64 r,[])/\decide (0<=r)=uJ (fun k=>decide (60<((l.getD k []).length:Int))) l.length:=by
  refine loopA (L:=fun k=>Oc (aS l) (k:Int)) (fun k hk => ?_) ?_
  .have hn2:l.length<=300000000:=hn;rw[aA0,aN (by rw[jD]; omega),aG,zD hk,iO,bD (aYS _),jR,bT (by omega),gD hk []]
  .rw[aA0,aT (by rw[jD]; omega),aC]
 obtain ⟨r,e1,e2⟩:=e;refine ⟨_,by rw[aYP,bD ((aYQ _).trans (bV ((aSQ _).trans e1))),e2],fun hb s hs => ?_⟩;rw[SH (fun s:Nm=>decide (60<(s.length:Int))) l [],tX,List.any_eq_false] at hb;have:=hb s hs;simp only[gu] at this;omega
theorem wM {b:Bool} {P:Prop} {F:Bool->R} {X:R} (h:∃ c:Bool,X=F c/\(c=true->P)):∃ c:Bool,aA b X (F false)=F c/\(c=true->b=true/\P):=by
 obtain ⟨c,e,f⟩:=h;cases b with
 | true=>exact ⟨c,e,fun h=>⟨rfl,f h⟩⟩
 | false=>exact ⟨false,rfl,fun h=>by cases h⟩
theorem Az {n:Int} {b:Int} {P:Prop} {F:Bool->R} {X:R} (h:∃ c:Bool,X=F c/\(c=true->P)):∃ c:Bool,aA (decide (n<=b)) X (F false)=F c/\(c=true->n<=b/\P):=by obtain ⟨c,e,f⟩:=wM (b:=decide (n<=b)) h;exact ⟨c,e,fun h=>⟨jP (f h).1,(f h).2⟩⟩
theorem FQ {l:List Nm} (hn:l.length<=BK) {P:Prop} {F:Bool->R} {X:R} (h:∃ c:Bool,X=F c/\(c=true->P)):∃ c:Bool,(G3 42 [.sl false 1 (aS l)] fun b=>aA b X (F false))=F c/\(c=true->oG l/\P):=by obtain ⟨b,e,f⟩:=shc l hn;obtain ⟨c,e2,f2⟩:=wM (b:=b) h;exact ⟨c,(bD e).trans e2,fun h=>⟨f (f2 h).1,(f2 h).2⟩⟩
theorem WN {l:List Nm} (hn:l.length<=BK) {F:Bool->R}:∃ c:Bool,(G3 42 [.sl false 1 (aS l)] fun b=>F b)=F c/\(c=true->oG l):=by obtain ⟨b,e,f⟩:=shc l hn;exact ⟨b,bD e,f⟩
end Go.Proofs.YtcdceiloganlnaaGreatDoor.W
end

/- A part of the proof. -/
import Derived.Test.YtagkcbgkhgccmaaGreatDoorPq5
import Derived.Test.YtagkcbgkhgccmaaGreatDoorPq7
import Derived.Test.YtagkcbgkhgccmaaGreatDoorPq6
import Derived.Test.YtagkcbgkhgccmaaGreatDoorPq4
set_option linter.unusedVariables false
set_option linter.defProp false
set_option linter.unusedSimpArgs false
set_option linter.unnecessarySimpa false
set_option linter.unusedSectionVars false
noncomputable section
open Go.IntKind (i64)
namespace Go.Proofs.YtagkcbgkhgccmaaGreatDoor.W
open Go.RowKit
set_option maxRecDepth 1000000
def Bf:SS.CC 4 [] []=vG:=k52
def aQ3 {s:f_}:∀ (l:List (f_)) (k:Nat),(0<=kK (bs s) (cZ l) k↔s∈l)
 | [],k=>by
  constructor
  .intro h;have:(0:Int) <= -1:=h;omega
  .intro h; cases h
 | a::l,k=>by
  show 0<=(if bs s=bs a then (k:Int) else kK (bs s) (cZ l) (k+1))↔_;by_cases h:bs s=bs a
  .rw[ah h];exact ⟨fun _=>by rw[b04 h]; simp,fun _=>by omega⟩
  .rw[aV h,aQ3 l (k+1),jr];exact ⟨fun b => .inr b,fun b=>b.resolve_left fun e=>h (by rw[e])⟩
variable {g:FuncId} {e:ai}
def Ip {c:ai} {K:RS.F (.tl true 3) R} (b:SS.CC g e []=some (.sl true 3 c,[])):GL g e K=K c:=wX b rfl
variable {h:aH} {C:Sh.V iL} {b9:Sh.V kP}
def aZO {K:RS.F (.t []) (dA [.c iL,.z jP,.c kP])} (b:SS.CC g e h=d_ [aG C,some [ag],yg b9]):H28 g e h K=K () C b9:=dH b rfl
variable {b':Sh.V jV}
def aZP {K:RS.F (.t []) (dA [.c iL,.z jP,.c jV])} (b:SS.CC g e h=d_ [aG C,some [ag],wQ b']):H29 g e h K=K () C b':=dH b rfl
def Ti {d:Sh.V oP} {f:Sh.V PS} {K:RS.F (.t []) (dA [.c oP,.c PS])} (b:SS.CC g e h=d_ [jM d,Cf f]):PD g e h K=K () d f:=dH b rfl
def aZQ {s1:fQ} {y2:Sh.V U3} {K:RS.F (.ts) (dA [.c U3])} (b:SS.CC g e h=some (.str s1,[some (o_ U3 y2)])):H31 g e h K=K s1 y2:=dH b rfl
variable {i:Int} {L:Sh.V vT}
def aGL {K:RS.F (.t [(false,[.I .i64]),(false,[.ni])]) (dA [.c vT])} (b:SS.CC g e h=some (.tuple [af i,.raw .nilIface],[qI L])):H32 g e h K=K ((i,()),(),()) L:=dH b rfl
def aGM {K:RS.F (.z (.ni)) (dA [.c vT])} (b:SS.CC g e h=some (.raw .nilIface,[qI L])):H33 g e h K=K L:=dH b rfl
variable {p:Bool} {c0:Sh.V S7}
def aGN {K:RS.F (.tb) (dA [.c S7])} (b:SS.CC g e h=some (.bool p,[O7 c0])):H44 g e h K=K p c0:=dH b rfl
variable {c1:Sh.V wS} {c2:Sh.V S9}
def aZS {K:RS.F (.t []) (dA [.c iL,.z jP,.c wS,.c S9])} (b:SS.CC g e h=d_ [aG C,some [ag],jg c1,O9 c2]):H45 g e h K=K () C c1 c2:=dH b rfl
def aZT {K:RS.F (.t []) (dA [.c iL,.z jP])} (b:SS.CC g e h=d_ [aG C,some [ag]]):H46 g e h K=K () C:=dH b rfl
def aGO {K:RS.F (.t []) (dA [.z gK,.c kP,.c iL])} (b:SS.CC g e h=d_ [some [.ptr 2 0],yg b9,aG C]):H47 g e h K=K () b9 C:=dH b rfl
def aGP {K:RS.F (.t []) (dA [.z gK,.c jV,.c iL])} (b:SS.CC g e h=d_ [some [.ptr 2 0],wQ b',aG C]):H48 g e h K=K () b' C:=dH b rfl
def aGQ {K:RS.F (.t []) (dA [.c vT])} (b:SS.CC g e h=d_ [qI L]):H51 g e h K=K () L:=dH b rfl
def aZY {K:RS.F (.ti .i64) (dA [.c S7])} (b:SS.CC g e h=some (af i,[O7 c0])):H63 g e h K=K i c0:=dH b rfl
def aGR {K:RS.F (.t []) (dA [.z iM,.c wS,.c S9,.c iL])} (b:SS.CC g e h=d_ [some [.ptr 3 0],jg c1,O9 c2,aG C]):H64 g e h K=K () c1 c2 C:=dH b rfl
section
def b7Q:KT:=SS.rK Tryz.f39 39 0 []
def b7R:KT:=SS.jK 39 80 0 (cS Tryz.f39 127) b7Q
def b7S:KT:=aW 0 b7R
def Un (a:Sh.V S0) (b:ai) (c:Int):R:=SS.LL (SS.ae 39 80) 0 [1,4,49,50,51] 0 (cS Tryz.f39 607) b7S ⟨[(1,.cst (A0 a)),(4,.sl true 1 b),(49,.sl false 9 a.2.2.1),(50,af (a.2.2.1.length:Int)),(51,af c)],[]⟩
def aKS (a:Sh.V S0) (e:ai) (f:Int):Un a e f=aB (decide (f<(a.2.2.1.length:Int))) (ak S5 a.2.2.1 f fun g=>G1 149 [a_ e,.str g.1] fun b=>aB (b != 0) (some (af b,[])) (b_ (decide (e.length+1<=aO)) (G1 150 [A5 g] fun c=>aB (c != 0) (some (af c,[])) (Un a (e ++ ([.str g.1]:ai)) (i64.wrap (f+1)))))) (G1 151 [A0 a] fun d=>aB (d != 0) (some (af d,[])) (G1 152 [A0 a] fun h=>some (af h,[]))):=ll
def b7T (a0:Sh.V S0):SS.CC 39 [A0 a0] []=G3 31 [.str a0.1] fun b=>aB (!b) (some (af 7,[])) (G1 88 [.sl false 5 a0.2.1] fun a=>aB (a != 0) (some (af a,[])) (aB (decide (16<(a0.2.2.1.length:Int))) (some (af 3,[])) (aB (decide (32<(a0.2.2.2.1.length:Int))) (some (af 3,[])) (aB (decide (32<(a0.2.2.2.2.1.length:Int))) (some (af 3,[])) (aB (decide (32<(a0.2.2.2.2.2.1.length:Int))) (some (af 3,[])) (aB (decide (32<(a0.2.2.2.2.2.2.1.length:Int))) (some (af 3,[])) (Un a0 [] 0))))))):=cc
def bAV (a0:Sh.V S0):SS.CC 22 [A0 a0] []=GL 75 [.sl false 3 a0.2.2.2.1] fun a=>b_ (decide (a.length+a0.2.2.2.2.1.length<=aO)) (G4 76 [.sl false 3 (a ++ a0.2.2.2.2.1),h_ 77] fun c=>G4 78 [.sl false 9 a0.2.2.1,h_ 79] fun d=>G4 80 [.sl false 2 a0.2.2.2.2.2.1,h_ 81] fun e=>G4 82 [.sl false 3 a0.2.2.2.2.2.2.1,h_ 83] fun f=>G1 84 [a_ [fU 85 [.cst (A0 a0)],fU 87 [.cst (A0 a0)],fU 89 [.cst (A0 a0)],fU 90 [.cst (A0 a0),.cst (a_ d)],fU 97 [.cst (.sl false 3 (a ++ a0.2.2.2.2.1)),.cst (a_ c)],fU 103 [.cst (A0 a0),.cst (a_ e)],fU 111 [.cst (A0 a0),.cst (a_ f)]]] fun b=>some (af b,[])):=cc
def bJE (a0:ai):SS.CC 29 [a_ a0,h_ 197] []=G1 132 [a_ a0,h_ 197] fun a=>some (.bool (decide (0<=a)),[]):=cc
def bJF (a0:ai):SS.CC 75 [.sl false 3 a0] []=Jm a0 fun a=>aB (a==true) (some (.sl true 3 [],[])) (b_ (decide (0+a0.length<=aO)) (some (.sl true 3 a0,[]))):=cc
def bJG:KT:=SS.rK Tryz.f88 88 0 []
def bJH:KT:=SS.jK 88 51 0 (cS Tryz.f88 31) bJG
def bJI:KT:=aW 0 bJH
def VN (a:ai) (b:Int) (c:ai):R:=SS.LL (SS.ae 88 51) 0 [3,10,11,12] 1 (cS Tryz.f88 151) bJI ⟨[(3,.dZ 0 0),(10,.sl false 5 a),(11,af (a.length:Int)),(12,af b)],[O33 (c,())]⟩
theorem aNX (a:ai) (b:Int) (d:ai):VN a b d=aB (decide (b<(a.length:Int))) (ak S4 a b fun c=>G3 31 [.str c.1] fun f=>aB (!f) (some (af 7,[])) ((fun w=>Jj none d (.str c.1) (fun g=>vB g fun e=>aB e (some (af 8,[])) w) w) (aB (decide (c.2.2.2.2.1<0)) (some (af 2,[])) (aB (decide (4<c.2.2.2.2.1)) (some (af 2,[])) (aB (c.2.2.2.2.1 != 0) (aB c.2.1 (some (af 13,[])) (aB c.2.2.1 (some (af 13,[])) (b_ (sZ none d (.str c.1)&&true) (VN a (i64.wrap (b+1)) (kT none d (.str c.1) (.bool true)))))) (b_ (sZ none d (.str c.1)&&true) (VN a (i64.wrap (b+1)) (kT none d (.str c.1) (.bool true))))))))) (some (af 0,[])):=ll
def bJJ (a0:ai):SS.CC 88 [.sl false 5 a0] []=aB (decide (32<(a0.length:Int))) (some (af 3,[])) (VN a0 0 []):=cc
def bJK (a0:ai) (a1:fQ):SS.CC 149 [a_ a0,.str a1] []=G3 31 [.str a1] fun a=>aB (!a) (some (af 7,[])) (G3 179 [a_ a0,.str a1] fun b=>aB b (some (af 8,[])) (some (af 0,[]))):=cc
def a1C:KT:=SS.rK Tryz.f150 150 0 []
def bJM:KT:=SS.jK 150 209 0 (cS Tryz.f150 7) a1C
def aN':KT:=aW 0 bJM
def bJV:KT:=SS.lK 150 209 0 [1,26,27,28] 0 (cS Tryz.f150 37) aN'
def bJW:KT:=SS.jK 150 209 0 (cS Tryz.f150 485) bJV
def bJX:KT:=aW 1 bJW
def bJY:KT:=aW 2 bJX
def bJZ:KT:=SS.jK 150 209 0 (cS Tryz.f150 63) a1C
def bJ':KT:=aW 4 bJZ
def bK0:KT:=SS.jK 150 209 0 (cS Tryz.f150 4095) a1C
def bJN:KT:=aW 6 bK0
def bJO:KT:=SS.jK 150 209 0 (cS Tryz.f150 8191) a1C
def aNY:KT:=aW 8 bJO
def bJP:KT:=SS.lK 150 209 0 [1,8,11,117,118,119] 1 (cS Tryz.f150 38911) aNY
def bJQ:KT:=SS.jK 150 209 0 (cS Tryz.f150 497663) bJP
def bJR:KT:=aW 9 bJQ
def aNZ:KT:=aW 10 bJR
def bJS:KT:=SS.lK 150 209 0 [1,8,11,17,117,118,119,166,167,168] 2 (cS Tryz.f150 41523199) aNZ
def bJT:KT:=SS.jK 150 209 0 (cS Tryz.f150 511285247) bJS
def bJU:KT:=aW 11 bJT
def a1D (a:Sh.V S5) (b:Int):R:=SS.LL (SS.ae 150 209) 0 [1,26,27,28] 0 (cS Tryz.f150 37) aN' ⟨[(1,.cst (A5 a)),(26,.sl true 1 [a_ a.2.2.1,a_ a.2.1]),(27,af 2),(28,af b)],[]⟩
def VQ (a:Sh.V S5) (b:ai) (c d:Int):R:=SS.LL (SS.ae 150 209) 0 [1,4,26,27,28,32,33,34] 0 (cS Tryz.f150 9829) bJY ⟨[(1,.cst (A5 a)),(4,a_ b),(26,.sl true 1 [a_ a.2.2.1,a_ a.2.1]),(27,af 2),(28,af d),(32,a_ b),(33,af (b.length:Int)),(34,af c)],[]⟩
def NC (b:fQ) (c d:ai) (a:Sh.V S6) (e:Int):R:=SS.LL (SS.ae 150 209) 0 [1,8,59,60,61] 1 (cS Tryz.f150 303) bJ' ⟨[(1,.cst (A5 (b,c,d,a.1,a.2.1,a.2.2.1,a.2.2.2.1,a.2.2.2.2.1,a.2.2.2.2.2.1,()))),(8,ag),(59,a_ a.1),(60,af (a.1.length:Int)),(61,af e)],[O6 a]⟩
def VO (d:fQ) (c e:ai) (a:Sh.V S6) (b:Int):R:=SS.LL (SS.ae 150 209) 0 [1,8,11,101,102,103] 1 (cS Tryz.f150 19455) bJN ⟨[(1,.cst (A5 (d,c,e,a.1,a.2.1,a.2.2.1,a.2.2.2.1,a.2.2.2.2.1,a.2.2.2.2.2.1,()))),(8,ag),(11,af (c.length:Int)),(101,.sl false 4 a.2.2.2.2.1),(102,af (a.2.2.2.2.1.length:Int)),(103,af b)],[O6 a]⟩
def QR (c:fQ) (b d:ai) (a:Sh.V S6) (e:Int):R:=SS.LL (SS.ae 150 209) 0 [1,8,11,117,118,119] 1 (cS Tryz.f150 38911) aNY ⟨[(1,.cst (A5 (c,b,d,a.1,a.2.1,a.2.2.1,a.2.2.2.1,a.2.2.2.2.1,a.2.2.2.2.2.1,()))),(8,ag),(11,af (b.length:Int)),(117,.sl false 8 a.2.2.2.2.2.1),(118,af (a.2.2.2.2.2.1.length:Int)),(119,af e)],[O6 a]⟩
def VP (e:fQ) (d f:ai) (a:Sh.V S6) (c:Sh.V S9) (b g:Int):R:=SS.LL (SS.ae 150 209) 0 [1,8,11,17,117,118,119,166,167,168] 2 (cS Tryz.f150 41523199) aNZ ⟨[(1,.cst (A5 (e,d,f,a.1,a.2.1,a.2.2.1,a.2.2.2.1,a.2.2.2.2.1,a.2.2.2.2.2.1,()))),(8,ag),(11,af (d.length:Int)),(17,.ptr 1 0),(117,.sl false 8 a.2.2.2.2.2.1),(118,af (a.2.2.2.2.2.1.length:Int)),(119,af g),(166,.sl false 5 c.2.2.2.2.2.2.2.1),(167,af (c.2.2.2.2.2.2.2.1.length:Int)),(168,af b)],[O6 a,O9 c]⟩
def a9J (e:fQ) (d f:ai) (a:Sh.V S6) (c:Sh.V S9) (g:Sh.V qm) (h b:Int):R:=bC (SS.xX 150 209 0) (cS Tryz.f150 8161695743) bJU ⟨[(1,.cst (A5 (e,d,f,a.1,a.2.1,a.2.2.1,a.2.2.2.1,a.2.2.2.2.1,a.2.2.2.2.2.1,()))),(8,ag),(11,af (d.length:Int)),(17,.ptr 1 0),(20,.ptr 2 0),(117,.sl false 8 a.2.2.2.2.2.1),(118,af (a.2.2.2.2.2.1.length:Int)),(119,af h),(166,.sl false 5 c.2.2.2.2.2.2.2.1),(167,af (c.2.2.2.2.2.2.2.1.length:Int)),(168,af b)],[O6 a,O9 c,O11 g]⟩
def a9K (a:Sh.V S5) (b:Int):a1D a b=aB (decide (b<2)) (di [a_ a.2.2.1,a_ a.2.1] b fun c=>vL false 1 c fun d=>VQ a d 0 b) (aB ((a.2.2.2.1.length:Int) !=(a.2.2.1.length:Int)) (some (af 6,[])) (NC a.1 a.2.1 a.2.2.1 (a.2.2.2.1,a.2.2.2.2.1,a.2.2.2.2.2.1,a.2.2.2.2.2.2.1,a.2.2.2.2.2.2.2.1,a.2.2.2.2.2.2.2.2.1,()) 0)):=ll
theorem aO4 (d:Sh.V S5) (c:ai) (a b:Int):VQ d c a b=aB (decide (a<(c.length:Int))) (di c a fun f=>vS f fun g=>b_ (decide (0<=a)&&decide (a<=(c.length:Int))) (G1 149 [a_ (c.take a.toNat),.str g] fun e=>aB (e != 0) (some (af e,[])) (VQ d c (i64.wrap (a+1)) b))) (a1D d (i64.wrap (b+1))):=ll
def aO0 (d:fQ) (b e:ai) (a:Sh.V S6) (c:Int):NC d b e a c=aB (decide (c<(a.1.length:Int))) (di a.1 c fun h=>vI .i64 h fun i=>aB (i != c) (some (af 6,[])) (NC d b e a (i64.wrap (c+1)))) (aB (a.2.1 !=(b.length:Int)) (some (af 4,[])) (aB (decide (a.2.2.1<0)) (some (af 2,[])) (aB (decide ((if (1:Int)>(b.length:Int) then (1:Int) else (b.length:Int))<=a.2.2.1)) (some (af 2,[])) (G1 187 [a_ a.2.2.2.1,af (b.length:Int)] fun f=>aB (f != 0) (some (af f,[])) (G1 189 [.sl false 4 a.2.2.2.2.1] fun g=>aB (g != 0) (some (af g,[])) (VO d b e a 0)))))):=ll
theorem aO1 (c:fQ) (d e:ai) (b:Sh.V S6) (a:Int):VO c d e b a=aB (decide (a<(b.2.2.2.2.1.length:Int))) (ak S7 b.2.2.2.2.1 a fun f=>aB (f.1.toList==(⟨#[116,114,117,101]⟩:fQ).toList) (some (af 7,[])) (aB (f.1.toList==(⟨#[102,97,108,115,101]⟩:fQ).toList) (some (af 7,[])) (VO c d e b (i64.wrap (a+1))))) (QR c d e b 0):=ll
theorem aO2 (g:fQ) (d f:ai) (b:Sh.V S6) (e:Int):QR g d f b e=aB (decide (e<(b.2.2.2.2.2.1.length:Int))) (ak S9 b.2.2.2.2.2.1 e fun a=>aB (decide (a.1<0)) (some (af 2,[])) (aB (decide ((d.length:Int)<=a.1)) (some (af 2,[])) (aB (decide (a.2.1<0)) (some (af 2,[])) (aB (decide ((f.length:Int)<=a.2.1)) (some (af 2,[])) (aB (decide (a.2.2.1<0)) (some (af 2,[])) (aB (decide ((d.length:Int)<=a.2.2.1)) (some (af 2,[])) (G1 229 [A1 (a.2.2.2.1,a.2.2.2.2.1,a.2.2.2.2.2.1,a.2.2.2.2.2.2.1,()),af (b.2.2.2.2.1.length:Int),af 2] fun c=>aB (c != 0) (some (af c,[])) (VP g d f b a 0 e)))))))) (some (af 0,[])):=ll
theorem aO3 (e:fQ) (f g:ai) (c:Sh.V S6) (b:Sh.V S9) (a h:Int):VP e f g c b a h=aB (decide (a<(b.2.2.2.2.2.2.2.1.length:Int))) (ak qm b.2.2.2.2.2.2.2.1 a fun d=>aB (decide (d.1<0)) (some (af 2,[])) (aB (decide ((c.2.2.2.2.1.length:Int)<=d.1)) (some (af 2,[])) (aB (decide (0<a)) (ak qm b.2.2.2.2.2.2.2.1 (i64.wrap (a-1)) fun u8=>aB (decide (d.1<=u8.1)) (some (af 5,[])) (a9J e f g c b d h a)) (a9J e f g c b d h a)))) (QR e f g c (i64.wrap (h+1))):=ll
def bJL (d:fQ) (e f:ai) (c:Sh.V S6) (g:Sh.V S9) (b:Sh.V qm) (h a:Int):a9J d e f c g b h a=G1 229 [A1 (b.2.1,b.2.2.1,b.2.2.2.1,b.2.2.2.2.1,()),af (c.2.2.2.2.1.length:Int),af 1] fun i=>aB (i != 0) (some (af i,[])) (VP d e f c g (i64.wrap (a+1)) h):=by kernel_rfl
def bK1 (a0:Sh.V S5):SS.CC 150 [A5 a0] []=a1D a0 0:=cc
def bK2:KT:=SS.rK Tryz.f151 151 0 []
def bK3:KT:=SS.jK 151 48 0 (cS Tryz.f151 15) bK2
def aO5:KT:=aW 0 bK3
def bK4:KT:=SS.lK 151 48 0 [3,14,15,16] 0 (cS Tryz.f151 75) aO5
def bK5:KT:=SS.jK 151 48 0 (cS Tryz.f151 971) bK4
def bK6:KT:=aW 1 bK5
def bK7:KT:=aW 2 bK6
def QS (a:ai) (b:Int) (d:ai) (c:Int):R:=SS.LL (SS.ae 151 48) 0 [3,14,15,16] 0 (cS Tryz.f151 75) aO5 ⟨[(3,.sl true 1 d),(14,.sl true 3 a),(15,af b),(16,af c)],[]⟩
def VR (a:ai) (b:Int) (f g:ai) (c d e:Int):R:=SS.LL (SS.ae 151 48) 0 [3,14,15,16,37,38,39] 0 (cS Tryz.f151 81099) bK7 ⟨[(3,.sl true 1 f),(14,.sl true 3 a),(15,af b),(16,af e),(37,.sl true 1 g),(38,af c),(39,af d)],[]⟩
theorem aO7 (b:ai) (c:Int) (e:ai) (a:Int):QS b c e a=aB (decide (a<c)) (ak S8 b a fun d=>G1 149 [a_ e,.str d.1] fun f=>aB (f != 0) (some (af f,[])) (b_ (decide (e.length+1<=aO)) (b_ (decide (1+d.2.2.1.length<=aO)) (VR b c (e ++ ([.str d.1]:ai)) (([.str d.2.1]:ai) ++ d.2.2.1) ((([.str d.2.1]:ai) ++ d.2.2.1).length:Int) 0 a)))) (some (af 0,[])):=ll
theorem aO6 (b:ai) (c:Int) (f g:ai) (d a e:Int):VR b c f g d a e=aB (decide (a<d)) (di g a fun h=>vS h fun i=>G3 31 [.str i] fun j=>aB (!j) (some (af 7,[])) (VR b c f g d (i64.wrap (a+1)) e)) (QS b c f (i64.wrap (e+1))):=ll
def bK8 (a0:Sh.V S0):SS.CC 151 [A0 a0] []=GL 75 [.sl false 3 a0.2.2.2.1] fun a=>b_ (decide (a.length+a0.2.2.2.2.1.length<=aO)) (QS (a ++ a0.2.2.2.2.1) ((a ++ a0.2.2.2.2.1).length:Int) [] 0):=cc
def aO8:KT:=SS.rK Tryz.f152 152 0 []
def bK9:KT:=SS.jK 152 108 0 (cS Tryz.f152 15) aO8
def aO9:KT:=aW 0 bK9
def bKE:KT:=SS.lK 152 108 0 [1,3,15,16,17] 0 (cS Tryz.f152 75) aO9
def bKF:KT:=SS.jK 152 108 0 (cS Tryz.f152 971) bKE
def bKG:KT:=aW 1 bKF
def bKH:KT:=aW 2 bKG
def bKI:KT:=SS.jK 152 108 0 (cS Tryz.f152 63) aO8
def aOA:KT:=aW 4 bKI
def bKJ:KT:=SS.lK 152 108 0 [3,57,58,59] 0 (cS Tryz.f152 303) aOA
def bKA:KT:=SS.jK 152 108 0 (cS Tryz.f152 3887) bKJ
def bKB:KT:=aW 5 bKA
def bKC:KT:=SS.jK 152 108 0 (cS Tryz.f152 258863) bKB
def bKD:KT:=aW 6 bKC
def QU (a:Sh.V S0) (c:ai) (b:Int):R:=SS.LL (SS.ae 152 108) 0 [1,3,15,16,17] 0 (cS Tryz.f152 75) aO9 ⟨[(1,.cst (A0 a)),(3,.sl true 1 c),(15,.sl false 2 a.2.2.2.2.2.1),(16,af (a.2.2.2.2.2.1.length:Int)),(17,af b)],[]⟩
def VS (b:Sh.V S0) (a e:ai) (c d:Int):R:=SS.LL (SS.ae 152 108) 0 [1,3,15,16,17,38,39,40] 0 (cS Tryz.f152 163019) bKH ⟨[(1,.cst (A0 b)),(3,.sl true 1 e),(15,.sl false 2 b.2.2.2.2.2.1),(16,af (b.2.2.2.2.2.1.length:Int)),(17,af d),(38,.sl false 2 a),(39,af (a.length:Int)),(40,af c)],[]⟩
def QT (a b:ai) (c:Int):R:=SS.LL (SS.ae 152 108) 0 [3,57,58,59] 0 (cS Tryz.f152 303) aOA ⟨[(3,.sl true 1 b),(57,.sl false 3 a),(58,af (a.length:Int)),(59,af c)],[]⟩
def VT (c:ai) (a:Sh.V jV) (b:Int) (d:ai) (e:Int):R:=SS.LL (SS.ae 152 108) 0 [3,10,57,58,59,80,81,82] 1 (cS Tryz.f152 1241903) bKD ⟨[(3,.sl true 1 d),(10,ag),(57,.sl false 3 c),(58,af (c.length:Int)),(59,af e),(80,.sl false 2 a.2.1),(81,af (a.2.1.length:Int)),(82,af b)],[wQ a]⟩
def aOE (b:Sh.V S0) (c:ai) (a:Int):QU b c a=aB (decide (a<(b.2.2.2.2.2.1.length:Int))) (ak kP b.2.2.2.2.2.1 a fun d=>G1 149 [a_ c,.str d.1] fun e=>aB (e != 0) (some (af e,[])) (b_ (decide (c.length+1<=aO)) (aB ((d.2.1.length:Int)==0) (some (af 12,[])) (VS b d.2.1 (c ++ ([.str d.1]:ai)) 0 a)))) (QT b.2.2.2.2.2.2.1 [] 0):=ll
theorem aOB (d:Sh.V S0) (a e:ai) (b c:Int):VS d a e b c=aB (decide (b<(a.length:Int))) (ak zt a b fun f=>G3 31 [.str f.1] fun g=>aB (!g) (some (af 7,[])) (G3 31 [.str f.2.1] fun h=>aB (!h) (some (af 7,[])) (VS d a e (i64.wrap (b+1)) c))) (QU d e (i64.wrap (c+1))):=ll
theorem aOC (a b:ai) (c:Int):QT a b c=aB (decide (c<(a.length:Int))) (ak jV a c fun d=>G1 149 [a_ b,.str d.1] fun e=>aB (e != 0) (some (af e,[])) (b_ (decide (b.length+1<=aO)) (aB ((d.2.1.length:Int)==0) (some (af 12,[])) (VT a d 0 (b ++ ([.str d.1]:ai)) c)))) (some (af 0,[])):=ll
theorem aOD (c:ai) (b:Sh.V jV) (a:Int) (d:ai) (e:Int):VT c b a d e=aB (decide (a<(b.2.1.length:Int))) (ak BG b.2.1 a fun f=>G3 31 [.str f.1] fun g=>aB (!g) (some (af 7,[])) (aB (decide (f.2.1<(-65536))) (some (af 2,[])) (aB (decide (65536<f.2.1)) (some (af 2,[])) (VT c b (i64.wrap (a+1)) d e)))) (aB (decide (b.2.2.1<(-65536))) (some (af 2,[])) (aB (decide (65536<b.2.2.1)) (some (af 2,[])) (QT c d (i64.wrap (e+1))))):=ll
def bKK (a0:Sh.V S0):SS.CC 152 [A0 a0] []=QU a0 [] 0:=cc
def bLV:KT:=SS.rK Tryz.f76 76 0 []
def bLW:KT:=SS.jK 76 22 0 (cS Tryz.f76 15) bLV
def bLX:KT:=aW 0 bLW
def L_ (b c:ai) (a:Int):R:=SS.LL (SS.ae 76 22) 0 [1,5,8,9,10] 0 (cS Tryz.f76 75) bLX ⟨[(1,h_ 77),(5,.sl true 1 c),(8,.sl false 3 b),(9,af (b.length:Int)),(10,af a)],[]⟩
theorem aOY (b c:ai) (a:Int):L_ b c a=aB (decide (a<(b.length:Int))) (ak S8 b a fun d=>G2 77 [A8 d] fun e=>b_ (decide (c.length+1<=aO)) (L_ b (c ++ ([.str e]:ai)) (i64.wrap (a+1)))) (some (a_ c,[])):=ll
def bLY (a0:ai):SS.CC 76 [.sl false 3 a0,h_ 77] []=L_ a0 [] 0:=cc
def bLZ (a0:Sh.V S8):SS.CC 77 [A8 a0] []=some (.str a0.1,[]):=cc
def bM3:KT:=SS.rK Tryz.f78 78 0 []
def bM4:KT:=SS.jK 78 22 0 (cS Tryz.f78 15) bM3
def bM5:KT:=aW 0 bM4
def Vd (b c:ai) (a:Int):R:=SS.LL (SS.ae 78 22) 0 [1,5,8,9,10] 0 (cS Tryz.f78 75) bM5 ⟨[(1,h_ 79),(5,.sl true 1 c),(8,.sl false 9 b),(9,af (b.length:Int)),(10,af a)],[]⟩
theorem aO' (b c:ai) (a:Int):Vd b c a=aB (decide (a<(b.length:Int))) (ak S5 b a fun d=>G2 79 [A5 d] fun yj=>b_ (decide (c.length+1<=aO)) (Vd b (c ++ ([.str yj]:ai)) (i64.wrap (a+1)))) (some (a_ c,[])):=ll
def bM6 (a0:ai):SS.CC 78 [.sl false 9 a0,h_ 79] []=Vd a0 [] 0:=cc
def bM7 (a0:Sh.V S5):SS.CC 79 [A5 a0] []=some (.str a0.1,[]):=cc
def bMC:KT:=SS.rK Tryz.f80 80 0 []
def bMD:KT:=SS.jK 80 22 0 (cS Tryz.f80 15) bMC
def bME:KT:=aW 0 bMD
def P_ (b c:ai) (a:Int):R:=SS.LL (SS.ae 80 22) 0 [1,5,8,9,10] 0 (cS Tryz.f80 75) bME ⟨[(1,h_ 81),(5,.sl true 1 c),(8,.sl false 2 b),(9,af (b.length:Int)),(10,af a)],[]⟩
theorem aP1 (b c:ai) (a:Int):P_ b c a=aB (decide (a<(b.length:Int))) (ak kP b a fun d=>G2 81 [CU d] fun e=>b_ (decide (c.length+1<=aO)) (P_ b (c ++ ([.str e]:ai)) (i64.wrap (a+1)))) (some (a_ c,[])):=ll
def bMF (a0:ai):SS.CC 80 [.sl false 2 a0,h_ 81] []=P_ a0 [] 0:=cc
def bMG (a0:Sh.V kP):SS.CC 81 [CU a0] []=some (.str a0.1,[]):=cc
def bML:KT:=SS.rK Tryz.f82 82 0 []
def bMM:KT:=SS.jK 82 22 0 (cS Tryz.f82 15) bML
def bMN:KT:=aW 0 bMM
def a1Q (b c:ai) (a:Int):R:=SS.LL (SS.ae 82 22) 0 [1,5,8,9,10] 0 (cS Tryz.f82 75) bMN ⟨[(1,h_ 83),(5,.sl true 1 c),(8,.sl false 3 b),(9,af (b.length:Int)),(10,af a)],[]⟩
theorem aP3 (b c:ai) (a:Int):a1Q b c a=aB (decide (a<(b.length:Int))) (ak jV b a fun d=>G2 83 [xW d] fun e=>b_ (decide (c.length+1<=aO)) (a1Q b (c ++ ([.str e]:ai)) (i64.wrap (a+1)))) (some (a_ c,[])):=ll
def bMO (a0:ai):SS.CC 82 [.sl false 3 a0,h_ 83] []=a1Q a0 [] 0:=cc
def bMP (a0:Sh.V jV):SS.CC 83 [xW a0] []=some (.str a0.1,[]):=cc
def bMQ:KT:=SS.rK Tryz.f84 84 0 []
def bMR:KT:=SS.jK 84 18 0 (cS Tryz.f84 7) bMQ
def bMS:KT:=aW 0 bMR
def JV (a:ai) (b:Int):R:=SS.LL (SS.ae 84 18) 0 [6,7,8] 0 (cS Tryz.f84 37) bMS ⟨[(6,a_ a),(7,af (a.length:Int)),(8,af b)],[]⟩
def aP4 (a:ai) (b:Int):JV a b=aB (decide (b<(a.length:Int))) (di a b fun c=>b_ (decide (c.isAgg=false)&&decide (c.size=1)) (Q9 (PV.un (PV.un (PV.un c))) fun g d e=>b_ (PV.flats (d ++ [] ++ e)) (jk SS.CC g (d ++ [] ++ e) fun h=>vI .i64 h fun f=>aB (f != 0) (some (af f,[])) (JV a (i64.wrap (b+1)))))) (some (af 0,[])):=ll
def bMT (a0:ai):SS.CC 84 [a_ a0] []=JV a0 0:=cc
def bMU (a0:Sh.V S0):SS.CC 85 [.cst (A0 a0)] []=G3 31 [.str a0.1] fun a=>G1 86 [.bool (!a),af 7] fun b=>some (af b,[]):=cc
def bMV (a0:Bool) (a1:Int):SS.CC 86 [.bool a0,af a1] []=aB a0 (some (af a1,[])) (some (af 0,[])):=cc
def bMW (a0:Sh.V S0):SS.CC 87 [.cst (A0 a0)] []=G1 88 [.sl false 5 a0.2.1] fun a=>some (af a,[]):=cc
def bMX (a0:Sh.V S0):SS.CC 89 [.cst (A0 a0)] []=aB (decide (16<(a0.2.2.1.length:Int))) (G1 86 [.bool true,af 3] fun a=>some (af a,[])) (G1 86 [.bool (decide (32<((fun w=>if (a0.2.2.2.2.2.2.1.length:Int)>(if (a0.2.2.2.2.2.1.length:Int)>w then (a0.2.2.2.2.2.1.length:Int) else w) then (a0.2.2.2.2.2.2.1.length:Int) else (if (a0.2.2.2.2.2.1.length:Int)>w then (a0.2.2.2.2.2.1.length:Int) else w)) (if (a0.2.2.2.2.1.length:Int)>(a0.2.2.2.1.length:Int) then (a0.2.2.2.2.1.length:Int) else (a0.2.2.2.1.length:Int))))),af 3] fun b=>some (af b,[])):=cc
def bMY (a0:Sh.V S0) (a1:ai):SS.CC 90 [.cst (A0 a0),.cst (a_ a1)] []=G1 91 [.sl false 9 a0.2.2.1,fU 92 [.cst (a_ a1),.cst (A0 a0)]] fun a=>some (af a,[]):=cc
def bMZ:KT:=SS.rK Tryz.f91 91 0 []
def bM':KT:=SS.jK 91 19 0 (cS Tryz.f91 7) bMZ
def bN0:KT:=aW 0 bM'
def Y_ (a:ai) (b:fQ) (c d e f g h:ai) (i j:Int):R:=SS.LL (SS.ae 91 19) 0 [1,8,9] 0 (cS Tryz.f91 37) bN0 ⟨[(1,fU 92 [.cst (a_ a),.cst (A0 (b,c,d,e,f,g,h,()))]),(8,af i),(9,af j)],[]⟩
theorem aP5 (b:ai) (c:fQ) (d e f g h i:ai) (j a:Int):Y_ b c d e f g h i j a=aB (decide (a<j)) (G1 92 [af a,.cst (a_ b),.cst (A0 (c,d,e,f,g,h,i,()))] fun l=>aB (l != 0) (some (af l,[])) (Y_ b c d e f g h i j (i64.wrap (a+1)))) (some (af 0,[])):=ll
def bN1 (a0 a1:ai) (a:fQ) (b c d e f g:ai):SS.CC 91 [.sl false 9 a0,fU 92 [.cst (a_ a1),.cst (A0 (a,b,c,d,e,f,g,()))]] []=Y_ a1 a b c d e f g (a0.length:Int) 0:=cc
def bN2 (a0:Int) (a1:ai) (a2:Sh.V S0):SS.CC 92 [af a0,.cst (a_ a1),.cst (A0 a2)] []=G1 84 [a_ [fU 93 [.cst (a_ a1),.cst (af a0)],fU 95 [.cst (A0 a2),.cst (af a0)]]] fun a=>some (af a,[]):=cc
def bN3 (a0:ai) (a1:Int):SS.CC 93 [.cst (a_ a0),.cst (af a1)] []=b_ (decide (0<=(i64.wrap (a1+1)))&&decide ((i64.wrap (a1+1))<=(a0.length:Int))) (G1 94 [a_ (a0.take (i64.wrap (a1+1)).toNat)] fun a=>some (af a,[])):=cc
def bN4 (a0:ai):SS.CC 94 [a_ a0] []=di a0 (i64.wrap ((a0.length:Int)-1)) fun b=>vS b fun a=>G3 31 [.str a] fun c=>aB (!c) (some (af 7,[])) (b_ (decide (0<=(i64.wrap ((a0.length:Int)-1)))&&decide ((i64.wrap ((a0.length:Int)-1))<=(a0.length:Int))) (G3 179 [a_ (a0.take (i64.wrap ((a0.length:Int)-1)).toNat),.str a] fun d=>G1 86 [.bool d,af 8] fun e=>some (af e,[]))):=cc
def bN5 (a0:Sh.V S0) (a1:Int):SS.CC 95 [.cst (A0 a0),.cst (af a1)] []=ak S5 a0.2.2.1 a1 fun b=>G1 96 [A5 b] fun a=>some (af a,[]):=cc
def bN6 (a0:Sh.V S5):SS.CC 96 [A5 a0] []=(fun w=>G1 84 [a_ [fU 180 [.cst (A5 a0)],fU 182 [.cst (A5 a0)],fU 183 [.cst w,.cst (A5 a0)],fU 184 [.cst w,.cst (A5 a0)],fU 185 [.cst w],fU 186 [.cst w],fU 188 [.cst w],fU 190 [.cst w],fU 193 [.cst w,.cst (A5 a0)]]] fun a=>some (af a,[])) (A6 (a0.2.2.2.1,a0.2.2.2.2.1,a0.2.2.2.2.2.1,a0.2.2.2.2.2.2.1,a0.2.2.2.2.2.2.2.1,a0.2.2.2.2.2.2.2.2.1,())):=cc
def bN7 (a0 a1:ai):SS.CC 97 [.cst (.sl false 3 a0),.cst (a_ a1)] []=G1 98 [.sl false 3 a0,fU 99 [.cst (a_ a1),.cst (.sl false 3 a0)]] fun a=>some (af a,[]):=cc
def bN9:KT:=SS.rK Tryz.f98 98 0 []
def bNA:KT:=SS.jK 98 19 0 (cS Tryz.f98 7) bN9
def bNB:KT:=aW 0 bNA
def Zr (a b:ai) (c d:Int):R:=SS.LL (SS.ae 98 19) 0 [1,8,9] 0 (cS Tryz.f98 37) bNB ⟨[(1,fU 99 [.cst (a_ a),.cst (.sl false 3 b)]),(8,af c),(9,af d)],[]⟩
theorem aP6 (b c:ai) (d a:Int):Zr b c d a=aB (decide (a<d)) (G1 99 [af a,.cst (a_ b),.cst (.sl false 3 c)] fun e=>aB (e != 0) (some (af e,[])) (Zr b c d (i64.wrap (a+1)))) (some (af 0,[])):=ll
def bNC (a0 a1 a:ai):SS.CC 98 [.sl false 3 a0,fU 99 [.cst (a_ a1),.cst (.sl false 3 a)]] []=Zr a1 a (a0.length:Int) 0:=cc
def bND (a0:Int) (a1 a2:ai):SS.CC 99 [af a0,.cst (a_ a1),.cst (.sl false 3 a2)] []=G1 84 [a_ [fU 100 [.cst (a_ a1),.cst (af a0)],fU 101 [.cst (.sl false 3 a2),.cst (af a0)]]] fun a=>some (af a,[]):=cc
def bNE (a0:ai) (a1:Int):SS.CC 100 [.cst (a_ a0),.cst (af a1)] []=b_ (decide (0<=(i64.wrap (a1+1)))&&decide ((i64.wrap (a1+1))<=(a0.length:Int))) (G1 94 [a_ (a0.take (i64.wrap (a1+1)).toNat)] fun a=>some (af a,[])):=cc
def bNF (a0:ai) (a1:Int):SS.CC 101 [.cst (.sl false 3 a0),.cst (af a1)] []=ak S8 a0 a1 fun c=>ak S8 a0 a1 fun b=>b_ (decide (1+b.2.2.1.length<=aO)) (G3 102 [a_ (([.str c.2.1]:ai) ++ b.2.2.1)] fun d=>G1 86 [.bool (!d),af 7] fun a=>some (af a,[])):=cc
def bNG (a0:ai):SS.CC 102 [a_ a0] []=G3 29 [a_ a0,h_ 197] fun a=>some (.bool (!a),[]):=cc
def bNH (a0:Sh.V S0) (a1:ai):SS.CC 103 [.cst (A0 a0),.cst (a_ a1)] []=G1 104 [.sl false 2 a0.2.2.2.2.2.1,fU 105 [.cst (a_ a1),.cst (A0 a0)]] fun a=>some (af a,[]):=cc
def bNI:KT:=SS.rK Tryz.f104 104 0 []
def bNJ:KT:=SS.jK 104 19 0 (cS Tryz.f104 7) bNI
def bNK:KT:=aW 0 bNJ
def Sr (a:ai) (b:fQ) (c d e f g h:ai) (i j:Int):R:=SS.LL (SS.ae 104 19) 0 [1,8,9] 0 (cS Tryz.f104 37) bNK ⟨[(1,fU 105 [.cst (a_ a),.cst (A0 (b,c,d,e,f,g,h,()))]),(8,af i),(9,af j)],[]⟩
theorem aP7 (b:ai) (c:fQ) (d e f g h i:ai) (j a:Int):Sr b c d e f g h i j a=aB (decide (a<j)) (G1 105 [af a,.cst (a_ b),.cst (A0 (c,d,e,f,g,h,i,()))] fun l=>aB (l != 0) (some (af l,[])) (Sr b c d e f g h i j (i64.wrap (a+1)))) (some (af 0,[])):=ll
def bNL (a0 a1:ai) (a:fQ) (b c d e f g:ai):SS.CC 104 [.sl false 2 a0,fU 105 [.cst (a_ a1),.cst (A0 (a,b,c,d,e,f,g,()))]] []=Sr a1 a b c d e f g (a0.length:Int) 0:=cc
def bNM (a0:Int) (a1:ai) (a2:Sh.V S0):SS.CC 105 [af a0,.cst (a_ a1),.cst (A0 a2)] []=G1 84 [a_ [fU 106 [.cst (a_ a1),.cst (af a0)],fU 107 [.cst (A0 a2),.cst (af a0)],fU 108 [.cst (A0 a2),.cst (af a0)]]] fun a=>some (af a,[]):=cc
def bNN (a0:ai) (a1:Int):SS.CC 106 [.cst (a_ a0),.cst (af a1)] []=b_ (decide (0<=(i64.wrap (a1+1)))&&decide ((i64.wrap (a1+1))<=(a0.length:Int))) (G1 94 [a_ (a0.take (i64.wrap (a1+1)).toNat)] fun a=>some (af a,[])):=cc
def bNO (a0:Sh.V S0) (a1:Int):SS.CC 107 [.cst (A0 a0),.cst (af a1)] []=ak kP a0.2.2.2.2.2.1 a1 fun a=>G1 86 [.bool ((a.2.1.length:Int)==0),af 12] fun b=>some (af b,[]):=cc
def bNP (a0:Sh.V S0) (a1:Int):SS.CC 108 [.cst (A0 a0),.cst (af a1)] []=ak kP a0.2.2.2.2.2.1 a1 fun a=>G3 109 [.sl false 2 a.2.1,h_ 110] fun b=>G1 86 [.bool b,af 7] fun c=>some (af c,[]):=cc
def bNQ (a0:ai):SS.CC 109 [.sl false 2 a0,h_ 110] []=G1 198 [.sl false 2 a0,h_ 110] fun a=>some (.bool (decide (0<=a)),[]):=cc
def bNR (a0:Sh.V zt):SS.CC 110 [LX a0] []=G3 102 [a_ [.str a0.1,.str a0.2.1]] fun a=>some (.bool (!a),[]):=cc
def bNS (a0:Sh.V S0) (a1:ai):SS.CC 111 [.cst (A0 a0),.cst (a_ a1)] []=G1 112 [.sl false 3 a0.2.2.2.2.2.2.1,fU 113 [.cst (a_ a1),.cst (A0 a0)]] fun a=>some (af a,[]):=cc
def bNT:KT:=SS.rK Tryz.f112 112 0 []
def bNU:KT:=SS.jK 112 19 0 (cS Tryz.f112 7) bNT
def bNV:KT:=aW 0 bNU
def a1V (a:ai) (b:fQ) (c d e f g h:ai) (i j:Int):R:=SS.LL (SS.ae 112 19) 0 [1,8,9] 0 (cS Tryz.f112 37) bNV ⟨[(1,fU 113 [.cst (a_ a),.cst (A0 (b,c,d,e,f,g,h,()))]),(8,af i),(9,af j)],[]⟩
theorem aP8 (b:ai) (c:fQ) (d e f g h i:ai) (j a:Int):a1V b c d e f g h i j a=aB (decide (a<j)) (G1 113 [af a,.cst (a_ b),.cst (A0 (c,d,e,f,g,h,i,()))] fun l=>aB (l != 0) (some (af l,[])) (a1V b c d e f g h i j (i64.wrap (a+1)))) (some (af 0,[])):=ll
def bNW (a0 a1:ai) (a:fQ) (b c d e f g:ai):SS.CC 112 [.sl false 3 a0,fU 113 [.cst (a_ a1),.cst (A0 (a,b,c,d,e,f,g,()))]] []=a1V a1 a b c d e f g (a0.length:Int) 0:=cc
def bNX (a0:Int) (a1:ai) (a2:Sh.V S0):SS.CC 113 [af a0,.cst (a_ a1),.cst (A0 a2)] []=G1 84 [a_ [fU 114 [.cst (a_ a1),.cst (af a0)],fU 115 [.cst (A0 a2),.cst (af a0)]]] fun a=>some (af a,[]):=cc
def bNY (a0:ai) (a1:Int):SS.CC 114 [.cst (a_ a0),.cst (af a1)] []=b_ (decide (0<=(i64.wrap (a1+1)))&&decide ((i64.wrap (a1+1))<=(a0.length:Int))) (G1 94 [a_ (a0.take (i64.wrap (a1+1)).toNat)] fun a=>some (af a,[])):=cc
def bNZ (a0:Sh.V S0) (a1:Int):SS.CC 115 [.cst (A0 a0),.cst (af a1)] []=ak jV a0.2.2.2.2.2.2.1 a1 fun a=>G1 116 [xW a] fun b=>some (af b,[]):=cc
def bN':KT:=SS.rK Tryz.f116 116 0 []
def bO0:KT:=SS.jK 116 28 0 (cS Tryz.f116 15) bN'
def bO1:KT:=aW 0 bO0
def VW (a:Sh.V jV) (b:Int):R:=SS.LL (SS.ae 116 28) 0 [1,10,11,12] 0 (cS Tryz.f116 75) bO1 ⟨[(1,.cst (xW a)),(10,.sl false 2 a.2.1),(11,af (a.2.1.length:Int)),(12,af b)],[]⟩
def aP9 (b:Sh.V jV) (a:Int):VW b a=aB (decide (a<(b.2.1.length:Int))) (ak BG b.2.1 a fun d=>G3 31 [.str d.1] fun e=>aB (!e) (some (af 7,[])) (G3 199 [af d.2.1] fun f=>aB f (some (af 2,[])) (VW b (i64.wrap (a+1))))) (G3 199 [af b.2.2.1] fun g=>G1 86 [.bool g,af 2] fun c=>some (af c,[])):=ll
def bO2 (a0:Sh.V jV):SS.CC 116 [xW a0] []=aB ((a0.2.1.length:Int)==0) (some (af 12,[])) (VW a0 0):=cc
def b6Q:KT:=SS.rK Tryz.f46 46 0 []
def b6R:KT:=SS.jK 46 26 0 (cS Tryz.f46 15) b6Q
def b6S:KT:=aW 0 b6R
def Um (a b:ai) (c:Int):R:=SS.LL (SS.ae 46 26) 0 [0,1,12,13] 0 (cS Tryz.f46 75) b6S ⟨[(0,a_ a),(1,a_ b),(12,af (a.length:Int)),(13,af c)],[]⟩
theorem ZV (b c:ai) (a:Int):Um b c a=aB (decide (a<(b.length:Int))) (di b a fun d=>vI .i64 d fun e=>di c a fun f=>vI .i64 f fun g=>aB (e != g) l7 (Um b c (i64.wrap (a+1)))) vG:=ll
def aKJ (a0 a1:ai):SS.CC 46 [a_ a0,a_ a1] []=aB ((a0.length:Int) !=(a1.length:Int)) l7 (Um a0 a1 0):=cc
def b7Z:KT:=SS.rK Tryz.f132 132 0 []
def b7':KT:=SS.jK 132 19 0 (cS Tryz.f132 7) b7Z
def b81:KT:=aW 0 b7'
def Uo (a:ai) (b:Int):R:=SS.LL (SS.ae 132 19) 0 [0,1,7,8] 0 (cS Tryz.f132 37) b81 ⟨[(0,a_ a),(1,h_ 197),(7,af (a.length:Int)),(8,af b)],[]⟩
theorem aKU (b:ai) (a:Int):Uo b a=aB (decide (a<(b.length:Int))) (di b a fun c=>vS c fun d=>G3 197 [.str d] fun e=>aB e (some (af a,[])) (Uo b (i64.wrap (a+1)))) (some (af (-1),[])):=ll
def b82 (a0:ai):SS.CC 132 [a_ a0,h_ 197] []=Uo a0 0:=cc
def b83:KT:=SS.rK Tryz.f187 187 0 []
def b84:KT:=SS.jK 187 33 0 (cS Tryz.f187 7) b83
def b85:KT:=aW 0 b84
def Ur (a:ai) (b c:Int):R:=SS.LL (SS.ae 187 33) 0 [0,1,7,8,9] 0 (cS Tryz.f187 37) b85 ⟨[(0,a_ a),(1,af b),(7,a_ a),(8,af (a.length:Int)),(9,af c)],[]⟩
theorem aKV (b:ai) (c a:Int):Ur b c a=aB (decide (a<(b.length:Int))) (di b a fun e=>vI .i64 e fun d=>aB (decide (d<0)) (some (af 2,[])) (aB (decide (c<=d)) (some (af 2,[])) (aB (decide (0<a)) (di b (i64.wrap (a-1)) fun f=>vI .i64 f fun g=>aB (decide (d<=g)) (some (af 5,[])) (Ur b c (i64.wrap (a+1)))) (Ur b c (i64.wrap (a+1)))))) (some (af 0,[])):=ll
def b86 (a0:ai) (a1:Int):SS.CC 187 [a_ a0,af a1] []=Ur a0 a1 0:=cc
def b88:KT:=SS.rK Tryz.f189 189 0 []
def b89:KT:=SS.jK 189 55 0 (cS Tryz.f189 15) b88
def b8A:KT:=aW 0 b89
def Zf (a:ai) (b:Int):R:=SS.LL (SS.ae 189 55) 0 [0,8,9,10] 0 (cS Tryz.f189 75) b8A ⟨[(0,.sl false 4 a),(8,.sl false 4 a),(9,af (a.length:Int)),(10,af b)],[]⟩
theorem aKW (c:ai) (a:Int):Zf c a=aB (decide (a<(c.length:Int))) (ak S7 c a fun f=>G3 31 [.str f.1] fun g=>aB (!g) (some (af 7,[])) (b_ (decide (0<=a)&&decide (a<=(c.length:Int))) (H44 191 [.sl false 4 (c.take a.toNat),fU 243 [ag]] [O7 f] fun h b=>aB h (some (af 8,[])) (G3 215 [af b.2.1,af 65536] fun d=>aB d (some (af 2,[])) (G3 215 [af b.2.2.1,af 65536] fun e=>aB e (some (af 2,[])) (aB (decide (b.2.2.1<b.2.1)) (some (af 5,[])) (aB (decide (b.2.2.2.1<b.2.1)) (some (af 2,[])) (aB (decide (b.2.2.1<b.2.2.2.1)) (some (af 2,[])) (Zf c (i64.wrap (a+1))))))))))) (some (af 0,[])):=ll
def b8B (a0:ai):SS.CC 189 [.sl false 4 a0] []=aB (decide (16<(a0.length:Int))) (some (af 3,[])) (Zf a0 0):=cc
def b8C (a0:Sh.V S1) (a1 a2:Int):SS.CC 229 [A1 a0,af a1,af a2] []=G6 33 [A1 a0,af a1] fun a=>aB (a.2.1.1==0) (aB (a.1.1 != a2) (some (af 16,[])) (some (af a.2.1.1,[]))) (some (af a.2.1.1,[])):=cc
def bA6 (a0:Sh.V S5):SS.CC 180 [.cst (A5 a0)] []=G1 181 [a_ a0.2.2.1] fun a=>some (af a,[]):=cc
def bA7:KT:=SS.rK Tryz.f181 181 0 []
def bA8:KT:=SS.jK 181 21 0 (cS Tryz.f181 7) bA7
def bA9:KT:=aW 0 bA8
def Zo (a:ai) (b:Int):R:=SS.LL (SS.ae 181 21) 0 [0,5,6,7] 0 (cS Tryz.f181 37) bA9 ⟨[(0,a_ a),(5,a_ a),(6,af (a.length:Int)),(7,af b)],[]⟩
theorem aLI (b:ai) (a:Int):Zo b a=aB (decide (a<(b.length:Int))) (di b a fun d=>vS d fun c=>G3 31 [.str c] fun e=>aB (!e) (some (af 7,[])) (b_ (decide (0<=a)&&decide (a<=(b.length:Int))) (G3 179 [a_ (b.take a.toNat),.str c] fun f=>aB f (some (af 8,[])) (Zo b (i64.wrap (a+1)))))) (some (af 0,[])):=ll
def bAA (a0:ai):SS.CC 181 [a_ a0] []=Zo a0 0:=cc
def bAB (a0:Sh.V S5):SS.CC 182 [.cst (A5 a0)] []=G1 181 [a_ a0.2.1] fun a=>some (af a,[]):=cc
def bAC (a0:Sh.V S6) (a1:Sh.V S5):SS.CC 183 [.cst (A6 a0),.cst (A5 a1)] []=G4 171 [af (a1.2.2.1.length:Int)] fun a=>G3 46 [a_ a0.1,a_ a] fun b=>G1 86 [.bool (!b),af 6] fun c=>some (af c,[]):=cc
def bAE:KT:=SS.rK Tryz.f171 171 0 []
def bAF:KT:=SS.jK 171 15 0 (cS Tryz.f171 15) bAE
def bAG:KT:=aW 0 bAF
def Zp (a:Int) (b:ai) (c:Int):R:=SS.LL (SS.ae 171 15) 0 [3,5,6] 0 (cS Tryz.f171 75) bAG ⟨[(3,.sl true 1 b),(5,af a),(6,af c)],[]⟩
theorem aLJ (c:Int) (a:ai) (b:Int):Zp c a b=aB (decide (b<c)) (b_ (decide (a.length+1<=aO)) (Zp c (a ++ ([af b]:ai)) (i64.wrap (b+1)))) (some (a_ a,[])):=ll
def bAH (a0:Int):SS.CC 171 [af a0] []=Zp a0 [] 0:=cc
def bAI (a0:Sh.V S6) (a1:Sh.V S5):SS.CC 184 [.cst (A6 a0),.cst (A5 a1)] []=G1 86 [.bool (a0.2.1 !=(a1.2.1.length:Int)),af 4] fun a=>some (af a,[]):=cc
def bAJ (a0:Sh.V S6):SS.CC 185 [.cst (A6 a0)] []=aB (decide (a0.2.2.1<0)) (G1 86 [.bool true,af 2] fun a=>some (af a,[])) (G1 86 [.bool (decide ((if (1:Int)>a0.2.1 then (1:Int) else a0.2.1)<=a0.2.2.1)),af 2] fun b=>some (af b,[])):=cc
def bAK (a0:Sh.V S6):SS.CC 186 [.cst (A6 a0)] []=G1 187 [a_ a0.2.2.2.1,af a0.2.1] fun a=>some (af a,[]):=cc
def bAL (a0:Sh.V S6):SS.CC 188 [.cst (A6 a0)] []=G1 189 [.sl false 4 a0.2.2.2.2.1] fun a=>some (af a,[]):=cc
def bAM (a0:Sh.V S6):SS.CC 190 [.cst (A6 a0)] []=G3 191 [.sl false 4 a0.2.2.2.2.1,h_ 192] fun a=>G1 86 [.bool a,af 7] fun b=>some (af b,[]):=cc
def bAN (a0:ai):SS.CC 191 [.sl false 4 a0,h_ 192] []=G1 244 [.sl false 4 a0,h_ 192] fun a=>some (.bool (decide (0<=a)),[]):=cc
def bAO (a0:ai) (a:Sh.V S7):SS.CC 191 [.sl false 4 a0,fU 243 [ag]] [O7 a]=H63 244 [.sl false 4 a0,fU 243 [ag]] [O7 a] fun b c=>some (.bool (decide (0<=b)),[O7 c]):=cc
def bAP (a0:Sh.V S7):SS.CC 192 [A7 a0] []=G3 32 [.str a0.1] fun a=>some (.bool a,[]):=cc
def bAQ (a0:Sh.V S6) (a1:Sh.V S5):SS.CC 193 [.cst (A6 a0),.cst (A5 a1)] []=G1 194 [.sl false 8 a0.2.2.2.2.2.1,fU 195 [.cst (A5 a1),.cst (A6 a0)]] fun a=>some (af a,[]):=cc
def bAR:KT:=SS.rK Tryz.f194 194 0 []
def bAS:KT:=SS.jK 194 19 0 (cS Tryz.f194 7) bAR
def bAT:KT:=aW 0 bAS
def Zq (a:fQ) (b c d:ai) (e f:Int) (g h i j:ai) (l m:Int) (n o p:ai) (q r:Int):R:=SS.LL (SS.ae 194 19) 0 [1,8,9] 0 (cS Tryz.f194 37) bAT ⟨[(1,fU 195 [.cst (A5 (a,b,c,d,e,f,g,h,i,())),.cst (A6 (j,l,m,n,o,p,()))]),(8,af q),(9,af r)],[]⟩
theorem aLK (b:fQ) (c d e:ai) (f g:Int) (h i j l:ai) (m n:Int) (o p q:ai) (r a:Int):Zq b c d e f g h i j l m n o p q r a=aB (decide (a<r)) (G1 195 [af a,.cst (A5 (b,c,d,e,f,g,h,i,j,())),.cst (A6 (l,m,n,o,p,q,()))] fun t=>aB (t != 0) (some (af t,[])) (Zq b c d e f g h i j l m n o p q r (i64.wrap (a+1)))) (some (af 0,[])):=ll
def bAU (a0:ai) (a1:fQ) (h i j:ai) (l m:Int) (n o a b:ai) (c d:Int) (e f g:ai):SS.CC 194 [.sl false 8 a0,fU 195 [.cst (A5 (a1,h,i,j,l,m,n,o,a,())),.cst (A6 (b,c,d,e,f,g,()))]] []=Zq a1 h i j l m n o a b c d e f g (a0.length:Int) 0:=cc
def bAW (a0:Int) (a1:Sh.V S5) (a2:Sh.V S6):SS.CC 195 [af a0,.cst (A5 a1),.cst (A6 a2)] []=ak S9 a2.2.2.2.2.2.1 a0 fun b=>G1 196 [A5 a1,A9 b] fun a=>some (af a,[]):=cc
def bAY:KT:=SS.rK Tryz.f196 196 0 []
def bAZ:KT:=SS.jK 196 97 0 (cS Tryz.f196 63) bAY
def aLL:KT:=aW 0 bAZ
def bA':KT:=SS.lK 196 97 0 [3,5,59,60,61] 0 (cS Tryz.f196 303) aLL
def bB0:KT:=SS.jK 196 97 0 (cS Tryz.f196 3887) bA'
def bB3:KT:=aW 1 bB0
def Uz (a:Sh.V S9) (b c:Int):R:=SS.LL (SS.ae 196 97) 0 [3,5,59,60,61] 0 (cS Tryz.f196 303) aLL ⟨[(3,.cst (A9 a)),(5,af b),(59,.sl false 5 a.2.2.2.2.2.2.2.1),(60,af (a.2.2.2.2.2.2.2.1.length:Int)),(61,af c)],[]⟩
def a8N (a:Sh.V S9) (b:Int) (c:Sh.V qm) (d:Int):R:=bC (SS.xX 196 97 0) (cS Tryz.f196 62255) bB3 ⟨[(3,.cst (A9 a)),(5,af b),(8,ag),(59,.sl false 5 a.2.2.2.2.2.2.2.1),(60,af (a.2.2.2.2.2.2.2.1.length:Int)),(61,af d)],[O11 c]⟩
theorem aLM (b:Sh.V S9) (d a:Int):Uz b d a=aB (decide (a<(b.2.2.2.2.2.2.2.1.length:Int))) (ak qm b.2.2.2.2.2.2.2.1 a fun c=>aB (decide (c.1<0)) (some (af 2,[])) (aB (decide (d<=c.1)) (some (af 2,[])) (aB (decide (0<a)) (ak qm b.2.2.2.2.2.2.2.1 (i64.wrap (a-1)) fun u8=>aB (decide (c.1<=u8.1)) (some (af 5,[])) (a8N b d c a)) (a8N b d c a)))) (some (af 0,[])):=ll
def bAX (c:Sh.V S9) (b:Int) (a:Sh.V qm) (d:Int):a8N c b a d=G1 245 [A1 (a.2.1,a.2.2.1,a.2.2.2.1,a.2.2.2.2.1,()),af b,af 1] fun e=>aB (e != 0) (some (af e,[])) (Uz c b (i64.wrap (d+1))):=by kernel_rfl
def bB4 (a0:Sh.V S5) (a1:Sh.V S9):SS.CC 196 [A5 a0,A9 a1] []=aB (decide (a1.1<0)) (some (af 2,[])) (aB (decide (a0.2.2.2.2.1<=a1.1)) (some (af 2,[])) (aB (decide (a1.2.1<0)) (some (af 2,[])) (aB (decide ((a0.2.2.1.length:Int)<=a1.2.1)) (some (af 2,[])) (aB (decide (a1.2.2.1<0)) (some (af 2,[])) (aB (decide (a0.2.2.2.2.1<=a1.2.2.1)) (some (af 2,[])) (G1 245 [A1 (a1.2.2.2.1,a1.2.2.2.2.1,a1.2.2.2.2.2.1,a1.2.2.2.2.2.2.1,()),af (a0.2.2.2.2.2.2.2.1.length:Int),af 2] fun a=>aB (a != 0) (some (af a,[])) (Uz a1 (a0.2.2.2.2.2.2.2.1.length:Int) 0))))))):=cc
def bB5 (a0:fQ):SS.CC 197 [.str a0] []=G3 31 [.str a0] fun a=>some (.bool (!a),[]):=cc
def bB6:KT:=SS.rK Tryz.f198 198 0 []
def bB7:KT:=SS.jK 198 19 0 (cS Tryz.f198 7) bB6
def bB8:KT:=aW 0 bB7
def V3 (a:ai) (b:Int):R:=SS.LL (SS.ae 198 19) 0 [0,1,7,8] 0 (cS Tryz.f198 37) bB8 ⟨[(0,.sl false 2 a),(1,h_ 110),(7,af (a.length:Int)),(8,af b)],[]⟩
theorem aLN (b:ai) (a:Int):V3 b a=aB (decide (a<(b.length:Int))) (ak zt b a fun c=>G3 110 [LX c] fun d=>aB d (some (af a,[])) (V3 b (i64.wrap (a+1)))) (some (af (-1),[])):=ll
def bB9 (a0:ai):SS.CC 198 [.sl false 2 a0,h_ 110] []=V3 a0 0:=cc
def bBA (a0:Int):SS.CC 199 [af a0] []=aB (decide (a0<(-65536))) vG (some (.bool (decide (65536<a0)),[])):=cc
def bD2 (a0 a:Sh.V S7):SS.CC 243 [A7 a0,ag] [O7 a]=some (.bool (a0.1.toList==a.1.toList),[O7 a]):=cc
def bDL:KT:=SS.rK Tryz.f244 244 1 []
def bDM:KT:=SS.jK 244 19 1 (cS Tryz.f244 7) bDL
def bDN:KT:=aW 0 bDM
def V9 (a:ai) (b:Sh.V S7) (c:Int):R:=SS.LL (SS.ae 244 19) 1 [0,1,7,8] 1 (cS Tryz.f244 37) bDN ⟨[(0,.sl false 4 a),(1,fU 243 [ag]),(7,af (a.length:Int)),(8,af c)],[O7 b]⟩
theorem aLX (b:ai) (c:Sh.V S7) (a:Int):V9 b c a=aB (decide (a<(b.length:Int))) (ak S7 b a fun e=>H44 243 [A7 e,ag] [O7 c] fun f d=>aB f (some (af a,[O7 d])) (V9 b d (i64.wrap (a+1)))) (some (af (-1),[O7 c])):=ll
def bDO (a0:ai) (a:Sh.V S7):SS.CC 244 [.sl false 4 a0,fU 243 [ag]] [O7 a]=V9 a0 a 0:=cc
def bDH:KT:=SS.rK Tryz.f244 244 0 []
def bDI:KT:=SS.jK 244 19 0 (cS Tryz.f244 7) bDH
def bDJ:KT:=aW 0 bDI
def V8 (a:ai) (b:Int):R:=SS.LL (SS.ae 244 19) 0 [0,1,7,8] 0 (cS Tryz.f244 37) bDJ ⟨[(0,.sl false 4 a),(1,h_ 192),(7,af (a.length:Int)),(8,af b)],[]⟩
theorem aLW (b:ai) (a:Int):V8 b a=aB (decide (a<(b.length:Int))) (ak S7 b a fun c=>G3 192 [A7 c] fun d=>aB d (some (af a,[])) (V8 b (i64.wrap (a+1)))) (some (af (-1),[])):=ll
def bDK (a0:ai):SS.CC 244 [.sl false 4 a0,h_ 192] []=V8 a0 0:=cc
def bDP (a0:Sh.V S1) (a1 a2:Int):SS.CC 245 [A1 a0,af a1,af a2] []=G6 33 [A1 a0,af a1] fun a=>aB (a.2.1.1 != 0) (some (af a.2.1.1,[])) (G1 86 [.bool (a.1.1 != a2),af 16] fun b=>some (af b,[])):=cc
end
abbrev Nm:=f_
structure Vr where
 n:Nm
 lo:Int
 hi:Int
 i:Int
structure oN where
 n:Nm
 c:Bool
 o:Bool
 f:Bool
 k:Int
structure Mv where
 f:Int
 e:Int
 t:Int
 g:EX
 us:List (Int×EX)
structure Tm where
 n:Nm
 ls:List Nm
 es:List Nm
 al:List Int
 L:Int
 I:Int
 mr:List Int
 vs:List Vr
 ms:List Mv
structure Ins where
 n:Nm
 t:Nm
 es:List Nm
structure uf where
 n:Nm
 ls:List (Nm×Nm)
structure Cst where
 n:Nm
 ts:List (Nm×Int)
 b:Int
structure Mo where
 n:Nm
 es:List oN
 ts:List Tm
 cs:List Ins
 rs:List Ins
 xs:List uf
 ks:List Cst
abbrev aJ (l:List Nm):ai:=dD (cZ l)
abbrev Oa (v:Vr):Sh.V S7:=(bs v.n,v.lo,v.hi,v.i,())
abbrev ny (e:oN):Sh.V S4:=(bs e.n,e.c,e.o,e.f,e.k,())
abbrev vUp (u:Int×EX):Sh.V qm:=(u.1,(ev u.2).1,(ev u.2).2.1,(ev u.2).2.2.1,(ev u.2).2.2.2.1,())
abbrev zZ (u:Int×EX):PV:=LW (vUp u)
abbrev rJ (x:Mv):Sh.V S9:=(x.f,x.e,x.t,(ev x.g).1,(ev x.g).2.1,(ev x.g).2.2.1,(ev x.g).2.2.2.1,x.us.map zZ,())
abbrev ut (x:Mv):PV:=A9 (rJ x)
abbrev mM (v:Vr):PV:=A7 (Oa v)
abbrev zK (e:oN):PV:=A4 (ny e)
abbrev iC (t:Tm):Sh.V S5:=(bs t.n,aJ t.ls,aJ t.es,jC t.al,t.L,t.I,jC t.mr,t.vs.map mM,t.ms.map ut,())
abbrev xG (t:Tm):PV:=A5 (iC t)
abbrev G8 (x:Ins):Sh.V S8:=(bs x.n,bs x.t,aJ x.es,())
abbrev dN (x:Ins):PV:=A8 (G8 x)
abbrev vLc (l:Nm×Nm):Sh.V zt:=(bs l.1,bs l.2,())
abbrev zL (l:Nm×Nm):PV:=LX (vLc l)
abbrev OZ (x:uf):Sh.V kP:=(bs x.n,x.ls.map zL,())
abbrev xE (x:uf):PV:=CU (OZ x)
abbrev vTr (t:Nm×Int):Sh.V BG:=(bs t.1,t.2,())
abbrev Np (t:Nm×Int):PV:=A14 (vTr t)
abbrev tY (x:Cst):Sh.V jV:=(bs x.n,x.ts.map Np,x.b,())
abbrev og (x:Cst):PV:=xW (tY x)
abbrev aU (m:Mo):Sh.V S0:=(bs m.n,m.es.map zK,m.ts.map xG,m.cs.map dN,m.rs.map dN,m.xs.map xE,m.ks.map og,())
abbrev zq (l:List Nm):Prop:=l.length<=20000/\∀ s,s∈l->s.length<=20000
abbrev Tq (n:Int):Prop := -9223372036854775808<=n/\n<=9223372036854775807
structure uC (t:Tm):Prop where
 ls:zq t.ls
 es:zq t.es
 al:t.al.length<=20000
 mr:t.mr.length<=20000
 vs:t.vs.length<=20000/\∀ v,v∈t.vs->v.n.length<=20000/\Tq v.lo/\Tq v.hi
 ms:t.ms.length<=20000/\∀ x,x∈t.ms->x.g.Len/\x.us.length<=20000/\∀ u,u∈x.us->u.2.Len
structure lV (m:Mo):Prop where
 n:m.n.length<=20000
 es:m.es.length<=20000/\∀ e,e∈m.es->e.n.length<=20000
 ts:m.ts.length<=20000/\∀ t,t∈m.ts->t.n.length<=20000/\uC t
 is:m.cs.length<=20000/\m.rs.length<=20000/\∀ x,x∈m.cs ++ m.rs->x.n.length<=20000/\x.t.length<=20000/\zq x.es
 xs:m.xs.length<=20000/\∀ x,x∈m.xs->x.n.length<=20000/\x.ls.length<=20000/\∀ l,l∈x.ls->l.1.length<=20000/\l.2.length<=20000
 ks:m.ks.length<=20000/\∀ x,x∈m.ks->x.n.length<=20000/\x.ts.length<=20000/\∀ l,l∈x.ts->l.1.length<=20000
variable {r:Type} {j:Nat}
theorem FM {S:List Sh} {f:r->PV} {g:r->Sh.V S} (b:∀ a (K:Sh.V S->R),BR S (f a) K=K (g a)) {l:List r} (hk:j<l.length) (K:Sh.V S->R):ak S (l.map f) (j:Int) K=K (g l[j]):=by grind [di]
def NR {l:List oN} (hk:j<l.length) (K:Sh.V S4->R):ak S4 (l.map zK) (j:Int) K=K (ny l[j]):=FM (fun _ _=>rfl) hk K
variable {M:List Vr}
def Ht (hk:j<M.length) (K:Sh.V S7->R):ak S7 (M.map mM) (j:Int) K=K (Oa M[j]):=FM (fun _ _=>rfl) hk K
variable {c3:List (Int×EX)}
def Jg (hk:j<c3.length) (K:Sh.V qm->R):ak qm (c3.map zZ) (j:Int) K=K (vUp c3[j]):=FM (fun _ _=>rfl) hk K
def RF {l:List Mv} (hk:j<l.length) (K:Sh.V S9->R):ak S9 (l.map ut) (j:Int) K=K (rJ l[j]):=FM (fun _ _=>rfl) hk K
def Hr {l:List Tm} (hk:j<l.length) (K:Sh.V S5->R):ak S5 (l.map xG) (j:Int) K=K (iC l[j]):=FM (fun _ _=>rfl) hk K
def AZ {l:List Ins} (hk:j<l.length) (K:Sh.V S8->R):ak S8 (l.map dN) (j:Int) K=K (G8 l[j]):=FM (fun _ _=>rfl) hk K
def NU {l:List (Nm×Nm)} (hk:j<l.length) (K:Sh.V zt->R):ak zt (l.map zL) (j:Int) K=K (vLc l[j]):=FM (fun _ _=>rfl) hk K
def FK {l:List uf} (hk:j<l.length) (K:Sh.V kP->R):ak kP (l.map xE) (j:Int) K=K (OZ l[j]):=FM (fun _ _=>rfl) hk K
def NV {l:List (Nm×Int)} (hk:j<l.length) (K:Sh.V BG->R):ak BG (l.map Np) (j:Int) K=K (vTr l[j]):=FM (fun _ _=>rfl) hk K
def Hq {l:List Cst} (hk:j<l.length) (K:Sh.V jV->R):ak jV (l.map og) (j:Int) K=K (tY l[j]):=FM (fun _ _=>rfl) hk K
variable {f:List Nm}
def BZ (hk:j<f.length) (K:PV->R):di (aJ f) (j:Int) K=K (.str (bs f[j])):=nD (by omega) (aBQ hk)
variable {c4:List Int}
theorem NT (hk:j<c4.length) (K:PV->R):di (jC c4) (j:Int) K=K (af c4[j]):=nD (by omega) (by rw[qf,lN,jq hk]; rfl)
theorem L6 (l:List Nm) (k:Nat):(aJ l).take k=aJ (l.take k):=by grind [dD,List.map_take]
theorem iR (l:List Nm):(aJ l).length=l.length:=bU0 l
theorem Fp (a b:List Nm):aJ a ++ aJ b=aJ (a ++ b):=by grind [dD]
abbrev bK (e:Int):R:=some (af e,[])
def IP (v:Nat->Int):Nat->Nat->Int
 | _,0=>0
 | k,m+1=>if v k=0 then IP v (k+1) m else v k
def sG (v:Nat->Int) (n:Nat):Int:=IP v 0 n
def sq (a b:Int):Int:=if a=0 then b else a
theorem aX1 {L:Nat->R} {E:R} {v:Nat->Int} {n:Nat} (a:∀ k,k<n->L k=aB (v k != 0) (bK (v k)) (L (k+1))) (he:L n=E):∀ (m k:Nat),k+m=n->L k=aB (IP v k m != 0) (bK (IP v k m)) E
 | 0,k,h=>by
  have:k=n:=by omega
  subst this;rw[he]; rfl
 | m+1,k,h=>by rw[a k (by omega),aX1 a he m (k+1) (by omega),IP];grind [aF,aI]
variable {E:R} {O:Nat->Int}
def Df {L:Nat->R} (a:∀ k,k<j->L k=aB (O k != 0) (bK (O k)) (L (k+1))) (he:L j=E):L 0=aB (sG O j != 0) (bK (sG O j)) E:=aX1 a he j 0 (by omega)
theorem wU (e:Int):aB (e != 0) (bK e) (bK 0)=bK e:=by
 by_cases h:e=0;simp_all
 .rw[UH h,aI]
def Ad {L:Nat->R} (a:∀ k,k<j->L k=aB (O k != 0) (bK (O k)) (L (k+1))) (he:L j=bK 0):L 0=bK (sG O j):=(Df a he).trans (wU _)
theorem aHL {L:Nat->R} {p:Nat->Bool} {n:Nat} {h:aH} (a:∀ k,k<n->L k=aB (p k) (some (af (k:Int),h)) (L (k+1))) (he:L n=some (af (-1),h)):∀ (m k:Nat),k+m=n->∃ r,L k=some (af r,h)/\decide (0<=r)=(List.range' k m).any p
 | 0,k,e=>by simp_all
 | m+1,k,e=>by
  rw[a k (by omega),aFY,Xo];cases b:p k with
  | true=>simp
  | false =>exact aHL a he m (k+1) (by omega)
def yu (p:Nat->Bool) (n:Nat):Bool:=(List.range' 0 n).any p
variable {c5:Nat->Bool}
def w_ {L:Nat->R} (a:∀ k,k<j->L k=aB (c5 k) (some (af (k:Int),h)) (L (k+1))) (he:L j=some (af (-1),h)):∃ r,L 0=some (af r,h)/\decide (0<=r)=yu c5 j:=aHL a he j 0 (by omega)
theorem aW' {p:Nat->Bool} {c:Int}:∀ (m k:Nat),IP (fun k=>bif p k then c else 0) k m=bif (List.range' k m).any p then c else 0
 | 0,_=>rfl
 | m+1,k=>by rw[IP,aW' m (k+1)];grind
def YG:sG (fun k=>bif c5 k then i else 0) j=bif yu c5 j then i else 0:=aW' j 0
variable {D:Int}
def OH (a:i≠0):aB ((bif p then i else D) != 0) (bK (bif p then i else D)) E=aB p (bK i) (aB (D != 0) (bK D) E):=by
 cases p with
 | false=>rfl
 | true=>rw[GH,UH a,aI,aI]
def DD:aB ((bif p then 2 else i) != 0) (bK (bif p then 2 else i)) E=aB p (bK 2) (aB (i != 0) (bK i) E):=OH (by decide)
def st5:aB ((bif p then 5 else i) != 0) (bK (bif p then 5 else i)) E=aB p (bK 5) (aB (i != 0) (bK i) E):=OH (by decide)
def st6:aB ((bif p then 6 else i) != 0) (bK (bif p then 6 else i)) E=aB p (bK 6) (aB (i != 0) (bK i) E):=OH (by decide)
def KQ:aB ((bif p then 7 else i) != 0) (bK (bif p then 7 else i)) E=aB p (bK 7) (aB (i != 0) (bK i) E):=OH (by decide)
def st8:aB ((bif p then 8 else i) != 0) (bK (bif p then 8 else i)) E=aB p (bK 8) (aB (i != 0) (bK i) E):=OH (by decide)
theorem aXM:aB ((bif p then 12 else i) != 0) (bK (bif p then 12 else i)) E=aB p (bK 12) (aB (i != 0) (bK i) E):=OH (by decide)
def bZV:aB ((bif p then 13 else i) != 0) (bK (bif p then 13 else i)) E=aB p (bK 13) (aB (i != 0) (bK i) E):=OH (by decide)
theorem xK:aB (sq i D != 0) (bK (sq i D)) E=aB (i != 0) (bK i) (aB (D != 0) (bK D) E):=by grind [sq,aF,aI]
def D6:aB ((0:Int) != 0) (bK 0) E=E:=rfl
theorem xn:aB p (bK i) (bK D)=bK (bif p then i else D):=by cases p<;>rfl
theorem SB (a:Int):sq a 0=a:=by grind [sq]
def zX (b:Bool) (c:Int):SS.CC 86 [.bool b,af c] []=bK (bif b then c else 0):=by rw[bMV,xn]
def yz (l:List Nm) (s:Nm):Int:=bif !kH s then 7 else bif decide (s∈l) then 8 else 0
def a2C (l:List Nm) (a:l.length<=20000) (s:Nm):SS.CC 179 [a_ (aJ l),.str (bs s)] []=some (.bool (decide (s∈l)),[]):=by rw[D7 (cZ l) (by rw[bM]; omega) (bs s)];rw[decide_eq_decide.2 (aQ3 l 0)]
def Ue (l:List Nm) (a:l.length<=20000) (s:Nm) (b:s.length<=20000):SS.CC 149 [a_ (aJ l),.str (bs s)] []=bK (yz l s):=by rw[bJK,aj (Ah s b),aj (a2C l a s),xn,xn]; rfl
def aUV (n:Int):SS.CC 199 [af n] []=some (.bool (decide (n < -65536)||decide (65536<n)),[]):=by rw[bBA];cases decide (n < -65536)<;>rfl
def aSN (v:Int):SS.CC 215 [af v,af 65536] []=some (.bool (decide (65536<v)||decide (v < -65536)),[]):=by rw[aLQ];cases decide ((65536:Int)<v)<;>rfl
def Pm (l:List Int) (n:Int):Int:=sG (fun k=>bif decide (l.getD k 0<0) then 2 else bif decide (n<=l.getD k 0) then 2 else bif decide ((0:Int)<(k:Int))&&decide (l.getD k 0<=l.getD (k-1) 0) then 5 else 0) l.length
def gD {l:List r} (h:j<l.length) (d:r):l.getD j d=l[j]:=by simp[h]
theorem csc (l:List Int) (c:l.length<=20000) (n:Int):SS.CC 187 [a_ (jC l),af n] []=bK (Pm l n):=by
 rw[b86];refine Ad (L:=fun k=>Ur (jC l) n (k:Int)) (fun k hk => ?_) ?_
 .rw[aKV,aP (by rw[bM]; omega),NT hk,bU (by omega),gD hk 0];simp only[DD,st5];show aB _ _ (aB _ _ (aB _ _ _))=_;cases d:decide ((0:Int)<(k:Int)) with
  | false=>rfl
  | true =>
   have e:0<k:=by grind
   have b:(k:Int)-1=((k-1:Nat):Int):=by omega
   have a:k-1<l.length:=by omega
   rw[wrap64 (by omega) (by omega),b,NT a,gD a 0];rfl
 grind [aKV,aF]
theorem a6X (f:r->Bool) (l:List r) (d:r):yu (fun k=>f (l.getD k d)) l.length=l.any f:=by
 unfold yu;rw[I4,List.any_eq_true,List.any_eq_true];constructor;grind
 .rintro ⟨x,a,h⟩;obtain ⟨k,hk,e⟩:=List.getElem_of_mem a;refine ⟨k,List.mem_range'_1.2 (by omega),?_⟩;rw[gD hk,e]; exact h
def Pi:b_ (true&&true) E=E:=rfl
def Jo (l:List Nm):Int:=sG (fun k=>yz (l.take k) (l.getD k [])) l.length
theorem nsc (l:List Nm) (h:zq l):SS.CC 181 [a_ (aJ l)] []=bK (Jo l):=by
 rw[bAA];refine Ad (L:=fun k=>Zo (aJ l) (k:Int)) (fun k hk => ?_) ?_
 .have a:(l.take k).length<=20000:=by rw[vK]; omega
  rw[aLI,aP (by rw[iR]; omega),aI,BZ hk,kG,bU (by omega),gD hk []];rw[aj (Ah _ (h.2 _ (fZ hk))),aP (show (0:Int)<=k by omega),aP (show (k:Int)<=(aJ l).length by rw[iR]; omega),Pi,qf,L6,aj (a2C _ a _)];unfold yz;simp only[KQ,st8,D6]
 grind [aLI,iR,aF]
def y5 (x:Int):Bool:=decide (65536<x)||decide (x < -65536)
def vrE (pre:List Vr) (v:Vr):Int:=bif !kH v.n then 7 else bif decide (v.n∈pre.map (·.n)) then 8 else bif y5 v.lo then 2 else bif y5 v.hi then 2 else bif decide (v.hi<v.lo) then 5 else bif decide (v.i<v.lo) then 2 else bif decide (v.hi<v.i) then 2 else 0
def dV:Vr:=⟨[],0,0,0⟩
def MN (a:List Vr):Int:=bif decide ((16:Int)<(a.length:Int)) then 3 else sG (fun k=>vrE (a.take k) (a.getD k dV)) a.length
def aI1 (a b:Nm):((bs a).toList==(bs b).toList)=decide (a=b):=by rw[DJ,DJ]; by_cases h:a=b<;>simp[h]
theorem b3B (l:List Vr) (d:l.length<=20000) (v:Vr):SS.CC 191 [.sl false 4 (l.map mM),fU 243 [ag]] [O7 (Oa v)]=some (.bool (decide (v.n∈l.map (·.n))),[O7 (Oa v)]):=by
 have a:∃ r,V9 (l.map mM) (Oa v) ((0:Nat):Int)=some (af r,[O7 (Oa v)])/\decide (0<=r)=yu (fun k=>decide ((l.getD k dV).n=v.n)) l.length:=by
  refine w_ (L:=fun k=>V9 (l.map mM) (Oa v) (k:Int)) (fun k hk => ?_) ?_
  .rw[aLX,aP (by rw[bM]; omega),aI,Ht hk,aGN (bD2 _ _),bU (by omega),gD hk dV,aI1]
  grind [aLX,aF]
 obtain ⟨r,b,c⟩:=a;rw[bAO,aZY ((bDO _ _).trans b),c,a6X (fun w:Vr=>decide (w.n=v.n)) l dV];grind
theorem cvc (a:List Vr) (d:a.length<=20000) (b:∀ v,v∈a->v.n.length<=20000):SS.CC 189 [.sl false 4 (a.map mM)] []=bK (MN a):=by
 rw[b8B];unfold MN;rw[bM,<- xn];congr 1
 refine Ad (L:=fun k=>Zf (a.map mM) (k:Int)) (fun k hk => ?_) ?_
 .have c:(a.take k).length<=20000:=by rw[vK]; omega
  rw[aKW,aP (by rw[bM]; omega),aI,Ht hk,bU (by omega),gD hk dV];rw[aj (Ah _ (b _ (fZ hk))),aP (show (0:Int)<=k by omega),aP (show (k:Int)<=(a.map mM).length by rw[bM]; omega),Pi,qf,<- List.map_take,aGN (b3B _ c _),aj (aSN _),aj (aSN _)];unfold vrE y5;simp only[KQ,st8,DD,st5,D6]
 grind [aKW,aF]
def evE (pre:List oN) (e:oN):Int:=bif !kH e.n then 7 else bif decide (e.n∈pre.map (·.n)) then 8 else bif decide (e.k<0) then 2 else bif decide (4<e.k) then 2 else bif (e.k != 0)&&e.c then 13 else bif (e.k != 0)&&e.o then 13 else 0
def dE:oN:=⟨[],false,false,false,0⟩
def YD (a:List oN):Int:=bif decide ((32:Int)<(a.length:Int)) then 3 else sG (fun k=>evE (a.take k) (a.getD k dE)) a.length
def xB:List Nm->ai
 | [] => []
 | a::l => .str (bs a) :: .bool true::xB l
def a7S (a b:Nm):qY none (.str (bs a)) (.str (bs b))=some (decide (a=b)):=by show some ((bs a).data.toList==(bs b).data.toList)=_;rw[show (bs a).data.toList=a from by simp[bs],show (bs b).data.toList=b from by simp[bs]];by_cases h:a=b<;>simp[h]
theorem aPB (q:Nm):∀ l:List Nm,yB none (xB l) (.str (bs q))=some (if q∈l then some (.bool true) else none)
 | []=>rfl
 | a::l=>by rw[xB,yB,a7S,aPB q l];grind
def aUM (q:Nm):∀ l:List Nm,sZ none (xB l) (.str (bs q))=true
 | []=>rfl
 | a::l=>by rw[xB,sZ,aUM q l]; rfl
theorem aTP (q:Nm):∀ l:List Nm,oG none (xB l) (.str (bs q)) (.bool true)=xB l
 | []=>rfl
 | a::l=>by rw[xB,oG,a7S,aTP q l];grind
theorem aQB (q:Nm):∀ l:List Nm,∃ b,pY (xB l) (.str (bs q)) (.bool true)=xB b/\∀ x,x∈b↔x=q\/x∈l
 | []=>⟨[q],rfl,by simp⟩
 | a::l=>by
  obtain ⟨b,c,d⟩:=aQB q l;rw[xB,pY,c];split
  .exact ⟨q::a::l,rfl,by simp⟩
  .exact ⟨a::b,rfl,fun x=>by grind⟩
def RN (l:List oN):ai:=l.foldl (fun L e=>kT none L (.str (bs e.n)) (.bool true)) []
theorem aPS (q:Nm):∀ l:List Nm,uM none (xB l) (.str (bs q))=decide (q∈l)
 | []=>rfl
 | a::l=>by rw[xB,uM,a7S,aPS q l];grind
def bXI (q:Nm) (l:List Nm):∃ a,kT none (xB l) (.str (bs q)) (.bool true)=xB a/\∀ x,x∈a↔x=q\/x∈l:=by
 unfold kT;rw[aPS];by_cases h:q∈l
 .rw[aP h];exact ⟨l,aTP q l,fun x=>⟨.inr,fun c=>c.elim (fun e=>e▸h) id⟩⟩
 .rw[bG h];exact aQB q l
def aTB (l:List oN):∀ k,k<=l.length->∃ b,RN (l.take k)=xB b/\∀ x,x∈b↔x∈(l.take k).map (·.n)
 | 0,_=>⟨[],rfl,by simp⟩
 | k+1,hk=>by
  obtain ⟨b,c,d⟩:=aTB l k (by omega);have a:k<l.length:=by omega
  obtain ⟨e,f,g⟩:=bXI (l[k]).n b;refine ⟨e,?_,fun x => ?_⟩
  .rw[Oo a];unfold RN at c ⊢;rw[List.foldl_append,c];exact f
  .rw[g,d,Oo a];simp only[yT,LK,wM,List.map_nil,TE];exact or_comm
theorem bTB (l:List oN) (hk:j<l.length):RN (l.take (j+1))=kT none (RN (l.take j)) (.str (bs l[j].n)) (.bool true):=by rw[Oo hk];grind [RN]
theorem dC (a:List oN) (j:a.length<=20000) (c:∀ e,e∈a->e.n.length<=20000):SS.CC 88 [.sl false 5 (a.map zK)] []=bK (YD a):=by
 rw[bJJ];unfold YD;rw[bM,<- xn];congr 1
 refine Ad (L:=fun k=>VN (a.map zK) (k:Int) (RN (a.take k))) (fun k hk => ?_) ?_
 .obtain ⟨b,d,f⟩:=aTB a k (by omega);rw[aNX,aP (by rw[bM]; omega),NR hk,bU (by omega),gD hk dE];rw[aj (Ah _ (c _ (fZ hk)))];rw[bTB a hk,d];rw[aUM];unfold Jj;rw[aPB];have g:decide ((a[k]).n∈(a.take k).map (·.n))=decide ((a[k]).n∈b):=decide_eq_decide.2 (f _).symm;unfold evE;rw[g];simp only[KQ,st8,DD,bZV];by_cases h:(a[k]).n∈b;simp_all
  .rw[aV h,bG h];cases i:(a[k]).k != 0 with
   | false=>rfl
   | true =>rfl
 grind [aNX,aF]
def Pj (x:EX) (n:Int):Int×Int:=match SS.CC 33 [A1 (ev x),af n] [] with
 | some (.tuple [.int _ k,.int _ e],_)=>(k,e)
 | _=>(0,0)
variable {u:EX}
theorem a7L (a:u.Len) (b:0<=i):SS.CC 33 [A1 (ev u),af i] []=some (.tuple [af (Pj u i).1,af (Pj u i).2],[]):=by
 have:∃ k e,SS.CC 33 [A1 (ev u),af i] []=some (.tuple [af k,af e],[]):=by
  by_cases c:i<=16;grind [aIF]
  .rw[aMS,bG (by omega),aP (by omega)];simp
 grind [Pj]
def Fz (x:EX) (n a:Int):Int:=bif (Pj x n).2==0 then (bif (Pj x n).1 != a then 16 else 0) else (Pj x n).2
theorem aYG (a:u.Len) (b:0<=i) (w:Int):SS.CC 229 [A1 (ev u),af i,af w] []=bK (Fz u i w):=by rw[b8C,aG7 (a7L a b)];grind [Fz,xn]
theorem aYH (a:u.Len) (b:0<=i) (w:Int):SS.CC 245 [A1 (ev u),af i,af w] []=bK (Fz u i w):=by rw[bDP,aG7 (a7L a b)];rw[bu (zX _ _)];grind [Fz,aF,aI]
def dU:Int×EX:=(0,zE)
def Xb (b:Int) (a:List (Int×EX)) (k:Nat):Int:=bif decide ((a.getD k dU).1<0) then 2 else bif decide (b<=(a.getD k dU).1) then 2 else bif decide ((0:Int)<(k:Int))&&decide ((a.getD k dU).1<=(a.getD (k-1) dU).1) then 5 else Fz (a.getD k dU).2 b 1
def Q_ (b:Int) (a:List (Int×EX)):Int:=sG (Xb b a) a.length
def WP (a c b:Int) (x:Mv):Int:=bif decide (x.f<0) then 2 else bif decide (a<=x.f) then 2 else bif decide (x.e<0) then 2 else bif decide (c<=x.e) then 2 else bif decide (x.t<0) then 2 else bif decide (a<=x.t) then 2 else sq (Fz x.g b 2) (Q_ b x.us)
variable {Q:R}
theorem aYO (d:c3.length<=20000) (hk:j<c3.length) (b:E=aB (Fz (c3[j]).2 i 1 != 0) (bK (Fz (c3[j]).2 i 1)) Q) :
 aB (decide ((c3[j]).1<0)) (bK 2) (aB (decide (i<=(c3[j]).1)) (bK 2) (aB (decide ((0:Int)<(j:Int))) (ak qm (c3.map zZ) (i64.wrap ((j:Int)-1)) fun u8=>aB (decide ((c3[j]).1<=u8.1)) (bK 5) E) E))=aB (Xb i c3 j != 0) (bK (Xb i c3 j)) Q:=by
 unfold Xb;simp only[gD hk dU,DD,st5];rw[<- b];cases e:decide ((0:Int)<(j:Int)) with
 | false=>rfl
 | true =>
  have f:0<j:=by grind
  have c:(j:Int)-1=((j-1:Nat):Int):=by omega
  have a:j-1<c3.length:=by omega
  rw[wrap64 (by omega) (by omega),c,Jg a,gD a dU];rfl
abbrev jJ (t:Tm):Sh.V S6:=(jC t.al,t.L,t.I,jC t.mr,t.vs.map mM,t.ms.map ut,())
variable {c6:Type}
def bn (f:r->c6) (l:List r):((l.map f).length:Int)=(l.length:Int):=by rw[bM]
theorem bS6 (t:Tm) (x:Mv) (b:x.us.length<=20000) (c:∀ u,u∈x.us->u.2.Len) (k:Int):VP (bs t.n) (aJ t.ls) (aJ t.es) (jJ t) (rJ x) 0 k=aB (Q_ (t.vs.length:Int) x.us != 0) (bK (Q_ (t.vs.length:Int) x.us)) (QR (bs t.n) (aJ t.ls) (aJ t.es) (jJ t) (i64.wrap (k+1))):=by
 refine Df (L:=fun i=>VP (bs t.n) (aJ t.ls) (aJ t.es) (jJ t) (rJ x) (i:Int) k) (fun i a => ?_) ?_
 .rw[aO3,aP (show (i:Int)<((rJ x).2.2.2.2.2.2.2.1.length:Int) by rw[bn]; omega),Jg a,bn];refine aYO b a ?_;rw[bJL,bn,bU (by omega)];exact bu (aYG (c _ (fZ a)) (by omega) 1)
 grind [aO3,aF]
def dM:Mv:=⟨0,0,0,zE,[]⟩
def Hu (b c d:Int) (a:List Mv):Int:=sG (fun k=>WP b c d (a.getD k dM)) a.length
theorem bR' (t:Tm) (h:uC t):QR (bs t.n) (aJ t.ls) (aJ t.es) (jJ t) 0=bK (Hu (t.ls.length:Int) (t.es.length:Int) (t.vs.length:Int) t.ms):=by
 refine Ad (L:=fun i=>QR (bs t.n) (aJ t.ls) (aJ t.es) (jJ t) (i:Int)) (fun i a => ?_) ?_
 .obtain ⟨b,c,d⟩:=h.ms.2 _ (fZ a);rw[aO2,aP (show (i:Int)<((jJ t).2.2.2.2.2.1.length:Int) by rw[bn]; omega),aI,RF a,bn,iR,iR];rw[bu (aYG b (by omega) 2),bS6 t _ c d,bU (by have:=h.ms.1; omega),gD a dM];unfold WP;simp only[DD,xK]
 grind [aO2,aF]
def rvE (v:Vr):Int:=bif v.n==lM then 7 else bif v.n==o9 then 7 else 0
def B_ (a:List Vr):Int:=sG (fun k=>rvE (a.getD k dV)) a.length
def PW (a:List Int):Int:=sG (fun k=>bif a.getD k 0 !=(k:Int) then 6 else 0) a.length
def WQ (n:Int):Int:=if (1:Int)>n then 1 else n
def KW (t:Tm):Int:=sq (Jo t.es) (sq (Jo t.ls) (bif (t.al.length:Int) !=(t.es.length:Int) then 6 else sq (PW t.al) (bif t.L !=(t.ls.length:Int) then 4 else bif decide (t.I<0) then 2 else bif decide (WQ (t.ls.length:Int)<=t.I) then 2 else sq (Pm t.mr (t.ls.length:Int)) (sq (MN t.vs) (sq (B_ t.vs) (Hu (t.ls.length:Int) (t.es.length:Int) (t.vs.length:Int) t.ms))))))
theorem bS3 (t:Tm) (h:uC t):VO (bs t.n) (aJ t.ls) (aJ t.es) (jJ t) 0=aB (B_ t.vs != 0) (bK (B_ t.vs)) (bK (Hu (t.ls.length:Int) (t.es.length:Int) (t.vs.length:Int) t.ms)):=by
 refine Df (L:=fun i=>VO (bs t.n) (aJ t.ls) (aJ t.es) (jJ t) (i:Int)) (fun i a => ?_) ?_
 .rw[aO1,aP (show (i:Int)<((jJ t).2.2.2.2.1.length:Int) by rw[bn]; omega),aI,Ht a,bU (by have:=h.vs.1; omega),gD a dV];rw[DJ,tlT,tlF];unfold rvE;simp only[KQ,D6]
 grind [aO1,aF,bR']
def bRV (t:Tm) (h:uC t):NC (bs t.n) (aJ t.ls) (aJ t.es) (jJ t) 0=bK (sq (PW t.al) (bif t.L !=(t.ls.length:Int) then 4 else bif decide (t.I<0) then 2 else bif decide (WQ (t.ls.length:Int)<=t.I) then 2 else sq (Pm t.mr (t.ls.length:Int)) (sq (MN t.vs) (sq (B_ t.vs) (Hu (t.ls.length:Int) (t.es.length:Int) (t.vs.length:Int) t.ms))))):=by
 have e:NC (bs t.n) (aJ t.ls) (aJ t.es) (jJ t) 0=aB (PW t.al != 0) (bK (PW t.al)) (bK (bif t.L !=(t.ls.length:Int) then 4 else bif decide (t.I<0) then 2 else bif decide (WQ (t.ls.length:Int)<=t.I) then 2 else sq (Pm t.mr (t.ls.length:Int)) (sq (MN t.vs) (sq (B_ t.vs) (Hu (t.ls.length:Int) (t.es.length:Int) (t.vs.length:Int) t.ms))))):=by
  refine Df (L:=fun i=>NC (bs t.n) (aJ t.ls) (aJ t.es) (jJ t) (i:Int)) (fun i a => ?_) ?_
  .rw[aO0,aP (show (i:Int)<((jJ t).1.length:Int) by rw[bn]; omega),aI,NT a,zU,bU (by have:=h.al; omega),gD a 0];simp only[st6,D6]
  .rw[aO0,bG (show ¬ (t.al.length:Int)<((jJ t).1.length:Int) by rw[bn]; omega),iR];rw[bu (csc t.mr h.mr _),bu (cvc t.vs h.vs.1 fun v hv=>(h.vs.2 v hv).1),bS3 t h];rw[<- xn,<- xn,<- xn];rw[<- wU (sq (Pm _ _) _),<- wU (Hu _ _ _ _)];rw[xK,xK,xK];rfl
 rw[e,<- wU (sq _ _),xK,wU]
theorem aSF (t:Tm) (l:List Nm) (b:zq l) (k:Int):VQ (iC t) (aJ l) 0 k=aB (Jo l != 0) (bK (Jo l)) (a1D (iC t) (i64.wrap (k+1))):=by
 refine Df (L:=fun i=>VQ (iC t) (aJ l) (i:Int) k) (fun i a => ?_) ?_
 .have c:(l.take i).length<=20000:=by rw[vK]; omega
  rw[aO4,aP (by rw[iR]; omega),aI,BZ a,kG,aP (show (0:Int)<=i by omega),aP (show (i:Int)<=(aJ l).length by rw[iR]; omega),Pi,qf,L6,bu (Ue _ c _ (b.2 _ (fZ a))),bU (by omega),gD a []]
 grind [aO4,iR,aF]
theorem tmc (t:Tm) (h:uC t):SS.CC 150 [A5 (iC t)] []=bK (KW t):=by rw[bK1,a9K,aP (by decide),aI,nD (by decide) rfl,a5N,aSF t _ h.es];rw[a9K,aP (by decide),aI,nD (by decide) rfl,a5N,aSF t _ h.ls];rw[a9K,bG (by decide),aF];have e:=bRV t h;rw[show NC (iC t).1 (iC t).2.1 (iC t).2.2.1 ((iC t).2.2.2.1,(iC t).2.2.2.2.1,(iC t).2.2.2.2.2.1,(iC t).2.2.2.2.2.2.1,(iC t).2.2.2.2.2.2.2.1,(iC t).2.2.2.2.2.2.2.2.1,()) 0=_ from e];rw[show ((iC t).2.2.1.length:Int)=(t.es.length:Int) by rw[iR],xn];grind [KW,xK,wU]
theorem rD (f:r->Nm) (l:List r) (hk:j<l.length):aJ ((l.take j).map f) ++ ([.str (bs (f l[j]))]:ai)=aJ ((l.take (j+1)).map f):=by rw[Oo hk,yT,<- Fp]; rfl
theorem fV (h:e.length<=20000):decide (e.length+1<=aO)=true:=aP (by show e.length+1<=1073741824; omega)
variable {S:Nat}
theorem DY (h:j<=20000) (c:S<=20000):decide (j+S<=aO)=true:=aP (by show j+S<=1073741824; omega)
def rE (f:r->Nm) (l:List r) (k:Nat) (h:l.length<=20000):(aJ ((l.take k).map f)).length<=20000:=by rw[iR,bM,vK]; omega
def a3O (f:r->Nm) (l:List r) (k:Nat) (h:l.length<=20000):((l.take k).map f).length<=20000:=by rw[bM,vK]; omega
def WX (l:List Nm):Int:=sG (fun k=>bif !kH (l.getD k []) then 7 else 0) l.length
def inE (pre:List Ins) (x:Ins):Int:=sq (yz (pre.map (·.n)) x.n) (WX (x.t::x.es))
def dI:Ins:=⟨[],[],[]⟩
def lu (l:List Ins):Int:=sG (fun k=>inE (l.take k) (l.getD k dI)) l.length
theorem bS0 (P:ai) (n:Int) (a:ai) (l:List Nm) (b:∀ s,s∈l->s.length<=20000) (c:l.length<=40000) (i:Int):VR P n a (aJ l) ((aJ l).length:Int) 0 i=aB (WX l != 0) (bK (WX l)) (QS P n a (i64.wrap (i+1))):=by
 refine Df (L:=fun k=>VR P n a (aJ l) ((aJ l).length:Int) (k:Int) i) (fun k hk => ?_) ?_
 .rw[aO6,aP (by rw[iR]; omega),aI,BZ hk,kG,aj (Ah _ (b _ (fZ hk))),bU (by omega),gD hk []];simp only[KQ,D6]
 grind [aO6,iR,aF]
theorem bRX (l:List Ins) (d:l.length<=40000) (h:∀ x,x∈l->x.n.length<=20000/\x.t.length<=20000/\zq x.es) (a:l.length<=20000):QS (l.map dN) ((l.map dN).length:Int) [] 0=bK (lu l):=by
 refine Ad (L:=fun k=>QS (l.map dN) ((l.map dN).length:Int) (aJ ((l.take k).map (·.n))) (k:Int)) (fun k hk => ?_) ?_
 .obtain ⟨b,e,c⟩:=h _ (fZ hk);rw[aO7,aP (by rw[bn]; omega),aI,AZ hk,bu (Ue _ (a3O _ l k a) _ b),aQ (fV (rE _ l k a))];rw[aQ (DY (by decide) (by rw[iR]; exact c.1)),rD (·.n) l hk];rw[show ([.str (bs (l[k]).t)]:ai) ++ aJ (l[k]).es=aJ ((l[k]).t::(l[k]).es) from rfl];rw[bS0 _ _ _ _ (fun s f=>by grind) (by rw[bT]; omega),bU (by omega),gD hk dI];unfold inE;rw[xK]
 grind [aO7,aF]
theorem JG (l:List Ins) (a:l.length<=20000):SS.CC 75 [.sl false 3 (l.map dN)] []=some (.sl true 3 (l.map dN),[]):=by
 rw[bJF];refine aU6 ?_ fun h => ?_
 .rw[show (false==true)=false from rfl,aF,aQ (by rw[bM]; exact DY (by decide) a)]
 simp_all
theorem bPM (m:Mo) (h:lV m) (a:m.cs.length+m.rs.length<=20000):SS.CC 151 [A0 (aU m)] []=bK (lu (m.cs ++ m.rs)):=by
 have b:(m.cs ++ m.rs).length<=20000:=by rw[aZ]; exact a
 rw[bK8,Ip (JG m.cs h.is.1),aQ (by grind [DY])];rw[<- yT];exact bRX _ (by omega) h.is.2.2 b
def lcE (l:Nm×Nm):Int:=bif !kH l.1 then 7 else bif !kH l.2 then 7 else 0
def dL:Nm×Nm:=([],[])
def Qy (a:List (Nm×Nm)):Int:=sG (fun k=>lcE (a.getD k dL)) a.length
def exE (pre:List uf) (x:uf):Int:=sq (yz (pre.map (·.n)) x.n) (bif (x.ls.length:Int)==0 then 12 else Qy x.ls)
def dX:uf:=⟨[],[]⟩
def Og (l:List uf):Int:=sG (fun k=>exE (l.take k) (l.getD k dX)) l.length
def trE (t:Nm×Int):Int:=bif !kH t.1 then 7 else bif decide (t.2 < -65536) then 2 else bif decide (65536<t.2) then 2 else 0
def dR:Nm×Int:=([],0)
def SN (a:List (Nm×Int)):Int:=sG (fun k=>trE (a.getD k dR)) a.length
def Ef (b:Int):Int:=bif decide (b < -65536) then 2 else bif decide (65536<b) then 2 else 0
def ctE (pre:List Cst) (x:Cst):Int:=sq (yz (pre.map (·.n)) x.n) (bif (x.ts.length:Int)==0 then 12 else sq (SN x.ts) (Ef x.b))
def dK:Cst:=⟨[],[],0⟩
def JZ (l:List Cst):Int:=sG (fun k=>ctE (l.take k) (l.getD k dK)) l.length
theorem bRZ (m:Mo) (b:ai) (a:List (Nm×Nm)) (f:a.length<=20000) (c:∀ l,l∈a->l.1.length<=20000/\l.2.length<=20000) (i:Int):VS (aU m) (a.map zL) b 0 i=aB (Qy a != 0) (bK (Qy a)) (QU (aU m) b (i64.wrap (i+1))):=by
 refine Df (L:=fun k=>VS (aU m) (a.map zL) b (k:Int) i) (fun k hk => ?_) ?_
 .obtain ⟨d,e⟩:=c _ (fZ hk);rw[aOB,aP (by rw[bn]; omega),aI,NU hk,aj (Ah _ d)];rw[aj (Ah _ e),bU (by omega),gD hk dL];unfold lcE;simp only[KQ,D6]
 grind [aOB,aF]
theorem bS4 (P:ai) (x:Cst) (a:ai) (d:x.ts.length<=20000) (c:∀ l,l∈x.ts->l.1.length<=20000) (i:Int):VT P (tY x) 0 a i=aB (sq (SN x.ts) (Ef x.b) != 0) (bK (sq (SN x.ts) (Ef x.b))) (QT P a (i64.wrap (i+1))):=by
 rw[xK];refine Df (L:=fun k=>VT P (tY x) (k:Int) a i) (fun k hk => ?_) ?_
 .rw[aOD,aP (show (k:Int)<((tY x).2.1.length:Int) by rw[bn]; omega),aI,NV hk,aj (Ah _ (c _ (fZ hk))),bU (by omega),gD hk dR];unfold trE;simp only[KQ,DD,D6]
 grind [aOD,bG,aF,Ef]
theorem bRY (l:List Cst) (a:l.length<=20000) (h:∀ x,x∈l->x.n.length<=20000/\x.ts.length<=20000/\∀ t,t∈x.ts->t.1.length<=20000):QT (l.map og) [] 0=bK (JZ l):=by
 refine Ad (L:=fun k=>QT (l.map og) (aJ ((l.take k).map (·.n))) (k:Int)) (fun k hk => ?_) ?_
 .obtain ⟨b,c,d⟩:=h _ (fZ hk);rw[aOC,aP (by rw[bn]; omega),aI,Hq hk,bu (Ue _ (a3O _ l k a) _ b),aQ (fV (rE _ l k a))];grind [rD,bS4,bU,ctE,xK,aXM]
 grind [aOC,aF]
theorem bS7 (m:Mo) (h:lV m):QU (aU m) [] 0=bK (sq (Og m.xs) (JZ m.ks)):=by
 rw[<- wU (sq _ _),xK,wU];refine Df (L:=fun k=>QU (aU m) (aJ ((m.xs.take k).map (·.n))) (k:Int)) (fun k hk => ?_) ?_
 .obtain ⟨a,b,c⟩:=h.xs.2 _ (fZ hk);rw[aOE,aP (show (k:Int)<((aU m).2.2.2.2.2.1.length:Int) by rw[bn]; omega),aI,FK hk,bu (Ue _ (a3O _ _ k h.xs.1) _ a),aQ (fV (rE _ _ k h.xs.1))];rw[rD (·.n) m.xs hk];have e:=bRZ m (aJ ((m.xs.take (k+1)).map (·.n))) (m.xs[k]).ls b c (k:Int);rw[e,bU (by have:=h.xs.1; omega)];grind [exE,xK,aXM]
 .rw[aOE,bG (show ¬ (m.xs.length:Int)<((aU m).2.2.2.2.2.1.length:Int) by rw[bn]; omega)];exact bRY _ h.ks.1 h.ks.2
def cdc (m:Mo) (h:lV m):SS.CC 152 [A0 (aU m)] []=bK (sq (Og m.xs) (JZ m.ks)):=(bKK _).trans (bS7 m h)
def tpE (pre:List Tm) (t:Tm):Int:=sq (yz (pre.map (·.n)) t.n) (KW t)
def dT:Tm:=⟨[],[],[],[],0,0,[],[],[]⟩
def SQ (l:List Tm):Int:=sG (fun k=>tpE (l.take k) (l.getD k dT)) l.length
def Em (m:Mo):Int:=bif !kH m.n then 7 else sq (YD m.es) (bif decide ((16:Int)<(m.ts.length:Int)) then 3 else bif decide ((32:Int)<(m.cs.length:Int)) then 3 else bif decide ((32:Int)<(m.rs.length:Int)) then 3 else bif decide ((32:Int)<(m.xs.length:Int)) then 3 else bif decide ((32:Int)<(m.ks.length:Int)) then 3 else sq (SQ m.ts) (sq (lu (m.cs ++ m.rs)) (sq (Og m.xs) (JZ m.ks))))
theorem bS5 (m:Mo) (h:lV m) (a:m.cs.length+m.rs.length<=20000):Un (aU m) [] 0=bK (sq (SQ m.ts) (sq (lu (m.cs ++ m.rs)) (sq (Og m.xs) (JZ m.ks)))):=by
 rw[<- wU (sq (SQ _) _),xK,wU];refine Df (L:=fun k=>Un (aU m) (aJ ((m.ts.take k).map (·.n))) (k:Int)) (fun k hk => ?_) ?_
 .obtain ⟨b,c⟩:=h.ts.2 _ (fZ hk);rw[aKS,aP (show (k:Int)<((aU m).2.2.1.length:Int) by rw[bn]; omega),aI,Hr hk,bu (Ue _ (a3O _ _ k h.ts.1) _ b),aQ (fV (rE _ _ k h.ts.1)),bu (tmc _ c),bU (by have:=h.ts.1; omega)];grind [rD,tpE,xK]
 .rw[aKS,bG (show ¬ (m.ts.length:Int)<((aU m).2.2.1.length:Int) by rw[bn]; omega),aF,bu (bPM m h a),bu (cdc m h)];rw[<- wU (sq (lu _) _),xK,wU]
theorem bRW (m:Mo) (h:lV m) (a:m.cs.length+m.rs.length<=20000):SS.CC 39 [A0 (aU m)] []=bK (Em m):=by rw[b7T,aj (Ah _ h.n),bu (dC _ h.es.1 h.es.2),bS5 m h a];grind [Em,aB,sq]
def fnP (f:FuncId×ai×Int):PV := .func (.func f.1) [] f.2.1
def XJ:List Int->Int
 | []=>0
 | a::l=>sq a (XJ l)
def aJS (all:List (FuncId×ai×Int)) (a:all.length<=20000) (h:∀ f,f∈all->SS.CC f.1 f.2.1 []=bK f.2.2/\PV.flats f.2.1=true):∀ (l:List (FuncId×ai×Int)) (k:Nat),all.drop k=l->JV (all.map fnP) (k:Int)=bK (XJ (l.map (·.2.2)))
 | [],k,e=>by have:all.length<=k:=Oj.1 e;rw[aP4,bG (by rw[bn]; omega)]; rfl
 | f::l,k,e=>by obtain ⟨k1,k2,k3⟩:=drop_cons e;obtain ⟨b,c⟩:=h f (by rw[<- k2]; exact fZ k1);rw[aP4,aP (by rw[bn]; omega),nD (by omega) (by rw[qf,lN,jq k1,k2]; rfl),bU (by omega),aJS all a h l (k+1) k3];show b_ (true&&true) (b_ (PV.flats f.2.1) (jk SS.CC f.1 f.2.1 _))=_;rw[Pi,aQ c,wX b ?_];rw[zU];show _=bK (sq f.2.2 (XJ (l.map (·.2.2))));rw[<- wU (sq _ _),xK,wU]
def Q5 (all:List (FuncId×ai×Int)) (a:all.length<=20000) (h:∀ f,f∈all->SS.CC f.1 f.2.1 []=bK f.2.2/\PV.flats f.2.1=true):SS.CC 84 [a_ (all.map fnP)] []=bK (XJ (all.map (·.2.2))):=(bMT _).trans (aJS all a h all 0 rfl)
theorem mG {L:Nat->R} {E:R} {n:Nat} (a:∀ k,k<n->L k=L (k+1)) (he:L n=E):L 0=E:=by
 have:∀ (m k:Nat),k+m=n->L k=E:=by
  intro m;induction m with
  | zero=>simp_all
  | succ m b=>grind
 simp_all
def YK (l:List Nm):Bool:=yu (fun k => !kH (l.getD k [])) l.length
theorem aHI (l:List Nm) (d:l.length<=40000) (a:∀ s,s∈l->s.length<=20000):SS.CC 102 [a_ (aJ l)] []=some (.bool (!YK l),[]):=by
 have e:∃ r,Uo (aJ l) ((0:Nat):Int)=some (af r,[])/\decide (0<=r)=YK l:=by
  refine w_ (L:=fun k=>Uo (aJ l) (k:Int)) (fun k hk => ?_) ?_
  .rw[aKU,aP (by rw[iR]; omega),aI,BZ hk,kG,aj ((bB5 _).trans (aj (Ah _ (a _ (fZ hk))))),bU (by omega),gD hk []]
  grind [aKU,iR,aF]
 obtain ⟨r,b,c⟩:=e;rw[bNG,aj ((bJE _).trans (bu ((b82 _).trans b))),c]
def bU1 (l:List Nm):WX l=bif YK l then 7 else 0:=YG
def bRI (l:List Nm) (b:zq l) (hk:j<l.length):SS.CC 94 [a_ (aJ (l.take (j+1)))] []=bK (yz (l.take j) l[j]):=by
 have e:(l.take (j+1)).length=j+1:=by rw[vK]; omega
 have c:i64.wrap (((aJ (l.take (j+1))).length:Int)-1)=(j:Int):=by rw[iR,wrap64 (by omega) (by omega)]; omega
 have a:j<(l.take (j+1)).length:=by omega
 have d:(l.take (j+1))[j]=l[j]:=by rw[List.getElem_take]
 rw[bN4,c,BZ a,d,kG,aj (Ah _ (b.2 _ (fZ hk))),aP (show (0:Int)<=j by omega),aP (show (j:Int)<=(aJ (l.take (j+1))).length by rw[iR]; omega),Pi,L6,List.take_take,Nat.min_eq_left (by omega)];rw[aj (a2C _ (by rw[vK]; omega) _),bu (zX _ _),xn];rfl
def oK (n:Nat):List Int:=(List.range n).map fun i:Nat=>(i:Int)
theorem aUI (n:Nat) (b:n<=20000):SS.CC 171 [af (n:Int)] []=some (a_ (jC (oK n)),[]):=by
 rw[bAH];refine mG (n:=n) (L:=fun k=>Zp (n:Int) (jC (oK k)) (k:Int)) (fun k hk => ?_) ?_
 .have a:(jC (oK k)).length<=20000:=by grind [oK]
  rw[aLJ,aP (by omega),aI,aQ (fV a),bU (by omega)];grind [oK,List.range_succ]
 grind [aLJ,aF]
theorem aDX (n:Nat):(oK n).length=n:=by grind [oK]
def bYB (h:S<j):(oK j)[S]'(by rw[aDX]; exact h)=(S:Int):=by unfold oK; simp
theorem b3Q (a:List Int) (n:Nat) (f:a.length<=20000):SS.CC 46 [a_ (jC a),a_ (jC (oK n))] []=some (.bool (bif (a.length:Int) !=(n:Int) then false else !yu (fun k=>a.getD k 0 !=(k:Int)) a.length),[]):=by
 rw[aKJ,bn,bn,aDX];by_cases h:a.length=n
 .have d:((a.length:Int) !=(n:Int))=false:=by simp[h]
  rw[d,aF];have:∀ (m k:Nat),k+m=a.length->Um (jC a) (jC (oK n)) (k:Int)=some (.bool (!(List.range' k m).any fun k=>a.getD k 0 !=(k:Int)),[]):=by
   intro m;induction m with
   | zero =>grind [ZV,aF]
   | succ m e =>
    intro k hk;have b:k<a.length:=by omega
    have c:k<(oK n).length:=by rw[aDX]; omega
    rw[ZV,aP (by rw[bn]; omega),NT b,zU,NT c,zU,bYB (by omega),bU (by omega),e (k+1) (by omega),aFY,Xo,gD b 0];cases a[k] !=(k:Int)<;>rfl
  exact this a.length 0 (by omega)
 grind [aI]
theorem b1Z (x:Mv) (a:Int) (c:0<=a) (d:x.us.length<=20000) (e:∀ u,u∈x.us->u.2.Len):Uz (rJ x) a 0=bK (Q_ a x.us):=by
 refine Ad (L:=fun i=>Uz (rJ x) a (i:Int)) (fun i b => ?_) ?_
 .rw[aLM,aP (show (i:Int)<((rJ x).2.2.2.2.2.2.2.1.length:Int) by rw[bn]; omega),Jg b];refine aYO d b ?_;rw[bAX,bU (by omega)];exact bu (aYH (e _ (fZ b)) c 1)
 grind [aLM,aF]
theorem bTQ (t:Tm) (x:Mv) (a:x.g.Len) (b:x.us.length<=20000) (c:∀ u,u∈x.us->u.2.Len):SS.CC 196 [A5 (iC t),A9 (rJ x)] []=bK (WP t.L (t.es.length:Int) (t.vs.length:Int) x):=by rw[bB4];rw[iR,bu (aYH a (by omega) 2),b1Z x _ (by omega) b c];grind [WP,xn,sq]
theorem bTR (t:Tm) (h:uC t):SS.CC 193 [.cst (A6 (jJ t)),.cst (A5 (iC t))] []=bK (Hu t.L (t.es.length:Int) (t.vs.length:Int) t.ms):=by
 rw[bAQ];suffices e:SS.CC 194 [.sl false 8 (jJ t).2.2.2.2.2.1,fU 195 [.cst (A5 (iC t)),.cst (A6 (jJ t))]] []=bK (Hu t.L (t.es.length:Int) (t.vs.length:Int) t.ms) from bu e
 refine (bAU _ _ _ _ _ _ _ _ _ _ _ _ _ _ _ _).trans ?_;rw[bn];refine Ad (L:=fun i=>Zq _ _ _ _ _ _ _ _ _ _ _ _ _ _ _ (t.ms.length:Int) (i:Int)) (fun i a => ?_) ?_
 .obtain ⟨b,c,d⟩:=h.ms.2 _ (fZ a);rw[aLK,aP (by omega),bU (by have:=h.ms.1; omega),gD a dM];refine bu ?_;refine (bAW _ _ _).trans ?_;rw[RF a];exact bu (bTQ t _ b c d)
 grind [aLK,aF]
def SC (a:i≠0):sq (bif p then i else 0) D=bif p then i else D:=by
 cases p with
 | false=>rfl
 | true=>exact aV a
def a2G (v:Vr):Bool:=v.n==lM||v.n==o9
theorem bYJ (a:List Vr):B_ a=bif yu (fun k=>a2G (a.getD k dV)) a.length then 7 else 0:=by rw[<- YG];grind [B_,rvE,a2G]
theorem bY6 (a:List Vr) (d:a.length<=20000):SS.CC 191 [.sl false 4 (a.map mM),h_ 192] []=some (.bool (yu (fun k=>a2G (a.getD k dV)) a.length),[]):=by
 have e:∃ r,V8 (a.map mM) ((0:Nat):Int)=some (af r,[])/\decide (0<=r)=yu (fun k=>a2G (a.getD k dV)) a.length:=by
  refine w_ (L:=fun k=>V8 (a.map mM) (k:Int)) (fun k hk => ?_) ?_
  .rw[aLW,aP (by rw[bn]; omega),aI,Ht hk,aj ((bAP _).trans (aj (bY4 _))),bU (by omega),gD hk dV];rfl
  grind [aLW,aF]
 obtain ⟨r,b,c⟩:=e;rw[bAN,bu ((bDK _).trans b),c]
def eqA (a:List Int) (n:Nat):Bool:=bif (a.length:Int) !=(n:Int) then false else !yu (fun k=>a.getD k 0 !=(k:Int)) a.length
def iE (L I:Int):Int:=bif decide (I<0) then 2 else bif decide (WQ L<=I) then 2 else 0
def ZM (t:Tm):List (FuncId×ai×Int) := [(180,[.cst (A5 (iC t))],Jo t.es),(182,[.cst (A5 (iC t))],Jo t.ls),(183,[.cst (A6 (jJ t)),.cst (A5 (iC t))],bif !eqA t.al t.es.length then 6 else 0),(184,[.cst (A6 (jJ t)),.cst (A5 (iC t))],bif t.L !=(t.ls.length:Int) then 4 else 0),(185,[.cst (A6 (jJ t))],iE t.L t.I),(186,[.cst (A6 (jJ t))],Pm t.mr t.L),(188,[.cst (A6 (jJ t))],MN t.vs),(190,[.cst (A6 (jJ t))],B_ t.vs),(193,[.cst (A6 (jJ t)),.cst (A5 (iC t))],Hu t.L (t.es.length:Int) (t.vs.length:Int) t.ms)]
def b53 (t:Tm) (h:uC t):∀ f,f∈ZM t->SS.CC f.1 f.2.1 []=bK f.2.2/\PV.flats f.2.1=true:=by
 intro f a;simp only[ZM,jr,yU,yX] at a;rcases a with rfl|rfl|rfl|rfl|rfl|rfl|rfl|rfl|rfl
 .exact ⟨(bA6 _).trans (bu (nsc _ h.es)),rfl⟩
 .exact ⟨(bAB _).trans (bu (nsc _ h.ls)),rfl⟩
 .refine ⟨(bAC _ _).trans ?_,rfl⟩;rw[iR,wP (aUI _ h.es.1),aj (b3Q t.al _ h.al),bu (zX _ _)];rfl
 .refine ⟨(bAI _ _).trans ?_,rfl⟩;rw[iR,bu (zX _ _)]
 .refine ⟨(bAJ _).trans ?_,rfl⟩;rw[bu (zX _ _),bu (zX _ _)];show aB (decide (t.I<0)) (bK 2) (bK (bif decide (WQ t.L<=t.I) then 2 else 0))=_;rw[xn]; rfl
 .exact ⟨(bAK _).trans (bu (csc _ h.mr _)),rfl⟩
 .exact ⟨(bAL _).trans (bu (cvc _ h.vs.1 fun v hv=>(h.vs.2 v hv).1)),rfl⟩
 .refine ⟨(bAM _).trans ?_,rfl⟩;rw[aj (bY6 t.vs h.vs.1),bu (zX _ _),bYJ]
 .exact ⟨bTR t h,rfl⟩
theorem tmK (t:Tm):XJ ((ZM t).map (·.2.2))=KW t:=by
 show sq _ (sq _ (sq _ (sq _ (sq _ (sq _ (sq _ (sq _ (sq _ 0))))))))=_;rw[SB,SC (by decide),SC (by decide)];unfold KW;congr 2
 have a:∀ X:Int,(bif !eqA t.al t.es.length then 6 else X)=bif (t.al.length:Int) !=(t.es.length:Int) then 6 else sq (PW t.al) X:=by intro X;unfold eqA PW;rw[YG,SC (by decide)];grind
 rw[a];congr 2
 by_cases b:t.L=(t.ls.length:Int)
 .rw[b];have c:((t.ls.length:Int) !=(t.ls.length:Int))=false:=by simp
  rw[c,yV,yV];unfold iE;cases decide (t.I<0) with
  | true=>rfl
  | false =>rw[yV,yV,SC (by decide)]
 grind
def b'U (t:Tm) (h:uC t):SS.CC 96 [A5 (iC t)] []=bK (KW t):=by rw[bN6];have e:=Q5 (ZM t) (by show 9<=20000; decide) (b53 t h);rw[tmK] at e;exact bu e
theorem b2E (l:List Ins) (a:l.length<=20000):SS.CC 76 [.sl false 3 (l.map dN),h_ 77] []=some (a_ (aJ (l.map (·.n))),[]):=by
 rw[bLY];refine mG (n:=l.length) (L:=fun k=>L_ (l.map dN) (aJ ((l.take k).map (·.n))) (k:Int)) (fun k hk => ?_) ?_
 .rw[aOY,aP (by rw[bn]; omega),aI,AZ hk,o6 (bLZ _),aQ (fV (rE _ l k a)),rD (·.n) l hk,bU (by omega)]
 grind [aOY,aF]
theorem b2G (l:List Tm) (a:l.length<=20000):SS.CC 78 [.sl false 9 (l.map xG),h_ 79] []=some (a_ (aJ (l.map (·.n))),[]):=by
 rw[bM6];refine mG (n:=l.length) (L:=fun k=>Vd (l.map xG) (aJ ((l.take k).map (·.n))) (k:Int)) (fun k hk => ?_) ?_
 .rw[aO',aP (by rw[bn]; omega),aI,Hr hk,o6 (bM7 _),aQ (fV (rE _ l k a)),rD (·.n) l hk,bU (by omega)]
 grind [aO',aF]
theorem b2H (l:List uf) (a:l.length<=20000):SS.CC 80 [.sl false 2 (l.map xE),h_ 81] []=some (a_ (aJ (l.map (·.n))),[]):=by
 rw[bMF];refine mG (n:=l.length) (L:=fun k=>P_ (l.map xE) (aJ ((l.take k).map (·.n))) (k:Int)) (fun k hk => ?_) ?_
 .rw[aP1,aP (by rw[bn]; omega),aI,FK hk,o6 (bMG _),aQ (fV (rE _ l k a)),rD (·.n) l hk,bU (by omega)]
 grind [aP1,aF]
theorem b2F (l:List Cst) (a:l.length<=20000):SS.CC 82 [.sl false 3 (l.map og),h_ 83] []=some (a_ (aJ (l.map (·.n))),[]):=by
 rw[bMO];refine mG (n:=l.length) (L:=fun k=>a1Q (l.map og) (aJ ((l.take k).map (·.n))) (k:Int)) (fun k hk => ?_) ?_
 .rw[aP3,aP (by rw[bn]; omega),aI,Hq hk,o6 (bMP _),aQ (fV (rE _ l k a)),rD (·.n) l hk,bU (by omega)]
 grind [aP3,aF]
theorem a3B (f:r->Nm) (l:List r) (b:l.length<=20000) (e:∀ x,x∈l->(f x).length<=20000) (hk:j<l.length) :
 b_ (decide (0<=(i64.wrap ((j:Int)+1)))&&decide ((i64.wrap ((j:Int)+1))<=((aJ (l.map f)).length:Int))) (G1 94 [a_ ((aJ (l.map f)).take (i64.wrap ((j:Int)+1)).toNat)] fun c=>some (af c,[]))=bK (yz ((l.take j).map f) (f l[j])):=by
 have a:j<(l.map f).length:=by rw[bM]; exact hk
 rw[bU (by omega),aP (by omega),aP (by rw[iR]; omega),Pi,qf,L6];rw[bu (bRI (l.map f) ⟨by rw[bM]; exact b,fun s d=>by grind⟩ a),List.getElem_map,List.map_take]
def b'Y (m:Mo) (h:lV m) (hk:j<m.ts.length):SS.CC 92 [af (j:Int),.cst (a_ (aJ (m.ts.map (·.n)))),.cst (A0 (aU m))] []=bK (tpE (m.ts.take j) m.ts[j]):=by
 have b:=h.ts.2 _ (fZ hk);rw[bN2];have e:=Q5 [(93,[.cst (a_ (aJ (m.ts.map (·.n)))),.cst (af (j:Int))],yz ((m.ts.take j).map (·.n)) (m.ts[j]).n),(95,[.cst (A0 (aU m)),.cst (af (j:Int))],KW m.ts[j])] (by simp) (by
  intro f a;simp only[jr,yU,yX] at a;rcases a with rfl|rfl
  .exact ⟨(bN3 _ _).trans (a3B (·.n) m.ts h.ts.1 (fun x c=>(h.ts.2 x c).1) hk),rfl⟩
  .refine ⟨(bN5 _ _).trans ?_,rfl⟩;rw[Hr hk];exact bu (b'U _ b.2))
 refine (bu e).trans ?_;show bK (sq _ (sq _ 0))=_;rw[SB]; rfl
theorem tsc (m:Mo) (h:lV m):SS.CC 90 [.cst (A0 (aU m)),.cst (a_ (aJ (m.ts.map (·.n))))] []=bK (SQ m.ts):=by
 rw[bMY];suffices e:SS.CC 91 [.sl false 9 (aU m).2.2.1,fU 92 [.cst (a_ (aJ (m.ts.map (·.n)))),.cst (A0 (aU m))]] []=bK (SQ m.ts) from bu e
 refine (bN1 _ _ _ _ _ _ _ _ _).trans ?_;rw[bn];refine Ad (L:=fun i=>Y_ _ _ _ _ _ _ _ _ (m.ts.length:Int) (i:Int)) (fun i a => ?_) ?_
 .rw[aP5,aP (by omega),bU (by have:=h.ts.1; omega),gD a dT];exact bu (b'Y m h a)
 grind [aP5,aF]
theorem bPR (l:List Ins) (b:l.length<=20000) (h:∀ x,x∈l->x.n.length<=20000/\x.t.length<=20000/\zq x.es) (hk:j<l.length):SS.CC 99 [af (j:Int),.cst (a_ (aJ (l.map (·.n)))),.cst (.sl false 3 (l.map dN))] []=bK (inE (l.take j) l[j]):=by
 obtain ⟨g,i,c⟩:=h _ (fZ hk);rw[bND];have e:=Q5 [(100,[.cst (a_ (aJ (l.map (·.n)))),.cst (af (j:Int))],yz ((l.take j).map (·.n)) (l[j]).n),(101,[.cst (.sl false 3 (l.map dN)),.cst (af (j:Int))],WX ((l[j]).t::(l[j]).es))] (by simp) (by
  intro f a;simp only[jr,yU,yX] at a;rcases a with rfl|rfl
  .exact ⟨(bNE _ _).trans (a3B (·.n) l b (fun x d=>(h x d).1) hk),rfl⟩
  .refine ⟨(bNF _ _).trans ?_,rfl⟩;rw[AZ hk,AZ hk];rw[aQ (DY (by decide) (by rw[iR]; exact c.1)),show ([.str (bs (l[j]).t)]:ai) ++ aJ (l[j]).es=aJ ((l[j]).t::(l[j]).es) from rfl];rw[aj (aHI _ (by rw[bT]; omega) (fun s m=>by grind)),bu (zX _ _),bU1,Bool.not_not])
 refine (bu e).trans ?_;show bK (sq _ (sq _ 0))=_;rw[SB]; rfl
theorem bPS (l:List Ins) (b:l.length<=20000) (h:∀ x,x∈l->x.n.length<=20000/\x.t.length<=20000/\zq x.es):SS.CC 97 [.cst (.sl false 3 (l.map dN)),.cst (a_ (aJ (l.map (·.n))))] []=bK (lu l):=by
 rw[bN7];suffices e:SS.CC 98 [.sl false 3 (l.map dN),fU 99 [.cst (a_ (aJ (l.map (·.n)))),.cst (.sl false 3 (l.map dN))]] []=bK (lu l) from bu e
 refine (bNC _ _ _).trans ?_;rw[bn];refine Ad (L:=fun i=>Zr _ _ (l.length:Int) (i:Int)) (fun i a => ?_) ?_
 .rw[aP6,aP (by omega),bU (by omega),gD a dI];exact bu (bPR l b h a)
 grind [aP6,aF]
theorem bSA (a:List (Nm×Nm)):Qy a=bif yu (fun k => !kH (a.getD k dL).1 || !kH (a.getD k dL).2) a.length then 7 else 0:=by rw[<- YG];grind [Qy,lcE]
theorem a_Q (l:Nm×Nm) (a:l.1.length<=20000) (b:l.2.length<=20000):SS.CC 110 [LX (vLc l)] []=some (.bool (!kH l.1 || !kH l.2),[]):=by have e:=aHI [l.1,l.2] (by simp) (fun s c=>by grind);rw[bNR];refine (aj e).trans ?_;unfold YK;rw[a6X (fun s => !kH s) [l.1,l.2] []];simp
theorem c0Y (m:Mo) (h:lV m) (hk:j<m.xs.length):SS.CC 105 [af (j:Int),.cst (a_ (aJ (m.xs.map (·.n)))),.cst (A0 (aU m))] []=bK (exE (m.xs.take j) m.xs[j]):=by
 obtain ⟨o,p,c⟩:=h.xs.2 _ (fZ hk);rw[bNM];have e:=Q5 [(106,[.cst (a_ (aJ (m.xs.map (·.n)))),.cst (af (j:Int))],yz ((m.xs.take j).map (·.n)) (m.xs[j]).n),(107,[.cst (A0 (aU m)),.cst (af (j:Int))],bif ((m.xs[j]).ls.length:Int)==0 then 12 else 0),(108,[.cst (A0 (aU m)),.cst (af (j:Int))],Qy (m.xs[j]).ls)] (by simp) (by
  intro f b;simp only[jr,yU,yX] at b;rcases b with rfl|rfl|rfl
  .exact ⟨(bNN _ _).trans (a3B (·.n) m.xs h.xs.1 (fun x d=>(h.xs.2 x d).1) hk),rfl⟩
  .refine ⟨(bNO _ _).trans ?_,rfl⟩;rw[FK hk,bn];exact bu (zX _ _)
  .refine ⟨(bNP _ _).trans ?_,rfl⟩;rw[FK hk];have e:∃ r,V3 ((m.xs[j]).ls.map zL) ((0:Nat):Int)=some (af r,[])/\decide (0<=r)=yu (fun i => !kH ((m.xs[j]).ls.getD i dL).1 || !kH ((m.xs[j]).ls.getD i dL).2) (m.xs[j]).ls.length:=by
    refine w_ (L:=fun i=>V3 ((m.xs[j]).ls.map zL) (i:Int)) (fun i a => ?_) ?_
    .obtain ⟨a1,a2⟩:=c _ (fZ a);rw[aLN,aP (by rw[bn]; omega),aI,NU a,aj (a_Q _ a1 a2),bU (by omega),gD a dL]
    grind [aLN,aF]
   obtain ⟨r,g,l⟩:=e;rw[aj ((bNQ _).trans (bu ((bB9 _).trans g))),l,bu (zX _ _),bSA])
 refine (bu e).trans ?_;show bK (sq _ (sq _ (sq _ 0)))=_;rw[SB,SC (by decide)]; rfl
theorem xsc (m:Mo) (h:lV m):SS.CC 103 [.cst (A0 (aU m)),.cst (a_ (aJ (m.xs.map (·.n))))] []=bK (Og m.xs):=by
 rw[bNH];suffices e:SS.CC 104 [.sl false 2 (aU m).2.2.2.2.2.1,fU 105 [.cst (a_ (aJ (m.xs.map (·.n)))),.cst (A0 (aU m))]] []=bK (Og m.xs) from bu e
 refine (bNL _ _ _ _ _ _ _ _ _).trans ?_;rw[bn];refine Ad (L:=fun i=>Sr _ _ _ _ _ _ _ _ (m.xs.length:Int) (i:Int)) (fun i a => ?_) ?_
 .rw[aP7,aP (by omega),bU (by have:=h.xs.1; omega),gD a dX];exact bu (c0Y m h a)
 grind [aP7,aF]
theorem ctc (x:Cst) (d:x.ts.length<=20000) (a:∀ l,l∈x.ts->l.1.length<=20000):SS.CC 116 [xW (tY x)] []=bK (bif (x.ts.length:Int)==0 then 12 else sq (SN x.ts) (Ef x.b)):=by
 rw[bO2,bn];have c:(bif decide (x.b < -65536)||decide (65536<x.b) then (2:Int) else 0)=Ef x.b:=by grind [Ef]
 have e:VW (tY x) 0=bK (sq (SN x.ts) (Ef x.b)):=by
  rw[<- wU (sq _ _),xK,wU];refine Df (L:=fun k=>VW (tY x) (k:Int)) (fun k hk => ?_) ?_
  .rw[aP9,aP (show (k:Int)<((tY x).2.1.length:Int) by rw[bn]; omega),NV hk,aj (Ah _ (a _ (fZ hk))),aj (aUV _),bU (by omega),gD hk dR];unfold trE;simp only[KQ,DD];cases decide ((x.ts[k]).2 < -65536)<;>rfl
  .rw[aP9,bG (show ¬ (x.ts.length:Int)<((tY x).2.1.length:Int) by rw[bn]; omega),aF,aj (aUV _),bu (zX _ _),c]
 rw[e,xn]
def bRE (m:Mo) (h:lV m) (hk:j<m.ks.length):SS.CC 113 [af (j:Int),.cst (a_ (aJ (m.ks.map (·.n)))),.cst (A0 (aU m))] []=bK (ctE (m.ks.take j) m.ks[j]):=by
 obtain ⟨i,c,d⟩:=h.ks.2 _ (fZ hk);rw[bNX];have e:=Q5 [(114,[.cst (a_ (aJ (m.ks.map (·.n)))),.cst (af (j:Int))],yz ((m.ks.take j).map (·.n)) (m.ks[j]).n),(115,[.cst (A0 (aU m)),.cst (af (j:Int))],bif ((m.ks[j]).ts.length:Int)==0 then 12 else sq (SN (m.ks[j]).ts) (Ef (m.ks[j]).b))] (by simp) (by
  intro f a;simp only[jr,yU,yX] at a;rcases a with rfl|rfl
  .exact ⟨(bNY _ _).trans (a3B (·.n) m.ks h.ks.1 (fun x g=>(h.ks.2 x g).1) hk),rfl⟩
  .refine ⟨(bNZ _ _).trans ?_,rfl⟩;rw[Hq hk];exact bu (ctc _ c d))
 refine (bu e).trans ?_;show bK (sq _ (sq _ 0))=_;rw[SB]; rfl
theorem ksc (m:Mo) (h:lV m):SS.CC 111 [.cst (A0 (aU m)),.cst (a_ (aJ (m.ks.map (·.n))))] []=bK (JZ m.ks):=by
 rw[bNS];suffices e:SS.CC 112 [.sl false 3 (aU m).2.2.2.2.2.2.1,fU 113 [.cst (a_ (aJ (m.ks.map (·.n)))),.cst (A0 (aU m))]] []=bK (JZ m.ks) from bu e
 refine (bNW _ _ _ _ _ _ _ _ _).trans ?_;rw[bn];refine Ad (L:=fun i=>a1V _ _ _ _ _ _ _ _ (m.ks.length:Int) (i:Int)) (fun i a => ?_) ?_
 .rw[aP8,aP (by omega),bU (by have:=h.ks.1; omega),gD a dK];exact bu (bRE m h a)
 grind [aP8,aF]
def WJ (m:Mo):Int:=bif decide ((16:Int)<(m.ts.length:Int)) then 3 else bif decide ((32:Int)<(m.cs.length:Int)) then 3 else bif decide ((32:Int)<(m.rs.length:Int)) then 3 else bif decide ((32:Int)<(m.xs.length:Int)) then 3 else bif decide ((32:Int)<(m.ks.length:Int)) then 3 else 0
theorem lic (m:Mo):SS.CC 89 [.cst (A0 (aU m))] []=bK (WJ m):=by rw[bMX,bu (zX _ _),bu (zX _ _)];grind [xn,WJ]
def bZU (m:Mo) (x:Int):sq (WJ m) x=bif decide ((16:Int)<(m.ts.length:Int)) then 3 else bif decide ((32:Int)<(m.cs.length:Int)) then 3 else bif decide ((32:Int)<(m.rs.length:Int)) then 3 else bif decide ((32:Int)<(m.xs.length:Int)) then 3 else bif decide ((32:Int)<(m.ks.length:Int)) then 3 else x:=by unfold WJ;cases decide ((16:Int)<(m.ts.length:Int))<;>cases decide ((32:Int)<(m.cs.length:Int))<;>cases decide ((32:Int)<(m.rs.length:Int))<;>cases decide ((32:Int)<(m.xs.length:Int))<;>cases decide ((32:Int)<(m.ks.length:Int))<;>rfl
theorem aIG (m:Mo) (h:lV m) (c:m.cs.length+m.rs.length<=20000):SS.CC 22 [A0 (aU m)] []=bK (Em m):=by
 have a:(m.cs ++ m.rs).length<=20000:=by rw[aZ]; exact c
 rw[bAV,Ip (JG m.cs h.is.1),aQ (by grind [DY])];rw[<- yT,wP (b2E _ a),wP (b2G _ h.ts.1),wP (b2H _ h.xs.1),wP (b2F _ h.ks.1)];have e:=Q5 [(85,[.cst (A0 (aU m))],bif !kH m.n then 7 else 0),(87,[.cst (A0 (aU m))],YD m.es),(89,[.cst (A0 (aU m))],WJ m),(90,[.cst (A0 (aU m)),.cst (a_ (aJ (m.ts.map (·.n))))],SQ m.ts),(97,[.cst (.sl false 3 ((m.cs ++ m.rs).map dN)),.cst (a_ (aJ ((m.cs ++ m.rs).map (·.n))))],lu (m.cs ++ m.rs)),(103,[.cst (A0 (aU m)),.cst (a_ (aJ (m.xs.map (·.n))))],Og m.xs),(111,[.cst (A0 (aU m)),.cst (a_ (aJ (m.ks.map (·.n))))],JZ m.ks)] (by simp) (by
  intro f b;simp only[jr,yU,yX] at b;rcases b with rfl|rfl|rfl|rfl|rfl|rfl|rfl
  .refine ⟨(bMU _).trans ?_,rfl⟩;rw[aj (Ah _ h.n),bu (zX _ _)]
  .exact ⟨(bMW _).trans (bu (dC _ h.es.1 h.es.2)),rfl⟩
  .exact ⟨lic m,rfl⟩
  .exact ⟨tsc m h,rfl⟩
  .exact ⟨bPS _ a h.is.2.2,rfl⟩
  .exact ⟨xsc m h,rfl⟩
  .exact ⟨ksc m h,rfl⟩)
 refine (bu e).trans ?_;show bK (sq _ (sq _ (sq _ (sq _ (sq _ (sq _ (sq _ 0)))))))=_;rw[SB,SC (by decide),bZU];rfl
section
def Ut:KT:=SS.rK Tryz.f61 61 0 []
def b8':KT:=SS.jK 61 200 0 (cS Tryz.f61 15) Ut
def aL5:KT:=aW 0 b8'
def b9I:KT:=SS.lK 61 200 0 [1,3,25,26,27] 0 (cS Tryz.f61 75) aL5
def b9J:KT:=SS.jK 61 200 0 (cS Tryz.f61 971) b9I
def b9K:KT:=aW 1 b9J
def b9L:KT:=SS.jK 61 200 0 (cS Tryz.f61 15563) b9K
def b9M:KT:=aW 2 b9L
def b9N:KT:=SS.jK 61 200 0 (cS Tryz.f61 31) Ut
def b9O:KT:=aW 4 b9N
def b90:KT:=SS.jK 61 200 0 (cS Tryz.f61 63) Ut
def aL3:KT:=aW 6 b90
def b91:KT:=SS.lK 61 200 0 [1,3,88,89,90] 0 (cS Tryz.f61 303) aL3
def b92:KT:=SS.jK 61 200 0 (cS Tryz.f61 3887) b91
def b94:KT:=aW 7 b92
def b95:KT:=SS.jK 61 200 0 (cS Tryz.f61 127) Ut
def aL4:KT:=aW 8 b95
def b96:KT:=SS.lK 61 200 0 [1,3,116,117,118] 0 (cS Tryz.f61 607) aL4
def b97:KT:=SS.jK 61 200 0 (cS Tryz.f61 7775) b96
def b98:KT:=aW 9 b97
def b9A:KT:=SS.jK 61 200 0 (cS Tryz.f61 124511) b98
def b9B:KT:=aW 10 b9A
def b9C:KT:=SS.jK 61 200 0 (cS Tryz.f61 255) Ut
def aL6:KT:=aW 12 b9C
def b9D:KT:=SS.lK 61 200 0 [3,153,154,155] 0 (cS Tryz.f61 1215) aL6
def b9E:KT:=SS.jK 61 200 0 (cS Tryz.f61 15551) b9D
def b9F:KT:=aW 13 b9E
def b9G:KT:=SS.jK 61 200 0 (cS Tryz.f61 249023) b9F
def b9H:KT:=aW 14 b9G
def N9 (a:Sh.V S0) (c:ai) (b:Int):R:=SS.LL (SS.ae 61 200) 0 [1,3,25,26,27] 0 (cS Tryz.f61 75) aL5 ⟨[(1,.cst (A0 a)),(3,.sl true 1 c),(25,.sl false 5 a.2.1),(26,af (a.2.1.length:Int)),(27,af b)],[]⟩
def BO (b:Sh.V S0) (a:Sh.V S4) (d:ai) (e c:Int):R:=SS.LL (SS.ae 61 200) 0 [1,3,5,25,26,27,42,43,44] 1 (cS Tryz.f61 77003) b9M ⟨[(1,.cst (A0 b)),(3,.sl true 1 d),(5,ag),(25,.sl false 5 b.2.1),(26,af (b.2.1.length:Int)),(27,af c),(42,.sl true 1 [.bool a.2.1,.bool a.2.2.1,.bool a.2.2.2.1]),(43,af 3),(44,af e)],[O4 a]⟩
def N8 (a:Sh.V S0) (b:ai) (c:Int):R:=SS.LL (SS.ae 61 200) 0 [1,3,72,73,74] 0 (cS Tryz.f61 151) b9O ⟨[(1,.cst (A0 a)),(3,.sl true 1 b),(72,.sl false 9 a.2.2.1),(73,af (a.2.2.1.length:Int)),(74,af c)],[]⟩
def JO (d:Sh.V S0) (a:ai) (b:Int) (e:ai) (c:Int):R:=SS.LL (SS.ae 61 200) 0 [1,3,88,89,90] 0 (cS Tryz.f61 303) aL3 ⟨[(1,.cst (A0 d)),(3,.sl true 1 e),(88,.sl true 3 a),(89,af b),(90,af c)],[]⟩
def Zm (e:Sh.V S0) (a:ai) (b:Int) (f:Sh.V S8) (c:fQ) (g:ai) (d:Int):R:=bC (SS.xX 61 200 0) (cS Tryz.f61 62255) b94 ⟨[(1,.cst (A0 e)),(3,.sl true 1 g),(11,ag),(12,.str c),(88,.sl true 3 a),(89,af b),(90,af d)],[O8 f]⟩
def JP (a:Sh.V S0) (b:ai) (c:Int):R:=SS.LL (SS.ae 61 200) 0 [1,3,116,117,118] 0 (cS Tryz.f61 607) aL4 ⟨[(1,.cst (A0 a)),(3,.sl true 1 b),(116,.sl false 2 a.2.2.2.2.2.1),(117,af (a.2.2.2.2.2.1.length:Int)),(118,af c)],[]⟩
def QC (a:Sh.V S0) (b c:ai) (d e:Int):R:=SS.LL (SS.ae 61 200) 0 [1,3,116,117,118,128,129,130] 0 (cS Tryz.f61 616031) b9B ⟨[(1,.cst (A0 a)),(3,.sl true 1 c),(116,.sl false 2 a.2.2.2.2.2.1),(117,af (a.2.2.2.2.2.1.length:Int)),(118,af e),(128,.sl false 2 b),(129,af (b.length:Int)),(130,af d)],[]⟩
def JQ (a b:ai) (c:Int):R:=SS.LL (SS.ae 61 200) 0 [3,153,154,155] 0 (cS Tryz.f61 1215) aL6 ⟨[(3,.sl true 1 b),(153,.sl false 3 a),(154,af (a.length:Int)),(155,af c)],[]⟩
def QD (a:ai) (c:Sh.V jV) (d:ai) (b e:Int):R:=SS.LL (SS.ae 61 200) 0 [3,18,153,154,155,165,166,167] 1 (cS Tryz.f61 1232063) b9H ⟨[(3,.sl true 1 d),(18,ag),(153,.sl false 3 a),(154,af (a.length:Int)),(155,af e),(165,.sl false 2 c.2.1),(166,af (c.2.1.length:Int)),(167,af b)],[wQ c]⟩
def aLD (b:Sh.V S0) (c:ai) (a:Int):N9 b c a=aB (decide (a<(b.2.1.length:Int))) (ak S4 b.2.1 a fun d=>b_ (decide (c.length+2<=aO)) (BO b d (c ++ ([c5V [101,118,101,110,116],.str d.1]:ai)) 0 a)) (N8 b c 0):=ll
def Zn (e:Sh.V S0) (c:Sh.V S4) (b:ai) (d a:Int):BO e c b d a=aB (decide (d<3)) (di [.bool c.2.1,.bool c.2.2.1,.bool c.2.2.2.1] d fun g=>vB g fun h=>aB h (di [c5V [99,111,110,116,114,111,108,108,97,98,108,101],c5V [111,98,115,101,114,118,97,98,108,101],c5V [102,111,114,99,105,98,108,101]] d fun i=>vS i fun j=>b_ (decide (b.length+1<=aO)) (BO e c (b ++ ([.str j]:ai)) (i64.wrap (d+1)) a)) (BO e c b (i64.wrap (d+1)) a)) (aB (decide (0<c.2.2.2.2.1)) (G2 156 [af c.2.2.2.2.1] fun f=>b_ (decide (b.length+2<=aO)) (b_ (decide ((b ++ ([c5V [102,97,117,108,116],.str f]:ai)).length+1<=aO)) (N9 e ((b ++ ([c5V [102,97,117,108,116],.str f]:ai)) ++ ([c5V [59]]:ai)) (i64.wrap (a+1))))) (b_ (decide (b.length+1<=aO)) (N9 e (b ++ ([c5V [59]]:ai)) (i64.wrap (a+1))))):=ll
def aL7 (a:Sh.V S0) (c:ai) (d:Int):N8 a c d=aB (decide (d<(a.2.2.1.length:Int))) (ak S5 a.2.2.1 d fun f=>G4 157 [A5 f] fun e=>b_ (decide (c.length+e.length<=aO)) (N8 a (c ++ e) (i64.wrap (d+1)))) (GL 75 [.sl false 3 a.2.2.2.1] fun b=>b_ (decide (b.length+a.2.2.2.2.1.length<=aO)) (JO a (b ++ a.2.2.2.2.1) ((b ++ a.2.2.2.2.1).length:Int) c 0)):=ll
def aL8 (d:Sh.V S0) (b:ai) (c:Int) (e:ai) (a:Int):JO d b c e a=aB (decide (a<c)) (ak S8 b a fun f=>aB (decide ((d.2.2.2.1.length:Int)<=a)) (Zm d b c f ⟨#[114,101,113,117,105,114,101,109,101,110,116]⟩ e a) (Zm d b c f ⟨#[99,111,109,112,111,110,101,110,116]⟩ e a)) (JP d e 0):=ll
def b8Z (h:Sh.V S0) (c:ai) (d:Int) (b:Sh.V S8) (a:fQ) (e:ai) (f:Int):Zm h c d b a e f=b_ (decide (e.length+5<=aO)) (G4 158 [a_ b.2.2.1] fun g=>b_ (decide ((e ++ ([.str a,.str b.1,c5V [61],.str b.2.1,c5V [40]]:ai)).length+g.length<=aO)) (b_ (decide (((e ++ ([.str a,.str b.1,c5V [61],.str b.2.1,c5V [40]]:ai)) ++ g).length+2<=aO)) (JO h c d (((e ++ ([.str a,.str b.1,c5V [61],.str b.2.1,c5V [40]]:ai)) ++ g) ++ ([c5V [41],c5V [59]]:ai)) (i64.wrap (f+1))))):=by kernel_rfl
def aL9 (a:Sh.V S0) (b:ai) (c:Int):JP a b c=aB (decide (c<(a.2.2.2.2.2.1.length:Int))) (ak kP a.2.2.2.2.2.1 c fun d=>b_ (decide (b.length+2<=aO)) (QC a d.2.1 (b ++ ([c5V [101,120,99,108,117,100,101],.str d.1]:ai)) 0 c)) (JQ a.2.2.2.2.2.2.1 b 0):=ll
def aLA (d:Sh.V S0) (c b:ai) (a e:Int):QC d c b a e=aB (decide (a<(c.length:Int))) (ak zt c a fun f=>di [c5V [58],c5V [44]] (if (1:Int)<a then (1:Int) else a) fun g=>vS g fun h=>b_ (decide (b.length+3<=aO)) (QC d c (b ++ ([.str h,.str f.1,.str f.2.1]:ai)) (i64.wrap (a+1)) e)) (b_ (decide (b.length+1<=aO)) (JP d (b ++ ([c5V [59]]:ai)) (i64.wrap (e+1)))):=ll
def aLB (a b:ai) (c:Int):JQ a b c=aB (decide (c<(a.length:Int))) (ak jV a c fun d=>b_ (decide (b.length+2<=aO)) (QD a d (b ++ ([c5V [108,105,109,105,116],.str d.1]:ai)) 0 c)) (some (a_ b,[])):=ll
def aLC (b:ai) (d:Sh.V jV) (c:ai) (a e:Int):QD b d c a e=aB (decide (a<(d.2.1.length:Int))) (ak BG d.2.1 a fun i=>di [c5V [58],c5V [43]] (if (1:Int)<a then (1:Int) else a) fun j=>vS j fun f=>b_ (decide (c.length+1<=aO)) (G7 159 [af i.2.1] fun g=>b_ (decide ((c ++ ([.str f]:ai)).length+g.length<=aO)) (b_ (decide (((c ++ ([.str f]:ai)) ++ g).length+2<=aO)) (QD b d (((c ++ ([.str f]:ai)) ++ g) ++ ([c5V [42],.str i.1]:ai)) (i64.wrap (a+1)) e)))) (b_ (decide (c.length+1<=aO)) (G7 159 [af d.2.2.1] fun h=>b_ (decide ((c ++ ([c5V [60,61]]:ai)).length+h.length<=aO)) (b_ (decide (((c ++ ([c5V [60,61]]:ai)) ++ h).length+1<=aO)) (JQ b (((c ++ ([c5V [60,61]]:ai)) ++ h) ++ ([c5V [59]]:ai)) (i64.wrap (e+1)))))):=ll
def b9P (a0:Sh.V S0):SS.CC 61 [A0 a0] []=N9 a0 [c5V [109,111,100,101,108],.str a0.1,c5V [59]] 0:=cc
def bAD (a0:Sh.V S0):SS.CC 7 [A0 a0] []=G1 22 [A0 a0] fun b=>aB (b != 0) (some (.tuple [c5V [],af b],[])) (aY 24 [ag,A0 a0] [aG ([],())] fun _ c=>G0 25 [.sl false 5 c.1] fun a=>aB (a.2.1.1 != 0) (some (.tuple [c5V [],af a.2.1.1],[])) (aB (decide (65536<(a.1.1.size:Int))) (some (.tuple [c5V [],af 15],[])) (some (.tuple [.str a.1.1,af 0],[])))):=cc
def bB' (a0:Sh.V S0):SS.CC 14 [A0 a0] []=G4 61 [A0 a0] fun b=>G2 60 [a_ b,c5V [32]] fun c=>Xw 59 [.str c] fun d=>G0 25 [.sl false 5 d.1.1] fun a=>some (.str a.1.1,[]):=cc
def bKL (a1:fQ) (a:f_):SS.CC 128 [ag,.str a1] [qI (a,())]=H51 204 [ag] [qI (a,())] fun _ b=>b_ (decide (b.1.length+a1.size<=aO)) (some (.tuple [af (a1.size:Int),.raw .nilIface],[qI ((b.1 ++ a1.data.toList),())])):=cc
def a9L:KT:=SS.rK Tryz.f157 157 0 []
def bKO:KT:=SS.jK 157 170 0 (cS Tryz.f157 15) a9L
def aOG:KT:=aW 0 bKO
def bKT:KT:=SS.lK 157 170 0 [1,3,23,24,25] 0 (cS Tryz.f157 75) aOG
def bKU:KT:=SS.jK 157 170 0 (cS Tryz.f157 971) bKT
def bKV:KT:=aW 1 bKU
def bKW:KT:=SS.jK 157 170 0 (cS Tryz.f157 63) a9L
def bKX:KT:=aW 2 bKW
def bKY:KT:=SS.jK 157 170 0 (cS Tryz.f157 127) a9L
def aOH:KT:=aW 4 bKY
def bKP:KT:=SS.lK 157 170 0 [1,3,6,95,96,97] 0 (cS Tryz.f157 607) aOH
def bKQ:KT:=SS.jK 157 170 0 (cS Tryz.f157 7775) bKP
def aOF:KT:=aW 5 bKQ
def bKR:KT:=SS.jK 157 170 0 (cS Tryz.f157 255583) aOF
def bKS:KT:=aW 6 bKR
def JU (a:Sh.V S5) (c:ai) (b:Int):R:=SS.LL (SS.ae 157 170) 0 [1,3,23,24,25] 0 (cS Tryz.f157 75) aOG ⟨[(1,.cst (A5 a)),(3,.sl true 1 c),(23,a_ a.2.1),(24,af (a.2.1.length:Int)),(25,af b)],[]⟩
def Ve (a:Sh.V S5) (c:ai) (d b:Int):R:=bC (SS.xX 157 170 0) (cS Tryz.f157 15563) bKV ⟨[(1,.cst (A5 a)),(3,.sl true 1 c),(4,af d),(23,a_ a.2.1),(24,af (a.2.1.length:Int)),(25,af b)],[]⟩
def ND (a:Sh.V S5) (b c:ai) (d:Int):R:=SS.LL (SS.ae 157 170) 0 [1,3,6,56,57,58] 0 (cS Tryz.f157 303) bKX ⟨[(1,.cst (A5 a)),(3,.sl true 1 b),(6,.sl true 1 c),(56,.sl false 4 a.2.2.2.2.2.2.2.1),(57,af (a.2.2.2.2.2.2.2.1.length:Int)),(58,af d)],[]⟩
def H6 (a:Sh.V S5) (b:ai) (c:Int) (d:ai):R:=SS.LL (SS.ae 157 170) 0 [1,3,6,95,96,97] 0 (cS Tryz.f157 607) aOH ⟨[(1,.cst (A5 a)),(3,.sl true 1 b),(6,.sl true 1 d),(95,.sl false 8 a.2.2.2.2.2.2.2.2.1),(96,af (a.2.2.2.2.2.2.2.2.1.length:Int)),(97,af c)],[]⟩
def a1E (a:Sh.V S5) (b:Sh.V S9) (c d:ai) (e:Int):R:=bC (SS.xX 157 170 0) (cS Tryz.f157 124511) aOF ⟨[(1,.cst (A5 a)),(3,.sl true 1 c),(6,.sl true 1 d),(10,ag),(95,.sl false 8 a.2.2.2.2.2.2.2.2.1),(96,af (a.2.2.2.2.2.2.2.2.1.length:Int)),(97,af e)],[O9 b]⟩
def QV (a:Sh.V S5) (c b:ai) (d:Int) (e:ai) (f:Int):R:=SS.LL (SS.ae 157 170) 0 [1,3,6,95,96,97,136,137,138] 0 (cS Tryz.f157 1238623) bKS ⟨[(1,.cst (A5 a)),(3,.sl true 1 c),(6,.sl true 1 e),(95,.sl false 8 a.2.2.2.2.2.2.2.2.1),(96,af (a.2.2.2.2.2.2.2.2.1.length:Int)),(97,af f),(136,.sl false 5 b),(137,af (b.length:Int)),(138,af d)],[]⟩
def aOL (b:Sh.V S5) (c:ai) (a:Int):JU b c a=aB (decide (a<(b.2.1.length:Int))) (di b.2.1 a fun e=>vS e fun d=>b_ (decide (c.length+2<=aO)) (aB (a==b.2.2.2.2.2.1) (b_ (decide ((c ++ ([c5V [108,111,99,97,116,105,111,110],.str d]:ai)).length+1<=aO)) (Ve b ((c ++ ([c5V [108,111,99,97,116,105,111,110],.str d]:ai)) ++ ([c5V [105,110,105,116,105,97,108]]:ai)) a a)) (Ve b (c ++ ([c5V [108,111,99,97,116,105,111,110],.str d]:ai)) a a))) (ND b c [] 0):=ll
def bKN (c:Sh.V S5) (b:ai) (d a:Int):Ve c b d a=G3 201 [a_ c.2.2.2.2.2.2.1,af d] fun e=>aB e (b_ (decide (b.length+1<=aO)) (b_ (decide ((b ++ ([c5V [109,97,114,107,101,100]]:ai)).length+1<=aO)) (JU c ((b ++ ([c5V [109,97,114,107,101,100]]:ai)) ++ ([c5V [59]]:ai)) (i64.wrap (a+1))))) (b_ (decide (b.length+1<=aO)) (JU c (b ++ ([c5V [59]]:ai)) (i64.wrap (a+1)))):=by kernel_rfl
def aOI (c:Sh.V S5) (b e:ai) (f:Int):ND c b e f=aB (decide (f<(c.2.2.2.2.2.2.2.1.length:Int))) (ak S7 c.2.2.2.2.2.2.2.1 f fun a=>b_ (decide (e.length+1<=aO)) (b_ (decide (b.length+3<=aO)) (G7 159 [af a.2.1] fun g=>b_ (decide ((b ++ ([c5V [118,97,114],.str a.1,c5V [58]]:ai)).length+g.length<=aO)) (b_ (decide (((b ++ ([c5V [118,97,114],.str a.1,c5V [58]]:ai)) ++ g).length+1<=aO)) (G7 159 [af a.2.2.1] fun d=>(fun w=>b_ (decide (w.length+d.length<=aO)) (b_ (decide ((w ++ d).length+1<=aO)) (G7 159 [af a.2.2.2.1] fun l10=>b_ (decide (((w ++ d) ++ ([c5V [61]]:ai)).length+l10.length<=aO)) (b_ (decide ((((w ++ d) ++ ([c5V [61]]:ai)) ++ l10).length+1<=aO)) (ND c ((((w ++ d) ++ ([c5V [61]]:ai)) ++ l10) ++ ([c5V [59]]:ai)) (e ++ ([.str a.1]:ai)) (i64.wrap (f+1))))))) (((b ++ ([c5V [118,97,114],.str a.1,c5V [58]]:ai)) ++ g) ++ ([c5V [46,46]]:ai))))))) (H6 c b 0 e):=ll
def aOJ (b:Sh.V S5) (c:ai) (d:Int) (f:ai):H6 b c d f=aB (decide (d<(b.2.2.2.2.2.2.2.2.1.length:Int))) (ak S9 b.2.2.2.2.2.2.2.2.1 d fun a=>di b.2.1 a.1 fun g=>vS g fun yj=>di b.2.2.1 a.2.1 fun h=>vS h fun i=>di b.2.1 a.2.2.1 fun j=>vS j fun l=>b_ (decide (c.length+4<=aO)) (qH 137 [] fun u16=>G3 41 [A1 (a.2.2.2.1,a.2.2.2.2.1,a.2.2.2.2.2.1,a.2.2.2.2.2.2.1,()),A1 u16] fun m=>(fun w=>aB (!m) (b_ (decide (w.length+1<=aO)) (G7 237 [a_ f,A1 (a.2.2.2.1,a.2.2.2.2.1,a.2.2.2.2.2.1,a.2.2.2.2.2.2.1,()),af 0] fun e=>b_ (decide ((w ++ ([c5V [119,104,101,110]]:ai)).length+e.length<=aO)) (a1E b a ((w ++ ([c5V [119,104,101,110]]:ai)) ++ e) f d))) (a1E b a w f d)) (c ++ ([c5V [101,100,103,101],.str yj,.str i,.str l]:ai)))) (b_ (decide (c.length+1<=aO)) (some (a_ (c ++ ([c5V [125]]:ai)),[]))):=ll
def bKM (a:Sh.V S5) (b:Sh.V S9) (c d:ai) (e:Int):a1E a b c d e=QV a c b.2.2.2.2.2.2.2.1 0 d e:=by kernel_rfl
def aOK (f:Sh.V S5) (a e:ai) (b:Int) (c:ai) (g:Int):QV f a e b c g=aB (decide (b<(e.length:Int))) (ak qm e b fun d=>di [c5V [100,111],c5V [44]] (if (1:Int)<b then (1:Int) else b) fun j=>vS j fun h=>di c d.1 fun l=>vS l fun G_=>b_ (decide (a.length+3<=aO)) (G7 237 [a_ c,A1 (d.2.1,d.2.2.1,d.2.2.2.1,d.2.2.2.2.1,()),af 0] fun i=>b_ (decide ((a ++ ([.str h,.str G_,c5V [58,61]]:ai)).length+i.length<=aO)) (QV f ((a ++ ([.str h,.str G_,c5V [58,61]]:ai)) ++ i) e (i64.wrap (b+1)) c g))) (b_ (decide (a.length+1<=aO)) (H6 f (a ++ ([c5V [59]]:ai)) (i64.wrap (g+1)) c)):=ll
def bKZ (a0:Sh.V S5):SS.CC 157 [A5 a0] []=G4 158 [a_ a0.2.2.1] fun a=>b_ (decide (3+a.length<=aO)) (b_ (decide ((([c5V [116,101,109,112,108,97,116,101],.str a0.1,c5V [40]]:ai) ++ a).length+2<=aO)) (JU a0 ((([c5V [116,101,109,112,108,97,116,101],.str a0.1,c5V [40]]:ai) ++ a) ++ ([c5V [41],c5V [123]]:ai)) 0)):=cc
def bK':KT:=SS.rK Tryz.f158 158 0 []
def bL0:KT:=SS.jK 158 24 0 (cS Tryz.f158 15) bK'
def bL1:KT:=aW 0 bL0
def QW (a b:ai) (c:Int):R:=SS.LL (SS.ae 158 24) 0 [3,6,7,8] 0 (cS Tryz.f158 75) bL1 ⟨[(3,.sl true 1 b),(6,a_ a),(7,af (a.length:Int)),(8,af c)],[]⟩
def aOM (c a:ai) (b:Int):QW c a b=aB (decide (b<(c.length:Int))) (di c b fun e=>vS e fun d=>aB (decide (0<b)) (b_ (decide (a.length+1<=aO)) (b_ (decide ((a ++ ([c5V [44]]:ai)).length+1<=aO)) (QW c ((a ++ ([c5V [44]]:ai)) ++ ([.str d]:ai)) (i64.wrap (b+1))))) (b_ (decide (a.length+1<=aO)) (QW c (a ++ ([.str d]:ai)) (i64.wrap (b+1))))) (some (a_ a,[])):=ll
def bL2 (a0:ai):SS.CC 158 [a_ a0] []=QW a0 [] 0:=cc
def VU:KT:=SS.rK Tryz.f24 24 1 []
def bL4:KT:=SS.jK 24 179 1 (cS Tryz.f24 31) VU
def aOO:KT:=aW 0 bL4
def bLD:KT:=SS.lK 24 179 1 [2,3,27,28,29] 2 (cS Tryz.f24 151) aOO
def bLE:KT:=SS.jK 24 179 1 (cS Tryz.f24 1943) bLD
def bLF:KT:=aW 1 bLE
def bLG:KT:=SS.jK 24 179 1 (cS Tryz.f24 31127) bLF
def bLH:KT:=aW 2 bLG
def bLI:KT:=SS.jK 24 179 1 (cS Tryz.f24 63) VU
def bLJ:KT:=aW 4 bLI
def bL5:KT:=SS.jK 24 179 1 (cS Tryz.f24 127) VU
def aON:KT:=aW 6 bL5
def bL6:KT:=SS.lK 24 179 1 [2,3,86,87] 2 (cS Tryz.f24 607) aON
def bL7:KT:=SS.jK 24 179 1 (cS Tryz.f24 7775) bL6
def bL8:KT:=aW 7 bL7
def bL9:KT:=aW 8 bL8
def bLA:KT:=SS.jK 24 179 1 (cS Tryz.f24 255) VU
def bLB:KT:=aW 10 bLA
def bLC:KT:=aW 12 VU
def Qa (a:Sh.V S0) (c:ai) (b:Int):R:=SS.LL (SS.ae 24 179) 1 [2,3,27,28,29] 2 (cS Tryz.f24 151) aOO ⟨[(2,.ptr 1 0),(3,.cst (A0 a)),(27,.sl false 5 a.2.1),(28,af (a.2.1.length:Int)),(29,af b)],[aG (c,()),some [ag]]⟩
def lX (b:Sh.V S0) (d:ai) (a:Sh.V S4) (e c:Int):R:=SS.LL (SS.ae 24 179) 1 [2,3,5,27,28,29,44,45] 3 (cS Tryz.f24 154007) bLH ⟨[(2,.ptr 1 0),(3,.cst (A0 b)),(5,.ptr 2 0),(27,.sl false 5 b.2.1),(28,af (b.2.1.length:Int)),(29,af c),(44,A35 (a.2.1,a.2.2.1,a.2.2.2.1,())),(45,af e)],[aG (d,()),some [ag],O4 a]⟩
def QX (a:Sh.V S0) (b:ai) (c:Int):R:=SS.LL (SS.ae 24 179) 1 [2,3,72,73,74] 2 (cS Tryz.f24 303) bLJ ⟨[(2,.ptr 1 0),(3,.cst (A0 a)),(72,.sl false 9 a.2.2.1),(73,af (a.2.2.1.length:Int)),(74,af c)],[aG (b,()),some [ag]]⟩
def H7 (a:Sh.V S0) (c:ai) (b:Int):R:=SS.LL (SS.ae 24 179) 1 [2,3,86,87] 2 (cS Tryz.f24 607) aON ⟨[(2,.ptr 1 0),(3,.cst (A0 a)),(86,A34 (a.2.2.2.1,a.2.2.2.2.1,())),(87,af b)],[aG (c,()),some [ag]]⟩
def AO (a:Sh.V S0) (f:ai) (b:Int) (c:ai) (d e g:Int):R:=SS.LL (SS.ae 24 179) 1 [2,3,10,86,87,91,92,93] 2 (cS Tryz.f24 157279) bL9 ⟨[(2,.ptr 1 0),(3,.cst (A0 a)),(10,af d),(86,A34 (a.2.2.2.1,a.2.2.2.2.1,())),(87,af e),(91,.sl false 3 c),(92,af g),(93,af b)],[aG (f,()),some [ag]]⟩
def QY (a:Sh.V S0) (b:ai) (c:Int):R:=SS.LL (SS.ae 24 179) 1 [2,3,123,124,125] 2 (cS Tryz.f24 1215) bLB ⟨[(2,.ptr 1 0),(3,.cst (A0 a)),(123,.sl false 2 a.2.2.2.2.2.1),(124,af (a.2.2.2.2.2.1.length:Int)),(125,af c)],[aG (b,()),some [ag]]⟩
def QZ (b c:ai) (a:Int):R:=SS.LL (SS.ae 24 179) 1 [2,148,149,150] 2 (cS Tryz.f24 1279) bLC ⟨[(2,.ptr 1 0),(148,.sl false 3 b),(149,af (b.length:Int)),(150,af a)],[aG (c,()),some [ag]]⟩
theorem aOS (b:Sh.V S0) (c:ai) (a:Int):Qa b c a=aB (decide (a<(b.2.1.length:Int))) (ak S4 b.2.1 a fun d=>aY 117 [ag,a_ [c5V [101,118,101,110,116],.str d.1]] [aG (c,())] fun _ e=>lX b e.1 d 0 a) (QX b c 0):=ll
def Nk (d:Sh.V S0) (e:ai) (c:Sh.V S4) (a b:Int):lX d e c a b=aB (decide (a<3)) (b_ (decide (0<=a)&&decide (a<(3:Int))) (aB (a==0) (aB c.2.1 (b_ (decide (0<=a)&&decide (a<(3:Int))) (aB (a==0) (aY 117 [ag,a_ [c5V [99,111,110,116,114,111,108,108,97,98,108,101]]] [aG (e,())] fun _ f=>lX d f.1 c (i64.wrap (a+1)) b) (aB (a==1) (aY 117 [ag,a_ [c5V [111,98,115,101,114,118,97,98,108,101]]] [aG (e,())] fun _ g=>lX d g.1 c (i64.wrap (a+1)) b) (aB (a==2) (aY 117 [ag,a_ [c5V [102,111,114,99,105,98,108,101]]] [aG (e,())] fun _ o=>lX d o.1 c (i64.wrap (a+1)) b) (none))))) (lX d e c (i64.wrap (a+1)) b)) (aB (a==1) (aB c.2.2.1 (b_ (decide (0<=a)&&decide (a<(3:Int))) (aB (a==0) (aY 117 [ag,a_ [c5V [99,111,110,116,114,111,108,108,97,98,108,101]]] [aG (e,())] fun _ u16=>lX d u16.1 c (i64.wrap (a+1)) b) (aB (a==1) (aY 117 [ag,a_ [c5V [111,98,115,101,114,118,97,98,108,101]]] [aG (e,())] fun _ h=>lX d h.1 c (i64.wrap (a+1)) b) (aB (a==2) (aY 117 [ag,a_ [c5V [102,111,114,99,105,98,108,101]]] [aG (e,())] fun _ i=>lX d i.1 c (i64.wrap (a+1)) b) (none))))) (lX d e c (i64.wrap (a+1)) b)) (aB (a==2) (aB c.2.2.2.1 (b_ (decide (0<=a)&&decide (a<(3:Int))) (aB (a==0) (aY 117 [ag,a_ [c5V [99,111,110,116,114,111,108,108,97,98,108,101]]] [aG (e,())] fun _ p=>lX d p.1 c (i64.wrap (a+1)) b) (aB (a==1) (aY 117 [ag,a_ [c5V [111,98,115,101,114,118,97,98,108,101]]] [aG (e,())] fun _ q=>lX d q.1 c (i64.wrap (a+1)) b) (aB (a==2) (aY 117 [ag,a_ [c5V [102,111,114,99,105,98,108,101]]] [aG (e,())] fun _ r=>lX d r.1 c (i64.wrap (a+1)) b) (none))))) (lX d e c (i64.wrap (a+1)) b)) (none))))) (aB (c.2.2.2.2.1 != 0) (aY 117 [ag,a_ [c5V [102,97,117,108,116]]] [aG (e,())] fun _ j=>aY 119 [ag,af c.2.2.2.2.1] [aG j] fun _ l=>aY 118 [ag,a_ [c5V [59]]] [aG l] fun _ m=>Qa d m.1 (i64.wrap (b+1))) (aY 118 [ag,a_ [c5V [59]]] [aG (e,())] fun _ n=>Qa d n.1 (i64.wrap (b+1)))):=ll
theorem aOP (a:Sh.V S0) (c:ai) (b:Int):QX a c b=aB (decide (b<(a.2.2.1.length:Int))) (ak S5 a.2.2.1 b fun e=>aY 120 [ag,A5 e] [aG (c,())] fun _ d=>QX a d.1 (i64.wrap (b+1))) (H7 a c 0):=ll
def a9M (b:Sh.V S0) (c:ai) (a:Int):H7 b c a=aB (decide (a<2)) (b_ (decide (0<=a)&&decide (a<(2:Int))) (aB (a==0) (AO b c 0 b.2.2.2.1 a a (b.2.2.2.1.length:Int)) (aB (a==1) (AO b c 0 b.2.2.2.2.1 a a (b.2.2.2.2.1.length:Int)) (none)))) (QY b c 0):=ll
def Wh (f:Sh.V S0) (g:ai) (b:Int) (c:ai) (a d h:Int):AO f g b c a d h=aB (decide (b<h)) (ak S8 c b fun e=>b_ (decide (0<=a)&&decide (a<(2:Int))) (aB (a==0) (aY 117 [ag,a_ [c5V [99,111,109,112,111,110,101,110,116],.str e.1]] [aG (g,())] fun _ i=>aY 118 [ag,a_ [c5V [61]]] [aG i] fun _ j=>aY 117 [ag,a_ [.str e.2.1]] [aG j] fun _ l=>aY 121 [ag,a_ e.2.2.1] [aG l] fun _ m=>aY 118 [ag,a_ [c5V [59]]] [aG m] fun _ u32=>AO f u32.1 (i64.wrap (b+1)) c a d h) (aB (a==1) (aY 117 [ag,a_ [c5V [114,101,113,117,105,114,101,109,101,110,116],.str e.1]] [aG (g,())] fun _ p=>aY 118 [ag,a_ [c5V [61]]] [aG p] fun _ u8=>aY 117 [ag,a_ [.str e.2.1]] [aG u8] fun _ n=>aY 121 [ag,a_ e.2.2.1] [aG n] fun _ o=>aY 118 [ag,a_ [c5V [59]]] [aG o] fun _ q=>AO f q.1 (i64.wrap (b+1)) c a d h) (none)))) (H7 f g (i64.wrap (d+1))):=ll
theorem aOQ (a:Sh.V S0) (c:ai) (b:Int):QY a c b=aB (decide (b<(a.2.2.2.2.2.1.length:Int))) (ak kP a.2.2.2.2.2.1 b fun d=>aY 117 [ag,a_ [c5V [101,120,99,108,117,100,101],.str d.1]] [aG (c,())] fun _ g=>aY 118 [ag,a_ [c5V [58]]] [aG g] fun _ h=>H28 122 [ag,af (d.2.1.length:Int),c5V [44],fU 123 [.ptr 1 0,.ptr 2 0]] [aG h,some [ag],yg d] fun _ e i=>aY 118 [ag,a_ [c5V [59]]] [aG e] fun _ f=>QY a f.1 (i64.wrap (b+1))) (QZ a.2.2.2.2.2.2.1 c 0):=ll
theorem aOR (b c:ai) (a:Int):QZ b c a=aB (decide (a<(b.length:Int))) (ak jV b a fun d=>aY 117 [ag,a_ [c5V [108,105,109,105,116],.str d.1]] [aG (c,())] fun _ i=>aY 118 [ag,a_ [c5V [58]]] [aG i] fun _ u8=>H29 122 [ag,af (d.2.1.length:Int),c5V [43],fU 124 [.ptr 1 0,.ptr 2 0]] [aG u8,some [ag],wQ d] fun _ e f=>aY 118 [ag,a_ [c5V [60,61]]] [aG e] fun _ j=>aY 119 [ag,af f.2.2.1] [aG j] fun _ g=>aY 118 [ag,a_ [c5V [59]]] [aG g] fun _ h=>QZ b h.1 (i64.wrap (a+1))) (d_ [aG (c,())]):=ll
def bLK (a1:Sh.V S0) (a:ai):SS.CC 24 [ag,A0 a1] [aG (a,())]=aY 117 [ag,a_ [c5V [109,111,100,101,108],.str a1.1]] [aG (a,())] fun _ b=>aY 118 [ag,a_ [c5V [59]]] [aG b] fun _ c=>Qa a1 c.1 0:=cc
def bLN:KT:=SS.rK Tryz.f25 25 0 []
def bLO:KT:=SS.jK 25 83 0 (cS Tryz.f25 255) bLN
def aOT:KT:=aW 0 bLO
def bLP:KT:=SS.lK 25 83 0 [6,7,8,9,10,23,24,25] 2 (cS Tryz.f25 1215) aOT
def bLQ:KT:=SS.jK 25 83 0 (cS Tryz.f25 15551) bLP
def aOU:KT:=aW 1 bLQ
def AP (b:ai) (c:Int) (d:fQ) (a:Int) (e:f_) (f:Bool):R:=SS.LL (SS.ae 25 83) 0 [6,7,8,9,10,23,24,25] 2 (cS Tryz.f25 1215) aOT ⟨[(6,ag),(7,af c),(8,.ptr 1 0),(9,.str d),(10,fU 125 [.ptr 1 0,ag]),(23,.sl false 5 b),(24,af (b.length:Int)),(25,af a)],[qI (e,()),jM (f,())]⟩
def Xl (b:ai) (c:f_) (d:Bool) (e:Sh.V mg) (f:Int) (g:fQ) (a:Int):R:=bC (SS.xX 25 83 0) (cS Tryz.f25 117951) aOU ⟨[(6,ag),(7,af f),(8,.ptr 1 0),(9,.str g),(10,fU 125 [.ptr 1 0,ag]),(12,.ptr 2 0),(23,.sl false 5 b),(24,af (b.length:Int)),(25,af a)],[qI (c,()),jM (d,()),O30 e]⟩
def H8 (b:ai) (c:f_) (d:Bool) (e:Sh.V mg) (f a:Int):R:=bC (SS.xX 25 83 0) (cS Tryz.f25 249023) aOU ⟨[(6,ag),(7,af f),(8,.ptr 1 0),(10,fU 125 [.ptr 1 0,ag]),(12,.ptr 2 0),(23,.sl false 5 b),(24,af (b.length:Int)),(25,af a)],[qI (c,()),jM (d,()),O30 e]⟩
def aOV (b:ai) (c:Int) (f:fQ) (a:Int) (d:f_) (e:Bool):AP b c f a d e=aB (decide (a<(b.length:Int))) (ak mg b a fun g=>aB (g.2.1.toList==(⟨#[125]⟩:fQ).toList) (PD 125 [ag,.ptr 1 0] [jM (e,()),Cf (d,())] fun _ j u8=>Xl b u8.1 j.1 g (if (0:Int)>(i64.wrap (c-1)) then (0:Int) else (i64.wrap (c-1))) f a) (Xl b d e g c f a)) (PD 125 [ag,.ptr 1 0] [jM (e,()),Cf (d,())] fun _ l h=>H31 130 [ag] [qI h] fun i u16=>some (.tuple [.str i,af 0],[])):=ll
def bLL (e:ai) (f:f_) (c:Bool) (b:Sh.V mg) (d:Int) (g:fQ) (a:Int):Xl e f c b d g a=aB c (G2 129 [c5V [32,32],af d] fun s1=>H32 128 [ag,.str s1] [qI (f,())] fun j h=>H8 e h.1 c b d a) (aB (!(b.2.1.toList==(⟨#[44]⟩:fQ).toList)) (aB (!(b.2.1.toList==(⟨#[59]⟩:fQ).toList)) (aB (!(b.2.1.toList==(⟨#[41]⟩:fQ).toList)) (aB (!(g.toList==(⟨#[40]⟩:fQ).toList)) (H33 126 [ag,.int .u8 32] [qI (f,())] fun i=>H8 e i.1 c b d a) (H8 e f c b d a)) (H8 e f c b d a)) (H8 e f c b d a)) (H8 e f c b d a)):=by kernel_rfl
def bLM (c:ai) (i:f_) (j:Bool) (b:Sh.V mg) (d a:Int):H8 c i j b d a=H32 128 [ag,.str b.2.1] [qI (i,())] fun o e=>aB (b.2.1.toList==(⟨#[123]⟩:fQ).toList) (PD 125 [ag,.ptr 1 0] [jM (false,()),Cf e] fun _ l m=>AP c (i64.wrap (d+1)) b.2.1 (i64.wrap (a+1)) m.1 l.1) (aB (b.2.1.toList==(⟨#[125]⟩:fQ).toList) (PD 125 [ag,.ptr 1 0] [jM (false,()),Cf e] fun _ n f=>AP c d b.2.1 (i64.wrap (a+1)) f.1 n.1) (aB (b.2.1.toList==(⟨#[59]⟩:fQ).toList) (PD 125 [ag,.ptr 1 0] [jM (false,()),Cf e] fun _ g h=>AP c d b.2.1 (i64.wrap (a+1)) h.1 g.1) (AP c d b.2.1 (i64.wrap (a+1)) e.1 false))):=by kernel_rfl
def aOW (a0:ai):SS.CC 25 [.sl false 5 a0] []=G0 35 [.sl false 5 a0] fun a=>aB (a.2.1.1 != 0) (some (.tuple [c5V [],af a.2.1.1],[])) (TY 127 [.sl false 5 a0] fun b=>AP b 0 ⟨#[]⟩ 0 [] true):=cc
def b8D (a0:ai) (a1:Int):SS.CC 201 [a_ a0,af a1] []=G1 248 [a_ a0,af a1] fun a=>some (.bool (decide (0<=a)),[]):=cc
def a8M:KT:=SS.rK Tryz.f120 120 1 []
def b8O:KT:=SS.jK 120 157 1 (cS Tryz.f120 255) a8M
def aKZ:KT:=aW 0 b8O
def b8R:KT:=SS.lK 120 157 1 [2,3,4,5,30,31,32] 4 (cS Tryz.f120 1215) aKZ
def b8S:KT:=SS.jK 120 157 1 (cS Tryz.f120 15551) b8R
def b8T:KT:=aW 1 b8S
def b8U:KT:=SS.jK 120 157 1 (cS Tryz.f120 511) a8M
def b8V:KT:=aW 2 b8U
def b8W:KT:=SS.jK 120 157 1 (cS Tryz.f120 1023) a8M
def aK':KT:=aW 4 b8W
def b8P:KT:=SS.lK 120 157 1 [2,3,5,97,98,99] 4 (cS Tryz.f120 4863) aK'
def b8Q:KT:=SS.jK 120 157 1 (cS Tryz.f120 62207) b8P
def aKY:KT:=aW 5 b8Q
def N7 (d:fQ) (b e:ai) (a:Sh.V S6) (f g:ai) (c:Int):R:=SS.LL (SS.ae 120 157) 1 [2,3,4,5,30,31,32] 4 (cS Tryz.f120 1215) aKZ ⟨[(2,.ptr 1 0),(3,.cst (A5 (d,b,e,a.1,a.2.1,a.2.2.1,a.2.2.2.1,a.2.2.2.2.1,a.2.2.2.2.2.1,()))),(4,.ptr 2 0),(5,.ptr 3 0),(30,a_ b),(31,af (b.length:Int)),(32,af c)],[aG (f,()),some [ag],O6 a,jg (g,())]⟩
def Zi (d:fQ) (b e:ai) (a:Sh.V S6) (f g:ai) (h c:Int):R:=bC (SS.xX 120 157 1) (cS Tryz.f120 249023) b8T ⟨[(2,.ptr 1 0),(3,.cst (A5 (d,b,e,a.1,a.2.1,a.2.2.1,a.2.2.2.1,a.2.2.2.2.1,a.2.2.2.2.2.1,()))),(4,.ptr 2 0),(5,.ptr 3 0),(6,af h),(30,a_ b),(31,af (b.length:Int)),(32,af c)],[aG (f,()),some [ag],O6 a,jg (g,())]⟩
def QB (b:fQ) (c d:ai) (a:Sh.V S6) (e f:ai) (g:Int):R:=SS.LL (SS.ae 120 157) 1 [2,3,4,5,60,61,62] 4 (cS Tryz.f120 2431) b8V ⟨[(2,.ptr 1 0),(3,.cst (A5 (b,c,d,a.1,a.2.1,a.2.2.1,a.2.2.2.1,a.2.2.2.2.1,a.2.2.2.2.2.1,()))),(4,.ptr 2 0),(5,.ptr 3 0),(60,.sl false 4 a.2.2.2.2.1),(61,af (a.2.2.2.2.1.length:Int)),(62,af g)],[aG (e,()),some [ag],O6 a,jg (f,())]⟩
def Gw (c:fQ) (d e:ai) (a:Sh.V S6) (f g:ai) (b:Int):R:=SS.LL (SS.ae 120 157) 1 [2,3,5,97,98,99] 4 (cS Tryz.f120 4863) aK' ⟨[(2,.ptr 1 0),(3,.cst (A5 (c,d,e,a.1,a.2.1,a.2.2.1,a.2.2.2.1,a.2.2.2.2.1,a.2.2.2.2.2.1,()))),(5,.ptr 3 0),(97,.sl false 8 a.2.2.2.2.2.1),(98,af (a.2.2.2.2.2.1.length:Int)),(99,af b)],[aG (f,()),some [ag],O6 a,jg (g,())]⟩
def Zk (c:fQ) (d e:ai) (a:Sh.V S6) (f g:ai) (h:Sh.V S9) (b:Int):R:=bC (SS.xX 120 157 1) (cS Tryz.f120 996095) aKY ⟨[(2,.ptr 1 0),(3,.cst (A5 (c,d,e,a.1,a.2.1,a.2.2.1,a.2.2.2.1,a.2.2.2.2.1,a.2.2.2.2.2.1,()))),(5,.ptr 3 0),(11,.ptr 4 0),(97,.sl false 8 a.2.2.2.2.2.1),(98,af (a.2.2.2.2.2.1.length:Int)),(99,af b)],[aG (f,()),some [ag],O6 a,jg (g,()),O9 h]⟩
def Zl (c:fQ) (d e:ai) (a:Sh.V S6) (f g:ai) (h:Sh.V S9) (b:Int):R:=bC (SS.xX 120 157 1) (cS Tryz.f120 2044671) aKY ⟨[(2,.ptr 1 0),(3,.cst (A5 (c,d,e,a.1,a.2.1,a.2.2.1,a.2.2.2.1,a.2.2.2.2.1,a.2.2.2.2.2.1,()))),(5,.ptr 3 0),(11,.ptr 4 0),(97,.sl false 8 a.2.2.2.2.2.1),(98,af (a.2.2.2.2.2.1.length:Int)),(99,af b)],[aG (f,()),some [ag],O6 a,jg (g,()),O9 h]⟩
theorem aL2 (d:fQ) (b e:ai) (c:Sh.V S6) (g f:ai) (a:Int):N7 d b e c g f a=aB (decide (a<(b.length:Int))) (di b a fun i=>vS i fun j=>aY 117 [ag,a_ [c5V [108,111,99,97,116,105,111,110],.str j]] [aG (g,())] fun _ h=>aB (a==c.2.2.1) (aY 117 [ag,a_ [c5V [105,110,105,116,105,97,108]]] [aG h] fun _ l=>Zi d b e c l.1 f a a) (Zi d b e c h.1 f a a)) (QB d b e c g f 0):=ll
def b8L (c:fQ) (d e:ai) (b:Sh.V S6) (f g:ai) (h a:Int):Zi c d e b f g h a=G3 201 [a_ b.2.2.2.1,af h] fun i=>aB i (aY 117 [ag,a_ [c5V [109,97,114,107,101,100]]] [aG (f,())] fun _ j=>aY 118 [ag,a_ [c5V [59]]] [aG j] fun _ l=>N7 c d e b l.1 g (i64.wrap (a+1))) (aY 118 [ag,a_ [c5V [59]]] [aG (f,())] fun _ m=>N7 c d e b m.1 g (i64.wrap (a+1))):=by kernel_rfl
theorem aL0 (d:fQ) (e f:ai) (a:Sh.V S6) (g h:ai) (b:Int):QB d e f a g h b=aB (decide (b<(a.2.2.2.2.1.length:Int))) (ak S7 a.2.2.2.2.1 b fun c=>aY 117 [ag,a_ [c5V [118,97,114],.str c.1]] [aG (g,())] fun _ o=>aY 118 [ag,a_ [c5V [58]]] [aG o] fun _ p=>aY 119 [ag,af c.2.1] [aG p] fun _ i=>aY 118 [ag,a_ [c5V [46,46]]] [aG i] fun _ j=>aY 119 [ag,af c.2.2.1] [aG j] fun _ q=>aY 118 [ag,a_ [c5V [61]]] [aG q] fun _ l=>aY 119 [ag,af c.2.2.2.1] [aG l] fun _ m=>aY 118 [ag,a_ [c5V [59]]] [aG m] fun _ n=>QB d e f a n.1 h (i64.wrap (b+1))) (Gw d e f a g h 0):=ll
def aL1 (g:fQ) (c e:ai) (d:Sh.V S6) (h f:ai) (b:Int):Gw g c e d h f b=aB (decide (b<(d.2.2.2.2.2.1.length:Int))) (ak S9 d.2.2.2.2.2.1 b fun a=>di c a.1 fun i=>vS i fun yj=>di e a.2.1 fun j=>vS j fun l=>di c a.2.2.1 fun m=>vS m fun n=>aY 117 [ag,a_ [c5V [101,100,103,101],.str yj,.str l,.str n]] [aG (h,())] fun _ u16=>qH 137 [] fun q=>G3 41 [A1 (a.2.2.2.1,a.2.2.2.2.1,a.2.2.2.2.2.1,a.2.2.2.2.2.2.1,()),A1 q] fun r=>aB (!r) (aY 117 [ag,a_ [c5V [119,104,101,110]]] [aG u16] fun _ o=>aY 34 [ag,a_ f,A1 (a.2.2.2.1,a.2.2.2.2.1,a.2.2.2.2.2.1,a.2.2.2.2.2.2.1,()),af 0] [aG o] fun _ p=>Zk g c e d p.1 f a b) (Zk g c e d u16.1 f a b)) (aY 118 [ag,a_ [c5V [125]]] [aG (h,())] fun _ u32=>d_ [aG u32]):=ll
def b8M (c:fQ) (d e:ai) (f:Sh.V S6) (g h:ai) (b:Sh.V S9) (a:Int):Zk c d e f g h b a=aB (decide (0<(b.2.2.2.2.2.2.2.1.length:Int))) (aY 117 [ag,a_ [c5V [100,111]]] [aG (g,())] fun _ i=>Zl c d e f i.1 h b a) (Zl c d e f g h b a):=by kernel_rfl
def b8N (d:fQ) (e f:ai) (g:Sh.V S6) (h i:ai) (b:Sh.V S9) (a:Int):Zl d e f g h i b a=H45 122 [ag,af (b.2.2.2.2.2.2.2.1.length:Int),c5V [44],fU 202 [.ptr 1 0,.ptr 2 0,.ptr 3 0]] [aG (h,()),some [ag],jg (i,()),O9 b] fun _ j l m=>aY 118 [ag,a_ [c5V [59]]] [aG j] fun _ c=>Gw d e f g c.1 l.1 (i64.wrap (a+1)):=by kernel_rfl
def b8X (a1:Sh.V S5) (a:ai):SS.CC 120 [ag,A5 a1] [aG (a,())]=G7 200 [.sl false 4 a1.2.2.2.2.2.2.2.1] fun b=>aY 117 [ag,a_ [c5V [116,101,109,112,108,97,116,101],.str a1.1]] [aG (a,())] fun _ c=>aY 121 [ag,a_ a1.2.2.1] [aG c] fun _ d=>aY 118 [ag,a_ [c5V [123]]] [aG d] fun _ e=>N7 a1.1 a1.2.1 a1.2.2.1 (a1.2.2.2.1,a1.2.2.2.2.1,a1.2.2.2.2.2.1,a1.2.2.2.2.2.2.1,a1.2.2.2.2.2.2.2.1,a1.2.2.2.2.2.2.2.2.1,()) e.1 b 0:=cc
def b8Y (a1 a:ai):SS.CC 121 [ag,a_ a1] [aG (a,())]=aY 118 [ag,a_ [c5V [40]]] [aG (a,())] fun _ b=>H46 122 [ag,af (a1.length:Int),c5V [44],fU 203 [.ptr 1 0,.cst (a_ a1)]] [aG b,some [ag]] fun _ c=>aY 118 [ag,a_ [c5V [41]]] [aG c] fun _ d=>d_ [aG d]:=cc
def b9Z:KT:=SS.rK Tryz.f122 122 3 []
def b9':KT:=aW 0 b9Z
def Uy (b:fQ) (c:Int) (d:ai) (e:Sh.V kP) (a:Int):R:=SS.LL (SS.ae 122 23) 3 [0,2,3,9,10] 3 (cS Tryz.f122 9) b9' ⟨[(0,ag),(2,.str b),(3,fU 123 [.ptr 1 0,.ptr 2 0]),(9,af c),(10,af a)],[aG (d,()),some [ag],yg e]⟩
theorem aLH (b:fQ) (c:Int) (d:ai) (e:Sh.V kP) (a:Int):Uy b c d e a=aB (decide (a<c)) (aB (decide (0<a)) (aY 118 [ag,a_ [.str b]] [aG (d,())] fun _ g=>H47 123 [af a,ag,.ptr 1 0] [some [.ptr 2 0],yg e,aG g] fun _ h i=>Uy b c i.1 h (i64.wrap (a+1))) (H47 123 [af a,ag,.ptr 1 0] [some [.ptr 2 0],yg e,aG (d,())] fun _ j f=>Uy b c f.1 j (i64.wrap (a+1)))) (d_ [aG (d,()),some [ag],yg e]):=ll
def bA0 (a1:Int) (a2:fQ) (a:ai) (b:Sh.V kP):SS.CC 122 [ag,af a1,.str a2,fU 123 [.ptr 1 0,.ptr 2 0]] [aG (a,()),some [ag],yg b]=Uy a2 a1 a b 0:=cc
def b9Q:KT:=SS.rK Tryz.f122 122 3 []
def b9R:KT:=aW 0 b9Q
def Uu (b:fQ) (c:Int) (d:ai) (e:Sh.V jV) (a:Int):R:=SS.LL (SS.ae 122 23) 3 [0,2,3,9,10] 3 (cS Tryz.f122 9) b9R ⟨[(0,ag),(2,.str b),(3,fU 124 [.ptr 1 0,.ptr 2 0]),(9,af c),(10,af a)],[aG (d,()),some [ag],wQ e]⟩
theorem aLE (b:fQ) (c:Int) (d:ai) (e:Sh.V jV) (a:Int):Uu b c d e a=aB (decide (a<c)) (aB (decide (0<a)) (aY 118 [ag,a_ [.str b]] [aG (d,())] fun _ h=>H48 124 [af a,ag,.ptr 1 0] [some [.ptr 2 0],wQ e,aG h] fun _ i j=>Uu b c j.1 i (i64.wrap (a+1))) (H48 124 [af a,ag,.ptr 1 0] [some [.ptr 2 0],wQ e,aG (d,())] fun _ f g=>Uu b c g.1 f (i64.wrap (a+1)))) (d_ [aG (d,()),some [ag],wQ e]):=ll
def b9S (a1:Int) (a2:fQ) (a:ai) (b:Sh.V jV):SS.CC 122 [ag,af a1,.str a2,fU 124 [.ptr 1 0,.ptr 2 0]] [aG (a,()),some [ag],wQ b]=Uu a2 a1 a b 0:=cc
def b9T:KT:=SS.rK Tryz.f122 122 4 []
def b9U:KT:=aW 0 b9T
def Uw (b:fQ) (c:Int) (d e:ai) (f:Sh.V S9) (a:Int):R:=SS.LL (SS.ae 122 23) 4 [0,2,3,9,10] 4 (cS Tryz.f122 9) b9U ⟨[(0,ag),(2,.str b),(3,fU 202 [.ptr 1 0,.ptr 2 0,.ptr 3 0]),(9,af c),(10,af a)],[aG (d,()),some [ag],jg (e,()),O9 f]⟩
theorem aLF (b:fQ) (c:Int) (d e:ai) (f:Sh.V S9) (a:Int):Uw b c d e f a=aB (decide (a<c)) (aB (decide (0<a)) (aY 118 [ag,a_ [.str b]] [aG (d,())] fun _ i=>H64 202 [af a,ag,.ptr 1 0,.ptr 2 0] [some [.ptr 3 0],jg (e,()),O9 f,aG i] fun _ j l g=>Uw b c g.1 j.1 l (i64.wrap (a+1))) (H64 202 [af a,ag,.ptr 1 0,.ptr 2 0] [some [.ptr 3 0],jg (e,()),O9 f,aG (d,())] fun _ u16 m h=>Uw b c h.1 u16.1 m (i64.wrap (a+1)))) (d_ [aG (d,()),some [ag],jg (e,()),O9 f]):=ll
def b9V (a1:Int) (a2:fQ) (a b:ai) (c:Sh.V S9):SS.CC 122 [ag,af a1,.str a2,fU 202 [.ptr 1 0,.ptr 2 0,.ptr 3 0]] [aG (a,()),some [ag],jg (b,()),O9 c]=Uw a2 a1 a b c 0:=cc
def b9W:KT:=SS.rK Tryz.f122 122 2 []
def b9X:KT:=aW 0 b9W
def Ux (b:fQ) (c:ai) (d:Int) (e:ai) (a:Int):R:=SS.LL (SS.ae 122 23) 2 [0,2,3,9,10] 2 (cS Tryz.f122 9) b9X ⟨[(0,ag),(2,.str b),(3,fU 203 [.ptr 1 0,.cst (a_ c)]),(9,af d),(10,af a)],[aG (e,()),some [ag]]⟩
theorem aLG (c:fQ) (b:ai) (d:Int) (e:ai) (a:Int):Ux c b d e a=aB (decide (a<d)) (aB (decide (0<a)) (aY 118 [ag,a_ [.str c]] [aG (e,())] fun _ f=>gB 203 [af a,ag,.cst (a_ b)] [some [.ptr 1 0],aG f] fun _ g=>Ux c b d g.1 (i64.wrap (a+1))) (gB 203 [af a,ag,.cst (a_ b)] [some [.ptr 1 0],aG (e,())] fun _ h=>Ux c b d h.1 (i64.wrap (a+1)))) (d_ [aG (e,()),some [ag]]):=ll
def b9Y (a1:Int) (a2:fQ) (a3 a:ai):SS.CC 122 [ag,af a1,.str a2,fU 203 [.ptr 1 0,.cst (a_ a3)]] [aG (a,()),some [ag]]=Ux a2 a3 a1 a 0:=cc
def bA1 (a0:Int) (a:Sh.V kP) (b:ai):SS.CC 123 [af a0,ag,.ptr 1 0] [some [.ptr 2 0],yg a,aG (b,())]=ak zt a.2.1 a0 fun c=>ak zt a.2.1 a0 fun d=>aY 117 [ag,a_ [.str c.1,.str d.2.1]] [aG (b,())] fun _ e=>d_ [some [.ptr 2 0],yg a,aG e]:=cc
def bA2 (a0:Int) (a:Sh.V jV) (d:ai):SS.CC 124 [af a0,ag,.ptr 1 0] [some [.ptr 2 0],wQ a,aG (d,())]=ak BG a.2.1 a0 fun e=>aY 119 [ag,af e.2.1] [aG (d,())] fun _ f=>aY 118 [ag,a_ [c5V [42]]] [aG f] fun _ g=>ak BG a.2.1 a0 fun b=>aY 117 [ag,a_ [.str b.1]] [aG g] fun _ c=>d_ [some [.ptr 2 0],wQ a,aG c]:=cc
def bA3 (b:Bool) (a:f_):SS.CC 125 [ag,.ptr 1 0] [jM (b,()),Cf (a,())]=aB (!b) (H33 126 [ag,.int .u8 10] [qI (a,())] fun c=>d_ [jM (true,()),Cf c]) (d_ [jM (b,()),Cf (a,())]):=cc
def bA4 (a1:Int) (a:f_):SS.CC 126 [ag,.int .u8 a1] [qI (a,())]=H51 204 [ag] [qI (a,())] fun _ b=>b_ (decide (b.1.length+1<=aO)&&decide ((0:Int)<=a1)&&decide (a1<(256:Int))) (some (.raw .nilIface,[qI ((b.1 ++ [UInt8.ofNat (Int.toNat a1)]),())])):=cc
def bD4:KT:=SS.rK Tryz.f248 248 0 []
def bD5:KT:=SS.jK 248 19 0 (cS Tryz.f248 7) bD4
def bD6:KT:=aW 0 bD5
def V6 (a:ai) (b c:Int):R:=SS.LL (SS.ae 248 19) 0 [0,1,7,8] 0 (cS Tryz.f248 37) bD6 ⟨[(0,a_ a),(1,af b),(7,af (a.length:Int)),(8,af c)],[]⟩
def aLU (b:ai) (c a:Int):V6 b c a=aB (decide (a<(b.length:Int))) (di b a fun d=>vI .i64 d fun e=>aB (c==e) (some (af a,[])) (V6 b c (i64.wrap (a+1)))) (some (af (-1),[])):=ll
def bD7 (a0:ai) (a1:Int):SS.CC 248 [a_ a0,af a1] []=V6 a0 a1 0:=cc
def bD8 (a0:ai):SS.CC 200 [.sl false 4 a0] []=G7 246 [.sl false 4 a0,h_ 247] fun a=>some (.sl true 1 a,[]):=cc
def bD9 (a0:Int) (b:ai) (c:Sh.V S9) (a:ai):SS.CC 202 [af a0,ag,.ptr 1 0,.ptr 2 0] [some [.ptr 3 0],jg (b,()),O9 c,aG (a,())]=ak qm c.2.2.2.2.2.2.2.1 a0 fun f=>di b f.1 fun g=>vS g fun h=>aY 117 [ag,a_ [.str h]] [aG (a,())] fun _ i=>aY 118 [ag,a_ [c5V [58,61]]] [aG i] fun _ d=>ak qm c.2.2.2.2.2.2.2.1 a0 fun u16=>aY 34 [ag,a_ b,A1 (u16.2.1,u16.2.2.1,u16.2.2.2.1,u16.2.2.2.2.1,()),af 0] [aG d] fun _ e=>d_ [some [.ptr 3 0],jg (b,()),O9 c,aG e]:=cc
def bDA (a0:Int) (a2 a:ai):SS.CC 203 [af a0,ag,.cst (a_ a2)] [some [.ptr 1 0],aG (a,())]=di a2 a0 fun b=>vS b fun c=>aY 117 [ag,a_ [.str c]] [aG (a,())] fun _ d=>d_ [some [.ptr 1 0],aG d]:=cc
def bH9:KT:=SS.rK Tryz.f246 246 0 []
def bHA:KT:=SS.jK 246 22 0 (cS Tryz.f246 15) bH9
def bHB:KT:=aW 0 bHA
def a0N (b c:ai) (a:Int):R:=SS.LL (SS.ae 246 22) 0 [1,5,8,9,10] 0 (cS Tryz.f246 75) bHB ⟨[(1,h_ 247),(5,.sl true 1 c),(8,.sl false 4 b),(9,af (b.length:Int)),(10,af a)],[]⟩
theorem aN6 (b c:ai) (a:Int):a0N b c a=aB (decide (a<(b.length:Int))) (ak S7 b a fun d=>G2 247 [A7 d] fun e=>b_ (decide (c.length+1<=aO)) (a0N b (c ++ ([.str e]:ai)) (i64.wrap (a+1)))) (some (.sl true 1 c,[])):=ll
def bHC (a0:ai):SS.CC 246 [.sl false 4 a0,h_ 247] []=a0N a0 [] 0:=cc
def bHD (a0:Sh.V S7):SS.CC 247 [A7 a0] []=some (.str a0.1,[]):=cc
end
theorem aX0 {v:Nat->Int}:∀ (m k:Nat),IP v k m=0->∀ i,k<=i->i<k+m->v i=0
 | 0,k,_,i,a,b=>by omega
 | m+1,k,h,i,a,b=>by
  rw[IP] at h;by_cases hv:v k=0
  .rw[ah hv] at h;by_cases c:i=k;simp_all
   .exact aX0 m (k+1) h i (by omega) (by omega)
  omega
theorem BJ (h:sG O j=0) (a:S<j):O S=0:=aX0 j 0 h S (Io _) (by omega)
theorem xJ (h:sq i D=0):i=0/\D=0:=by grind [sq]
theorem mW (a:i≠0) (h:(bif p then i else D)=0):p=false/\D=0:=by grind
theorem BX {l:List r} {x:r} (h:x∈l):∃ k,∃ hk:k<l.length,l[k]=x:=List.getElem_of_mem h
theorem aYF (a:u.Len) (b:0<=i) (c:i<=16) (h:Fz u i D=0):Fd i u/\rG u<=64:=by grind [Fz,aIF,a7L]
structure vN (n:Nat) (x:EX):Prop where
 len:x.Len
 fd:Fd (n:Int) x
 sz:rG x<=64
abbrev rM (v:Int):Prop := -65536<=v/\v<=65536
abbrev Gn (s:Nm):Prop:=kH s=true
structure TZ (t:Tm) (x:Mv):Prop where
 f:0<=x.f/\x.f<t.ls.length
 e:0<=x.e/\x.e<t.es.length
 d:0<=x.t/\x.t<t.ls.length
 g:vN t.vs.length x.g
 us:∀ u,u∈x.us->(0<=u.1/\u.1<t.vs.length)/\vN t.vs.length u.2
structure CV (t:Tm):Prop where
 ls:∀ s,s∈t.ls->Gn s
 es:∀ s,s∈t.es->Gn s
 vs:∀ v,v∈t.vs->Gn v.n/\rM v.lo/\rM v.hi/\rM v.i
 v16:t.vs.length<=16
 ms:∀ x,x∈t.ms->TZ t x
structure EQ (m:Mo):Prop where
 n:Gn m.n
 es:∀ e,e∈m.es->Gn e.n/\0<=e.k/\e.k<=4
 ts:∀ t,t∈m.ts->Gn t.n/\CV t
 is:∀ x,x∈m.cs ++ m.rs->Gn x.n/\Gn x.t/\∀ s,s∈x.es->Gn s
 xs:∀ x,x∈m.xs->Gn x.n/\x.ls ≠ []/\∀ l,l∈x.ls->Gn l.1/\Gn l.2
 ks:∀ x,x∈m.ks->Gn x.n/\x.ts ≠ []/\rM x.b/\∀ l,l∈x.ts->Gn l.1/\rM l.2
theorem bU5 (h:(!p)=false):p=true:=by cases p<;>simp_all
variable {G:Nm}
theorem Ud (h:yz f G=0):Gn G/\G∉f:=by obtain ⟨a,b⟩:=mW (by decide) h;grind
def aUC (h:Jo f=0):∀ s,s∈f->Gn s:=fun s a=>by obtain ⟨k,hk,e⟩:=BX a;have:=BJ h hk;rw[gD hk,e] at this;exact (Ud this).1
variable {c8:Vr}
theorem c06 (h:vrE M c8=0):Gn c8.n/\rM c8.lo/\rM c8.hi/\rM c8.i:=by obtain ⟨a,h⟩:=mW (by decide) h;grind [y5]
theorem b2Q (h:MN M=0):M.length<=16/\∀ v,v∈M->Gn v.n/\rM v.lo/\rM v.hi/\rM v.i:=by obtain ⟨a,h⟩:=mW (by decide) h;simp only[aG2] at a;refine ⟨by omega,fun v hv => ?_⟩;grind [BX,BJ,c06]
variable {K:Tm} {c9:Mv}
theorem bTU (o:K.vs.length<=16) (m:c9.g.Len) (n:∀ u,u∈c9.us->u.2.Len) (h:WP (K.ls.length:Int) (K.es.length:Int) (K.vs.length:Int) c9=0):TZ K c9:=by obtain ⟨a,h⟩:=mW (by decide) h;obtain ⟨b,h⟩:=mW (by decide) h;obtain ⟨c,h⟩:=mW (by decide) h;obtain ⟨d,h⟩:=mW (by decide) h;obtain ⟨e,h⟩:=mW (by decide) h;obtain ⟨f,h⟩:=mW (by decide) h;obtain ⟨g,h⟩:=xJ h;simp only[aG2] at a b c d e f;obtain ⟨j,l⟩:=aYF m (by omega) (by omega) g;refine ⟨⟨by omega,by omega⟩,⟨by omega,by omega⟩,⟨by omega,by omega⟩,⟨m,j,l⟩,fun u i => ?_⟩;obtain ⟨k,hk,e⟩:=BX i;have:=BJ h hk;unfold Xb at this;rw[gD hk,e] at this;obtain ⟨a,h⟩:=mW (by decide) this;obtain ⟨b,h⟩:=mW (by decide) h;obtain ⟨_,h⟩:=mW (by decide) h;simp only[aG2] at a b;obtain ⟨j,l⟩:=aYF (n u i) (by omega) (by omega) h;exact ⟨⟨by omega,by omega⟩,n u i,j,l⟩
theorem bO4 (b:uC K) (h:KW K=0):CV K:=by obtain ⟨c,h⟩:=xJ h;obtain ⟨d,h⟩:=xJ h;obtain ⟨_,h⟩:=mW (by decide) h;obtain ⟨_,h⟩:=xJ h;obtain ⟨_,h⟩:=mW (by decide) h;obtain ⟨_,h⟩:=mW (by decide) h;obtain ⟨_,h⟩:=mW (by decide) h;obtain ⟨_,h⟩:=xJ h;obtain ⟨f,h⟩:=xJ h;obtain ⟨_,h⟩:=xJ h;obtain ⟨g,i⟩:=b2Q f;refine ⟨aUC d,aUC c,i,g,fun x a => ?_⟩;obtain ⟨k,hk,e⟩:=BX a;have:=BJ h hk;obtain ⟨o1,_,j⟩:=b.ms.2 x a;grind [bTU]
theorem a_S (h:Ef i=0):rM i:=by obtain ⟨a,h⟩:=mW (by decide) h;grind
variable {H:Mo}
theorem a9P (z:lV H) (h:Em H=0):EQ H:=by
 obtain ⟨A,h⟩:=mW (by decide) h;obtain ⟨n,h⟩:=xJ h;obtain ⟨_,h⟩:=mW (by decide) h;obtain ⟨_,h⟩:=mW (by decide) h;obtain ⟨_,h⟩:=mW (by decide) h;obtain ⟨_,h⟩:=mW (by decide) h;obtain ⟨_,h⟩:=mW (by decide) h;obtain ⟨B,h⟩:=xJ h;obtain ⟨C,h⟩:=xJ h;obtain ⟨D,h6⟩:=xJ h;obtain ⟨_,n⟩:=mW (by decide) n;refine ⟨bU5 A,fun e he => ?_,fun t v => ?_,fun x g => ?_,fun x g => ?_,fun x g => ?_⟩
 .obtain ⟨k,hk,f⟩:=BX he;have:=BJ n hk;obtain ⟨a,h⟩:=mW (by decide) this;grind
 .obtain ⟨k,hk,f⟩:=BX v;have:=BJ B hk;rw[gD hk,f] at this;obtain ⟨a,b⟩:=xJ this;exact ⟨(Ud a).1,bO4 (z.ts.2 t v).2 b⟩
 .obtain ⟨k,hk,f⟩:=BX g;have:=BJ C hk;rw[gD hk,f] at this;obtain ⟨a,b⟩:=xJ this;have w:∀ s,s∈x.t::x.es->Gn s:=fun s o=>by obtain ⟨j,i,y⟩:=BX o;have:=BJ b i;grind
  exact ⟨(Ud a).1,w _ (by simp),fun s o=>w s (by simp[o])⟩
 .obtain ⟨k,hk,f⟩:=BX g;have:=BJ D hk;rw[gD hk,f] at this;obtain ⟨a,b⟩:=xJ this;obtain ⟨c,d⟩:=mW (by decide) b;refine ⟨(Ud a).1,fun r=>by rw[r] at c; simp at c,fun l u => ?_⟩;obtain ⟨j,i,y⟩:=BX u;have:=BJ d i;obtain ⟨p,q⟩:=mW (by decide) this;grind
 .obtain ⟨k,hk,f⟩:=BX g;have:=BJ h6 hk;rw[gD hk,f] at this;obtain ⟨a,b⟩:=xJ this;obtain ⟨c,d⟩:=mW (by decide) b;obtain ⟨d,e⟩:=xJ d;refine ⟨(Ud a).1,fun r=>by rw[r] at c; simp at c,a_S e,fun l u => ?_⟩;obtain ⟨j,i,y⟩:=BX u;have:=BJ d i;obtain ⟨p,q⟩:=mW (by decide) this;grind
def xu (a:List Nm) (x:EX):List Tok:=open Classical in if h:∃ B,PB a x B/\B.length<=8*rG x then Classical.choose h else []
theorem UX (h:vN f.length u):PB f u (xu f u)/\(xu f u).length<=512:=by have a:=bWR f h.fd;have b:=h.sz;grind [xu]
def jI (s:Tok):List (List Tok)->List Tok
 | [] => []
 | [a]=>a
 | a::b::l=>a ++ s::jI s (b::l)
def yD (l:List Nm):List Tok:=tS [40]::(jI (tS [44]) (l.map fun s => [tW s]) ++ [tS [41]])
def vV (e:oN):List Tok := [tW [101,118,101,110,116],tW e.n] ++ (if e.c then [tW [99,111,110,116,114,111,108,108,97,98,108,101]] else []) ++ (if e.o then [tW [111,98,115,101,114,118,97,98,108,101]] else []) ++ (if e.f then [tW [102,111,114,99,105,98,108,101]] else []) ++ (if e.k=0 then [] else tW [102,97,117,108,116]::gX e.k) ++ [tS [59]]
def DW (I:Int) (a:List Int) (i:Nat) (s:Nm):List Tok := [tW [108,111,99,97,116,105,111,110],tW s] ++ (if (i:Int)=I then [tW [105,110,105,116,105,97,108]] else []) ++ (if (i:Int)∈a then [tW [109,97,114,107,101,100]] else []) ++ [tS [59]]
def zH (I:Int) (a:List Int):Nat->List Nm->List Tok
 | _,[] => []
 | i,s::l=>DW I a i s ++ zH I a (i+1) l
def tq (v:Vr):List Tok := [tW [118,97,114],tW v.n,tS [58]] ++ gX v.lo ++ [tS [46,46]] ++ gX v.hi ++ [tS [61]] ++ gX v.i ++ [tS [59]]
def nZ (a:List Nm) (u:Int×EX):List Tok := [tW (a.getD u.1.toNat []),tS [58,61]] ++ xu a u.2
def pg (t:Tm) (x:Mv):List Tok := [tW [101,100,103,101],tW (t.ls.getD x.f.toNat []),tW (t.es.getD x.e.toNat []),tW (t.ls.getD x.t.toNat [])] ++ (if gW x.g tE then [] else tW [119,104,101,110]::xu (t.vs.map (·.n)) x.g) ++ (if x.us = [] then [] else tW [100,111]::jI (tS [44]) (x.us.map (nZ (t.vs.map (·.n))))) ++ [tS [59]]
def pF (t:Tm):List Tok := [tW [116,101,109,112,108,97,116,101],tW t.n] ++ yD t.es ++ [tS [123]] ++ zH t.I t.mr 0 t.ls ++ t.vs.flatMap tq ++ t.ms.flatMap (pg t) ++ [tS [125]]
def nU (w:Nm) (x:Ins):List Tok := [tW w,tW x.n,tS [61],tW x.t] ++ yD x.es ++ [tS [59]]
abbrev wC:Nm := [99,111,109,112,111,110,101,110,116]
abbrev wR:Nm := [114,101,113,117,105,114,101,109,101,110,116]
def vH (x:uf):List Tok := [tW [101,120,99,108,117,100,101],tW x.n,tS [58]] ++ jI (tS [44]) (x.ls.map fun l => [tW l.1,tW l.2]) ++ [tS [59]]
def ug (x:Cst):List Tok := [tW [108,105,109,105,116],tW x.n,tS [58]] ++ jI (tS [43]) (x.ts.map fun l=>gX l.2 ++ [tS [42],tW l.1]) ++ [tS [60,61]] ++ gX x.b ++ [tS [59]]
def oH (m:Mo):List Tok := [tW [109,111,100,101,108],tW m.n,tS [59]] ++ m.es.flatMap vV ++ m.ts.flatMap pF ++ m.cs.flatMap (nU wC) ++ m.rs.flatMap (nU wR) ++ m.xs.flatMap vH ++ m.ks.flatMap ug
def fP (F:Nat->List Tok):Nat->Nat->List Tok
 | _,0 => []
 | k,m+1=>F k ++ fP F (k+1) m
theorem aI8 {L:List Tok->Nat->R} {F:Nat->List Tok} {n N:Nat} (a:∀ k,k<n->∀ A:List Tok,A.length+(F k).length<=N->L A k=L (A ++ F k) (k+1)):∀ (m k:Nat) (A:List Tok),k+m=n->A.length+(fP F k m).length<=N->L A k=L (A ++ fP F k m) n
 | 0,k,A,h,_=>by grind [fP]
 | m+1,k,A,h,b=>by rw[fP,aZ] at b;rw[a k (by omega) A (by omega),aI8 a m (k+1) _ (by omega) (by rw[aZ]; omega),fP,yS]
def oZ {L:List Tok->Nat->R} {F:Nat->List Tok} {n:Nat} (N:Nat) {A:List Tok} (a:∀ k,k<n->∀ A:List Tok,A.length+(F k).length<=N->L A k=L (A ++ F k) (k+1)) (b:A.length+(fP F 0 n).length<=N):L A 0=L (A ++ fP F 0 n) n:=aI8 a n 0 A (by omega) b
def aI7 {a:Type} (l:List a) (d:a) (F:Nat->List Tok) (f:a->List Tok) (h:∀ k,k<l.length->F k=f (l.getD k d)):∀ (m k:Nat),k+m=l.length->fP F k m=(l.drop k).flatMap f
 | 0,k,e=>by rw[Ik (by omega)]; rfl
 | m+1,k,e=>by rw[fP,aI7 l d F f h m (k+1) (by omega),h k (by omega),EO (by omega:k<l.length),TC,gD (by omega:k<l.length)]
variable {Z:Nat->List Tok}
def wW {l:List r} (d:r) {f:r->List Tok} (h:∀ k,k<l.length->Z k=f (l.getD k d)):fP Z 0 l.length=l.flatMap f:=aI7 l d Z f h l.length 0 (by omega)
def aI6 {F G:Nat->List Tok}:∀ (m k:Nat),(∀ i,k<=i->i<k+m->F i=G i)->fP F k m=fP G k m
 | 0,_,_=>rfl
 | m+1,k,h=>by rw[fP,fP,h k (dG _) (by omega),aI6 m (k+1) fun i a b=>h i (by omega) (by omega)]
def Yl (F:Nat->List Tok):∀ (m k:Nat),fP F (k+1) m=fP (fun i=>F (i+1)) k m
 | 0,_=>rfl
 | m+1,k=>by rw[fP,fP,Yl F m (k+1)]
def aIA {c:Type} (s:Tok) (d:c) (f:c->List Tok):∀ (l:List c) (a:List Tok),a ++ fP (fun k=>s::f (l.getD k d)) 0 l.length=jI s (a::l.map f)
 | [],a=>by rw[iJ,fP,BB]; rfl
 | b::l,a=>by rw[bT,fP,Yl];show a ++ (s::(f b ++ fP (fun k=>s::f (l.getD k d)) 0 l.length))=_;rw[aIA s d f l (f b)]; rfl
def Yk {l:List r} (s:Tok) (d:r) {f:r->List Tok} (p:List Tok) (b:l ≠ []) (c:Z 0=p ++ f (l.getD 0 d)) (h:∀ k,Z (k+1)=s::f (l.getD (k+1) d)):fP Z 0 l.length=p ++ jI s (l.map f):=by
 match l,b with
 | a::l,_ =>rw[bT,fP,Yl,c,aI6 (G:=fun k=>s::f (l.getD k d)) l.length 0 (fun i _ _=>h i),yS,aIA];rfl
def UL {l:List r} (s:Tok) (d:r) {f:r->List Tok} (b:Z 0=f (l.getD 0 d)) (h:∀ k,Z (k+1)=s::f (l.getD (k+1) d)):fP Z 0 l.length=jI s (l.map f):=by
 by_cases a:l = []
 .subst a; rfl
 .exact Yk s d [] a b h
theorem a7I (I:Int) (a:List Int):∀ (l:List Nm) (k:Nat),fP (fun i=>DW I a (k+i) (l.getD i [])) 0 l.length=zH I a k l
 | [],_=>rfl
 | s::l,k=>by rw[bT,fP,Yl,zH,<- a7I I a l (k+1)];grind
variable {X:List Tok}
def jD (h:X.length+j<=200000000):decide ((bg X).length+j<=aO)=true:=aP (by rw[nK]; show X.length+j<=1073741824; omega)
def qo (A:List Tok) (b:fQ):bg A ++ ([.str b]:ai)=bg (A ++ [tW b.data.toList]):=by rw[tV];rfl
def JC (A:List Tok) (b c:fQ):bg A ++ ([.str b,.str c]:ai)=bg (A ++ [tW b.data.toList,tW c.data.toList]):=by rw[tV];rfl
def ap3 (A:List Tok) (b c d:fQ):bg A ++ ([.str b,.str c,.str d]:ai)=bg (A ++ [tW b.data.toList,tW c.data.toList,tW d.data.toList]):=by rw[tV];rfl
def ap4 (A:List Tok) (b c d e:fQ):bg A ++ ([.str b,.str c,.str d,.str e]:ai)=bg (A ++ [tW b.data.toList,tW c.data.toList,tW d.data.toList,tW e.data.toList]):=by rw[tV];rfl
def ap5 (A:List Tok) (b c d e f:fQ):bg A ++ ([.str b,.str c,.str d,.str e,.str f]:ai)=bg (A ++ [tW b.data.toList,tW c.data.toList,tW d.data.toList,tW e.data.toList,tW f.data.toList]):=by rw[tV];rfl
theorem wI {B:List Tok} (h:X.map (·.text)=B.map (·.text)):bg X=bg B:=by
 have e:∀ T:List Tok,bg T=(T.map (·.text)).map fun s=>PV.str (bs s):=fun T=>by unfold bg; rw[Xp]; rfl
 rw[e,e,h]
theorem bd (s:Nm):(bs s).data.toList=s:=by simp[bs]
theorem WF (v:Int):(gX v).length<=2:=by grind [gX]
theorem aYY (l:List Nm) (c:l.length<=20000):SS.CC 158 [a_ (aJ l)] []=some (a_ (bg (jI (tS [44]) (l.map fun s => [tW s]))),[]):=by
 rw[bL2];have e:=oZ (L:=fun A k=>QW (aJ l) (bg A) (k:Int)) (F:=fun k=>(if k=0 then [] else [tS [44]]) ++ [tW (l.getD k [])]) (n:=l.length) 100000000 (A := []) (fun k hk A b=>by
  rw[aOM,aP (by rw[iR]; omega),aI,BZ hk,kG,bU (by omega),gD hk []];rw[aZ] at b;by_cases a:k=0
  .subst a;rw[bG (by decide),aF,aQ (jD (by omega)),qo];rw[bd];rfl
  .rw[aP (by omega),aI,aQ (jD (by omega)),qo,aQ (jD (by rw[aZ,BD]; omega)),qo,bd,aV a];grind [wI]) (by
  have:∀ (m k:Nat),(fP (fun k=>(if k=0 then [] else [tS [44]]) ++ [tW (l.getD k [])]) k m).length<=2*m:=by
   intro m;induction m with
   | zero=>intro k; exact Io _
   | succ m d =>grind [fP]
  have:=this l.length 0;rw[iJ]; omega)
 refine (show QW (aJ l) [] 0=_ from e).trans ?_;rw[aOM,bG (by rw[iR]; omega),aF,List.nil_append,UL (tS [44]) [] (f:=fun s => [tW s]) rfl (fun k=>rfl)]
def Jf (a:0<=i) (b:i<f.length) (K:PV->R):di (aJ f) i K=K (.str (bs (f.getD i.toNat []))):=by
 have hk:i.toNat<f.length:=by omega
 have e:=BZ hk K;rw[show ((i.toNat:Nat):Int)=i by omega] at e;rw[e,gD hk]
def aTT (l:List Int) (d:l.length<=20000) (k:Int):SS.CC 201 [a_ (jC l),af k] []=some (.bool (decide (k∈l)),[]):=by
 have e:∃ r,V6 (jC l) k ((0:Nat):Int)=some (af r,[])/\decide (0<=r)=yu (fun i=>k==l.getD i 0) l.length:=by
  refine w_ (L:=fun i=>V6 (jC l) k (i:Int)) (fun i a => ?_) ?_
  .rw[aLU,aP (by rw[bn]; omega),aI,NT a,zU,bU (by omega),gD a 0]
  .rw[aLU,bG (by rw[bn]; omega),aF]
 obtain ⟨r,b,c⟩:=e;rw[b8D,bu ((bD7 _ _).trans b),c,a6X (fun y=>k==y) l 0];have:(l.any fun y=>k==y)=decide (k∈l):=by rw[I4]; simp
 rw[this]
def c0D (t:Tm) (c:uC t) (A:List Tok) (d:A.length+(zH t.I t.mr 0 t.ls).length<=100000000):JU (iC t) (bg A) 0=ND (iC t) (bg (A ++ zH t.I t.mr 0 t.ls)) [] 0:=by
 have f:=a7I t.I t.mr t.ls 0;have e:=oZ (L:=fun A k=>JU (iC t) (bg A) (k:Int)) (F:=fun k=>DW t.I t.mr (0+k) (t.ls.getD k [])) (n:=t.ls.length) 100000000 (A:=A) (fun k hk A d=>by
  have h:=c.ls.1;rw[aOL,aP (show (k:Int)<((iC t).2.1.length:Int) by rw[iR]; omega),aI,BZ hk,kG,aQ (jD (by omega)),JC,gD hk []];dsimp only;have g:∀ B:List Tok,B.length<=100000010->Ve (iC t) (bg B) (k:Int) (k:Int)=JU (iC t) (bg (B ++ (if (k:Int)∈t.mr then [tW [109,97,114,107,101,100]] else []) ++ [tS [59]])) ((k+1:Nat):Int):=fun B i=>by
   rw[bKN,aj (aTT t.mr c.mr _),bU (by omega)];by_cases a:(k:Int)∈t.mr
   .rw[aP a,aI,aQ (jD (by omega)),qo,aQ (jD (by rw[aZ,BD]; omega)),qo,ah a];congr 1
    exact wI (by simp)
   .rw[bG a,aF,aQ (jD (by omega)),qo,aV a,BB];congr 1
    exact wI (by simp)
  by_cases b:(k:Int)=t.I
  .rw[Yt b,aI,aQ (jD (by simp only[aZ,bT,iJ]; omega)),qo,g _ (by simp only[aZ,bT,iJ]; omega)];congr 1
   refine wI ?_;unfold DW;rw[rP,ah b,bd];simp
  .rw[a7R b,aF,g _ (by simp only[aZ,bT,iJ]; omega)];congr 1
   refine wI ?_;unfold DW;rw[rP,aV b,bd];simp) (by rw[f]; exact d)
 refine (show JU (iC t) (bg A) 0=_ from e).trans ?_;rw[f,aOL,bG (show ¬ (t.ls.length:Int)<((iC t).2.1.length:Int) by rw[iR]; omega),aF]
def c0L (t:Tm) (g:uC t) (h:CV t) (A:List Tok) (a:A.length+(t.vs.flatMap tq).length<=100000000):ND (iC t) (bg A) [] 0=H6 (iC t) (bg (A ++ t.vs.flatMap tq)) 0 (aJ (t.vs.map (·.n))):=by
 have b:fP (fun k=>tq (t.vs.getD k dV)) 0 t.vs.length=t.vs.flatMap tq:=wW dV fun _ _=>rfl
 have e:=oZ (L:=fun A k=>ND (iC t) (bg A) (aJ ((t.vs.take k).map (·.n))) (k:Int)) (F:=fun k=>tq (t.vs.getD k dV)) (n:=t.vs.length) 100000000 (A:=A) (fun k hk A a=>by
  have j:=g.vs.1;obtain ⟨_,c,d,f⟩:=h.vs _ (fZ hk);have a1:=WF (t.vs[k]).lo;have a2:=WF (t.vs[k]).hi;have a3:=WF (t.vs[k]).i;rw[aOI,aP (show (k:Int)<((iC t).2.2.2.2.2.2.2.1.length:Int) by rw[bn]; omega),aI,Ht hk,aQ (fV (rE _ _ k j)),aQ (jD (by omega))];dsimp only;rw[mQ (RV c.1 c.2),ap3,rD (·.n) t.vs hk,bU (by omega),gD hk dV];rw[aQ (jD (by rw[aZ,nK]; simp only[bT,iJ]; omega)),<- tV];rw[aQ (jD (by simp only[aZ,bT,iJ]; omega)),qo,mQ (RV d.1 d.2)];rw[aQ (jD (by rw[nK]; simp only[aZ,bT,iJ]; omega)),<- tV];rw[aQ (jD (by simp only[aZ,bT,iJ]; omega)),qo,mQ (RV f.1 f.2)];rw[aQ (jD (by rw[nK]; simp only[aZ,bT,iJ]; omega)),<- tV];rw[aQ (jD (by simp only[aZ,bT,iJ]; omega)),qo];congr 1
  refine wI ?_;unfold tq;rw[bd];simp) (by rw[b]; exact a)
 refine (show ND (iC t) (bg A) [] 0=_ from e).trans ?_;rw[b,aOI,bG (show ¬ (t.vs.length:Int)<((iC t).2.2.2.2.2.2.2.1.length:Int) by rw[bn]; omega),aF,TF (dG _)]
def exw (h:vN f.length u):SS.CC 237 [a_ (aJ f),A1 (ev u),af 0] []=some (.sl true 1 (bg (xu f u)),[]):=by obtain ⟨a,b⟩:=UX h;exact (bWU f a h.len).1 (by omega) 0 (WN u)
def aSK (h:vN f.length u):(xu f u).length<=512:=(UX h).2
def Kw (t:Tm):(t.vs.map (·.n)).length=t.vs.length:=bM _
def aCE {a b:PV} (K:PV->R):di [a,b] (if (1:Int)<(j:Int) then (1:Int) else (j:Int)) K=K (if j=0 then a else b):=by
 by_cases h:j=0
 .subst h; rfl
 .rw[aV h,show (if (1:Int)<(j:Int) then (1:Int) else (j:Int))=1 by split<;>omega]; rfl
def c0K (t:Tm) (x:Mv) (o:x.us.length<=20000) (f:∀ u,u∈x.us->(0<=u.1/\u.1<t.vs.length)/\vN t.vs.length u.2) (A:List Tok) (k:Int) (g:A.length+(if x.us = [] then [] else tW [100,111]::jI (tS [44]) (x.us.map (nZ (t.vs.map (·.n))))).length<=100001000) :
 QV (iC t) (bg A) (x.us.map zZ) 0 (aJ (t.vs.map (·.n))) k=H6 (iC t) (bg (A ++ (if x.us = [] then [] else tW [100,111]::jI (tS [44]) (x.us.map (nZ (t.vs.map (·.n))))) ++ [tS [59]])) (i64.wrap (k+1)) (aJ (t.vs.map (·.n))):=by
 have d:fP (fun i=>(if i=0 then tW [100,111] else tS [44])::nZ (t.vs.map (·.n)) (x.us.getD i dU)) 0 x.us.length=(if x.us = [] then [] else tW [100,111]::jI (tS [44]) (x.us.map (nZ (t.vs.map (·.n))))):=by
  by_cases h:x.us = []
  .rw[h]; rfl
  .rw[aV h];exact Yk (tS [44]) dU [tW [100,111]] h rfl fun _=>rfl
 have e:=oZ (L:=fun A i=>QV (iC t) (bg A) (x.us.map zZ) (i:Int) (aJ (t.vs.map (·.n))) k) (F:=fun i=>(if i=0 then tW [100,111] else tS [44])::nZ (t.vs.map (·.n)) (x.us.getD i dU)) 100001000 (fun i c B p=>by
  obtain ⟨⟨j,l⟩,m⟩:=f _ (fZ c);have a:vN (t.vs.map (·.n)).length (x.us[i]).2:=by rw[Kw]; exact m
  have q:=aSK a;rw[aOK,aP (by rw[bn]; omega),aI,Jg c,aCE];rw[show (if i=0 then PV.str ⟨#[100,111]⟩ else PV.str ⟨#[44]⟩) = .str (if i=0 then ⟨#[100,111]⟩ else ⟨#[44]⟩) by split<;>rfl,kG,Jf j (by rw[Kw]; exact l),kG,aQ (jD (by omega)),mQ (exw a),ap3,aQ (jD (by rw[nK]; simp only[aZ,bT,iJ]; omega)),<- tV,bU (by omega),gD c dU];congr 1
  refine wI ?_;unfold nZ;rw[bd];by_cases b:i=0
  .rw[ah b,ah b]; simp
  .rw[aV b,aV b]; simp) (by rw[d]; exact g)
 refine (show QV (iC t) (bg A) (x.us.map zZ) 0 (aJ (t.vs.map (·.n))) k=_ from e).trans ?_;rw[d,aOK,bG (by rw[bn]; omega),aF,aQ (jD (by rw[aZ]; omega)),qo];congr 1
 exact wI (by simp)
def c0G (t:Tm) (c:uC t) (l:CV t) (A:List Tok) (m:A.length+(t.ms.flatMap (pg t)).length<=100000000):H6 (iC t) (bg A) 0 (aJ (t.vs.map (·.n)))=some (a_ (bg (A ++ t.ms.flatMap (pg t) ++ [tS [125]])),[]):=by
 have d:fP (fun k=>pg t (t.ms.getD k dM)) 0 t.ms.length=t.ms.flatMap (pg t):=wW dM fun _ _=>rfl
 have e:=oZ (L:=fun A k=>H6 (iC t) (bg A) (k:Int) (aJ (t.vs.map (·.n)))) (F:=fun k=>pg t (t.ms.getD k dM)) 100000000 (fun k hk B b=>by
  have u:=c.ms.1;obtain ⟨f,h,i,o,p⟩:=l.ms _ (fZ hk);obtain ⟨o1,q,v⟩:=c.ms.2 _ (fZ hk);have a:vN (t.vs.map (·.n)).length (t.ms[k]).g:=by rw[Kw]; exact o
  have w:=aSK a;rw[gD hk dM] at b;unfold pg at b;simp only[aZ,bT] at b;rw[aOJ,aP (show (k:Int)<((iC t).2.2.2.2.2.2.2.2.1.length:Int) by rw[bn]; omega),RF hk];try dsimp only
  rw[Jf f.1 f.2,kG];rw[Jf h.1 h.2,kG];rw[Jf i.1 i.2,kG];rw[aQ (jD (by omega)),eX kF,aj (fK o1 tE),ap4,gD hk dM];have j:∀ C:List Tok,C.length+(if (t.ms[k]).us = [] then [] else tW [100,111]::jI (tS [44]) ((t.ms[k]).us.map (nZ (t.vs.map (·.n))))).length<=100001000->a1E (iC t) (rJ t.ms[k]) (bg C) (aJ (t.vs.map (·.n))) (k:Int)=H6 (iC t) (bg (C ++ (if (t.ms[k]).us = [] then [] else tW [100,111]::jI (tS [44]) ((t.ms[k]).us.map (nZ (t.vs.map (·.n))))) ++ [tS [59]])) ((k+1:Nat):Int) (aJ (t.vs.map (·.n))):=fun C r=>by rw[bKM,<- bU (by omega)];exact c0K t _ q p C _ r
  cases hq:gW (t.ms[k]).g tE with
  | true =>rw[j _ (by simp only[aZ,bT,iJ]; omega)];unfold pg;rw[hq,bd,bd,bd];simp
  | false =>rw[aQ (jD (by simp only[aZ,bT,iJ]; omega)),mQ (exw a),qo,aQ (jD (by rw[nK]; simp only[aZ,bT,iJ]; omega)),<- tV,j _ (by simp only[aZ,bT,iJ]; omega)];unfold pg;rw[hq,bd,bd,bd];simp) (by rw[d]; exact m)
 refine (show H6 (iC t) (bg A) 0 (aJ (t.vs.map (·.n)))=_ from e).trans ?_;rw[d,aOJ,bG (show ¬ (t.ms.length:Int)<((iC t).2.2.2.2.2.2.2.2.1.length:Int) by rw[bn]; omega),aF,aQ (jD (by rw[aZ]; omega)),qo];rw[wI (B:=A ++ t.ms.flatMap (pg t) ++ [tS [125]]) (by simp)]
def c0H (t:Tm) (a:uC t) (b:CV t) (c:(pF t).length<=100000000):SS.CC 157 [A5 (iC t)] []=some (a_ (bg (pF t)),[]):=by unfold pF yD at c;simp only[aZ,bT,iJ] at c;rw[bKZ,wP (aYY t.es a.es.1),aQ (aP (by rw[nK]; show _<=1073741824; omega))];have d:([c5V [116,101,109,112,108,97,116,101],.str (iC t).1,c5V [40]]:ai)=bg [tW [116,101,109,112,108,97,116,101],tW t.n,tS [40]]:=rfl;rw[d,<- tV,aQ (jD (by simp only[aZ,bT,iJ]; omega)),JC,c0D t a _ (by simp only[aZ,bT,iJ]; omega),c0L t a b _ (by simp only[aZ,bT,iJ]; omega),c0G t a b _ (by simp only[aZ,bT,iJ]; omega)];rw[wI (B:=pF t) (by unfold pF yD; simp)]
def c0A (m:Mo) (e:oN) (A:List Tok) (h:A.length<=100000100) (k:Int):BO (aU m) (ny e) (bg A) 0 k=BO (aU m) (ny e) (bg (A ++ (if e.c then [tW [99,111,110,116,114,111,108,108,97,98,108,101]] else []) ++ (if e.o then [tW [111,98,115,101,114,118,97,98,108,101]] else []) ++ (if e.f then [tW [102,111,114,99,105,98,108,101]] else []))) 3 k:=by
 have s0:∀ B:List Tok,B.length<=100000200->BO (aU m) (ny e) (bg B) 0 k=BO (aU m) (ny e) (bg (B ++ (if e.c then [tW [99,111,110,116,114,111,108,108,97,98,108,101]] else []))) 1 k:=fun B a=>by
  rw[Zn,aP (by decide),aI,nD (e := .bool e.c) (by decide) rfl,Aw,wrap64 (by decide) (by decide)];cases e.c with
  | true=>rw[aI,nD (e := c5V [99,111,110,116,114,111,108,108,97,98,108,101]) (by decide) rfl,kG,aQ (jD (by omega)),qo]; congr 1
  | false=>rw[aF,aV TB,BB]; rfl
 have s1:∀ B:List Tok,B.length<=100000200->BO (aU m) (ny e) (bg B) 1 k=BO (aU m) (ny e) (bg (B ++ (if e.o then [tW [111,98,115,101,114,118,97,98,108,101]] else []))) 2 k:=fun B a=>by
  rw[Zn,aP (by decide),aI,nD (e := .bool e.o) (by decide) rfl,Aw,wrap64 (by decide) (by decide)];cases e.o with
  | true=>rw[aI,nD (e := c5V [111,98,115,101,114,118,97,98,108,101]) (by decide) rfl,kG,aQ (jD (by omega)),qo]; congr 1
  | false=>rw[aF,aV TB,BB]; rfl
 have g:∀ B:List Tok,B.length<=100000200->BO (aU m) (ny e) (bg B) 2 k=BO (aU m) (ny e) (bg (B ++ (if e.f then [tW [102,111,114,99,105,98,108,101]] else []))) 3 k:=fun B a=>by
  rw[Zn,aP (by decide),aI,nD (e := .bool e.f) (by decide) rfl,Aw,wrap64 (by decide) (by decide)];cases e.f with
  | true=>rw[aI,nD (e := c5V [102,111,114,99,105,98,108,101]) (by decide) rfl,kG,aQ (jD (by omega)),qo]; congr 1
  | false=>rw[aF,aV TB,BB]; rfl
 have d:∀ (b:Bool) (w:Nm),(if b then [tW w] else []).length<=1:=fun b w=>by cases b<;>simp
 have i:=d e.c [99,111,110,116,114,111,108,108,97,98,108,101];have j:=d e.o [111,98,115,101,114,118,97,98,108,101];rw[s0 A (by omega),s1 _ (by rw[aZ]; omega),g _ (by rw[aZ,aZ]; omega)]
def c09 (m:Mo) (h:lV m) (i:EQ m) (A:List Tok) (j:A.length+(m.es.flatMap vV).length<=100000000):N9 (aU m) (bg A) 0=N8 (aU m) (bg (A ++ m.es.flatMap vV)) 0:=by
 have d:fP (fun k=>vV (m.es.getD k dE)) 0 m.es.length=m.es.flatMap vV:=wW dE fun _ _=>rfl
 have e:=oZ (L:=fun A k=>N9 (aU m) (bg A) (k:Int)) (F:=fun k=>vV (m.es.getD k dE)) (n:=m.es.length) 100000000 (A:=A) (fun k hk B l=>by
  have t:=h.es.1;obtain ⟨_,k0,k4⟩:=i.es _ (fZ hk);rw[gD hk dE] at l;rw[aLD,aP (show (k:Int)<((aU m).2.1.length:Int) by rw[bn]; omega),aI,NR hk,aQ (jD (by omega)),JC,c0A m _ _ (by simp only[aZ,bT,iJ]; omega),gD hk dE];rw[Zn,bG (by decide),aF,bU (by omega)];dsimp only;generalize b:B ++ _ ++ _ ++ _ ++ _=C;have p:C.length<=B.length+5:=by rw[<- b];simp only[aZ,bT,iJ];cases (m.es[k]).c<;>cases (m.es[k]).o<;>cases (m.es[k]).f<;>simp
  have g:vV (m.es[k]) = [tW [101,118,101,110,116],tW (m.es[k]).n] ++ (if (m.es[k]).c then [tW [99,111,110,116,114,111,108,108,97,98,108,101]] else []) ++ (if (m.es[k]).o then [tW [111,98,115,101,114,118,97,98,108,101]] else []) ++ (if (m.es[k]).f then [tW [102,111,114,99,105,98,108,101]] else []) ++ (if (m.es[k]).k=0 then [] else tW [102,97,117,108,116]::gX (m.es[k]).k) ++ [tS [59]]:=rfl;by_cases a:(m.es[k]).k=0
  .rw[bG (by omega),aF,aQ (jD (by omega)),qo];congr 1
   refine wI ?_;rw[g,ah a,<- b,bd];simp
  .have q:gX (m.es[k]).k = [tN (m.es[k]).k.toNat]:=aV (by omega);have r:SS.CC 156 [af (m.es[k]).k] []=some (.str (bs (Lib.decDigits (m.es[k]).k.toNat)),[]):=by have:=a2J (m.es[k]).k.toNat (by omega);rwa [show (((m.es[k]).k.toNat:Nat):Int)=(m.es[k]).k by omega] at this
   rw[aP (by omega),aI,o6 r,aQ (jD (by omega)),JC,aQ (jD (by simp only[aZ,bT,iJ]; omega)),qo];congr 1
   refine wI ?_;rw[g,aV a,q,<- b,bd,bd];simp) (by rw[d]; exact j)
 refine (show N9 (aU m) (bg A) 0=_ from e).trans ?_;rw[d,aLD,bG (show ¬ (m.es.length:Int)<((aU m).2.1.length:Int) by rw[bn]; omega),aF]
def c0J (m:Mo) (a:lV m) (c:EQ m) (A:List Tok) (d:A.length+(m.ts.flatMap pF).length<=100000000):N8 (aU m) (bg A) 0=JO (aU m) ((m.cs ++ m.rs).map dN) (((m.cs ++ m.rs).map dN).length:Int) (bg (A ++ m.ts.flatMap pF)) 0:=by
 have b:fP (fun k=>pF (m.ts.getD k dT)) 0 m.ts.length=m.ts.flatMap pF:=wW dT fun _ _=>rfl
 have e:=oZ (L:=fun A k=>N8 (aU m) (bg A) (k:Int)) (F:=fun k=>pF (m.ts.getD k dT)) (n:=m.ts.length) 100000000 (A:=A) (fun k hk B f=>by have g:=a.ts.1;rw[gD hk dT] at f;rw[aL7,aP (show (k:Int)<((aU m).2.2.1.length:Int) by rw[bn]; omega),aI,Hr hk,wP (c0H _ (a.ts.2 _ (fZ hk)).2 (c.ts _ (fZ hk)).2 (by omega)),aQ (jD (by rw[nK]; omega)),<- tV,bU (by omega),gD hk dT]) (by rw[b]; exact d);refine (show N8 (aU m) (bg A) 0=_ from e).trans ?_;rw[b,aL7,bG (show ¬ (m.ts.length:Int)<((aU m).2.2.1.length:Int) by rw[bn]; omega),aF,Ip (JG m.cs a.is.1),aQ (by rw[bM]; exact DY a.is.1 (by rw[bM]; exact a.is.2.1))];dsimp only;rw[<- yT]
def aI5 (F:Nat->List Tok):∀ (a k b:Nat),fP F k (a+b)=fP F k a ++ fP F (k+a) b
 | 0,k,b=>by rw[rP,fP,List.nil_append,Oq]
 | a+1,k,b=>by rw[show a+1+b=(a+b)+1 by omega,fP,aI5 F a (k+1) b,fP,yS,show k+1+a=k+(a+1) by omega]
def aI9 (F:Nat->List Tok) (a:Nat):∀ (m k:Nat),fP F (k+a) m=fP (fun i=>F (i+a)) k m
 | 0,_=>rfl
 | m+1,k=>by rw[fP,fP,show k+a+1=(k+1)+a by omega,aI9 F a m (k+1)]
def b1E (a b:List Ins):fP (fun k=>nU (if k<a.length then wC else wR) ((a ++ b).getD k dI)) 0 (a ++ b).length=a.flatMap (nU wC) ++ b.flatMap (nU wR):=by
 rw[aZ,aI5,rP];congr 1
 .refine wW dI fun k hk => ?_
  rw[ah hk,gD (by rw[aZ]; omega),gD hk,List.getElem_append_left hk]
 .have:=aI9 (fun k=>nU (if k<a.length then wC else wR) ((a ++ b).getD k dI)) a.length b.length 0;rw[rP] at this;rw[this];refine wW dI fun k hk => ?_
  rw[aV (by omega),gD (by rw[aZ]; omega),gD hk,List.getElem_append_right (by omega)];congr 2
  omega
def c0B (m:Mo) (f:lV m) (g:m.cs.length+m.rs.length<=20000) (A:List Tok) (h:A.length+(m.cs.flatMap (nU wC) ++ m.rs.flatMap (nU wR)).length<=100000000):JO (aU m) ((m.cs ++ m.rs).map dN) (((m.cs ++ m.rs).map dN).length:Int) (bg A) 0=JP (aU m) (bg (A ++ (m.cs.flatMap (nU wC) ++ m.rs.flatMap (nU wR)))) 0:=by
 have j:(m.cs ++ m.rs).length<=20000:=by rw[aZ]; exact g
 have c:=b1E m.cs m.rs;have e:=oZ (L:=fun A k=>JO (aU m) ((m.cs ++ m.rs).map dN) (((m.cs ++ m.rs).map dN).length:Int) (bg A) (k:Int)) (F:=fun k=>nU (if k<m.cs.length then wC else wR) ((m.cs ++ m.rs).getD k dI)) 100000000 (fun k hk B b=>by
  obtain ⟨_,_,i⟩:=f.is.2.2 _ (fZ hk);rw[gD hk dI] at b;have d:∀ w:Nm,B.length+(nU w (m.cs ++ m.rs)[k]).length<=100000000->Zm (aU m) ((m.cs ++ m.rs).map dN) (((m.cs ++ m.rs).map dN).length:Int) (G8 (m.cs ++ m.rs)[k]) (bs w) (bg B) (k:Int)=JO (aU m) ((m.cs ++ m.rs).map dN) (((m.cs ++ m.rs).map dN).length:Int) (bg (B ++ nU w (m.cs ++ m.rs)[k])) ((k+1:Nat):Int):=fun w a=>by
   unfold nU yD at a;simp only[aZ,bT] at a;rw[b8Z,aQ (jD (by omega)),wP (aYY _ i.1),ap5];rw[aQ (jD (by rw[nK]; simp only[aZ,bT,iJ]; omega)),<- tV,aQ (jD (by simp only[aZ,bT,iJ]; omega)),JC,bU (by omega)];congr 1
   refine wI ?_;unfold nU yD;rw[bd,bd,bd];simp
  rw[aL8,aP (by rw[bn]; omega),aI,AZ hk,bn,gD hk dI];by_cases a:k<m.cs.length
  .rw[bG (by omega),aF,ah a];exact d wC b
  .rw[aP (by omega),aI,aV a];exact d wR b) (by rw[c]; exact h)
 refine (show JO (aU m) ((m.cs ++ m.rs).map dN) (((m.cs ++ m.rs).map dN).length:Int) (bg A) 0=_ from e).trans ?_;rw[c,aL8,bG (by rw[bn]; omega),aF]
def aVG {a b:fQ}:(if j=0 then PV.str a else PV.str b) = .str (if j=0 then a else b):=by split<;>rfl
def c0E (m:Mo) (x:uf) (f:x.ls.length<=20000) (d:x.ls ≠ []) (A:List Tok) (k:Int) (g:A.length+(jI (tS [44]) (x.ls.map fun l => [tW l.1,tW l.2])).length<=100000100):QC (aU m) (x.ls.map zL) (bg A) 0 k=JP (aU m) (bg (A ++ tS [58]::jI (tS [44]) (x.ls.map fun l => [tW l.1,tW l.2]) ++ [tS [59]])) (i64.wrap (k+1)):=by
 have b:fP (fun i=>(if i=0 then tS [58] else tS [44]) :: [tW (x.ls.getD i dL).1,tW (x.ls.getD i dL).2]) 0 x.ls.length = [tS [58]] ++ jI (tS [44]) (x.ls.map fun l => [tW l.1,tW l.2]):=Yk (tS [44]) dL [tS [58]] d rfl fun _=>rfl
 have e:=oZ (L:=fun A i=>QC (aU m) (x.ls.map zL) (bg A) (i:Int) k) (F:=fun i=>(if i=0 then tS [58] else tS [44]) :: [tW (x.ls.getD i dL).1,tW (x.ls.getD i dL).2]) (n:=x.ls.length) 100000200 (A:=A) (fun i c B h=>by
  rw[aLA,aP (by rw[bn]; omega),aI,NU c,aCE,aVG,kG,aQ (jD (by omega)),ap3,bU (by omega),gD c dL];congr 1
  refine wI ?_;rw[bd,bd];by_cases a:i=0
  .rw[ah a,ah a]; simp
  .rw[aV a,aV a]; simp) (by rw[b,aZ,BD]; omega)
 refine (show QC (aU m) (x.ls.map zL) (bg A) 0 k=_ from e).trans ?_;rw[b,aLA,bG (by rw[bn]; omega),aF,aQ (jD (by simp only[aZ,bT,iJ]; omega)),qo];congr 1
 exact wI (by simp)
def c0M (m:Mo) (b:lV m) (d:EQ m) (A:List Tok) (f:A.length+(m.xs.flatMap vH).length<=100000000):JP (aU m) (bg A) 0=JQ (m.ks.map og) (bg (A ++ m.xs.flatMap vH)) 0:=by
 have c:fP (fun k=>vH (m.xs.getD k dX)) 0 m.xs.length=m.xs.flatMap vH:=wW dX fun _ _=>rfl
 have e:=oZ (L:=fun A k=>JP (aU m) (bg A) (k:Int)) (F:=fun k=>vH (m.xs.getD k dX)) 100000000 (fun k hk B a=>by have i:=b.xs.1;obtain ⟨_,g,_⟩:=b.xs.2 _ (fZ hk);obtain ⟨_,h,_⟩:=d.xs _ (fZ hk);rw[gD hk dX] at a;unfold vH at a;simp only[aZ,bT] at a;rw[aL9,aP (show (k:Int)<((aU m).2.2.2.2.2.1.length:Int) by rw[bn]; omega),FK hk,aQ (jD (by omega)),JC];refine (c0E m _ g h _ _ (by simp only[aZ,bT,iJ]; omega)).trans ?_;rw[bU (by omega),gD hk dX];unfold vH;rw[bd];simp) (by rw[c]; exact f);refine (show JP (aU m) (bg A) 0=_ from e).trans ?_;rw[c,aL9,bG (show ¬ (m.xs.length:Int)<((aU m).2.2.2.2.2.1.length:Int) by rw[bn]; omega),aF]
def c0I (P:ai) (x:Cst) (n:x.ts.length<=20000) (j:x.ts ≠ []) (d:rM x.b) (m:∀ l,l∈x.ts->rM l.2) (A:List Tok) (k:Int) (o:A.length+(jI (tS [43]) (x.ts.map fun l=>gX l.2 ++ [tS [42],tW l.1])).length<=100000100):QD P (tY x) (bg A) 0 k=JQ P (bg (A ++ tS [58]::jI (tS [43]) (x.ts.map fun l=>gX l.2 ++ [tS [42],tW l.1]) ++ [tS [60,61]] ++ gX x.b ++ [tS [59]])) (i64.wrap (k+1)):=by
 have f:fP (fun i=>(if i=0 then tS [58] else tS [43])::(gX (x.ts.getD i dR).2 ++ [tS [42],tW (x.ts.getD i dR).1])) 0 x.ts.length = [tS [58]] ++ jI (tS [43]) (x.ts.map fun l=>gX l.2 ++ [tS [42],tW l.1]):=Yk (tS [43]) dR [tS [58]] j rfl fun _=>rfl
 have e:=oZ (L:=fun A i=>QD P (tY x) (bg A) (i:Int) k) (F:=fun i=>(if i=0 then tS [58] else tS [43])::(gX (x.ts.getD i dR).2 ++ [tS [42],tW (x.ts.getD i dR).1])) 100000200 (A:=A) (fun i a B g=>by
  have h:=m _ (fZ a);rw[gD a dR] at g;simp only[aZ,bT] at g;rw[aLC,aP (show (i:Int)<((tY x).2.1.length:Int) by rw[bn]; omega),aI,NV a,aCE,aVG,kG,aQ (jD (by omega))];rw[mQ (RV h.1 h.2),qo,aQ (jD (by rw[nK]; simp only[aZ,bT,iJ]; omega)),<- tV,aQ (jD (by simp only[aZ,bT,iJ]; omega)),JC,bU (by omega),gD a dR];congr 1
  refine wI ?_;rw[bd];by_cases c:i=0
  .rw[ah c,ah c]; simp
  .rw[aV c,aV c]; simp) (by rw[f,aZ,BD]; omega)
 have hq:=WF x.b;refine (show QD P (tY x) (bg A) 0 k=_ from e).trans ?_;rw[f,aLC,bG (show ¬ (x.ts.length:Int)<((tY x).2.1.length:Int) by rw[bn]; omega),aF,aQ (jD (by simp only[aZ,bT,iJ]; omega)),qo];rw[mQ (RV d.1 d.2),aQ (jD (by rw[nK]; simp only[aZ,bT,iJ]; omega)),<- tV,aQ (jD (by simp only[aZ,bT,iJ]; omega)),qo];congr 1
 exact wI (by simp)
def c0C (l:List Cst) (n:l.length<=20000) (d:∀ x,x∈l->x.ts.length<=20000) (f:∀ x,x∈l->x.ts ≠ []/\rM x.b/\∀ t,t∈x.ts->rM t.2) (A:List Tok) (g:A.length+(l.flatMap ug).length<=100000000):JQ (l.map og) (bg A) 0=some (a_ (bg (A ++ l.flatMap ug)),[]):=by
 have c:fP (fun k=>ug (l.getD k dK)) 0 l.length=l.flatMap ug:=wW dK fun _ _=>rfl
 have e:=oZ (L:=fun A k=>JQ (l.map og) (bg A) (k:Int)) (F:=fun k=>ug (l.getD k dK)) 100000000 (fun k hk B a=>by have h:=d _ (fZ hk);obtain ⟨i,j,m⟩:=f _ (fZ hk);rw[gD hk dK] at a;unfold ug at a;simp only[aZ,bT] at a;rw[aLB,aP (by rw[bn]; omega),Hq hk,aQ (jD (by omega)),JC];refine (c0I _ _ h i j m _ _ (by simp only[aZ,bT,iJ]; omega)).trans ?_;rw[bU (by omega),gD hk dK];unfold ug;rw[bd];simp) (by rw[c]; exact g);refine (show JQ (l.map og) (bg A) 0=_ from e).trans ?_;rw[c,aLB,bG (by rw[bn]; omega),aF]
def c0F (m:Mo) (a:lV m) (b:EQ m) (e:m.cs.length+m.rs.length<=20000) (d:(oH m).length<=100000000):SS.CC 61 [A0 (aU m)] []=some (a_ (bg (oH m)),[]):=by unfold oH at d;simp only[aZ,bT] at d;rw[b9P];have f:([c5V [109,111,100,101,108],.str (aU m).1,c5V [59]]:ai)=bg [tW [109,111,100,101,108],tW m.n,tS [59]]:=rfl;rw[f,c09 m a b _ (by simp only[bT,iJ]; omega),c0J m a b _ (by simp only[aZ,bT,iJ]; omega),c0B m a e _ (by simp only[aZ,bT,iJ]; omega),c0M m a b _ (by simp only[aZ,bT,iJ]; omega),c0C m.ks a.ks.1 (fun x c=>(a.ks.2 x c).2.1) (fun x c=>⟨(b.ks x c).2.1,(b.ks x c).2.2.1,fun t g=>((b.ks x c).2.2.2 t g).2⟩) _ (by simp only[aZ,bT,iJ]; omega)];unfold oH;simp only[yS]
abbrev Ic (A:List Tok):R:=d_ [aG (fB A)]
theorem Sj (a:ai) (s:fQ) (k:Nat) (A:List Tok) (hk:a[k]? = some (.str s)) (b:k<20000) (h:A.length+1<=1000000):QA a (A.map bI) (k:Int)=QA a ((A ++ [tW s.data.toList]).map bI) ((k+1:Nat):Int):=by
 have c:k<a.length:=by grind
 rw[Zg,aP (by omega),aI,nD (by omega) (by exact hk),kG,aQ (aP (by rw[bM]; show _<=1073741824; omega)),bU (by omega),yT,show [tW s.data.toList].map bI = [qj (1,bs s.data.toList,0,0,0,())] from rfl,Yc]
def aY' (a:ai) (k:Nat) (A:List Tok) (hk:a.length=k):QA a (A.map bI) (k:Int)=Ic A:=by rw[Zg,bG (by omega),aF]
def Ie (s r:fQ) (A:List Tok) (h:A.length+2<=1000000):SS.CC 117 [ag,a_ [.str s,.str r]] [aG (fB A)]=Ic (A ++ [tW s.data.toList,tW r.data.toList]):=by rw[a8K];refine (Sj _ s 0 A rfl (by decide) (by omega)).trans ?_;refine (Sj _ r 1 _ rfl (by decide) (by simp; omega)).trans ?_;rw[aY' _ 2 _ rfl,yS]; rfl
def wo4 (s r u v:fQ) (A:List Tok) (h:A.length+4<=1000000):SS.CC 117 [ag,a_ [.str s,.str r,.str u,.str v]] [aG (fB A)]=Ic (A ++ [tW s.data.toList,tW r.data.toList,tW u.data.toList,tW v.data.toList]):=by rw[a8K];refine (Sj _ s 0 A rfl (by decide) (by omega)).trans ?_;refine (Sj _ r 1 _ rfl (by decide) (by simp; omega)).trans ?_;refine (Sj _ u 2 _ rfl (by decide) (by simp; omega)).trans ?_;refine (Sj _ v 3 _ rfl (by decide) (by simp; omega)).trans ?_;rw[aY' _ 4 _ rfl];simp
def aU7 (l:List Nm) (hk:j<l.length) (A:List Tok) (h:A.length+1<=1000000):SS.CC 203 [af (j:Int),ag,.cst (a_ (aJ l))] [some [.ptr 1 0],aG (fB A)]=d_ [some [.ptr 1 0],aG (fB (A ++ [tW l[j]]))]:=by rw[bDA,BZ hk,kG,bV (yQ _ A h),bd]
theorem aTY (l:List Nm) (f:l.length<=20000) (A:List Tok) (b:A.length+(yD l).length<=1000000):SS.CC 121 [ag,a_ (aJ l)] [aG (fB A)]=Ic (A ++ yD l):=by
 unfold yD at b;simp only[bT] at b;have g:fP (fun k=>(if k=0 then [] else [tS [44]]) ++ [tW (l.getD k [])]) 0 l.length=jI (tS [44]) (l.map fun s => [tW s]):=UL (tS [44]) [] rfl (fun _=>rfl);have e:=oZ (L:=fun A k=>Ux ⟨#[44]⟩ (aJ l) (l.length:Int) (A.map bI) (k:Int)) (F:=fun k=>(if k=0 then [] else [tS [44]]) ++ [tW (l.getD k [])]) (n:=l.length) 1000000 (A:=A ++ [tS [40]]) (fun k hk B a=>by
  rw[aZ] at a;simp only[bT] at a;rw[aLG,aP (by omega),aI,bU (by omega),gD hk []];by_cases c:k=0
  .rw[bG (by omega),pM (aU7 l hk B (by omega)),ah c];try rfl
  .rw[aV c] at a ⊢;simp only[bT] at a;rw[aP (by omega),aI,bV (lC _ B (by omega)),pM (aU7 l hk _ (by simp; omega)),yS]) (by grind)
 have d:SS.CC 122 [ag,af ((aJ l).length:Int),c5V [44],fU 203 [.ptr 1 0,.cst (a_ (aJ l))]] [aG (fB (A ++ [tS [40]])),some [ag]]=d_ [aG (fB (A ++ [tS [40]] ++ jI (tS [44]) (l.map fun s => [tW s]))),some [ag]]:=by rw[b9Y,iR];grind [aLG,aF]
 rw[b8Y,bV (lC ⟨#[40]⟩ A (by omega))];refine (aZT d).trans ?_;rw[bV (lC ⟨#[41]⟩ _ (by grind))];grind [yD]
def exC (h:vN f.length u) (A:List Tok) (d:A.length+(xu f u).length+1<=1000000):SS.CC 34 [ag,a_ (aJ f),A1 (ev u),af 0] [aG (fB A)]=Ic (A ++ xu f u):=by
 obtain ⟨g,j⟩:=UX h;obtain ⟨a,b,c⟩:=bWZ f g h.len;have e:=Ih h.len b c a 0;have i:wp u 0 (xu f u)=xu f u:=by unfold wp;rw[aV (by have:=WN u; omega)]
 rw[i] at e;exact e A d
theorem aFI (l:List Vr) (a:l.length<=20000):SS.CC 200 [.sl false 4 (l.map mM)] []=some (.sl true 1 (aJ (l.map (·.n))),[]):=by
 have e:SS.CC 246 [.sl false 4 (l.map mM),h_ 247] []=some (.sl true 1 (aJ (l.map (·.n))),[]):=by
  rw[bHC];refine mG (n:=l.length) (L:=fun k=>a0N (l.map mM) (aJ ((l.take k).map (·.n))) (k:Int)) (fun k hk => ?_) ?_
  .rw[aN6,aP (by rw[bn]; omega),aI,Ht hk,o6 (bHD _),aQ (fV (rE _ l k a)),rD (·.n) l hk,bU (by omega)]
  grind [aN6,aF]
 rw[bD8,mQ e]
theorem b0O (t:Tm) (d:uC t) (a:ai) (A:List Tok) (g:A.length+(zH t.I t.mr 0 t.ls).length<=1000000):N7 (bs t.n) (aJ t.ls) (aJ t.es) (jJ t) (A.map bI) a 0=QB (bs t.n) (aJ t.ls) (aJ t.es) (jJ t) ((A ++ zH t.I t.mr 0 t.ls).map bI) a 0:=by
 have h:=a7I t.I t.mr t.ls 0;have e:=oZ (L:=fun A k=>N7 (bs t.n) (aJ t.ls) (aJ t.es) (jJ t) (A.map bI) a (k:Int)) (F:=fun k=>DW t.I t.mr (0+k) (t.ls.getD k [])) (n:=t.ls.length) 1000000 (fun k hk B f=>by
  have j:=d.ls.1;unfold DW at f;simp only[aZ,bT] at f;rw[aL2,aP (by rw[iR]; omega),aI,BZ hk,kG,bV (Ie _ _ B (by omega))];have l:∀ C:List Tok,C.length+(if (k:Int)∈t.mr then [tW [109,97,114,107,101,100]] else []).length+1<=1000000->Zi (bs t.n) (aJ t.ls) (aJ t.es) (jJ t) (C.map bI) a (k:Int) (k:Int)=N7 (bs t.n) (aJ t.ls) (aJ t.es) (jJ t) ((C ++ (if (k:Int)∈t.mr then [tW [109,97,114,107,101,100]] else []) ++ [tS [59]]).map bI) a ((k+1:Nat):Int):=fun C c=>by
   rw[b8L,aj (aTT t.mr d.mr _),bU (by omega)];by_cases b:(k:Int)∈t.mr
   .rw[ah b] at c ⊢;simp only[bT] at c;rw[aP b,aI,bV (yQ ⟨#[109,97,114,107,101,100]⟩ C (by omega)),bV (lC ⟨#[59]⟩ _ (by simp; omega))]
   .rw[aV b] at c ⊢;rw[bG b,aF,bV (lC ⟨#[59]⟩ C (by omega)),BB]
  by_cases i:(k:Int)=t.I
  .rw[show ((k:Int)==(jJ t).2.2.1)=true from Yt i,aI,bV (yQ _ _ (by simp; omega))];grind [DW,bd]
  grind [aF,DW,bd]) (by rw[h]; exact g)
 grind [aL2,iR,aF]
theorem b0W (t:Tm) (g:uC t) (h:CV t) (a:ai) (A:List Tok) (i:A.length+(t.vs.flatMap tq).length<=1000000):QB (bs t.n) (aJ t.ls) (aJ t.es) (jJ t) (A.map bI) a 0=Gw (bs t.n) (aJ t.ls) (aJ t.es) (jJ t) ((A ++ t.vs.flatMap tq).map bI) a 0:=by
 have j:fP (fun k=>tq (t.vs.getD k dV)) 0 t.vs.length=t.vs.flatMap tq:=wW dV fun _ _=>rfl
 have e:=oZ (L:=fun A k=>QB (bs t.n) (aJ t.ls) (aJ t.es) (jJ t) (A.map bI) a (k:Int)) (F:=fun k=>tq (t.vs.getD k dV)) (n:=t.vs.length) 1000000 (A:=A) (fun k hk B b=>by have l:=g.vs.1;obtain ⟨_,c,d,f⟩:=h.vs _ (fZ hk);rw[gD hk dV] at b;unfold tq at b;simp only[aZ,bT,iJ] at b;rw[aL0,aP (show (k:Int)<((jJ t).2.2.2.2.1.length:Int) by rw[bn]; omega),aI,Ht hk,bV (Ie _ _ B (by omega))];dsimp only;rw[bV (lC _ _ (by grind))];rw[bV (Jp c.1 c.2 _ (by grind))];rw[bV (lC _ _ (by grind))];rw[bV (Jp d.1 d.2 _ (by grind))];rw[bV (lC _ _ (by grind))];rw[bV (Jp f.1 f.2 _ (by grind))];rw[bV (lC _ _ (by grind)),bU (by omega),gD hk dV];grind [tq,bd]) (by rw[j]; exact i);grind [aL0,aF]
theorem b0V (t:Tm) (x:Mv) (m:x.us.length<=20000) (f:∀ u,u∈x.us->(0<=u.1/\u.1<t.vs.length)/\vN t.vs.length u.2) (A:List Tok) (o:A.length+(jI (tS [44]) (x.us.map (nZ (t.vs.map (·.n))))).length+1<=1000000) :
 SS.CC 122 [ag,af (x.us.length:Int),c5V [44],fU 202 [.ptr 1 0,.ptr 2 0,.ptr 3 0]] [aG (fB A),some [ag],jg (aJ (t.vs.map (·.n)),()),O9 (rJ x)]=d_ [aG (fB (A ++ jI (tS [44]) (x.us.map (nZ (t.vs.map (·.n)))))),some [ag],jg (aJ (t.vs.map (·.n)),()),O9 (rJ x)]:=by
 have g:fP (fun i=>(if i=0 then [] else [tS [44]]) ++ nZ (t.vs.map (·.n)) (x.us.getD i dU)) 0 x.us.length=jI (tS [44]) (x.us.map (nZ (t.vs.map (·.n)))):=UL (tS [44]) dU rfl (fun _=>rfl);have one:∀ (i:Nat) (a:i<x.us.length) (B:List Tok),B.length+(nZ (t.vs.map (·.n)) x.us[i]).length+1<=1000000->SS.CC 202 [af (i:Int),ag,.ptr 1 0,.ptr 2 0] [some [.ptr 3 0],jg (aJ (t.vs.map (·.n)),()),O9 (rJ x),aG (fB B)]=d_ [some [.ptr 3 0],jg (aJ (t.vs.map (·.n)),()),O9 (rJ x),aG (fB (B ++ nZ (t.vs.map (·.n)) x.us[i]))]:=fun i a B b=>by
  obtain ⟨⟨h,j⟩,l⟩:=f _ (fZ a);have c:vN (t.vs.map (·.n)).length (x.us[i]).2:=by rw[Kw]; exact l
  unfold nZ at b;rw[bD9,Jg a];rw[Jf h (by rw[Kw]; exact j),kG,bV (yQ _ B (by omega)),bV (lC _ _ (by grind)),Jg a];refine (bV (exC c _ (by grind))).trans ?_;grind [nZ,bd]
 have e:=oZ (L:=fun A i=>Uw ⟨#[44]⟩ (x.us.length:Int) (A.map bI) (aJ (t.vs.map (·.n))) (rJ x) (i:Int)) (F:=fun i=>(if i=0 then [] else [tS [44]]) ++ nZ (t.vs.map (·.n)) (x.us.getD i dU)) 999999 (A:=A) (fun i a B b=>by
  rw[gD a dU,aZ] at b;rw[aLF,aP (by omega),aI,bU (by omega),gD a dU];by_cases d:i=0
  .rw[bG (by omega),aGR (one i a B (by omega)),ah d];rfl
  .rw[aV d] at b ⊢;rw[aP (by omega),aI,bV (lC _ B (by omega)),aGR (one i a _ (by grind)),yS]) (by rw[g]; omega)
 rw[b9V];grind [aLF,aF]
theorem b0R (t:Tm) (d:uC t) (p:CV t) (A:List Tok) (w:A.length+(t.ms.flatMap (pg t)).length+2<=1000000):Gw (bs t.n) (aJ t.ls) (aJ t.es) (jJ t) (A.map bI) (aJ (t.vs.map (·.n))) 0=Ic (A ++ t.ms.flatMap (pg t) ++ [tS [125]]):=by
 have f:fP (fun k=>pg t (t.ms.getD k dM)) 0 t.ms.length=t.ms.flatMap (pg t):=wW dM fun _ _=>rfl
 have e:=oZ (L:=fun A k=>Gw (bs t.n) (aJ t.ls) (aJ t.es) (jJ t) (A.map bI) (aJ (t.vs.map (·.n))) (k:Int)) (F:=fun k=>pg t (t.ms.getD k dM)) 999998 (A:=A) (fun k hk B a=>by
  have x:=d.ms.1;obtain ⟨h,i,j,q,r⟩:=p.ms _ (fZ hk);obtain ⟨o1,u,y⟩:=d.ms.2 _ (fZ hk);have c:vN (t.vs.map (·.n)).length (t.ms[k]).g:=by rw[Kw]; exact q
  rw[gD hk dM] at a;unfold pg at a;simp only[aZ,bT] at a;rw[aL1,aP (show (k:Int)<((jJ t).2.2.2.2.2.1.length:Int) by rw[bn]; omega),RF hk];rw[Jf h.1 h.2,kG,Jf i.1 i.2,kG,Jf j.1 j.2,kG];rw[bV (wo4 _ _ _ _ B (by omega)),eX kF,aj (fK o1 tE),gD hk dM];have l:∀ C:List Tok,C.length+(if (t.ms[k]).us = [] then [] else tW [100,111]::jI (tS [44]) ((t.ms[k]).us.map (nZ (t.vs.map (·.n))))).length+2<=1000000->Zk (bs t.n) (aJ t.ls) (aJ t.es) (jJ t) (C.map bI) (aJ (t.vs.map (·.n))) (rJ t.ms[k]) (k:Int)=Gw (bs t.n) (aJ t.ls) (aJ t.es) (jJ t) ((C ++ (if (t.ms[k]).us = [] then [] else tW [100,111]::jI (tS [44]) ((t.ms[k]).us.map (nZ (t.vs.map (·.n))))) ++ [tS [59]]).map bI) (aJ (t.vs.map (·.n))) ((k+1:Nat):Int):=fun C m=>by
   have o:∀ D:List Tok,D.length+(jI (tS [44]) ((t.ms[k]).us.map (nZ (t.vs.map (·.n))))).length+2<=1000000->Zl (bs t.n) (aJ t.ls) (aJ t.es) (jJ t) (D.map bI) (aJ (t.vs.map (·.n))) (rJ t.ms[k]) (k:Int)=Gw (bs t.n) (aJ t.ls) (aJ t.es) (jJ t) ((D ++ jI (tS [44]) ((t.ms[k]).us.map (nZ (t.vs.map (·.n)))) ++ [tS [59]]).map bI) (aJ (t.vs.map (·.n))) ((k+1:Nat):Int):=fun D z=>by rw[b8N,show (((rJ t.ms[k]).2.2.2.2.2.2.2.1.length:Nat):Int)=((t.ms[k]).us.length:Int) from bn _ _,aZS (b0V t _ u r D (by omega)),bU (by omega)];rw[bV (lC _ _ (by grind))]
   rw[b8M,show (((rJ t.ms[k]).2.2.2.2.2.2.2.1.length:Nat):Int)=((t.ms[k]).us.length:Int) from bn _ _];by_cases b:(t.ms[k]).us = []
   .rw[o C (by rw[b]; show C.length+0+2<=1000000; omega),b];rfl
   .rw[aV b] at m ⊢;simp only[bT] at m;have v:0<(t.ms[k]).us.length:=List.length_pos_iff.2 b;rw[aP (by omega),bV (yQ _ C (by omega)),o _ (by simp only[aZ,bT,iJ]; omega)];simp
  cases hq:gW (t.ms[k]).g tE with
  | true =>rw[l _ (by simp only[aZ,bT,iJ]; omega)];unfold pg;rw[hq,bd,bd,bd];simp
  | false =>rw[hq,aV TB] at a;simp only[bT] at a;rw[bV (yQ _ _ (by simp only[aZ,bT,iJ]; omega)),bV (exC c _ (by simp only[aZ,bT,iJ]; omega)),l _ (by simp only[aZ,bT,iJ]; omega)];unfold pg;rw[hq,bd,bd,bd];simp) (by rw[f]; omega)
 refine (show Gw (bs t.n) (aJ t.ls) (aJ t.es) (jJ t) (A.map bI) (aJ (t.vs.map (·.n))) 0=_ from e).trans ?_;rw[f,aL1,bG (show ¬ (t.ms.length:Int)<((jJ t).2.2.2.2.2.1.length:Int) by rw[bn]; omega),aF,bV (lC ⟨#[125]⟩ _ (by simp only[aZ]; omega))]
def b0S (t:Tm) (a:uC t) (b:CV t) (A:List Tok) (c:A.length+(pF t).length+2<=1000000):SS.CC 120 [ag,A5 (iC t)] [aG (fB A)]=Ic (A ++ pF t):=by
 unfold pF at c;simp only[aZ,bT] at c;rw[b8X];rw[mQ (aFI t.vs a.vs.1),bV (Ie _ _ A (by omega)),bV (aTY t.es a.es.1 _ (by simp only[aZ,bT,iJ]; omega)),bV (lC _ _ (by simp only[aZ,bT,iJ]; omega))];rw[b0O t a _ _ (by simp only[aZ,bT,iJ]; omega),b0W t a b _ _ (by simp only[aZ,bT,iJ]; omega),b0R t a b _ (by simp only[aZ,bT,iJ]; omega)];have d:A ++ [tW (⟨#[116,101,109,112,108,97,116,101]⟩:fQ).data.toList,tW (bs t.n).data.toList] ++ yD t.es ++ [tS (⟨#[123]⟩:fQ).data.toList] ++ zH t.I t.mr 0 t.ls ++ t.vs.flatMap tq ++ t.ms.flatMap (pg t) ++ [tS [125]]=A ++ pF t:=by unfold pF;rw[bd];simp
 rw[<- d]
abbrev fC (e:oN):List Tok:=if e.c then [tW [99,111,110,116,114,111,108,108,97,98,108,101]] else []
abbrev fO (e:oN):List Tok:=if e.o then [tW [111,98,115,101,114,118,97,98,108,101]] else []
abbrev fF (e:oN):List Tok:=if e.f then [tW [102,111,114,99,105,98,108,101]] else []
def b0J (m:Mo) (e:oN) (A:List Tok) (d:A.length+3<=1000000) (k:Int):lX (aU m) (A.map bI) (ny e) 0 k=lX (aU m) ((A ++ fC e ++ fO e ++ fF e).map bI) (ny e) 3 k:=by
 have s0:∀ B:List Tok,B.length+1<=1000000->lX (aU m) (B.map bI) (ny e) 0 k=lX (aU m) ((B ++ fC e).map bI) (ny e) 1 k:=fun B a=>by
  have q:lX (aU m) (B.map bI) (ny e) 0 k=aB e.c (aY 117 [ag,a_ [c5V [99,111,110,116,114,111,108,108,97,98,108,101]]] [aG (fB B)] fun _ u=>lX (aU m) u.1 (ny e) 1 k) (lX (aU m) (B.map bI) (ny e) 1 k):=(Nk _ _ _ _ _).trans (by kernel_rfl);rw[q];unfold fC;cases e.c with
  | true=>rw[bV (yQ _ B a)]; rfl
  | false=>rw[aF,aV TB,BB]
 have s1:∀ B:List Tok,B.length+1<=1000000->lX (aU m) (B.map bI) (ny e) 1 k=lX (aU m) ((B ++ fO e).map bI) (ny e) 2 k:=fun B a=>by
  have q:lX (aU m) (B.map bI) (ny e) 1 k=aB e.o (aY 117 [ag,a_ [c5V [111,98,115,101,114,118,97,98,108,101]]] [aG (fB B)] fun _ u=>lX (aU m) u.1 (ny e) 2 k) (lX (aU m) (B.map bI) (ny e) 2 k):=(Nk _ _ _ _ _).trans (by kernel_rfl);rw[q];unfold fO;cases e.o with
  | true=>rw[bV (yQ _ B a)]; rfl
  | false=>rw[aF,aV TB,BB]
 have b:∀ B:List Tok,B.length+1<=1000000->lX (aU m) (B.map bI) (ny e) 2 k=lX (aU m) ((B ++ fF e).map bI) (ny e) 3 k:=fun B a=>by
  have q:lX (aU m) (B.map bI) (ny e) 2 k=aB e.f (aY 117 [ag,a_ [c5V [102,111,114,99,105,98,108,101]]] [aG (fB B)] fun _ u=>lX (aU m) u.1 (ny e) 3 k) (lX (aU m) (B.map bI) (ny e) 3 k):=(Nk _ _ _ _ _).trans (by kernel_rfl);rw[q];unfold fF;cases e.f with
  | true=>rw[bV (yQ _ B a)]; rfl
  | false=>rw[aF,aV TB,BB]
 have g:(fC e).length<=1:=by unfold fC; cases e.c<;>simp
 have h:(fO e).length<=1:=by unfold fO; cases e.o<;>simp
 rw[s0 A (by omega),s1 _ (by rw[aZ]; omega),b _ (by rw[aZ,aZ]; omega)]
theorem b0I (m:Mo) (c:lV m) (d:EQ m) (A:List Tok) (f:A.length+(m.es.flatMap vV).length<=900000):Qa (aU m) (A.map bI) 0=QX (aU m) ((A ++ m.es.flatMap vV).map bI) 0:=by
 have g:fP (fun k=>vV (m.es.getD k dE)) 0 m.es.length=m.es.flatMap vV:=wW dE fun _ _=>rfl
 have e:=oZ (L:=fun A k=>Qa (aU m) (A.map bI) (k:Int)) (F:=fun k=>vV (m.es.getD k dE)) (n:=m.es.length) 900000 (A:=A) (fun k hk B b=>by
  have i:=c.es.1;obtain ⟨_,k0,k4⟩:=d.es _ (fZ hk);have h:vV (m.es[k]) = [tW [101,118,101,110,116],tW (m.es[k]).n] ++ fC m.es[k] ++ fO m.es[k] ++ fF m.es[k] ++ (if (m.es[k]).k=0 then [] else tW [102,97,117,108,116]::gX (m.es[k]).k) ++ [tS [59]]:=rfl;rw[gD hk dE] at b ⊢;rw[h] at b ⊢;simp only[aZ,bT,iJ] at b;have j:(fC m.es[k]).length<=1:=by grind
  have l:(fO m.es[k]).length<=1:=by grind
  have o:(fF m.es[k]).length<=1:=by grind
  rw[aOS,aP (show (k:Int)<((aU m).2.1.length:Int) by rw[bn]; omega),aI,NR hk,bV (Ie _ _ B (by omega))];refine (b0J m m.es[k] _ (by grind) _).trans ?_;rw[Nk,bG (by decide),aF,bU (by omega)];dsimp only;by_cases a:(m.es[k]).k=0
  .rw[show ((m.es[k]).k != 0)=false from Ei a,aF,bV (lC _ _ (by grind)),ah a];grind [bd]
  .rw[aV a] at b ⊢;simp only[bT] at b;rw[show ((m.es[k]).k != 0)=true from UH a,aI,bV (yQ _ _ (by grind)),bV (Jp (by omega) (by omega) _ (by grind)),bV (lC _ _ (by grind))];grind [bd]) (by rw[g]; exact f)
 grind [aOS,aF]
theorem b0U (m:Mo) (a:lV m) (b:EQ m) (A:List Tok) (c:A.length+(m.ts.flatMap pF).length<=900000):QX (aU m) (A.map bI) 0=H7 (aU m) ((A ++ m.ts.flatMap pF).map bI) 0:=by
 have d:fP (fun k=>pF (m.ts.getD k dT)) 0 m.ts.length=m.ts.flatMap pF:=wW dT fun _ _=>rfl
 have e:=oZ (L:=fun A k=>QX (aU m) (A.map bI) (k:Int)) (F:=fun k=>pF (m.ts.getD k dT)) 900000 (fun k hk B f=>by have g:=a.ts.1;rw[gD hk dT] at f;rw[aOP,aP (show (k:Int)<((aU m).2.2.1.length:Int) by rw[bn]; omega),aI,Hr hk,bV (b0S _ (a.ts.2 _ (fZ hk)).2 (b.ts _ (fZ hk)).2 B (by omega)),bU (by omega),gD hk dT]) (by rw[d]; exact c);grind [aOP,aF]
theorem aQ5 (w:fQ) (x:Ins) (e:zq x.es) (B:List Tok) (K:Sh.V iL->R) (f:B.length+(nU w.data.toList x).length<=900000):(aY 117 [ag,a_ [.str w,.str (bs x.n)]] [aG (fB B)] fun _ a=>aY 118 [ag,a_ [c5V [61]]] [aG a] fun _ b=>aY 117 [ag,a_ [.str (bs x.t)]] [aG b] fun _ c=>aY 121 [ag,a_ (aJ x.es)] [aG c] fun _ d=>aY 118 [ag,a_ [c5V [59]]] [aG d] fun _ u32=>K u32)=K (fB (B ++ nU w.data.toList x)):=by unfold nU at f;rw[bV (Ie _ _ B (by omega)),bV (lC _ _ (by grind)),bV (yQ _ _ (by grind)),bV (aTY _ e.1 _ (by grind)),bV (lC _ _ (by grind))];grind [nU,bd]
def b0L (m:Mo) (l:List Ins) (f:l.length<=20000) (c:∀ x,x∈l->zq x.es) (A:List Tok) (d:A.length+(l.flatMap (nU wC)).length<=900000):AO (aU m) (A.map bI) 0 (l.map dN) 0 0 ((l.map dN).length:Int)=H7 (aU m) ((A ++ l.flatMap (nU wC)).map bI) 1:=by
 have a:fP (fun k=>nU wC (l.getD k dI)) 0 l.length=l.flatMap (nU wC):=wW dI fun _ _=>rfl
 have e:=oZ (L:=fun A k=>AO (aU m) (A.map bI) (k:Int) (l.map dN) 0 0 ((l.map dN).length:Int)) (F:=fun k=>nU wC (l.getD k dI)) 900000 (fun k hk B b=>by rw[gD hk dI] at b ⊢;rw[Wh,aP (by rw[bn]; omega),AZ hk,bU (by omega)];exact aQ5 ⟨#[99,111,109,112,111,110,101,110,116]⟩ _ (c _ (fZ hk)) B _ b) (by rw[a]; exact d);refine (show AO (aU m) (A.map bI) 0 (l.map dN) 0 0 ((l.map dN).length:Int)=_ from e).trans ?_;rw[a,Wh,bG (by rw[bn]; omega)];rfl
def b0M (m:Mo) (l:List Ins) (f:l.length<=20000) (c:∀ x,x∈l->zq x.es) (A:List Tok) (d:A.length+(l.flatMap (nU wR)).length<=900000):AO (aU m) (A.map bI) 0 (l.map dN) 1 1 ((l.map dN).length:Int)=H7 (aU m) ((A ++ l.flatMap (nU wR)).map bI) 2:=by
 have a:fP (fun k=>nU wR (l.getD k dI)) 0 l.length=l.flatMap (nU wR):=wW dI fun _ _=>rfl
 have e:=oZ (L:=fun A k=>AO (aU m) (A.map bI) (k:Int) (l.map dN) 1 1 ((l.map dN).length:Int)) (F:=fun k=>nU wR (l.getD k dI)) 900000 (fun k hk B b=>by rw[gD hk dI] at b ⊢;rw[Wh,aP (by rw[bn]; omega),AZ hk,bU (by omega)];exact aQ5 ⟨#[114,101,113,117,105,114,101,109,101,110,116]⟩ _ (c _ (fZ hk)) B _ b) (by rw[a]; exact d);refine (show AO (aU m) (A.map bI) 0 (l.map dN) 1 1 ((l.map dN).length:Int)=_ from e).trans ?_;rw[a,Wh,bG (by rw[bn]; omega)];rfl
def b0K (m:Mo) (a:lV m) (A:List Tok) (e:A.length+(m.cs.flatMap (nU wC)).length+(m.rs.flatMap (nU wR)).length<=900000):H7 (aU m) (A.map bI) 0=QY (aU m) ((A ++ m.cs.flatMap (nU wC) ++ m.rs.flatMap (nU wR)).map bI) 0:=by
 have c:H7 (aU m) (A.map bI) 0=AO (aU m) (A.map bI) 0 (m.cs.map dN) 0 0 ((m.cs.map dN).length:Int):=(a9M _ _ _).trans (by kernel_rfl);have d:∀ B:List Tok,H7 (aU m) (B.map bI) 1=AO (aU m) (B.map bI) 0 (m.rs.map dN) 1 1 ((m.rs.map dN).length:Int):=fun B=>(a9M _ _ _).trans (by kernel_rfl)
 rw[c,b0L m m.cs a.is.1 (fun x b=>(a.is.2.2 x (EI _ b)).2.2) A (by omega),d,b0M m m.rs a.is.2.1 (fun x b=>(a.is.2.2 x (Du _ b)).2.2) _ (by rw[aZ]; omega),a9M,bG (by decide),aF]
theorem b0P (x:uf) (g:x.ls.length<=20000) (A:List Tok) (d:A.length+(jI (tS [44]) (x.ls.map fun l => [tW l.1,tW l.2])).length<=900000):SS.CC 122 [ag,af (x.ls.length:Int),c5V [44],fU 123 [.ptr 1 0,.ptr 2 0]] [aG (fB A),some [ag],yg (OZ x)]=d_ [aG (fB (A ++ jI (tS [44]) (x.ls.map fun l => [tW l.1,tW l.2]))),some [ag],yg (OZ x)]:=by
 have f:fP (fun i=>(if i=0 then [] else [tS [44]]) ++ [tW (x.ls.getD i dL).1,tW (x.ls.getD i dL).2]) 0 x.ls.length=jI (tS [44]) (x.ls.map fun l => [tW l.1,tW l.2]):=UL (tS [44]) dL rfl (fun _=>rfl);have one:∀ (i:Nat) (a:i<x.ls.length) (B:List Tok),B.length+2<=1000000->SS.CC 123 [af (i:Int),ag,.ptr 1 0] [some [.ptr 2 0],yg (OZ x),aG (fB B)]=d_ [some [.ptr 2 0],yg (OZ x),aG (fB (B ++ [tW (x.ls[i]).1,tW (x.ls[i]).2]))]:=fun i a B b=>by rw[bA1,NU a,NU a,bV (Ie _ _ B b),bd,bd]
 have e:=oZ (L:=fun A i=>Uy ⟨#[44]⟩ (x.ls.length:Int) (A.map bI) (OZ x) (i:Int)) (F:=fun i=>(if i=0 then [] else [tS [44]]) ++ [tW (x.ls.getD i dL).1,tW (x.ls.getD i dL).2]) (n:=x.ls.length) 900000 (fun i a B b=>by
  rw[aLH,aP (by omega),aI,bU (by omega),gD a dL];by_cases c:i=0
  .rw[bG (by omega),aGO (one i a B (by omega)),ah c];rfl
  .rw[aV c];rw[aP (by omega),aI,bV (lC _ B (by omega)),aGO (one i a _ (by grind)),yS]) (by rw[f]; exact d)
 rw[bA0];grind [aLH,aF]
theorem b0T (x:Cst) (j:x.ts.length<=20000) (d:∀ l,l∈x.ts->rM l.2) (A:List Tok) (f:A.length+(jI (tS [43]) (x.ts.map fun l=>gX l.2 ++ [tS [42],tW l.1])).length<=900000):SS.CC 122 [ag,af (x.ts.length:Int),c5V [43],fU 124 [.ptr 1 0,.ptr 2 0]] [aG (fB A),some [ag],wQ (tY x)]=d_ [aG (fB (A ++ jI (tS [43]) (x.ts.map fun l=>gX l.2 ++ [tS [42],tW l.1]))),some [ag],wQ (tY x)]:=by
 have g:fP (fun i=>(if i=0 then [] else [tS [43]]) ++ (gX (x.ts.getD i dR).2 ++ [tS [42],tW (x.ts.getD i dR).1])) 0 x.ts.length=jI (tS [43]) (x.ts.map fun l=>gX l.2 ++ [tS [42],tW l.1]):=UL (tS [43]) dR rfl (fun _=>rfl);have one:∀ (i:Nat) (a:i<x.ts.length) (B:List Tok),B.length+4<=1000000->SS.CC 124 [af (i:Int),ag,.ptr 1 0] [some [.ptr 2 0],wQ (tY x),aG (fB B)]=d_ [some [.ptr 2 0],wQ (tY x),aG (fB (B ++ (gX (x.ts[i]).2 ++ [tS [42],tW (x.ts[i]).1])))]:=fun i a B h=>by have b:=d _ (fZ a);have m:=WF (x.ts[i]).2;rw[bA2,NV a];rw[bV (Jp b.1 b.2 B (by omega)),bV (lC _ _ (by grind)),NV a,bV (yQ _ _ (by grind)),bd];simp
 have e:=oZ (L:=fun A i=>Uu ⟨#[43]⟩ (x.ts.length:Int) (A.map bI) (tY x) (i:Int)) (F:=fun i=>(if i=0 then [] else [tS [43]]) ++ (gX (x.ts.getD i dR).2 ++ [tS [42],tW (x.ts.getD i dR).1])) (n:=x.ts.length) 900000 (fun i a B h=>by
  rw[aLE,aP (by omega),aI,bU (by omega),gD a dR];by_cases c:i=0
  .rw[bG (by omega),aGP (one i a B (by omega)),ah c];rfl
  .rw[aV c];rw[aP (by omega),aI,bV (lC _ B (by omega)),aGP (one i a _ (by grind)),yS]) (by rw[g]; exact f)
 rw[b9S];grind [aLE,aF]
theorem b0X (m:Mo) (a:lV m) (A:List Tok) (b:A.length+(m.xs.flatMap vH).length<=900000):QY (aU m) (A.map bI) 0=QZ (m.ks.map og) ((A ++ m.xs.flatMap vH).map bI) 0:=by
 have c:fP (fun k=>vH (m.xs.getD k dX)) 0 m.xs.length=m.xs.flatMap vH:=wW dX fun _ _=>rfl
 have e:=oZ (L:=fun A k=>QY (aU m) (A.map bI) (k:Int)) (F:=fun k=>vH (m.xs.getD k dX)) 900000 (fun k hk B d=>by have g:=a.xs.1;obtain ⟨_,f,_⟩:=a.xs.2 _ (fZ hk);unfold vH at d;rw[aOQ,aP (show (k:Int)<((aU m).2.2.2.2.2.1.length:Int) by rw[bn]; omega),aI,FK hk,bV (Ie _ _ B (by omega)),bV (lC _ _ (by grind)),bn,aZO (b0P _ f _ (by grind)),bV (lC _ _ (by grind)),bU (by omega)];grind [vH,bd]) (by rw[c]; exact b);grind [aOQ,aF]
theorem b0N (l:List Cst) (m:l.length<=20000) (c:∀ x,x∈l->x.ts.length<=20000) (d:∀ x,x∈l->rM x.b/\∀ t,t∈x.ts->rM t.2) (A:List Tok) (f:A.length+(l.flatMap ug).length<=900000):QZ (l.map og) (A.map bI) 0=Ic (A ++ l.flatMap ug):=by
 have g:fP (fun k=>ug (l.getD k dK)) 0 l.length=l.flatMap ug:=wW dK fun _ _=>rfl
 have e:=oZ (L:=fun A k=>QZ (l.map og) (A.map bI) (k:Int)) (F:=fun k=>ug (l.getD k dK)) 900000 (fun k hk B h=>by have i:=c _ (fZ hk);obtain ⟨a,j⟩:=d _ (fZ hk);unfold ug at h;rw[aOR,aP (by rw[bn]; omega),aI,Hq hk,bV (Ie _ _ B (by omega)),bV (lC _ _ (by grind)),bn,aZP (b0T _ i j _ (by grind)),bV (lC _ _ (by grind))];rw[bV (Jp a.1 a.2 _ (by grind)),bV (lC _ _ (by grind)),bU (by omega)];grind [ug,bd]) (by rw[g]; exact f);grind [aOR,aF]
theorem b0Q (m:Mo) (a:lV m) (b:EQ m) (d:(oH m).length<=900000):SS.CC 24 [ag,A0 (aU m)] [aG (fB [])]=Ic (oH m):=by unfold oH at d;simp only[aZ,bT] at d;rw[bLK,bV (Ie _ _ [] (by decide)),bV (lC _ _ (by simp))];rw[b0I m a b _ (by grind),b0U m a b _ (by grind),b0K m a _ (by grind),b0X m a _ (by grind),b0N m.ks a.ks.1 (fun x c=>(a.ks.2 x c).2.1) (fun x c=>⟨(b.ks x c).2.2.1,fun t e=>((b.ks x c).2.2.2 t e).2⟩) _ (by grind)];rfl
structure oO where
 d:Nat
 last:Nm
 out:Nm
 fr:Bool
def vk (a:oO) (s:Nm):oO:=if s = [125] then ⟨a.d-1,a.last,if a.fr then a.out else a.out ++ [10],true⟩ else a
def tC (a:oO) (s:Nm):Nm:=(if a.fr then a.out ++ Lib.repeatL [32,32] a.d else if s = [44]\/s = [59]\/s = [41]\/a.last = [40] then a.out else a.out ++ [32]) ++ s
def nM (d:Nat) (s o:Nm):oO:=if s = [123] then ⟨d+1,s,o ++ [10],true⟩ else if s = [125]\/s = [59] then ⟨d,s,o ++ [10],true⟩ else ⟨d,s,o,false⟩
def kZ (a:oO) (s:Nm):oO:=nM (vk a s).d s (tC (vk a s) s)
def Nr (a:oO):Nm:=if a.fr then a.out else a.out ++ [10]
def aIB (l:Nm):SS.CC 204 [ag] [qI (l,())]=d_ [qI (l,())]:=TQ rfl
def wby (c:Int) (l:Nm) (d:l.length<=1000000000) (a:0<=c) (b:c<256):SS.CC 126 [ag,.int .u8 c] [qI (l,())]=some (.raw .nilIface,[qI (l ++ [UInt8.ofNat c.toNat],())]):=by rw[bA4,aGQ (aIB l)];rw[aP (show l.length+1<=aO by show _<=1073741824; omega),aP a,aP b];rfl
theorem wst (s l:Nm) (a:l.length+s.length<=1000000000):SS.CC 128 [ag,.str (bs s)] [qI (l,())]=some (.tuple [af (s.length:Int),.raw .nilIface],[qI (l ++ s,())]):=by rw[bKL,aGQ (aIB l)];grind [nR,aO,aQ,bd]
def UO (a:Bool) (l:Nm) (b:l.length<=1000000000):SS.CC 125 [ag,.ptr 1 0] [jM (a,()),Cf (l,())]=d_ [jM (true,()),Cf (if a then l else l ++ [10],())]:=by
 rw[bA3];cases a with
 | true=>rfl
 | false=>rw[aGM (wby 10 l b (by decide) (by decide))]; rfl
def bXX (k:Nat) (hk:k<=1000000):SS.CC 129 [c5V [32,32],af (k:Int)] []=some (.str (bs (Lib.repeatL [32,32] k)),[]):=by
 refine TQ ?_;show (match decide (0<=(k:Int))&&(Nat.ble (k:Int).toNat 9223372036854775807&&Nat.ble ((⟨#[32,32]⟩:fQ).size*(k:Int).toNat) 140737488355328) with
  | true=>some (PV.str ⟨(Lib.repeatL [32,32] (k:Int).toNat).toArray⟩,([]:aH))
  | false=>none)=_
 rw[qf,show (⟨#[32,32]⟩:fQ).size=2 from rfl,show Nat.ble k 9223372036854775807=true from Xr (by omega),show Nat.ble (2*k) 140737488355328=true from Xr (by omega)];rfl
def aVV (k:Nat):(Lib.repeatL ([32,32]:f_) k).length=2*k:=by rw[Lib.repeatL_length]; simp; omega
def JE (s r:Nm):((bs s).toList==(bs r).toList)=decide (s=r):=aI1 s r
theorem aCB (X:ai) (d:Nat) (j:d<=100000) (q:Sh.V mg) (s:Nm) (hq:q.2.1=bs s) (o:Nm) (l:o.length+s.length<=900000000) (f:Bool) (k:Nat) (hk:k<1000000):H8 X o f q (d:Int) (k:Int)=AP X ((nM d s (o ++ s)).d:Int) (bs (nM d s (o ++ s)).last) ((k+1:Nat):Int) (nM d s (o ++ s)).out (nM d s (o ++ s)).fr:=by
 have b:(o ++ s).length<=1000000000:=by rw[aZ]; omega
 rw[bLM,hq,aGL (wst s o (by omega)),bU (k:=k) (by omega)];have g:((bs s).toList==(⟨#[123]⟩:fQ).toList)=decide (s = [123]):=JE s [123];have h:((bs s).toList==(⟨#[125]⟩:fQ).toList)=decide (s = [125]):=JE s [125];have i:((bs s).toList==(⟨#[59]⟩:fQ).toList)=decide (s = [59]):=JE s [59];rw[g,h,i];unfold nM;by_cases a:s = [123]
 .rw[aP a,ah a];refine (Ti (UO false (o ++ s) b)).trans ?_;rw[bU (by omega)];rfl
 .rw[bG a,aV a];by_cases c:s = [125]
  .rw[aP c,ah (.inl c)];exact Ti (UO false (o ++ s) b)
  .rw[bG c];by_cases e:s = [59]
   .rw[aP e,ah (.inr e)];exact Ti (UO false (o ++ s) b)
   simp_all
theorem aVE (X:ai) (a:oO) (n:a.d<=100000) (q:Sh.V mg) (s:Nm) (hq:q.2.1=bs s) (o:a.out.length<=800000000) (p:s.length<=20000) (k:Nat) (hk:k<1000000):Xl X a.out a.fr q (a.d:Int) (bs a.last) (k:Int)=AP X ((nM a.d s (tC a s)).d:Int) (bs (nM a.d s (tC a s)).last) ((k+1:Nat):Int) (nM a.d s (tC a s)).out (nM a.d s (tC a s)).fr:=by
 rw[bLL,hq];have b:((bs s).toList==(⟨#[44]⟩:fQ).toList)=decide (s = [44]):=JE s [44];have c:((bs s).toList==(⟨#[59]⟩:fQ).toList)=decide (s = [59]):=JE s [59];have e:((bs s).toList==(⟨#[41]⟩:fQ).toList)=decide (s = [41]):=JE s [41];have f:((bs a.last).toList==(⟨#[40]⟩:fQ).toList)=decide (a.last = [40]):=JE a.last [40];rw[b,c,e,f];unfold tC;cases r:a.fr with
 | true =>have t:=aVV a.d;rw[o6 (bXX a.d (by omega))];refine (aGL (wst _ _ (by omega))).trans ?_;grind [aCB]
 | false =>
  rw[aF];have g:∀ (_:s = [44]\/s = [59]\/s = [41]\/a.last = [40]),H8 X a.out false q (a.d:Int) (k:Int)=AP X ((nM a.d s ((if s = [44]\/s = [59]\/s = [41]\/a.last = [40] then a.out else a.out ++ [32]) ++ s)).d:Int) (bs (nM a.d s ((if s = [44]\/s = [59]\/s = [41]\/a.last = [40] then a.out else a.out ++ [32]) ++ s)).last) ((k+1:Nat):Int) (nM a.d s ((if s = [44]\/s = [59]\/s = [41]\/a.last = [40] then a.out else a.out ++ [32]) ++ s)).out (nM a.d s ((if s = [44]\/s = [59]\/s = [41]\/a.last = [40] then a.out else a.out ++ [32]) ++ s)).fr:=fun h=>by grind [aCB]
  by_cases i:s = [44]
  .simp_all
  rw[bG i,pG,aI];by_cases j:s = [59]
  .simp_all
  rw[bG j,pG,aI];by_cases l:s = [41]
  .simp_all
  rw[bG l,pG,aI];by_cases m:a.last = [40]
  .simp_all
  rw[bG m,pG,aI,aGM (wby 32 _ (by omega) (by decide) (by decide))];grind [aCB]
theorem bWB (T:List Tok) (f:T.length<=900000) (hk:j<T.length) (a:oO) (g:a.d<=100000) (i:a.out.length<=700000000) (b:(T[j]).text.length<=20000):AP (T.map bI) (a.d:Int) (bs a.last) (j:Int) a.out a.fr=AP (T.map bI) ((kZ a (T[j]).text).d:Int) (bs (kZ a (T[j]).text).last) ((j+1:Nat):Int) (kZ a (T[j]).text).out (kZ a (T[j]).text).fr:=by
 have c:((bs (T[j]).text).toList==(⟨#[125]⟩:fQ).toList)=decide ((T[j]).text = [125]):=JE _ [125];rw[aOV,aP (by rw[bM]; omega),aI,WI hk];rw[c];unfold kZ vk;by_cases h:(T[j]).text = [125]
 .rw[aP h,ah h];refine (Ti (UO a.fr a.out (by omega))).trans ?_;have e:(if (0:Int)>i64.wrap ((a.d:Int)-1) then (0:Int) else i64.wrap ((a.d:Int)-1))=((a.d-1:Nat):Int):=by rw[wrap64 (by omega) (by omega)];split<;>omega
  rw[e];exact aVE (T.map bI) ⟨a.d-1,a.last,if a.fr then a.out else a.out ++ [10],true⟩ (by grind) _ _ rfl (by grind) b j (by omega)
 grind [aF,aVE]
def gI (a:oO) (T:List Tok):oO:=T.foldl (fun a t=>kZ a t.text) a
abbrev qR:oO:=⟨0,[],[],true⟩
theorem bXF (T:List Tok) (hk:j<T.length) (a:oO):gI a (T.take (j+1))=kZ (gI a (T.take j)) (T[j]).text:=by grind [gI,List.take_succ_eq_append_getElem]
theorem aVD (T:List Tok) (b:T.length<=900000) (c:∀ t,t∈T->t.text.length<=20000) (a:∀ k,k<=T.length->(gI qR (T.take k)).d<=100000/\(gI qR (T.take k)).out.length<=700000000):AP (T.map bI) 0 ⟨#[]⟩ 0 [] true=some (.tuple [.str (bs (Nr (gI qR T))),af 0],[]):=by
 refine mG (n:=T.length) (L:=fun k=>AP (T.map bI) ((gI qR (T.take k)).d:Int) (bs (gI qR (T.take k)).last) (k:Int) (gI qR (T.take k)).out (gI qR (T.take k)).fr) (fun k hk => ?_) ?_;grind [bXF,bWB]
 .have:=a T.length (dG _);rw[TF (dG _)] at this ⊢;rw[aOV,bG (by rw[bM]; omega)];refine (Ti (UO _ _ (by omega))).trans ?_;refine (aZQ (y2:=(o7 (Nr (gI qR T)),())) (TQ rfl)).trans rfl
def Kt (a:List Nm) (t:Tok):Prop:=(∃ s,Gn s/\t=tW s)\/(∃ n,n<=65536/\t=tN n)\/(∃ s,s∈a/\t=tS s)
def sP:List Nm := [[45],[40],[41],[33],[63],[58],[43],[42],[61,61],[33,61],[60],[60,61],[38,38],[124,124],[44],[46,46],[61],[58,61]]
def sA:List Nm := [59] :: [123] :: [125]::sP
abbrev Pl (T:List Tok):Prop:=∀ t,t∈T->Kt sP t
theorem aWP:∀ s,s∈sA->s∈kM:=by decide
def bZ3:∀ s,s∈sP->s∈sA:=by decide
variable {J:Tok}
theorem aGZ (h:Kt sP J):Kt sA J:=by
 rcases h with h | h | ⟨s,a,e⟩
 .exact .inl h
 .exact .inr (.inl h)
 .exact .inr (.inr ⟨s,bZ3 s a,e⟩)
theorem Tu (h:Kt sA J):Tv J:=by
 rcases h with ⟨s,a,rfl⟩|⟨n,b,rfl⟩|⟨s,a,rfl⟩
 .exact b_3 a
 .exact aYC b
 grind [b_2,aWP]
theorem bO6 (h:Gn G):G.length<=32:=by grind [kH]
theorem aG' (h:Kt sA J):J.text.length<=32:=by
 rcases h with ⟨s,a,rfl⟩|⟨n,b,rfl⟩|⟨s,a,rfl⟩
 .exact bO6 a
 .exact lD (aIK 4 n (by omega)) (by decide)
 grind [aEL,aWP]
def a'F (h:Kt sP J):J.text ≠ [123]/\J.text ≠ [125]/\J.text ≠ [59]:=by
 rcases h with ⟨s,a,rfl⟩|⟨n,d,rfl⟩|⟨s,a,rfl⟩
 .refine ⟨?_,?_,?_⟩<;>(intro e; subst e; revert a; decide)
 .have b:=(aYC d).2.2.1;refine ⟨?_,?_,?_⟩<;>(intro e; rw[e] at b; have hk:=(congrArg (fun c=>c.1) b).trans (show (o8 (tN n)).1=2 from rfl); revert hk; decide)
 .revert s; decide
theorem kE (h:Gn G):Kt f (tW G) := .inl ⟨G,h,rfl⟩
theorem mF (h:G∈f):Kt f (tS G) := .inr (.inr ⟨G,h,rfl⟩)
theorem NM (h:rM i):Pl (gX i):=by
 unfold gX;split
 .intro t a;simp only[jr,yU,yX] at a;rcases a with rfl|rfl
  .exact mF (by decide)
  .exact .inr (.inl ⟨_,by omega,rfl⟩)
 .intro t a;simp only[TE] at a;exact .inr (.inl ⟨_,by omega,a⟩)
variable {Y:List Tok}
def nX (a:Pl X) (b:Pl Y):Pl (X ++ Y):=fun t c=>(LK.1 c).elim (a t) (b t)
theorem gp (b:Kt sP J) (c:Pl X):Pl (J::X):=fun t d=>by grind
def oq:Pl []:=fun t a=>by cases a
theorem Ns (h:Pl X):Pl (wp u i X):=by
 unfold wp;split
 .exact gp (mF (by decide)) (nX h (gp (mF (by decide)) oq))
 .exact h
theorem aX4 (h:i=2\/i=3\/i=4\/i=6\/i=7\/i=8\/i=9\/i=11\/i=12):kz i∈sP:=by rcases h with rfl|rfl|rfl|rfl|rfl|rfl|rfl|rfl|rfl<;>decide
theorem bX0 (e:∀ s,s∈f->Gn s) (h:PB f u X):Pl X:=by
 induction h with
 | tt=>exact gp (kE (by decide)) oq
 | ff=>exact gp (kE (by decide)) oq
 | num g i=>grind [NM]
 | var l=>grind [kE]
 | a3M g i _ c=>exact gp (mF (by decide)) (gp (mF (by decide)) (nX c (gp (mF (by decide)) oq)))
 | neg _ _ c=>exact gp (mF (by decide)) (Ns c)
 | Dl _ c=>exact gp (mF (by decide)) (Ns c)
 | cmp j _ _ _ _ a b=>grind [Ns,mF,aX4]
 | bin j _ _ a b=>grind [Ns,mF,aX4]
 | ite _ _ _ d a b=>exact nX (Ns d) (gp (mF (by decide)) (nX (Ns a) (gp (mF (by decide)) (Ns b))))
def bW' (a:∀ s,s∈f->Gn s) (h:vN f.length u):Pl (xu f u):=bX0 a (UX h).1
def Wv {s:Tok} (c:Kt sP s):∀ {l:List (List Tok)},(∀ T,T∈l->Pl T)->Pl (jI s l)
 | [],_=>oq
 | [a],h=>h a (by simp)
 | a::b::l,h=>nX (h a (by simp)) (gp c (Wv c fun T d=>h T (by simp[d])))
theorem aVH (h:∀ s,s∈f->Gn s):Pl (yD f):=gp (mF (by decide)) (nX (Wv (mF (by decide)) fun T a=>by grind [kE]) (gp (mF (by decide)) oq))
inductive xZ:List Tok->Prop
 | mk {X:List Tok}:Pl X->X ≠ []->xZ (X ++ [tS [59]])
inductive Sts:List Tok->Prop
 | nil:Sts []
 | cons {X T:List Tok}:xZ X->Sts T->Sts (X ++ T)
inductive sF:List Tok->Prop
 | nil:sF []
 | XK {X T:List Tok}:xZ X->sF T->sF (X ++ T)
 | XO {X B T:List Tok}:Pl X->X ≠ []->Sts B->sF T->sF (X ++ [tS [123]] ++ B ++ [tS [125]] ++ T)
def aXY (a:Sts X) (b:Sts Y):Sts (X ++ Y):=by
 induction a with
 | nil=>exact b
 | cons h _ c=>rw[yS]; exact .cons h c
theorem OO (b:sF X) (c:sF Y):sF (X ++ Y):=by
 induction b with
 | nil=>exact c
 | XK h _ a=>rw[yS]; exact .XK h a
 | XO h d e _ a =>have:=sF.XO h d e a;simp_all
def aEK {b:Type} {f:b->List Tok}:∀ {l:List b},(∀ x,x∈l->xZ (f x))->Sts (l.flatMap f)
 | [],_ => .nil
 | a::l,h=>by exact .cons (h a (by simp)) (aEK fun x c=>h x (by simp[c]))
def OQ {b:Type} {f:b->List Tok}:∀ {l:List b},(∀ x,x∈l->sF (f x))->sF (l.flatMap f)
 | [],_ => .nil
 | a::l,h=>by exact OO (h a (by simp)) (OQ fun x c=>h x (by simp[c]))
def SL (h:xZ X):sF X:=by have:=sF.XK h .nil;rwa [BB] at this
def KR (e:Y=X ++ [tS [59]]) (h:Pl X) (a:X ≠ []):xZ Y:=e ▸ .mk h a
theorem bZ' {e:oN} (h:Gn e.n) (a:0<=e.k/\e.k<=4):xZ (vV e):=by
 refine KR rfl ?_ (by simp);refine nX (nX (nX (nX (gp (kE (by decide)) (gp (kE h) oq)) ?_) ?_) ?_) ?_
 .split
  .exact gp (kE (by decide)) oq
  grind
 .split
  .exact gp (kE (by decide)) oq
  grind
 .split
  .exact gp (kE (by decide)) oq
  grind
 .split;grind
  .exact gp (kE (by decide)) (NM ⟨by omega,by omega⟩)
theorem b'0 (h:Gn G):xZ (DW i c4 j G):=by
 refine KR rfl ?_ (by simp);refine nX (nX (gp (kE (by decide)) (gp (kE h) oq)) ?_) ?_
 .split
  .exact gp (kE (by decide)) oq
  grind
 .split
  .exact gp (kE (by decide)) oq
  grind
def aXZ {I:Int} {a:List Int}:∀ {l:List Nm} {i:Nat},(∀ s,s∈l->Gn s)->Sts (zH I a i l)
 | [],_,_ => .nil
 | s::l,i,h => .cons (b'0 (h s (by simp))) (aXZ fun s b=>h s (by simp[b]))
def b'2 (h:Gn c8.n/\rM c8.lo/\rM c8.hi/\rM c8.i):xZ (tq c8):=by refine KR rfl ?_ (by simp);exact nX (nX (nX (nX (nX (gp (kE (by decide)) (gp (kE h.1) (gp (mF (by decide)) oq))) (NM h.2.1)) (gp (mF (by decide)) oq)) (NM h.2.2.1)) (gp (mF (by decide)) oq)) (NM h.2.2.2)
theorem a1Y (h:∀ s,s∈f->Gn s) (a:0<=i) (b:i<f.length):Gn (f.getD i.toNat []):=by grind
theorem b'1 (a:CV K) (h:TZ K c9):xZ (pg K c9):=by
 have hv:∀ s,s∈K.vs.map (·.n)->Gn s:=fun s c=>by obtain ⟨v,hv,rfl⟩:=zh.1 c;exact (a.vs v hv).1
 have b:∀ {y:EX},vN K.vs.length y->Pl (xu (K.vs.map (·.n)) y):=fun i=>bW' hv (by rw[Kw]; exact i)
 refine KR rfl ?_ (by simp);refine nX (nX (gp (kE (by decide)) (gp (kE (a1Y a.ls h.f.1 h.f.2)) (gp (kE (a1Y a.es h.e.1 h.e.2)) (gp (kE (a1Y a.ls h.d.1 h.d.2)) oq)))) ?_) ?_
 .split;grind
  .exact gp (kE (by decide)) (b h.g)
 .split;grind
  .refine gp (kE (by decide)) (Wv (mF (by decide)) fun T j => ?_);obtain ⟨u,l,rfl⟩:=zh.1 j;obtain ⟨⟨m,o⟩,p⟩:=h.us u l;exact nX (gp (kE (a1Y hv m (by rw[Kw]; exact o))) (gp (mF (by decide)) oq)) (b p)
theorem b'W (b:Gn K.n) (a:CV K):sF (pF K):=by have c:Sts (zH K.I K.mr 0 K.ls ++ K.vs.flatMap tq ++ K.ms.flatMap (pg K)):=aXY (aXY (aXZ a.ls) (aEK fun v hv=>b'2 (a.vs v hv))) (aEK fun x d=>b'1 a (a.ms x d));have:=sF.XO (X := [tW [116,101,109,112,108,97,116,101],tW K.n] ++ yD K.es) (nX (gp (kE (by decide)) (gp (kE b) oq)) (aVH a.es)) (by simp) c .nil;grind [pF]
def aXV (a:Gn G) {x:Ins} (h:Gn x.n/\Gn x.t/\∀ s,s∈x.es->Gn s):xZ (nU G x):=by refine KR rfl ?_ (by simp);exact nX (gp (kE a) (gp (kE h.1) (gp (mF (by decide)) (gp (kE h.2.1) oq)))) (aVH h.2.2)
theorem b'3 {x:uf} (h:Gn x.n/\x.ls ≠ []/\∀ l,l∈x.ls->Gn l.1/\Gn l.2):xZ (vH x):=by refine KR rfl ?_ (by simp);refine nX (gp (kE (by decide)) (gp (kE h.1) (gp (mF (by decide)) oq))) (Wv (mF (by decide)) fun T a => ?_);grind [kE]
def bZZ {x:Cst} (h:Gn x.n/\x.ts ≠ []/\rM x.b/\∀ l,l∈x.ts->Gn l.1/\rM l.2):xZ (ug x):=by refine KR rfl ?_ (by simp);refine nX (nX (nX (gp (kE (by decide)) (gp (kE h.1) (gp (mF (by decide)) oq))) (Wv (mF (by decide)) fun T a => ?_)) (gp (mF (by decide)) oq)) (NM h.2.2.1);obtain ⟨l,c,rfl⟩:=zh.1 a;have:=h.2.2.2 l c;exact nX (NM this.2) (gp (mF (by decide)) (gp (kE this.1) oq))
def a5I (a:EQ H):sF (oH H):=by refine OO (OO (OO (OO (OO (OO (SL ?_) (OQ fun e he=>SL (bZ' (a.es e he).1 (a.es e he).2))) (OQ fun t c=>b'W (a.ts t c).1 (a.ts t c).2)) (OQ fun x b=>SL (aXV (by decide) (a.is x (EI _ b))))) (OQ fun x b=>SL (aXV (by decide) (a.is x (Du _ b))))) (OQ fun x b=>SL (b'3 (a.xs x b)))) (OQ fun x b=>SL (bZZ (a.ks x b)));exact KR rfl (gp (kE (by decide)) (gp (kE a.n) oq)) (by simp)
def jw:List Tok->Nat
 | []=>0
 | t::T=>t.text.length+1+jw T
theorem jf:∀ A B:List Tok,jw (A ++ B)=jw A+jw B
 | [],B=>by rw[List.nil_append,jw,rP]
 | a::A,B=>by rw[qF,jw,jw,jf A B]; omega
def NJ:∀ T:List Tok,T ≠ []->(g_ T).length+1=jw T
 | [],h=>absurd rfl h
 | [t],_=>rfl
 | t::u::l,_=>by have:=NJ (u::l) (by simp);rw[g_,aZ,bT,jw,<- this]; omega
def Qr:∀ T:List Tok,T.length<=jw T
 | []=>dG _
 | t::T=>by have:=Qr T; rw[bT,jw]; omega
def qX (a:oO):Nat:=a.out.length+(if a.fr then 2 else 0)
theorem IB (a:oO) (A B:List Tok):gI a (A ++ B)=gI (gI a A) B:=List.foldl_append
theorem aCK (a:oO) (s:Nm) (b:a.d<=1):(tC a s).length<=qX a+s.length+(if a.fr then 0 else 1)/\a.out.length<=(tC a s).length:=by have c:=aVV a.d;grind [tC,qX]
theorem aE1:∀ {X:List Tok} {st:oO},Pl X->st.d<=1->(gI st X).d=st.d/\qX (gI st X)<=qX st+jw X/\(X ≠ []->(gI st X).fr=false)
 | [],st,_,_=>⟨rfl,by show qX st<=_; omega,fun h=>absurd rfl h⟩
 | t::X,st,h,a=>by
  obtain ⟨i,b,j⟩:=a'F (h t (by simp));have e:kZ st t.text=⟨st.d,t.text,tC st t.text,false⟩:=by unfold kZ vk nM;rw[aV b,aV i,aV (by rintro (c | c); exact b c; exact j c)]
  have l:gI st (t::X)=gI ⟨st.d,t.text,tC st t.text,false⟩ X:=by show gI (kZ st t.text) X=_;rw[e]
  have f:=(aCK st t.text a).1;obtain ⟨m,n,o⟩:=aE1 (X:=X) (st:=⟨st.d,t.text,tC st t.text,false⟩) (fun u p=>h u (by simp[p])) a;rw[l];refine ⟨m,?_,fun _ => ?_⟩
  .have hq:qX ⟨st.d,t.text,tC st t.text,false⟩=(tC st t.text).length:=by unfold qX; simp
   rw[hq] at n;rw[jw];cases q:st.fr<;>rw[q] at f<;>simp at f<;>omega
  .by_cases g:X = []
   .subst g; rfl
   .exact o g
variable {c':oO}
theorem bYN (a:c'.d<=1):(kZ c' [59]).d=c'.d/\qX (kZ c' [59])<=qX c'+4/\(kZ c' [59]).fr=true:=by have b:=(aCK c' [59] a).1;grind [kZ,tC,vk,nM,qX]
theorem aWE (h:xZ X) (c:c'.d<=1):(gI c' X).d=c'.d/\qX (gI c' X)<=qX c'+2*jw X/\(gI c' X).fr=true:=by
 cases h with
 | @mk a e b =>grind [aE1,bYN,gI,IB,jw,jf]
theorem bYO (h:Sts X):∀ {st:oO},st.d<=1->st.fr=true->(gI st X).d=st.d/\qX (gI st X)<=qX st+2*jw X/\(gI st X).fr=true:=by
 induction h with
 | nil=>intro st _ a; exact ⟨rfl,by show qX st<=_; omega,a⟩
 | cons b _ c =>grind [aWE,IB,jf]
theorem aWG (h:sF X):∀ {st:oO},st.d=0->st.fr=true->(gI st X).d=0/\qX (gI st X)<=qX st+2*jw X/\(gI st X).fr=true:=by
 induction h with
 | nil=>intro st g i; exact ⟨g,by show qX st<=_; omega,i⟩
 | XK j _ l =>grind [aWE,IB,jf]
 | @XO a B X j c o _ l =>
  intro st g i;obtain ⟨w,x,m⟩:=aE1 (st:=st) j (by omega);have m:=m c;have y:=(aCK (gI st a) [123] (by omega)).1;have b:kZ (gI st a) [123]=⟨1,[123],tC (gI st a) [123] ++ [10],true⟩:=by grind [kZ,vk,nM]
  have z:qX (kZ (gI st a) [123])<=qX (gI st a)+5:=by rw[b];grind [qX]
  obtain ⟨n,p,q⟩:=bYO o (st:=kZ (gI st a) [123]) (by rw[b]; simp) (by rw[b]);generalize r:gI (kZ (gI st a) [123]) B=S at n p q;have t:S.d=1:=by rw[n,b]
  have f:kZ S [125]=⟨0,[125],S.out ++ [125] ++ [10],true⟩:=by
   have A:vk S [125]=⟨0,S.last,S.out,true⟩:=by grind [vk]
   grind [kZ,nM,tC,Lib.repeatL]
  have C:qX (kZ S [125])<=qX S+2:=by rw[f];grind [qX]
  obtain ⟨s1,D,u⟩:=l (st:=kZ S [125]) (by rw[f]) (by rw[f]);have e:gI st (a ++ [tS [123]] ++ B ++ [tS [125]] ++ X)=gI (kZ S [125]) X:=by rw[IB,IB,IB,IB];show gI (kZ (gI (kZ (gI st a) [123]) B) [125]) X=_;rw[r]
  have v:jw (a ++ [tS [123]] ++ B ++ [tS [125]] ++ X)=jw a+2+jw B+2+jw X:=by rw[jf,jf,jf,jf]; rfl
  rw[e,v];exact ⟨s1,by omega,u⟩
def bZX (a:oO) (s:Nm):a.out.length<=(kZ a s).out.length/\(kZ a s).d<=a.d+1:=by
 have b:a.out.length<=(vk a s).out.length/\(vk a s).d<=a.d:=by
  unfold vk;split
  .refine ⟨?_,by show a.d-1<=_; omega⟩;show _<=(if a.fr then a.out else a.out ++ [10]).length;split
   .omega
   .rw[aZ]; omega
  .exact ⟨dG _,dG _⟩
 have c:(vk a s).out.length<=(tC (vk a s) s).length:=by
  unfold tC;split
  .rw[aZ,aZ]; omega
  .rw[aZ];split
   .omega
   .rw[aZ]; omega
 unfold kZ nM;split
 .exact ⟨by rw[aZ]; omega,by show (vk a s).d+1<=_; omega⟩
 .split
  .exact ⟨by rw[aZ]; omega,by show (vk a s).d<=_; omega⟩
  .exact ⟨by show _<=(tC (vk a s) s).length; omega,by show (vk a s).d<=_; omega⟩
def XD:∀ (T:List Tok) (a:oO),a.out.length<=(gI a T).out.length/\(gI a T).d<=a.d+T.length
 | [],a=>⟨dG _,dG _⟩
 | t::T,a=>by have b:=bZX a t.text;have c:=XD T (kZ a t.text);show a.out.length<=(gI (kZ a t.text) T).out.length/\(gI (kZ a t.text) T).d<=a.d+(T.length+1);omega
def aVN (h:X.map (·.text)=Y.map (·.text)) (a:oO):gI a X=gI a Y:=by
 have e:∀ (T:List Tok) (a:oO),gI a T=(T.map (·.text)).foldl kZ a:=fun T a=>by unfold gI; rw[List.foldl_map]
 rw[e,e,h]
def aR1 (b:X ≠ []) (f:∀ t,t∈X->Tv t) (g:(g_ X).length<=65536):SS.CC 35 [.sl false 5 (X.map bI)] []=some (.tuple [.str (bs (g_ X)),af 0],[]):=by
 have o:X.length<=65537:=by have:=Qr X; have:=NJ X b; omega
 obtain ⟨a,e,i,c,j⟩:=aWU b f g;have hk:∀ t,t∈X->t.kind≠4:=fun t h=>(f t h).2.2.2
 have d:=aIJ c hk;have l:a.length=X.length:=by have:=congrArg List.length c; simpa using this
 have m:SS.CC 59 [.str (bs (g_ X))] []=some (.tuple [.sl false 5 ((a ++ [e]).map bI),af 0,af 0,af 0],[]):=by
  have:SS.CC 59 [.str (bs (g_ X))] []=some (Fh (uV (g_ X)),[]):=by rw[LZ fD]; rfl
  rw[this,i]; rfl
 have n:sJ (a ++ [e])=a:=by rw[a7B,MH d,YW j]; simp[sJ]
 rw[a8I,Lc (Dp X (by omega)),MH hk];have:=aQY X (by omega) X.length 0 (by omega);rw[show ((0:Nat):Int)=0 from rfl,List.take_zero,List.map_nil] at this;rw[this,aKE,bG (by rw[bM]; omega),aF,o6 (sjc X (by omega) (by omega)),Xx m];dsimp only;rw[Ei rfl,aF,Lc (Dp (a ++ [e]) (by rw[aZ,BD]; omega)),n,aj (b3P X a (by omega) c)];rfl
def bXD (a:X ≠ []) (b:∀ t,t∈X->Kt sA t) (f:sF X) (n:(g_ X).length<=30000):SS.CC 25 [.sl false 5 (X.map bI)] []=some (.tuple [.str (bs (Nr (gI qR X))),af 0],[])/\(Nr (gI qR X)).length<=65536:=by
 have o:=NJ X a;have p:=Qr X;obtain ⟨q,c,e⟩:=aWG f (st:=qR) rfl rfl;have g:qX qR=2:=rfl;have i:(gI qR X).out.length<=65536:=by unfold qX at c; rw[e] at c; simp at c; omega
 have hk:∀ t,t∈X->t.kind≠4:=fun t h=>(Tu (b t h)).2.2.2
 have j:sJ X=X:=MH hk;refine ⟨?_,by unfold Nr; rw[e]; exact i⟩;rw[aOW,TW (aR1 a (fun t h=>Tu (b t h)) (by omega))];dsimp only;rw[Ei rfl,aF,Lc (Dp X (by omega)),j];refine aVD X (by omega) (fun t h=>lD (aG' (b t h)) (by decide)) fun k hk => ?_
 have r:=XD (X.take k) qR;have l:=XD (X.drop k) (gI qR (X.take k));rw[<- IB,Om] at l;have:(X.take k).length<=X.length:=by rw[vK]; omega
 have m:qR.d=0:=rfl;exact ⟨by omega,by omega⟩
def bQ0 (c:sJ X=Y) (d:X.length<=900000) (a:Y ≠ []) (b:∀ t,t∈Y->Tv t) (f:(g_ Y).length<=65536):SS.CC 35 [.sl false 5 (X.map bI)] []=some (.tuple [.str (bs (g_ Y)),af 0],[]):=by
 have e:=aR1 a b f;have hk:∀ t,t∈Y->t.kind≠4:=fun t h=>(b t h).2.2.2
 have g:Y.length<=65537:=by have:=Qr Y; have:=NJ Y a; omega
 rw[a8I,Lc (Dp Y (by omega)),MH hk] at e;rw[a8I,Lc (Dp X (by omega)),c];exact e
theorem b_1 (h:Y.map o8=X.map o8) (j:∀ t,t∈X->Tv t):∀ t,t∈Y->Tv t:=fun f m=>by
 have:o8 f∈X.map o8:=by rw[<- h]; grind
 obtain ⟨t,g,e⟩:=zh.1 this;obtain ⟨a,b,c,d⟩:=j t g;have i:f.text=t.text:=(congrArg (fun c=>c.2.1) e).symm;have l:f.kind=t.kind:=(congrArg (fun c=>c.1) e).symm;exact ⟨by rw[i]; exact a,by rw[i]; exact b,by rw[i]; simp_all,by rw[l]; exact d⟩
def b2L (h:Y.map o8=X.map o8):Y.map (·.text)=X.map (·.text):=by have:=congrArg (List.map fun c:Int×f_×Int=>c.2.1) h;rw[Xp,Xp] at this;exact this
theorem aR0:∀ {A B:List Tok},A.map (·.text)=B.map (·.text)->g_ A=g_ B
 | [],[],_=>rfl
 | [],_::_,h=>by cases h
 | _::_,[],h=>by cases h
 | [a],[b],h=>by injection h
 | [_],_::_::_,h=>by simp_all
 | _::_::_,[_],h=>by simp_all
 | a::a2::A,b::c::B,h=>by
  injection h with d e
  rw[g_,g_,aR0 (A:=a2::A) (B:=c::B) e,show a.text=b.text from d]
theorem bXC {a:List Tok} (l:sJ X=Y) (e:X.length<=900000) (f:Y.map o8=a.map o8) (b:a ≠ []) (m:∀ t,t∈a->Kt sA t) (n:sF a) (u:(g_ a).length<=30000):SS.CC 25 [.sl false 5 (X.map bI)] []=some (.tuple [.str (bs (Nr (gI qR a))),af 0],[]):=by
 have g:=b2L f;have o:g_ Y=g_ a:=aR0 g;have c:Y.length=a.length:=by have:=congrArg List.length f; grind
 have d:Y ≠ []:=fun h=>b (List.length_eq_zero_iff.1 (by rw[<- c,h]; rfl))
 have i:∀ t,t∈Y->Tv t:=b_1 f fun t h=>Tu (m t h)
 have v:a.length<=30001:=by have:=Qr a; have:=NJ a b; omega
 have j:∀ t,t∈Y->t.text.length<=20000:=fun w x=>by grind [List.mem_map_of_mem,aG']
 obtain ⟨y,z,A⟩:=aWG n (st:=qR) rfl rfl;have p:qX qR=2:=rfl;have q:=NJ a b;have B:(gI qR a).out.length<=65536:=by grind [qX]
 rw[aOW,TW (bQ0 l e d i (by rw[o]; omega))];dsimp only;rw[Ei rfl,aF,Lc (Dp X (by omega)),l,<- aVN g];refine aVD Y (by omega) j fun k hk => ?_
 have C:=XD (Y.take k) qR;have r:=XD (Y.drop k) (gI qR (Y.take k));rw[<- IB,Om,aVN g] at r;grind
theorem aRK (h:xZ X):∀ t,t∈X->Kt sA t:=by
 cases h with
 | mk b _ =>
  intro t a;rcases LK.1 a with a | a
  grind [aGZ]
  .rw[TE] at a; rw[a]; exact mF (by decide)
theorem bRF (h:Sts X):∀ t,t∈X->Kt sA t:=by
 induction h with
 | nil=>simp
 | cons a _ b =>grind [aRK]
theorem aRL (h:sF X):∀ t,t∈X->Kt sA t:=by
 induction h with
 | nil=>simp
 | XK b _ c =>grind [aRK]
 | XO b _ d _ c =>
  intro t a;simp only[LK,TE] at a;rcases a with (((a | a) | a) | a) | a
  grind [aGZ]
  .rw[a]; exact mF (by decide)
  grind [bRF]
  .rw[a]; exact mF (by decide)
  simp_all
def a3L (m:Mo):oH m ≠ []:=by unfold oH; simp
def txM (m:Mo):Nm:=Nr (gI qR (oH m))
def aTI (a:(g_ (oH H)).length<=30000):(oH H).length<=30001:=by have:=Qr (oH H); have:=NJ (oH H) (a3L H); omega
theorem b'J (g:lV H) (j:H.cs.length+H.rs.length<=20000) (l:Em H=0) (i:(g_ (oH H)).length<=30000):SS.CC 14 [A0 (aU H)] []=some (.str (bs (txM H)),[]):=by
 have c:=a9P g l;have u:=aTI i;have d:=aRL (a5I c);obtain ⟨b,e,n,a,o⟩:=aWU (a3L H) (fun t h=>Tu (d t h)) (by omega);have p:SS.CC 59 [.str (bs (g_ (oH H)))] []=some (.tuple [.sl false 5 ((b ++ [e]).map bI),af 0,af 0,af 0],[]):=by
  have:SS.CC 59 [.str (bs (g_ (oH H)))] []=some (Fh (uV (g_ (oH H))),[]):=by rw[LZ fD]; rfl
  rw[this,n]; rfl
 have f:=aIJ a fun t h=>(Tu (d t h)).2.2.2
 have q:sJ (b ++ [e])=b:=by rw[a7B,MH f,YW o]; simp[sJ]
 have r:b.length=(oH H).length:=by have:=congrArg List.length a; grind
 rw[bB',wP (c0F H g c j (by omega))];refine (o6 (sjc (oH H) (by omega) (by omega))).trans ?_;rw[Xx p];dsimp only;rw[TW (bXC q (by rw[aZ,BD]; omega) a (a3L H) d (a5I c) i)];rfl
def bXE (a:lV H) (g:H.cs.length+H.rs.length<=20000) (d:Em H=0) (e:(g_ (oH H)).length<=30000):SS.CC 7 [A0 (aU H)] []=some (.tuple [.str (bs (txM H)),af 0],[]):=by have b:=a9P a d;have i:=aTI e;have h:=aRL (a5I b);have f:=bXD (a3L H) h (a5I b) e;have c:=b0Q H a b (by omega);rw[bAD,bu (aIG H a g),d,Ei rfl,aF];refine (bV c).trans ?_;rw[TW f.1];dsimp only;rw[Ei rfl,aF,nR,bG (by have:=f.2; omega),aF];rfl
def RA.ad (A:RA) (l:List Nm):RA:=if A.pk.kind=1/\A.pk.text∈l then A.fail 8 else A
def RA.add (A:RA) (l:List Nm):RA:=(A.ad l).name
def RA.gZ (A:RA) (l:List Nm):Nm:=(A.ad l).gz
section
variable {A:RA} {l:List Nm}
def RA.ok.ad (h:A.ok) (l:List Nm):(A.ad l).ok:=by unfold RA.ad; split; exact h.fail 8; exact h
def Le.ad (h:A.ok) (l:List Nm):Le A (A.ad l):=by unfold RA.ad; split; exact .fail h (by decide); exact .refl h
def Le.add (h:A.ok) (l:List Nm):Le A (A.add l):=(Le.ad h l).trans (Le.name (h.ad l))
theorem NY (h:A.ok) (e:A.name.e=0):A.pk.kind=1/\A.name.N<A.N:=by grind [RA.name,jY,qM]
def l_ (h:A.ok) (e:(A.add l).e=0):(A.add l).N<A.N:=by have a:=NY (h.ad l) e;have b:=(Le.ad h l).le;unfold RA.add;omega
def YE {J:Sh.V aC->R} {K:ByteArray->Sh.V aC->R} (b:∀ q,J q=kN 17 [.ptr 0 0] [aA q] fun s u=>K s u) (i:l.length<=20000) (h:A.ok) :
 (fJ 19 [.ptr 0 0] [aA A.v] fun g d=>aB (g.1==1) (G3 179 [.sl false 1 (aJ l),.str g.2.1] fun e=>aB e (bJ 21 [.ptr 0 0,.int .i64 8] [aA d] fun _ f=>J f) (J d)) (J d))=K (bs (A.gZ l)) (A.add l).v:=by
 unfold RA.add RA.gZ RA.ad;rw[eP (iW h)];try dsimp only
 by_cases hk:A.pk.kind=1
 .rw[show (A.pk.kind==1)=true by simp[hk],aI,aj (a2C l i A.pk.text)];by_cases a:A.pk.text∈l
  .rw[aP a,aI,bW (lG h 8),ah ⟨hk,a⟩,b,lF (lJ (h.fail 8))]
  .rw[bG a,aF,aV (fun c=>a c.2),b,lF (lJ h)]
 .rw[show (A.pk.kind==1)=false by simp[hk],aF,aV (fun c=>hk c.1),b,lF (lJ h)]
def Gg (q:Sh.V eQ) (a:l.length<=20000) (h:A.ok):SS.CC 160 [.ptr 0 0,.sl false 1 (aJ l)] [bF q,aA A.v]=some (.str (bs (A.gZ l)),[bF q,aA (A.add l).v]):=(bFS _ _ _).trans (YE (bFQ q) a h)
def J9 (q:Sh.V ay) (a:l.length<=20000) (h:A.ok):SS.CC 223 [.ptr 0 0,.sl false 1 (aJ l)] [aK q,aA A.v]=some (.str (bs (A.gZ l)),[aK q,aA (A.add l).v]):=(bIE _ _ _).trans (YE (bIC q) a h)
def a'T (q:Sh.V ru) (a:l.length<=20000) (h:A.ok):SS.CC 223 [.ptr 0 0,.sl false 1 (aJ l)] [vO q,aA A.v]=some (.str (bs (A.gZ l)),[vO q,aA (A.add l).v]):=(bI8 _ _ _).trans (YE (bI6 q) a h)
def a'U (q:Sh.V ry) (a:l.length<=20000) (h:A.ok):SS.CC 223 [.ptr 0 0,.sl false 1 (aJ l)] [vP q,aA A.v]=some (.str (bs (A.gZ l)),[vP q,aA (A.add l).v]):=(bIB _ _ _).trans (YE (bI9 q) a h)
end
theorem loops {a b:Type} {C:RA->r->a} {L:RA->c6->b} {P:RA->r->c6->Prop} {Q:a->b->Prop}
 (f:∀ A y z,A.ok->P A y z->Q (C A y) (L A z)\/∃ B c d,C A y=C B c/\L A z=L B d/\B.ok/\P B c d/\B.N<A.N) :
 ∀ (A:RA) (y:r) (z:c6),A.ok->P A y z->Q (C A y) (L A z):=by
 have:∀ (n:Nat) (A:RA) (y:r) (z:c6),A.N<=n->A.ok->P A y z->Q (C A y) (L A z):=by
  intro n;induction n with
  | zero =>grind
  | succ n g =>grind
 exact fun A y z h e=>this A.N A y z (dG _) h e
theorem zT {β γ ρ σ:Type} {C:RA->β->ρ} {L:RA->γ->σ} {EC:RA->β->ρ} {EL:RA->γ->σ} {P:RA->β->γ->Prop}
 (h0:∀ A y z,A.ok->P A y z->A.is [44]=false->C A y=EC A y/\L A z=EL A z)
 (h1:∀ A y z,A.ok->P A y z->A.e=0->A.is [44]=true->∃ B y' z',C A y=C B y'/\L A z=L B z'/\Le A.next B/\P B y' z')
 (A:RA) (y:β) (z:γ) (h:A.ok) (hp:P A y z):∃ B y' z',C A y=EC B y'/\L A z=EL B z'/\Le A B/\P B y' z' :=
 loops (C:=C) (L:=L) (P:=fun B y z=>P B y z/\Le A B) (Q:=fun r s=>∃ B y' z',r=EC B y'/\s=EL B z'/\Le A B/\P B y' z')
  (fun B y z hB hP=>by
   cases c:B.is [44] with
   | false =>grind
   | true =>have hk:=kD c;obtain ⟨D,y',z',e1,e2,hl,hd⟩:=h1 B y z hB hP.1 (FH hk) c;have hlt:=jY hB hk;have:=hl.le;exact .inr ⟨D,y',z',e1,e2,hl.ok,⟨hd,(hP.2.trans (Le.next hB)).trans hl⟩,by omega⟩)
  A y z h ⟨hp,.refl h⟩
variable {y:RA}
def aY5 (h:y.ok):SS.CC 62 [.ptr 0 0,.str ⟨#[44]⟩] [aA y.v]=some (.bool (y.is [44]),[aA (y.take [44]).v]):=jH h _
def aHX:(y.v.2.2.2.1==0)=decide (y.e=0):=by rfl
variable {a' d1:Sh.V aC->R}
theorem FO (h:y.ok) (c:y.is [44]=false) (f:Q=d1 y.v) (b:E=aB (y.v.2.2.2.1==0) (bP 62 [.ptr 0 0,.str ⟨#[44]⟩] [aA y.v] fun d a=>aB d (a' a) (d1 a)) Q):E=d1 y.v:=by
 rw[b];by_cases e:y.e=0
 .rw[aHX,aP e,aI,bQ (aY5 h)];grind [aF,lZ]
 grind [aF]
theorem FP (h:y.ok) (c:y.is [44]=true) (b:E=aB (y.v.2.2.2.1==0) (bP 62 [.ptr 0 0,.str ⟨#[44]⟩] [aA y.v] fun d a=>aB d (a' a) (d1 a)) Q):E=a' y.next.v:=by rw[b,aHX,aP (FH (kD c)),aI,bQ (aY5 h)];grind [aI,qC]
theorem Ce (h:y.ok) (e:y.e=0):1<=y.N:=by obtain ⟨t,tl,a⟩:=h.ne e;grind [RA.N]
def nw:List Nm->Nat
 | []=>0
 | s::l=>wl s+3+nw l
def aBS (s:Nm):∀ l:List Nm,nw (l ++ [s])=nw l+(wl s+3)
 | []=>by simp[nw]
 | a::l=>by rw[qF,nw,nw,aBS s l]; omega
theorem DF (h:y.ok) (e:(y.add f).e=0):(y.add f).W+(wl (y.gZ f)+1)=y.W:=by have a:=Hw (h.ad f) e;grind [RA.add,RA.ad,aTX,qM,RA.gZ]
section
variable {A:RA} {l:List Nm} {n:ByteArray}
abbrev yL (n:ByteArray) (l:List Nm):Sh.V dP:=(n,[],aJ l,[],0,0,[],[],[],())
def aQM (q:Sh.V iH) (a:l.length<=20000) (h:A.ok):SS.CC 167 [.ptr 0 0,.ptr 1 0] [dW (yL n l),some [.ptr 2 0],gY q,aA A.v]=some (.tuple [],[dW (yL n (l ++ [A.gZ l])),some [.ptr 2 0],gY q,aA (A.add l).v]):=by
 rw[bG2];dsimp only[gQ];rw[GR (Gg _ a h)];rw[aQ (fV (by rw[iR]; omega))];repeat rw[uD]
 rw[show ([.str (bs (A.gZ l))]:List PV)=aJ [A.gZ l] from rfl,Fp]
def aQP (q:Sh.V jW) (a:l.length<=20000) (h:A.ok):SS.CC 224 [.ptr 0 0,.ptr 1 0] [dW (yL n l),some [.ptr 2 0],iZ q,aA A.v]=some (.tuple [],[dW (yL n (l ++ [A.gZ l])),some [.ptr 2 0],iZ q,aA (A.add l).v]):=by
 rw[bIF];dsimp only[gQ];rw[Iu (J9 _ a h)];rw[aQ (fV (by rw[iR]; omega))];repeat rw[uD]
 rw[show ([.str (bs (A.gZ l))]:List PV)=aJ [A.gZ l] from rfl,Fp]
abbrev aZE (q:Sh.V jc) (n:ByteArray) (A:RA) (l:List Nm):R:=some (.tuple [],[aA A.v,dW (yL n l),some [.ptr 3 0],kX q])
abbrev aZF (q:Sh.V jb) (n:ByteArray) (A:RA) (l:List Nm):R:=some (.tuple [],[aA A.v,dW (yL n l),some [.ptr 3 0],jy q])
theorem b4A (q:Sh.V jc) (z:Sh.V jb) (n:ByteArray) (h:A.ok) (r:A.N<=40000):∃ B l,
 SS.CC 175 [.ptr 0 0,.func (.func 167) [] [.ptr 1 0,.ptr 2 0]] [aA A.v,dW (yL n []),some [.ptr 3 0],kX q]=aZE q n B l /\
 SS.CC 175 [.ptr 0 0,.func (.func 224) [] [.ptr 1 0,.ptr 2 0]] [aA A.v,dW (yL n []),some [.ptr 3 0],jy z]=aZF z n B l /\
 Le A B/\l.length<=20000/\(B.e=0->2*l.length+B.N<=A.N+1/\nw l+B.W<=A.W+2/\2<=nw l):=by
 have d:=Le.add h [];obtain ⟨B,y,t,g,i,a,j,m,o⟩:=zT (C:=fun A l=>a0J A.v (yL n l) q) (L:=fun A l=>a0M A.v (yL n l) z)
  (P:=fun B (l b:List Nm)=>l=b/\l.length<=20000/\(B.e=0->2*l.length+B.N<=A.N+1/\nw l+B.W<=A.W+2/\2<=nw l))
  (fun B l b a f c=>⟨FO a c rfl (aN2 _ _ _),by exact FO a c rfl (aN5 _ _ _)⟩)
  (fun B l b a f he c=>by
   obtain ⟨rfl,u,w⟩:=f;have hk:=kD c;have p:=jY a hk;have x:=Ce a.next p.1;have D:B.next.W+2=B.W:=nV a c;have h6:l.length<=20000:=by omega
   refine ⟨B.next.add l,l ++ [B.next.gZ l],l ++ [B.next.gZ l],?_,?_,Le.add a.next l,rfl,by simp; omega,fun e => ?_⟩
   .exact (FP a c (aN2 _ _ _)).trans (aGC (aQM q h6 a.next))
   .exact (FP a c (aN5 _ _ _)).trans (aGU (aQP z h6 a.next))
   .have:=l_ a.next e;have:=DF a.next e;rw[aBS];grind)
  (A.add []) [A.gZ []] [A.gZ []] d.ok ⟨rfl,by simp,fun e=>by have:=l_ h e; have:=DF h e; simp[nw]; omega⟩
 subst j;refine ⟨B,y,?_,?_,d.trans a,m,o⟩
 .rw[bGX,aGC (aQM q (by simp) h)]; exact g
 .rw[bH5,aGU (aQP z (by simp) h)]; exact i
abbrev tI (n t:ByteArray) (l:List Nm):Sh.V dY:=(n,t,aJ l,())
variable {t:ByteArray}
def aQN (q:Sh.V iH) (a:l.length<=20000) (h:A.ok):SS.CC 173 [.ptr 0 0,.ptr 1 0] [dB (tI n t l),some [.ptr 2 0],gY q,aA A.v]=some (.tuple [],[dB (tI n t (l ++ [A.gz])),some [.ptr 2 0],gY q,aA A.name.v]):=by
 rw[bGB];dsimp only[gQ];rw[lF (lJ h)];rw[aQ (fV (by rw[iR]; omega))];repeat rw[uD]
 rw[show ([.str (bs A.gz)]:List PV)=aJ [A.gz] from rfl,Fp]
def aQQ (q:Sh.V J5) (a:l.length<=20000) (h:A.ok):SS.CC 227 [.ptr 0 0,.ptr 1 0] [dB (tI n t l),some [.ptr 2 0],Iy q,aA A.v]=some (.tuple [],[dB (tI n t (l ++ [A.gz])),some [.ptr 2 0],Iy q,aA A.name.v]):=by
 rw[bIJ];dsimp only[gQ];rw[lF (lJ h)];rw[aQ (fV (by rw[iR]; omega))];repeat rw[uD]
 rw[show ([.str (bs A.gz)]:List PV)=aJ [A.gz] from rfl,Fp]
def aQR (q:Sh.V jW) (a:l.length<=20000) (h:A.ok):SS.CC 227 [.ptr 0 0,.ptr 1 0] [dB (tI n t l),some [.ptr 2 0],iZ q,aA A.v]=some (.tuple [],[dB (tI n t (l ++ [A.gz])),some [.ptr 2 0],iZ q,aA A.name.v]):=by
 rw[bII];dsimp only[gQ];rw[lF (lJ h)];rw[aQ (fV (by rw[iR]; omega))];repeat rw[uD]
 rw[show ([.str (bs A.gz)]:List PV)=aJ [A.gz] from rfl,Fp]
def aQS (q:Sh.V Gf) (a:l.length<=20000) (h:A.ok):SS.CC 227 [.ptr 0 0,.ptr 1 0] [dB (tI n t l),some [.ptr 2 0],Ci q,aA A.v]=some (.tuple [],[dB (tI n t (l ++ [A.gz])),some [.ptr 2 0],Ci q,aA A.name.v]):=by
 rw[aNH];dsimp only[gQ];rw[lF (lJ h)];rw[aQ (fV (by rw[iR]; omega))];repeat rw[uD]
 rw[show ([.str (bs A.gz)]:List PV)=aJ [A.gz] from rfl,Fp]
theorem bU2 (q:Sh.V jc) (n t:ByteArray) (h:A.ok) (hN:A.N<=40000):∃ B l,Le A B/\l.length<=20000/\(B.e=0->2*l.length+B.N<=A.N+1/\nw l+B.W<=A.W+2/\2<=nw l) /\
 SS.CC 175 [.ptr 0 0,.func (.func 173) [] [.ptr 1 0,.ptr 2 0]] [aA A.v,dB (tI n t []),some [.ptr 3 0],kX q]=some (.tuple [],[aA B.v,dB (tI n t l),some [.ptr 3 0],kX q]) /\
 (∀ z,SS.CC 175 [.ptr 0 0,.func (.func 227) [] [.ptr 1 0,.ptr 2 0]] [aA A.v,dB (tI n t []),some [.ptr 3 0],jy z]=some (.tuple [],[aA B.v,dB (tI n t l),some [.ptr 3 0],jy z])) /\
 (∀ z,SS.CC 175 [.ptr 0 0,.func (.func 227) [] [.ptr 1 0,.ptr 2 0]] [aA A.v,dB (tI n t []),some [.ptr 3 0],Eb z]=some (.tuple [],[aA B.v,dB (tI n t l),some [.ptr 3 0],Eb z])) /\
 (∀ z,SS.CC 175 [.ptr 0 0,.func (.func 227) [] [.ptr 1 0,.ptr 2 0]] [aA A.v,dB (tI n t []),some [.ptr 3 0],Ec z]=some (.tuple [],[aA B.v,dB (tI n t l),some [.ptr 3 0],Ec z])):=by
 have hA:=Le.name h;obtain ⟨B,y,y',e1,e2,hB,e3,e4,e5⟩:=zT (C:=fun A l=>QQ A.v (tI n t l) q)
  (L:=fun A l=>(fun z=>a0E A.v (tI n t l) z,fun z=>Ky A.v (tI n t l) z,fun z=>a0F A.v (tI n t l) z))
  (EL:=fun A l=>(fun z=>some (.tuple [],[aA A.v,dB (tI n t l),some [.ptr 3 0],jy z]),fun z=>some (.tuple [],[aA A.v,dB (tI n t l),some [.ptr 3 0],Eb z]),fun z=>some (.tuple [],[aA A.v,dB (tI n t l),some [.ptr 3 0],Ec z])))
  (P:=fun B (l l':List Nm)=>l=l'/\l.length<=20000/\(B.e=0->2*l.length+B.N<=A.N+1/\nw l+B.W<=A.W+2/\2<=nw l))
  (fun B l l' hB hP c=>⟨FO hB c rfl (aN4 _ _ _),by exact Prod.ext (funext fun z=>FO hB c rfl (aMY _ _ _)) (Prod.ext (funext fun z=>FO hB c rfl (aMX _ _ _)) (funext fun z=>FO hB c rfl (aMZ _ _ _)))⟩)
  (fun B l l' hB hP he c=>by
   obtain ⟨rfl,h1,h2⟩:=hP;have hk:=kD c;have h3:=jY hB hk;have h4:=Ce hB.next h3.1;have h8:B.next.W+2=B.W:=nV hB c;have h6:l.length<=20000:=by omega
   refine ⟨B.next.name,l ++ [B.next.gz],l ++ [B.next.gz],?_,?_,Le.name hB.next,rfl,by simp; omega,fun e => ?_⟩
   .exact (FP hB c (aN4 _ _ _)).trans (aGE (aQN q h6 hB.next))
   .exact Prod.ext (funext fun z=>(FP hB c (aMY _ _ _)).trans (aGW (aQR z h6 hB.next))) (Prod.ext (funext fun z=>(FP hB c (aMX _ _ _)).trans (aGV (aQQ z h6 hB.next))) (funext fun z=>(FP hB c (aMZ _ _ _)).trans (aGX (aQS z h6 hB.next))))
   .have:=(NY hB.next e).2;have:=Hw hB.next e;rw[aBS];grind)
  A.name [A.gz] [A.gz] hA.ok ⟨rfl,by simp,fun e=>by have:=(NY h e).2; have:=Hw h e; simp[nw]; omega⟩
 refine ⟨B,y,hA.trans hB,e4,e5,?_,fun z => ?_,fun z => ?_,fun z => ?_⟩
 .rw[bH2,aGE (aQN q (by simp) h)]; exact e1
 .rw[bGI,aGW (aQR z (by simp) h)]; simp_all
 .rw[bGF,aGV (aQQ z (by simp) h)]; simp_all
 .rw[bGL,aGX (aQS z (by simp) h)]; simp_all
end
end Go.Proofs.YtagkcbgkhgccmaaGreatDoor.W
namespace Go.Proofs.YtagkcbgkhgccmaaGreatDoor.W.P
open Go.RowKit
set_option maxRecDepth 1000000
section
variable {A B:RA} {x:EX} {d:Int} {v:ai}
end
section
variable {v:ai} {d:Int} {T:List Tok} {x:EX}
end
section
variable {v:ai} {d:Int} {T:List Tok} {x:EX}
end
end Go.Proofs.YtagkcbgkhgccmaaGreatDoor.W.P
namespace Go.Proofs.YtagkcbgkhgccmaaGreatDoor.W
open Go.RowKit
set_option maxRecDepth 1000000
section
variable {T:List Tok} {t:Tok} {s x:Nm} {a b v:Int}
end
theorem aIH (l:List Ins) (a:l.length<=20000):SS.CC 76 [.sl false 3 (l.map dN),h_ 172] []=some (a_ (aJ (l.map (·.n))),[]):=by
 rw[bLU];refine mG (n:=l.length) (L:=fun k=>a1J (l.map dN) (aJ ((l.take k).map (·.n))) (k:Int)) (fun k hk => ?_) ?_
 .rw[aOX,aP (by rw[bn]; omega),aI,AZ hk,o6 (bGA _),aQ (fV (rE _ l k a)),rD (·.n) l hk,bU (by omega)]
 grind [aOX,aF]
theorem b2C (l:List Tm) (a:l.length<=20000):SS.CC 78 [.sl false 9 (l.map xG),h_ 165] []=some (a_ (aJ (l.map (·.n))),[]):=by
 rw[bM2];refine mG (n:=l.length) (L:=fun k=>Z_ (l.map xG) (aJ ((l.take k).map (·.n))) (k:Int)) (fun k hk => ?_) ?_
 .rw[aOZ,aP (by rw[bn]; omega),aI,Hr hk,o6 (bG1 _),aQ (fV (rE _ l k a)),rD (·.n) l hk,bU (by omega)]
 grind [aOZ,aF]
theorem b2D (l:List uf) (a:l.length<=20000):SS.CC 80 [.sl false 2 (l.map xE),h_ 174] []=some (a_ (aJ (l.map (·.n))),[]):=by
 rw[bMB];refine mG (n:=l.length) (L:=fun k=>OW (l.map xE) (aJ ((l.take k).map (·.n))) (k:Int)) (fun k hk => ?_) ?_
 .rw[aP0,aP (by rw[bn]; omega),aI,FK hk,o6 (bGC _),aQ (fV (rE _ l k a)),rD (·.n) l hk,bU (by omega)]
 grind [aP0,aF]
theorem b2B (l:List Cst) (a:l.length<=20000):SS.CC 82 [.sl false 3 (l.map og),h_ 177] []=some (a_ (aJ (l.map (·.n))),[]):=by
 rw[bMK];refine mG (n:=l.length) (L:=fun k=>a1P (l.map og) (aJ ((l.take k).map (·.n))) (k:Int)) (fun k hk => ?_) ?_
 .rw[aP2,aP (by rw[bn]; omega),aI,Hq hk,o6 (bH7 _),aQ (fV (rE _ l k a)),rD (·.n) l hk,bU (by omega)]
 grind [aP2,aF]
section
variable {T U B:List Tok} {s x:Nm}
end
section
variable {T U B:List Tok} {s x w:Nm}
abbrev iT:Nm := [99,111,110,116,114,111,108,108,97,98,108,101]
abbrev kW:Nm := [111,98,115,101,114,118,97,98,108,101]
abbrev tu:Nm := [102,111,114,99,105,98,108,101]
abbrev zW:Nm := [102,97,117,108,116]
variable {y:RA}
def D8 (q:Sh.V dF) (h:y.ok) (w:Nm):SS.CC 239 [.str ⟨w.toArray⟩,.ptr 0 0] [some [.ptr 1 0],aX q,aA y.v]=some (.bool (y.is w),[some [.ptr 1 0],aX q,aA (y.take w).v]):=by have e:=jH h ⟨w.toArray⟩;rw[bIP,bQ e]
def b4N (q:Sh.V eQ) (h:y.ok):SS.CC 163 [.ptr 0 0,.sl false 1 [.str ⟨iT.toArray⟩,.str ⟨kW.toArray⟩,.str ⟨tu.toArray⟩]] [bF q,aA y.v] =
 some (.sl false 1 [.bool (y.is iT),.bool ((y.take iT).is kW),.bool (((y.take iT).take kW).is tu)],[bF q,aA (((y.take iT).take kW).take tu).v]):=by
 have e:SS.CC 238 [.sl false 1 [.str ⟨iT.toArray⟩,.str ⟨kW.toArray⟩,.str ⟨tu.toArray⟩],.func (.func 239) [] [.ptr 0 0]] [some [.ptr 1 0],aX q,aA y.v] =
  some (.sl false 1 [.bool (y.is iT),.bool ((y.take iT).is kW),.bool (((y.take iT).take kW).is tu)],[some [.ptr 1 0],aX q,aA (((y.take iT).take kW).take tu).v]):=by
  rw[bIO,a0X];show aB true (Td 239 [.str ⟨iT.toArray⟩,.ptr 0 0] [some [.ptr 1 0],aX q,aA y.v] _) _=_;rw[a6G (D8 q h iT)];rw[aQ (fV (by decide)),a0X];show aB true (Td 239 [.str ⟨kW.toArray⟩,.ptr 0 0] [some [.ptr 1 0],aX q,aA (y.take iT).v] _) _=_;rw[a6G (D8 q (h.take _) kW)];rw[aQ (fV (by simp)),a0X];show aB true (Td 239 [.str ⟨tu.toArray⟩,.ptr 0 0] [some [.ptr 1 0],aX q,aA ((y.take iT).take kW).v] _) _=_;rw[a6G (D8 q ((h.take _).take _) tu)];rw[a0X];rfl
 rw[bFY,aZK e]
theorem b2A (l:List oN) (a:l.length<=20000):SS.CC 161 [.sl false 5 (l.map zK),.func (.func 162) [] []] []=some (.sl false 1 (aJ (l.map (·.n))),[]):=by
 rw[bFW];refine mG (n:=l.length) (L:=fun k=>a0B (l.map zK) (aJ ((l.take k).map (·.n))) (k:Int)) (fun k hk => ?_) ?_
 .rw[aMP,aP (by rw[bn]; omega),aI,NR hk,o6 (bFX _),aQ (fV (rE _ l k a)),rD (·.n) l hk,bU (by omega)]
 grind [aMP,aF]
end
section
variable {T:List Tok} {s:Nm} {a0 b0 a1 b1 a2 b2 a3 b3 a4 b4 a5 b5 a6 b6 a7 b7 a8 b8:Int}
end
abbrev uK:Nm := [99,111,109,112,111,110,101,110,116]
abbrev vZ:Nm := [114,101,113,117,105,114,101,109,101,110,116]
abbrev yA:Nm := [101,120,99,108,117,100,101]
abbrev AV:Nm := [108,105,109,105,116]
abbrev rX:Nm := [116,101,109,112,108,97,116,101]
section
variable {T:List Tok} {s:Nm} {a0 b0:Int}
end
def UV (m:Mo) (a b e:Int):R:=some (.tuple [A0 (aU m),af a,af b,af e],[])
abbrev m00:Mo:=⟨[],[],[],[],[],[],[]⟩
section
variable {T:List Tok} {s:Nm} {a0 b0 a1 b1 a2 b2 a3 b3 a4 b4 a5 b5 a6 b6 a7 b7 a8 b8:Int}
end
abbrev bz (m:Mo) (v:List PV):Sh.V ay:=(bs m.n,m.es.map zK,m.ts.map xG,m.cs.map dN,m.rs.map dN,m.xs.map xE,m.ks.map og,v,0,())
def RA.ev1 (A:RA) (l:List Nm):RA:=(((A.add l).take iT).take kW).take tu
def RA.vU (A:RA) (l:List Nm):RA:=bif (A.ev1 l).is zW then (A.ev1 l).next.int 1 4 else A.ev1 l
def RA.DL (A:RA) (l:List Nm):RA:=(A.vU l).exp [59]
def RA.DN (A:RA) (l:List Nm):oN:=⟨A.gZ l,(A.add l).is iT,((A.add l).take iT).is kW,(((A.add l).take iT).take kW).is tu,bif (A.ev1 l).is zW then (A.ev1 l).next.DR 1 4 else 0⟩
section
variable {A:RA} {m:Mo}
def RA.ok.add (h:A.ok) (l:List Nm):(A.add l).ok:=(h.ad l).name
def aBX (h:A.ok) (l:List Nm):(A.ev1 l).ok:=(((h.add l).take _).take _).take _
theorem Le.int (h:A.ok) (b c:Int):Le A (A.int b c):=by
 have num:∀ {B:RA} (d:Int),B.ok->Le B (B.num d b c):=fun {B} d a=>by
  unfold RA.num;split
  .split
   .exact .fail a (by decide)
   .exact .next a
  .exact .fail a (by decide)
 unfold RA.int;cases A.mi with
 | true=>exact (Le.next h).trans (num _ h.next)
 | false=>grind
def aB3 (h:A.ok) (l:List Nm):Le A (A.vU l):=by
 have a:Le A (A.ev1 l):=((Le.add h l).trans (Le.take (h.add l) _)).trans ((Le.take ((h.add l).take _) _).trans (Le.take (((h.add l).take _).take _) _));unfold RA.vU;cases (A.ev1 l).is zW with
 | true=>exact a.trans ((Le.next a.ok).trans (Le.int a.ok.next 1 4))
 | false=>exact a
def bSB (h:A.ok) (l:List Nm):Le A (A.DL l):=(aB3 h l).trans (Le.exp (aB3 h l).ok _)
theorem b3U (q:Sh.V dF) (h:A.ok) (a:m.es.length<=20000):SS.CC 65 [.ptr 0 0,.ptr 1 0] [aX q,bZ (aU m),aA A.v] =
 some (.tuple [],[aX q,bZ (aU { m with es:=m.es ++ [A.DN (m.es.map (·.n))] }),aA (A.DL (m.es.map (·.n))).v]):=by
 have e:(m.es.map (·.n)).length<=20000:=by rw[bM]; exact a
 have b:=aBX h (m.es.map (·.n));have d:∀ (B:RA) (n:Int),B.ok->Zx q (aU m) B.v (bs (A.gZ (m.es.map (·.n))),(A.add (m.es.map (·.n))).is iT,((A.add (m.es.map (·.n))).take iT).is kW,(((A.add (m.es.map (·.n))).take iT).take kW).is tu,n,()) =
  some (.tuple [],[aX q,bZ (aU { m with es:=m.es ++ [⟨A.gZ (m.es.map (·.n)),(A.add (m.es.map (·.n))).is iT,((A.add (m.es.map (·.n))).take iT).is kW,(((A.add (m.es.map (·.n))).take iT).take kW).is tu,n⟩] }),aA (B.exp [59]).v]):=fun B n f=>by
  rw[bCK];refine (bW (eY f _)).trans ?_;rw[aQ (fV (by rw[bM]; exact a))];simp
 rw[bCM,wP (b2A m.es a),GR (Gg _ e h)];try dsimp only
 rw[a'9 (b4N q (h.add _))];try dsimp only
 show bP 62 [.ptr 0 0,.str ⟨zW.toArray⟩] [aA (A.ev1 (m.es.map (·.n))).v] _=_;rw[bQ (jH b ⟨zW.toArray⟩)];try dsimp only
 show aB ((A.ev1 (m.es.map (·.n))).is zW) _ _=_;unfold RA.DL RA.vU RA.DN;cases c:(A.ev1 (m.es.map (·.n))).is zW with
 | true =>rw[aI,GH,GH];show ES 164 [.ptr 0 0,.int .i64 1,.int .i64 4] [aA ((A.ev1 (m.es.map (·.n))).take zW).v] _=_;rw[qC c,PH (Qk b.next 1 4)];exact d _ _ (b.next.int _ _)
 | false =>rw[aF,yV,yV];grind [lZ]
theorem b41 (v:List PV) (h:A.ok) (a:m.es.length<=20000):SS.CC 143 [.ptr 0 0] [aK (bz m v),aA A.v] =
 some (.tuple [],[aK (bz { m with es:=m.es ++ [A.DN (m.es.map (·.n))] } v),aA (A.DL (m.es.map (·.n))).v]):=by
 have e:(m.es.map (·.n)).length<=20000:=by rw[bM]; exact a
 have b:=aBX h (m.es.map (·.n));have f:QF (bz m v) A.v [] 0=QF (bz m v) A.v (aJ (m.es.map (·.n))) (m.es.length:Int):=by
  refine mG (n:=m.es.length) (L:=fun k=>QF (bz m v) A.v (aJ ((m.es.take k).map (·.n))) (k:Int)) (fun k hk => ?_) ?_
  .rw[aMC];try dsimp only
   rw[aP (by rw[bn]; omega),aI,NR hk,aQ (fV (rE _ m.es k a)),rD (·.n) m.es hk,bU (by omega)]
  simp
 have d:∀ (B:RA) (n:Int),B.ok->a03 (bz m v) B.v (bs (A.gZ (m.es.map (·.n))),(A.add (m.es.map (·.n))).is iT,((A.add (m.es.map (·.n))).take iT).is kW,(((A.add (m.es.map (·.n))).take iT).take kW).is tu,n,()) =
  some (.tuple [],[aK (bz { m with es:=m.es ++ [⟨A.gZ (m.es.map (·.n)),(A.add (m.es.map (·.n))).is iT,((A.add (m.es.map (·.n))).take iT).is kW,(((A.add (m.es.map (·.n))).take iT).take kW).is tu,n⟩] } v),aA (B.exp [59]).v]):=fun B n g=>by
  rw[bEJ];refine (bW (eY g _)).trans ?_;rw[aQ (fV (by rw[bM]; exact a))];simp
 rw[bEM,f,aMC];try dsimp only
 rw[bG (by rw[bn]; omega),aF,Iu (J9 _ e h)];try dsimp only
 show bP 62 [.ptr 0 0,.str ⟨iT.toArray⟩] [aA (A.add (m.es.map (·.n))).v] _=_;rw[bQ (jH (h.add _) ⟨iT.toArray⟩)];try dsimp only
 show bP 62 [.ptr 0 0,.str ⟨kW.toArray⟩] [aA ((A.add (m.es.map (·.n))).take iT).v] _=_;rw[bQ (jH ((h.add _).take _) ⟨kW.toArray⟩)];try dsimp only
 show bP 62 [.ptr 0 0,.str ⟨tu.toArray⟩] [aA (((A.add (m.es.map (·.n))).take iT).take kW).v] _=_;rw[bQ (jH (((h.add _).take _).take _) ⟨tu.toArray⟩)];try dsimp only
 show bP 62 [.ptr 0 0,.str ⟨zW.toArray⟩] [aA (A.ev1 (m.es.map (·.n))).v] _=_;rw[bQ (jH b ⟨zW.toArray⟩)];try dsimp only
 show aB ((A.ev1 (m.es.map (·.n))).is zW) _ _=_;unfold RA.DL RA.vU RA.DN;cases c:(A.ev1 (m.es.map (·.n))).is zW with
 | true =>rw[aI,GH,GH];show ES 164 [.ptr 0 0,.int .i64 1,.int .i64 4] [aA ((A.ev1 (m.es.map (·.n))).take zW).v] _=_;rw[qC c,PH (Qk b.next 1 4)];exact d _ _ (b.next.int _ _)
 | false =>rw[aF,yV,yV];grind [lZ]
end
section
variable {A:RA} {m:Mo}
def bU3 (q:Sh.V jc) (n t:ByteArray) (h:A.ok) (d:A.N<=40000):∃ C l,Le (A.exp [40]) C/\l.length<=20000/\(C.e=0->2*l.length+C.N<=(A.exp [40]).N+1/\nw l-2+C.W<=(A.exp [40]).W) /\
 SS.CC 166 [.ptr 0 0,.func (.func 173) [] [.ptr 1 0,.ptr 2 0]] [gY q,dB (tI n t []),some [.ptr 0 0],aA A.v]=some (.tuple [],[gY q,dB (tI n t l),some [.ptr 0 0],aA (C.exp [41]).v]) /\
 (∀ (z:Sh.V jb) (J:Sh.V jb->Sh.V aC->Sh.V dY->R),aB (!(A.exp [40]).is [41]) (H75 175 [.ptr 0 0,.func (.func 227) [] [.ptr 1 0,.ptr 2 0]] [aA (A.exp [40]).v,dB (tI n t []),some [.ptr 3 0],jy z] fun _ u v w=>J w u v) (J z (A.exp [40]).v (tI n t []))=J z C.v (tI n t l)) /\
 (∀ (z:Sh.V Cm) (J:Sh.V Cm->Sh.V aC->Sh.V dY->R),aB (!(A.exp [40]).is [41]) (H74 175 [.ptr 0 0,.func (.func 227) [] [.ptr 1 0,.ptr 2 0]] [aA (A.exp [40]).v,dB (tI n t []),some [.ptr 3 0],Eb z] fun _ u v w=>J w u v) (J z (A.exp [40]).v (tI n t []))=J z C.v (tI n t l)) /\
 (∀ (z:Sh.V D5) (J:Sh.V D5->Sh.V aC->Sh.V dY->R),aB (!(A.exp [40]).is [41]) (H77 175 [.ptr 0 0,.func (.func 227) [] [.ptr 1 0,.ptr 2 0]] [aA (A.exp [40]).v,dB (tI n t []),some [.ptr 3 0],Ec z] fun _ u v w=>J w u v) (J z (A.exp [40]).v (tI n t []))=J z C.v (tI n t l)):=by
 have a:=Le.exp h [40];cases c:(A.exp [40]).is [41] with
 | true =>
  refine ⟨A.exp [40],[],.refl a.ok,by simp,fun _=>⟨by simp,by simp[nw]⟩,?_,fun z J => ?_,fun z J => ?_,fun z J => ?_⟩
  .rw[aMQ,bW (eY h _)];rw[bQ (sU a.ok ⟨#[41]⟩)];rw[c,uY,aF,bW (eY a.ok _)]
  all_goals rw[uY,aF]
 | false =>
  obtain ⟨C,l,b,f,g,i,j,m,o⟩:=bU2 q n t a.ok (lD a.le d);refine ⟨C,l,b,f,fun e=>⟨(g e).1,by omega⟩,?_,fun z J => ?_,fun z J => ?_,fun z J => ?_⟩
  .rw[aMQ,bW (eY h _)];rw[bQ (sU a.ok ⟨#[41]⟩)];rw[c,pG,aI,aZJ i];rw[bW (eY b.ok _)]
  .rw[pG,aI,a'2 (j z)]
  .rw[pG,aI,a'1 (m z)]
  .rw[pG,aI,a'4 (o z)]
def iw (x:Ins):Nat:=wl x.n+wl x.t+(nw x.es-2)+10
theorem aQ8 (q:Sh.V dF) (h:A.ok) (I:m.cs.length+m.rs.length<=20000) (J:A.N<=40000):∃ f x,Le A f/\(f.e=0->f.N<A.N/\x.es.length<=20000/\iw x+f.W<=A.W) /\
 SS.CC 69 [.ptr 0 0,.ptr 1 0,.ptr 1 3] [aX q,bZ (aU m),aA A.v]=some (.tuple [],[aX q,bZ (aU { m with cs:=m.cs ++ [x] }),aA f.v]) /\
 SS.CC 69 [.ptr 0 0,.ptr 1 0,.ptr 1 4] [aX q,bZ (aU m),aA A.v]=some (.tuple [],[aX q,bZ (aU { m with rs:=m.rs ++ [x] }),aA f.v]) /\
 (∀ v,SS.CC 146 [.ptr 0 0] [aK (bz m v),aA A.v]=some (A8 (G8 x),[aK (bz m v),aA f.v])) /\
 (∀ v,SS.CC 146 [.ptr 0 0] [vO (bz m v),aA A.v]=some (A8 (G8 x),[vO (bz m v),aA f.v])) /\
 (∀ v,SS.CC 146 [.ptr 0 0] [vP (bz m v),aA A.v]=some (A8 (G8 x),[vP (bz m v),aA f.v])):=by
 have j:(m.cs ++ m.rs).length<=20000:=by rw[aZ]; exact I
 have r:((m.cs ++ m.rs).map (·.n)).length<=20000:=by rw[bM]; exact j
 have i:=Le.add h ((m.cs ++ m.rs).map (·.n));have d:=Le.exp i.ok [61];have g:=Le.name d.ok;have t:=(i.trans d).trans g;obtain ⟨C,l,k1,k2,k3,z,K,M,O⟩:=bU3 q (bs (A.gZ ((m.cs ++ m.rs).map (·.n)))) (bs ((A.add ((m.cs ++ m.rs).map (·.n))).exp [61]).gz) g.ok (lD t.le J);have o:=Le.exp g.ok [40];have u:=Le.exp k1.ok [41];have y:=Le.exp u.ok [59];have p:(C.exp [41]).ok:=u.ok;refine ⟨(C.exp [41]).exp [59],⟨A.gZ ((m.cs ++ m.rs).map (·.n)),((A.add ((m.cs ++ m.rs).map (·.n))).exp [61]).gz,l⟩,((t.trans o).trans k1).trans (u.trans y),fun e => ?_,?_,?_,fun v => ?_,fun v => ?_,fun v => ?_⟩
 .have B:=y.e0 e;have D:=u.e0 B;have E:=k1.e0 D;have F:=o.e0 E;have G:=g.e0 F;have H:=d.e0 G;have w0:=DF h H;have w1:((A.add ((m.cs ++ m.rs).map (·.n))).exp [61]).W+2=(A.add ((m.cs ++ m.rs).map (·.n))).W:=nC i.ok G;have w2:=Hw d.ok F;have w3:(((A.add ((m.cs ++ m.rs).map (·.n))).exp [61]).name.exp [40]).W+2=((A.add ((m.cs ++ m.rs).map (·.n))).exp [61]).name.W:=nC g.ok E;have w4:=(k3 D).2;have w5:(C.exp [41]).W+2=C.W:=nC k1.ok B;have w6:((C.exp [41]).exp [59]).W+2=(C.exp [41]).W:=nC p e;have Q:=l_ h H;have S:=d.le;have T:=g.le;have U:=o.le;have X:=k1.le;have Y:=u.le;have Z:=y.le;grind [iw]
 .rw[bCT];dsimp only[gQ];rw[Ip (JG m.cs (by omega)),aQ (DY (by rw[bM]; omega) (by rw[bM]; omega)),<- yT,wP (aIH (m.cs ++ m.rs) j),GR (Gg _ r h)];try dsimp only
  rw[bW (eY i.ok _)];try dsimp only
  rw[lF (lJ d.ok)];try dsimp only
  refine (aGT z).trans ?_;try dsimp only
  rw[bW (eY p _),aQ (fV (by rw[bM]; omega))];simp
 .rw[bCU];dsimp only[gQ];rw[Ip (JG m.cs (by omega)),aQ (DY (by rw[bM]; omega) (by rw[bM]; omega)),<- yT,wP (aIH (m.cs ++ m.rs) j),GR (Gg _ r h)];try dsimp only
  rw[bW (eY i.ok _)];try dsimp only
  rw[lF (lJ d.ok)];try dsimp only
  refine (aGT z).trans ?_;try dsimp only
  rw[bW (eY p _),aQ (fV (by rw[bM]; omega))];simp
 .have w:QJ (bz m v) A.v ((m.cs ++ m.rs).map dN) (((m.cs ++ m.rs).map dN).length:Int) [] 0=QJ (bz m v) A.v ((m.cs ++ m.rs).map dN) (((m.cs ++ m.rs).map dN).length:Int) (aJ ((m.cs ++ m.rs).map (·.n))) ((m.cs ++ m.rs).length:Int):=by
   refine mG (n:=(m.cs ++ m.rs).length) (L:=fun k=>QJ (bz m v) A.v ((m.cs ++ m.rs).map dN) (((m.cs ++ m.rs).map dN).length:Int) (aJ (((m.cs ++ m.rs).take k).map (·.n))) (k:Int)) (fun k hk => ?_) ?_
   .rw[aMH,aP (by rw[bn]; omega),aI,AZ hk,aQ (fV (rE _ (m.cs ++ m.rs) k j)),rD (·.n) (m.cs ++ m.rs) hk,bU (by omega)]
   grind
  rw[bF3];try dsimp only
  rw[Ip (JG m.cs (by omega)),aQ (DY (by rw[bM]; omega) (by rw[bM]; omega)),<- yT,w,aMH,bG (by rw[bn]; omega),aF,Iu (J9 _ r h)];try dsimp only
  rw[bW (eY i.ok _)];try dsimp only
  rw[lF (lJ d.ok)];try dsimp only
  rw[bW (eY g.ok _)];try dsimp only
  rw[bQ (sU o.ok ⟨#[41]⟩)];refine (K (bz m v) (fun a b c=>UM a b c)).trans ?_;rw[bF0,bW (eY k1.ok _)];try dsimp only
  rw[bW (eY p _)]
 .have w:QL (bz m v) A.v ((m.cs ++ m.rs).map dN) (((m.cs ++ m.rs).map dN).length:Int) [] 0=QL (bz m v) A.v ((m.cs ++ m.rs).map dN) (((m.cs ++ m.rs).map dN).length:Int) (aJ ((m.cs ++ m.rs).map (·.n))) ((m.cs ++ m.rs).length:Int):=by
   refine mG (n:=(m.cs ++ m.rs).length) (L:=fun k=>QL (bz m v) A.v ((m.cs ++ m.rs).map dN) (((m.cs ++ m.rs).map dN).length:Int) (aJ (((m.cs ++ m.rs).take k).map (·.n))) (k:Int)) (fun k hk => ?_) ?_
   .rw[aML,aP (by rw[bn]; omega),aI,AZ hk,aQ (fV (rE _ (m.cs ++ m.rs) k j)),rD (·.n) (m.cs ++ m.rs) hk,bU (by omega)]
   grind
  rw[bFB];try dsimp only
  rw[Ip (JG m.cs (by omega)),aQ (DY (by rw[bM]; omega) (by rw[bM]; omega)),<- yT,w,aML,bG (by rw[bn]; omega),aF,a'0 (a'T _ r h)];try dsimp only
  rw[bW (eY i.ok _)];try dsimp only
  rw[lF (lJ d.ok)];try dsimp only
  rw[bW (eY g.ok _)];try dsimp only
  rw[bQ (sU o.ok ⟨#[41]⟩)];refine (M (bz m v) (fun a b c=>a09 a b c)).trans ?_;rw[bF8,bW (eY k1.ok _)];try dsimp only
  rw[bW (eY p _)]
 .have w:QK (bz m v) A.v ((m.cs ++ m.rs).map dN) (((m.cs ++ m.rs).map dN).length:Int) [] 0=QK (bz m v) A.v ((m.cs ++ m.rs).map dN) (((m.cs ++ m.rs).map dN).length:Int) (aJ ((m.cs ++ m.rs).map (·.n))) ((m.cs ++ m.rs).length:Int):=by
   refine mG (n:=(m.cs ++ m.rs).length) (L:=fun k=>QK (bz m v) A.v ((m.cs ++ m.rs).map dN) (((m.cs ++ m.rs).map dN).length:Int) (aJ (((m.cs ++ m.rs).take k).map (·.n))) (k:Int)) (fun k hk => ?_) ?_
   .rw[aMJ,aP (by rw[bn]; omega),aI,AZ hk,aQ (fV (rE _ (m.cs ++ m.rs) k j)),rD (·.n) (m.cs ++ m.rs) hk,bU (by omega)]
   grind
  rw[bF7];try dsimp only
  rw[Ip (JG m.cs (by omega)),aQ (DY (by rw[bM]; omega) (by rw[bM]; omega)),<- yT,w,aMJ,bG (by rw[bn]; omega),aF,a'3 (a'U _ r h)];try dsimp only
  rw[bW (eY i.ok _)];try dsimp only
  rw[lF (lJ d.ok)];try dsimp only
  rw[bW (eY g.ok _)];try dsimp only
  rw[bQ (sU o.ok ⟨#[41]⟩)];refine (O (bz m v) (fun a b c=>a08 a b c)).trans ?_;rw[bF4,bW (eY k1.ok _)];try dsimp only
  rw[bW (eY p _)]
end
def lw:List (Nm×Nm)->Nat
 | []=>0
 | p::l=>wl p.1+wl p.2+4+lw l
def aT8 (p:Nm×Nm):∀ l,lw (l ++ [p])=lw l+(wl p.1+wl p.2+4)
 | []=>by simp[lw]
 | a::l=>by rw[qF,lw,lw,aT8 p l]; omega
section
variable {A:RA} {m:Mo} {n:ByteArray} {l:List (Nm×Nm)}
abbrev tX (n:ByteArray) (l:List (Nm×Nm)):Sh.V lq:=(n,l.map zL,())
theorem aQO (q:Sh.V iH) (a:l.length<=20000) (h:A.ok):SS.CC 176 [.ptr 0 0,.ptr 1 0] [some [.ptr 2 0],lT (tX n l),gY q,aA A.v]=some (.tuple [],[some [.ptr 2 0],lT (tX n (l ++ [(A.gz,A.name.gz)])),gY q,aA A.name.name.v]):=by rw[bH6,lF (lJ h)];rw[lF (lJ h.name)];grind [aQ,fV]
theorem aQT (q:Sh.V jW) (a:l.length<=20000) (h:A.ok):SS.CC 228 [.ptr 0 0,.ptr 1 0] [some [.ptr 2 0],lT (tX n l),iZ q,aA A.v]=some (.tuple [],[some [.ptr 2 0],lT (tX n (l ++ [(A.gz,A.name.gz)])),iZ q,aA A.name.name.v]):=by rw[bIK];dsimp only[gQ];rw[lF (lJ h)];rw[lF (lJ h.name)];grind [aQ,fV,uD]
def aYD (h:A.ok) (e:A.name.name.e=0):A.name.name.N+2<=A.N/\A.name.name.W+(wl A.gz+wl A.name.gz+2)=A.W:=by have b:=NY h.name e;have c:=Hw h.name e;have a:A.name.e=0:=(Le.name h.name).e0 e;have d:=NY h a;have f:=Hw h a;omega
theorem bS9 (q:Sh.V jc) (n:ByteArray) (h:A.ok) (o:A.N<=40000):∃ B l,Le A B/\l.length<=20000/\(B.e=0->2*l.length+B.N<=A.N+1/\lw l+B.W<=A.W+2/\2<=lw l) /\
 SS.CC 175 [.ptr 0 0,.func (.func 176) [] [.ptr 1 0,.ptr 2 0]] [aA A.v,some [.ptr 3 0],lT (tX n []),kX q]=some (.tuple [],[aA B.v,some [.ptr 3 0],lT (tX n l),kX q]) /\
 (∀ z,SS.CC 175 [.ptr 0 0,.func (.func 228) [] [.ptr 1 0,.ptr 2 0]] [aA A.v,some [.ptr 3 0],lT (tX n []),jy z]=some (.tuple [],[aA B.v,some [.ptr 3 0],lT (tX n l),jy z])):=by
 have d:=(Le.name h).trans (Le.name h.name);obtain ⟨B,y,p,g,r,a,t,i,j⟩:=zT (C:=fun A l=>RD A.v (tX n l) q) (L:=fun A l=>fun z=>a0G A.v (tX n l) z)
  (P:=fun B (l b:List (Nm×Nm))=>l=b/\l.length<=20000/\(B.e=0->2*l.length+B.N<=A.N+1/\lw l+B.W<=A.W+2/\2<=lw l))
  (fun B l b a f c=>⟨FO a c rfl (aN0 _ _ _),by exact funext fun z=>FO a c rfl (aM' _ _ _)⟩)
  (fun B l b a f he c=>by
   obtain ⟨rfl,u,w⟩:=f;have hk:=kD c;have m:=jY a hk;have x:=Ce a.next m.1;have D:B.next.W+2=B.W:=nV a c;have h6:l.length<=20000:=by omega
   refine ⟨B.next.name.name,l ++ [(B.next.gz,B.next.name.gz)],l ++ [(B.next.gz,B.next.name.gz)],?_,?_,(Le.name a.next).trans (Le.name a.next.name),rfl,by simp; omega,fun e => ?_⟩
   .exact (FP a c (aN0 _ _ _)).trans (aG9 (aQO q h6 a.next))
   .exact funext fun z=>(FP a c (aM' _ _ _)).trans (aGY (aQT z h6 a.next))
   .have:=aYD a.next e;rw[aT8];grind)
  A.name.name [(A.gz,A.name.gz)] [(A.gz,A.name.gz)] d.ok ⟨rfl,by simp,fun e=>by have:=aYD h e; simp[lw]; omega⟩
 refine ⟨B,y,d.trans a,i,j,?_,fun z => ?_⟩
 .rw[bGR,aG9 (aQO q (by simp) h)]; exact g
 .rw[bGO,aGY (aQT z (by simp) h)]; simp_all
def xw (x:uf):Nat:=wl x.n+(lw x.ls-2)+5
theorem b4D (q:Sh.V dF) (h:A.ok) (d:m.xs.length<=20000) (o:A.N<=40000):∃ a x,Le A a/\(a.e=0->a.N<A.N/\x.ls.length<=20000/\xw x+a.W<=A.W) /\
 SS.CC 72 [.ptr 0 0,.ptr 1 0] [aX q,bZ (aU m),aA A.v]=some (.tuple [],[aX q,bZ (aU { m with xs:=m.xs ++ [x] }),aA a.v]) /\
 (∀ v,SS.CC 147 [.ptr 0 0] [aK (bz m v),aA A.v]=some (.tuple [],[aK (bz { m with xs:=m.xs ++ [x] } v),aA a.v])):=by
 have g:(m.xs.map (·.n)).length<=20000:=by rw[bM]; exact d
 have b:=Le.add h (m.xs.map (·.n));have c:=Le.exp b.ok [58];obtain ⟨C,l,k1,k2,k3,p,r⟩:=bS9 q (bs (A.gZ (m.xs.map (·.n)))) c.ok (lD (b.trans c).le o);have f:=Le.exp k1.ok [59];refine ⟨C.exp [59],⟨A.gZ (m.xs.map (·.n)),l⟩,((b.trans c).trans k1).trans f,fun e => ?_,?_,fun v => ?_⟩
 .have t:=f.e0 e;have i:=k1.e0 t;have j:=c.e0 i;have w0:=DF h j;have w1:((A.add (m.xs.map (·.n))).exp [58]).W+2=(A.add (m.xs.map (·.n))).W:=nC b.ok i;have w5:(C.exp [59]).W+2=C.W:=nC k1.ok e;have w:=l_ h j;have y:=c.le;have z:=k1.le;have B:=f.le;grind [xw]
 .rw[bCX];dsimp only[gQ];rw[wP (b2D m.xs d),GR (Gg _ g h)];rw[bW (eY b.ok _)];refine (a'8 p).trans ?_;rw[bW (eY k1.ok _),aQ (fV (by rw[bM]; omega))];simp
 .have u:QM (bz m v) A.v [] 0=QM (bz m v) A.v (aJ (m.xs.map (·.n))) (m.xs.length:Int):=by
   refine mG (n:=m.xs.length) (L:=fun k=>QM (bz m v) A.v (aJ ((m.xs.take k).map (·.n))) (k:Int)) (fun k hk => ?_) ?_
   .rw[aMM];rw[aP (by rw[bn]; omega),aI,FK hk,aQ (fV (rE _ m.xs k d)),rD (·.n) m.xs hk,bU (by omega)]
   simp
  rw[bFF,u,aMM];rw[bG (by rw[bn]; omega),Iu (J9 _ g h)];rw[bW (eY b.ok _)];refine (a'5 (r (bz m v))).trans ?_;rw[bW (eY k1.ok _),aQ (fV (by rw[bM]; omega))];simp
end
def oI (v:Int):Nat:=if v < -65536\/65536<v then 1000000 else if v<0 then dl (-v)+3 else dl v+1
def tw:List (Nm×Int)->Nat
 | []=>0
 | p::l=>oI p.2+wl p.1+5+tw l
theorem aES (p:Nm×Int):∀ l,tw (l ++ [p])=tw l+(oI p.2+wl p.1+5)
 | []=>by simp[tw]
 | a::l=>by rw[qF,tw,tw,aES p l]; omega
section
variable {A:RA} {m:Mo} {n:ByteArray} {l:List (Nm×Int)}
theorem aQE {a b:Int} (h:A.ok) (e:(A.int a b).e=0):oI (A.DR a b)+(A.int a b).W<=A.W/\(A.int a b).N<A.N/\a<=A.DR a b/\A.DR a b<=b:=by
 have num:∀ {B:RA} (d:Int),(d=1\/d = -1)->B.ok->(B.num d a b).e=0->B.pk.kind=2/\B.Nh d a b=d*B.pk.value/\B.num d a b=B.next/\a<=d*B.pk.value/\d*B.pk.value<=b:=fun {B} d l j e=>by
  unfold RA.num at e;by_cases hk:B.pk.kind=2
  .obtain ⟨g,i⟩:=Nj j hk;grind [wrap64,qM,RA.num,RA.Nh]
  grind [qM]
 unfold RA.int RA.DR at *;cases c:A.mi with
 | true =>
  rw[c] at e;have f:A.is [45]=true:=by grind [RA.mi,RA.is]
  obtain ⟨k1,k2,k3,k4,k5⟩:=num (-1) (.inr rfl) h.next e;rw[GH,GH,k2,k3];have w1:A.next.W+2=A.W:=nV h f;have w2:=FT h.next (show A.next.pk.kind≠4 by omega);obtain ⟨g,i⟩:=Nj h.next k1;unfold Az at w2;refine ⟨?_,?_,k4,k5⟩;grind [oI]
  .have m:=(jY h (kD f)).2;have n:=(jY h.next (show A.next.pk.kind≠4 by omega)).2;omega
 | false =>rw[c] at e;obtain ⟨k1,k2,k3,k4,k5⟩:=num 1 (.inl rfl) h e;have w2:=FT h (show A.pk.kind≠4 by omega);obtain ⟨g,i⟩:=Nj h k1;grind [Az,jY,oI]
def RA.iv (A:RA):Int:=A.DR (-65536) 65536
def RA.in (A:RA):RA:=A.int (-65536) 65536
def Vh (h:A.ok) (e:A.in.e=0):oI A.iv+A.in.W<=A.W/\A.in.N<A.N /\ -65536<=A.iv/\A.iv<=65536:=aQE h e
def Le.in (h:A.ok):Le A A.in:=Le.int h _ _
def XB (q:Sh.V eQ) (h:A.ok):SS.CC 178 [.ptr 0 0] [bF q,aA A.v]=some (.int .i64 A.iv,[bF q,aA A.in.v]):=by rw[bH8,PH (Qk h _ _)]; rfl
def XC (q:Sh.V ay) (h:A.ok):SS.CC 225 [.ptr 0 0] [aK q,aA A.v]=some (.int .i64 A.iv,[aK q,aA A.in.v]):=by rw[bIG,PH (Qk h _ _)]; rfl
def Bv (q:Sh.V eQ) (A:RA):SS.CC 18 [.ptr 0 0] [bF q,aA A.v]=some (.bool (A.e==0),[bF q,aA A.v]):=by rw[b6C,Lj (MQ A)]
abbrev tT (l:List (Nm×Int)):List PV:=l.map Np
def RA.wG (A:RA):RA:=(A.in.exp [42]).name
def RA.OJ (A:RA):Nm×Int:=((A.in.exp [42]).gz,A.iv)
def Le.wG (h:A.ok):Le A A.wG:=by have a:=Le.in h;have b:=Le.exp a.ok [42];exact (a.trans b).trans (Le.name b.ok)
theorem aY7 (h:A.ok) (e:A.wG.e=0):A.wG.N+3<=A.N/\oI A.OJ.2+wl A.OJ.1+3+A.wG.W<=A.W:=by
 have b:=Le.in h;have a:=Le.exp b.ok [42];have d:(A.in.exp [42]).e=0:=(Le.name a.ok).e0 e;have f:=a.e0 d;have w0:=Vh h f;have w1:(A.in.exp [42]).W+2=A.in.W:=nC b.ok d;have w2:=Hw a.ok e;have g:=(NY a.ok e).2;have i:(A.in.exp [42]).N<A.in.N:=by
  cases c:A.in.is [42] with
  | true=>unfold RA.exp; rw[c]; exact (jY b.ok (kD c)).2
  | false=>grind [RA.exp,qM]
 grind [RA.wG,RA.OJ]
theorem ctL (q:Sh.V eQ) (n:ByteArray) (h:A.ok) (E:A.N<=40000):∃ B l,Le A B/\l.length<=20000/\(B.e=0->tw l+B.W<=A.W+2/\2<=tw l) /\
 V5 q (aU m) A.v n true []=V4 q (aU m) B.v n (tT l)/\(fun v=>QN v A.v n true [])=fun v=>VD v B.v n (tT l) :=
 loops (C:=fun B (y:Bool×List (Nm×Int))=>V5 q (aU m) B.v n y.1 (tT y.2)) (L:=fun B (y:Bool×List (Nm×Int)) v=>QN v B.v n y.1 (tT y.2))
  (P:=fun B y z=>y=z/\Le A B/\y.2.length<=20000/\(B.e=0->(y.1=true->3*y.2.length+B.N<=A.N/\tw y.2+B.W<=A.W)/\(y.1=false->tw y.2+B.W<=A.W+2/\2<=tw y.2)))
  (Q:=fun r s=>∃ B l,Le A B/\l.length<=20000/\(B.e=0->tw l+B.W<=A.W+2/\2<=tw l)/\r=V4 q (aU m) B.v n (tT l)/\s=fun v=>VD v B.v n (tT l))
  (fun B y z a D=>by
   obtain ⟨rfl,p,t,u⟩:=D;obtain ⟨b,l⟩:=y;dsimp only at t u ⊢;cases b with
   | false =>grind [a8V,aF,a94]
   | true =>
    by_cases e:B.e=0
    .obtain ⟨F,G⟩:=(u e).1 rfl;have H:=Ce a e;have d:=Le.wG a;have g:=Le.in a;have w:=Le.exp g.ok [42];have f:=Le.take d.ok [43];have i:(B.wG.take [43]).N<B.N:=by
      by_cases j:B.wG.e=0
      .have:=aY7 a j; have:=f.le; omega
      grind [b'H,Tz]
     refine .inr ⟨B.wG.take [43],(B.wG.is [43],l ++ [B.OJ]),(B.wG.is [43],l ++ [B.OJ]),?_,?_,f.ok,⟨rfl,(p.trans d).trans f,by simp; omega,fun o => ?_⟩,i⟩
     .rw[a8V,Iq (Bv _ B)];rw[show (B.e==0)=true by simp[e],EY (XB _ a)];rw[bW (eY g.ok _)];rw[lF (lJ w.ok)];rw[aQ (fV (by rw[bM]; omega))];show bP 62 [.ptr 0 0,.str ⟨#[43]⟩] [aA B.wG.v] _=_;rw[bQ (jH d.ok ⟨#[43]⟩)];simp[RA.OJ]
     .funext v
      rw[a94,CY (P.BM _ B)];rw[show (B.e != 0)=false by simp[e],EU (XC _ a)];rw[bW (eY g.ok _)];rw[lF (lJ w.ok)];rw[aQ (fV (by rw[bM]; omega))];show bP 62 [.ptr 0 0,.str ⟨#[43]⟩] [aA B.wG.v] _=_;rw[bQ (jH d.ok ⟨#[43]⟩)];simp[RA.OJ]
     .have j:=f.e0 o;have k1:=aY7 a j;have k2:=XN (x := [43]) d.ok;have k3:=f.le;refine ⟨fun c => ?_,fun c => ?_⟩
      .have c:B.wG.is [43]=true:=c;rw[c] at k2;have k2:(B.wG.take [43]).W+2=B.wG.W:=k2;grind [aES]
      grind [aES]
    .refine .inl ⟨B,l,p,t,fun o=>absurd o e,?_,?_⟩
     .rw[a8V,aI,Iq (Bv _ B)];grind [aF]
     .funext v
      rw[a94,aI,CY (P.BM _ B)];grind [aF])
  A (true,[]) (true,[]) h ⟨rfl,.refl h,by simp,fun _=>⟨fun _=>by simp[tw],fun c=>by cases c⟩⟩
def Vt (x:Cst):Nat:=wl x.n+(tw x.ts-2)+oI x.b+8
theorem b2O (q:Sh.V dF) (h:A.ok) (g:m.ks.length<=20000) (w:A.N<=40000):∃ c x,Le A c/\(c.e=0->c.N<A.N/\x.ts.length<=20000/\Vt x+c.W<=A.W) /\
 SS.CC 74 [.ptr 0 0,.ptr 1 0] [aX q,bZ (aU m),aA A.v]=some (.tuple [],[aX q,bZ (aU { m with ks:=m.ks ++ [x] }),aA c.v]) /\
 (∀ v,SS.CC 148 [.ptr 0 0] [aK (bz m v),aA A.v]=some (.tuple [],[aK (bz { m with ks:=m.ks ++ [x] } v),aA c.v])):=by
 have j:(m.ks.map (·.n)).length<=20000:=by rw[bM]; exact g
 have d:=Le.add h (m.ks.map (·.n));have f:=Le.exp d.ok [58];obtain ⟨C,l,k1,k2,k3,y,z⟩:=ctL (m:=m) q (bs (A.gZ (m.ks.map (·.n)))) f.ok (lD (d.trans f).le w);have a:=Le.exp k1.ok [60,61];have b:=Le.in a.ok;have i:=Le.exp b.ok [59];refine ⟨(C.exp [60,61]).in.exp [59],⟨A.gZ (m.ks.map (·.n)),l,(C.exp [60,61]).iv⟩,((d.trans f).trans k1).trans ((a.trans b).trans i),fun e => ?_,?_,fun v => ?_⟩
 .have o:=i.e0 e;have p:=b.e0 o;have r:=a.e0 p;have t:=k1.e0 r;have u:=f.e0 t;have w0:=DF h u;have w1:((A.add (m.ks.map (·.n))).exp [58]).W+2=(A.add (m.ks.map (·.n))).W:=nC d.ok t;have w2:=k3 r;have w3:(C.exp [60,61]).W+3=C.W:=nC k1.ok p;have w4:=Vh a.ok o;have w5:((C.exp [60,61]).in.exp [59]).W+2=(C.exp [60,61]).in.W:=nC b.ok e;have D:=l_ h u;have E:=f.le;have F:=k1.le;have G:=a.le;have H:=b.le;have I:=i.le;grind [Vt]
 .rw[bD1,wP (b2B m.ks g),GR (Gg _ j h)];try dsimp only
  rw[bW (eY d.ok _)];try dsimp only
  rw[y,bCZ,bW (eY k1.ok _)];try dsimp only
  rw[EY (XB _ a.ok)];try dsimp only
  rw[bW (eY b.ok _),aQ (fV (by rw[bM]; omega))];simp
 .have B:QO (bz m v) A.v [] 0=QO (bz m v) A.v (aJ (m.ks.map (·.n))) (m.ks.length:Int):=by
   refine mG (n:=m.ks.length) (L:=fun k=>QO (bz m v) A.v (aJ ((m.ks.take k).map (·.n))) (k:Int)) (fun k hk => ?_) ?_
   .rw[aMN];try dsimp only
    rw[aP (by rw[bn]; omega),aI,Hq hk,aQ (fV (rE _ m.ks k g)),rD (·.n) m.ks hk,bU (by omega)]
   simp
  rw[bFL,B,aMN];try dsimp only
  rw[bG (by rw[bn]; omega),aF,Iu (J9 _ j h)];try dsimp only
  rw[bW (eY d.ok _)];try dsimp only
  rw[show QN (bz m v) ((A.add (m.ks.map (·.n))).exp [58]).v (bs (A.gZ (m.ks.map (·.n)))) true []=_ from congrFun z (bz m v),bFG,bW (eY k1.ok _)];try dsimp only
  rw[EU (XC _ a.ok)];try dsimp only
  rw[bW (eY b.ok _),aQ (fV (by rw[bM]; omega))];simp
end
section
variable {T U B:List Tok} {s x w:Nm}
end
section
variable {T U B:List Tok} {s x w:Nm}
abbrev tQ (n:ByteArray) (es ls:List Nm) (I:Int) (mr:List Int) (vs:List Vr) (ms:List Mv):Sh.V dP:=(n,aJ ls,aJ es,[],0,I,jC mr,vs.map mM,ms.map ut,())
abbrev oM:Nm := [105,110,105,116,105,97,108]
abbrev qE:Nm := [109,97,114,107,101,100]
abbrev wK:Nm := [108,111,99,97,116,105,111,110]
abbrev xP:Nm := [118,97,114]
abbrev EK:Nm := [101,100,103,101]
end
section
variable {A:RA} {m:Mo} {n:ByteArray} {es ls:List Nm} {I:Int} {mr:List Int} {vs:List Vr} {ms:List Mv} {b:Bool}
def RA.xA (A:RA) (ls:List Nm) (b:Bool):RA:=bif (A.add ls).is oM then (bif b then (A.add ls).fail 8 else (A.add ls).next) else A.add ls
def RA.DV (A:RA) (ls:List Nm) (b:Bool):RA:=((A.xA ls b).take qE).exp [59]
def RA.FI (A:RA) (ls:List Nm) (b:Bool) (mr:List Int):List Int:=bif (A.xA ls b).is qE then mr ++ [(ls.length:Int)] else mr
def aSH (h:A.ok) (ls:List Nm) (b:Bool):Le A (A.xA ls b):=by
 have a:=Le.add h ls;unfold RA.xA;cases (A.add ls).is oM with
 | true=>cases b with
  | true=>exact a.trans (Le.fail a.ok (by decide))
  | false=>exact a.trans (Le.next a.ok)
 | false=>exact a
def bSC (h:A.ok) (ls:List Nm) (b:Bool):Le A (A.DV ls b):=by have a:=aSH h ls b;have c:=Le.take a.ok qE;exact (a.trans c).trans (Le.exp c.ok _)
theorem bS8 (h:A.ok) (e:(A.DV ls b).e=0):(A.DV ls b).N<A.N/\((A.add ls).is oM=true->b=false)/\wl (A.gZ ls)+3+(if (A.add ls).is oM then 8 else 0)+(if (A.xA ls b).is qE then 7 else 0)+(A.DV ls b).W<=A.W:=by
 have f:=aSH h ls b;have a:=Le.take f.ok qE;have g:=Le.exp a.ok [59];have i:=Le.add h ls;have m:=g.e0 e;have d:=a.e0 m;have w3:(A.DV ls b).W+2=((A.xA ls b).take qE).W:=nC a.ok e;have w2:((A.xA ls b).take qE).W+(if (A.xA ls b).is qE then 7 else 0)=(A.xA ls b).W:=XN f.ok;have o:=a.le;have p:(A.DV ls b).N<=_:=g.le;cases c:(A.add ls).is oM with
 | true =>
  cases b with
  | true =>grind [RA.xA,qM]
  | false =>
   have j:(A.add ls).e=0:=FH (kD c);have w0:=DF h j;have n:=l_ h j;have l:A.xA ls false=(A.add ls).next:=by grind [RA.xA]
   have w1:(A.add ls).next.W+8=(A.add ls).W:=nV i.ok c;have q:=(Le.next i.ok).le;grind
 | false =>
  have l:A.xA ls b=A.add ls:=by grind [RA.xA]
  rw[l] at d;have w0:=DF h d;have n:=l_ h d;grind
def bSF (a:ls.length<=20000) (s:Nm):i64.wrap (((aJ ls ++ [.str (bs s)]:List PV).length:Int)-1)=(ls.length:Int):=by rw[aZ,iR,BD,wrap64 (by omega) (by omega)]; omega
theorem lcC (q:Sh.V iH) (l:ls.length<=20000) (o:mr.length<=20000) (h:A.ok):SS.CC 168 [.ptr 0 0,.ptr 1 0,.ptr 2 0] [gY q,dW (tQ n es ls I mr vs ms),jM (b,()),aA A.v] =
 some (.tuple [],[gY q,dW (tQ n es (ls ++ [A.gZ ls]) (bif (A.add ls).is oM && !b then (ls.length:Int) else I) (A.FI ls b mr) vs ms),jM (b||(A.add ls).is oM,()),aA (A.DV ls b).v]):=by
 have a:=Le.add h ls;have d:∀ (B:RA) (f:Int) (g:Bool),B.ok->VG (ls.length:Int) q (tQ n es (ls ++ [A.gZ ls]) f mr vs ms) B.v g=some (.tuple [],[gY q,dW (tQ n es (ls ++ [A.gZ ls]) f (bif B.is qE then mr ++ [(ls.length:Int)] else mr) vs ms),jM (g,()),aA ((B.take qE).exp [59]).v]):=fun B f g e=>by
  rw[bG4];show bP 62 [.ptr 0 0,.str ⟨qE.toArray⟩] [aA B.v] _=_;rw[bQ (jH e ⟨qE.toArray⟩)];cases c:B.is qE with
  | true =>rw[aQ (fV (by simp_all))];refine (bW (eY (e.take qE) _)).trans ?_;simp
  | false =>exact bW (eY (e.take qE) _)
 have i:∀ (B:RA),B.ok->(b=true->B.is oM=false)->VF q (tQ n es (ls ++ [A.gZ ls]) I mr vs ms) b B.v (ls.length:Int) =
  VG (ls.length:Int) q (tQ n es (ls ++ [A.gZ ls]) (bif B.is oM then (ls.length:Int) else I) mr vs ms) (B.take oM).v (b||B.is oM):=fun B e p=>by
  rw[bG3];show bP 62 [.ptr 0 0,.str ⟨oM.toArray⟩] [aA B.v] _=_;rw[bQ (jH e ⟨oM.toArray⟩)];grind [aI,aF]
 have m:aJ (ls ++ [A.gZ ls])=aJ ls ++ [.str (bs (A.gZ ls))]:=by rw[<- Fp]; rfl
 rw[bG5];dsimp only[gQ];rw[GR (Gg _ l h)];rw[aQ (fV (by rw[iR]; omega)),bSF l,<- m];show bf (bP 144 [.ptr 0 0,.str ⟨oM.toArray⟩] [aA (A.add ls).v] _) _=_;rw[bQ (sU a.ok ⟨oM.toArray⟩)];repeat rw[uD]
 unfold RA.FI RA.DV RA.xA;cases c:(A.add ls).is oM with
 | true =>
  rw[aI];cases b with
  | true =>have j:((A.add ls).fail 8).is oM=false:=aA7 (qM (by decide)) _;rw[aI,bW (lG a.ok 8)];refine (i _ (a.ok.fail 8) (fun _=>j)).trans ?_;rw[j,lZ j];exact d _ _ _ (a.ok.fail 8)
  | false =>rw[aF];refine (i _ a.ok (fun h=>by cases h)).trans ?_;rw[c,qC c];exact d _ _ _ a.ok.next
 | false =>rw[aF];refine (i _ a.ok (fun _=>c)).trans ?_;rw[c,lZ c];exact d _ _ _ a.ok
end
section
variable {A:RA} {m:Mo} {n:ByteArray} {es ls:List Nm} {I:Int} {mr:List Int} {vs:List Vr} {ms:List Mv} {b:Bool} {q:Sh.V ay}
def aSL (a:ls.length<=20001):i64.wrap (((aJ ls).length:Int)-1)=(ls.length:Int)-1:=by rw[iR,wrap64 (by omega) (by omega)]
def aRJ (x:Int) (l:List Int):jC (l ++ [x])=jC l ++ [.int .i64 x]:=by simp[jC]
theorem j26 (B:RA) (d:ls.length<=20001) (e:mr.length<=20000) (a:B.ok):VB q B.v (tQ n es ls I mr vs ms) b=qy q ((B.take qE).exp [59]).v (tQ n es ls I (bif B.is qE then mr ++ [(ls.length:Int)-1] else mr) vs ms) b:=by
 rw[bEP];show bP 62 [.ptr 0 0,.str ⟨qE.toArray⟩] [aA B.v] _=_;rw[bQ (jH a ⟨qE.toArray⟩)];cases c:B.is qE with
 | true =>rw[aQ (fV (by simp_all)),aSL d];refine (bW (eY (a.take qE) _)).trans ?_;rw[<- aRJ];rfl
 | false =>exact bW (eY (a.take qE) _)
theorem aAS (h:A.ok) (e:A.e=0) (c:A.is [125]=false):∃ X,qy q A.v (tQ n es ls I mr vs ms) b=X /\
 (A.is wK=true->X=ET 223 [.ptr 0 0,.sl false 1 (aJ ls)] [aK q,aA A.next.v] fun g u32 m=>b_ (decide ((aJ ls).length+1<=aO)) (bP 144 [.ptr 0 0,.str ⟨oM.toArray⟩] [aA m] fun i a=>aB i (aB b (bJ 21 [.ptr 0 0,.int .i64 8] [aA a] fun _ o=>QG u32 o (n,(aJ ls ++ ([.str g]:List PV)),aJ es,[],0,I,jC mr,vs.map mM,ms.map ut,())) (QG u32 a (n,(aJ ls ++ ([.str g]:List PV)),aJ es,[],0,I,jC mr,vs.map mM,ms.map ut,()))) (VB u32 a (n,(aJ ls ++ ([.str g]:List PV)),aJ es,[],0,I,jC mr,vs.map mM,ms.map ut,()) b))) /\
 (A.is wK=false->A.is xP=true->X=aB (A.next.is lM) (bJ 21 [.ptr 0 0,.int .i64 7] [aA A.next.v] fun _ j=>JS q j (tQ n es ls I mr vs ms) b) (aB (A.next.is o9) (bJ 21 [.ptr 0 0,.int .i64 7] [aA A.next.v] fun _ j=>JS q j (tQ n es ls I mr vs ms) b) (JS q A.next.v (tQ n es ls I mr vs ms) b))) /\
 (A.is wK=false->A.is xP=false->A.is EK=false->X=qy q (A.fail 14).v (tQ n es ls I mr vs ms) b):=by
 refine ⟨_,rfl,fun d => ?_,fun d f => ?_,fun d f l => ?_⟩;all_goals
  rw[X_];dsimp only[gQ];rw[CY (P.BM _ A)];rw[show (A.e != 0)=false by simp[e],pG,aI,bQ (jH h ⟨#[125]⟩)];rw[c,pG,aI,lZ c];show bP 62 [.ptr 0 0,.str ⟨wK.toArray⟩] [aA A.v] _=_;rw[bQ (jH h ⟨wK.toArray⟩)];rw[d]
 grind [aI,qC,uD]
 .rw[aF,lZ d];show bP 62 [.ptr 0 0,.str ⟨xP.toArray⟩] [aA A.v] _=_;rw[bQ (jH h ⟨xP.toArray⟩)];rw[f,aI,qC f];show bP 144 [.ptr 0 0,.str ⟨lM.toArray⟩] [aA A.next.v] _=_;rw[bQ (sU h.next ⟨lM.toArray⟩)];show aB (A.next.is lM) _ (bP 144 [.ptr 0 0,.str ⟨o9.toArray⟩] [aA A.next.v] _)=_;rw[bQ (sU h.next ⟨o9.toArray⟩)]
 .rw[aF,lZ d];show bP 62 [.ptr 0 0,.str ⟨xP.toArray⟩] [aA A.v] _=_;rw[bQ (jH h ⟨xP.toArray⟩)];rw[f,aF,lZ f];show bP 62 [.ptr 0 0,.str ⟨EK.toArray⟩] [aA A.v] _=_;rw[bQ (jH h ⟨EK.toArray⟩)];rw[l,aF,lZ l,bW (lG h 14)]
theorem lcL (h:A.ok) (e:A.e=0) (c:A.is [125]=false) (p:A.is wK=true) (q:ls.length<=20000) (i:mr.length<=20000) :
 qy (bz m (aJ (vs.map (·.n)))) A.v (tQ n es ls I mr vs ms) b=qy (bz m (aJ (vs.map (·.n)))) (A.next.DV ls b).v (tQ n es (ls ++ [A.next.gZ ls]) (bif (A.next.add ls).is oM then (ls.length:Int) else I) (A.next.FI ls b mr) vs ms) (b||(A.next.add ls).is oM):=by
 obtain ⟨X,r,t,-⟩:=aAS h e c;rw[r,t p];have j:=h.next;have d:=Le.add j ls;have l:aJ (ls ++ [A.next.gZ ls])=aJ ls ++ [.str (bs (A.next.gZ ls))]:=by rw[<- Fp]; rfl
 have a:(ls ++ [A.next.gZ ls]).length<=20001:=by simp; omega
 have f:((ls ++ [A.next.gZ ls]).length:Int)-1=(ls.length:Int):=by simp
 have g:∀ B:RA,B.ok->QG (bz m (aJ (vs.map (·.n)))) B.v (n,aJ ls ++ ([.str (bs (A.next.gZ ls))]:List PV),aJ es,[],0,I,jC mr,vs.map mM,ms.map ut,()) =
  qy (bz m (aJ (vs.map (·.n)))) ((B.next.take qE).exp [59]).v (tQ n es (ls ++ [A.next.gZ ls]) (ls.length:Int) (bif B.next.is qE then mr ++ [(ls.length:Int)] else mr) vs ms) true:=fun B o=>by
  rw[bEO,eP (next o),<- l];rw[aSL a];refine (j26 B.next a i o.next).trans ?_;rw[f]
 rw[Iu (J9 _ q j)];rw[aQ (fV (by rw[iR]; omega)),bQ (sU d.ok ⟨oM.toArray⟩)];unfold RA.FI RA.DV RA.xA;cases u:(A.next.add ls).is oM with
 | true =>
  rw[aI,GH];cases b with
  | true =>rw[aI,bW (lG d.ok 8)];refine (g _ (d.ok.fail 8)).trans ?_;rw[aBN (qM (by decide))];rfl
  | false =>rw[aF];exact g _ d.ok
 | false =>rw[aF,yV,yV,Bool.or_false,<- l];refine (j26 _ a i d.ok).trans ?_;rw[f]
def RA.wF (A:RA):RA:=bif A.is lM||A.is o9 then A.fail 7 else A
def RA.Ib (A:RA) (a:List Nm):RA:=(A.wF.add a).exp [58]
def RA.Ku (A:RA) (a:List Nm):RA:=(A.Ib a).in.exp [46,46]
def RA.Kv (A:RA) (a:List Nm):RA:=(A.Ku a).in.exp [61]
def RA.C9 (A:RA) (a:List Nm):RA:=(A.Kv a).in.exp [59]
def RA.wJ (A:RA) (a:List Nm):Vr:=⟨A.wF.gZ a,(A.Ib a).iv,(A.Ku a).iv,(A.Kv a).iv⟩
def WE (h:A.ok):Le A A.wF:=by
 unfold RA.wF;cases A.is lM||A.is o9 with
 | true=>exact .fail h (by decide)
 | false=>exact .refl h
def aB4 (h:A.ok) (a:List Nm):Le A (A.Ib a):=by have b:=(WE h).trans (Le.add (WE h).ok a);exact b.trans (Le.exp b.ok _)
def aB5 (h:A.ok) (a:List Nm):Le (A.Ib a) (A.Ku a):=by have b:=Le.in (aB4 h a).ok;exact b.trans (Le.exp b.ok _)
def aB6 (h:A.ok) (a:List Nm):Le (A.Ku a) (A.Kv a):=by have b:=Le.in (aB5 h a).ok;exact b.trans (Le.exp b.ok _)
def aSI (h:A.ok) (a:List Nm):Le (A.Kv a) (A.C9 a):=by have b:=Le.in (aB6 h a).ok;exact b.trans (Le.exp b.ok _)
def bSD (h:A.ok) (a:List Nm):Le A (A.C9 a):=(((aB4 h a).trans (aB5 h a)).trans (aB6 h a)).trans (aSI h a)
def vw (v:Vr):Nat:=wl v.n+oI v.lo+oI v.hi+oI v.i+10
theorem c05 {a:List Nm} (h:A.ok) (e:(A.C9 a).e=0):(A.C9 a).N<A.N/\vw (A.wJ a)+(A.C9 a).W<=A.W:=by
 have k0:=WE h;have k1:=aB4 h a;have k2:=aB5 h a;have k3:=aB6 h a;have k4:=aSI h a;have f:=Le.add k0.ok a;have g:=Le.in k1.ok;have i:=Le.in k2.ok;have j:=Le.in k3.ok;have m:(A.Kv a).in.e=0:=(Le.exp j.ok [59]).e0 e;have b:=j.e0 m;have n:(A.Ku a).in.e=0:=(Le.exp i.ok [61]).e0 b;have c:=i.e0 n;have o:(A.Ib a).in.e=0:=(Le.exp g.ok [46,46]).e0 c;have d:=g.e0 o;have l:(A.wF.add a).e=0:=(Le.exp f.ok [58]).e0 d;have p:A.wF.e=0:=f.e0 l;have q:A.wF=A:=by grind [RA.wF,qM]
 have w0:=DF k0.ok l;have w1:(A.Ib a).W+2=(A.wF.add a).W:=nC f.ok d;have w2:(A.Ku a).W+3=(A.Ib a).in.W:=nC g.ok c;have w3:(A.Kv a).W+2=(A.Ku a).in.W:=nC i.ok b;have w4:(A.C9 a).W+2=(A.Kv a).in.W:=nC j.ok e;have r:=Vh k1.ok o;have t:=Vh k2.ok n;have u:=Vh k3.ok m;have v:=l_ k0.ok l;have w:(A.Ib a).N<=(A.wF.add a).N:=(Le.exp f.ok [58]).le;have x:=k2.le;have y:=k3.le;have z:=k4.le;grind [vw,RA.wJ]
end
section
variable {A:RA} {m:Mo} {n:ByteArray} {es ls:List Nm} {I:Int} {mr:List Int} {vs:List Vr} {ms:List Mv} {b:Bool} {q:Sh.V ay}
def bYK (s:Nm):SS.CC 32 [.str (bs s)] []=some (.bool (s==lM||s==o9),[]):=by
 rw[aKD,DJ,LH,LH];cases s==lM with
 | true=>rfl
 | false=>rfl
theorem vrJ (q:Sh.V dF) (hv:vs.length<=20000) (h:A.wF.ok):VH q (tQ n es ls I mr vs ms) A.wF.v=some (.tuple [],[aX q,dW (tQ n es ls I mr (vs ++ [A.wJ (vs.map (·.n))]) ms),aA (A.C9 (vs.map (·.n))).v]):=by have a:=Le.add h (vs.map (·.n));have b:=Le.exp a.ok [58];have c:=Le.in b.ok;have d:=Le.exp c.ok [46,46];have e:=Le.in d.ok;have f:=Le.exp e.ok [61];have g:=Le.in f.ok;rw[bG6,mQ (aFI vs hv),GR (Gg _ (by rw[bM]; exact hv) h)];rw[bW (eY a.ok _)];rw[EY (XB _ b.ok)];rw[bW (eY c.ok _)];rw[EY (XB _ d.ok)];rw[bW (eY e.ok _)];rw[EY (XB _ f.ok)];rw[bW (eY g.ok _),aQ (fV (by rw[bM]; omega))];grind [RA.wJ,RA.C9,RA.Ib,RA.Ku,RA.Kv]
def vrC (q:Sh.V dF) (hv:vs.length<=20000) (h:A.ok):SS.CC 169 [.ptr 0 0,.ptr 1 0] [aX q,dW (tQ n es ls I mr vs ms),aA A.v]=some (.tuple [],[aX q,dW (tQ n es ls I mr (vs ++ [A.wJ (vs.map (·.n))]) ms),aA (A.C9 (vs.map (·.n))).v]):=by
 have d:=(WE h).ok;have e:=vrJ (n:=n) (es:=es) (ls:=ls) (I:=I) (mr:=mr) (ms:=ms) q hv d;have a:A.wF=bif A.is lM||A.is o9 then A.fail 7 else A:=rfl
 rw[bG8,eP (iW h)];rw[aj (bYK A.pk.text)];rw[Qo h (by decide),Qo h (by decide)] at a;cases c:A.pk.kind==1 with
 | true =>
  rw[c,LG,LG] at a;rw[aI];cases b:(A.pk.text==lM||A.pk.text==o9) with
  | true =>rw[b,GH] at a;rw[aI,bW (lG h 7),<- a];exact e
  | false =>rw[b,yV] at a;rw[aF];rw[a] at e;rw[e]
 | false =>rw[c,Xn,Xn,Bool.or_false,yV] at a;rw[aF];rw[a] at e;rw[e]
def c02 (hv:vs.length<=20000) (h:A.wF.ok):JS (bz m (aJ (vs.map (·.n)))) A.wF.v (tQ n es ls I mr vs ms) b =
 qy (bz m (aJ ((vs ++ [A.wJ (vs.map (·.n))]).map (·.n)))) (A.C9 (vs.map (·.n))).v (tQ n es ls I mr (vs ++ [A.wJ (vs.map (·.n))]) ms) b:=by
 have a:=Le.add h (vs.map (·.n));have c:=Le.exp a.ok [58];have d:=Le.in c.ok;have e:=Le.exp d.ok [46,46];have f:=Le.in e.ok;have g:=Le.exp f.ok [61];have j:=Le.in g.ok;have i:(vs.map (·.n)).length<=20000:=by rw[bM]; exact hv
 rw[bEQ];dsimp only[gQ];rw[uD,Iu (J9 _ i h)];rw[bW (eY a.ok _)];rw[EU (XC _ c.ok)];rw[bW (eY d.ok _)];rw[EU (XC _ e.ok)];rw[bW (eY f.ok _)];rw[EU (XC _ g.ok)];rw[bW (eY j.ok _),aQ (fV (by rw[iR]; exact i)),aQ (fV (by rw[bM]; omega))];have l:aJ ((vs ++ [A.wJ (vs.map (·.n))]).map (·.n))=aJ (vs.map (·.n)) ++ [.str (bs (A.wF.gZ (vs.map (·.n))))]:=by rw[yT,<- Fp]; rfl
 have o:(vs ++ [A.wJ (vs.map (·.n))]).map mM=vs.map mM ++ [mM (A.wJ (vs.map (·.n)))]:=by simp
 show _=qy (bs m.n,m.es.map zK,m.ts.map xG,m.cs.map dN,m.rs.map dN,m.xs.map xE,m.ks.map og,aJ ((vs ++ [A.wJ (vs.map (·.n))]).map (·.n)),0,()) _ (n,aJ ls,aJ es,[],0,I,jC mr,(vs ++ [A.wJ (vs.map (·.n))]).map mM,ms.map ut,()) b;rw[l,o];rfl
theorem vrL (h:A.ok) (e:A.e=0) (c:A.is [125]=false) (f:A.is wK=false) (g:A.is xP=true) (hv:vs.length<=20000) :
 qy (bz m (aJ (vs.map (·.n)))) A.v (tQ n es ls I mr vs ms) b =
 qy (bz m (aJ ((vs ++ [A.next.wJ (vs.map (·.n))]).map (·.n)))) (A.next.C9 (vs.map (·.n))).v (tQ n es ls I mr (vs ++ [A.next.wJ (vs.map (·.n))]) ms) b:=by
 obtain ⟨X,i,-,j,-⟩:=aAS h e c;have a:A.next.wF=bif A.next.is lM||A.next.is o9 then A.next.fail 7 else A.next:=rfl
 have d:=c02 (m:=m) (n:=n) (es:=es) (ls:=ls) (I:=I) (mr:=mr) (ms:=ms) (b:=b) hv (WE h.next).ok;rw[i,j f g];cases k1:A.next.is lM with
 | true =>rw[k1,Bool.true_or,GH] at a;rw[aI,bW (lG h.next 7),<- a];exact d
 | false =>
  cases k2:A.next.is o9 with
  | true =>rw[k2,Bool.or_true,GH] at a;rw[aF,aI,bW (lG h.next 7),<- a];exact d
  | false =>rw[k1,k2,Bool.or_false] at a;rw[a] at d;exact d
end
variable {d2:List ByteArray}
theorem aVQ (j:d2.length<1000000000000) {b:Bool} {n:Int} {x:EX} {w:Nat} (h:jT d2 b n x w):x.Len:=by
 have z:zE.Len := .mk (by decide) (by decide) (by decide) (by decide) (by simp);induction h with
 | num f e=>exact .mk (by simp) (by omega) (by decide) (by decide) (by simp)
 | tt=>exact .mk (by simp) (by decide) (by decide) (by decide) (by simp[z])
 | ff=>exact .mk (by simp) (by decide) (by decide) (by decide) (by simp[z])
 | var f e =>have:=(iY.1 e).1;exact .mk (by simp) (by decide) (by decide) (by omega) (by simp)
 | Dl _ a=>exact .mk (by simp) (by decide) (by decide) (by decide) (by simp[a])
 | RQ f e=>exact .mk (by simp) (by omega) (by decide) (by decide) (by simp)
 | neg _ a=>exact .mk (by simp) (by decide) (by decide) (by decide) (by simp[a])
 | par _ a=>exact a
 | up _ _ _ a=>exact a
 | bin g _ _ c d=>exact .mk (by simp) (by decide) (by omega) (by decide) (by simp_all)
 | cmp g _ _ c d=>exact .mk (by simp) (by decide) (by omega) (by decide) (by simp_all)
 | ite _ _ _ c d i=>exact .mk (by simp) (by decide) (by decide) (by decide) (by simp_all)
def Ed (l:List ByteArray):List (Int×EX)->Nat->Prop
 | [],w=>w=0
 | u::a,w=>∃ s k v r,0<=u.1/\l[u.1.toNat]? = some s/\jT l k 0 u.2 v/\Ed l a r/\w=wl s.data.toList+v+6+r
def aYR {l:List ByteArray} {u:Int×EX} {s:ByteArray} {k:Bool} {v:Nat} (c:0<=u.1) (d:l[u.1.toNat]? = some s) (e:jT l k 0 u.2 v):∀ {b:List (Int×EX)} {w:Nat},Ed l b w->Ed l (b ++ [u]) (w+(wl s.data.toList+v+6))
 | [],w,h=>by have h:w=0:=h;exact ⟨s,k,v,0,c,d,e,rfl,by omega⟩
 | a::b,w,h=>by obtain ⟨f,g,i,r,a0,a1,a2,a3,rfl⟩:=h;exact ⟨f,g,i,_,a0,a1,a2,aYR c d e a3,by omega⟩
theorem a2T {A:RA} (h:A.ok) (e:(A.kn d2).e=0):∃ s,0<=A.wz d2/\d2[(A.wz d2).toNat]? = some s/\(A.kn d2).W+(wl s.data.toList+1)=A.W/\kK (bs (A.kp d2).gz) d2 0=A.wz d2/\(A.kn d2).N<A.N:=by obtain ⟨k1,k2,k3,k4,k5⟩:=aAL h e;have k6:=FT h (show A.pk.kind≠4 by omega);unfold Az at k6;rw[aV (by omega)] at k6;obtain ⟨_,k7⟩:=aA2 (k:=0) k3;grind [bs,RA.wz,aAM]
section
variable {A:RA} {l:List ByteArray} {F:MF} {o:Sh.V kC}
abbrev oU (o:Sh.V kC) (us:List (Int×EX)):Sh.V kC:=(o.1,o.2.1,o.2.2.1,o.2.2.2.1,o.2.2.2.2.1,o.2.2.2.2.2.1,o.2.2.2.2.2.2.1,us.map zZ,())
theorem upS (f:l.length<1000000000000) (h:A.ok):∃ C x y,Le A C /\
 (∀ o a,a.length<=20000->SS.CC 241 [.ptr 0 0,.ptr 1 0] [some [.ptr 2 0],jv (oU o a),gY (0,dD l,()),aA A.v]=some (.tuple [],[some [.ptr 2 0],jv (oU o (a ++ [x])),gY (0,dD l,()),aA C.v])) /\
 (∀ o a,a.length<=20000->SS.CC 263 [.ptr 0 0,.ptr 1 0] [some [.ptr 2 0],jv (oU o a),iZ (P.md F (dD l) 0),aA A.v]=some (.tuple [],[some [.ptr 2 0],jv (oU o (a ++ [y])),iZ (P.md F (dD l) 0),aA C.v])) /\
 (C.e=0->x=y/\C.N+3<=A.N/\∃ s k v,0<=x.1/\l[x.1.toNat]? = some s/\jT l k 0 x.2 v/\wl s.data.toList+v+4+C.W<=A.W):=by
 have d:=Le.kn h l;have g:=Le.exp d.ok [58,61];obtain ⟨C,x,y,j,m,o1⟩:=(P.aX8 (F:=F) f ((A.kn l).exp [58,61]).N).2 0 (by decide) (by decide) _ g.ok (dG _);refine ⟨C,(A.wz l,x),(kK (bs (A.kp l).gz) l 0,y),(d.trans g).trans o1.toLe,fun o a n => ?_,fun o a n => ?_,fun e => ?_⟩
 .rw[bIQ];dsimp only[gQ];rw[uD,EY (P.Qu h _ l f)];try dsimp only
  rw[bW (eY d.ok _)];try dsimp only
  refine (yc j).trans ?_;grind [aQ,fV]
 .rw[bJ8];dsimp only[gQ];rw[uD,EU (P.Q4 h _ l f)];try dsimp only
  rw[bW (eY d.ok _)];try dsimp only
  refine (yY m).trans ?_;grind [aQ,fV]
 .have i:=o1.e0 e;have p:=g.e0 i;obtain ⟨s,k1,k2,k3,k4,k5⟩:=a2T h p;obtain ⟨b,v,r,q⟩:=o1.rd e;have w2:((A.kn l).exp [58,61]).W+3=(A.kn l).W:=nC d.ok i;have t:((A.kn l).exp [58,61]).N<(A.kn l).N:=by
   cases c:(A.kn l).is [58,61] with
   | true=>unfold RA.exp; rw[c]; exact (jY d.ok (kD c)).2
   | false=>grind [RA.exp,qM]
  have u:=o1.lt e;exact ⟨by rw[o1.eq e,k4],by omega,s,b,v,k1,k2,r,by omega⟩
end
end Go.Proofs.YtagkcbgkhgccmaaGreatDoor.W
end

/- A part of the proof. -/
import Derived.Test.YtmbehibpfkkjbaaGreatDoorPs5
import Derived.Test.YtmbehibpfkkjbaaGreatDoorPs6
import Derived.Test.YtmbehibpfkkjbaaGreatDoorPs4
set_option linter.unusedVariables false
set_option linter.defProp false
set_option linter.unusedSimpArgs false
set_option linter.unnecessarySimpa false
set_option linter.unusedSectionVars false
noncomputable section
open Go.IntKind (i64)
namespace Go.Proofs.YtmbehibpfkkjbaaGreatDoor.W
open Go.RowKit
set_option maxRecDepth 1000000
def wI:SS.CC 4 [] []=rC:=k52
def aV5 {s:d_}:∀ (l:List (d_)) (k:Nat),(0<=kX (bs s) (dB l) k↔s∈l)
 | [],k=>by
  constructor
  .intro h;have:(0:Int) <= -1:=h;omega
  .intro h; cases h
 | a::l,k=>by
  show 0<=(if bs s=bs a then (k:Int) else kX (bs s) (dB l) (k+1))↔_;by_cases h:bs s=bs a
  .rw[ay h];exact ⟨fun _=>by rw[b70 h]; simp,fun _=>by omega⟩
  .rw[aX h,aV5 l (k+1),jy];exact ⟨fun b => .inr b,fun b=>b.resolve_left fun e=>h (by rw[e])⟩
variable {g:FuncId} {a E:ai} {h:aH} {f:Sh.V iW} {K:Sh.V lF} {L:Sh.V jb} {w y I:Int} {G:Sh.V wu} {d:Bool} {M:Sh.V S7} {O:Sh.V xn} {Q:Sh.V S9} {e Y:Type} {i C:Nat} {S:List (Int×EX)} {j:List Int} {X:R} {H:Nat->Int} {U:Nat->Bool} {x:EX} {b0:Sh.V Am} {J:Nat->List Tok} {A B:List Tok} {p:Tok}
def Jk {K:RS.F (.tl true 3) R} (e:SS.CC g a []=some (.sl true 3 E,[])):Ho g a K=K E:=vH e rfl
def b4B {b:RS.F (.t []) (cZ [.c iW,.z jU,.c lF])} (e:SS.CC g a h=bi [aG f,some [ag],zh K]):H28 g a h b=b () f K:=dJ e rfl
def b4C {K:RS.F (.t []) (cZ [.c iW,.z jU,.c jb])} (e:SS.CC g a h=bi [aG f,some [ag],xm L]):H29 g a h K=K () f L:=dJ e rfl
def VW {b:Sh.V pz} {d:Sh.V RI} {K:RS.F (.t []) (cZ [.c pz,.c RI])} (e:SS.CC g a h=bi [jR b,Dp d]):Qp g a h K=K () b d:=dJ e rfl
def b4D {s1:b_} {y2:Sh.V Vo} {K:RS.F (.ts) (cZ [.c Vo])} (e:SS.CC g a h=some (.str s1,[some (l9 Vo y2)])):H31 g a h K=K s1 y2:=dJ e rfl
def aKE {K:RS.F (.t [(false,[.I .i64]),(false,[.ni])]) (cZ [.c wu])} (e:SS.CC g a h=some (.tuple [aP w,.raw .nilIface],[ql G])):H32 g a h K=K ((w,()),(),()) G:=dJ e rfl
def aKF {K:RS.F (.z (.ni)) (cZ [.c wu])} (e:SS.CC g a h=some (.raw .nilIface,[ql G])):H33 g a h K=K G:=dJ e rfl
def aKG {K:RS.F (.tb) (cZ [.c S7])} (e:SS.CC g a h=some (.bool d,[O7 M])):H44 g a h K=K d M:=dJ e rfl
def b4E {K:RS.F (.t []) (cZ [.c iW,.z jU,.c xn,.c S9])} (e:SS.CC g a h=bi [aG f,some [ag],ja O,O9 Q]):H45 g a h K=K () f O Q:=dJ e rfl
def b4F {K:RS.F (.t []) (cZ [.c iW,.z jU])} (e:SS.CC g a h=bi [aG f,some [ag]]):H46 g a h K=K () f:=dJ e rfl
def aKH {b:RS.F (.t []) (cZ [.z gW,.c lF,.c iW])} (e:SS.CC g a h=bi [some [.ptr 2 0],zh K,aG f]):H47 g a h b=b () K f:=dJ e rfl
def aKI {K:RS.F (.t []) (cZ [.z gW,.c jb,.c iW])} (e:SS.CC g a h=bi [some [.ptr 2 0],xm L,aG f]):H48 g a h K=K () L f:=dJ e rfl
def aKJ {K:RS.F (.t []) (cZ [.c wu])} (e:SS.CC g a h=bi [ql G]):H51 g a h K=K () G:=dJ e rfl
def b4K {K:RS.F (.ti .i64) (cZ [.c S7])} (e:SS.CC g a h=some (aP w,[O7 M])):H63 g a h K=K w M:=dJ e rfl
def aKK {K:RS.F (.t []) (cZ [.z iY,.c xn,.c S9,.c iW])} (e:SS.CC g a h=bi [some [.ptr 3 0],ja O,O9 Q,aG f]):H64 g a h K=K () O Q f:=dJ e rfl
section
def bE4:KT:=SS.rK Tryz.f50 50 0 []
def bE5:KT:=SS.jK 50 80 0 (cS Tryz.f50 127) bE4
def bE6:KT:=aS 0 bE5
def X6 (a:Sh.V S0) (b:ai) (c:Int):R:=SS.LL (SS.ae 50 80) 0 [1,4,49,50,51] 0 (cS Tryz.f50 607) bE6 ⟨[(1,.cst (A0 a)),(4,.sl true 1 b),(49,.sl false 9 a.2.2.1),(50,aP (a.2.2.1.length:Int)),(51,aP c)],[]⟩
def aP8 (a:Sh.V S0) (e:ai) (f:Int):X6 a e f=aB (decide (f<(a.2.2.1.length:Int))) (ak S5 a.2.2.1 f fun g=>G1 166 [a_ e,.str g.1] fun b=>aB (b != 0) (some (aP b,[])) (bJ (decide (e.length+1<=aN)) (G1 167 [A5 g] fun c=>aB (c != 0) (some (aP c,[])) (X6 a (e ++ ([.str g.1]:ai)) (i64.wrap (f+1)))))) (G1 168 [A0 a] fun d=>aB (d != 0) (some (aP d,[])) (G1 169 [A0 a] fun h=>some (aP h,[]))):=ll
def bE7 (a0:Sh.V S0):SS.CC 50 [A0 a0] []=G3 41 [.str a0.1] fun b=>aB (!b) (some (aP 7,[])) (G1 112 [.sl false 5 a0.2.1] fun a=>aB (a != 0) (some (aP a,[])) (aB (decide (16<(a0.2.2.1.length:Int))) (some (aP 3,[])) (aB (decide (32<(a0.2.2.2.1.length:Int))) (some (aP 3,[])) (aB (decide (32<(a0.2.2.2.2.1.length:Int))) (some (aP 3,[])) (aB (decide (32<(a0.2.2.2.2.2.1.length:Int))) (some (aP 3,[])) (aB (decide (32<(a0.2.2.2.2.2.2.1.length:Int))) (some (aP 3,[])) (X6 a0 [] 0))))))):=cc
def bH5 (a0:Sh.V S0):SS.CC 33 [A0 a0] []=Ho 76 [.sl false 3 a0.2.2.2.1] fun a=>bJ (decide (a.length+a0.2.2.2.2.1.length<=aN)) (G4 100 [.sl false 3 (a ++ a0.2.2.2.2.1),eu 101] fun c=>G4 102 [.sl false 9 a0.2.2.1,eu 103] fun d=>G4 104 [.sl false 2 a0.2.2.2.2.2.1,eu 105] fun e=>G4 106 [.sl false 3 a0.2.2.2.2.2.2.1,eu 107] fun f=>G1 108 [a_ [dm 109 [.cst (A0 a0)],dm 111 [.cst (A0 a0)],dm 113 [.cst (A0 a0)],dm 114 [.cst (A0 a0),.cst (a_ d)],dm 121 [.cst (.sl false 3 (a ++ a0.2.2.2.2.1)),.cst (a_ c)],dm 127 [.cst (A0 a0),.cst (a_ e)],dm 135 [.cst (A0 a0),.cst (a_ f)]]] fun b=>some (aP b,[])):=cc
def bQG (a0:ai):SS.CC 39 [a_ a0,eu 225] []=G1 150 [a_ a0,eu 225] fun a=>some (.bool (decide (0<=a)),[]):=cc
def bQH (a0:ai):SS.CC 76 [.sl false 3 a0] []=LZ a0 fun a=>aB (a==true) (some (.sl true 3 [],[])) (bJ (decide (0+a0.length<=aN)) (some (.sl true 3 a0,[]))):=cc
def bQI:KT:=SS.rK Tryz.f112 112 0 []
def bQJ:KT:=SS.jK 112 51 0 (cS Tryz.f112 31) bQI
def bQK:KT:=aS 0 bQJ
def Xk (a:ai) (b:Int) (c:ai):R:=SS.LL (SS.ae 112 51) 0 [3,10,11,12] 1 (cS Tryz.f112 151) bQK ⟨[(3,.eU 0 0),(10,.sl false 5 a),(11,aP (a.length:Int)),(12,aP b)],[O33 (c,())]⟩
theorem aSU (a:ai) (b:Int) (d:ai):Xk a b d=aB (decide (b<(a.length:Int))) (ak S4 a b fun c=>G3 41 [.str c.1] fun f=>aB (!f) (some (aP 7,[])) ((fun w=>LW none d (.str c.1) (fun g=>vB g fun e=>aB e (some (aP 8,[])) w) w) (aB (decide (c.2.2.2.2.1<0)) (some (aP 2,[])) (aB (decide (4<c.2.2.2.2.1)) (some (aP 2,[])) (aB (c.2.2.2.2.1 != 0) (aB c.2.1 (some (aP 13,[])) (aB c.2.2.1 (some (aP 13,[])) (bJ (uZ none d (.str c.1)&&true) (Xk a (i64.wrap (b+1)) (lJ none d (.str c.1) (.bool true)))))) (bJ (uZ none d (.str c.1)&&true) (Xk a (i64.wrap (b+1)) (lJ none d (.str c.1) (.bool true))))))))) (some (aP 0,[])):=ll
def bQL (a0:ai):SS.CC 112 [.sl false 5 a0] []=aB (decide (32<(a0.length:Int))) (some (aP 3,[])) (Xk a0 0 []):=cc
def bQM (a0:ai) (a1:b_):SS.CC 166 [a_ a0,.str a1] []=G3 41 [.str a1] fun a=>aB (!a) (some (aP 7,[])) (G3 207 [a_ a0,.str a1] fun b=>aB b (some (aP 8,[])) (some (aP 0,[]))):=cc
def a5H:KT:=SS.rK Tryz.f167 167 0 []
def bQO:KT:=SS.jK 167 209 0 (cS Tryz.f167 7) a5H
def aSX:KT:=aS 0 bQO
def bQX:KT:=SS.lK 167 209 0 [1,26,27,28] 0 (cS Tryz.f167 37) aSX
def bQY:KT:=SS.jK 167 209 0 (cS Tryz.f167 485) bQX
def bQZ:KT:=aS 1 bQY
def bQ':KT:=aS 2 bQZ
def bR0:KT:=SS.jK 167 209 0 (cS Tryz.f167 63) a5H
def bR3:KT:=aS 4 bR0
def bR4:KT:=SS.jK 167 209 0 (cS Tryz.f167 4095) a5H
def bQP:KT:=aS 6 bR4
def bQQ:KT:=SS.jK 167 209 0 (cS Tryz.f167 8191) a5H
def aSV:KT:=aS 8 bQQ
def bQR:KT:=SS.lK 167 209 0 [1,8,11,117,118,119] 1 (cS Tryz.f167 38911) aSV
def bQS:KT:=SS.jK 167 209 0 (cS Tryz.f167 497663) bQR
def bQT:KT:=aS 9 bQS
def aSW:KT:=aS 10 bQT
def bQU:KT:=SS.lK 167 209 0 [1,8,11,17,117,118,119,166,167,168] 2 (cS Tryz.f167 41523199) aSW
def bQV:KT:=SS.jK 167 209 0 (cS Tryz.f167 511285247) bQU
def bQW:KT:=aS 11 bQV
def a5I (a:Sh.V S5) (b:Int):R:=SS.LL (SS.ae 167 209) 0 [1,26,27,28] 0 (cS Tryz.f167 37) aSX ⟨[(1,.cst (A5 a)),(26,.sl true 1 [a_ a.2.2.1,a_ a.2.1]),(27,aP 2),(28,aP b)],[]⟩
def Xn (a:Sh.V S5) (b:ai) (c d:Int):R:=SS.LL (SS.ae 167 209) 0 [1,4,26,27,28,32,33,34] 0 (cS Tryz.f167 9829) bQ' ⟨[(1,.cst (A5 a)),(4,a_ b),(26,.sl true 1 [a_ a.2.2.1,a_ a.2.1]),(27,aP 2),(28,aP d),(32,a_ b),(33,aP (b.length:Int)),(34,aP c)],[]⟩
def Oj (b:b_) (c d:ai) (a:Sh.V S6) (e:Int):R:=SS.LL (SS.ae 167 209) 0 [1,8,59,60,61] 1 (cS Tryz.f167 303) bR3 ⟨[(1,.cst (A5 (b,c,d,a.1,a.2.1,a.2.2.1,a.2.2.2.1,a.2.2.2.2.1,a.2.2.2.2.2.1,()))),(8,ag),(59,a_ a.1),(60,aP (a.1.length:Int)),(61,aP e)],[O6 a]⟩
def Xl (d:b_) (c e:ai) (a:Sh.V S6) (b:Int):R:=SS.LL (SS.ae 167 209) 0 [1,8,11,101,102,103] 1 (cS Tryz.f167 19455) bQP ⟨[(1,.cst (A5 (d,c,e,a.1,a.2.1,a.2.2.1,a.2.2.2.1,a.2.2.2.2.1,a.2.2.2.2.2.1,()))),(8,ag),(11,aP (c.length:Int)),(101,.sl false 4 a.2.2.2.2.1),(102,aP (a.2.2.2.2.1.length:Int)),(103,aP b)],[O6 a]⟩
def TA (c:b_) (b d:ai) (a:Sh.V S6) (e:Int):R:=SS.LL (SS.ae 167 209) 0 [1,8,11,117,118,119] 1 (cS Tryz.f167 38911) aSV ⟨[(1,.cst (A5 (c,b,d,a.1,a.2.1,a.2.2.1,a.2.2.2.1,a.2.2.2.2.1,a.2.2.2.2.2.1,()))),(8,ag),(11,aP (b.length:Int)),(117,.sl false 8 a.2.2.2.2.2.1),(118,aP (a.2.2.2.2.2.1.length:Int)),(119,aP e)],[O6 a]⟩
def Xm (e:b_) (d f:ai) (a:Sh.V S6) (c:Sh.V S9) (b g:Int):R:=SS.LL (SS.ae 167 209) 0 [1,8,11,17,117,118,119,166,167,168] 2 (cS Tryz.f167 41523199) aSW ⟨[(1,.cst (A5 (e,d,f,a.1,a.2.1,a.2.2.1,a.2.2.2.1,a.2.2.2.2.1,a.2.2.2.2.2.1,()))),(8,ag),(11,aP (d.length:Int)),(17,.ptr 1 0),(117,.sl false 8 a.2.2.2.2.2.1),(118,aP (a.2.2.2.2.2.1.length:Int)),(119,aP g),(166,.sl false 5 c.2.2.2.2.2.2.2.1),(167,aP (c.2.2.2.2.2.2.2.1.length:Int)),(168,aP b)],[O6 a,O9 c]⟩
def aCQ (e:b_) (d f:ai) (a:Sh.V S6) (c:Sh.V S9) (g:Sh.V rX) (h b:Int):R:=bD (SS.xX 167 209 0) (cS Tryz.f167 8161695743) bQW ⟨[(1,.cst (A5 (e,d,f,a.1,a.2.1,a.2.2.1,a.2.2.2.1,a.2.2.2.2.1,a.2.2.2.2.2.1,()))),(8,ag),(11,aP (d.length:Int)),(17,.ptr 1 0),(20,.ptr 2 0),(117,.sl false 8 a.2.2.2.2.2.1),(118,aP (a.2.2.2.2.2.1.length:Int)),(119,aP h),(166,.sl false 5 c.2.2.2.2.2.2.2.1),(167,aP (c.2.2.2.2.2.2.2.1.length:Int)),(168,aP b)],[O6 a,O9 c,O11 g]⟩
def aCR (a:Sh.V S5) (b:Int):a5I a b=aB (decide (b<2)) (dD [a_ a.2.2.1,a_ a.2.1] b fun c=>vL false 1 c fun d=>Xn a d 0 b) (aB ((a.2.2.2.1.length:Int) !=(a.2.2.1.length:Int)) (some (aP 6,[])) (Oj a.1 a.2.1 a.2.2.1 (a.2.2.2.1,a.2.2.2.2.1,a.2.2.2.2.2.1,a.2.2.2.2.2.2.1,a.2.2.2.2.2.2.2.1,a.2.2.2.2.2.2.2.2.1,()) 0)):=ll
theorem aT1 (d:Sh.V S5) (c:ai) (a b:Int):Xn d c a b=aB (decide (a<(c.length:Int))) (dD c a fun f=>vS f fun g=>bJ (decide (0<=a)&&decide (a<=(c.length:Int))) (G1 166 [a_ (c.take a.toNat),.str g] fun e=>aB (e != 0) (some (aP e,[])) (Xn d c (i64.wrap (a+1)) b))) (a5I d (i64.wrap (b+1))):=ll
def aSY (d:b_) (b e:ai) (a:Sh.V S6) (c:Int):Oj d b e a c=aB (decide (c<(a.1.length:Int))) (dD a.1 c fun h=>vI .i64 h fun i=>aB (i != c) (some (aP 6,[])) (Oj d b e a (i64.wrap (c+1)))) (aB (a.2.1 !=(b.length:Int)) (some (aP 4,[])) (aB (decide (a.2.2.1<0)) (some (aP 2,[])) (aB (decide ((if (1:Int)>(b.length:Int) then (1:Int) else (b.length:Int))<=a.2.2.1)) (some (aP 2,[])) (G1 215 [a_ a.2.2.2.1,aP (b.length:Int)] fun f=>aB (f != 0) (some (aP f,[])) (G1 217 [.sl false 4 a.2.2.2.2.1] fun g=>aB (g != 0) (some (aP g,[])) (Xl d b e a 0)))))):=ll
theorem aSZ (c:b_) (d e:ai) (b:Sh.V S6) (a:Int):Xl c d e b a=aB (decide (a<(b.2.2.2.2.1.length:Int))) (ak S7 b.2.2.2.2.1 a fun f=>aB (f.1.toList==(⟨#[116,114,117,101]⟩:b_).toList) (some (aP 7,[])) (aB (f.1.toList==(⟨#[102,97,108,115,101]⟩:b_).toList) (some (aP 7,[])) (Xl c d e b (i64.wrap (a+1))))) (TA c d e b 0):=ll
theorem aS' (g:b_) (d f:ai) (b:Sh.V S6) (e:Int):TA g d f b e=aB (decide (e<(b.2.2.2.2.2.1.length:Int))) (ak S9 b.2.2.2.2.2.1 e fun a=>aB (decide (a.1<0)) (some (aP 2,[])) (aB (decide ((d.length:Int)<=a.1)) (some (aP 2,[])) (aB (decide (a.2.1<0)) (some (aP 2,[])) (aB (decide ((f.length:Int)<=a.2.1)) (some (aP 2,[])) (aB (decide (a.2.2.1<0)) (some (aP 2,[])) (aB (decide ((d.length:Int)<=a.2.2.1)) (some (aP 2,[])) (G1 249 [A1 (a.2.2.2.1,a.2.2.2.2.1,a.2.2.2.2.2.1,a.2.2.2.2.2.2.1,()),aP (b.2.2.2.2.1.length:Int),aP 2] fun c=>aB (c != 0) (some (aP c,[])) (Xm g d f b a 0 e)))))))) (some (aP 0,[])):=ll
theorem aT0 (e:b_) (f g:ai) (c:Sh.V S6) (b:Sh.V S9) (a h:Int):Xm e f g c b a h=aB (decide (a<(b.2.2.2.2.2.2.2.1.length:Int))) (ak rX b.2.2.2.2.2.2.2.1 a fun d=>aB (decide (d.1<0)) (some (aP 2,[])) (aB (decide ((c.2.2.2.2.1.length:Int)<=d.1)) (some (aP 2,[])) (aB (decide (0<a)) (ak rX b.2.2.2.2.2.2.2.1 (i64.wrap (a-1)) fun u8=>aB (decide (d.1<=u8.1)) (some (aP 5,[])) (aCQ e f g c b d h a)) (aCQ e f g c b d h a)))) (TA e f g c (i64.wrap (h+1))):=ll
def bQN (d:b_) (e f:ai) (c:Sh.V S6) (g:Sh.V S9) (b:Sh.V rX) (h a:Int):aCQ d e f c g b h a=G1 249 [A1 (b.2.1,b.2.2.1,b.2.2.2.1,b.2.2.2.2.1,()),aP (c.2.2.2.2.1.length:Int),aP 1] fun i=>aB (i != 0) (some (aP i,[])) (Xm d e f c g (i64.wrap (a+1)) h):=by kernel_rfl
def bR5 (a0:Sh.V S5):SS.CC 167 [A5 a0] []=a5I a0 0:=cc
def bR6:KT:=SS.rK Tryz.f168 168 0 []
def bR7:KT:=SS.jK 168 48 0 (cS Tryz.f168 15) bR6
def aT2:KT:=aS 0 bR7
def bR8:KT:=SS.lK 168 48 0 [3,14,15,16] 0 (cS Tryz.f168 75) aT2
def bR9:KT:=SS.jK 168 48 0 (cS Tryz.f168 971) bR8
def bRA:KT:=aS 1 bR9
def bRB:KT:=aS 2 bRA
def TB (a:ai) (b:Int) (d:ai) (c:Int):R:=SS.LL (SS.ae 168 48) 0 [3,14,15,16] 0 (cS Tryz.f168 75) aT2 ⟨[(3,.sl true 1 d),(14,.sl true 3 a),(15,aP b),(16,aP c)],[]⟩
def Xo (a:ai) (b:Int) (f g:ai) (c d e:Int):R:=SS.LL (SS.ae 168 48) 0 [3,14,15,16,37,38,39] 0 (cS Tryz.f168 81099) bRB ⟨[(3,.sl true 1 f),(14,.sl true 3 a),(15,aP b),(16,aP e),(37,.sl true 1 g),(38,aP c),(39,aP d)],[]⟩
theorem aT4 (b:ai) (c:Int) (e:ai) (a:Int):TB b c e a=aB (decide (a<c)) (ak S8 b a fun d=>G1 166 [a_ e,.str d.1] fun f=>aB (f != 0) (some (aP f,[])) (bJ (decide (e.length+1<=aN)) (bJ (decide (1+d.2.2.1.length<=aN)) (Xo b c (e ++ ([.str d.1]:ai)) (([.str d.2.1]:ai) ++ d.2.2.1) ((([.str d.2.1]:ai) ++ d.2.2.1).length:Int) 0 a)))) (some (aP 0,[])):=ll
theorem aT3 (b:ai) (c:Int) (f g:ai) (d a e:Int):Xo b c f g d a e=aB (decide (a<d)) (dD g a fun h=>vS h fun i=>G3 41 [.str i] fun j=>aB (!j) (some (aP 7,[])) (Xo b c f g d (i64.wrap (a+1)) e)) (TB b c f (i64.wrap (e+1))):=ll
def bRC (a0:Sh.V S0):SS.CC 168 [A0 a0] []=Ho 76 [.sl false 3 a0.2.2.2.1] fun a=>bJ (decide (a.length+a0.2.2.2.2.1.length<=aN)) (TB (a ++ a0.2.2.2.2.1) ((a ++ a0.2.2.2.2.1).length:Int) [] 0):=cc
def aT5:KT:=SS.rK Tryz.f169 169 0 []
def bRD:KT:=SS.jK 169 108 0 (cS Tryz.f169 15) aT5
def aT6:KT:=aS 0 bRD
def bRI:KT:=SS.lK 169 108 0 [1,3,15,16,17] 0 (cS Tryz.f169 75) aT6
def bRJ:KT:=SS.jK 169 108 0 (cS Tryz.f169 971) bRI
def bRK:KT:=aS 1 bRJ
def bRL:KT:=aS 2 bRK
def bRM:KT:=SS.jK 169 108 0 (cS Tryz.f169 63) aT5
def aT7:KT:=aS 4 bRM
def bRN:KT:=SS.lK 169 108 0 [3,57,58,59] 0 (cS Tryz.f169 303) aT7
def bRE:KT:=SS.jK 169 108 0 (cS Tryz.f169 3887) bRN
def bRF:KT:=aS 5 bRE
def bRG:KT:=SS.jK 169 108 0 (cS Tryz.f169 258863) bRF
def bRH:KT:=aS 6 bRG
def TD (a:Sh.V S0) (c:ai) (b:Int):R:=SS.LL (SS.ae 169 108) 0 [1,3,15,16,17] 0 (cS Tryz.f169 75) aT6 ⟨[(1,.cst (A0 a)),(3,.sl true 1 c),(15,.sl false 2 a.2.2.2.2.2.1),(16,aP (a.2.2.2.2.2.1.length:Int)),(17,aP b)],[]⟩
def Xp (b:Sh.V S0) (a e:ai) (c d:Int):R:=SS.LL (SS.ae 169 108) 0 [1,3,15,16,17,38,39,40] 0 (cS Tryz.f169 163019) bRL ⟨[(1,.cst (A0 b)),(3,.sl true 1 e),(15,.sl false 2 b.2.2.2.2.2.1),(16,aP (b.2.2.2.2.2.1.length:Int)),(17,aP d),(38,.sl false 2 a),(39,aP (a.length:Int)),(40,aP c)],[]⟩
def TC (a b:ai) (c:Int):R:=SS.LL (SS.ae 169 108) 0 [3,57,58,59] 0 (cS Tryz.f169 303) aT7 ⟨[(3,.sl true 1 b),(57,.sl false 3 a),(58,aP (a.length:Int)),(59,aP c)],[]⟩
def Xq (c:ai) (a:Sh.V jb) (b:Int) (d:ai) (e:Int):R:=SS.LL (SS.ae 169 108) 0 [3,10,57,58,59,80,81,82] 1 (cS Tryz.f169 1241903) bRH ⟨[(3,.sl true 1 d),(10,ag),(57,.sl false 3 c),(58,aP (c.length:Int)),(59,aP e),(80,.sl false 2 a.2.1),(81,aP (a.2.1.length:Int)),(82,aP b)],[xm a]⟩
def aTB (b:Sh.V S0) (c:ai) (a:Int):TD b c a=aB (decide (a<(b.2.2.2.2.2.1.length:Int))) (ak lF b.2.2.2.2.2.1 a fun d=>G1 166 [a_ c,.str d.1] fun e=>aB (e != 0) (some (aP e,[])) (bJ (decide (c.length+1<=aN)) (aB ((d.2.1.length:Int)==0) (some (aP 12,[])) (Xp b d.2.1 (c ++ ([.str d.1]:ai)) 0 a)))) (TC b.2.2.2.2.2.2.1 [] 0):=ll
theorem aT8 (d:Sh.V S0) (a e:ai) (b c:Int):Xp d a e b c=aB (decide (b<(a.length:Int))) (ak Aj a b fun f=>G3 41 [.str f.1] fun g=>aB (!g) (some (aP 7,[])) (G3 41 [.str f.2.1] fun h=>aB (!h) (some (aP 7,[])) (Xp d a e (i64.wrap (b+1)) c))) (TD d e (i64.wrap (c+1))):=ll
theorem aT9 (a b:ai) (c:Int):TC a b c=aB (decide (c<(a.length:Int))) (ak jb a c fun d=>G1 166 [a_ b,.str d.1] fun e=>aB (e != 0) (some (aP e,[])) (bJ (decide (b.length+1<=aN)) (aB ((d.2.1.length:Int)==0) (some (aP 12,[])) (Xq a d 0 (b ++ ([.str d.1]:ai)) c)))) (some (aP 0,[])):=ll
theorem aTA (c:ai) (b:Sh.V jb) (a:Int) (d:ai) (e:Int):Xq c b a d e=aB (decide (a<(b.2.1.length:Int))) (ak Bf b.2.1 a fun f=>G3 41 [.str f.1] fun g=>aB (!g) (some (aP 7,[])) (aB (decide (f.2.1<(-65536))) (some (aP 2,[])) (aB (decide (65536<f.2.1)) (some (aP 2,[])) (Xq c b (i64.wrap (a+1)) d e)))) (aB (decide (b.2.2.1<(-65536))) (some (aP 2,[])) (aB (decide (65536<b.2.2.1)) (some (aP 2,[])) (TC c d (i64.wrap (e+1))))):=ll
def bRO (a0:Sh.V S0):SS.CC 169 [A0 a0] []=TD a0 [] 0:=cc
def bT0:KT:=SS.rK Tryz.f100 100 0 []
def bT1:KT:=SS.jK 100 22 0 (cS Tryz.f100 15) bT0
def bT2:KT:=aS 0 bT1
def Zo (b c:ai) (a:Int):R:=SS.LL (SS.ae 100 22) 0 [1,5,8,9,10] 0 (cS Tryz.f100 75) bT2 ⟨[(1,eu 101),(5,.sl true 1 c),(8,.sl false 3 b),(9,aP (b.length:Int)),(10,aP a)],[]⟩
theorem aTV (b c:ai) (a:Int):Zo b c a=aB (decide (a<(b.length:Int))) (ak S8 b a fun d=>G2 101 [A8 d] fun e=>bJ (decide (c.length+1<=aN)) (Zo b (c ++ ([.str e]:ai)) (i64.wrap (a+1)))) (some (a_ c,[])):=ll
def bT3 (a0:ai):SS.CC 100 [.sl false 3 a0,eu 101] []=Zo a0 [] 0:=cc
def bT4 (a0:Sh.V S8):SS.CC 101 [A8 a0] []=some (.str a0.1,[]):=cc
def bT9:KT:=SS.rK Tryz.f102 102 0 []
def bTA:KT:=SS.jK 102 22 0 (cS Tryz.f102 15) bT9
def bTB:KT:=aS 0 bTA
def a5R (b c:ai) (a:Int):R:=SS.LL (SS.ae 102 22) 0 [1,5,8,9,10] 0 (cS Tryz.f102 75) bTB ⟨[(1,eu 103),(5,.sl true 1 c),(8,.sl false 9 b),(9,aP (b.length:Int)),(10,aP a)],[]⟩
theorem aTX (b c:ai) (a:Int):a5R b c a=aB (decide (a<(b.length:Int))) (ak S5 b a fun d=>G2 103 [A5 d] fun uA=>bJ (decide (c.length+1<=aN)) (a5R b (c ++ ([.str uA]:ai)) (i64.wrap (a+1)))) (some (a_ c,[])):=ll
def bTC (a0:ai):SS.CC 102 [.sl false 9 a0,eu 103] []=a5R a0 [] 0:=cc
def bTD (a0:Sh.V S5):SS.CC 103 [A5 a0] []=some (.str a0.1,[]):=cc
def bTI:KT:=SS.rK Tryz.f104 104 0 []
def bTJ:KT:=SS.jK 104 22 0 (cS Tryz.f104 15) bTI
def bTK:KT:=aS 0 bTJ
def a5T (b c:ai) (a:Int):R:=SS.LL (SS.ae 104 22) 0 [1,5,8,9,10] 0 (cS Tryz.f104 75) bTK ⟨[(1,eu 105),(5,.sl true 1 c),(8,.sl false 2 b),(9,aP (b.length:Int)),(10,aP a)],[]⟩
theorem aTZ (b c:ai) (a:Int):a5T b c a=aB (decide (a<(b.length:Int))) (ak lF b a fun d=>G2 105 [Ag d] fun e=>bJ (decide (c.length+1<=aN)) (a5T b (c ++ ([.str e]:ai)) (i64.wrap (a+1)))) (some (a_ c,[])):=ll
def bTL (a0:ai):SS.CC 104 [.sl false 2 a0,eu 105] []=a5T a0 [] 0:=cc
def bTM (a0:Sh.V lF):SS.CC 105 [Ag a0] []=some (.str a0.1,[]):=cc
def bTR:KT:=SS.rK Tryz.f106 106 0 []
def bTS:KT:=SS.jK 106 22 0 (cS Tryz.f106 15) bTR
def bTT:KT:=aS 0 bTS
def Yd (b c:ai) (a:Int):R:=SS.LL (SS.ae 106 22) 0 [1,5,8,9,10] 0 (cS Tryz.f106 75) bTT ⟨[(1,eu 107),(5,.sl true 1 c),(8,.sl false 3 b),(9,aP (b.length:Int)),(10,aP a)],[]⟩
theorem aU0 (b c:ai) (a:Int):Yd b c a=aB (decide (a<(b.length:Int))) (ak jb b a fun d=>G2 107 [xk d] fun e=>bJ (decide (c.length+1<=aN)) (Yd b (c ++ ([.str e]:ai)) (i64.wrap (a+1)))) (some (a_ c,[])):=ll
def bTU (a0:ai):SS.CC 106 [.sl false 3 a0,eu 107] []=Yd a0 [] 0:=cc
def bTV (a0:Sh.V jb):SS.CC 107 [xk a0] []=some (.str a0.1,[]):=cc
def bTW:KT:=SS.rK Tryz.f108 108 0 []
def bTX:KT:=SS.jK 108 18 0 (cS Tryz.f108 7) bTW
def bTY:KT:=aS 0 bTX
def a5W (a:ai) (b:Int):R:=SS.LL (SS.ae 108 18) 0 [6,7,8] 0 (cS Tryz.f108 37) bTY ⟨[(6,a_ a),(7,aP (a.length:Int)),(8,aP b)],[]⟩
def aU1 (a:ai) (b:Int):a5W a b=aB (decide (b<(a.length:Int))) (dD a b fun c=>bJ (decide (c.isAgg=false)&&decide (c.size=1)) (SC (PV.un (PV.un (PV.un c))) fun g d e=>bJ (PV.flats (d ++ [] ++ e)) (kE SS.CC g (d ++ [] ++ e) fun h=>vI .i64 h fun f=>aB (f != 0) (some (aP f,[])) (a5W a (i64.wrap (b+1)))))) (some (aP 0,[])):=ll
def bTZ (a0:ai):SS.CC 108 [a_ a0] []=a5W a0 0:=cc
def bT' (a0:Sh.V S0):SS.CC 109 [.cst (A0 a0)] []=G3 41 [.str a0.1] fun a=>G1 110 [.bool (!a),aP 7] fun b=>some (aP b,[]):=cc
def bU0 (a0:Bool) (a1:Int):SS.CC 110 [.bool a0,aP a1] []=aB a0 (some (aP a1,[])) (some (aP 0,[])):=cc
def bU1 (a0:Sh.V S0):SS.CC 111 [.cst (A0 a0)] []=G1 112 [.sl false 5 a0.2.1] fun a=>some (aP a,[]):=cc
def bU2 (a0:Sh.V S0):SS.CC 113 [.cst (A0 a0)] []=aB (decide (16<(a0.2.2.1.length:Int))) (G1 110 [.bool true,aP 3] fun a=>some (aP a,[])) (G1 110 [.bool (decide (32<((fun w=>if (a0.2.2.2.2.2.2.1.length:Int)>(if (a0.2.2.2.2.2.1.length:Int)>w then (a0.2.2.2.2.2.1.length:Int) else w) then (a0.2.2.2.2.2.2.1.length:Int) else (if (a0.2.2.2.2.2.1.length:Int)>w then (a0.2.2.2.2.2.1.length:Int) else w)) (if (a0.2.2.2.2.1.length:Int)>(a0.2.2.2.1.length:Int) then (a0.2.2.2.2.1.length:Int) else (a0.2.2.2.1.length:Int))))),aP 3] fun b=>some (aP b,[])):=cc
def bU3 (a0:Sh.V S0) (a1:ai):SS.CC 114 [.cst (A0 a0),.cst (a_ a1)] []=G1 115 [.sl false 9 a0.2.2.1,dm 116 [.cst (a_ a1),.cst (A0 a0)]] fun a=>some (aP a,[]):=cc
def bU4:KT:=SS.rK Tryz.f115 115 0 []
def bU5:KT:=SS.jK 115 19 0 (cS Tryz.f115 7) bU4
def bU6:KT:=aS 0 bU5
def a5X (a:ai) (b:b_) (c d e f g h:ai) (i j:Int):R:=SS.LL (SS.ae 115 19) 0 [1,8,9] 0 (cS Tryz.f115 37) bU6 ⟨[(1,dm 116 [.cst (a_ a),.cst (A0 (b,c,d,e,f,g,h,()))]),(8,aP i),(9,aP j)],[]⟩
theorem aU2 (b:ai) (c:b_) (d e f g h i:ai) (j a:Int):a5X b c d e f g h i j a=aB (decide (a<j)) (G1 116 [aP a,.cst (a_ b),.cst (A0 (c,d,e,f,g,h,i,()))] fun l=>aB (l != 0) (some (aP l,[])) (a5X b c d e f g h i j (i64.wrap (a+1)))) (some (aP 0,[])):=ll
def bU7 (a0 a1:ai) (a:b_) (b c d e f g:ai):SS.CC 115 [.sl false 9 a0,dm 116 [.cst (a_ a1),.cst (A0 (a,b,c,d,e,f,g,()))]] []=a5X a1 a b c d e f g (a0.length:Int) 0:=cc
def bU8 (a0:Int) (a1:ai) (a2:Sh.V S0):SS.CC 116 [aP a0,.cst (a_ a1),.cst (A0 a2)] []=G1 108 [a_ [dm 117 [.cst (a_ a1),.cst (aP a0)],dm 119 [.cst (A0 a2),.cst (aP a0)]]] fun a=>some (aP a,[]):=cc
def bU9 (a0:ai) (a1:Int):SS.CC 117 [.cst (a_ a0),.cst (aP a1)] []=bJ (decide (0<=(i64.wrap (a1+1)))&&decide ((i64.wrap (a1+1))<=(a0.length:Int))) (G1 118 [a_ (a0.take (i64.wrap (a1+1)).toNat)] fun a=>some (aP a,[])):=cc
def bUA (a0:ai):SS.CC 118 [a_ a0] []=dD a0 (i64.wrap ((a0.length:Int)-1)) fun b=>vS b fun a=>G3 41 [.str a] fun c=>aB (!c) (some (aP 7,[])) (bJ (decide (0<=(i64.wrap ((a0.length:Int)-1)))&&decide ((i64.wrap ((a0.length:Int)-1))<=(a0.length:Int))) (G3 207 [a_ (a0.take (i64.wrap ((a0.length:Int)-1)).toNat),.str a] fun d=>G1 110 [.bool d,aP 8] fun e=>some (aP e,[]))):=cc
def bUB (a0:Sh.V S0) (a1:Int):SS.CC 119 [.cst (A0 a0),.cst (aP a1)] []=ak S5 a0.2.2.1 a1 fun b=>G1 120 [A5 b] fun a=>some (aP a,[]):=cc
def bUC (a0:Sh.V S5):SS.CC 120 [A5 a0] []=(fun w=>G1 108 [a_ [dm 208 [.cst (A5 a0)],dm 210 [.cst (A5 a0)],dm 211 [.cst w,.cst (A5 a0)],dm 212 [.cst w,.cst (A5 a0)],dm 213 [.cst w],dm 214 [.cst w],dm 216 [.cst w],dm 218 [.cst w],dm 221 [.cst w,.cst (A5 a0)]]] fun a=>some (aP a,[])) (A6 (a0.2.2.2.1,a0.2.2.2.2.1,a0.2.2.2.2.2.1,a0.2.2.2.2.2.2.1,a0.2.2.2.2.2.2.2.1,a0.2.2.2.2.2.2.2.2.1,())):=cc
def bUD (a0 a1:ai):SS.CC 121 [.cst (.sl false 3 a0),.cst (a_ a1)] []=G1 122 [.sl false 3 a0,dm 123 [.cst (a_ a1),.cst (.sl false 3 a0)]] fun a=>some (aP a,[]):=cc
def bUE:KT:=SS.rK Tryz.f122 122 0 []
def bUF:KT:=SS.jK 122 19 0 (cS Tryz.f122 7) bUE
def bUG:KT:=aS 0 bUF
def a5Y (a b:ai) (c d:Int):R:=SS.LL (SS.ae 122 19) 0 [1,8,9] 0 (cS Tryz.f122 37) bUG ⟨[(1,dm 123 [.cst (a_ a),.cst (.sl false 3 b)]),(8,aP c),(9,aP d)],[]⟩
theorem aU3 (b c:ai) (d a:Int):a5Y b c d a=aB (decide (a<d)) (G1 123 [aP a,.cst (a_ b),.cst (.sl false 3 c)] fun e=>aB (e != 0) (some (aP e,[])) (a5Y b c d (i64.wrap (a+1)))) (some (aP 0,[])):=ll
def bUH (a0 a1 a:ai):SS.CC 122 [.sl false 3 a0,dm 123 [.cst (a_ a1),.cst (.sl false 3 a)]] []=a5Y a1 a (a0.length:Int) 0:=cc
def bUI (a0:Int) (a1 a2:ai):SS.CC 123 [aP a0,.cst (a_ a1),.cst (.sl false 3 a2)] []=G1 108 [a_ [dm 124 [.cst (a_ a1),.cst (aP a0)],dm 125 [.cst (.sl false 3 a2),.cst (aP a0)]]] fun a=>some (aP a,[]):=cc
def bUJ (a0:ai) (a1:Int):SS.CC 124 [.cst (a_ a0),.cst (aP a1)] []=bJ (decide (0<=(i64.wrap (a1+1)))&&decide ((i64.wrap (a1+1))<=(a0.length:Int))) (G1 118 [a_ (a0.take (i64.wrap (a1+1)).toNat)] fun a=>some (aP a,[])):=cc
def bUK (a0:ai) (a1:Int):SS.CC 125 [.cst (.sl false 3 a0),.cst (aP a1)] []=ak S8 a0 a1 fun c=>ak S8 a0 a1 fun b=>bJ (decide (1+b.2.2.1.length<=aN)) (G3 126 [a_ (([.str c.2.1]:ai) ++ b.2.2.1)] fun d=>G1 110 [.bool (!d),aP 7] fun a=>some (aP a,[])):=cc
def bUL (a0:ai):SS.CC 126 [a_ a0] []=G3 39 [a_ a0,eu 225] fun a=>some (.bool (!a),[]):=cc
def bUM (a0:Sh.V S0) (a1:ai):SS.CC 127 [.cst (A0 a0),.cst (a_ a1)] []=G1 128 [.sl false 2 a0.2.2.2.2.2.1,dm 129 [.cst (a_ a1),.cst (A0 a0)]] fun a=>some (aP a,[]):=cc
def bUN:KT:=SS.rK Tryz.f128 128 0 []
def bUO:KT:=SS.jK 128 19 0 (cS Tryz.f128 7) bUN
def bUP:KT:=aS 0 bUO
def a5Z (a:ai) (b:b_) (c d e f g h:ai) (i j:Int):R:=SS.LL (SS.ae 128 19) 0 [1,8,9] 0 (cS Tryz.f128 37) bUP ⟨[(1,dm 129 [.cst (a_ a),.cst (A0 (b,c,d,e,f,g,h,()))]),(8,aP i),(9,aP j)],[]⟩
theorem aU4 (b:ai) (c:b_) (d e f g h i:ai) (j a:Int):a5Z b c d e f g h i j a=aB (decide (a<j)) (G1 129 [aP a,.cst (a_ b),.cst (A0 (c,d,e,f,g,h,i,()))] fun l=>aB (l != 0) (some (aP l,[])) (a5Z b c d e f g h i j (i64.wrap (a+1)))) (some (aP 0,[])):=ll
def bUQ (a0 a1:ai) (a:b_) (b c d e f g:ai):SS.CC 128 [.sl false 2 a0,dm 129 [.cst (a_ a1),.cst (A0 (a,b,c,d,e,f,g,()))]] []=a5Z a1 a b c d e f g (a0.length:Int) 0:=cc
def bUR (a0:Int) (a1:ai) (a2:Sh.V S0):SS.CC 129 [aP a0,.cst (a_ a1),.cst (A0 a2)] []=G1 108 [a_ [dm 130 [.cst (a_ a1),.cst (aP a0)],dm 131 [.cst (A0 a2),.cst (aP a0)],dm 132 [.cst (A0 a2),.cst (aP a0)]]] fun a=>some (aP a,[]):=cc
def bUS (a0:ai) (a1:Int):SS.CC 130 [.cst (a_ a0),.cst (aP a1)] []=bJ (decide (0<=(i64.wrap (a1+1)))&&decide ((i64.wrap (a1+1))<=(a0.length:Int))) (G1 118 [a_ (a0.take (i64.wrap (a1+1)).toNat)] fun a=>some (aP a,[])):=cc
def bUT (a0:Sh.V S0) (a1:Int):SS.CC 131 [.cst (A0 a0),.cst (aP a1)] []=ak lF a0.2.2.2.2.2.1 a1 fun a=>G1 110 [.bool ((a.2.1.length:Int)==0),aP 12] fun b=>some (aP b,[]):=cc
def bUV (a0:Sh.V S0) (a1:Int):SS.CC 132 [.cst (A0 a0),.cst (aP a1)] []=ak lF a0.2.2.2.2.2.1 a1 fun a=>G3 133 [.sl false 2 a.2.1,eu 134] fun b=>G1 110 [.bool b,aP 7] fun c=>some (aP c,[]):=cc
def bUW (a0:ai):SS.CC 133 [.sl false 2 a0,eu 134] []=G1 226 [.sl false 2 a0,eu 134] fun a=>some (.bool (decide (0<=a)),[]):=cc
def bUX (a0:Sh.V Aj):SS.CC 134 [Jj a0] []=G3 126 [a_ [.str a0.1,.str a0.2.1]] fun a=>some (.bool (!a),[]):=cc
def bUY (a0:Sh.V S0) (a1:ai):SS.CC 135 [.cst (A0 a0),.cst (a_ a1)] []=G1 136 [.sl false 3 a0.2.2.2.2.2.2.1,dm 137 [.cst (a_ a1),.cst (A0 a0)]] fun a=>some (aP a,[]):=cc
def bUZ:KT:=SS.rK Tryz.f136 136 0 []
def bU':KT:=SS.jK 136 19 0 (cS Tryz.f136 7) bUZ
def bV0:KT:=aS 0 bU'
def a5' (a:ai) (b:b_) (c d e f g h:ai) (i j:Int):R:=SS.LL (SS.ae 136 19) 0 [1,8,9] 0 (cS Tryz.f136 37) bV0 ⟨[(1,dm 137 [.cst (a_ a),.cst (A0 (b,c,d,e,f,g,h,()))]),(8,aP i),(9,aP j)],[]⟩
theorem aU5 (b:ai) (c:b_) (d e f g h i:ai) (j a:Int):a5' b c d e f g h i j a=aB (decide (a<j)) (G1 137 [aP a,.cst (a_ b),.cst (A0 (c,d,e,f,g,h,i,()))] fun l=>aB (l != 0) (some (aP l,[])) (a5' b c d e f g h i j (i64.wrap (a+1)))) (some (aP 0,[])):=ll
def bV1 (a0 a1:ai) (a:b_) (b c d e f g:ai):SS.CC 136 [.sl false 3 a0,dm 137 [.cst (a_ a1),.cst (A0 (a,b,c,d,e,f,g,()))]] []=a5' a1 a b c d e f g (a0.length:Int) 0:=cc
def bV2 (a0:Int) (a1:ai) (a2:Sh.V S0):SS.CC 137 [aP a0,.cst (a_ a1),.cst (A0 a2)] []=G1 108 [a_ [dm 138 [.cst (a_ a1),.cst (aP a0)],dm 139 [.cst (A0 a2),.cst (aP a0)]]] fun a=>some (aP a,[]):=cc
def bV3 (a0:ai) (a1:Int):SS.CC 138 [.cst (a_ a0),.cst (aP a1)] []=bJ (decide (0<=(i64.wrap (a1+1)))&&decide ((i64.wrap (a1+1))<=(a0.length:Int))) (G1 118 [a_ (a0.take (i64.wrap (a1+1)).toNat)] fun a=>some (aP a,[])):=cc
def bV4 (a0:Sh.V S0) (a1:Int):SS.CC 139 [.cst (A0 a0),.cst (aP a1)] []=ak jb a0.2.2.2.2.2.2.1 a1 fun a=>G1 140 [xk a] fun b=>some (aP b,[]):=cc
def bV5:KT:=SS.rK Tryz.f140 140 0 []
def bV6:KT:=SS.jK 140 28 0 (cS Tryz.f140 15) bV5
def bV7:KT:=aS 0 bV6
def Xt (a:Sh.V jb) (b:Int):R:=SS.LL (SS.ae 140 28) 0 [1,10,11,12] 0 (cS Tryz.f140 75) bV7 ⟨[(1,.cst (xk a)),(10,.sl false 2 a.2.1),(11,aP (a.2.1.length:Int)),(12,aP b)],[]⟩
def aU6 (b:Sh.V jb) (a:Int):Xt b a=aB (decide (a<(b.2.1.length:Int))) (ak Bf b.2.1 a fun d=>G3 41 [.str d.1] fun e=>aB (!e) (some (aP 7,[])) (G3 227 [aP d.2.1] fun f=>aB f (some (aP 2,[])) (Xt b (i64.wrap (a+1))))) (G3 227 [aP b.2.2.1] fun g=>G1 110 [.bool g,aP 2] fun c=>some (aP c,[])):=ll
def bV8 (a0:Sh.V jb):SS.CC 140 [xk a0] []=aB ((a0.2.1.length:Int)==0) (some (aP 12,[])) (Xt a0 0):=cc
def bD4:KT:=SS.rK Tryz.f57 57 0 []
def bD5:KT:=SS.jK 57 26 0 (cS Tryz.f57 15) bD4
def bD6:KT:=aS 0 bD5
def X5 (a b:ai) (c:Int):R:=SS.LL (SS.ae 57 26) 0 [0,1,12,13] 0 (cS Tryz.f57 75) bD6 ⟨[(0,a_ a),(1,a_ b),(12,aP (a.length:Int)),(13,aP c)],[]⟩
theorem a2P (b c:ai) (a:Int):X5 b c a=aB (decide (a<(b.length:Int))) (dD b a fun d=>vI .i64 d fun e=>dD c a fun f=>vI .i64 f fun g=>aB (e != g) iM (X5 b c (i64.wrap (a+1)))) rC:=ll
def aO' (a0 a1:ai):SS.CC 57 [a_ a0,a_ a1] []=aB ((a0.length:Int) !=(a1.length:Int)) iM (X5 a0 a1 0):=cc
def bED:KT:=SS.rK Tryz.f150 150 0 []
def bEE:KT:=SS.jK 150 19 0 (cS Tryz.f150 7) bED
def bEF:KT:=aS 0 bEE
def X7 (a:ai) (b:Int):R:=SS.LL (SS.ae 150 19) 0 [0,1,7,8] 0 (cS Tryz.f150 37) bEF ⟨[(0,a_ a),(1,eu 225),(7,aP (a.length:Int)),(8,aP b)],[]⟩
theorem aPA (b:ai) (a:Int):X7 b a=aB (decide (a<(b.length:Int))) (dD b a fun c=>vS c fun d=>G3 225 [.str d] fun e=>aB e (some (aP a,[])) (X7 b (i64.wrap (a+1)))) (some (aP (-1),[])):=ll
def bEG (a0:ai):SS.CC 150 [a_ a0,eu 225] []=X7 a0 0:=cc
def bEH:KT:=SS.rK Tryz.f215 215 0 []
def bEI:KT:=SS.jK 215 33 0 (cS Tryz.f215 7) bEH
def bEJ:KT:=aS 0 bEI
def X8 (a:ai) (b c:Int):R:=SS.LL (SS.ae 215 33) 0 [0,1,7,8,9] 0 (cS Tryz.f215 37) bEJ ⟨[(0,a_ a),(1,aP b),(7,a_ a),(8,aP (a.length:Int)),(9,aP c)],[]⟩
theorem aPB (b:ai) (c a:Int):X8 b c a=aB (decide (a<(b.length:Int))) (dD b a fun e=>vI .i64 e fun d=>aB (decide (d<0)) (some (aP 2,[])) (aB (decide (c<=d)) (some (aP 2,[])) (aB (decide (0<a)) (dD b (i64.wrap (a-1)) fun f=>vI .i64 f fun g=>aB (decide (d<=g)) (some (aP 5,[])) (X8 b c (i64.wrap (a+1)))) (X8 b c (i64.wrap (a+1)))))) (some (aP 0,[])):=ll
def bEK (a0:ai) (a1:Int):SS.CC 215 [a_ a0,aP a1] []=X8 a0 a1 0:=cc
def bEL:KT:=SS.rK Tryz.f217 217 0 []
def bEM:KT:=SS.jK 217 55 0 (cS Tryz.f217 15) bEL
def bEN:KT:=aS 0 bEM
def a2Z (a:ai) (b:Int):R:=SS.LL (SS.ae 217 55) 0 [0,8,9,10] 0 (cS Tryz.f217 75) bEN ⟨[(0,.sl false 4 a),(8,.sl false 4 a),(9,aP (a.length:Int)),(10,aP b)],[]⟩
theorem aPC (c:ai) (a:Int):a2Z c a=aB (decide (a<(c.length:Int))) (ak S7 c a fun f=>G3 41 [.str f.1] fun g=>aB (!g) (some (aP 7,[])) (bJ (decide (0<=a)&&decide (a<=(c.length:Int))) (H44 219 [.sl false 4 (c.take a.toNat),dm 274 [ag]] [O7 f] fun h b=>aB h (some (aP 8,[])) (G3 235 [aP b.2.1,aP 65536] fun d=>aB d (some (aP 2,[])) (G3 235 [aP b.2.2.1,aP 65536] fun e=>aB e (some (aP 2,[])) (aB (decide (b.2.2.1<b.2.1)) (some (aP 5,[])) (aB (decide (b.2.2.2.1<b.2.1)) (some (aP 2,[])) (aB (decide (b.2.2.1<b.2.2.2.1)) (some (aP 2,[])) (a2Z c (i64.wrap (a+1))))))))))) (some (aP 0,[])):=ll
def bEO (a0:ai):SS.CC 217 [.sl false 4 a0] []=aB (decide (16<(a0.length:Int))) (some (aP 3,[])) (a2Z a0 0):=cc
def bEP (a0:Sh.V S1) (a1 a2:Int):SS.CC 249 [A1 a0,aP a1,aP a2] []=G6 43 [A1 a0,aP a1] fun a=>aB (a.2.1.1==0) (aB (a.1.1 != a2) (some (aP 16,[])) (some (aP a.2.1.1,[]))) (some (aP a.2.1.1,[])):=cc
def bGH (a0:Sh.V S5):SS.CC 208 [.cst (A5 a0)] []=G1 209 [a_ a0.2.2.1] fun a=>some (aP a,[]):=cc
def bGI:KT:=SS.rK Tryz.f209 209 0 []
def bGJ:KT:=SS.jK 209 21 0 (cS Tryz.f209 7) bGI
def bGK:KT:=aS 0 bGJ
def a3H (a:ai) (b:Int):R:=SS.LL (SS.ae 209 21) 0 [0,5,6,7] 0 (cS Tryz.f209 37) bGK ⟨[(0,a_ a),(5,a_ a),(6,aP (a.length:Int)),(7,aP b)],[]⟩
theorem aPZ (b:ai) (a:Int):a3H b a=aB (decide (a<(b.length:Int))) (dD b a fun d=>vS d fun c=>G3 41 [.str c] fun e=>aB (!e) (some (aP 7,[])) (bJ (decide (0<=a)&&decide (a<=(b.length:Int))) (G3 207 [a_ (b.take a.toNat),.str c] fun f=>aB f (some (aP 8,[])) (a3H b (i64.wrap (a+1)))))) (some (aP 0,[])):=ll
def bGL (a0:ai):SS.CC 209 [a_ a0] []=a3H a0 0:=cc
def bGM (a0:Sh.V S5):SS.CC 210 [.cst (A5 a0)] []=G1 209 [a_ a0.2.1] fun a=>some (aP a,[]):=cc
def bGN (a0:Sh.V S6) (a1:Sh.V S5):SS.CC 211 [.cst (A6 a0),.cst (A5 a1)] []=G4 199 [aP (a1.2.2.1.length:Int)] fun a=>G3 57 [a_ a0.1,a_ a] fun b=>G1 110 [.bool (!b),aP 6] fun c=>some (aP c,[]):=cc
def bGP:KT:=SS.rK Tryz.f199 199 0 []
def bGQ:KT:=SS.jK 199 15 0 (cS Tryz.f199 15) bGP
def bGR:KT:=aS 0 bGQ
def Ze (a:Int) (b:ai) (c:Int):R:=SS.LL (SS.ae 199 15) 0 [3,5,6] 0 (cS Tryz.f199 75) bGR ⟨[(3,.sl true 1 b),(5,aP a),(6,aP c)],[]⟩
theorem aP' (c:Int) (a:ai) (b:Int):Ze c a b=aB (decide (b<c)) (bJ (decide (a.length+1<=aN)) (Ze c (a ++ ([aP b]:ai)) (i64.wrap (b+1)))) (some (a_ a,[])):=ll
def bGS (a0:Int):SS.CC 199 [aP a0] []=Ze a0 [] 0:=cc
def bGT (a0:Sh.V S6) (a1:Sh.V S5):SS.CC 212 [.cst (A6 a0),.cst (A5 a1)] []=G1 110 [.bool (a0.2.1 !=(a1.2.1.length:Int)),aP 4] fun a=>some (aP a,[]):=cc
def bGU (a0:Sh.V S6):SS.CC 213 [.cst (A6 a0)] []=aB (decide (a0.2.2.1<0)) (G1 110 [.bool true,aP 2] fun a=>some (aP a,[])) (G1 110 [.bool (decide ((if (1:Int)>a0.2.1 then (1:Int) else a0.2.1)<=a0.2.2.1)),aP 2] fun b=>some (aP b,[])):=cc
def bGV (a0:Sh.V S6):SS.CC 214 [.cst (A6 a0)] []=G1 215 [a_ a0.2.2.2.1,aP a0.2.1] fun a=>some (aP a,[]):=cc
def bGW (a0:Sh.V S6):SS.CC 216 [.cst (A6 a0)] []=G1 217 [.sl false 4 a0.2.2.2.2.1] fun a=>some (aP a,[]):=cc
def bGX (a0:Sh.V S6):SS.CC 218 [.cst (A6 a0)] []=G3 219 [.sl false 4 a0.2.2.2.2.1,eu 220] fun a=>G1 110 [.bool a,aP 7] fun b=>some (aP b,[]):=cc
def bGY (a0:ai):SS.CC 219 [.sl false 4 a0,eu 220] []=G1 275 [.sl false 4 a0,eu 220] fun a=>some (.bool (decide (0<=a)),[]):=cc
def bGZ (a0:ai) (a:Sh.V S7):SS.CC 219 [.sl false 4 a0,dm 274 [ag]] [O7 a]=H63 275 [.sl false 4 a0,dm 274 [ag]] [O7 a] fun b c=>some (.bool (decide (0<=b)),[O7 c]):=cc
def bG' (a0:Sh.V S7):SS.CC 220 [A7 a0] []=G3 42 [.str a0.1] fun a=>some (.bool a,[]):=cc
def bH0 (a0:Sh.V S6) (a1:Sh.V S5):SS.CC 221 [.cst (A6 a0),.cst (A5 a1)] []=G1 222 [.sl false 8 a0.2.2.2.2.2.1,dm 223 [.cst (A5 a1),.cst (A6 a0)]] fun a=>some (aP a,[]):=cc
def bH1:KT:=SS.rK Tryz.f222 222 0 []
def bH2:KT:=SS.jK 222 19 0 (cS Tryz.f222 7) bH1
def bH3:KT:=aS 0 bH2
def a3J (a:b_) (b c d:ai) (e f:Int) (g h i j:ai) (l m:Int) (n o p:ai) (q r:Int):R:=SS.LL (SS.ae 222 19) 0 [1,8,9] 0 (cS Tryz.f222 37) bH3 ⟨[(1,dm 223 [.cst (A5 (a,b,c,d,e,f,g,h,i,())),.cst (A6 (j,l,m,n,o,p,()))]),(8,aP q),(9,aP r)],[]⟩
theorem aQ0 (b:b_) (c d e:ai) (f g:Int) (h i j l:ai) (m n:Int) (o p q:ai) (r a:Int):a3J b c d e f g h i j l m n o p q r a=aB (decide (a<r)) (G1 223 [aP a,.cst (A5 (b,c,d,e,f,g,h,i,j,())),.cst (A6 (l,m,n,o,p,q,()))] fun t=>aB (t != 0) (some (aP t,[])) (a3J b c d e f g h i j l m n o p q r (i64.wrap (a+1)))) (some (aP 0,[])):=ll
def bH4 (a0:ai) (a1:b_) (h i j:ai) (l m:Int) (n o a b:ai) (c d:Int) (e f g:ai):SS.CC 222 [.sl false 8 a0,dm 223 [.cst (A5 (a1,h,i,j,l,m,n,o,a,())),.cst (A6 (b,c,d,e,f,g,()))]] []=a3J a1 h i j l m n o a b c d e f g (a0.length:Int) 0:=cc
def bH6 (a0:Int) (a1:Sh.V S5) (a2:Sh.V S6):SS.CC 223 [aP a0,.cst (A5 a1),.cst (A6 a2)] []=ak S9 a2.2.2.2.2.2.1 a0 fun b=>G1 224 [A5 a1,A9 b] fun a=>some (aP a,[]):=cc
def bH8:KT:=SS.rK Tryz.f224 224 0 []
def bH9:KT:=SS.jK 224 97 0 (cS Tryz.f224 63) bH8
def aQ1:KT:=aS 0 bH9
def bHA:KT:=SS.lK 224 97 0 [3,5,59,60,61] 0 (cS Tryz.f224 303) aQ1
def bHB:KT:=SS.jK 224 97 0 (cS Tryz.f224 3887) bHA
def bHC:KT:=aS 1 bHB
def XG (a:Sh.V S9) (b c:Int):R:=SS.LL (SS.ae 224 97) 0 [3,5,59,60,61] 0 (cS Tryz.f224 303) aQ1 ⟨[(3,.cst (A9 a)),(5,aP b),(59,.sl false 5 a.2.2.2.2.2.2.2.1),(60,aP (a.2.2.2.2.2.2.2.1.length:Int)),(61,aP c)],[]⟩
def aBW (a:Sh.V S9) (b:Int) (c:Sh.V rX) (d:Int):R:=bD (SS.xX 224 97 0) (cS Tryz.f224 62255) bHC ⟨[(3,.cst (A9 a)),(5,aP b),(8,ag),(59,.sl false 5 a.2.2.2.2.2.2.2.1),(60,aP (a.2.2.2.2.2.2.2.1.length:Int)),(61,aP d)],[O11 c]⟩
theorem aQ2 (b:Sh.V S9) (d a:Int):XG b d a=aB (decide (a<(b.2.2.2.2.2.2.2.1.length:Int))) (ak rX b.2.2.2.2.2.2.2.1 a fun c=>aB (decide (c.1<0)) (some (aP 2,[])) (aB (decide (d<=c.1)) (some (aP 2,[])) (aB (decide (0<a)) (ak rX b.2.2.2.2.2.2.2.1 (i64.wrap (a-1)) fun u8=>aB (decide (c.1<=u8.1)) (some (aP 5,[])) (aBW b d c a)) (aBW b d c a)))) (some (aP 0,[])):=ll
def bH7 (c:Sh.V S9) (b:Int) (a:Sh.V rX) (d:Int):aBW c b a d=G1 276 [A1 (a.2.1,a.2.2.1,a.2.2.2.1,a.2.2.2.2.1,()),aP b,aP 1] fun e=>aB (e != 0) (some (aP e,[])) (XG c b (i64.wrap (d+1))):=by kernel_rfl
def bHD (a0:Sh.V S5) (a1:Sh.V S9):SS.CC 224 [A5 a0,A9 a1] []=aB (decide (a1.1<0)) (some (aP 2,[])) (aB (decide (a0.2.2.2.2.1<=a1.1)) (some (aP 2,[])) (aB (decide (a1.2.1<0)) (some (aP 2,[])) (aB (decide ((a0.2.2.1.length:Int)<=a1.2.1)) (some (aP 2,[])) (aB (decide (a1.2.2.1<0)) (some (aP 2,[])) (aB (decide (a0.2.2.2.2.1<=a1.2.2.1)) (some (aP 2,[])) (G1 276 [A1 (a1.2.2.2.1,a1.2.2.2.2.1,a1.2.2.2.2.2.1,a1.2.2.2.2.2.2.1,()),aP (a0.2.2.2.2.2.2.2.1.length:Int),aP 2] fun a=>aB (a != 0) (some (aP a,[])) (XG a1 (a0.2.2.2.2.2.2.2.1.length:Int) 0))))))):=cc
def bHE (a0:b_):SS.CC 225 [.str a0] []=G3 41 [.str a0] fun a=>some (.bool (!a),[]):=cc
def bHF:KT:=SS.rK Tryz.f226 226 0 []
def bHG:KT:=SS.jK 226 19 0 (cS Tryz.f226 7) bHF
def bHH:KT:=aS 0 bHG
def XH (a:ai) (b:Int):R:=SS.LL (SS.ae 226 19) 0 [0,1,7,8] 0 (cS Tryz.f226 37) bHH ⟨[(0,.sl false 2 a),(1,eu 134),(7,aP (a.length:Int)),(8,aP b)],[]⟩
theorem aQ3 (b:ai) (a:Int):XH b a=aB (decide (a<(b.length:Int))) (ak Aj b a fun c=>G3 134 [Jj c] fun d=>aB d (some (aP a,[])) (XH b (i64.wrap (a+1)))) (some (aP (-1),[])):=ll
def bHI (a0:ai):SS.CC 226 [.sl false 2 a0,eu 134] []=XH a0 0:=cc
def bHJ (a0:Int):SS.CC 227 [aP a0] []=aB (decide (a0<(-65536))) rC (some (.bool (decide (65536<a0)),[])):=cc
def bJG (a0 a:Sh.V S7):SS.CC 274 [A7 a0,ag] [O7 a]=some (.bool (a0.1.toList==a.1.toList),[O7 a]):=cc
def bJZ:KT:=SS.rK Tryz.f275 275 1 []
def bJ':KT:=SS.jK 275 19 1 (cS Tryz.f275 7) bJZ
def bK0:KT:=aS 0 bJ'
def XN (a:ai) (b:Sh.V S7) (c:Int):R:=SS.LL (SS.ae 275 19) 1 [0,1,7,8] 1 (cS Tryz.f275 37) bK0 ⟨[(0,.sl false 4 a),(1,dm 274 [ag]),(7,aP (a.length:Int)),(8,aP c)],[O7 b]⟩
theorem aQJ (b:ai) (c:Sh.V S7) (a:Int):XN b c a=aB (decide (a<(b.length:Int))) (ak S7 b a fun e=>H44 274 [A7 e,ag] [O7 c] fun f d=>aB f (some (aP a,[O7 d])) (XN b d (i64.wrap (a+1)))) (some (aP (-1),[O7 c])):=ll
def bK1 (a0:ai) (a:Sh.V S7):SS.CC 275 [.sl false 4 a0,dm 274 [ag]] [O7 a]=XN a0 a 0:=cc
def bJV:KT:=SS.rK Tryz.f275 275 0 []
def bJW:KT:=SS.jK 275 19 0 (cS Tryz.f275 7) bJV
def bJX:KT:=aS 0 bJW
def XM (a:ai) (b:Int):R:=SS.LL (SS.ae 275 19) 0 [0,1,7,8] 0 (cS Tryz.f275 37) bJX ⟨[(0,.sl false 4 a),(1,eu 220),(7,aP (a.length:Int)),(8,aP b)],[]⟩
theorem aQI (b:ai) (a:Int):XM b a=aB (decide (a<(b.length:Int))) (ak S7 b a fun c=>G3 220 [A7 c] fun d=>aB d (some (aP a,[])) (XM b (i64.wrap (a+1)))) (some (aP (-1),[])):=ll
def bJY (a0:ai):SS.CC 275 [.sl false 4 a0,eu 220] []=XM a0 0:=cc
def bK2 (a0:Sh.V S1) (a1 a2:Int):SS.CC 276 [A1 a0,aP a1,aP a2] []=G6 43 [A1 a0,aP a1] fun a=>aB (a.2.1.1 != 0) (some (aP a.2.1.1,[])) (G1 110 [.bool (a.1.1 != a2),aP 16] fun b=>some (aP b,[])):=cc
end
abbrev Nm:=d_
structure Vr where
 n:Nm
 lo:Int
 hi:Int
 i:Int
structure nD where
 n:Nm
 c:Bool
 o:Bool
 f:Bool
 k:Int
structure Mv where
 f:Int
 e:Int
 t:Int
 g:EX
 us:List (Int×EX)
structure Tm where
 n:Nm
 ls:List Nm
 es:List Nm
 al:List Int
 L:Int
 I:Int
 mr:List Int
 vs:List Vr
 ms:List Mv
structure Ins where
 n:Nm
 t:Nm
 es:List Nm
structure qj where
 n:Nm
 ls:List (Nm×Nm)
structure Cst where
 n:Nm
 ts:List (Nm×Int)
 b:Int
structure Mo where
 n:Nm
 es:List nD
 ts:List Tm
 cs:List Ins
 rs:List Ins
 xs:List qj
 ks:List Cst
abbrev aJ (l:List Nm):ai:=dG (dB l)
abbrev QM (v:Vr):Sh.V S7:=(bs v.n,v.lo,v.hi,v.i,())
abbrev ou (e:nD):Sh.V S4:=(bs e.n,e.c,e.o,e.f,e.k,())
abbrev vUp (u:Int×EX):Sh.V rX:=(u.1,(ev u.2).1,(ev u.2).2.1,(ev u.2).2.2.1,(ev u.2).2.2.2.1,())
abbrev sW (u:Int×EX):PV:=Ji (vUp u)
abbrev sU (x:Mv):Sh.V S9:=(x.f,x.e,x.t,(ev x.g).1,(ev x.g).2.1,(ev x.g).2.2.1,(ev x.g).2.2.2.1,x.us.map sW,())
abbrev sN (x:Mv):PV:=A9 (sU x)
abbrev jI (v:Vr):PV:=A7 (QM v)
abbrev wK (e:nD):PV:=A4 (ou e)
abbrev iD (t:Tm):Sh.V S5:=(bs t.n,aJ t.ls,aJ t.es,fP t.al,t.L,t.I,fP t.mr,t.vs.map jI,t.ms.map sN,())
abbrev wM (t:Tm):PV:=A5 (iD t)
abbrev He (x:Ins):Sh.V S8:=(bs x.n,bs x.t,aJ x.es,())
abbrev dN (x:Ins):PV:=A8 (He x)
abbrev vLc (l:Nm×Nm):Sh.V Aj:=(bs l.1,bs l.2,())
abbrev yE (l:Nm×Nm):PV:=Jj (vLc l)
abbrev QL (x:qj):Sh.V lF:=(bs x.n,x.ls.map yE,())
abbrev wL (x:qj):PV:=Ag (QL x)
abbrev vTr (t:Nm×Int):Sh.V Bf:=(bs t.1,t.2,())
abbrev PT (t:Nm×Int):PV:=VJ (vTr t)
abbrev um (x:Cst):Sh.V jb:=(bs x.n,x.ts.map PT,x.b,())
abbrev oZ (x:Cst):PV:=xk (um x)
abbrev aV (m:Mo):Sh.V S0:=(bs m.n,m.es.map wK,m.ts.map wM,m.cs.map dN,m.rs.map dN,m.xs.map wL,m.ks.map oZ,())
abbrev Ai (l:List Nm):Prop:=l.length<=20000/\∀ s,s∈l->s.length<=20000
abbrev Va (n:Int):Prop := -9223372036854775808<=n/\n<=9223372036854775807
structure uz (t:Tm):Prop where
 ls:Ai t.ls
 es:Ai t.es
 al:t.al.length<=20000
 mr:t.mr.length<=20000
 vs:t.vs.length<=20000/\∀ v,v∈t.vs->v.n.length<=20000/\Va v.lo/\Va v.hi
 ms:t.ms.length<=20000/\∀ x,x∈t.ms->x.g.Len/\x.us.length<=20000/\∀ u,u∈x.us->u.2.Len
structure lm (m:Mo):Prop where
 n:m.n.length<=20000
 es:m.es.length<=20000/\∀ e,e∈m.es->e.n.length<=20000
 ts:m.ts.length<=20000/\∀ t,t∈m.ts->t.n.length<=20000/\uz t
 is:m.cs.length<=20000/\m.rs.length<=20000/\∀ x,x∈m.cs ++ m.rs->x.n.length<=20000/\x.t.length<=20000/\Ai x.es
 xs:m.xs.length<=20000/\∀ x,x∈m.xs->x.n.length<=20000/\x.ls.length<=20000/\∀ l,l∈x.ls->l.1.length<=20000/\l.2.length<=20000
 ks:m.ks.length<=20000/\∀ x,x∈m.ks->x.n.length<=20000/\x.ts.length<=20000/\∀ l,l∈x.ts->l.1.length<=20000
theorem yw {S:List Sh} {f:e->PV} {g:e->Sh.V S} (b:∀ a (K:Sh.V S->R),CE S (f a) K=K (g a)) {l:List e} (hk:i<l.length) (K:Sh.V S->R):ak S (l.map f) (i:Int) K=K (g l[i]):=by grind [dD]
def P6 {l:List nD} (hk:i<l.length) (K:Sh.V S4->R):ak S4 (l.map wK) (i:Int) K=K (ou l[i]):=yw (fun _ _=>rfl) hk K
variable {r:List Vr} {l:List Nm} {m:Nm} {Z:Vr} {D:Tm} {a':Mv} {o:Mo}
def Ir (hk:i<r.length) (K:Sh.V S7->R):ak S7 (r.map jI) (i:Int) K=K (QM r[i]):=yw (fun _ _=>rfl) hk K
def LQ (hk:i<S.length) (K:Sh.V rX->R):ak rX (S.map sW) (i:Int) K=K (vUp S[i]):=yw (fun _ _=>rfl) hk K
def U1 {l:List Mv} (hk:i<l.length) (K:Sh.V S9->R):ak S9 (l.map sN) (i:Int) K=K (sU l[i]):=yw (fun _ _=>rfl) hk K
def Iq {l:List Tm} (hk:i<l.length) (K:Sh.V S5->R):ak S5 (l.map wM) (i:Int) K=K (iD l[i]):=yw (fun _ _=>rfl) hk K
def BD {l:List Ins} (hk:i<l.length) (K:Sh.V S8->R):ak S8 (l.map dN) (i:Int) K=K (He l[i]):=yw (fun _ _=>rfl) hk K
def P7 {l:List (Nm×Nm)} (hk:i<l.length) (K:Sh.V Aj->R):ak Aj (l.map yE) (i:Int) K=K (vLc l[i]):=yw (fun _ _=>rfl) hk K
def Gf {l:List qj} (hk:i<l.length) (K:Sh.V lF->R):ak lF (l.map wL) (i:Int) K=K (QL l[i]):=yw (fun _ _=>rfl) hk K
def P8 {l:List (Nm×Int)} (hk:i<l.length) (K:Sh.V Bf->R):ak Bf (l.map PT) (i:Int) K=K (vTr l[i]):=yw (fun _ _=>rfl) hk K
def Ip {l:List Cst} (hk:i<l.length) (K:Sh.V jb->R):ak jb (l.map oZ) (i:Int) K=K (um l[i]):=yw (fun _ _=>rfl) hk K
def yx (hk:i<l.length) (K:PV->R):dD (aJ l) (i:Int) K=K (.str (bs l[i])):=nK (by omega) (aF6 hk)
theorem LK (hk:i<j.length) (K:PV->R):dD (fP j) (i:Int) K=K (aP j[i]):=nK (by omega) (by rw[nC,nP,kV hk]; rfl)
theorem UI (l:List Nm) (k:Nat):(aJ l).take k=aJ (l.take k):=by grind [dG,List.map_take]
theorem fJ (l:List Nm):(aJ l).length=l.length:=b_5 l
theorem H7 (a b:List Nm):aJ a ++ aJ b=aJ (a ++ b):=by grind [dG]
abbrev bV (e:Int):R:=some (aP e,[])
def En (v:Nat->Int):Nat->Nat->Int
 | _,0=>0
 | k,m+1=>if v k=0 then En v (k+1) m else v k
def tY (v:Nat->Int) (n:Nat):Int:=En v 0 n
def sq (a b:Int):Int:=if a=0 then b else a
theorem b0F {L:Nat->R} {E:R} {v:Nat->Int} {n:Nat} (a:∀ k,k<n->L k=aB (v k != 0) (bV (v k)) (L (k+1))) (he:L n=E):∀ (m k:Nat),k+m=n->L k=aB (En v k m != 0) (bV (En v k m)) E
 | 0,k,h=>by
  have:k=n:=by omega
  subst this;rw[he]; rfl
 | m+1,k,h=>by rw[a k (by omega),b0F a he m (k+1) (by omega),En];grind [aF,aI]
def EZ {L:Nat->R} (a:∀ k,k<i->L k=aB (H k != 0) (bV (H k)) (L (k+1))) (he:L i=X):L 0=aB (tY H i != 0) (bV (tY H i)) X:=b0F a he i 0 (by omega)
theorem xu (e:Int):aB (e != 0) (bV e) (bV 0)=bV e:=by
 by_cases h:e=0;simp_all
 .rw[WG h,aI]
def BG {L:Nat->R} (a:∀ k,k<i->L k=aB (H k != 0) (bV (H k)) (L (k+1))) (he:L i=bV 0):L 0=bV (tY H i):=(EZ a he).trans (xu _)
theorem aLE {L:Nat->R} {p:Nat->Bool} {n:Nat} {h:aH} (a:∀ k,k<n->L k=aB (p k) (some (aP (k:Int),h)) (L (k+1))) (he:L n=some (aP (-1),h)):∀ (m k:Nat),k+m=n->∃ r,L k=some (aP r,h)/\decide (0<=r)=(List.range' k m).any p
 | 0,k,e=>by simp_all
 | m+1,k,e=>by
  rw[a k (by omega),aJP,B_];cases b:p k with
  | true=>simp
  | false =>exact aLE a he m (k+1) (by omega)
def zl (p:Nat->Bool) (n:Nat):Bool:=(List.range' 0 n).any p
def rJ {L:Nat->R} (a:∀ k,k<i->L k=aB (U k) (some (aP (k:Int),h)) (L (k+1))) (he:L i=some (aP (-1),h)):∃ r,L 0=some (aP r,h)/\decide (0<=r)=zl U i:=aLE a he i 0 (by omega)
theorem b0D {p:Nat->Bool} {c:Int}:∀ (m k:Nat),En (fun k=>bif p k then c else 0) k m=bif (List.range' k m).any p then c else 0
 | 0,_=>rfl
 | m+1,k=>by rw[En,b0D m (k+1)];grind
def a0O:tY (fun k=>bif U k then w else 0) i=bif zl U i then w else 0:=b0D i 0
def Q5 (a:w≠0):aB ((bif d then w else y) != 0) (bV (bif d then w else y)) X=aB d (bV w) (aB (y != 0) (bV y) X):=by
 cases d with
 | false=>rfl
 | true=>rw[NZ,WG a,aI,aI]
def zT:aB ((bif d then 2 else w) != 0) (bV (bif d then 2 else w)) X=aB d (bV 2) (aB (w != 0) (bV w) X):=Q5 (by decide)
def st5:aB ((bif d then 5 else w) != 0) (bV (bif d then 5 else w)) X=aB d (bV 5) (aB (w != 0) (bV w) X):=Q5 (by decide)
def st6:aB ((bif d then 6 else w) != 0) (bV (bif d then 6 else w)) X=aB d (bV 6) (aB (w != 0) (bV w) X):=Q5 (by decide)
def MR:aB ((bif d then 7 else w) != 0) (bV (bif d then 7 else w)) X=aB d (bV 7) (aB (w != 0) (bV w) X):=Q5 (by decide)
def st8:aB ((bif d then 8 else w) != 0) (bV (bif d then 8 else w)) X=aB d (bV 8) (aB (w != 0) (bV w) X):=Q5 (by decide)
theorem b1E:aB ((bif d then 12 else w) != 0) (bV (bif d then 12 else w)) X=aB d (bV 12) (aB (w != 0) (bV w) X):=Q5 (by decide)
def c7I:aB ((bif d then 13 else w) != 0) (bV (bif d then 13 else w)) X=aB d (bV 13) (aB (w != 0) (bV w) X):=Q5 (by decide)
theorem yL:aB (sq w y != 0) (bV (sq w y)) X=aB (w != 0) (bV w) (aB (y != 0) (bV y) X):=by grind [sq,aF,aI]
def y5:aB ((0:Int) != 0) (bV 0) X=X:=rfl
theorem yc:aB d (bV w) (bV y)=bV (bif d then w else y):=by cases d<;>rfl
theorem Uh (a:Int):sq a 0=a:=by grind [sq]
def AY (b:Bool) (c:Int):SS.CC 110 [.bool b,aP c] []=bV (bif b then c else 0):=by rw[bU0,yc]
def xB (l:List Nm) (s:Nm):Int:=bif !f_ s then 7 else bif decide (s∈l) then 8 else 0
def a6J (l:List Nm) (a:l.length<=20000) (s:Nm):SS.CC 207 [a_ (aJ l),.str (bs s)] []=some (.bool (decide (s∈l)),[]):=by rw[y_ (dB l) (by rw[aZ]; omega) (bs s)];rw[decide_eq_decide.2 (aV5 l 0)]
def Wn (l:List Nm) (a:l.length<=20000) (s:Nm) (b:s.length<=20000):SS.CC 166 [a_ (aJ l),.str (bs s)] []=bV (xB l s):=by rw[bQM,bC (BK s b),bC (a6J l a s),yc,yc]; rfl
def a'5 (n:Int):SS.CC 227 [aP n] []=some (.bool (decide (n < -65536)||decide (65536<n)),[]):=by rw[bHJ];cases decide (n < -65536)<;>rfl
def aEO (v:Int):SS.CC 235 [aP v,aP 65536] []=some (.bool (decide (65536<v)||decide (v < -65536)),[]):=by rw[aQ7];cases decide ((65536:Int)<v)<;>rfl
def OJ (l:List Int) (n:Int):Int:=tY (fun k=>bif decide (l.getD k 0<0) then 2 else bif decide (n<=l.getD k 0) then 2 else bif decide ((0:Int)<(k:Int))&&decide (l.getD k 0<=l.getD (k-1) 0) then 5 else 0) l.length
def gD {l:List e} (h:i<l.length) (d:e):l.getD i d=l[i]:=by simp[h]
theorem csc (l:List Int) (c:l.length<=20000) (n:Int):SS.CC 215 [a_ (fP l),aP n] []=bV (OJ l n):=by
 rw[bEK];refine BG (L:=fun k=>X8 (fP l) n (k:Int)) (fun k hk => ?_) ?_
 .rw[aPB,aK (by rw[aZ]; omega),LK hk,bK (by omega),gD hk 0];simp only[zT,st5];show aB _ _ (aB _ _ (aB _ _ _))=_;cases d:decide ((0:Int)<(k:Int)) with
  | false=>rfl
  | true =>
   have e:0<k:=by grind
   have b:(k:Int)-1=((k-1:Nat):Int):=by omega
   have a:k-1<l.length:=by omega
   rw[wrap64 (by omega) (by omega),b,LK a,gD a 0];rfl
 grind [aPB,aF]
theorem aAR (f:e->Bool) (l:List e) (d:e):zl (fun k=>f (l.getD k d)) l.length=l.any f:=by
 unfold zl;rw[Ef,List.any_eq_true,List.any_eq_true];constructor;grind
 .rintro ⟨x,b,h⟩;obtain ⟨k,hk,a⟩:=aJO b;refine ⟨k,List.mem_range'_1.2 (by omega),?_⟩;rw[gD hk,a]; exact h
def Rj:bJ (true&&true) X=X:=rfl
def Ed (l:List Nm):Int:=tY (fun k=>xB (l.take k) (l.getD k [])) l.length
theorem nsc (l:List Nm) (h:Ai l):SS.CC 209 [a_ (aJ l)] []=bV (Ed l):=by
 rw[bGL];refine BG (L:=fun k=>a3H (aJ l) (k:Int)) (fun k hk => ?_) ?_
 .have a:(l.take k).length<=20000:=by rw[ve]; omega
  rw[aPZ,aK (by rw[fJ]; omega),aI,yx hk,je,bK (by omega),gD hk []];rw[bC (BK _ (h.2 _ (dZ hk))),aK (show (0:Int)<=k by omega),aK (show (k:Int)<=(aJ l).length by rw[fJ]; omega),Rj,nC,UI,bC (a6J _ a _)];unfold xB;simp only[MR,st8,y5]
 grind [aPZ,fJ,aF]
def rP (x:Int):Bool:=decide (65536<x)||decide (x < -65536)
def Zl (pre:List Vr) (v:Vr):Int:=bif !f_ v.n then 7 else bif decide (v.n∈pre.map (·.n)) then 8 else bif rP v.lo then 2 else bif rP v.hi then 2 else bif decide (v.hi<v.lo) then 5 else bif decide (v.i<v.lo) then 2 else bif decide (v.hi<v.i) then 2 else 0
def dV:Vr:=⟨[],0,0,0⟩
def IG (a:List Vr):Int:=bif decide ((16:Int)<(a.length:Int)) then 3 else tY (fun k=>Zl (a.take k) (a.getD k dV)) a.length
def aLS (a b:Nm):((bs a).toList==(bs b).toList)=decide (a=b):=by rw[EH,EH]; by_cases h:a=b<;>simp[h]
theorem b9O (l:List Vr) (d:l.length<=20000) (v:Vr):SS.CC 219 [.sl false 4 (l.map jI),dm 274 [ag]] [O7 (QM v)]=some (.bool (decide (v.n∈l.map (·.n))),[O7 (QM v)]):=by
 have a:∃ r,XN (l.map jI) (QM v) ((0:Nat):Int)=some (aP r,[O7 (QM v)])/\decide (0<=r)=zl (fun k=>decide ((l.getD k dV).n=v.n)) l.length:=by
  refine rJ (L:=fun k=>XN (l.map jI) (QM v) (k:Int)) (fun k hk => ?_) ?_
  .rw[aQJ,aK (by rw[aZ]; omega),aI,Ir hk,aKG (bJG _ _),bK (by omega),gD hk dV,aLS]
  grind [aQJ,aF]
 obtain ⟨r,b,c⟩:=a;rw[bGZ,b4K ((bK1 _ _).trans b),c,aAR (fun w:Vr=>decide (w.n=v.n)) l dV];grind
theorem cvc (a:List Vr) (d:a.length<=20000) (b:∀ v,v∈a->v.n.length<=20000):SS.CC 217 [.sl false 4 (a.map jI)] []=bV (IG a):=by
 rw[bEO];unfold IG;rw[aZ,<- yc];congr 1
 refine BG (L:=fun k=>a2Z (a.map jI) (k:Int)) (fun k hk => ?_) ?_
 .have c:(a.take k).length<=20000:=by rw[ve]; omega
  rw[aPC,aK (by rw[aZ]; omega),aI,Ir hk,bK (by omega),gD hk dV];rw[bC (BK _ (b _ (dZ hk))),aK (show (0:Int)<=k by omega),aK (show (k:Int)<=(a.map jI).length by rw[aZ]; omega),Rj,nC,<- a04,aKG (b9O _ c _),bC (aEO _),bC (aEO _)];unfold Zl rP;simp only[MR,st8,zT,st5,y5]
 grind [aPC,aF]
def evE (pre:List nD) (e:nD):Int:=bif !f_ e.n then 7 else bif decide (e.n∈pre.map (·.n)) then 8 else bif decide (e.k<0) then 2 else bif decide (4<e.k) then 2 else bif (e.k != 0)&&e.c then 13 else bif (e.k != 0)&&e.o then 13 else 0
def dE:nD:=⟨[],false,false,false,0⟩
def RP (a:List nD):Int:=bif decide ((32:Int)<(a.length:Int)) then 3 else tY (fun k=>evE (a.take k) (a.getD k dE)) a.length
def yC:List Nm->ai
 | [] => []
 | a::l => .str (bs a) :: .bool true::yC l
def aBC (a b:Nm):m_ none (.str (bs a)) (.str (bs b))=some (decide (a=b)):=by show some ((bs a).data.toList==(bs b).data.toList)=_;rw[show (bs a).data.toList=a from by simp[bs],show (bs b).data.toList=b from by simp[bs]];by_cases h:a=b<;>simp[h]
theorem aU8 (q:Nm):∀ l:List Nm,yz none (yC l) (.str (bs q))=some (if q∈l then some (.bool true) else none)
 | []=>rfl
 | a::l=>by rw[yC,yz,aBC,aU8 q l];grind
def aZX (q:Nm):∀ l:List Nm,uZ none (yC l) (.str (bs q))=true
 | []=>rfl
 | a::l=>by rw[yC,uZ,aZX q l]; rfl
theorem aYY (q:Nm):∀ l:List Nm,pU none (yC l) (.str (bs q)) (.bool true)=yC l
 | []=>rfl
 | a::l=>by rw[yC,pU,aBC,aYY q l];grind
theorem aVG (q:Nm):∀ l:List Nm,∃ b,qR (yC l) (.str (bs q)) (.bool true)=yC b/\∀ x,x∈b↔x=q\/x∈l
 | []=>⟨[q],rfl,by simp⟩
 | a::l=>by
  obtain ⟨b,c,d⟩:=aVG q l;rw[yC,qR,c];split
  .exact ⟨q::a::l,rfl,by simp⟩
  .exact ⟨a::b,rfl,fun x=>by grind⟩
def U7 (l:List nD):ai:=l.foldl (fun L e=>lJ none L (.str (bs e.n)) (.bool true)) []
theorem aUT (q:Nm):∀ l:List Nm,vP none (yC l) (.str (bs q))=decide (q∈l)
 | []=>rfl
 | a::l=>by rw[yC,vP,aBC,aUT q l];grind
def c3Q (q:Nm) (l:List Nm):∃ a,lJ none (yC l) (.str (bs q)) (.bool true)=yC a/\∀ x,x∈a↔x=q\/x∈l:=by
 unfold lJ;rw[aUT];by_cases h:q∈l
 .rw[aK h];exact ⟨l,aYY q l,fun x=>⟨.inr,fun c=>c.elim (fun e=>e▸h) id⟩⟩
 .rw[aU h];exact aVG q l
def aYJ (l:List nD):∀ k,k<=l.length->∃ b,U7 (l.take k)=yC b/\∀ x,x∈b↔x∈(l.take k).map (·.n)
 | 0,_=>⟨[],rfl,by simp⟩
 | k+1,hk=>by
  obtain ⟨b,c,d⟩:=aYJ l k (by omega);have a:k<l.length:=by omega
  obtain ⟨e,f,g⟩:=c3Q (l[k]).n b;refine ⟨e,?_,fun x => ?_⟩
  .rw[NT a];unfold U7 at c ⊢;rw[List.foldl_append,c];exact f
  .rw[g,d,NT a];simp only[pq,DZ,zV,List.map_nil,F8];exact or_comm
theorem b'A (l:List nD) (hk:i<l.length):U7 (l.take (i+1))=lJ none (U7 (l.take i)) (.str (bs l[i].n)) (.bool true):=by rw[NT hk];grind [U7]
theorem bZ (a:List nD) (j:a.length<=20000) (c:∀ e,e∈a->e.n.length<=20000):SS.CC 112 [.sl false 5 (a.map wK)] []=bV (RP a):=by
 rw[bQL];unfold RP;rw[aZ,<- yc];congr 1
 refine BG (L:=fun k=>Xk (a.map wK) (k:Int) (U7 (a.take k))) (fun k hk => ?_) ?_
 .obtain ⟨b,d,f⟩:=aYJ a k (by omega);rw[aSU,aK (by rw[aZ]; omega),P6 hk,bK (by omega),gD hk dE];rw[bC (BK _ (c _ (dZ hk)))];rw[b'A a hk,d];rw[aZX];unfold LW;rw[aU8];have g:decide ((a[k]).n∈(a.take k).map (·.n))=decide ((a[k]).n∈b):=decide_eq_decide.2 (f _).symm;unfold evE;rw[g];simp only[MR,st8,zT,c7I];by_cases h:(a[k]).n∈b;simp_all
  .rw[aX h,aU h];cases i:(a[k]).k != 0 with
   | false=>rfl
   | true =>rfl
 grind [aSU,aF]
def Rk (x:EX) (n:Int):Int×Int:=match SS.CC 43 [A1 (ev x),aP n] [] with
 | some (.tuple [.int _ k,.int _ e],_)=>(k,e)
 | _=>(0,0)
theorem a1P (a:x.Len) (b:0<=w):SS.CC 43 [A1 (ev x),aP w] []=some (.tuple [aP (Rk x w).1,aP (Rk x w).2],[]):=by
 have:∃ k e,SS.CC 43 [A1 (ev x),aP w] []=some (.tuple [aP k,aP e],[]):=by
  by_cases c:w<=16;grind [aM7]
  .rw[aCA,aU (by omega),aK (by omega)];simp
 grind [Rk]
def BU (x:EX) (n a:Int):Int:=bif (Rk x n).2==0 then (bif (Rk x n).1 != a then 16 else 0) else (Rk x n).2
theorem b2M (b:x.Len) (c:0<=w) (a:Int):SS.CC 249 [A1 (ev x),aP w,aP a] []=bV (BU x w a):=by rw[bEP,aJ' (a1P b c)];grind [BU,yc]
theorem b2N (b:x.Len) (c:0<=w) (a:Int):SS.CC 276 [A1 (ev x),aP w,aP a] []=bV (BU x w a):=by rw[bK2,aJ' (a1P b c)];rw[bn (AY _ _)];grind [BU,aF,aI]
def dU:Int×EX:=(0,zE)
def Uu (b:Int) (a:List (Int×EX)) (k:Nat):Int:=bif decide ((a.getD k dU).1<0) then 2 else bif decide (b<=(a.getD k dU).1) then 2 else bif decide ((0:Int)<(k:Int))&&decide ((a.getD k dU).1<=(a.getD (k-1) dU).1) then 5 else BU (a.getD k dU).2 b 1
def Zi (b:Int) (a:List (Int×EX)):Int:=tY (Uu b a) a.length
def PE (a c b:Int) (x:Mv):Int:=bif decide (x.f<0) then 2 else bif decide (a<=x.f) then 2 else bif decide (x.e<0) then 2 else bif decide (c<=x.e) then 2 else bif decide (x.t<0) then 2 else bif decide (a<=x.t) then 2 else sq (BU x.g b 2) (Zi b x.us)
theorem b2R (e:S.length<=20000) (hk:i<S.length) {a:R} (c:X=aB (BU (S[i]).2 w 1 != 0) (bV (BU (S[i]).2 w 1)) a) :
 aB (decide ((S[i]).1<0)) (bV 2) (aB (decide (w<=(S[i]).1)) (bV 2) (aB (decide ((0:Int)<(i:Int))) (ak rX (S.map sW) (i64.wrap ((i:Int)-1)) fun u8=>aB (decide ((S[i]).1<=u8.1)) (bV 5) X) X))=aB (Uu w S i != 0) (bV (Uu w S i)) a:=by
 unfold Uu;simp only[gD hk dU,zT,st5];rw[<- c];cases f:decide ((0:Int)<(i:Int)) with
 | false=>rfl
 | true =>
  have g:0<i:=by grind
  have d:(i:Int)-1=((i-1:Nat):Int):=by omega
  have b:i-1<S.length:=by omega
  rw[wrap64 (by omega) (by omega),d,LQ b,gD b dU];rfl
abbrev jP (t:Tm):Sh.V S6:=(fP t.al,t.L,t.I,fP t.mr,t.vs.map jI,t.ms.map sN,())
def bz (f:e->Y) (l:List e):((l.map f).length:Int)=(l.length:Int):=by rw[aZ]
theorem bZ8 (t:Tm) (x:Mv) (b:x.us.length<=20000) (c:∀ u,u∈x.us->u.2.Len) (k:Int):Xm (bs t.n) (aJ t.ls) (aJ t.es) (jP t) (sU x) 0 k=aB (Zi (t.vs.length:Int) x.us != 0) (bV (Zi (t.vs.length:Int) x.us)) (TA (bs t.n) (aJ t.ls) (aJ t.es) (jP t) (i64.wrap (k+1))):=by
 refine EZ (L:=fun i=>Xm (bs t.n) (aJ t.ls) (aJ t.es) (jP t) (sU x) (i:Int) k) (fun i a => ?_) ?_
 .rw[aT0,aK (show (i:Int)<((sU x).2.2.2.2.2.2.2.1.length:Int) by rw[bz]; omega),LQ a,bz];refine b2R b a ?_;rw[bQN,bz,bK (by omega)];exact bn (b2M (c _ (dZ a)) (by omega) 1)
 grind [aT0,aF]
def dM:Mv:=⟨0,0,0,zE,[]⟩
def Gm (b c d:Int) (a:List Mv):Int:=tY (fun k=>PE b c d (a.getD k dM)) a.length
theorem bZ3 (t:Tm) (h:uz t):TA (bs t.n) (aJ t.ls) (aJ t.es) (jP t) 0=bV (Gm (t.ls.length:Int) (t.es.length:Int) (t.vs.length:Int) t.ms):=by
 refine BG (L:=fun i=>TA (bs t.n) (aJ t.ls) (aJ t.es) (jP t) (i:Int)) (fun i a => ?_) ?_
 .obtain ⟨b,c,d⟩:=h.ms.2 _ (dZ a);rw[aS',aK (show (i:Int)<((jP t).2.2.2.2.2.1.length:Int) by rw[bz]; omega),aI,U1 a,bz,fJ,fJ];rw[bn (b2M b (by omega) 2),bZ8 t _ c d,bK (by have:=h.ms.1; omega),gD a dM];unfold PE;simp only[zT,yL]
 grind [aS',aF]
def rvE (v:Vr):Int:=bif v.n==mM then 7 else bif v.n==pM then 7 else 0
def v_ (a:List Vr):Int:=tY (fun k=>rvE (a.getD k dV)) a.length
def KF (a:List Int):Int:=tY (fun k=>bif a.getD k 0 !=(k:Int) then 6 else 0) a.length
def UA (n:Int):Int:=if (1:Int)>n then 1 else n
def HY (t:Tm):Int:=sq (Ed t.es) (sq (Ed t.ls) (bif (t.al.length:Int) !=(t.es.length:Int) then 6 else sq (KF t.al) (bif t.L !=(t.ls.length:Int) then 4 else bif decide (t.I<0) then 2 else bif decide (UA (t.ls.length:Int)<=t.I) then 2 else sq (OJ t.mr (t.ls.length:Int)) (sq (IG t.vs) (sq (v_ t.vs) (Gm (t.ls.length:Int) (t.es.length:Int) (t.vs.length:Int) t.ms))))))
theorem bZ5 (t:Tm) (h:uz t):Xl (bs t.n) (aJ t.ls) (aJ t.es) (jP t) 0=aB (v_ t.vs != 0) (bV (v_ t.vs)) (bV (Gm (t.ls.length:Int) (t.es.length:Int) (t.vs.length:Int) t.ms)):=by
 refine EZ (L:=fun i=>Xl (bs t.n) (aJ t.ls) (aJ t.es) (jP t) (i:Int)) (fun i a => ?_) ?_
 .rw[aSZ,aK (show (i:Int)<((jP t).2.2.2.2.1.length:Int) by rw[bz]; omega),aI,Ir a,bK (by have:=h.vs.1; omega),gD a dV];rw[EH,tlT,tlF];unfold rvE;simp only[MR,y5]
 grind [aSZ,aF,bZ3]
def bYZ (t:Tm) (h:uz t):Oj (bs t.n) (aJ t.ls) (aJ t.es) (jP t) 0=bV (sq (KF t.al) (bif t.L !=(t.ls.length:Int) then 4 else bif decide (t.I<0) then 2 else bif decide (UA (t.ls.length:Int)<=t.I) then 2 else sq (OJ t.mr (t.ls.length:Int)) (sq (IG t.vs) (sq (v_ t.vs) (Gm (t.ls.length:Int) (t.es.length:Int) (t.vs.length:Int) t.ms))))):=by
 have e:Oj (bs t.n) (aJ t.ls) (aJ t.es) (jP t) 0=aB (KF t.al != 0) (bV (KF t.al)) (bV (bif t.L !=(t.ls.length:Int) then 4 else bif decide (t.I<0) then 2 else bif decide (UA (t.ls.length:Int)<=t.I) then 2 else sq (OJ t.mr (t.ls.length:Int)) (sq (IG t.vs) (sq (v_ t.vs) (Gm (t.ls.length:Int) (t.es.length:Int) (t.vs.length:Int) t.ms))))):=by
  refine EZ (L:=fun i=>Oj (bs t.n) (aJ t.ls) (aJ t.es) (jP t) (i:Int)) (fun i a => ?_) ?_
  .rw[aSY,aK (show (i:Int)<((jP t).1.length:Int) by rw[bz]; omega),aI,LK a,vZ,bK (by have:=h.al; omega),gD a 0];simp only[st6,y5]
  .rw[aSY,aU (show ¬ (t.al.length:Int)<((jP t).1.length:Int) by rw[bz]; omega),fJ];rw[bn (csc t.mr h.mr _),bn (cvc t.vs h.vs.1 fun v hv=>(h.vs.2 v hv).1),bZ5 t h];rw[<- yc,<- yc,<- yc];rw[<- xu (sq (OJ _ _) _),<- xu (Gm _ _ _ _)];rw[yL,yL,yL];rfl
 rw[e,<- xu (sq _ _),yL,xu]
theorem aXL (t:Tm) (l:List Nm) (b:Ai l) (k:Int):Xn (iD t) (aJ l) 0 k=aB (Ed l != 0) (bV (Ed l)) (a5I (iD t) (i64.wrap (k+1))):=by
 refine EZ (L:=fun i=>Xn (iD t) (aJ l) (i:Int) k) (fun i a => ?_) ?_
 .have c:(l.take i).length<=20000:=by rw[ve]; omega
  rw[aT1,aK (by rw[fJ]; omega),aI,yx a,je,aK (show (0:Int)<=i by omega),aK (show (i:Int)<=(aJ l).length by rw[fJ]; omega),Rj,nC,UI,bn (Wn _ c _ (b.2 _ (dZ a))),bK (by omega),gD a []]
 grind [aT1,fJ,aF]
theorem tmc (t:Tm) (h:uz t):SS.CC 167 [A5 (iD t)] []=bV (HY t):=by rw[bR5,aCR,aK (by decide),aI,nK (by decide) rfl,Jz,aXL t _ h.es];rw[aCR,aK (by decide),aI,nK (by decide) rfl,Jz,aXL t _ h.ls];rw[aCR,aU (by decide),aF];have e:=bYZ t h;rw[show Oj (iD t).1 (iD t).2.1 (iD t).2.2.1 ((iD t).2.2.2.1,(iD t).2.2.2.2.1,(iD t).2.2.2.2.2.1,(iD t).2.2.2.2.2.2.1,(iD t).2.2.2.2.2.2.2.1,(iD t).2.2.2.2.2.2.2.2.1,()) 0=_ from e];rw[show ((iD t).2.2.1.length:Int)=(t.es.length:Int) by rw[fJ],yc];grind [HY,yL,xu]
theorem sG (f:e->Nm) (l:List e) (hk:i<l.length):aJ ((l.take i).map f) ++ ([.str (bs (f l[i]))]:ai)=aJ ((l.take (i+1)).map f):=by rw[NT hk,pq,<- H7]; rfl
theorem di (h:a.length<=20000):decide (a.length+1<=aN)=true:=aK (by show a.length+1<=1073741824; omega)
theorem EU (h:i<=20000) (c:C<=20000):decide (i+C<=aN)=true:=aK (by show i+C<=1073741824; omega)
def sH (f:e->Nm) (l:List e) (k:Nat) (h:l.length<=20000):(aJ ((l.take k).map f)).length<=20000:=by rw[fJ,aZ,ve]; omega
def a7V (f:e->Nm) (l:List e) (k:Nat) (h:l.length<=20000):((l.take k).map f).length<=20000:=by rw[aZ,ve]; omega
def UE (l:List Nm):Int:=tY (fun k=>bif !f_ (l.getD k []) then 7 else 0) l.length
def inE (pre:List Ins) (x:Ins):Int:=sq (xB (pre.map (·.n)) x.n) (UE (x.t::x.es))
def dI:Ins:=⟨[],[],[]⟩
def mW (l:List Ins):Int:=tY (fun k=>inE (l.take k) (l.getD k dI)) l.length
theorem bZ4 (P:ai) (n:Int) (a:ai) (l:List Nm) (b:∀ s,s∈l->s.length<=20000) (c:l.length<=40000) (i:Int):Xo P n a (aJ l) ((aJ l).length:Int) 0 i=aB (UE l != 0) (bV (UE l)) (TB P n a (i64.wrap (i+1))):=by
 refine EZ (L:=fun k=>Xo P n a (aJ l) ((aJ l).length:Int) (k:Int) i) (fun k hk => ?_) ?_
 .rw[aT3,aK (by rw[fJ]; omega),aI,yx hk,je,bC (BK _ (b _ (dZ hk))),bK (by omega),gD hk []];simp only[MR,y5]
 grind [aT3,fJ,aF]
theorem bZ0 (l:List Ins) (d:l.length<=40000) (h:∀ x,x∈l->x.n.length<=20000/\x.t.length<=20000/\Ai x.es) (a:l.length<=20000):TB (l.map dN) ((l.map dN).length:Int) [] 0=bV (mW l):=by
 refine BG (L:=fun k=>TB (l.map dN) ((l.map dN).length:Int) (aJ ((l.take k).map (·.n))) (k:Int)) (fun k hk => ?_) ?_
 .obtain ⟨b,e,c⟩:=h _ (dZ hk);rw[aT4,aK (by rw[bz]; omega),aI,BD hk,bn (Wn _ (a7V _ l k a) _ b),aQ (di (sH _ l k a))];rw[aQ (EU (by decide) (by rw[fJ]; exact c.1)),sG (·.n) l hk];rw[show ([.str (bs (l[k]).t)]:ai) ++ aJ (l[k]).es=aJ ((l[k]).t::(l[k]).es) from rfl];rw[bZ4 _ _ _ _ (fun s f=>by grind) (by rw[bT]; omega),bK (by omega),gD hk dI];unfold inE;rw[yL]
 grind [aT4,aF]
theorem KL (l:List Ins) (a:l.length<=20000):SS.CC 76 [.sl false 3 (l.map dN)] []=some (.sl true 3 (l.map dN),[]):=by
 rw[bQH];refine aZD ?_ fun h => ?_
 .rw[show (false==true)=false from rfl,aF,aQ (by rw[aZ]; exact EU (by decide) a)]
 simp_all
theorem bWP (m:Mo) (h:lm m) (a:m.cs.length+m.rs.length<=20000):SS.CC 168 [A0 (aV m)] []=bV (mW (m.cs ++ m.rs)):=by
 have b:(m.cs ++ m.rs).length<=20000:=by rw[aY]; exact a
 rw[bRC,Jk (KL m.cs h.is.1),aQ (by grind [EU])];rw[<- pq];exact bZ0 _ (by omega) h.is.2.2 b
def Zv (l:Nm×Nm):Int:=bif !f_ l.1 then 7 else bif !f_ l.2 then 7 else 0
def dL:Nm×Nm:=([],[])
def Tz (a:List (Nm×Nm)):Int:=tY (fun k=>Zv (a.getD k dL)) a.length
def exE (pre:List qj) (x:qj):Int:=sq (xB (pre.map (·.n)) x.n) (bif (x.ls.length:Int)==0 then 12 else Tz x.ls)
def dX:qj:=⟨[],[]⟩
def NI (l:List qj):Int:=tY (fun k=>exE (l.take k) (l.getD k dX)) l.length
def trE (t:Nm×Int):Int:=bif !f_ t.1 then 7 else bif decide (t.2 < -65536) then 2 else bif decide (65536<t.2) then 2 else 0
def dR:Nm×Int:=([],0)
def Uo (a:List (Nm×Int)):Int:=tY (fun k=>trE (a.getD k dR)) a.length
def EG (b:Int):Int:=bif decide (b < -65536) then 2 else bif decide (65536<b) then 2 else 0
def ctE (pre:List Cst) (x:Cst):Int:=sq (xB (pre.map (·.n)) x.n) (bif (x.ts.length:Int)==0 then 12 else sq (Uo x.ts) (EG x.b))
def dK:Cst:=⟨[],[],0⟩
def Ik (l:List Cst):Int:=tY (fun k=>ctE (l.take k) (l.getD k dK)) l.length
theorem bZ2 (m:Mo) (b:ai) (a:List (Nm×Nm)) (f:a.length<=20000) (c:∀ l,l∈a->l.1.length<=20000/\l.2.length<=20000) (i:Int):Xp (aV m) (a.map yE) b 0 i=aB (Tz a != 0) (bV (Tz a)) (TD (aV m) b (i64.wrap (i+1))):=by
 refine EZ (L:=fun k=>Xp (aV m) (a.map yE) b (k:Int) i) (fun k hk => ?_) ?_
 .obtain ⟨d,e⟩:=c _ (dZ hk);rw[aT8,aK (by rw[bz]; omega),aI,P7 hk,bC (BK _ d)];rw[bC (BK _ e),bK (by omega),gD hk dL];unfold Zv;simp only[MR,y5]
 grind [aT8,aF]
theorem bZ6 (P:ai) (x:Cst) (a:ai) (d:x.ts.length<=20000) (c:∀ l,l∈x.ts->l.1.length<=20000) (i:Int):Xq P (um x) 0 a i=aB (sq (Uo x.ts) (EG x.b) != 0) (bV (sq (Uo x.ts) (EG x.b))) (TC P a (i64.wrap (i+1))):=by
 rw[yL];refine EZ (L:=fun k=>Xq P (um x) (k:Int) a i) (fun k hk => ?_) ?_
 .rw[aTA,aK (show (k:Int)<((um x).2.1.length:Int) by rw[bz]; omega),aI,P8 hk,bC (BK _ (c _ (dZ hk))),bK (by omega),gD hk dR];unfold trE;simp only[MR,zT,y5]
 grind [aTA,aU,aF,EG]
theorem bZ1 (l:List Cst) (a:l.length<=20000) (h:∀ x,x∈l->x.n.length<=20000/\x.ts.length<=20000/\∀ t,t∈x.ts->t.1.length<=20000):TC (l.map oZ) [] 0=bV (Ik l):=by
 refine BG (L:=fun k=>TC (l.map oZ) (aJ ((l.take k).map (·.n))) (k:Int)) (fun k hk => ?_) ?_
 .obtain ⟨b,c,d⟩:=h _ (dZ hk);rw[aT9,aK (by rw[bz]; omega),aI,Ip hk,bn (Wn _ (a7V _ l k a) _ b),aQ (di (sH _ l k a))];grind [sG,bZ6,bK,ctE,yL,b1E]
 grind [aT9,aF]
theorem bZ9 (m:Mo) (h:lm m):TD (aV m) [] 0=bV (sq (NI m.xs) (Ik m.ks)):=by
 rw[<- xu (sq _ _),yL,xu];refine EZ (L:=fun k=>TD (aV m) (aJ ((m.xs.take k).map (·.n))) (k:Int)) (fun k hk => ?_) ?_
 .obtain ⟨a,b,c⟩:=h.xs.2 _ (dZ hk);rw[aTB,aK (show (k:Int)<((aV m).2.2.2.2.2.1.length:Int) by rw[bz]; omega),aI,Gf hk,bn (Wn _ (a7V _ _ k h.xs.1) _ a),aQ (di (sH _ _ k h.xs.1))];rw[sG (·.n) m.xs hk];have e:=bZ2 m (aJ ((m.xs.take (k+1)).map (·.n))) (m.xs[k]).ls b c (k:Int);rw[e,bK (by have:=h.xs.1; omega)];grind [exE,yL,b1E]
 .rw[aTB,aU (show ¬ (m.xs.length:Int)<((aV m).2.2.2.2.2.1.length:Int) by rw[bz]; omega)];exact bZ1 _ h.ks.1 h.ks.2
def cdc (m:Mo) (h:lm m):SS.CC 169 [A0 (aV m)] []=bV (sq (NI m.xs) (Ik m.ks)):=(bRO _).trans (bZ9 m h)
def tpE (pre:List Tm) (t:Tm):Int:=sq (xB (pre.map (·.n)) t.n) (HY t)
def dT:Tm:=⟨[],[],[],[],0,0,[],[],[]⟩
def QC (l:List Tm):Int:=tY (fun k=>tpE (l.take k) (l.getD k dT)) l.length
def Bl (m:Mo):Int:=bif !f_ m.n then 7 else sq (RP m.es) (bif decide ((16:Int)<(m.ts.length:Int)) then 3 else bif decide ((32:Int)<(m.cs.length:Int)) then 3 else bif decide ((32:Int)<(m.rs.length:Int)) then 3 else bif decide ((32:Int)<(m.xs.length:Int)) then 3 else bif decide ((32:Int)<(m.ks.length:Int)) then 3 else sq (QC m.ts) (sq (mW (m.cs ++ m.rs)) (sq (NI m.xs) (Ik m.ks))))
theorem bZ7 (m:Mo) (h:lm m) (a:m.cs.length+m.rs.length<=20000):X6 (aV m) [] 0=bV (sq (QC m.ts) (sq (mW (m.cs ++ m.rs)) (sq (NI m.xs) (Ik m.ks)))):=by
 rw[<- xu (sq (QC _) _),yL,xu];refine EZ (L:=fun k=>X6 (aV m) (aJ ((m.ts.take k).map (·.n))) (k:Int)) (fun k hk => ?_) ?_
 .obtain ⟨b,c⟩:=h.ts.2 _ (dZ hk);rw[aP8,aK (show (k:Int)<((aV m).2.2.1.length:Int) by rw[bz]; omega),aI,Iq hk,bn (Wn _ (a7V _ _ k h.ts.1) _ b),aQ (di (sH _ _ k h.ts.1)),bn (tmc _ c),bK (by have:=h.ts.1; omega)];grind [sG,tpE,yL]
 .rw[aP8,aU (show ¬ (m.ts.length:Int)<((aV m).2.2.1.length:Int) by rw[bz]; omega),aF,bn (bWP m h a),bn (cdc m h)];rw[<- xu (sq (mW _) _),yL,xu]
theorem bY' (m:Mo) (h:lm m) (a:m.cs.length+m.rs.length<=20000):SS.CC 50 [A0 (aV m)] []=bV (Bl m):=by rw[bE7,bC (BK _ h.n),bn (bZ _ h.es.1 h.es.2),bZ7 m h a];grind [Bl,aB,sq]
def fnP (f:FuncId×ai×Int):PV := .func (.func f.1) [] f.2.1
def ZJ:List Int->Int
 | []=>0
 | a::l=>sq a (ZJ l)
def aNX (all:List (FuncId×ai×Int)) (a:all.length<=20000) (h:∀ f,f∈all->SS.CC f.1 f.2.1 []=bV f.2.2/\PV.flats f.2.1=true):∀ (l:List (FuncId×ai×Int)) (k:Nat),all.drop k=l->a5W (all.map fnP) (k:Int)=bV (ZJ (l.map (·.2.2)))
 | [],k,e=>by have:all.length<=k:=NM.1 e;rw[aU1,aU (by rw[bz]; omega)]; rfl
 | f::l,k,e=>by obtain ⟨k1,k2,k3⟩:=drop_cons e;obtain ⟨b,c⟩:=h f (by rw[<- k2]; exact dZ k1);rw[aU1,aK (by rw[bz]; omega),nK (by omega) (by rw[nC,nP,kV k1,k2]; rfl),bK (by omega),aNX all a h l (k+1) k3];show bJ (true&&true) (bJ (PV.flats f.2.1) (kE SS.CC f.1 f.2.1 _))=_;rw[Rj,aQ c,vH b ?_];rw[vZ];show _=bV (sq f.2.2 (ZJ (l.map (·.2.2))));rw[<- xu (sq _ _),yL,xu]
def Rz (all:List (FuncId×ai×Int)) (a:all.length<=20000) (h:∀ f,f∈all->SS.CC f.1 f.2.1 []=bV f.2.2/\PV.flats f.2.1=true):SS.CC 108 [a_ (all.map fnP)] []=bV (ZJ (all.map (·.2.2))):=(bTZ _).trans (aNX all a h all 0 rfl)
theorem lS {L:Nat->R} {E:R} {n:Nat} (a:∀ k,k<n->L k=L (k+1)) (he:L n=E):L 0=E:=by
 have:∀ (m k:Nat),k+m=n->L k=E:=by
  intro m;induction m with
  | zero=>simp_all
  | succ m b=>grind
 simp_all
def ZQ (l:List Nm):Bool:=zl (fun k => !f_ (l.getD k [])) l.length
theorem aLB (l:List Nm) (d:l.length<=40000) (a:∀ s,s∈l->s.length<=20000):SS.CC 126 [a_ (aJ l)] []=some (.bool (!ZQ l),[]):=by
 have e:∃ r,X7 (aJ l) ((0:Nat):Int)=some (aP r,[])/\decide (0<=r)=ZQ l:=by
  refine rJ (L:=fun k=>X7 (aJ l) (k:Int)) (fun k hk => ?_) ?_
  .rw[aPA,aK (by rw[fJ]; omega),aI,yx hk,je,bC ((bHE _).trans (bC (BK _ (a _ (dZ hk))))),bK (by omega),gD hk []]
  grind [aPA,fJ,aF]
 obtain ⟨r,b,c⟩:=e;rw[bUL,bC ((bQG _).trans (bn ((bEG _).trans b))),c]
def b_7 (l:List Nm):UE l=bif ZQ l then 7 else 0:=a0O
def bYM (l:List Nm) (b:Ai l) (hk:i<l.length):SS.CC 118 [a_ (aJ (l.take (i+1)))] []=bV (xB (l.take i) l[i]):=by
 have e:(l.take (i+1)).length=i+1:=by rw[ve]; omega
 have c:i64.wrap (((aJ (l.take (i+1))).length:Int)-1)=(i:Int):=by rw[fJ,wrap64 (by omega) (by omega)]; omega
 have a:i<(l.take (i+1)).length:=by omega
 have d:(l.take (i+1))[i]=l[i]:=by rw[List.getElem_take]
 rw[bUA,c,yx a,d,je,bC (BK _ (b.2 _ (dZ hk))),aK (show (0:Int)<=i by omega),aK (show (i:Int)<=(aJ (l.take (i+1))).length by rw[fJ]; omega),Rj,UI,List.take_take,Nat.min_eq_left (by omega)];rw[bC (a6J _ (by rw[ve]; omega) _),bn (AY _ _),yc];rfl
def pV (n:Nat):List Int:=(List.range n).map fun i:Nat=>(i:Int)
theorem aZS (n:Nat) (b:n<=20000):SS.CC 199 [aP (n:Int)] []=some (a_ (fP (pV n)),[]):=by
 rw[bGS];refine lS (n:=n) (L:=fun k=>Ze (n:Int) (fP (pV k)) (k:Int)) (fun k hk => ?_) ?_
 .have a:(fP (pV k)).length<=20000:=by grind [pV]
  rw[aP',aK (by omega),aI,aQ (di a),bK (by omega)];grind [pV,List.range_succ]
 grind [aP',aF]
theorem aHT (n:Nat):(pV n).length=n:=by grind [pV]
def c4R (h:C<i):(pV i)[C]'(by rw[aHT]; exact h)=(C:Int):=by unfold pV; simp
theorem bA3 (a:List Int) (n:Nat) (f:a.length<=20000):SS.CC 57 [a_ (fP a),a_ (fP (pV n))] []=some (.bool (bif (a.length:Int) !=(n:Int) then false else !zl (fun k=>a.getD k 0 !=(k:Int)) a.length),[]):=by
 rw[aO',bz,bz,aHT];by_cases h:a.length=n
 .have d:((a.length:Int) !=(n:Int))=false:=by simp[h]
  rw[d,aF];have:∀ (m k:Nat),k+m=a.length->X5 (fP a) (fP (pV n)) (k:Int)=some (.bool (!(List.range' k m).any fun k=>a.getD k 0 !=(k:Int)),[]):=by
   intro m;induction m with
   | zero =>grind [a2P,aF]
   | succ m e =>
    intro k hk;have b:k<a.length:=by omega
    have c:k<(pV n).length:=by rw[aHT]; omega
    rw[a2P,aK (by rw[bz]; omega),LK b,vZ,LK c,vZ,c4R (by omega),bK (by omega),e (k+1) (by omega),aJP,B_,gD b 0];cases a[k] !=(k:Int)<;>rfl
  exact this a.length 0 (by omega)
 grind [aI]
theorem b8U (x:Mv) (a:Int) (c:0<=a) (d:x.us.length<=20000) (e:∀ u,u∈x.us->u.2.Len):XG (sU x) a 0=bV (Zi a x.us):=by
 refine BG (L:=fun i=>XG (sU x) a (i:Int)) (fun i b => ?_) ?_
 .rw[aQ2,aK (show (i:Int)<((sU x).2.2.2.2.2.2.2.1.length:Int) by rw[bz]; omega),LQ b];refine b2R d b ?_;rw[bH7,bK (by omega)];exact bn (b2N (e _ (dZ b)) c 1)
 grind [aQ2,aF]
theorem b'Q (t:Tm) (x:Mv) (a:x.g.Len) (b:x.us.length<=20000) (c:∀ u,u∈x.us->u.2.Len):SS.CC 224 [A5 (iD t),A9 (sU x)] []=bV (PE t.L (t.es.length:Int) (t.vs.length:Int) x):=by rw[bHD];rw[fJ,bn (b2N a (by omega) 2),b8U x _ (by omega) b c];grind [PE,yc,sq]
theorem b'R (t:Tm) (h:uz t):SS.CC 221 [.cst (A6 (jP t)),.cst (A5 (iD t))] []=bV (Gm t.L (t.es.length:Int) (t.vs.length:Int) t.ms):=by
 rw[bH0];suffices e:SS.CC 222 [.sl false 8 (jP t).2.2.2.2.2.1,dm 223 [.cst (A5 (iD t)),.cst (A6 (jP t))]] []=bV (Gm t.L (t.es.length:Int) (t.vs.length:Int) t.ms) from bn e
 refine (bH4 _ _ _ _ _ _ _ _ _ _ _ _ _ _ _ _).trans ?_;rw[bz];refine BG (L:=fun i=>a3J _ _ _ _ _ _ _ _ _ _ _ _ _ _ _ (t.ms.length:Int) (i:Int)) (fun i a => ?_) ?_
 .obtain ⟨b,c,d⟩:=h.ms.2 _ (dZ a);rw[aQ0,aK (by omega),bK (by have:=h.ms.1; omega),gD a dM];refine bn ?_;refine (bH6 _ _ _).trans ?_;rw[U1 a];exact bn (b'Q t _ b c d)
 grind [aQ0,aF]
def Ui (a:w≠0):sq (bif d then w else 0) y=bif d then w else y:=by
 cases d with
 | false=>rfl
 | true=>exact aX a
def WN (v:Vr):Bool:=v.n==mM||v.n==pM
theorem c50 (a:List Vr):v_ a=bif zl (fun k=>WN (a.getD k dV)) a.length then 7 else 0:=by rw[<- a0O];grind [v_,rvE,WN]
theorem c4K (a:List Vr) (d:a.length<=20000):SS.CC 219 [.sl false 4 (a.map jI),eu 220] []=some (.bool (zl (fun k=>WN (a.getD k dV)) a.length),[]):=by
 have e:∃ r,XM (a.map jI) ((0:Nat):Int)=some (aP r,[])/\decide (0<=r)=zl (fun k=>WN (a.getD k dV)) a.length:=by
  refine rJ (L:=fun k=>XM (a.map jI) (k:Int)) (fun k hk => ?_) ?_
  .rw[aQI,aK (by rw[bz]; omega),Ir hk,bC ((bG' _).trans (bC (c4I _))),bK (by omega),gD hk dV];rfl
  grind [aQI,aF]
 obtain ⟨r,b,c⟩:=e;rw[bGY,bn ((bJY _).trans b),c]
def eqA (a:List Int) (n:Nat):Bool:=bif (a.length:Int) !=(n:Int) then false else !zl (fun k=>a.getD k 0 !=(k:Int)) a.length
def iE (L I:Int):Int:=bif decide (I<0) then 2 else bif decide (UA L<=I) then 2 else 0
def H_ (t:Tm):List (FuncId×ai×Int) := [(208,[.cst (A5 (iD t))],Ed t.es),(210,[.cst (A5 (iD t))],Ed t.ls),(211,[.cst (A6 (jP t)),.cst (A5 (iD t))],bif !eqA t.al t.es.length then 6 else 0),(212,[.cst (A6 (jP t)),.cst (A5 (iD t))],bif t.L !=(t.ls.length:Int) then 4 else 0),(213,[.cst (A6 (jP t))],iE t.L t.I),(214,[.cst (A6 (jP t))],OJ t.mr t.L),(216,[.cst (A6 (jP t))],IG t.vs),(218,[.cst (A6 (jP t))],v_ t.vs),(221,[.cst (A6 (jP t)),.cst (A5 (iD t))],Gm t.L (t.es.length:Int) (t.vs.length:Int) t.ms)]
def bBD (t:Tm) (h:uz t):∀ f,f∈H_ t->SS.CC f.1 f.2.1 []=bV f.2.2/\PV.flats f.2.1=true:=by
 intro f a;simp only[H_,jy,zW,zX] at a;rcases a with rfl|rfl|rfl|rfl|rfl|rfl|rfl|rfl|rfl
 .exact ⟨(bGH _).trans (bn (nsc _ h.es)),rfl⟩
 .exact ⟨(bGM _).trans (bn (nsc _ h.ls)),rfl⟩
 .refine ⟨(bGN _ _).trans ?_,rfl⟩;rw[fJ,vk (aZS _ h.es.1),bC (bA3 t.al _ h.al),bn (AY _ _)];rfl
 .refine ⟨(bGT _ _).trans ?_,rfl⟩;rw[fJ,bn (AY _ _)]
 .refine ⟨(bGU _).trans ?_,rfl⟩;rw[bn (AY _ _),bn (AY _ _)];rw[yc]; rfl
 .exact ⟨(bGV _).trans (bn (csc _ h.mr _)),rfl⟩
 .exact ⟨(bGW _).trans (bn (cvc _ h.vs.1 fun v hv=>(h.vs.2 v hv).1)),rfl⟩
 .refine ⟨(bGX _).trans ?_,rfl⟩;rw[bC (c4K t.vs h.vs.1),bn (AY _ _),c50]
 .exact ⟨b'R t h,rfl⟩
theorem tmK (t:Tm):ZJ ((H_ t).map (·.2.2))=HY t:=by
 show sq _ (sq _ (sq _ (sq _ (sq _ (sq _ (sq _ (sq _ (sq _ 0))))))))=_;rw[Uh,Ui (by decide),Ui (by decide)];unfold HY;have a:∀ X:Int,(bif !eqA t.al t.es.length then 6 else X)=bif (t.al.length:Int) !=(t.es.length:Int) then 6 else sq (KF t.al) X:=by intro X;unfold eqA KF;rw[a0O,Ui (by decide)];grind
 rw[a];by_cases b:t.L=(t.ls.length:Int)
 .rw[b];unfold iE;cases decide (t.I<0) with
  | true=>rfl
  | false =>rw[FB,FB,Ui (by decide)]
 grind
def c8L (t:Tm) (h:uz t):SS.CC 120 [A5 (iD t)] []=bV (HY t):=by rw[bUC];have e:=Rz (H_ t) (by show 9<=20000; decide) (bBD t h);rw[tmK] at e;exact bn e
theorem b8Z (l:List Ins) (a:l.length<=20000):SS.CC 100 [.sl false 3 (l.map dN),eu 101] []=some (a_ (aJ (l.map (·.n))),[]):=by
 rw[bT3];refine lS (n:=l.length) (L:=fun k=>Zo (l.map dN) (aJ ((l.take k).map (·.n))) (k:Int)) (fun k hk => ?_) ?_
 .rw[aTV,aK (by rw[bz]; omega),aI,BD hk,nR (bT4 _),aQ (di (sH _ l k a)),sG (·.n) l hk,bK (by omega)]
 grind [aTV,aF]
theorem b90 (l:List Tm) (a:l.length<=20000):SS.CC 102 [.sl false 9 (l.map wM),eu 103] []=some (a_ (aJ (l.map (·.n))),[]):=by
 rw[bTC];refine lS (n:=l.length) (L:=fun k=>a5R (l.map wM) (aJ ((l.take k).map (·.n))) (k:Int)) (fun k hk => ?_) ?_
 .rw[aTX,aK (by rw[bz]; omega),aI,Iq hk,nR (bTD _),aQ (di (sH _ l k a)),sG (·.n) l hk,bK (by omega)]
 grind [aTX,aF]
theorem b91 (l:List qj) (a:l.length<=20000):SS.CC 104 [.sl false 2 (l.map wL),eu 105] []=some (a_ (aJ (l.map (·.n))),[]):=by
 rw[bTL];refine lS (n:=l.length) (L:=fun k=>a5T (l.map wL) (aJ ((l.take k).map (·.n))) (k:Int)) (fun k hk => ?_) ?_
 .rw[aTZ,aK (by rw[bz]; omega),aI,Gf hk,nR (bTM _),aQ (di (sH _ l k a)),sG (·.n) l hk,bK (by omega)]
 grind [aTZ,aF]
theorem b8' (l:List Cst) (a:l.length<=20000):SS.CC 106 [.sl false 3 (l.map oZ),eu 107] []=some (a_ (aJ (l.map (·.n))),[]):=by
 rw[bTU];refine lS (n:=l.length) (L:=fun k=>Yd (l.map oZ) (aJ ((l.take k).map (·.n))) (k:Int)) (fun k hk => ?_) ?_
 .rw[aU0,aK (by rw[bz]; omega),aI,Ip hk,nR (bTV _),aQ (di (sH _ l k a)),sG (·.n) l hk,bK (by omega)]
 grind [aU0,aF]
theorem a7K (f:e->Nm) (l:List e) (b:l.length<=20000) (g:∀ x,x∈l->(f x).length<=20000) (hk:i<l.length) :
 bJ (decide (0<=(i64.wrap ((i:Int)+1)))&&decide ((i64.wrap ((i:Int)+1))<=((aJ (l.map f)).length:Int))) (G1 118 [a_ ((aJ (l.map f)).take (i64.wrap ((i:Int)+1)).toNat)] fun c=>some (aP c,[]))=bV (xB ((l.take i).map f) (f l[i])):=by
 have a:i<(l.map f).length:=by rw[aZ]; exact hk
 rw[bK (by omega),aK (by omega),aK (by rw[fJ]; omega),Rj,nC,UI];rw[bn (bYM (l.map f) ⟨by rw[aZ]; exact b,fun s d=>by grind⟩ a),BL,a04]
def c8S (m:Mo) (h:lm m) (hk:i<m.ts.length):SS.CC 116 [aP (i:Int),.cst (a_ (aJ (m.ts.map (·.n)))),.cst (A0 (aV m))] []=bV (tpE (m.ts.take i) m.ts[i]):=by
 have b:=h.ts.2 _ (dZ hk);rw[bU8];have e:=Rz [(117,[.cst (a_ (aJ (m.ts.map (·.n)))),.cst (aP (i:Int))],xB ((m.ts.take i).map (·.n)) (m.ts[i]).n),(119,[.cst (A0 (aV m)),.cst (aP (i:Int))],HY m.ts[i])] (by simp) (by
  intro f a;simp only[jy,zW,zX] at a;rcases a with rfl|rfl
  .exact ⟨(bU9 _ _).trans (a7K (·.n) m.ts h.ts.1 (fun x c=>(h.ts.2 x c).1) hk),rfl⟩
  .refine ⟨(bUB _ _).trans ?_,rfl⟩;rw[Iq hk];exact bn (c8L _ b.2))
 refine (bn e).trans ?_;show bV (sq _ (sq _ 0))=_;rw[Uh]; rfl
theorem tsc (m:Mo) (h:lm m):SS.CC 114 [.cst (A0 (aV m)),.cst (a_ (aJ (m.ts.map (·.n))))] []=bV (QC m.ts):=by
 rw[bU3];suffices e:SS.CC 115 [.sl false 9 (aV m).2.2.1,dm 116 [.cst (a_ (aJ (m.ts.map (·.n)))),.cst (A0 (aV m))]] []=bV (QC m.ts) from bn e
 refine (bU7 _ _ _ _ _ _ _ _ _).trans ?_;rw[bz];refine BG (L:=fun i=>a5X _ _ _ _ _ _ _ _ (m.ts.length:Int) (i:Int)) (fun i a => ?_) ?_
 .rw[aU2,aK (by omega),bK (by have:=h.ts.1; omega),gD a dT];exact bn (c8S m h a)
 grind [aU2,aF]
theorem bWU (l:List Ins) (b:l.length<=20000) (h:∀ x,x∈l->x.n.length<=20000/\x.t.length<=20000/\Ai x.es) (hk:i<l.length):SS.CC 123 [aP (i:Int),.cst (a_ (aJ (l.map (·.n)))),.cst (.sl false 3 (l.map dN))] []=bV (inE (l.take i) l[i]):=by
 obtain ⟨g,j,c⟩:=h _ (dZ hk);rw[bUI];have e:=Rz [(124,[.cst (a_ (aJ (l.map (·.n)))),.cst (aP (i:Int))],xB ((l.take i).map (·.n)) (l[i]).n),(125,[.cst (.sl false 3 (l.map dN)),.cst (aP (i:Int))],UE ((l[i]).t::(l[i]).es))] (by simp) (by
  intro f a;simp only[jy,zW,zX] at a;rcases a with rfl|rfl
  .exact ⟨(bUJ _ _).trans (a7K (·.n) l b (fun x d=>(h x d).1) hk),rfl⟩
  .refine ⟨(bUK _ _).trans ?_,rfl⟩;rw[BD hk,BD hk];rw[aQ (EU (by decide) (by rw[fJ]; exact c.1)),show ([.str (bs (l[i]).t)]:ai) ++ aJ (l[i]).es=aJ ((l[i]).t::(l[i]).es) from rfl];rw[bC (aLB _ (by rw[bT]; omega) (fun s m=>by grind)),bn (AY _ _),b_7,Bool.not_not])
 refine (bn e).trans ?_;show bV (sq _ (sq _ 0))=_;rw[Uh]; rfl
theorem bWV (l:List Ins) (b:l.length<=20000) (h:∀ x,x∈l->x.n.length<=20000/\x.t.length<=20000/\Ai x.es):SS.CC 121 [.cst (.sl false 3 (l.map dN)),.cst (a_ (aJ (l.map (·.n))))] []=bV (mW l):=by
 rw[bUD];suffices e:SS.CC 122 [.sl false 3 (l.map dN),dm 123 [.cst (a_ (aJ (l.map (·.n)))),.cst (.sl false 3 (l.map dN))]] []=bV (mW l) from bn e
 refine (bUH _ _ _).trans ?_;rw[bz];refine BG (L:=fun i=>a5Y _ _ (l.length:Int) (i:Int)) (fun i a => ?_) ?_
 .rw[aU3,aK (by omega),bK (by omega),gD a dI];exact bn (bWU l b h a)
 grind [aU3,aF]
theorem bZC (a:List (Nm×Nm)):Tz a=bif zl (fun k => !f_ (a.getD k dL).1 || !f_ (a.getD k dL).2) a.length then 7 else 0:=by rw[<- a0O];grind [Tz,Zv]
theorem b6O (l:Nm×Nm) (a:l.1.length<=20000) (b:l.2.length<=20000):SS.CC 134 [Jj (vLc l)] []=some (.bool (!f_ l.1 || !f_ l.2),[]):=by have e:=aLB [l.1,l.2] (by simp) (fun s c=>by grind);rw[bUX];refine (bC e).trans ?_;unfold ZQ;rw[aAR (fun s => !f_ s) [l.1,l.2] []];simp
theorem cB5 (m:Mo) (h:lm m) (hk:i<m.xs.length):SS.CC 129 [aP (i:Int),.cst (a_ (aJ (m.xs.map (·.n)))),.cst (A0 (aV m))] []=bV (exE (m.xs.take i) m.xs[i]):=by
 obtain ⟨o,p,d⟩:=h.xs.2 _ (dZ hk);rw[bUR];have e:=Rz [(130,[.cst (a_ (aJ (m.xs.map (·.n)))),.cst (aP (i:Int))],xB ((m.xs.take i).map (·.n)) (m.xs[i]).n),(131,[.cst (A0 (aV m)),.cst (aP (i:Int))],bif ((m.xs[i]).ls.length:Int)==0 then 12 else 0),(132,[.cst (A0 (aV m)),.cst (aP (i:Int))],Tz (m.xs[i]).ls)] (by simp) (by
  intro f c;simp only[jy,zW,zX] at c;rcases c with rfl|rfl|rfl
  .exact ⟨(bUS _ _).trans (a7K (·.n) m.xs h.xs.1 (fun x g=>(h.xs.2 x g).1) hk),rfl⟩
  .refine ⟨(bUT _ _).trans ?_,rfl⟩;rw[Gf hk,bz];exact bn (AY _ _)
  .refine ⟨(bUV _ _).trans ?_,rfl⟩;rw[Gf hk];have e:∃ r,XH ((m.xs[i]).ls.map yE) ((0:Nat):Int)=some (aP r,[])/\decide (0<=r)=zl (fun a => !f_ ((m.xs[i]).ls.getD a dL).1 || !f_ ((m.xs[i]).ls.getD a dL).2) (m.xs[i]).ls.length:=by
    refine rJ (L:=fun a=>XH ((m.xs[i]).ls.map yE) (a:Int)) (fun a b => ?_) ?_
    .obtain ⟨a1,a2⟩:=d _ (dZ b);rw[aQ3,aK (by rw[bz]; omega),aI,P7 b,bC (b6O _ a1 a2),bK (by omega),gD b dL]
    grind [aQ3,aF]
   obtain ⟨r,j,l⟩:=e;rw[bC ((bUW _).trans (bn ((bHI _).trans j))),l,bn (AY _ _),bZC])
 refine (bn e).trans ?_;show bV (sq _ (sq _ (sq _ 0)))=_;rw[Uh,Ui (by decide)]; rfl
theorem xsc (m:Mo) (h:lm m):SS.CC 127 [.cst (A0 (aV m)),.cst (a_ (aJ (m.xs.map (·.n))))] []=bV (NI m.xs):=by
 rw[bUM];suffices e:SS.CC 128 [.sl false 2 (aV m).2.2.2.2.2.1,dm 129 [.cst (a_ (aJ (m.xs.map (·.n)))),.cst (A0 (aV m))]] []=bV (NI m.xs) from bn e
 refine (bUQ _ _ _ _ _ _ _ _ _).trans ?_;rw[bz];refine BG (L:=fun i=>a5Z _ _ _ _ _ _ _ _ (m.xs.length:Int) (i:Int)) (fun i a => ?_) ?_
 .rw[aU4,aK (by omega),bK (by have:=h.xs.1; omega),gD a dX];exact bn (cB5 m h a)
 grind [aU4,aF]
theorem ctc (x:Cst) (d:x.ts.length<=20000) (a:∀ l,l∈x.ts->l.1.length<=20000):SS.CC 140 [xk (um x)] []=bV (bif (x.ts.length:Int)==0 then 12 else sq (Uo x.ts) (EG x.b)):=by
 rw[bV8,bz];have c:(bif decide (x.b < -65536)||decide (65536<x.b) then (2:Int) else 0)=EG x.b:=by grind [EG]
 have e:Xt (um x) 0=bV (sq (Uo x.ts) (EG x.b)):=by
  rw[<- xu (sq _ _),yL,xu];refine EZ (L:=fun k=>Xt (um x) (k:Int)) (fun k hk => ?_) ?_
  .rw[aU6,aK (show (k:Int)<((um x).2.1.length:Int) by rw[bz]; omega),P8 hk,bC (BK _ (a _ (dZ hk))),bC (a'5 _),bK (by omega),gD hk dR];unfold trE;simp only[MR,zT];cases decide ((x.ts[k]).2 < -65536)<;>rfl
  .rw[aU6,aU (show ¬ (x.ts.length:Int)<((um x).2.1.length:Int) by rw[bz]; omega),aF,bC (a'5 _),bn (AY _ _),c]
 rw[e,yc]
def bYJ (m:Mo) (h:lm m) (hk:i<m.ks.length):SS.CC 137 [aP (i:Int),.cst (a_ (aJ (m.ks.map (·.n)))),.cst (A0 (aV m))] []=bV (ctE (m.ks.take i) m.ks[i]):=by
 obtain ⟨j,c,d⟩:=h.ks.2 _ (dZ hk);rw[bV2];have e:=Rz [(138,[.cst (a_ (aJ (m.ks.map (·.n)))),.cst (aP (i:Int))],xB ((m.ks.take i).map (·.n)) (m.ks[i]).n),(139,[.cst (A0 (aV m)),.cst (aP (i:Int))],bif ((m.ks[i]).ts.length:Int)==0 then 12 else sq (Uo (m.ks[i]).ts) (EG (m.ks[i]).b))] (by simp) (by
  intro f a;simp only[jy,zW,zX] at a;rcases a with rfl|rfl
  .exact ⟨(bV3 _ _).trans (a7K (·.n) m.ks h.ks.1 (fun x g=>(h.ks.2 x g).1) hk),rfl⟩
  .refine ⟨(bV4 _ _).trans ?_,rfl⟩;rw[Ip hk];exact bn (ctc _ c d))
 refine (bn e).trans ?_;show bV (sq _ (sq _ 0))=_;rw[Uh]; rfl
theorem ksc (m:Mo) (h:lm m):SS.CC 135 [.cst (A0 (aV m)),.cst (a_ (aJ (m.ks.map (·.n))))] []=bV (Ik m.ks):=by
 rw[bUY];suffices e:SS.CC 136 [.sl false 3 (aV m).2.2.2.2.2.2.1,dm 137 [.cst (a_ (aJ (m.ks.map (·.n)))),.cst (A0 (aV m))]] []=bV (Ik m.ks) from bn e
 refine (bV1 _ _ _ _ _ _ _ _ _).trans ?_;rw[bz];refine BG (L:=fun i=>a5' _ _ _ _ _ _ _ _ (m.ks.length:Int) (i:Int)) (fun i a => ?_) ?_
 .rw[aU5,aK (by omega),bK (by have:=h.ks.1; omega),gD a dK];exact bn (bYJ m h a)
 grind [aU5,aF]
def YR (m:Mo):Int:=bif decide ((16:Int)<(m.ts.length:Int)) then 3 else bif decide ((32:Int)<(m.cs.length:Int)) then 3 else bif decide ((32:Int)<(m.rs.length:Int)) then 3 else bif decide ((32:Int)<(m.xs.length:Int)) then 3 else bif decide ((32:Int)<(m.ks.length:Int)) then 3 else 0
theorem lic (m:Mo):SS.CC 113 [.cst (A0 (aV m))] []=bV (YR m):=by rw[bU2,bn (AY _ _),bn (AY _ _)];grind [yc,YR]
def c7H (m:Mo) (x:Int):sq (YR m) x=bif decide ((16:Int)<(m.ts.length:Int)) then 3 else bif decide ((32:Int)<(m.cs.length:Int)) then 3 else bif decide ((32:Int)<(m.rs.length:Int)) then 3 else bif decide ((32:Int)<(m.xs.length:Int)) then 3 else bif decide ((32:Int)<(m.ks.length:Int)) then 3 else x:=by unfold YR;cases decide ((16:Int)<(m.ts.length:Int))<;>cases decide ((32:Int)<(m.cs.length:Int))<;>cases decide ((32:Int)<(m.rs.length:Int))<;>cases decide ((32:Int)<(m.xs.length:Int))<;>cases decide ((32:Int)<(m.ks.length:Int))<;>rfl
theorem aMG (m:Mo) (h:lm m) (c:m.cs.length+m.rs.length<=20000):SS.CC 33 [A0 (aV m)] []=bV (Bl m):=by
 have a:(m.cs ++ m.rs).length<=20000:=by rw[aY]; exact c
 rw[bH5,Jk (KL m.cs h.is.1),aQ (by grind [EU])];rw[<- pq,vk (b8Z _ a),vk (b90 _ h.ts.1),vk (b91 _ h.xs.1),vk (b8' _ h.ks.1)];have e:=Rz [(109,[.cst (A0 (aV m))],bif !f_ m.n then 7 else 0),(111,[.cst (A0 (aV m))],RP m.es),(113,[.cst (A0 (aV m))],YR m),(114,[.cst (A0 (aV m)),.cst (a_ (aJ (m.ts.map (·.n))))],QC m.ts),(121,[.cst (.sl false 3 ((m.cs ++ m.rs).map dN)),.cst (a_ (aJ ((m.cs ++ m.rs).map (·.n))))],mW (m.cs ++ m.rs)),(127,[.cst (A0 (aV m)),.cst (a_ (aJ (m.xs.map (·.n))))],NI m.xs),(135,[.cst (A0 (aV m)),.cst (a_ (aJ (m.ks.map (·.n))))],Ik m.ks)] (by simp) (by
  intro f b;simp only[jy,zW,zX] at b;rcases b with rfl|rfl|rfl|rfl|rfl|rfl|rfl
  .refine ⟨(bT' _).trans ?_,rfl⟩;rw[bC (BK _ h.n),bn (AY _ _)]
  .exact ⟨(bU1 _).trans (bn (bZ _ h.es.1 h.es.2)),rfl⟩
  .exact ⟨lic m,rfl⟩
  .exact ⟨tsc m h,rfl⟩
  .exact ⟨bWV _ a h.is.2.2,rfl⟩
  .exact ⟨xsc m h,rfl⟩
  .exact ⟨ksc m h,rfl⟩)
 refine (bn e).trans ?_;show bV (sq _ (sq _ (sq _ (sq _ (sq _ (sq _ (sq _ 0)))))))=_;rw[Uh,Ui (by decide),c7H];rfl
section
def XA:KT:=SS.rK Tryz.f22 22 0 []
def bFC:KT:=SS.jK 22 200 0 (cS Tryz.f22 15) XA
def aPM:KT:=aS 0 bFC
def bFT:KT:=SS.lK 22 200 0 [1,3,25,26,27] 0 (cS Tryz.f22 75) aPM
def bFU:KT:=SS.jK 22 200 0 (cS Tryz.f22 971) bFT
def bFV:KT:=aS 1 bFU
def bFW:KT:=SS.jK 22 200 0 (cS Tryz.f22 15563) bFV
def bFX:KT:=aS 2 bFW
def bFY:KT:=SS.jK 22 200 0 (cS Tryz.f22 31) XA
def bFZ:KT:=aS 4 bFY
def bFD:KT:=SS.jK 22 200 0 (cS Tryz.f22 63) XA
def aPK:KT:=aS 6 bFD
def bFE:KT:=SS.lK 22 200 0 [1,3,88,89,90] 0 (cS Tryz.f22 303) aPK
def bFF:KT:=SS.jK 22 200 0 (cS Tryz.f22 3887) bFE
def bFG:KT:=aS 7 bFF
def bFH:KT:=SS.jK 22 200 0 (cS Tryz.f22 127) XA
def aPL:KT:=aS 8 bFH
def bFI:KT:=SS.lK 22 200 0 [1,3,116,117,118] 0 (cS Tryz.f22 607) aPL
def bFJ:KT:=SS.jK 22 200 0 (cS Tryz.f22 7775) bFI
def bFK:KT:=aS 9 bFJ
def bFL:KT:=SS.jK 22 200 0 (cS Tryz.f22 124511) bFK
def bFM:KT:=aS 10 bFL
def bFN:KT:=SS.jK 22 200 0 (cS Tryz.f22 255) XA
def aPN:KT:=aS 12 bFN
def bFO:KT:=SS.lK 22 200 0 [3,153,154,155] 0 (cS Tryz.f22 1215) aPN
def bFP:KT:=SS.jK 22 200 0 (cS Tryz.f22 15551) bFO
def bFQ:KT:=aS 13 bFP
def bFR:KT:=SS.jK 22 200 0 (cS Tryz.f22 249023) bFQ
def bFS:KT:=aS 14 bFR
def Oh (a:Sh.V S0) (c:ai) (b:Int):R:=SS.LL (SS.ae 22 200) 0 [1,3,25,26,27] 0 (cS Tryz.f22 75) aPM ⟨[(1,.cst (A0 a)),(3,.sl true 1 c),(25,.sl false 5 a.2.1),(26,aP (a.2.1.length:Int)),(27,aP b)],[]⟩
def C9 (b:Sh.V S0) (a:Sh.V S4) (d:ai) (e c:Int):R:=SS.LL (SS.ae 22 200) 0 [1,3,5,25,26,27,42,43,44] 1 (cS Tryz.f22 77003) bFX ⟨[(1,.cst (A0 b)),(3,.sl true 1 d),(5,ag),(25,.sl false 5 b.2.1),(26,aP (b.2.1.length:Int)),(27,aP c),(42,.sl true 1 [.bool a.2.1,.bool a.2.2.1,.bool a.2.2.2.1]),(43,aP 3),(44,aP e)],[O4 a]⟩
def Og (a:Sh.V S0) (b:ai) (c:Int):R:=SS.LL (SS.ae 22 200) 0 [1,3,72,73,74] 0 (cS Tryz.f22 151) bFZ ⟨[(1,.cst (A0 a)),(3,.sl true 1 b),(72,.sl false 9 a.2.2.1),(73,aP (a.2.2.1.length:Int)),(74,aP c)],[]⟩
def KZ (d:Sh.V S0) (a:ai) (b:Int) (e:ai) (c:Int):R:=SS.LL (SS.ae 22 200) 0 [1,3,88,89,90] 0 (cS Tryz.f22 303) aPK ⟨[(1,.cst (A0 d)),(3,.sl true 1 e),(88,.sl true 3 a),(89,aP b),(90,aP c)],[]⟩
def a3F (e:Sh.V S0) (a:ai) (b:Int) (f:Sh.V S8) (c:b_) (g:ai) (d:Int):R:=bD (SS.xX 22 200 0) (cS Tryz.f22 62255) bFG ⟨[(1,.cst (A0 e)),(3,.sl true 1 g),(11,ag),(12,.str c),(88,.sl true 3 a),(89,aP b),(90,aP d)],[O8 f]⟩
def Ko (a:Sh.V S0) (b:ai) (c:Int):R:=SS.LL (SS.ae 22 200) 0 [1,3,116,117,118] 0 (cS Tryz.f22 607) aPL ⟨[(1,.cst (A0 a)),(3,.sl true 1 b),(116,.sl false 2 a.2.2.2.2.2.1),(117,aP (a.2.2.2.2.2.1.length:Int)),(118,aP c)],[]⟩
def SL (a:Sh.V S0) (b c:ai) (d e:Int):R:=SS.LL (SS.ae 22 200) 0 [1,3,116,117,118,128,129,130] 0 (cS Tryz.f22 616031) bFM ⟨[(1,.cst (A0 a)),(3,.sl true 1 c),(116,.sl false 2 a.2.2.2.2.2.1),(117,aP (a.2.2.2.2.2.1.length:Int)),(118,aP e),(128,.sl false 2 b),(129,aP (b.length:Int)),(130,aP d)],[]⟩
def Kr (a b:ai) (c:Int):R:=SS.LL (SS.ae 22 200) 0 [3,153,154,155] 0 (cS Tryz.f22 1215) aPN ⟨[(3,.sl true 1 b),(153,.sl false 3 a),(154,aP (a.length:Int)),(155,aP c)],[]⟩
def SN (a:ai) (c:Sh.V jb) (d:ai) (b e:Int):R:=SS.LL (SS.ae 22 200) 0 [3,18,153,154,155,165,166,167] 1 (cS Tryz.f22 1232063) bFS ⟨[(3,.sl true 1 d),(18,ag),(153,.sl false 3 a),(154,aP (a.length:Int)),(155,aP e),(165,.sl false 2 c.2.1),(166,aP (c.2.1.length:Int)),(167,aP b)],[xm c]⟩
def aPU (b:Sh.V S0) (c:ai) (a:Int):Oh b c a=aB (decide (a<(b.2.1.length:Int))) (ak S4 b.2.1 a fun d=>bJ (decide (c.length+2<=aN)) (C9 b d (c ++ ([cEX [101,118,101,110,116],.str d.1]:ai)) 0 a)) (Og b c 0):=ll
def a3G (e:Sh.V S0) (c:Sh.V S4) (b:ai) (d a:Int):C9 e c b d a=aB (decide (d<3)) (dD [.bool c.2.1,.bool c.2.2.1,.bool c.2.2.2.1] d fun g=>vB g fun h=>aB h (dD [cEX [99,111,110,116,114,111,108,108,97,98,108,101],cEX [111,98,115,101,114,118,97,98,108,101],cEX [102,111,114,99,105,98,108,101]] d fun i=>vS i fun j=>bJ (decide (b.length+1<=aN)) (C9 e c (b ++ ([.str j]:ai)) (i64.wrap (d+1)) a)) (C9 e c b (i64.wrap (d+1)) a)) (aB (decide (0<c.2.2.2.2.1)) (G2 74 [aP c.2.2.2.2.1] fun f=>bJ (decide (b.length+2<=aN)) (bJ (decide ((b ++ ([cEX [102,97,117,108,116],.str f]:ai)).length+1<=aN)) (Oh e ((b ++ ([cEX [102,97,117,108,116],.str f]:ai)) ++ ([cEX [59]]:ai)) (i64.wrap (a+1))))) (bJ (decide (b.length+1<=aN)) (Oh e (b ++ ([cEX [59]]:ai)) (i64.wrap (a+1))))):=ll
def aPO (a:Sh.V S0) (c:ai) (d:Int):Og a c d=aB (decide (d<(a.2.2.1.length:Int))) (ak S5 a.2.2.1 d fun e=>G4 75 [A5 e] fun Oy=>bJ (decide (c.length+Oy.length<=aN)) (Og a (c ++ Oy) (i64.wrap (d+1)))) (Ho 76 [.sl false 3 a.2.2.2.1] fun b=>bJ (decide (b.length+a.2.2.2.2.1.length<=aN)) (KZ a (b ++ a.2.2.2.2.1) ((b ++ a.2.2.2.2.1).length:Int) c 0)):=ll
def aPP (d:Sh.V S0) (b:ai) (c:Int) (e:ai) (a:Int):KZ d b c e a=aB (decide (a<c)) (ak S8 b a fun f=>aB (decide ((d.2.2.2.1.length:Int)<=a)) (a3F d b c f ⟨#[114,101,113,117,105,114,101,109,101,110,116]⟩ e a) (a3F d b c f ⟨#[99,111,109,112,111,110,101,110,116]⟩ e a)) (Ko d e 0):=ll
def bFB (h:Sh.V S0) (c:ai) (d:Int) (b:Sh.V S8) (a:b_) (e:ai) (f:Int):a3F h c d b a e f=bJ (decide (e.length+5<=aN)) (G4 77 [a_ b.2.2.1] fun g=>bJ (decide ((e ++ ([.str a,.str b.1,cEX [61],.str b.2.1,cEX [40]]:ai)).length+g.length<=aN)) (bJ (decide (((e ++ ([.str a,.str b.1,cEX [61],.str b.2.1,cEX [40]]:ai)) ++ g).length+2<=aN)) (KZ h c d (((e ++ ([.str a,.str b.1,cEX [61],.str b.2.1,cEX [40]]:ai)) ++ g) ++ ([cEX [41],cEX [59]]:ai)) (i64.wrap (f+1))))):=by kernel_rfl
def aPQ (a:Sh.V S0) (b:ai) (c:Int):Ko a b c=aB (decide (c<(a.2.2.2.2.2.1.length:Int))) (ak lF a.2.2.2.2.2.1 c fun d=>bJ (decide (b.length+2<=aN)) (SL a d.2.1 (b ++ ([cEX [101,120,99,108,117,100,101],.str d.1]:ai)) 0 c)) (Kr a.2.2.2.2.2.2.1 b 0):=ll
def aPR (d:Sh.V S0) (c b:ai) (a e:Int):SL d c b a e=aB (decide (a<(c.length:Int))) (ak Aj c a fun f=>dD [cEX [58],cEX [44]] (if (1:Int)<a then (1:Int) else a) fun g=>vS g fun h=>bJ (decide (b.length+3<=aN)) (SL d c (b ++ ([.str h,.str f.1,.str f.2.1]:ai)) (i64.wrap (a+1)) e)) (bJ (decide (b.length+1<=aN)) (Ko d (b ++ ([cEX [59]]:ai)) (i64.wrap (e+1)))):=ll
def aPS (a b:ai) (c:Int):Kr a b c=aB (decide (c<(a.length:Int))) (ak jb a c fun d=>bJ (decide (b.length+2<=aN)) (SN a d (b ++ ([cEX [108,105,109,105,116],.str d.1]:ai)) 0 c)) (some (a_ b,[])):=ll
def aPT (b:ai) (d:Sh.V jb) (c:ai) (a e:Int):SN b d c a e=aB (decide (a<(d.2.1.length:Int))) (ak Bf d.2.1 a fun h=>dD [cEX [58],cEX [43]] (if (1:Int)<a then (1:Int) else a) fun i=>vS i fun f=>bJ (decide (c.length+1<=aN)) (G7 78 [aP h.2.1] fun l6=>bJ (decide ((c ++ ([.str f]:ai)).length+l6.length<=aN)) (bJ (decide (((c ++ ([.str f]:ai)) ++ l6).length+2<=aN)) (SN b d (((c ++ ([.str f]:ai)) ++ l6) ++ ([cEX [42],.str h.1]:ai)) (i64.wrap (a+1)) e)))) (bJ (decide (c.length+1<=aN)) (G7 78 [aP d.2.2.1] fun g=>bJ (decide ((c ++ ([cEX [60,61]]:ai)).length+g.length<=aN)) (bJ (decide (((c ++ ([cEX [60,61]]:ai)) ++ g).length+1<=aN)) (Kr b (((c ++ ([cEX [60,61]]:ai)) ++ g) ++ ([cEX [59]]:ai)) (i64.wrap (e+1)))))):=ll
def bF' (a0:Sh.V S0):SS.CC 22 [A0 a0] []=Oh a0 [cEX [109,111,100,101,108],.str a0.1,cEX [59]] 0:=cc
def bGO (a0:Sh.V S0):SS.CC 11 [A0 a0] []=G1 33 [A0 a0] fun b=>aB (b != 0) (some (.tuple [cEX [],aP b],[])) (aj 35 [ag,A0 a0] [aG ([],())] fun _ c=>G0 23 [.sl false 5 c.1] fun a=>aB (a.2.1.1 != 0) (some (.tuple [cEX [],aP a.2.1.1],[])) (aB (decide (65536<(a.1.1.size:Int))) (some (.tuple [cEX [],aP 15],[])) (some (.tuple [.str a.1.1,aP 0],[])))):=cc
def bI8 (a0:Sh.V S0):SS.CC 8 [A0 a0] []=G4 22 [A0 a0] fun b=>G2 21 [a_ b,cEX [32]] fun c=>G13 20 [.str c] fun d=>G0 23 [.sl false 5 d.1.1] fun a=>some (.str a.1.1,[]):=cc
def bRP (a1:b_) (a:d_):SS.CC 72 [ag,.str a1] [ql (a,())]=H51 176 [ag] [ql (a,())] fun _ b=>bJ (decide (b.1.length+a1.size<=aN)) (some (.tuple [aP (a1.size:Int),.raw .nilIface],[ql ((b.1 ++ a1.data.toList),())])):=cc
def aCS:KT:=SS.rK Tryz.f75 75 0 []
def bRS:KT:=SS.jK 75 170 0 (cS Tryz.f75 15) aCS
def aTD:KT:=aS 0 bRS
def bRX:KT:=SS.lK 75 170 0 [1,3,23,24,25] 0 (cS Tryz.f75 75) aTD
def bRY:KT:=SS.jK 75 170 0 (cS Tryz.f75 971) bRX
def bRZ:KT:=aS 1 bRY
def bR':KT:=SS.jK 75 170 0 (cS Tryz.f75 63) aCS
def bS0:KT:=aS 2 bR'
def bS3:KT:=SS.jK 75 170 0 (cS Tryz.f75 127) aCS
def aTE:KT:=aS 4 bS3
def bRT:KT:=SS.lK 75 170 0 [1,3,6,95,96,97] 0 (cS Tryz.f75 607) aTE
def bRU:KT:=SS.jK 75 170 0 (cS Tryz.f75 7775) bRT
def aTC:KT:=aS 5 bRU
def bRV:KT:=SS.jK 75 170 0 (cS Tryz.f75 255583) aTC
def bRW:KT:=aS 6 bRV
def Kw (a:Sh.V S5) (c:ai) (b:Int):R:=SS.LL (SS.ae 75 170) 0 [1,3,23,24,25] 0 (cS Tryz.f75 75) aTD ⟨[(1,.cst (A5 a)),(3,.sl true 1 c),(23,a_ a.2.1),(24,aP (a.2.1.length:Int)),(25,aP b)],[]⟩
def a5K (a:Sh.V S5) (c:ai) (d b:Int):R:=bD (SS.xX 75 170 0) (cS Tryz.f75 15563) bRZ ⟨[(1,.cst (A5 a)),(3,.sl true 1 c),(4,aP d),(23,a_ a.2.1),(24,aP (a.2.1.length:Int)),(25,aP b)],[]⟩
def Ol (a:Sh.V S5) (b c:ai) (d:Int):R:=SS.LL (SS.ae 75 170) 0 [1,3,6,56,57,58] 0 (cS Tryz.f75 303) bS0 ⟨[(1,.cst (A5 a)),(3,.sl true 1 b),(6,.sl true 1 c),(56,.sl false 4 a.2.2.2.2.2.2.2.1),(57,aP (a.2.2.2.2.2.2.2.1.length:Int)),(58,aP d)],[]⟩
def IW (a:Sh.V S5) (b:ai) (c:Int) (d:ai):R:=SS.LL (SS.ae 75 170) 0 [1,3,6,95,96,97] 0 (cS Tryz.f75 607) aTE ⟨[(1,.cst (A5 a)),(3,.sl true 1 b),(6,.sl true 1 d),(95,.sl false 8 a.2.2.2.2.2.2.2.2.1),(96,aP (a.2.2.2.2.2.2.2.2.1.length:Int)),(97,aP c)],[]⟩
def a5J (a:Sh.V S5) (b:Sh.V S9) (c d:ai) (e:Int):R:=bD (SS.xX 75 170 0) (cS Tryz.f75 124511) aTC ⟨[(1,.cst (A5 a)),(3,.sl true 1 c),(6,.sl true 1 d),(10,ag),(95,.sl false 8 a.2.2.2.2.2.2.2.2.1),(96,aP (a.2.2.2.2.2.2.2.2.1.length:Int)),(97,aP e)],[O9 b]⟩
def TE (a:Sh.V S5) (c b:ai) (d:Int) (e:ai) (f:Int):R:=SS.LL (SS.ae 75 170) 0 [1,3,6,95,96,97,136,137,138] 0 (cS Tryz.f75 1238623) bRW ⟨[(1,.cst (A5 a)),(3,.sl true 1 c),(6,.sl true 1 e),(95,.sl false 8 a.2.2.2.2.2.2.2.2.1),(96,aP (a.2.2.2.2.2.2.2.2.1.length:Int)),(97,aP f),(136,.sl false 5 b),(137,aP (b.length:Int)),(138,aP d)],[]⟩
def aTI (b:Sh.V S5) (c:ai) (a:Int):Kw b c a=aB (decide (a<(b.2.1.length:Int))) (dD b.2.1 a fun e=>vS e fun d=>bJ (decide (c.length+2<=aN)) (aB (a==b.2.2.2.2.2.1) (bJ (decide ((c ++ ([cEX [108,111,99,97,116,105,111,110],.str d]:ai)).length+1<=aN)) (a5K b ((c ++ ([cEX [108,111,99,97,116,105,111,110],.str d]:ai)) ++ ([cEX [105,110,105,116,105,97,108]]:ai)) a a)) (a5K b (c ++ ([cEX [108,111,99,97,116,105,111,110],.str d]:ai)) a a))) (Ol b c [] 0):=ll
def bRR (c:Sh.V S5) (b:ai) (d a:Int):a5K c b d a=G3 179 [a_ c.2.2.2.2.2.2.1,aP d] fun e=>aB e (bJ (decide (b.length+1<=aN)) (bJ (decide ((b ++ ([cEX [109,97,114,107,101,100]]:ai)).length+1<=aN)) (Kw c ((b ++ ([cEX [109,97,114,107,101,100]]:ai)) ++ ([cEX [59]]:ai)) (i64.wrap (a+1))))) (bJ (decide (b.length+1<=aN)) (Kw c (b ++ ([cEX [59]]:ai)) (i64.wrap (a+1)))):=by kernel_rfl
def aTF (c:Sh.V S5) (b e:ai) (f:Int):Ol c b e f=aB (decide (f<(c.2.2.2.2.2.2.2.1.length:Int))) (ak S7 c.2.2.2.2.2.2.2.1 f fun a=>bJ (decide (e.length+1<=aN)) (bJ (decide (b.length+3<=aN)) (G7 78 [aP a.2.1] fun l6=>bJ (decide ((b ++ ([cEX [118,97,114],.str a.1,cEX [58]]:ai)).length+l6.length<=aN)) (bJ (decide (((b ++ ([cEX [118,97,114],.str a.1,cEX [58]]:ai)) ++ l6).length+1<=aN)) (G7 78 [aP a.2.2.1] fun d=>(fun w=>bJ (decide (w.length+d.length<=aN)) (bJ (decide ((w ++ d).length+1<=aN)) (G7 78 [aP a.2.2.2.1] fun l10=>bJ (decide (((w ++ d) ++ ([cEX [61]]:ai)).length+l10.length<=aN)) (bJ (decide ((((w ++ d) ++ ([cEX [61]]:ai)) ++ l10).length+1<=aN)) (Ol c ((((w ++ d) ++ ([cEX [61]]:ai)) ++ l10) ++ ([cEX [59]]:ai)) (e ++ ([.str a.1]:ai)) (i64.wrap (f+1))))))) (((b ++ ([cEX [118,97,114],.str a.1,cEX [58]]:ai)) ++ l6) ++ ([cEX [46,46]]:ai))))))) (IW c b 0 e):=ll
def aTG (b:Sh.V S5) (c:ai) (d:Int) (f:ai):IW b c d f=aB (decide (d<(b.2.2.2.2.2.2.2.2.1.length:Int))) (ak S9 b.2.2.2.2.2.2.2.2.1 d fun a=>dD b.2.1 a.1 fun g=>vS g fun uA=>dD b.2.2.1 a.2.1 fun h=>vS h fun i=>dD b.2.1 a.2.2.1 fun j=>vS j fun l=>bJ (decide (c.length+4<=aN)) (oM 85 [] fun u16=>G3 52 [A1 (a.2.2.2.1,a.2.2.2.2.1,a.2.2.2.2.2.1,a.2.2.2.2.2.2.1,()),A1 u16] fun m=>(fun w=>aB (!m) (bJ (decide (w.length+1<=aN)) (G7 180 [a_ f,A1 (a.2.2.2.1,a.2.2.2.2.1,a.2.2.2.2.2.1,a.2.2.2.2.2.2.1,()),aP 0] fun e=>bJ (decide ((w ++ ([cEX [119,104,101,110]]:ai)).length+e.length<=aN)) (a5J b a ((w ++ ([cEX [119,104,101,110]]:ai)) ++ e) f d))) (a5J b a w f d)) (c ++ ([cEX [101,100,103,101],.str uA,.str i,.str l]:ai)))) (bJ (decide (c.length+1<=aN)) (some (a_ (c ++ ([cEX [125]]:ai)),[]))):=ll
def bRQ (a:Sh.V S5) (b:Sh.V S9) (c d:ai) (e:Int):a5J a b c d e=TE a c b.2.2.2.2.2.2.2.1 0 d e:=by kernel_rfl
def aTH (f:Sh.V S5) (a e:ai) (b:Int) (c:ai) (g:Int):TE f a e b c g=aB (decide (b<(e.length:Int))) (ak rX e b fun d=>dD [cEX [100,111],cEX [44]] (if (1:Int)<b then (1:Int) else b) fun i=>vS i fun h=>dD c d.1 fun j=>vS j fun Et=>bJ (decide (a.length+3<=aN)) (G7 180 [a_ c,A1 (d.2.1,d.2.2.1,d.2.2.2.1,d.2.2.2.2.1,()),aP 0] fun Oy=>bJ (decide ((a ++ ([.str h,.str Et,cEX [58,61]]:ai)).length+Oy.length<=aN)) (TE f ((a ++ ([.str h,.str Et,cEX [58,61]]:ai)) ++ Oy) e (i64.wrap (b+1)) c g))) (bJ (decide (a.length+1<=aN)) (IW f (a ++ ([cEX [59]]:ai)) (i64.wrap (g+1)) c)):=ll
def bS4 (a0:Sh.V S5):SS.CC 75 [A5 a0] []=G4 77 [a_ a0.2.2.1] fun a=>bJ (decide (3+a.length<=aN)) (bJ (decide ((([cEX [116,101,109,112,108,97,116,101],.str a0.1,cEX [40]]:ai) ++ a).length+2<=aN)) (Kw a0 ((([cEX [116,101,109,112,108,97,116,101],.str a0.1,cEX [40]]:ai) ++ a) ++ ([cEX [41],cEX [123]]:ai)) 0)):=cc
def bS5:KT:=SS.rK Tryz.f77 77 0 []
def bS6:KT:=SS.jK 77 24 0 (cS Tryz.f77 15) bS5
def bS7:KT:=aS 0 bS6
def TF (a b:ai) (c:Int):R:=SS.LL (SS.ae 77 24) 0 [3,6,7,8] 0 (cS Tryz.f77 75) bS7 ⟨[(3,.sl true 1 b),(6,a_ a),(7,aP (a.length:Int)),(8,aP c)],[]⟩
def aTJ (c a:ai) (b:Int):TF c a b=aB (decide (b<(c.length:Int))) (dD c b fun e=>vS e fun d=>aB (decide (0<b)) (bJ (decide (a.length+1<=aN)) (bJ (decide ((a ++ ([cEX [44]]:ai)).length+1<=aN)) (TF c ((a ++ ([cEX [44]]:ai)) ++ ([.str d]:ai)) (i64.wrap (b+1))))) (bJ (decide (a.length+1<=aN)) (TF c (a ++ ([.str d]:ai)) (i64.wrap (b+1))))) (some (a_ a,[])):=ll
def bS8 (a0:ai):SS.CC 77 [a_ a0] []=TF a0 [] 0:=cc
def Xr:KT:=SS.rK Tryz.f35 35 1 []
def bSA:KT:=SS.jK 35 179 1 (cS Tryz.f35 31) Xr
def aTL:KT:=aS 0 bSA
def bSJ:KT:=SS.lK 35 179 1 [2,3,27,28,29] 2 (cS Tryz.f35 151) aTL
def bSK:KT:=SS.jK 35 179 1 (cS Tryz.f35 1943) bSJ
def bSL:KT:=aS 1 bSK
def bSM:KT:=SS.jK 35 179 1 (cS Tryz.f35 31127) bSL
def bSN:KT:=aS 2 bSM
def bSO:KT:=SS.jK 35 179 1 (cS Tryz.f35 63) Xr
def bSP:KT:=aS 4 bSO
def bSB:KT:=SS.jK 35 179 1 (cS Tryz.f35 127) Xr
def aTK:KT:=aS 6 bSB
def bSC:KT:=SS.lK 35 179 1 [2,3,86,87] 2 (cS Tryz.f35 607) aTK
def bSD:KT:=SS.jK 35 179 1 (cS Tryz.f35 7775) bSC
def bSE:KT:=aS 7 bSD
def bSF:KT:=aS 8 bSE
def bSG:KT:=SS.jK 35 179 1 (cS Tryz.f35 255) Xr
def bSH:KT:=aS 10 bSG
def bSI:KT:=aS 12 Xr
def TL (a:Sh.V S0) (c:ai) (b:Int):R:=SS.LL (SS.ae 35 179) 1 [2,3,27,28,29] 2 (cS Tryz.f35 151) aTL ⟨[(2,.ptr 1 0),(3,.cst (A0 a)),(27,.sl false 5 a.2.1),(28,aP (a.2.1.length:Int)),(29,aP b)],[aG (c,()),some [ag]]⟩
def mV (b:Sh.V S0) (d:ai) (a:Sh.V S4) (e c:Int):R:=SS.LL (SS.ae 35 179) 1 [2,3,5,27,28,29,44,45] 3 (cS Tryz.f35 154007) bSN ⟨[(2,.ptr 1 0),(3,.cst (A0 b)),(5,.ptr 2 0),(27,.sl false 5 b.2.1),(28,aP (b.2.1.length:Int)),(29,aP c),(44,A35 (a.2.1,a.2.2.1,a.2.2.2.1,())),(45,aP e)],[aG (d,()),some [ag],O4 a]⟩
def TG (a:Sh.V S0) (b:ai) (c:Int):R:=SS.LL (SS.ae 35 179) 1 [2,3,72,73,74] 2 (cS Tryz.f35 303) bSP ⟨[(2,.ptr 1 0),(3,.cst (A0 a)),(72,.sl false 9 a.2.2.1),(73,aP (a.2.2.1.length:Int)),(74,aP c)],[aG (b,()),some [ag]]⟩
def IX (a:Sh.V S0) (c:ai) (b:Int):R:=SS.LL (SS.ae 35 179) 1 [2,3,86,87] 2 (cS Tryz.f35 607) aTK ⟨[(2,.ptr 1 0),(3,.cst (A0 a)),(86,A34 (a.2.2.2.1,a.2.2.2.2.1,())),(87,aP b)],[aG (c,()),some [ag]]⟩
def BA (a:Sh.V S0) (f:ai) (b:Int) (c:ai) (d e g:Int):R:=SS.LL (SS.ae 35 179) 1 [2,3,10,86,87,91,92,93] 2 (cS Tryz.f35 157279) bSF ⟨[(2,.ptr 1 0),(3,.cst (A0 a)),(10,aP d),(86,A34 (a.2.2.2.1,a.2.2.2.2.1,())),(87,aP e),(91,.sl false 3 c),(92,aP g),(93,aP b)],[aG (f,()),some [ag]]⟩
def TJ (a:Sh.V S0) (b:ai) (c:Int):R:=SS.LL (SS.ae 35 179) 1 [2,3,123,124,125] 2 (cS Tryz.f35 1215) bSH ⟨[(2,.ptr 1 0),(3,.cst (A0 a)),(123,.sl false 2 a.2.2.2.2.2.1),(124,aP (a.2.2.2.2.2.1.length:Int)),(125,aP c)],[aG (b,()),some [ag]]⟩
def TK (b c:ai) (a:Int):R:=SS.LL (SS.ae 35 179) 1 [2,148,149,150] 2 (cS Tryz.f35 1279) bSI ⟨[(2,.ptr 1 0),(148,.sl false 3 b),(149,aP (b.length:Int)),(150,aP a)],[aG (c,()),some [ag]]⟩
theorem aTP (b:Sh.V S0) (c:ai) (a:Int):TL b c a=aB (decide (a<(b.2.1.length:Int))) (ak S4 b.2.1 a fun d=>aj 141 [ag,a_ [cEX [101,118,101,110,116],.str d.1]] [aG (c,())] fun _ e=>mV b e.1 d 0 a) (TG b c 0):=ll
def a5M (d:Sh.V S0) (e:ai) (c:Sh.V S4) (a b:Int):mV d e c a b=aB (decide (a<3)) (bJ (decide (0<=a)&&decide (a<(3:Int))) (aB (a==0) (aB c.2.1 (bJ (decide (0<=a)&&decide (a<(3:Int))) (aB (a==0) (aj 141 [ag,a_ [cEX [99,111,110,116,114,111,108,108,97,98,108,101]]] [aG (e,())] fun _ f=>mV d f.1 c (i64.wrap (a+1)) b) (aB (a==1) (aj 141 [ag,a_ [cEX [111,98,115,101,114,118,97,98,108,101]]] [aG (e,())] fun _ g=>mV d g.1 c (i64.wrap (a+1)) b) (aB (a==2) (aj 141 [ag,a_ [cEX [102,111,114,99,105,98,108,101]]] [aG (e,())] fun _ o=>mV d o.1 c (i64.wrap (a+1)) b) (none))))) (mV d e c (i64.wrap (a+1)) b)) (aB (a==1) (aB c.2.2.1 (bJ (decide (0<=a)&&decide (a<(3:Int))) (aB (a==0) (aj 141 [ag,a_ [cEX [99,111,110,116,114,111,108,108,97,98,108,101]]] [aG (e,())] fun _ u16=>mV d u16.1 c (i64.wrap (a+1)) b) (aB (a==1) (aj 141 [ag,a_ [cEX [111,98,115,101,114,118,97,98,108,101]]] [aG (e,())] fun _ h=>mV d h.1 c (i64.wrap (a+1)) b) (aB (a==2) (aj 141 [ag,a_ [cEX [102,111,114,99,105,98,108,101]]] [aG (e,())] fun _ i=>mV d i.1 c (i64.wrap (a+1)) b) (none))))) (mV d e c (i64.wrap (a+1)) b)) (aB (a==2) (aB c.2.2.2.1 (bJ (decide (0<=a)&&decide (a<(3:Int))) (aB (a==0) (aj 141 [ag,a_ [cEX [99,111,110,116,114,111,108,108,97,98,108,101]]] [aG (e,())] fun _ p=>mV d p.1 c (i64.wrap (a+1)) b) (aB (a==1) (aj 141 [ag,a_ [cEX [111,98,115,101,114,118,97,98,108,101]]] [aG (e,())] fun _ q=>mV d q.1 c (i64.wrap (a+1)) b) (aB (a==2) (aj 141 [ag,a_ [cEX [102,111,114,99,105,98,108,101]]] [aG (e,())] fun _ r=>mV d r.1 c (i64.wrap (a+1)) b) (none))))) (mV d e c (i64.wrap (a+1)) b)) (none))))) (aB (c.2.2.2.2.1 != 0) (aj 141 [ag,a_ [cEX [102,97,117,108,116]]] [aG (e,())] fun _ j=>aj 143 [ag,aP c.2.2.2.2.1] [aG j] fun _ l=>aj 142 [ag,a_ [cEX [59]]] [aG l] fun _ m=>TL d m.1 (i64.wrap (b+1))) (aj 142 [ag,a_ [cEX [59]]] [aG (e,())] fun _ n=>TL d n.1 (i64.wrap (b+1)))):=ll
theorem aTM (a:Sh.V S0) (c:ai) (b:Int):TG a c b=aB (decide (b<(a.2.2.1.length:Int))) (ak S5 a.2.2.1 b fun e=>aj 144 [ag,A5 e] [aG (c,())] fun _ d=>TG a d.1 (i64.wrap (b+1))) (IX a c 0):=ll
def aCT (b:Sh.V S0) (c:ai) (a:Int):IX b c a=aB (decide (a<2)) (bJ (decide (0<=a)&&decide (a<(2:Int))) (aB (a==0) (BA b c 0 b.2.2.2.1 a a (b.2.2.2.1.length:Int)) (aB (a==1) (BA b c 0 b.2.2.2.2.1 a a (b.2.2.2.2.1.length:Int)) (none)))) (TJ b c 0):=ll
def a5L (f:Sh.V S0) (g:ai) (b:Int) (c:ai) (a d h:Int):BA f g b c a d h=aB (decide (b<h)) (ak S8 c b fun e=>bJ (decide (0<=a)&&decide (a<(2:Int))) (aB (a==0) (aj 141 [ag,a_ [cEX [99,111,109,112,111,110,101,110,116],.str e.1]] [aG (g,())] fun _ i=>aj 142 [ag,a_ [cEX [61]]] [aG i] fun _ j=>aj 141 [ag,a_ [.str e.2.1]] [aG j] fun _ l=>aj 145 [ag,a_ e.2.2.1] [aG l] fun _ m=>aj 142 [ag,a_ [cEX [59]]] [aG m] fun _ u32=>BA f u32.1 (i64.wrap (b+1)) c a d h) (aB (a==1) (aj 141 [ag,a_ [cEX [114,101,113,117,105,114,101,109,101,110,116],.str e.1]] [aG (g,())] fun _ p=>aj 142 [ag,a_ [cEX [61]]] [aG p] fun _ u8=>aj 141 [ag,a_ [.str e.2.1]] [aG u8] fun _ n=>aj 145 [ag,a_ e.2.2.1] [aG n] fun _ o=>aj 142 [ag,a_ [cEX [59]]] [aG o] fun _ q=>BA f q.1 (i64.wrap (b+1)) c a d h) (none)))) (IX f g (i64.wrap (d+1))):=ll
theorem aTN (a:Sh.V S0) (c:ai) (b:Int):TJ a c b=aB (decide (b<(a.2.2.2.2.2.1.length:Int))) (ak lF a.2.2.2.2.2.1 b fun d=>aj 141 [ag,a_ [cEX [101,120,99,108,117,100,101],.str d.1]] [aG (c,())] fun _ g=>aj 142 [ag,a_ [cEX [58]]] [aG g] fun _ h=>H28 146 [ag,aP (d.2.1.length:Int),cEX [44],dm 147 [.ptr 1 0,.ptr 2 0]] [aG h,some [ag],zh d] fun _ e i=>aj 142 [ag,a_ [cEX [59]]] [aG e] fun _ f=>TJ a f.1 (i64.wrap (b+1))) (TK a.2.2.2.2.2.2.1 c 0):=ll
theorem aTO (b c:ai) (a:Int):TK b c a=aB (decide (a<(b.length:Int))) (ak jb b a fun d=>aj 141 [ag,a_ [cEX [108,105,109,105,116],.str d.1]] [aG (c,())] fun _ i=>aj 142 [ag,a_ [cEX [58]]] [aG i] fun _ u8=>H29 146 [ag,aP (d.2.1.length:Int),cEX [43],dm 148 [.ptr 1 0,.ptr 2 0]] [aG u8,some [ag],xm d] fun _ e f=>aj 142 [ag,a_ [cEX [60,61]]] [aG e] fun _ j=>aj 143 [ag,aP f.2.2.1] [aG j] fun _ g=>aj 142 [ag,a_ [cEX [59]]] [aG g] fun _ h=>TK b h.1 (i64.wrap (a+1))) (bi [aG (c,())]):=ll
def bSQ (a1:Sh.V S0) (a:ai):SS.CC 35 [ag,A0 a1] [aG (a,())]=aj 141 [ag,a_ [cEX [109,111,100,101,108],.str a1.1]] [aG (a,())] fun _ b=>aj 142 [ag,a_ [cEX [59]]] [aG b] fun _ c=>TL a1 c.1 0:=cc
def bST:KT:=SS.rK Tryz.f23 23 0 []
def bSU:KT:=SS.jK 23 83 0 (cS Tryz.f23 255) bST
def aTQ:KT:=aS 0 bSU
def bSV:KT:=SS.lK 23 83 0 [6,7,8,9,10,23,24,25] 2 (cS Tryz.f23 1215) aTQ
def bSW:KT:=SS.jK 23 83 0 (cS Tryz.f23 15551) bSV
def aTR:KT:=aS 1 bSW
def BB (b:ai) (c:Int) (d:b_) (a:Int) (e:d_) (f:Bool):R:=SS.LL (SS.ae 23 83) 0 [6,7,8,9,10,23,24,25] 2 (cS Tryz.f23 1215) aTQ ⟨[(6,ag),(7,aP c),(8,.ptr 1 0),(9,.str d),(10,dm 79 [.ptr 1 0,ag]),(23,.sl false 5 b),(24,aP (b.length:Int)),(25,aP a)],[ql (e,()),jR (f,())]⟩
def a5N (b:ai) (c:d_) (d:Bool) (e:Sh.V o7) (f:Int) (g:b_) (a:Int):R:=bD (SS.xX 23 83 0) (cS Tryz.f23 117951) aTR ⟨[(6,ag),(7,aP f),(8,.ptr 1 0),(9,.str g),(10,dm 79 [.ptr 1 0,ag]),(12,.ptr 2 0),(23,.sl false 5 b),(24,aP (b.length:Int)),(25,aP a)],[ql (c,()),jR (d,()),O30 e]⟩
def IY (b:ai) (c:d_) (d:Bool) (e:Sh.V o7) (f a:Int):R:=bD (SS.xX 23 83 0) (cS Tryz.f23 249023) aTR ⟨[(6,ag),(7,aP f),(8,.ptr 1 0),(10,dm 79 [.ptr 1 0,ag]),(12,.ptr 2 0),(23,.sl false 5 b),(24,aP (b.length:Int)),(25,aP a)],[ql (c,()),jR (d,()),O30 e]⟩
def aTS (b:ai) (c:Int) (f:b_) (a:Int) (d:d_) (e:Bool):BB b c f a d e=aB (decide (a<(b.length:Int))) (ak o7 b a fun g=>aB (g.2.1.toList==(⟨#[125]⟩:b_).toList) (Qp 79 [ag,.ptr 1 0] [jR (e,()),Dp (d,())] fun _ j u8=>a5N b u8.1 j.1 g (if (0:Int)>(i64.wrap (c-1)) then (0:Int) else (i64.wrap (c-1))) f a) (a5N b d e g c f a)) (Qp 79 [ag,.ptr 1 0] [jR (e,()),Dp (d,())] fun _ l h=>H31 73 [ag] [ql h] fun i u16=>some (.tuple [.str i,aP 0],[])):=ll
def bSR (e:ai) (f:d_) (c:Bool) (b:Sh.V o7) (d:Int) (g:b_) (a:Int):a5N e f c b d g a=aB c (G2 82 [cEX [32,32],aP d] fun s1=>H32 72 [ag,.str s1] [ql (f,())] fun j h=>IY e h.1 c b d a) (aB (!(b.2.1.toList==(⟨#[44]⟩:b_).toList)) (aB (!(b.2.1.toList==(⟨#[59]⟩:b_).toList)) (aB (!(b.2.1.toList==(⟨#[41]⟩:b_).toList)) (aB (!(g.toList==(⟨#[40]⟩:b_).toList)) (H33 80 [ag,.int .u8 32] [ql (f,())] fun i=>IY e i.1 c b d a) (IY e f c b d a)) (IY e f c b d a)) (IY e f c b d a)) (IY e f c b d a)):=by kernel_rfl
def bSS (c:ai) (i:d_) (j:Bool) (b:Sh.V o7) (d a:Int):IY c i j b d a=H32 72 [ag,.str b.2.1] [ql (i,())] fun o e=>aB (b.2.1.toList==(⟨#[123]⟩:b_).toList) (Qp 79 [ag,.ptr 1 0] [jR (false,()),Dp e] fun _ l m=>BB c (i64.wrap (d+1)) b.2.1 (i64.wrap (a+1)) m.1 l.1) (aB (b.2.1.toList==(⟨#[125]⟩:b_).toList) (Qp 79 [ag,.ptr 1 0] [jR (false,()),Dp e] fun _ n f=>BB c d b.2.1 (i64.wrap (a+1)) f.1 n.1) (aB (b.2.1.toList==(⟨#[59]⟩:b_).toList) (Qp 79 [ag,.ptr 1 0] [jR (false,()),Dp e] fun _ g h=>BB c d b.2.1 (i64.wrap (a+1)) h.1 g.1) (BB c d b.2.1 (i64.wrap (a+1)) e.1 false))):=by kernel_rfl
def aTT (a0:ai):SS.CC 23 [.sl false 5 a0] []=G0 45 [.sl false 5 a0] fun a=>aB (a.2.1.1 != 0) (some (.tuple [cEX [],aP a.2.1.1],[])) (Qi 81 [.sl false 5 a0] fun b=>BB b 0 ⟨#[]⟩ 0 [] true):=cc
def bEQ (a0:ai) (a1:Int):SS.CC 179 [a_ a0,aP a1] []=G1 260 [a_ a0,aP a1] fun a=>some (.bool (decide (0<=a)),[]):=cc
def aBV:KT:=SS.rK Tryz.f144 144 1 []
def bF0:KT:=SS.jK 144 157 1 (cS Tryz.f144 255) aBV
def aPF:KT:=aS 0 bF0
def bF3:KT:=SS.lK 144 157 1 [2,3,4,5,30,31,32] 4 (cS Tryz.f144 1215) aPF
def bF4:KT:=SS.jK 144 157 1 (cS Tryz.f144 15551) bF3
def bF5:KT:=aS 1 bF4
def bF6:KT:=SS.jK 144 157 1 (cS Tryz.f144 511) aBV
def bF7:KT:=aS 2 bF6
def bF8:KT:=SS.jK 144 157 1 (cS Tryz.f144 1023) aBV
def aPG:KT:=aS 4 bF8
def bF1:KT:=SS.lK 144 157 1 [2,3,5,97,98,99] 4 (cS Tryz.f144 4863) aPG
def bF2:KT:=SS.jK 144 157 1 (cS Tryz.f144 62207) bF1
def aPE:KT:=aS 5 bF2
def Oe (d:b_) (b e:ai) (a:Sh.V S6) (f g:ai) (c:Int):R:=SS.LL (SS.ae 144 157) 1 [2,3,4,5,30,31,32] 4 (cS Tryz.f144 1215) aPF ⟨[(2,.ptr 1 0),(3,.cst (A5 (d,b,e,a.1,a.2.1,a.2.2.1,a.2.2.2.1,a.2.2.2.2.1,a.2.2.2.2.2.1,()))),(4,.ptr 2 0),(5,.ptr 3 0),(30,a_ b),(31,aP (b.length:Int)),(32,aP c)],[aG (f,()),some [ag],O6 a,ja (g,())]⟩
def a3C (d:b_) (b e:ai) (a:Sh.V S6) (f g:ai) (h c:Int):R:=bD (SS.xX 144 157 1) (cS Tryz.f144 249023) bF5 ⟨[(2,.ptr 1 0),(3,.cst (A5 (d,b,e,a.1,a.2.1,a.2.2.1,a.2.2.2.1,a.2.2.2.2.1,a.2.2.2.2.2.1,()))),(4,.ptr 2 0),(5,.ptr 3 0),(6,aP h),(30,a_ b),(31,aP (b.length:Int)),(32,aP c)],[aG (f,()),some [ag],O6 a,ja (g,())]⟩
def SK (b:b_) (c d:ai) (a:Sh.V S6) (e f:ai) (g:Int):R:=SS.LL (SS.ae 144 157) 1 [2,3,4,5,60,61,62] 4 (cS Tryz.f144 2431) bF7 ⟨[(2,.ptr 1 0),(3,.cst (A5 (b,c,d,a.1,a.2.1,a.2.2.1,a.2.2.2.1,a.2.2.2.2.1,a.2.2.2.2.2.1,()))),(4,.ptr 2 0),(5,.ptr 3 0),(60,.sl false 4 a.2.2.2.2.1),(61,aP (a.2.2.2.2.1.length:Int)),(62,aP g)],[aG (e,()),some [ag],O6 a,ja (f,())]⟩
def IP (c:b_) (d e:ai) (a:Sh.V S6) (f g:ai) (b:Int):R:=SS.LL (SS.ae 144 157) 1 [2,3,5,97,98,99] 4 (cS Tryz.f144 4863) aPG ⟨[(2,.ptr 1 0),(3,.cst (A5 (c,d,e,a.1,a.2.1,a.2.2.1,a.2.2.2.1,a.2.2.2.2.1,a.2.2.2.2.2.1,()))),(5,.ptr 3 0),(97,.sl false 8 a.2.2.2.2.2.1),(98,aP (a.2.2.2.2.2.1.length:Int)),(99,aP b)],[aG (f,()),some [ag],O6 a,ja (g,())]⟩
def a3D (c:b_) (d e:ai) (a:Sh.V S6) (f g:ai) (h:Sh.V S9) (b:Int):R:=bD (SS.xX 144 157 1) (cS Tryz.f144 996095) aPE ⟨[(2,.ptr 1 0),(3,.cst (A5 (c,d,e,a.1,a.2.1,a.2.2.1,a.2.2.2.1,a.2.2.2.2.1,a.2.2.2.2.2.1,()))),(5,.ptr 3 0),(11,.ptr 4 0),(97,.sl false 8 a.2.2.2.2.2.1),(98,aP (a.2.2.2.2.2.1.length:Int)),(99,aP b)],[aG (f,()),some [ag],O6 a,ja (g,()),O9 h]⟩
def a3E (c:b_) (d e:ai) (a:Sh.V S6) (f g:ai) (h:Sh.V S9) (b:Int):R:=bD (SS.xX 144 157 1) (cS Tryz.f144 2044671) aPE ⟨[(2,.ptr 1 0),(3,.cst (A5 (c,d,e,a.1,a.2.1,a.2.2.1,a.2.2.2.1,a.2.2.2.2.1,a.2.2.2.2.2.1,()))),(5,.ptr 3 0),(11,.ptr 4 0),(97,.sl false 8 a.2.2.2.2.2.1),(98,aP (a.2.2.2.2.2.1.length:Int)),(99,aP b)],[aG (f,()),some [ag],O6 a,ja (g,()),O9 h]⟩
theorem aPJ (d:b_) (b e:ai) (c:Sh.V S6) (g f:ai) (a:Int):Oe d b e c g f a=aB (decide (a<(b.length:Int))) (dD b a fun i=>vS i fun j=>aj 141 [ag,a_ [cEX [108,111,99,97,116,105,111,110],.str j]] [aG (g,())] fun _ h=>aB (a==c.2.2.1) (aj 141 [ag,a_ [cEX [105,110,105,116,105,97,108]]] [aG h] fun _ l=>a3C d b e c l.1 f a a) (a3C d b e c h.1 f a a)) (SK d b e c g f 0):=ll
def bEY (c:b_) (d e:ai) (b:Sh.V S6) (f g:ai) (h a:Int):a3C c d e b f g h a=G3 179 [a_ b.2.2.2.1,aP h] fun i=>aB i (aj 141 [ag,a_ [cEX [109,97,114,107,101,100]]] [aG (f,())] fun _ j=>aj 142 [ag,a_ [cEX [59]]] [aG j] fun _ l=>Oe c d e b l.1 g (i64.wrap (a+1))) (aj 142 [ag,a_ [cEX [59]]] [aG (f,())] fun _ m=>Oe c d e b m.1 g (i64.wrap (a+1))):=by kernel_rfl
theorem aPH (d:b_) (e f:ai) (a:Sh.V S6) (g h:ai) (b:Int):SK d e f a g h b=aB (decide (b<(a.2.2.2.2.1.length:Int))) (ak S7 a.2.2.2.2.1 b fun c=>aj 141 [ag,a_ [cEX [118,97,114],.str c.1]] [aG (g,())] fun _ o=>aj 142 [ag,a_ [cEX [58]]] [aG o] fun _ p=>aj 143 [ag,aP c.2.1] [aG p] fun _ i=>aj 142 [ag,a_ [cEX [46,46]]] [aG i] fun _ j=>aj 143 [ag,aP c.2.2.1] [aG j] fun _ q=>aj 142 [ag,a_ [cEX [61]]] [aG q] fun _ l=>aj 143 [ag,aP c.2.2.2.1] [aG l] fun _ m=>aj 142 [ag,a_ [cEX [59]]] [aG m] fun _ n=>SK d e f a n.1 h (i64.wrap (b+1))) (IP d e f a g h 0):=ll
def aPI (g:b_) (c e:ai) (d:Sh.V S6) (h f:ai) (b:Int):IP g c e d h f b=aB (decide (b<(d.2.2.2.2.2.1.length:Int))) (ak S9 d.2.2.2.2.2.1 b fun a=>dD c a.1 fun i=>vS i fun uA=>dD e a.2.1 fun j=>vS j fun l=>dD c a.2.2.1 fun m=>vS m fun n=>aj 141 [ag,a_ [cEX [101,100,103,101],.str uA,.str l,.str n]] [aG (h,())] fun _ u16=>oM 85 [] fun q=>G3 52 [A1 (a.2.2.2.1,a.2.2.2.2.1,a.2.2.2.2.2.1,a.2.2.2.2.2.2.1,()),A1 q] fun r=>aB (!r) (aj 141 [ag,a_ [cEX [119,104,101,110]]] [aG u16] fun _ o=>aj 44 [ag,a_ f,A1 (a.2.2.2.1,a.2.2.2.2.1,a.2.2.2.2.2.1,a.2.2.2.2.2.2.1,()),aP 0] [aG o] fun _ p=>a3D g c e d p.1 f a b) (a3D g c e d u16.1 f a b)) (aj 142 [ag,a_ [cEX [125]]] [aG (h,())] fun _ u32=>bi [aG u32]):=ll
def bEZ (c:b_) (d e:ai) (f:Sh.V S6) (g h:ai) (b:Sh.V S9) (a:Int):a3D c d e f g h b a=aB (decide (0<(b.2.2.2.2.2.2.2.1.length:Int))) (aj 141 [ag,a_ [cEX [100,111]]] [aG (g,())] fun _ i=>a3E c d e f i.1 h b a) (a3E c d e f g h b a):=by kernel_rfl
def bE' (d:b_) (e f:ai) (g:Sh.V S6) (h i:ai) (b:Sh.V S9) (a:Int):a3E d e f g h i b a=H45 146 [ag,aP (b.2.2.2.2.2.2.2.1.length:Int),cEX [44],dm 229 [.ptr 1 0,.ptr 2 0,.ptr 3 0]] [aG (h,()),some [ag],ja (i,()),O9 b] fun _ j l m=>aj 142 [ag,a_ [cEX [59]]] [aG j] fun _ c=>IP d e f g c.1 l.1 (i64.wrap (a+1)):=by kernel_rfl
def bF9 (a1:Sh.V S5) (a:ai):SS.CC 144 [ag,A5 a1] [aG (a,())]=G7 228 [.sl false 4 a1.2.2.2.2.2.2.2.1] fun b=>aj 141 [ag,a_ [cEX [116,101,109,112,108,97,116,101],.str a1.1]] [aG (a,())] fun _ c=>aj 145 [ag,a_ a1.2.2.1] [aG c] fun _ d=>aj 142 [ag,a_ [cEX [123]]] [aG d] fun _ e=>Oe a1.1 a1.2.1 a1.2.2.1 (a1.2.2.2.1,a1.2.2.2.2.1,a1.2.2.2.2.2.1,a1.2.2.2.2.2.2.1,a1.2.2.2.2.2.2.2.1,a1.2.2.2.2.2.2.2.2.1,()) e.1 b 0:=cc
def bFA (a1 a:ai):SS.CC 145 [ag,a_ a1] [aG (a,())]=aj 142 [ag,a_ [cEX [40]]] [aG (a,())] fun _ b=>H46 146 [ag,aP (a1.length:Int),cEX [44],dm 230 [.ptr 1 0,.cst (a_ a1)]] [aG b,some [ag]] fun _ c=>aj 142 [ag,a_ [cEX [41]]] [aG c] fun _ d=>bi [aG d]:=cc
def bG9:KT:=SS.rK Tryz.f146 146 3 []
def bGA:KT:=aS 0 bG9
def XF (b:b_) (c:Int) (d:ai) (e:Sh.V lF) (a:Int):R:=SS.LL (SS.ae 146 23) 3 [0,2,3,9,10] 3 (cS Tryz.f146 9) bGA ⟨[(0,ag),(2,.str b),(3,dm 147 [.ptr 1 0,.ptr 2 0]),(9,aP c),(10,aP a)],[aG (d,()),some [ag],zh e]⟩
theorem aPY (b:b_) (c:Int) (d:ai) (e:Sh.V lF) (a:Int):XF b c d e a=aB (decide (a<c)) (aB (decide (0<a)) (aj 142 [ag,a_ [.str b]] [aG (d,())] fun _ g=>H47 147 [aP a,ag,.ptr 1 0] [some [.ptr 2 0],zh e,aG g] fun _ h i=>XF b c i.1 h (i64.wrap (a+1))) (H47 147 [aP a,ag,.ptr 1 0] [some [.ptr 2 0],zh e,aG (d,())] fun _ j f=>XF b c f.1 j (i64.wrap (a+1)))) (bi [aG (d,()),some [ag],zh e]):=ll
def bGB (a1:Int) (a2:b_) (a:ai) (b:Sh.V lF):SS.CC 146 [ag,aP a1,.str a2,dm 147 [.ptr 1 0,.ptr 2 0]] [aG (a,()),some [ag],zh b]=XF a2 a1 a b 0:=cc
def bG0:KT:=SS.rK Tryz.f146 146 3 []
def bG1:KT:=aS 0 bG0
def XB (b:b_) (c:Int) (d:ai) (e:Sh.V jb) (a:Int):R:=SS.LL (SS.ae 146 23) 3 [0,2,3,9,10] 3 (cS Tryz.f146 9) bG1 ⟨[(0,ag),(2,.str b),(3,dm 148 [.ptr 1 0,.ptr 2 0]),(9,aP c),(10,aP a)],[aG (d,()),some [ag],xm e]⟩
theorem aPV (b:b_) (c:Int) (d:ai) (e:Sh.V jb) (a:Int):XB b c d e a=aB (decide (a<c)) (aB (decide (0<a)) (aj 142 [ag,a_ [.str b]] [aG (d,())] fun _ h=>H48 148 [aP a,ag,.ptr 1 0] [some [.ptr 2 0],xm e,aG h] fun _ i j=>XB b c j.1 i (i64.wrap (a+1))) (H48 148 [aP a,ag,.ptr 1 0] [some [.ptr 2 0],xm e,aG (d,())] fun _ f g=>XB b c g.1 f (i64.wrap (a+1)))) (bi [aG (d,()),some [ag],xm e]):=ll
def bG2 (a1:Int) (a2:b_) (a:ai) (b:Sh.V jb):SS.CC 146 [ag,aP a1,.str a2,dm 148 [.ptr 1 0,.ptr 2 0]] [aG (a,()),some [ag],xm b]=XB a2 a1 a b 0:=cc
def bG3:KT:=SS.rK Tryz.f146 146 4 []
def bG4:KT:=aS 0 bG3
def XC (b:b_) (c:Int) (d e:ai) (f:Sh.V S9) (a:Int):R:=SS.LL (SS.ae 146 23) 4 [0,2,3,9,10] 4 (cS Tryz.f146 9) bG4 ⟨[(0,ag),(2,.str b),(3,dm 229 [.ptr 1 0,.ptr 2 0,.ptr 3 0]),(9,aP c),(10,aP a)],[aG (d,()),some [ag],ja (e,()),O9 f]⟩
theorem aPW (b:b_) (c:Int) (d e:ai) (f:Sh.V S9) (a:Int):XC b c d e f a=aB (decide (a<c)) (aB (decide (0<a)) (aj 142 [ag,a_ [.str b]] [aG (d,())] fun _ i=>H64 229 [aP a,ag,.ptr 1 0,.ptr 2 0] [some [.ptr 3 0],ja (e,()),O9 f,aG i] fun _ j l g=>XC b c g.1 j.1 l (i64.wrap (a+1))) (H64 229 [aP a,ag,.ptr 1 0,.ptr 2 0] [some [.ptr 3 0],ja (e,()),O9 f,aG (d,())] fun _ u16 m h=>XC b c h.1 u16.1 m (i64.wrap (a+1)))) (bi [aG (d,()),some [ag],ja (e,()),O9 f]):=ll
def bG5 (a1:Int) (a2:b_) (a b:ai) (c:Sh.V S9):SS.CC 146 [ag,aP a1,.str a2,dm 229 [.ptr 1 0,.ptr 2 0,.ptr 3 0]] [aG (a,()),some [ag],ja (b,()),O9 c]=XC a2 a1 a b c 0:=cc
def bG6:KT:=SS.rK Tryz.f146 146 2 []
def bG7:KT:=aS 0 bG6
def XD (b:b_) (c:ai) (d:Int) (e:ai) (a:Int):R:=SS.LL (SS.ae 146 23) 2 [0,2,3,9,10] 2 (cS Tryz.f146 9) bG7 ⟨[(0,ag),(2,.str b),(3,dm 230 [.ptr 1 0,.cst (a_ c)]),(9,aP d),(10,aP a)],[aG (e,()),some [ag]]⟩
theorem aPX (c:b_) (b:ai) (d:Int) (e:ai) (a:Int):XD c b d e a=aB (decide (a<d)) (aB (decide (0<a)) (aj 142 [ag,a_ [.str c]] [aG (e,())] fun _ f=>gV 230 [aP a,ag,.cst (a_ b)] [some [.ptr 1 0],aG f] fun _ g=>XD c b d g.1 (i64.wrap (a+1))) (gV 230 [aP a,ag,.cst (a_ b)] [some [.ptr 1 0],aG (e,())] fun _ h=>XD c b d h.1 (i64.wrap (a+1)))) (bi [aG (e,()),some [ag]]):=ll
def bG8 (a1:Int) (a2:b_) (a3 a:ai):SS.CC 146 [ag,aP a1,.str a2,dm 230 [.ptr 1 0,.cst (a_ a3)]] [aG (a,()),some [ag]]=XD a2 a3 a1 a 0:=cc
def bGC (a0:Int) (a:Sh.V lF) (b:ai):SS.CC 147 [aP a0,ag,.ptr 1 0] [some [.ptr 2 0],zh a,aG (b,())]=ak Aj a.2.1 a0 fun c=>ak Aj a.2.1 a0 fun d=>aj 141 [ag,a_ [.str c.1,.str d.2.1]] [aG (b,())] fun _ e=>bi [some [.ptr 2 0],zh a,aG e]:=cc
def bGD (a0:Int) (a:Sh.V jb) (d:ai):SS.CC 148 [aP a0,ag,.ptr 1 0] [some [.ptr 2 0],xm a,aG (d,())]=ak Bf a.2.1 a0 fun e=>aj 143 [ag,aP e.2.1] [aG (d,())] fun _ f=>aj 142 [ag,a_ [cEX [42]]] [aG f] fun _ g=>ak Bf a.2.1 a0 fun b=>aj 141 [ag,a_ [.str b.1]] [aG g] fun _ c=>bi [some [.ptr 2 0],xm a,aG c]:=cc
def bGE (b:Bool) (a:d_):SS.CC 79 [ag,.ptr 1 0] [jR (b,()),Dp (a,())]=aB (!b) (H33 80 [ag,.int .u8 10] [ql (a,())] fun c=>bi [jR (true,()),Dp c]) (bi [jR (b,()),Dp (a,())]):=cc
def bGF (a1:Int) (a:d_):SS.CC 80 [ag,.int .u8 a1] [ql (a,())]=H51 176 [ag] [ql (a,())] fun _ b=>bJ (decide (b.1.length+1<=aN)&&decide ((0:Int)<=a1)&&decide (a1<(256:Int))) (some (.raw .nilIface,[ql ((b.1 ++ [UInt8.ofNat (Int.toNat a1)]),())])):=cc
def bJI:KT:=SS.rK Tryz.f260 260 0 []
def bJJ:KT:=SS.jK 260 19 0 (cS Tryz.f260 7) bJI
def bJK:KT:=aS 0 bJJ
def XK (a:ai) (b c:Int):R:=SS.LL (SS.ae 260 19) 0 [0,1,7,8] 0 (cS Tryz.f260 37) bJK ⟨[(0,a_ a),(1,aP b),(7,aP (a.length:Int)),(8,aP c)],[]⟩
def aQG (b:ai) (c a:Int):XK b c a=aB (decide (a<(b.length:Int))) (dD b a fun d=>vI .i64 d fun e=>aB (c==e) (some (aP a,[])) (XK b c (i64.wrap (a+1)))) (some (aP (-1),[])):=ll
def bJL (a0:ai) (a1:Int):SS.CC 260 [a_ a0,aP a1] []=XK a0 a1 0:=cc
def bJM (a0:ai):SS.CC 228 [.sl false 4 a0] []=G7 277 [.sl false 4 a0,eu 278] fun a=>some (.sl true 1 a,[]):=cc
def bJN (a0:Int) (b:ai) (c:Sh.V S9) (a:ai):SS.CC 229 [aP a0,ag,.ptr 1 0,.ptr 2 0] [some [.ptr 3 0],ja (b,()),O9 c,aG (a,())]=ak rX c.2.2.2.2.2.2.2.1 a0 fun f=>dD b f.1 fun g=>vS g fun h=>aj 141 [ag,a_ [.str h]] [aG (a,())] fun _ i=>aj 142 [ag,a_ [cEX [58,61]]] [aG i] fun _ d=>ak rX c.2.2.2.2.2.2.2.1 a0 fun u16=>aj 44 [ag,a_ b,A1 (u16.2.1,u16.2.2.1,u16.2.2.2.1,u16.2.2.2.2.1,()),aP 0] [aG d] fun _ e=>bi [some [.ptr 3 0],ja (b,()),O9 c,aG e]:=cc
def bJO (a0:Int) (a2 a:ai):SS.CC 230 [aP a0,ag,.cst (a_ a2)] [some [.ptr 1 0],aG (a,())]=dD a2 a0 fun b=>vS b fun c=>aj 141 [ag,a_ [.str c]] [aG (a,())] fun _ d=>bi [some [.ptr 1 0],aG d]:=cc
def bNM:KT:=SS.rK Tryz.f277 277 0 []
def bNN:KT:=SS.jK 277 22 0 (cS Tryz.f277 15) bNM
def bNO:KT:=aS 0 bNN
def V5 (b c:ai) (a:Int):R:=SS.LL (SS.ae 277 22) 0 [1,5,8,9,10] 0 (cS Tryz.f277 75) bNO ⟨[(1,eu 278),(5,.sl true 1 c),(8,.sl false 4 b),(9,aP (b.length:Int)),(10,aP a)],[]⟩
theorem aRT (b c:ai) (a:Int):V5 b c a=aB (decide (a<(b.length:Int))) (ak S7 b a fun d=>G2 278 [A7 d] fun e=>bJ (decide (c.length+1<=aN)) (V5 b (c ++ ([.str e]:ai)) (i64.wrap (a+1)))) (some (.sl true 1 c,[])):=ll
def bNP (a0:ai):SS.CC 277 [.sl false 4 a0,eu 278] []=V5 a0 [] 0:=cc
def bNQ (a0:Sh.V S7):SS.CC 278 [A7 a0] []=some (.str a0.1,[]):=cc
end
theorem b0E {v:Nat->Int}:∀ (m k:Nat),En v k m=0->∀ i,k<=i->i<k+m->v i=0
 | 0,k,_,i,a,b=>by omega
 | m+1,k,h,i,a,b=>by
  rw[En] at h;by_cases hv:v k=0
  .rw[ay hv] at h;by_cases c:i=k;simp_all
   .exact b0E m (k+1) h i (by omega) (by omega)
  omega
theorem Bi (h:tY H i=0) (a:C<i):H C=0:=b0E i 0 h C (Dc _) (by omega)
theorem yK (h:sq w y=0):w=0/\y=0:=by grind [sq]
theorem nU (a:w≠0) (h:(bif d then w else y)=0):d=false/\y=0:=by grind
theorem CO {l:List e} {x:e} (h:x∈l):∃ k,∃ hk:k<l.length,l[k]=x:=aJO h
theorem b2L (a:x.Len) (b:0<=w) (c:w<=16) (h:BU x w y=0):Fd w x/\gB x<=64:=by grind [BU,aM7,a1P]
structure uy (n:Nat) (x:EX):Prop where
 len:x.Len
 fd:Fd (n:Int) x
 sz:gB x<=64
abbrev p_ (v:Int):Prop := -65536<=v/\v<=65536
abbrev Gn (s:Nm):Prop:=f_ s=true
structure VR (t:Tm) (x:Mv):Prop where
 f:0<=x.f/\x.f<t.ls.length
 e:0<=x.e/\x.e<t.es.length
 d:0<=x.t/\x.t<t.ls.length
 g:uy t.vs.length x.g
 us:∀ u,u∈x.us->(0<=u.1/\u.1<t.vs.length)/\uy t.vs.length u.2
structure Df (t:Tm):Prop where
 ls:∀ s,s∈t.ls->Gn s
 es:∀ s,s∈t.es->Gn s
 vs:∀ v,v∈t.vs->Gn v.n/\p_ v.lo/\p_ v.hi/\p_ v.i
 v16:t.vs.length<=16
 ms:∀ x,x∈t.ms->VR t x
structure FD (m:Mo):Prop where
 n:Gn m.n
 es:∀ e,e∈m.es->Gn e.n/\0<=e.k/\e.k<=4
 ts:∀ t,t∈m.ts->Gn t.n/\Df t
 is:∀ x,x∈m.cs ++ m.rs->Gn x.n/\Gn x.t/\∀ s,s∈x.es->Gn s
 xs:∀ x,x∈m.xs->Gn x.n/\x.ls ≠ []/\∀ l,l∈x.ls->Gn l.1/\Gn l.2
 ks:∀ x,x∈m.ks->Gn x.n/\x.ts ≠ []/\p_ x.b/\∀ l,l∈x.ts->Gn l.1/\p_ l.2
theorem b_D (h:(!d)=false):d=true:=by cases d<;>simp_all
theorem Wl (h:xB l m=0):Gn m/\m∉l:=by obtain ⟨a,b⟩:=nU (by decide) h;grind
def aZL (h:Ed l=0):∀ s,s∈l->Gn s:=fun s a=>by obtain ⟨k,hk,e⟩:=CO a;have:=Bi h hk;rw[gD hk,e] at this;exact (Wl this).1
theorem cA8 (h:Zl r Z=0):Gn Z.n/\p_ Z.lo/\p_ Z.hi/\p_ Z.i:=by obtain ⟨a,h⟩:=nU (by decide) h;grind [rP]
theorem b9A (h:IG r=0):r.length<=16/\∀ v,v∈r->Gn v.n/\p_ v.lo/\p_ v.hi/\p_ v.i:=by obtain ⟨a,h⟩:=nU (by decide) h;simp only[aJV] at a;refine ⟨by omega,fun v hv => ?_⟩;grind [CO,Bi,cA8]
theorem b'W (o:D.vs.length<=16) (m:a'.g.Len) (n:∀ u,u∈a'.us->u.2.Len) (h:PE (D.ls.length:Int) (D.es.length:Int) (D.vs.length:Int) a'=0):VR D a':=by obtain ⟨a,h⟩:=nU (by decide) h;obtain ⟨b,h⟩:=nU (by decide) h;obtain ⟨c,h⟩:=nU (by decide) h;obtain ⟨d,h⟩:=nU (by decide) h;obtain ⟨e,h⟩:=nU (by decide) h;obtain ⟨f,h⟩:=nU (by decide) h;obtain ⟨g,h⟩:=yK h;simp only[aJV] at a b c d e f;obtain ⟨j,l⟩:=b2L m (by omega) (by omega) g;refine ⟨⟨by omega,by omega⟩,⟨by omega,by omega⟩,⟨by omega,by omega⟩,⟨m,j,l⟩,fun u i => ?_⟩;obtain ⟨k,hk,e⟩:=CO i;have:=Bi h hk;unfold Uu at this;rw[gD hk,e] at this;obtain ⟨a,h⟩:=nU (by decide) this;obtain ⟨b,h⟩:=nU (by decide) h;obtain ⟨_,h⟩:=nU (by decide) h;simp only[aJV] at a b;obtain ⟨j,l⟩:=b2L (n u i) (by omega) (by omega) h;exact ⟨⟨by omega,by omega⟩,n u i,j,l⟩
theorem bVA (b:uz D) (h:HY D=0):Df D:=by obtain ⟨c,h⟩:=yK h;obtain ⟨d,h⟩:=yK h;obtain ⟨_,h⟩:=nU (by decide) h;obtain ⟨_,h⟩:=yK h;obtain ⟨_,h⟩:=nU (by decide) h;obtain ⟨_,h⟩:=nU (by decide) h;obtain ⟨_,h⟩:=nU (by decide) h;obtain ⟨_,h⟩:=yK h;obtain ⟨f,h⟩:=yK h;obtain ⟨_,h⟩:=yK h;obtain ⟨g,i⟩:=b9A f;refine ⟨aZL d,aZL c,i,g,fun x a => ?_⟩;obtain ⟨k,hk,e⟩:=CO a;have:=Bi h hk;obtain ⟨o1,_,j⟩:=b.ms.2 x a;grind [b'W]
theorem b6Q (h:EG w=0):p_ w:=by obtain ⟨a,h⟩:=nU (by decide) h;grind
theorem a6B (A:lm o) (h:Bl o=0):FD o:=by
 obtain ⟨B,h⟩:=nU (by decide) h;obtain ⟨n,h⟩:=yK h;obtain ⟨_,h⟩:=nU (by decide) h;obtain ⟨_,h⟩:=nU (by decide) h;obtain ⟨_,h⟩:=nU (by decide) h;obtain ⟨_,h⟩:=nU (by decide) h;obtain ⟨_,h⟩:=nU (by decide) h;obtain ⟨C,h⟩:=yK h;obtain ⟨D,h⟩:=yK h;obtain ⟨E,h6⟩:=yK h;obtain ⟨_,n⟩:=nU (by decide) n;refine ⟨b_D B,fun e he => ?_,fun t w => ?_,fun x g => ?_,fun x g => ?_,fun x g => ?_⟩
 .obtain ⟨k,hk,f⟩:=CO he;have:=Bi n hk;obtain ⟨a,h⟩:=nU (by decide) this;grind
 .obtain ⟨k,hk,f⟩:=CO w;have:=Bi C hk;rw[gD hk,f] at this;obtain ⟨a,b⟩:=yK this;exact ⟨(Wl a).1,bVA (A.ts.2 t w).2 b⟩
 .obtain ⟨k,hk,f⟩:=CO g;have:=Bi D hk;rw[gD hk,f] at this;obtain ⟨a,b⟩:=yK this;have y:∀ s,s∈x.t::x.es->Gn s:=fun s r=>by obtain ⟨j,i,z⟩:=CO r;have:=Bi b i;grind
  exact ⟨(Wl a).1,y _ (by simp),fun s r=>y s (by simp[r])⟩
 .obtain ⟨k,hk,f⟩:=CO g;have:=Bi E hk;rw[gD hk,f] at this;obtain ⟨a,b⟩:=yK this;obtain ⟨c,d⟩:=nU (by decide) b;refine ⟨(Wl a).1,fun u=>by rw[u] at c; simp at c,fun l v => ?_⟩;obtain ⟨j,i,z⟩:=CO v;have:=Bi d i;obtain ⟨p,q⟩:=nU (by decide) this;grind
 .obtain ⟨k,hk,f⟩:=CO g;have:=Bi h6 hk;rw[gD hk,f] at this;obtain ⟨a,b⟩:=yK this;obtain ⟨c,d⟩:=nU (by decide) b;obtain ⟨d,e⟩:=yK d;refine ⟨(Wl a).1,fun u=>by rw[u] at c; simp at c,b6Q e,fun l v => ?_⟩;obtain ⟨j,i,z⟩:=CO v;have:=Bi d i;obtain ⟨p,q⟩:=nU (by decide) this;grind
def vK (a:List Nm) (x:EX):List Tok:=open Classical in if h:∃ B,PB a x B/\B.length<=8*gB x then Classical.choose h else []
theorem OX (h:uy l.length x):PB l x (vK l x)/\(vK l x).length<=512:=by have a:=c2P l h.fd;have b:=h.sz;grind [vK]
def iL (s:Tok):List (List Tok)->List Tok
 | [] => []
 | [a]=>a
 | a::b::l=>a ++ s::iL s (b::l)
def xJ (l:List Nm):List Tok:=tS [40]::(iL (tS [44]) (l.map fun s => [tW s]) ++ [tS [41]])
def tu (e:nD):List Tok := [tW [101,118,101,110,116],tW e.n] ++ (if e.c then [tW [99,111,110,116,114,111,108,108,97,98,108,101]] else []) ++ (if e.o then [tW [111,98,115,101,114,118,97,98,108,101]] else []) ++ (if e.f then [tW [102,111,114,99,105,98,108,101]] else []) ++ (if e.k=0 then [] else tW [102,97,117,108,116]::gU e.k) ++ [tS [59]]
def CY (I:Int) (a:List Int) (i:Nat) (s:Nm):List Tok := [tW [108,111,99,97,116,105,111,110],tW s] ++ (if (i:Int)=I then [tW [105,110,105,116,105,97,108]] else []) ++ (if (i:Int)∈a then [tW [109,97,114,107,101,100]] else []) ++ [tS [59]]
def xG (I:Int) (a:List Int):Nat->List Nm->List Tok
 | _,[] => []
 | i,s::l=>CY I a i s ++ xG I a (i+1) l
def qf (v:Vr):List Tok := [tW [118,97,114],tW v.n,tS [58]] ++ gU v.lo ++ [tS [46,46]] ++ gU v.hi ++ [tS [61]] ++ gU v.i ++ [tS [59]]
def lY (a:List Nm) (u:Int×EX):List Tok := [tW (a.getD u.1.toNat []),tS [58,61]] ++ vK a u.2
def nN (t:Tm) (x:Mv):List Tok := [tW [101,100,103,101],tW (t.ls.getD x.f.toNat []),tW (t.es.getD x.e.toNat []),tW (t.ls.getD x.t.toNat [])] ++ (if gX x.g tE then [] else tW [119,104,101,110]::vK (t.vs.map (·.n)) x.g) ++ (if x.us = [] then [] else tW [100,111]::iL (tS [44]) (x.us.map (lY (t.vs.map (·.n))))) ++ [tS [59]]
def mZ (t:Tm):List Tok := [tW [116,101,109,112,108,97,116,101],tW t.n] ++ xJ t.es ++ [tS [123]] ++ xG t.I t.mr 0 t.ls ++ t.vs.flatMap qf ++ t.ms.flatMap (nN t) ++ [tS [125]]
def kJ (w:Nm) (x:Ins):List Tok := [tW w,tW x.n,tS [61],tW x.t] ++ xJ x.es ++ [tS [59]]
abbrev wC:Nm := [99,111,109,112,111,110,101,110,116]
abbrev wR:Nm := [114,101,113,117,105,114,101,109,101,110,116]
def sZ (x:qj):List Tok := [tW [101,120,99,108,117,100,101],tW x.n,tS [58]] ++ iL (tS [44]) (x.ls.map fun l => [tW l.1,tW l.2]) ++ [tS [59]]
def ru (x:Cst):List Tok := [tW [108,105,109,105,116],tW x.n,tS [58]] ++ iL (tS [43]) (x.ts.map fun l=>gU l.2 ++ [tS [42],tW l.1]) ++ [tS [60,61]] ++ gU x.b ++ [tS [59]]
def kw (m:Mo):List Tok := [tW [109,111,100,101,108],tW m.n,tS [59]] ++ m.es.flatMap tu ++ m.ts.flatMap mZ ++ m.cs.flatMap (kJ wC) ++ m.rs.flatMap (kJ wR) ++ m.xs.flatMap sZ ++ m.ks.flatMap ru
def yQ {b:Sh.V S1} {K:RS.F (.g S1) (cZ [.c Am])} (e:SS.CC g a h=some (A1 b,[jS b0])):rW g a h K=K b b0:=dJ e rfl
def aKL {K:RS.F (.ti .i64) (cZ [.c Am])} (e:SS.CC g a h=some (aP w,[jS b0])):H79 g a h K=K w b0:=dJ e rfl
def b3Y {b:Sh.V S0} {K:RS.F (.g S0) R} (e:SS.CC g a []=some (A0 b,[])):G8 g a K=K b:=vH e rfl
def b3V {b:Sh.V S5} {K:RS.F (.g S5) R} (e:SS.CC g a []=some (A5 b,[])):G21 g a K=K b:=vH e rfl
def b3W {K:RS.F (.tl false 4) R} (e:SS.CC g a []=some (.sl false 4 E,[])):Nh g a K=K E:=vH e rfl
section
def bP6 (a0:Sh.V S2):SS.CC 5 [A2 a0] []=aB (decide (4<(a0.2.2.2.2.2.1.length:Int))) iM (aB (decide (8<(a0.2.2.2.2.2.2.1.length:Int))) iM (aB (decide (4<(a0.2.2.2.2.2.2.2.1.length:Int))) iM (aB (decide (4<(a0.2.2.2.2.2.2.2.2.1.length:Int))) iM (G3 15 [.sl false 7 a0.2.2.2.2.2.1,eu 16] fun a=>some (.bool (!a),[]))))):=cc
def Oi:KT:=SS.rK Tryz.f9 9 0 []
def bPW:KT:=SS.jK 9 215 0 (cS Tryz.f9 15) Oi
def bQ4:KT:=aS 0 bPW
def bQ5:KT:=SS.jK 9 215 0 (cS Tryz.f9 63) Oi
def aSJ:KT:=aS 2 bQ5
def bQ6:KT:=SS.lK 9 215 0 [1,2,3,6,46,47,48] 2 (cS Tryz.f9 303) aSJ
def bQ7:KT:=SS.jK 9 215 0 (cS Tryz.f9 3887) bQ6
def aSK:KT:=aS 3 bQ7
def bQ8:KT:=SS.jK 9 215 0 (cS Tryz.f9 127791) aSK
def bQ9:KT:=aS 4 bQ8
def bPX:KT:=SS.jK 9 215 0 (cS Tryz.f9 127) Oi
def aSI:KT:=aS 6 bPX
def bPY:KT:=SS.lK 9 215 0 [1,2,3,6,111,112,113] 2 (cS Tryz.f9 607) aSI
def bPZ:KT:=SS.jK 9 215 0 (cS Tryz.f9 7775) bPY
def bP':KT:=aS 7 bPZ
def bQ0:KT:=SS.jK 9 215 0 (cS Tryz.f9 255583) bP'
def bQ1:KT:=aS 8 bQ0
def bQ2:KT:=SS.jK 9 215 0 (cS Tryz.f9 255) Oi
def bQ3:KT:=aS 10 bQ2
def Xg (a:Sh.V S2) (c:ai) (b:Int) (d:ai):R:=SS.LL (SS.ae 9 215) 0 [1,2,3,22,23,24] 2 (cS Tryz.f9 75) bQ4 ⟨[(1,.cst (A2 a)),(2,ag),(3,.ptr 1 0),(22,.sl false 7 a.2.2.2.2.2.1),(23,aP (a.2.2.2.2.2.1.length:Int)),(24,aP b)],[bU (⟨#[]⟩,[],[],[],[],[],[],()),FU (⟨#[109,111,100,101,108]⟩,c,d,[],[],[],[],())]⟩
def Xc (a:Sh.V S2) (b c:ai):R:=bD (SS.xX 9 215 0) (cS Tryz.f9 15) Oi ⟨[(1,.cst (A2 a)),(2,ag),(3,.ptr 1 0)],[bU (⟨#[]⟩,[],[],[],[],[],[],()),FU (⟨#[109,111,100,101,108]⟩,b,c,[],[],[],[],())]⟩
def QP (a:Sh.V S2) (b c:ai) (d:Int) (e f g:ai):R:=SS.LL (SS.ae 9 215) 0 [1,2,3,6,46,47,48] 2 (cS Tryz.f9 303) aSJ ⟨[(1,.cst (A2 a)),(2,ag),(3,.ptr 1 0),(6,.sl true 1 c),(46,.sl false 3 a.2.2.2.2.2.2.1),(47,aP (a.2.2.2.2.2.2.1.length:Int)),(48,aP d)],[bU (⟨#[]⟩,[],[],[],[],[],[],()),FU (⟨#[109,111,100,101,108]⟩,b,g,e,f,[],[],())]⟩
def Xd (a:Sh.V S2) (c:ai) (b:Sh.V yS) (d:Int) (e f:ai) (g:Int) (h i j:ai) (l:b_):R:=SS.LL (SS.ae 9 215) 0 [1,2,3,6,8,9,46,47,48,70,71] 4 (cS Tryz.f9 619311) bQ9 ⟨[(1,.cst (A2 a)),(2,ag),(3,.ptr 1 0),(6,.sl true 1 f),(8,.ptr 2 0),(9,.ptr 3 0),(46,.sl false 3 a.2.2.2.2.2.2.1),(47,aP (a.2.2.2.2.2.2.1.length:Int)),(48,aP g),(70,aP (i64.wrap (Int.tmod b.2.1 4))),(71,aP d)],[bU (⟨#[]⟩,[],[],[],[],[],[],()),FU (⟨#[109,111,100,101,108]⟩,c,h,i,j,[],[],()),O20 b,dA (l,(strOf ([.int .u8 116,.int .u8 (IntKind.u8.wrap (48+(Int.tmod b.1 3)))]:ai)),e,())]⟩
def Xa (a:Sh.V S2) (b c d e f:ai):R:=bD (SS.xX 9 215 0) (cS Tryz.f9 63) Oi ⟨[(1,.cst (A2 a)),(2,ag),(3,.ptr 1 0),(6,.sl true 1 c)],[bU (⟨#[]⟩,[],[],[],[],[],[],()),FU (⟨#[109,111,100,101,108]⟩,b,d,e,f,[],[],())]⟩
def XZ (a:Sh.V S2) (c:ai) (b:Sh.V yS) (d e f:ai) (g:Int) (h:ai) (i:b_) (j:ai):R:=bD (SS.xX 9 215 0) (cS Tryz.f9 258863) aSK ⟨[(1,.cst (A2 a)),(2,ag),(3,.ptr 1 0),(6,.sl true 1 f),(9,.ptr 3 0),(46,.sl false 3 a.2.2.2.2.2.2.1),(47,aP (a.2.2.2.2.2.2.1.length:Int)),(48,aP g)],[bU (⟨#[]⟩,[],[],[],[],[],[],()),FU (⟨#[109,111,100,101,108]⟩,c,h,d,e,[],[],()),O20 b,dA (i,(strOf ([.int .u8 116,.int .u8 (IntKind.u8.wrap (48+(Int.tmod b.1 3)))]:ai)),j,())]⟩
def Xe (b:Sh.V S2) (c:ai) (a:Int) (d e f g h:ai):R:=SS.LL (SS.ae 9 215) 0 [1,2,3,6,111,112,113] 2 (cS Tryz.f9 607) aSI ⟨[(1,.cst (A2 b)),(2,ag),(3,.ptr 1 0),(6,.sl true 1 e),(111,.sl false 4 b.2.2.2.2.2.2.2.1),(112,aP (b.2.2.2.2.2.2.2.1.length:Int)),(113,aP a)],[bU (⟨#[]⟩,[],[],[],[],[],[],()),FU (⟨#[109,111,100,101,108]⟩,c,f,g,h,d,[],())]⟩
def Xf (b:Sh.V S2) (d:ai) (c:Sh.V Jt) (e:Int) (f:ai) (a:Int) (g h i j:ai) (l:Sh.V lq):R:=SS.LL (SS.ae 9 215) 0 [1,2,3,6,12,13,111,112,113,130,131] 4 (cS Tryz.f9 1238623) bQ1 ⟨[(1,.cst (A2 b)),(2,ag),(3,.ptr 1 0),(6,.sl true 1 f),(12,.ptr 2 0),(13,.ptr 3 0),(111,.sl false 4 b.2.2.2.2.2.2.2.1),(112,aP (b.2.2.2.2.2.2.2.1.length:Int)),(113,aP a),(130,aP (i64.wrap (1+(i64.wrap (Int.tmod c.1 3))))),(131,aP e)],[bU (⟨#[]⟩,[],[],[],[],[],[],()),FU (⟨#[109,111,100,101,108]⟩,d,g,h,i,j,[],()),O21 c,lg l]⟩
def Xb (a:Sh.V S2) (b c d e f g:ai):R:=bD (SS.xX 9 215 0) (cS Tryz.f9 127) Oi ⟨[(1,.cst (A2 a)),(2,ag),(3,.ptr 1 0),(6,.sl true 1 c)],[bU (⟨#[]⟩,[],[],[],[],[],[],()),FU (⟨#[109,111,100,101,108]⟩,b,d,e,f,g,[],())]⟩
def a5G (a b:ai) (c:Int) (d e f g h i:ai):R:=SS.LL (SS.ae 9 215) 0 [2,3,6,168,169,170] 2 (cS Tryz.f9 1215) bQ3 ⟨[(2,ag),(3,.ptr 1 0),(6,.sl true 1 e),(168,.sl false 3 a),(169,aP (a.length:Int)),(170,aP c)],[bU (⟨#[]⟩,[],[],[],[],[],[],()),FU (⟨#[109,111,100,101,108]⟩,b,f,g,h,i,d,())]⟩
def aSQ (b:Sh.V S2) (d:ai) (a:Int) (c:ai):Xg b d a c=aB (decide (a<(b.2.2.2.2.2.1.length:Int))) (ak uK b.2.2.2.2.2.1 a fun e=>aB (a==2) (Xc b d c) (bJ (vF ([.int .u8 116,.int .u8 (IntKind.u8.wrap (48+(IntKind.u8.wrap a)))]:ai)) (G21 25 [.str (strOf ([.int .u8 116,.int .u8 (IntKind.u8.wrap (48+(IntKind.u8.wrap a)))]:ai)),Bd e] fun f=>bJ (decide (c.length+1<=aN)) (Xg b d (i64.wrap (a+1)) (c ++ ([A5 f]:ai)))))) (Xc b d c):=ll
def bPV (a:Sh.V S2) (b c:ai):Xc a b c=QP a b [cEX [99,48]] 0 [] [] c:=by kernel_rfl
def aSL (b:Sh.V S2) (c d:ai) (a:Int) (e f g:ai):QP b c d a e f g=aB (decide (a<(b.2.2.2.2.2.2.1.length:Int))) (ak yS b.2.2.2.2.2.2.1 a fun h=>aB (a==4) (Xa b c d g e f) (bJ (vF ([.int .u8 99,.int .u8 (IntKind.u8.wrap (48+(IntKind.u8.wrap a)))]:ai)) (bJ (vF ([.int .u8 116,.int .u8 (IntKind.u8.wrap (48+(Int.tmod h.1 3)))]:ai)) (Xd b c h 0 [] d a g e f (strOf ([.int .u8 99,.int .u8 (IntKind.u8.wrap (48+(IntKind.u8.wrap a)))]:ai)))))) (Xa b c d g e f):=ll
theorem aSM (g:Sh.V S2) (h:ai) (a:Sh.V yS) (d:Int) (b i:ai) (j:Int) (l e f:ai) (c:b_):Xd g h a d b i j l e f c=aB (decide (d<(i64.wrap (Int.tmod a.2.1 4)))) (bJ (vF ([.int .u8 (IntKind.u8.wrap (97+(Int.tmod (IntKind.u8.wrap (a.2.2.1+(IntKind.u8.wrap d))) 6)))]:ai)) (bJ (decide (b.length+1<=aN)) (Xd g h a (i64.wrap (d+1)) (b ++ ([.str (strOf ([.int .u8 (IntKind.u8.wrap (97+(Int.tmod (IntKind.u8.wrap (a.2.2.1+(IntKind.u8.wrap d))) 6)))]:ai))]:ai)) i j l e f c))) (aB (decide (a.1<128)) (bJ (decide (e.length+1<=aN)) (XZ g h a (e ++ ([A8 (c,(strOf ([.int .u8 116,.int .u8 (IntKind.u8.wrap (48+(Int.tmod a.1 3)))]:ai)),b,())]:ai)) f i j l c b)) (bJ (decide (f.length+1<=aN)) (XZ g h a e (f ++ ([A8 (c,(strOf ([.int .u8 116,.int .u8 (IntKind.u8.wrap (48+(Int.tmod a.1 3)))]:ai)),b,())]:ai)) i j l c b))):=ll
def bPT (a:Sh.V S2) (b c d e f:ai):Xa a b c d e f=Xe a b 0 [] c d e f:=by kernel_rfl
def aSH (b:Sh.V S2) (c:ai) (i:Sh.V yS) (d e a:ai) (f:Int) (g:ai) (h:b_) (j:ai):XZ b c i d e a f g h j=bJ (decide (a.length+1<=aN)) (QP b c (a ++ ([.str h]:ai)) (i64.wrap (f+1)) d e g):=by kernel_rfl
def aSN (b:Sh.V S2) (c:ai) (a:Int) (d e f g h:ai):Xe b c a d e f g h=aB (decide (a<(b.2.2.2.2.2.2.2.1.length:Int))) (ak Jt b.2.2.2.2.2.2.2.1 a fun i=>aB (a==2) (Xb b c e f g h d) (bJ (vF ([.int .u8 101,.int .u8 (IntKind.u8.wrap (48+(IntKind.u8.wrap a)))]:ai)) (Xf b c i 0 e a f g h d ((strOf ([.int .u8 101,.int .u8 (IntKind.u8.wrap (48+(IntKind.u8.wrap a)))]:ai)),[],())))) (Xb b c e f g h d):=ll
theorem aSO (g:Sh.V S2) (h:ai) (a:Sh.V Jt) (c:Int) (d:ai) (b:Int) (i j l f:ai) (e:Sh.V lq):Xf g h a c d b i j l f e=aB (decide (c<(i64.wrap (1+(i64.wrap (Int.tmod a.1 3)))))) (bJ (decide (0<=(i64.wrap (1+c)))&&decide ((i64.wrap (1+c))<(4:Int))) (J3 [.int .u8 a.1,.int .u8 a.2.1,.int .u8 a.2.2.1,.int .u8 a.2.2.2.1] (0+(i64.wrap (1+c)).toNat*1) fun n=>vI .u8 n fun o=>bJ (!((d.length:Int)==0)) (dD d (Int.tmod (i64.wrap o) (d.length:Int)) fun p=>vS p fun q=>bJ (decide (0<=(i64.wrap (3-c)))&&decide ((i64.wrap (3-c))<(4:Int))) (J3 [.int .u8 a.1,.int .u8 a.2.1,.int .u8 a.2.2.1,.int .u8 a.2.2.2.1] (0+(i64.wrap (3-c)).toNat*1) fun r=>vI .u8 r fun m=>bJ (vF ([.int .u8 108,.int .u8 (IntKind.u8.wrap (48+(Int.tmod m 5)))]:ai)) (bJ (decide (e.2.1.length+1<=aN)) (Xf g h a (i64.wrap (c+1)) d b i j l f (e.1,(e.2.1 ++ ([Jj (q,(strOf ([.int .u8 108,.int .u8 (IntKind.u8.wrap (48+(Int.tmod m 5)))]:ai)),())]:ai)),()))))))) (bJ (decide (f.length+1<=aN)) (Xe g h (i64.wrap (b+1)) (f ++ ([Ag e]:ai)) d i j l)):=ll
def bPU (a:Sh.V S2) (b c d e f g:ai):Xb a b c d e f g=a5G a.2.2.2.2.2.2.2.2.1 b 0 [] c d e f g:=by kernel_rfl
def aSP (a e:ai) (b:Int) (c d f g h i:ai):a5G a e b c d f g h i=aB (decide (b<(a.length:Int))) (ak Vl a b fun j=>aB (b==2) (some (A0 (⟨#[109,111,100,101,108]⟩,e,f,g,h,i,c,()),[])) (bJ (vF ([.int .u8 107,.int .u8 (IntKind.u8.wrap (48+(IntKind.u8.wrap b)))]:ai)) (dD d 0 fun l=>vS l fun m=>dD d (i64.wrap ((d.length:Int)-1)) fun n=>vS n fun o=>bJ (decide (0<=(i64.wrap (1+(Int.tmod b 2))))&&decide ((i64.wrap (1+(Int.tmod b 2)))<=2)) (bJ (decide (c.length+1<=aN)) (a5G a e (i64.wrap (b+1)) (c ++ ([xk ((strOf ([.int .u8 107,.int .u8 (IntKind.u8.wrap (48+(IntKind.u8.wrap b)))]:ai)),(([VJ (m,i64.wrap j.1,()),VJ (o,i64.wrap j.2.1,())]:ai).take (i64.wrap (1+(Int.tmod b 2))).toNat),i64.wrap j.2.2.1,())]:ai)) d f g h i))))) (some (A0 (⟨#[109,111,100,101,108]⟩,e,f,g,h,i,c,()),[])):=ll
def bQA (a0:Sh.V S2):SS.CC 9 [A2 a0] []=Qi 24 [Zf (a0.1,a0.2.1,a0.2.2.1,a0.2.2.2.1,a0.2.2.2.2.1,())] fun a=>Xg a0 a 0 []:=cc
def bC8 (a0:ai):SS.CC 15 [.sl false 7 a0,eu 16] []=G1 47 [.sl false 7 a0,eu 16] fun a=>some (.bool (decide (0<=a)),[]):=cc
def bC9 (a0:Sh.V uK):SS.CC 16 [Bd a0] []=aB (decide (6<(a0.2.2.2.2.1.length:Int))) rC (aB (decide (8<(a0.2.2.2.2.2.1.length:Int))) rC (some (.bool (decide (200<(a0.2.2.2.2.2.2.1.length:Int))),[]))):=cc
def bCA:KT:=SS.rK Tryz.f24 24 0 []
def bCB:KT:=SS.jK 24 55 0 (cS Tryz.f24 15) bCA
def bCC:KT:=aS 0 bCB
def Ob (a:Sh.V Vm) (b:ai) (c:Int):R:=SS.LL (SS.ae 24 55) 0 [1,3,4] 0 (cS Tryz.f24 75) bCC ⟨[(1,.cst (Zf a)),(3,.sl true 5 b),(4,aP c)],[]⟩
def aOR (a:Sh.V Vm) (c:ai) (b:Int):Ob a c b=aB (decide (b<5)) (bJ (vF ([.int .u8 (IntKind.u8.wrap (97+(IntKind.u8.wrap b)))]:ai)) (bJ (decide (b<(5:Int))) (dD [.int .u8 a.1,.int .u8 a.2.1,.int .u8 a.2.2.1,.int .u8 a.2.2.2.1,.int .u8 a.2.2.2.2.1] b fun n=>vI .u8 n fun o=>aB (decide (48<=o)) (bJ (decide (b<(5:Int))) (dD [.int .u8 a.1,.int .u8 a.2.1,.int .u8 a.2.2.1,.int .u8 a.2.2.2.1,.int .u8 a.2.2.2.2.1] b fun p=>vI .u8 p fun q=>aB (decide (q<52)) (bJ (decide (b<(5:Int))) (dD [.int .u8 a.1,.int .u8 a.2.1,.int .u8 a.2.2.1,.int .u8 a.2.2.2.1,.int .u8 a.2.2.2.2.1] b fun r=>vI .u8 r fun t=>bJ (decide (c.length+1<=aN)) (Ob a (c ++ ([A4 ((strOf ([.int .u8 (IntKind.u8.wrap (97+(IntKind.u8.wrap b)))]:ai)),false,false,false,i64.wrap ((i64.wrap t)-47),())]:ai)) (i64.wrap (b+1))))) (bJ (decide (b<(5:Int))) (dD [.int .u8 a.1,.int .u8 a.2.1,.int .u8 a.2.2.1,.int .u8 a.2.2.2.1,.int .u8 a.2.2.2.2.1] b fun u=>vI .u8 u fun v=>bJ (decide (b<(5:Int))) (dD [.int .u8 a.1,.int .u8 a.2.1,.int .u8 a.2.2.1,.int .u8 a.2.2.2.1,.int .u8 a.2.2.2.2.1] b fun w=>vI .u8 w fun d=>bJ (decide (b<(5:Int))) (dD [.int .u8 a.1,.int .u8 a.2.1,.int .u8 a.2.2.1,.int .u8 a.2.2.2.1,.int .u8 a.2.2.2.2.1] b fun e=>vI .u8 e fun f=>bJ (decide (c.length+1<=aN)) (Ob a (c ++ ([A4 ((strOf ([.int .u8 (IntKind.u8.wrap (97+(IntKind.u8.wrap b)))]:ai)),((IntKind.u8.wrap (BitVec.ofInt 8 v &&& BitVec.ofInt 8 1).toNat)==1),((IntKind.u8.wrap (BitVec.ofInt 8 d &&& BitVec.ofInt 8 2).toNat)==2),((IntKind.u8.wrap (BitVec.ofInt 8 f &&& BitVec.ofInt 8 4).toNat)==4),0,())]:ai)) (i64.wrap (b+1))))))))) (bJ (decide (b<(5:Int))) (dD [.int .u8 a.1,.int .u8 a.2.1,.int .u8 a.2.2.1,.int .u8 a.2.2.2.1,.int .u8 a.2.2.2.2.1] b fun g=>vI .u8 g fun h=>bJ (decide (b<(5:Int))) (dD [.int .u8 a.1,.int .u8 a.2.1,.int .u8 a.2.2.1,.int .u8 a.2.2.2.1,.int .u8 a.2.2.2.2.1] b fun i=>vI .u8 i fun j=>bJ (decide (b<(5:Int))) (dD [.int .u8 a.1,.int .u8 a.2.1,.int .u8 a.2.2.1,.int .u8 a.2.2.2.1,.int .u8 a.2.2.2.2.1] b fun l=>vI .u8 l fun m=>bJ (decide (c.length+1<=aN)) (Ob a (c ++ ([A4 ((strOf ([.int .u8 (IntKind.u8.wrap (97+(IntKind.u8.wrap b)))]:ai)),((IntKind.u8.wrap (BitVec.ofInt 8 h &&& BitVec.ofInt 8 1).toNat)==1),((IntKind.u8.wrap (BitVec.ofInt 8 j &&& BitVec.ofInt 8 2).toNat)==2),((IntKind.u8.wrap (BitVec.ofInt 8 m &&& BitVec.ofInt 8 4).toNat)==4),0,())]:ai)) (i64.wrap (b+1)))))))))) (some (.sl false 5 c,[])):=ll
def bCD (a0:Sh.V Vm):SS.CC 24 [Zf a0] []=Ob a0 [] 0:=cc
def aBS:KT:=SS.rK Tryz.f25 25 0 []
def bCF:KT:=SS.jK 25 166 0 (cS Tryz.f25 63) aBS
def bCI:KT:=aS 0 bCF
def bCJ:KT:=SS.jK 25 166 0 (cS Tryz.f25 127) aBS
def bCK:KT:=aS 2 bCJ
def bCL:KT:=SS.jK 25 166 0 (cS Tryz.f25 255) aBS
def aOS:KT:=aS 4 bCL
def bCM:KT:=SS.lK 25 166 0 [3,4,5,6,7,72,73,74] 3 (cS Tryz.f25 1215) aOS
def bCN:KT:=SS.jK 25 166 0 (cS Tryz.f25 15551) bCM
def aOT:KT:=aS 5 bCN
def bCG:KT:=SS.jK 25 166 0 (cS Tryz.f25 2084031) aOT
def bCH:KT:=aS 6 bCG
def GH (b:Sh.V uK) (d:b_) (a c e:ai) (f:Int) (g:ai):R:=SS.LL (SS.ae 25 166) 0 [3,4,5,6,7,43,44] 3 (cS Tryz.f25 303) bCI ⟨[(3,.cst (Bd b)),(4,ag),(5,.ptr 1 0),(6,aP (a.length:Int)),(7,.ptr 2 0),(43,aP (c.length:Int)),(44,aP f)],[dP (⟨#[]⟩,[],[],[],0,0,[],[],[],()),Vg (d,a,c,[],0,0,[],[],[],()),Vh (g,(a.length:Int),Int.tmod (i64.wrap b.2.2.1) (a.length:Int),[],e,[],())]⟩
def Oc (c:Sh.V uK) (d:b_) (a e f:ai) (b:Int) (g h:ai):R:=SS.LL (SS.ae 25 166) 0 [3,4,5,6,7,54,55] 3 (cS Tryz.f25 607) bCK ⟨[(3,.cst (Bd c)),(4,ag),(5,.ptr 1 0),(6,aP (a.length:Int)),(7,.ptr 2 0),(54,aP (a.length:Int)),(55,aP b)],[dP (⟨#[]⟩,[],[],[],0,0,[],[],[],()),Vg (d,a,e,[],0,0,[],[],[],()),Vh (h,(a.length:Int),Int.tmod (i64.wrap c.2.2.1) (a.length:Int),g,f,[],())]⟩
def KY (a:Sh.V uK) (c:b_) (b d e:ai) (f:Int) (g h i:ai):R:=SS.LL (SS.ae 25 166) 0 [3,4,5,6,7,72,73,74] 3 (cS Tryz.f25 1215) aOS ⟨[(3,.cst (Bd a)),(4,ag),(5,.ptr 1 0),(6,aP (b.length:Int)),(7,.ptr 2 0),(72,.sl false 3 a.2.2.2.2.2.1),(73,aP (a.2.2.2.2.2.1.length:Int)),(74,aP f)],[dP (⟨#[]⟩,[],[],[],0,0,[],[],[],()),Vg (c,b,d,[],0,0,[],[],[],()),Vh (h,(b.length:Int),Int.tmod (i64.wrap a.2.2.1) (b.length:Int),i,e,g,())]⟩
def a2M (b:Sh.V uK) (f:b_) (a e g:ai) (c:Sh.V yS) (h i j:Int) (l d:ai) (m:Int) (n o p:ai):R:=bD (SS.xX 25 166 0) (cS Tryz.f25 1035455) aOT ⟨[(3,.cst (Bd b)),(4,ag),(5,.ptr 1 0),(6,aP (a.length:Int)),(7,.ptr 2 0),(11,.ptr 3 0),(12,a_ d),(13,.ptr 4 0),(72,.sl false 3 b.2.2.2.2.2.1),(73,aP (b.2.2.2.2.2.1.length:Int)),(74,aP m)],[dP (⟨#[]⟩,[],[],[],0,0,[],[],[],()),Vg (f,a,e,[],0,0,[],[],[],()),Vh (n,(a.length:Int),Int.tmod (i64.wrap b.2.2.1) (a.length:Int),o,g,p,()),O20 c,kN (Int.tmod (i64.wrap c.1) (a.length:Int),Int.tmod (i64.wrap c.2.1) (e.length:Int),Int.tmod (i64.wrap c.2.2.1) (a.length:Int),h,i,j,l,[],())]⟩
def SH (b:Sh.V uK) (g:b_) (a e f:ai) (c:Sh.V yS) (h i j:Int) (l:ai) (m:Int) (n d:ai) (o:Int) (p q r:ai):R:=SS.LL (SS.ae 25 166) 0 [3,4,5,6,7,11,12,13,72,73,74,126,127] 5 (cS Tryz.f25 9948351) bCH ⟨[(3,.cst (Bd b)),(4,ag),(5,.ptr 1 0),(6,aP (a.length:Int)),(7,.ptr 2 0),(11,.ptr 3 0),(12,a_ d),(13,.ptr 4 0),(72,.sl false 3 b.2.2.2.2.2.1),(73,aP (b.2.2.2.2.2.1.length:Int)),(74,aP o),(126,aP (f.length:Int)),(127,aP m)],[dP (⟨#[]⟩,[],[],[],0,0,[],[],[],()),Vg (g,a,e,[],0,0,[],[],[],()),Vh (p,(a.length:Int),Int.tmod (i64.wrap b.2.2.1) (a.length:Int),q,f,r,()),O20 c,kN (Int.tmod (i64.wrap c.1) (a.length:Int),Int.tmod (i64.wrap c.2.1) (e.length:Int),Int.tmod (i64.wrap c.2.2.1) (a.length:Int),h,i,j,l,n,())]⟩
theorem aOX (d:Sh.V uK) (e:b_) (f a g:ai) (b:Int) (c:ai):GH d e f a g b c=aB (decide (b<(a.length:Int))) (bJ (decide (c.length+1<=aN)) (GH d e f a g (i64.wrap (b+1)) (c ++ ([aP b]:ai)))) (Oc d e f a g 0 [] c):=ll
theorem aOU (b:Sh.V uK) (e:b_) (c f g:ai) (a:Int) (d h:ai):Oc b e c f g a d h=aB (decide (a<(c.length:Int))) (bJ (decide (0<=a)) (aB ((IntKind.u8.wrap (BitVec.ofInt 8 (Int.fdiv b.2.2.2.1 (2 ^ min a.toNat 8)) &&& BitVec.ofInt 8 1).toNat)==1) (bJ (decide (d.length+1<=aN)) (Oc b e c f g (i64.wrap (a+1)) (d ++ ([aP a]:ai)) h)) (Oc b e c f g (i64.wrap (a+1)) d h))) (KY b e c f g 0 [] h d):=ll
def aOV (a:Sh.V uK) (o:b_) (g l n:ai) (b:Int) (p q r:ai):KY a o g l n b p q r=fV fun h=>aB (decide (b<(a.2.2.2.2.2.1.length:Int))) (ak yS a.2.2.2.2.2.1 b fun u=>aB (b==4) (some (A5 (o,g,l,q,(g.length:Int),Int.tmod (i64.wrap a.2.2.1) (g.length:Int),r,n,p,()),[])) (aB ((l.length:Int)==0) (some (A5 (o,g,l,q,(g.length:Int),Int.tmod (i64.wrap a.2.2.1) (g.length:Int),r,n,p,()),[])) (bJ (decide (0<=(if (i64.wrap (9*b))<(a.2.2.2.2.2.2.1.length:Int) then (i64.wrap (9*b)) else (a.2.2.2.2.2.2.1.length:Int)))&&decide ((if (i64.wrap (9*b))<(a.2.2.2.2.2.2.1.length:Int) then (i64.wrap (9*b)) else (a.2.2.2.2.2.2.1.length:Int))<=(a.2.2.2.2.2.2.1.length:Int))) (oM 85 [] fun t=>(fun w (c d:R->R)=>(fun e f i m v x=>au e (au (au f (au i (au m v))) (au (au f (au i (au m v))) (au x v)))) (c ((fun e f i m=>au (au e (au f i)) (au (au e (au f i)) (au m i))) (d (h 1 (c w))) (c (h 1 (d w))) (d (c w)) (c ((fun e f=>au e (au e f)) (h 1 (d w)) (d w))))) (c (au (d (h 1 (c w))) (au (c (h 1 (d w))) (d (c w))))) (d ((fun e f=>au e (au e f)) (c (h 1 (c w))) (c (c w)))) (c (au (c (h 1 (d w))) (au (d (h 1 (c w))) (c (d w))))) (c (d (c w))) (c ((fun e f i m=>au e (au (au f (au i m)) (au (au f (au i m)) m))) (c ((fun e f=>au e (au e f)) (h 1 (d w)) (d w))) (c (h 1 (d w))) (d (h 1 (c w))) (c (d w))))) (aB (decide (128<=u.1)) (oM 86 [a_ (a.2.2.2.2.2.2.1.drop (if (i64.wrap (9*b))<(a.2.2.2.2.2.2.1.length:Int) then (i64.wrap (9*b)) else (a.2.2.2.2.2.2.1.length:Int)).toNat),aP (n.length:Int),aP 2] fun j=>a2M a o g l n u j.1 j.2.1 j.2.2.1 j.2.2.2.1 (a.2.2.2.2.2.2.1.drop (if (i64.wrap (9*b))<(a.2.2.2.2.2.2.1.length:Int) then (i64.wrap (9*b)) else (a.2.2.2.2.2.2.1.length:Int)).toNat) b q r p) (a2M a o g l n u t.1 t.2.1 t.2.2.1 t.2.2.2.1 (a.2.2.2.2.2.2.1.drop (if (i64.wrap (9*b))<(a.2.2.2.2.2.2.1.length:Int) then (i64.wrap (9*b)) else (a.2.2.2.2.2.2.1.length:Int)).toNat) b q r p)) (bJ (!((g.length:Int)==0))) (bJ (!((l.length:Int)==0))))))) (some (A5 (o,g,l,q,(g.length:Int),Int.tmod (i64.wrap a.2.2.1) (g.length:Int),r,n,p,()),[])):=pI ll
def bCE (b:Sh.V uK) (c:b_) (d e f:ai) (g:Sh.V yS) (h i j:Int) (l a:ai) (m:Int) (n o p:ai):a2M b c d e f g h i j l a m n o p=SH b c d e f g h i j l 0 [] a m n o p:=by kernel_rfl
theorem aOW (i:Sh.V uK) (j:b_) (d f e:ai) (c:Sh.V yS) (l m n:Int) (o:ai) (b:Int) (g a:ai) (p:Int) (q r h:ai):SH i j d f e c l m n o b g a p q r h=aB (decide (b<(e.length:Int))) (bJ (decide (0<=(i64.wrap (b+3)))) (aB ((IntKind.u8.wrap (BitVec.ofInt 8 (Int.fdiv c.2.2.1 (2 ^ min (i64.wrap (b+3)).toNat 8)) &&& BitVec.ofInt 8 1).toNat)==1) ((fun w=>bJ (decide (0<=w)&&decide (w<=(a.length:Int))) (oM 86 [a_ (a.drop w.toNat),aP (e.length:Int),aP 1] fun t=>bJ (decide (g.length+1<=aN)) (SH i j d f e c l m n o (i64.wrap (b+1)) (g ++ ([Ji (b,t.1,t.2.1,t.2.2.1,t.2.2.2.1,())]:ai)) a p q r h))) (if (i64.wrap (b+1))<(a.length:Int) then (i64.wrap (b+1)) else (a.length:Int))) (SH i j d f e c l m n o (i64.wrap (b+1)) g a p q r h))) (bJ (decide (h.length+1<=aN)) (KY i j d f e (i64.wrap (p+1)) (h ++ ([A9 (Int.tmod (i64.wrap c.1) (d.length:Int),Int.tmod (i64.wrap c.2.1) (f.length:Int),Int.tmod (i64.wrap c.2.2.1) (d.length:Int),l,m,n,o,g,())]:ai)) q r)):=ll
def bCO (a0:b_) (a1:Sh.V uK):SS.CC 25 [.str a0,Bd a1] []=fV fun d=>au (G4 83 [.int .u8 118,aP (i64.wrap (Int.tmod a1.1 4))] fun c=>d 1 (G4 83 [.int .u8 108,aP (i64.wrap (1+(i64.wrap (Int.tmod a1.2.1 4))))] fun a=>au (bJ (!((a.length:Int)==0)) (d 1 (Nh 84 [.sl false 2 a1.2.2.2.2.1] fun b=>GH a1 a0 a c b 0 []))) (au (Nh 84 [.sl false 2 a1.2.2.2.2.1] fun b=>d 1 (bJ (!((a.length:Int)==0)) (GH a1 a0 a c b 0 []))) (bJ (!((a.length:Int)==0)) (Nh 84 [.sl false 2 a1.2.2.2.2.1] fun b=>GH a1 a0 a c b 0 []))))) ((fun w=>au (d 1 w) w) (G4 83 [.int .u8 118,aP (i64.wrap (Int.tmod a1.1 4))] fun c=>G4 83 [.int .u8 108,aP (i64.wrap (1+(i64.wrap (Int.tmod a1.2.1 4))))] fun a=>au (bJ (!((a.length:Int)==0)) (d 1 (Nh 84 [.sl false 2 a1.2.2.2.2.1] fun b=>GH a1 a0 a c b 0 []))) (au (Nh 84 [.sl false 2 a1.2.2.2.2.1] fun b=>d 1 (bJ (!((a.length:Int)==0)) (GH a1 a0 a c b 0 []))) (bJ (!((a.length:Int)==0)) (Nh 84 [.sl false 2 a1.2.2.2.2.1] fun b=>GH a1 a0 a c b 0 []))))):=pI cc
def bIN:KT:=SS.rK Tryz.f47 47 0 []
def bIO:KT:=SS.jK 47 19 0 (cS Tryz.f47 7) bIN
def bIP:KT:=aS 0 bIO
def QI (a:ai) (b:Int):R:=SS.LL (SS.ae 47 19) 0 [0,1,7,8] 0 (cS Tryz.f47 37) bIP ⟨[(0,.sl false 7 a),(1,eu 16),(7,aP (a.length:Int)),(8,aP b)],[]⟩
def aQC (b:ai) (a:Int):QI b a=aB (decide (a<(b.length:Int))) (ak uK b a fun c=>G3 16 [Bd c] fun d=>aB d (some (aP a,[])) (QI b (i64.wrap (a+1)))) (some (aP (-1),[])):=ll
def bIQ (a0:ai):SS.CC 47 [.sl false 7 a0,eu 16] []=QI a0 0:=cc
def bIR:KT:=SS.rK Tryz.f84 84 0 []
def bIS:KT:=SS.jK 84 60 0 (cS Tryz.f84 15) bIR
def bIT:KT:=aS 0 bIS
def PP (a b:ai) (c:Int):R:=SS.LL (SS.ae 84 60) 0 [0,3,4] 0 (cS Tryz.f84 75) bIT ⟨[(0,.sl false 2 a),(3,.sl true 4 b),(4,aP c)],[]⟩
def aQD (b c:ai) (a:Int):PP b c a=aB (decide (a<(b.length:Int))) (aB (decide (a<3)) (ak RJ b a fun d=>ak RJ b a fun e=>bJ (vF ([.int .u8 (IntKind.u8.wrap (48+(IntKind.u8.wrap a)))]:ai)) (bJ (decide ((⟨#[120]⟩:b_).size+(strOf ([.int .u8 (IntKind.u8.wrap (48+(IntKind.u8.wrap a)))]:ai)).size<=aN)) (ak RJ b a fun u8=>bJ (!((i64.wrap ((i64.wrap (Int.tmod (IntKind.u8.wrap e.2.1) 4))+1))==0)) (bJ (decide (c.length+1<=aN)) (PP b (c ++ ([A7 ((⟨#[120]⟩:b_) ++ (strOf ([.int .u8 (IntKind.u8.wrap (48+(IntKind.u8.wrap a)))]:ai)),i64.wrap (Int.tmod d.1 5),i64.wrap ((i64.wrap (Int.tmod d.1 5))+(i64.wrap (Int.tmod (IntKind.u8.wrap e.2.1) 4))),i64.wrap ((i64.wrap (Int.tmod d.1 5))+(Int.tmod (i64.wrap (IntKind.u8.wrap (Int.tdiv (IntKind.u8.wrap u8.2.1) 4))) (i64.wrap ((i64.wrap (Int.tmod (IntKind.u8.wrap e.2.1) 4))+1)))),())]:ai)) (i64.wrap (a+1))))))) (some (.sl false 4 c,[]))) (some (.sl false 4 c,[])):=ll
def bIU (a0:ai):SS.CC 84 [.sl false 2 a0] []=PP a0 [] 0:=cc
def bIV (a0:ai) (a1 a2:Int):SS.CC 86 [a_ a0,aP a1,aP a2] []=bJ (decide (0<=(if (60:Int)<(a0.length:Int) then (60:Int) else (a0.length:Int)))&&decide ((if (60:Int)<(a0.length:Int) then (60:Int) else (a0.length:Int))<=(a0.length:Int))) (rW 187 [ag,aP a2,aP 5] [jS ((a0.take (if (60:Int)<(a0.length:Int) then (60:Int) else (a0.length:Int)).toNat),a1,0,())] fun a b=>some (A1 a,[])):=cc
def aRA (a1 a2:Int) (e:Sh.V Am):SS.CC 187 [ag,aP a1,aP a2] [jS e]=H79 267 [ag] [jS (e.1,e.2.1,i64.wrap (e.2.2.1+1),())] fun b a=>aB (a1==1) ((fun w=>aB (decide (a2<=1)) w (aB (decide (12<a.2.2.1)) w (aB (decide ((Int.tmod b 8)<4)) w (aB ((Int.tmod b 8)==4) (rW 187 [ag,aP a1,aP (i64.wrap (a2-1))] [jS a] fun B f=>some (A1 (5,0,0,[A1 B],()),[jS f])) (aB ((Int.tmod b 8)==5) (rW 187 [ag,aP 2,aP (i64.wrap (a2-1))] [jS a] fun u16 g=>rW 187 [ag,aP a1,aP (i64.wrap (a2-1))] [jS g] fun h i=>rW 187 [ag,aP a1,aP (i64.wrap (a2-1))] [jS i] fun j l=>some (A1 (13,0,0,[A1 u16,A1 h,A1 j],()),[jS l])) (rW 187 [ag,aP a1,aP (i64.wrap (a2-1))] [jS a] fun C D=>rW 187 [ag,aP a1,aP (i64.wrap (a2-1))] [jS D] fun E F=>some (A1 (i64.wrap (2+(Int.tmod (i64.wrap (Int.tdiv b 8)) 3)),0,0,[A1 C,A1 E],()),[jS F]))))))) (aB ((Int.tmod b 2)==0) (aB (decide (0<a.2.1)) (bJ (!(a.2.1==0)) (some (A1 (1,0,Int.tmod (i64.wrap (Int.tdiv b 8)) a.2.1,[],()),[jS a]))) (some (A1 (0,i64.wrap ((i64.wrap (Int.tdiv b 8))-8),0,[],()),[jS a]))) (some (A1 (0,i64.wrap ((i64.wrap (Int.tdiv b 8))-8),0,[],()),[jS a])))) (aB (decide (a2<=1)) (oM 268 [.bool ((Int.tmod b 2)==0)] fun m=>some (A1 m,[jS a])) (aB (decide (a2<=2)) (rW 187 [ag,aP 1,aP (i64.wrap (a2-1))] [jS a] fun n o=>rW 187 [ag,aP 1,aP (i64.wrap (a2-1))] [jS o] fun p G=>some (A1 (i64.wrap (6+(Int.tmod (i64.wrap (Int.tdiv b 8)) 4)),0,0,[A1 n,A1 p],()),[jS G])) (aB (decide (12<a.2.2.1)) (rW 187 [ag,aP 1,aP (i64.wrap (a2-1))] [jS a] fun H q=>rW 187 [ag,aP 1,aP (i64.wrap (a2-1))] [jS q] fun r t=>some (A1 (i64.wrap (6+(Int.tmod (i64.wrap (Int.tdiv b 8)) 4)),0,0,[A1 H,A1 r],()),[jS t])) (aB (decide ((Int.tmod b 8)<4)) (rW 187 [ag,aP 1,aP (i64.wrap (a2-1))] [jS a] fun I J=>rW 187 [ag,aP 1,aP (i64.wrap (a2-1))] [jS J] fun K u=>some (A1 (i64.wrap (6+(Int.tmod (i64.wrap (Int.tdiv b 8)) 4)),0,0,[A1 I,A1 K],()),[jS u])) (aB ((Int.tmod b 8)==4) (rW 187 [ag,aP a1,aP (i64.wrap (a2-1))] [jS a] fun L c=>some (A1 (10,0,0,[A1 L],()),[jS c])) (aB ((Int.tmod b 8)==5) (rW 187 [ag,aP a1,aP (i64.wrap (a2-1))] [jS a] fun M v=>rW 187 [ag,aP a1,aP (i64.wrap (a2-1))] [jS v] fun d x=>rW 187 [ag,aP a1,aP (i64.wrap (a2-1))] [jS x] fun N y=>some (A1 (13,0,0,[A1 M,A1 d,A1 N],()),[jS y])) (rW 187 [ag,aP a1,aP (i64.wrap (a2-1))] [jS a] fun O z=>rW 187 [ag,aP a1,aP (i64.wrap (a2-1))] [jS z] fun Q A=>some (A1 (i64.wrap (11+(Int.tmod (i64.wrap (Int.tdiv b 8)) 2)),0,0,[A1 O,A1 Q],()),[jS A])))))))):=cc
def bOY (a:Sh.V Am):SS.CC 267 [ag] [jS a]=aB ((a.1.length:Int)==0) (some (aP 0,[jS a])) (dD a.1 0 fun b=>vI .u8 b fun c=>bJ (decide (0<=1)&&decide (1<=(a.1.length:Int))) (some (aP (i64.wrap c),[jS ((a.1.drop (1:Int).toNat),a.2.1,a.2.2.1,())]))):=cc
def bOZ:KT:=SS.rK Tryz.f268 268 0 []
def aCJ (a:Int):R:=bD (SS.xX 268 10 0) (cS Tryz.f268 15) bOZ ⟨[(2,ag),(3,aP a)],[FV (0,0,0,[],())]⟩
def aS5 (a:Int):aCJ a=some (A1 (a,0,0,[A1 (0,0,0,[],()),A1 (0,0,0,[],())],()),[]):=by kernel_rfl
def bO' (a0:Bool):SS.CC 268 [.bool a0] []=aB a0 (aCJ 6) (aCJ 7):=cc
end
inductive Ty (nv:Int):Int->EX->Prop
 | EI {v:Int} : -8<=v->v<=23->Ty nv 1 (nE v)
 | var {i:Int}:0<=i->i<nv->Ty nv 1 (vE i)
 | neg {a:EX}:Ty nv 1 a->Ty nv 1 (kS 5 a)
 | sJ {a:EX}:Ty nv 2 a->Ty nv 2 (kS 10 a)
 | ar {o:Int} {a b:EX}:2<=o->o<=4->Ty nv 1 a->Ty nv 1 b->Ty nv 1 (iQ o a b)
 | cmp {o:Int} {a b:EX}:6<=o->o<=9->Ty nv 1 a->Ty nv 1 b->Ty nv 2 (iQ o a b)
 | log {o:Int} {a b:EX}:11<=o->o<=12->Ty nv 2 a->Ty nv 2 b->Ty nv 2 (iQ o a b)
 | ite {k:Int} {c a b:EX}:Ty nv 2 c->Ty nv k a->Ty nv k b->Ty nv k (.node 13 0 0 [c,a,b])
theorem b2K (h:Ty w y x):y=1\/y=2:=by induction h<;>simp_all
abbrev zu (l:d_):ai:=l.map fun c => .int .u8 (c.toNat:Int)
abbrev GO (l:d_) (nv n:Int):aH := [jS (zu l,nv,n,())]
def nx (l:d_) (a n:Int):∃ b d,SS.CC 267 [ag] (GO l a n)=some (aP b,GO d a n)/\0<=b/\b<=255:=by
 rw[bOY];cases l with
 | nil=>simp
 | cons c r =>have e:=c.toNat_lt;refine ⟨(c.toNat:Int),r,?_,by omega,by omega⟩;rw[nK (by decide) rfl,vZ,aQ (by simp; omega),wrap64 (by omega) (by omega)];rfl
def gT:Nat->Int
 | 0=>1
 | n+1=>1+3*gT n
def Zj:∀ n,1<=gT n
 | 0=>by decide
 | n+1=>by have:=Zj n; rw[gT]; omega
structure Gr (nv k:Int) (lv:Nat) (n:Int) (x:EX) (n':Int):Prop where
 ty:Ty nv k x
 dp:oO x<=lv+2
 lo:n+1<=n'
 hi:n'<=n+gT lv
 s1:n'<=12->(gB x:Int)<=3*(n'-n)
 s2:12<n'->(gB x:Int)<=3*(12-min n 12)+3*(1+2*(lv:Int))
 s3:12<=n->(gB x:Int)<=3
 s4:12<=n->k=1->gB x=1
section
variable {nv n:Int} {lv:Nat}
theorem aD2 {k:Int} (h:Ty nv k x) (a:gB x=1) (b:oO x=1):Gr nv k lv n x (n+1):=by have:=Zj lv;exact ⟨h,by omega,by omega,by omega,by omega,by omega,by omega,fun _ _=>a⟩
def aUN {o k c b:Int} (e:n+1<=12) (h:Ty nv k (kS o x)) (d:Gr nv c lv (n+1) x b):Gr nv k (lv+1) n (kS o x) b:=by
 obtain ⟨a1,a2,a3,a4,a5,a6,a7,a8⟩:=d;have f:oO (kS o x)=oO x+1:=by simp[oO,II]
 have g:gB (kS o x)=gB x+1:=by rfl
 refine ⟨h,by omega,by omega,by rw[gT]; omega,fun h => ?_,fun h => ?_,by omega,by omega⟩;omega;omega
variable {b4:EX}
theorem aD1 {o k k1 k2 c d:Int} (h:Ty nv k (iQ o x b4)) (e:Gr nv k1 lv (n+1) x c) (f:Gr nv k2 lv c b4 d) (g:12<=n->k=2/\k1=1/\k2=1):Gr nv k (lv+1) n (iQ o x b4) d:=by
 obtain ⟨a1,a2,a3,a4,a5,a6,a7,a8⟩:=e;obtain ⟨i,j,l,m,p,q,r,t⟩:=f;have u:oO (iQ o x b4)=max (oO x) (oO b4)+1:=by simp[oO,II]
 have v:gB (iQ o x b4)=gB x+gB b4+1:=by rfl
 refine ⟨h,by omega,by omega,by rw[gT]; omega,fun h => ?_,fun h => ?_,fun h => ?_,fun h hk=>by omega⟩;grind
 grind
 omega
theorem aUO {k k1 k2 k3:Int} {b:EX} {d e f:Int} (l:n+1<=12) (h:Ty nv k (.node 13 0 0 [x,b4,b])) (g:Gr nv k1 lv (n+1) x d) (i:Gr nv k2 lv d b4 e) (j:Gr nv k3 lv e b f):Gr nv k (lv+1) n (.node 13 0 0 [x,b4,b]) f:=by
 obtain ⟨a1,a2,a3,a4,a5,a6,a7,a8⟩:=g;obtain ⟨m,o,p,q,r,t,u,v⟩:=i;obtain ⟨w,y,z,A,B,C,D,c8⟩:=j;have E:oO (.node 13 0 0 [x,b4,b])=max (oO x) (max (oO b4) (oO b))+1:=by simp[oO,II]
 have F:gB (.node 13 0 0 [x,b4,b])=gB x+(gB b4+gB b)+1:=by rfl
 refine ⟨h,by omega,by omega,by rw[gT]; omega,fun h => ?_,fun h => ?_,by omega,by omega⟩;grind
 grind
end
theorem aXP (f:0<=w) (d:0<=y/\y<=255) (o:aH):∃ x,aB (Int.tmod y 2==0) (aB (decide (0<w)) (bJ (!(w==0)) (some (A1 (1,0,Int.tmod (i64.wrap (Int.tdiv y 8)) w,[],()),o))) (some (A1 (0,i64.wrap (i64.wrap (Int.tdiv y 8)-8),0,[],()),o))) (some (A1 (0,i64.wrap (i64.wrap (Int.tdiv y 8)-8),0,[],()),o))=some (A1 (ev x),o)/\Ty w 1 x/\gB x=1/\oO x=1:=by
 have e:Int.tdiv y 8=y / 8:=Int.tdiv_eq_ediv_of_nonneg d.1;rw[e,wrap64 (by omega) (by omega),wrap64 (by omega) (by omega)];have hv:∃ x,(some (A1 (0,y / 8-8,0,[],()),o):R)=some (A1 (ev x),o)/\Ty w 1 x/\gB x=1/\oO x=1:=⟨nE (y / 8-8),by rw[KP],.EI (by omega) (by omega),rfl,rfl⟩;cases Int.tmod y 2==0 with
 | false=>exact hv
 | true =>
  rw[aI];by_cases h:0<w
  .rw[aK h,aQ (by simp; omega),QU (by omega)];have a:=Int.emod_nonneg (y / 8) (show w≠0 by omega);have c:=Int.emod_lt_of_pos (y / 8) h;exact ⟨vE (y / 8 % w),by rfl,.var a c,rfl,rfl⟩
  grind [aF]
theorem aUP {g:Int} (hv:0<=g/\g<=16):∀ (f:Nat) (k:Int) (l:d_) (n:Int),(k=1\/k=2)->f<=10->0<=n->n+gT f<=1000000 ->
 ∃ x z A,SS.CC 187 [ag,aP k,aP ((f:Int)+1)] (GO l g n)=some (A1 (ev x),GO z g A)/\Gr g k f n x A
 | 0,k,l,n,hk,G,U,Q=>by
  have:=Zj 0;obtain ⟨b,z,e,B⟩:=nx l g (n+1);rw[aRA];try dsimp only
  rw[wrap64 (n:=n+1) (by omega) (by omega),aKL e];try dsimp only
  rcases hk with rfl|rfl
  .rw[show ((1:Int)==1)=true from rfl,aI,aK (by decide),aI];obtain ⟨x,t,t1,t2,t3⟩:=aXP hv.1 B (GO z g (n+1));grind [aD2]
  .rw[show ((2:Int)==1)=false from rfl,aF,aK (by decide),aI];have V:∀ c:Bool,SS.CC 268 [.bool c] []=some (A1 (ev (if c then tE else fE)),[]):=fun c=>by rw[bO',aS5,aS5];cases c<;>rfl
   rw[eG (V _)];refine ⟨_,z,n+1,rfl,?_⟩;have F:Ty g 1 (nE 0) := .EI (by decide) (by decide);cases Int.tmod b 2==0 with
   | true=>exact ⟨.cmp (o:=6) (by decide) (by decide) F F,by decide,by omega,by rw[gT]; omega,fun _=>by show (3:Int)<=_; omega,fun _=>by show (3:Int)<=_; omega,fun _=>by decide,fun _ h=>by cases h⟩
   | false=>exact ⟨.cmp (o:=7) (by decide) (by decide) F F,by decide,by omega,by rw[gT]; omega,fun _=>by show (3:Int)<=_; omega,fun _=>by show (3:Int)<=_; omega,fun _=>by decide,fun _ h=>by cases h⟩
 | f+1,k,l,n,hk,G,U,Q=>by
  have hp:=Zj f;rw[gT] at Q;obtain ⟨b,l0,e,B⟩:=nx l g (n+1);have i:=aUP hv f;have et:∀ q:Int,Int.tmod b q=b % q:=fun q=>QU B.1
  have H:i64.wrap (Int.tdiv b 8)=b / 8:=by rw[Int.tdiv_eq_ediv_of_nonneg B.1,wrap64 (by omega) (by omega)]
  have X:i64.wrap (((f+1:Nat):Int)+1-1)=(f:Int)+1:=by rw[wrap64 (by omega) (by omega)]; omega
  have w3:i64.wrap (2+Int.tmod (b / 8) 3)=2+b / 8 % 3:=by rw[QU (by omega),wrap64 (by omega) (by omega)]
  have w4:i64.wrap (6+Int.tmod (b / 8) 4)=6+b / 8 % 4:=by rw[QU (by omega),wrap64 (by omega) (by omega)]
  have w2:i64.wrap (11+Int.tmod (b / 8) 2)=11+b / 8 % 2:=by rw[QU (by omega),wrap64 (by omega) (by omega)]
  have S:=aXP hv.1 B (GO l0 g (n+1));rw[aRA];try dsimp only
  rw[wrap64 (n:=n+1) (by omega) (by omega),aKL e];try dsimp only
  rw[X,aU (show ¬ (((f+1:Nat):Int)+1<=1) by omega)];rcases hk with rfl|rfl
  .rw[show ((1:Int)==1)=true from rfl,aI,aF];by_cases C:12<n+1
   .rw[aK C,aI];grind [aD2]
   rw[aU C,aF];by_cases D:Int.tmod b 8<4
   .rw[aK D,aI];grind [aD2]
   rw[aU D,aF];by_cases Y:Int.tmod b 8=4
   .obtain ⟨j,p,r,m,a⟩:=i 1 l0 (n+1) (.inl rfl) (by omega) (by omega) (by omega);rw[show (Int.tmod b 8==4)=true by grind,aI,yQ m];exact ⟨kS 5 j,p,r,by rw[ev1],aUN (by omega) (.neg a.ty) a⟩
   rw[show (Int.tmod b 8==4)=false by grind,aF];by_cases Z:Int.tmod b 8=5
   .obtain ⟨j,p,r,m,a⟩:=i 2 l0 (n+1) (.inr rfl) (by omega) (by omega) (by omega);obtain ⟨u,v,w,t,d⟩:=i 1 p r (.inl rfl) (by omega) (by have:=a.lo; omega) (by have:=a.hi; omega);obtain ⟨I,J,K,L,E⟩:=i 1 v w (.inl rfl) (by omega) (by have:=a.lo; have:=d.lo; omega) (by have:=a.hi; have:=d.hi; omega);rw[show (Int.tmod b 8==5)=true by grind,aI,yQ m];try dsimp only
    rw[yQ t];try dsimp only
    rw[yQ L];exact ⟨.node 13 0 0 [j,u,I],J,K,by rw[ev3],aUO (by omega) (.ite a.ty d.ty E.ty) a d E⟩
   rw[show (Int.tmod b 8==5)=false by grind,aF];obtain ⟨j,p,r,m,a⟩:=i 1 l0 (n+1) (.inl rfl) (by omega) (by omega) (by omega);obtain ⟨u,v,w,t,d⟩:=i 1 p r (.inl rfl) (by omega) (by have:=a.lo; omega) (by have:=a.hi; omega);rw[yQ m];try dsimp only
   rw[yQ t];try dsimp only
   rw[H,w3];exact ⟨iQ (2+b / 8 % 3) j u,v,w,by rw[uT],aD1 (.ar (by omega) (by omega) a.ty d.ty) a d (by omega)⟩
  .rw[show ((2:Int)==1)=false from rfl,aF,aF];have y:∃ x z A,(rW 187 [ag,aP 1,aP ((f:Int)+1)] (GO l0 g (n+1)) fun M N=>rW 187 [ag,aP 1,aP ((f:Int)+1)] [jS N] fun O Zg=>some (A1 (i64.wrap (6+(Int.tmod (i64.wrap (Int.tdiv b 8)) 4)),0,0,[A1 M,A1 O],()),[jS Zg]))=some (A1 (ev x),GO z g A)/\Gr g 2 (f+1) n x A:=by
    obtain ⟨j,p,r,m,a⟩:=i 1 l0 (n+1) (.inl rfl) (by omega) (by omega) (by omega);obtain ⟨u,v,w,t,d⟩:=i 1 p r (.inl rfl) (by omega) (by have:=a.lo; omega) (by have:=a.hi; omega);rw[yQ m];try dsimp only
    rw[yQ t];try dsimp only
    rw[H,w4];exact ⟨iQ (6+b / 8 % 4) j u,v,w,by rw[uT],aD1 (.cmp (by omega) (by omega) a.ty d.ty) a d (fun _=>⟨rfl,rfl,rfl⟩)⟩
   by_cases T:((f+1:Nat):Int)+1<=2
   .rw[aK T,aI]; exact y
   rw[aU T,aF];by_cases C:12<n+1
   .rw[aK C,aI]; exact y
   rw[aU C,aF];by_cases D:Int.tmod b 8<4
   .rw[aK D,aI]; exact y
   rw[aU D,aF];obtain ⟨j,p,r,m,a⟩:=i 2 l0 (n+1) (.inr rfl) (by omega) (by omega) (by omega);by_cases Y:Int.tmod b 8=4
   .rw[show (Int.tmod b 8==4)=true by grind,aI,yQ m];exact ⟨kS 10 j,p,r,by rw[ev1],aUN (by omega) (.sJ a.ty) a⟩
   rw[show (Int.tmod b 8==4)=false by grind,aF];obtain ⟨u,v,w,t,d⟩:=i 2 p r (.inr rfl) (by omega) (by have:=a.lo; omega) (by have:=a.hi; omega);by_cases Z:Int.tmod b 8=5
   .obtain ⟨I,J,K,L,E⟩:=i 2 v w (.inr rfl) (by omega) (by have:=a.lo; have:=d.lo; omega) (by have:=a.hi; have:=d.hi; omega);rw[show (Int.tmod b 8==5)=true by grind,aI,yQ m];try dsimp only
    rw[yQ t];try dsimp only
    rw[yQ L];exact ⟨.node 13 0 0 [j,u,I],J,K,by rw[ev3],aUO (by omega) (.ite a.ty d.ty E.ty) a d E⟩
   rw[show (Int.tmod b 8==5)=false by grind,aF,yQ m];try dsimp only
   rw[yQ t];try dsimp only
   rw[H,w2];exact ⟨iQ (11+b / 8 % 2) j u,v,w,by rw[uT],aD1 (.log (by omega) (by omega) a.ty d.ty) a d (by omega)⟩
theorem aK1 {nv:Int} (hv:0<=nv/\nv<=16) (hk:w=1\/w=2) (l:d_) (d:l.length<=100000):∃ x,SS.CC 86 [a_ (zu l),aP nv,aP w] []=some (A1 (ev x),[])/\Ty nv w x/\oO x<=6/\gB x<=63:=by
 have b:((if (60:Int)<((zu l).length:Int) then (60:Int) else ((zu l).length:Int)).toNat)=min 60 l.length:=by rw[aZ]; split<;>omega
 obtain ⟨x,f,c,e,g⟩:=aUP hv 4 w (l.take 60) 0 hk (by decide) (by decide) (by decide);have a:(zu l).take (min 60 l.length)=zu (l.take 60):=by simp
 refine ⟨x,?_,g.ty,g.dp,?_⟩
 .rw[bIV,aQ (by grind),b,a];exact (yQ e).trans rfl
 .by_cases h:c<=12
  .have:=g.s1 h; omega
  .have:=g.s2 (by omega); omega
def b63 (h:0<=w/\w<=13):SS.CC 234 [aP w] []=some (.tuple [aP (zn w:Int),.bool true],[]):=by
 have:w=0\/w=1\/w=2\/w=3\/w=4\/w=5\/w=6\/w=7\/w=8\/w=9\/w=10\/w=11\/w=12\/w=13:=by omega
 rcases this with rfl|rfl|rfl|rfl|rfl|rfl|rfl|rfl|rfl|rfl|rfl|rfl|rfl|rfl<;>(rw[aQ6]; rfl)
def FOk (n:Int) (x:EX):Prop:=∀ d c:Int,0<=d->d+(oO x:Int)<=9->0<=c->c+(gB x:Int)<=64->SS.CC 151 [A1 (ev x),aP n,aP d,ag] [mP (c,())]=some (aP 0,[mP (c+(gB x:Int),())])
def aOA {n d:Int} (j:0<=d) (m:d<=8) (all:List EX) (o:all.length<=3) (f:∀ e,e∈all->FOk n e) :
 ∀ (l:List EX) (k:Nat) (c:Int),all.drop k=l->k<=all.length->d+1+(II l:Int)<=9->0<=c->c+(qZ l:Int)<=64->Wx n d (o8 all) c (k:Int)=some (aP 0,[mP (c+(qZ l:Int),())])
 | [],k,c,b,hk,_,_,_=>by have g:all.length<=k:=NM.1 b;rw[a2L,aU (by rw[Au]; omega),qZ];simp
 | a::l,k,c,b,hk,p,g,q=>by
  obtain ⟨h,i,r⟩:=drop_cons b;have t:a∈all:=by rw[<- i]; exact dZ h
  rw[qZ] at q;rw[II] at p;have e:=f a t (d+1) c (by omega) (by omega) g (by omega);rw[a2L,aK (by rw[Au]; omega),aI,ET h,i,wrap64 (by omega) (by omega),K_ e];rw[show ((0:Int) != 0)=false from rfl,aF,wrap64 (by omega) (by omega),show ((k:Int)+1)=((k+1:Nat):Int) by omega];have:=aOA j m all o f l (k+1) (c+(gB a:Int)) r (by omega) (by omega) (by omega) (by omega);rw[this,qZ,show c+(gB a:Int)+(qZ l:Int)=c+((gB a+qZ l:Nat):Int) by omega]
theorem bAP (h:Fd w x):FOk w x:=by
 induction h with
 | @mk o v i l b e f p q h6 r _ g =>
  intro d c d0 j t m;rw[oO] at j;rw[gB] at m;have a:l.length<=3:=by grind [zn]
  have u:Wv w d (o,v,i,o8 l,()) (i64.wrap (c+1))=some (aP 0,[mP (c+((gB (.node o v i l):Nat):Int),())]):=by rw[aOJ,wrap64 (by omega) (by omega)];have:=aOA d0 (by omega) l a g l 0 (c+1) rfl (Dc _) (by omega) (by omega) (by omega);rw[gB];grind
  rw[aOL,kH];try dsimp only
  rw[show (c==64)=false by simp; omega,aU (by omega),aJZ (b63 ⟨b,e⟩)];rw[Au,show ((l.length:Int) !=(zn o:Int))=false by simp[f]];by_cases y:o=0
  .have hv:SS.CC 235 [aP v,aP 65536] []=iM:=by rw[aEO v,aU (by omega),aU (by omega)]; rfl
   rw[bC hv];simp_all
  grind [aI,aF]
theorem aIQ (h:Ty w y x):Fd w x:=by
 have c:∀ {o:Int} {l:List EX},2<=o->o<=13->l.length=zn o->(∀ e,e∈l->Fd w e)->Fd w (.node o 0 0 l):=fun b a g i => .mk (by omega) a g (fun _=>rfl) (fun _=>rfl) (fun h=>by omega) (fun h=>by omega) i
 have a2:∀ o:Int,(2<=o/\o<=4)\/(6<=o/\o<=9)\/(11<=o/\o<=12)->zn o=2:=fun o h=>by
  have:o=2\/o=3\/o=4\/o=6\/o=7\/o=8\/o=9\/o=11\/o=12:=by omega
  rcases this with rfl|rfl|rfl|rfl|rfl|rfl|rfl|rfl|rfl<;>rfl
 induction h with
 | EI b a=>exact .mk (by decide) (by decide) rfl (fun h=>absurd rfl h) (fun _=>rfl) (fun _=>by omega) (fun h=>by cases h) (by simp)
 | var b a=>exact .mk (by decide) (by decide) rfl (fun _=>rfl) (fun h=>absurd rfl h) (fun h=>by cases h) (fun _=>⟨b,a⟩) (by simp)
 | neg _ j=>exact c (by decide) (by decide) rfl (by grind)
 | sJ _ j=>exact c (by decide) (by decide) rfl (by grind)
 | ar b a _ _ d f=>grind
 | cmp b a _ _ d f=>grind
 | log b a _ _ d f=>grind
 | ite _ _ _ m d f=>exact c (by decide) (by decide) rfl (by simp_all)
theorem a0S (d:j.length<=1000) (h:∀ k,k∈j->k=w):SS.CC 236 [aP w,ag] [ja (fP j,())]=some (.bool true,[ja (fP j,())]):=by
 have b:SS.CC 283 [a_ (fP j),dm 238 [.cst (aP w)]] []=some (aP (-1),[]):=by
  rw[aQU];refine lS (n:=j.length) (L:=fun k=>XP (fP j) w (k:Int)) (fun k hk => ?_) ?_
  .rw[a3T,aK (by rw[aZ]; omega),aI,LK hk,vZ,bC (aQA _ w),show (j[k] != w)=false by grind [List.getElem_mem],aF,bK (by omega)]
  grind [a3T,aF]
 have c:SS.CC 237 [a_ (fP j),dm 238 [.cst (aP w)]] []=iM:=by rw[aQ9,bn b]; rfl
 rw[aQ8,bC c]; rfl
theorem kl (all:List EX) (a:List Int) (b:a.length=all.length) (c:all.length<=3) (hk:∀ j (h:j<all.length),SS.CC 152 [A1 (ev all[j])] []=some (aP (a[j]'(by omega)),[])/\a[j]'(by omega)≠0) :
 SS.CC 152 [A1 (w,y,I,o8 all,())] []=SG (w,y,I,o8 all,()) (all.length:Int) (fP a):=by
 rw[aOM];refine lS (n:=all.length) (L:=fun k=>SG (w,y,I,o8 all,()) (k:Int) (fP (a.take k))) (fun k h => ?_) ?_
 .obtain ⟨e,d⟩:=hk k h;rw[Oa];rw[aK (by rw[Au]; omega),aI,ET h,bn e];grind [aF,aQ,di,bK,List.take_succ_eq_append_getElem]
 grind
theorem c8Y (h:Ty w y x):SS.CC 152 [A1 (ev x)] []=some (aP y,[]):=by
 have m:∀ {o v i:Int},o=0\/o=1->SS.CC 152 [A1 (o,v,i,o8 [],())] []=some (aP 1,[]):=fun {o v i} h=>by rw[kl [] [] rfl (by decide) (fun j h=>by cases h),Oa];rcases h with rfl|rfl<;>rfl
 have one:∀ {o y:Int} {a:EX},(o=5/\y=1)\/(o=10/\y=2)->SS.CC 152 [A1 (ev a)] []=some (aP y,[])->SS.CC 152 [A1 (ev (kS o a))] []=some (aP y,[]):=fun {o y a} h e=>by rw[kH,kl [a] [y] rfl (by simp) (fun j p=>by grind),Oa];rcases h with ⟨rfl,rfl⟩|⟨rfl,rfl⟩<;>simp only[Int.reduceBEq,aF]<;>rw[VX (a0S (by simp) (by simp))]<;>rfl
 have q:∀ {o y r:Int} {a b:EX},(2<=o/\o<=4/\y=1/\r=1)\/(6<=o/\o<=9/\y=1/\r=2)\/(11<=o/\o<=12/\y=2/\r=2)->SS.CC 152 [A1 (ev a)] []=some (aP y,[])->SS.CC 152 [A1 (ev b)] []=some (aP y,[])->SS.CC 152 [A1 (ev (iQ o a b))] []=some (aP r,[]):=fun {o y r a b} h z A=>by
  rw[kH,kl [a,b] [y,y] rfl (by simp) (fun j p=>by grind),Oa];rcases h with ⟨d,f,rfl,rfl⟩|⟨d,f,rfl,rfl⟩|⟨d,f,rfl,rfl⟩
  .have:o=2\/o=3\/o=4:=by omega
   rcases this with rfl|rfl|rfl<;>simp only[Int.reduceBEq,aI]<;>rw[VX (a0S (by simp) (by simp))]<;>rfl
  .have:o=6\/o=7\/o=8\/o=9:=by omega
   rcases this with rfl|rfl|rfl|rfl<;>simp only[Int.reduceBEq,aF]<;>rw[VX (a0S (by simp) (by simp))]<;>rfl
  .have:o=11\/o=12:=by omega
   rcases this with rfl|rfl<;>simp only[Int.reduceBEq,aF]<;>rw[VX (a0S (by simp) (by simp))]<;>rfl
 induction h with
 | EI d f=>grind [nE,kH]
 | var d f=>grind [vE,kH]
 | neg _ t=>simp_all
 | sJ _ t=>simp_all
 | ar d f _ _ g l=>grind
 | cmp d f _ _ g l=>grind
 | log d f _ _ g l=>grind
 | @ite y c a b _ u _ B g l =>
  have hk:=b2K u;rw[kH,kl [c,a,b] [2,y,y] rfl (by simp) (fun j p=>by
   have:j=0\/j=1\/j=2:=by grind
   grind),Oa]
  rcases hk with rfl|rfl<;>simp only[Int.reduceBEq,aI]<;>rfl
theorem ZU (h:Ty w y x) (m:w<=16):x.Len:=by
 have f:∀ {o v i:Int} {l:List EX},0<=o->o<=13 -> -8<=v->v<=23->0<=i->i<=16->l.length<=3->(∀ e,e∈l->e.Len)->(EX.node o v i l).Len:=fun a b p q r h6 t g => .mk (by omega) ⟨by omega,by omega⟩ ⟨by omega,by omega⟩ ⟨by omega,by omega⟩ g
 induction h with
 | EI a b=>exact f (by decide) (by decide) a b (by decide) (by decide) (by decide) (by simp)
 | var a b=>exact f (by decide) (by decide) (by decide) (by decide) a (by omega) (by decide) (by simp)
 | neg _ j=>simp_all
 | sJ _ j=>simp_all
 | ar a b _ _ c d=>grind
 | cmp a b _ _ c d=>grind
 | log a b _ _ c d=>grind
 | ite _ _ _ u c d=>simp_all
theorem c8Z (h:Ty w y x) (a:0<=w) (b:w<=16) (c:oO x<=8) (d:gB x<=64):BU x w y=0:=by
 have e:SS.CC 43 [A1 (ev x),aP w] []=some (.tuple [aP y,aP 0],[]):=by rw[aCA,aU (by omega),aF,aU (by omega),aF,K_ (bAP (aIQ h) 1 0 (by decide) (by omega) (by decide) (by omega))];rw[show ((0:Int) != 0)=false from rfl,aF,bn (c8Y h)];have hk:=b2K h;rw[show (y==0)=false by simp; omega,aF]
 have f:=a1P (ZU h b) a;grind [BU]
def gI (F:Nat->List Tok):Nat->Nat->List Tok
 | _,0 => []
 | k,m+1=>F k ++ gI F (k+1) m
theorem aL' {L:List Tok->Nat->R} {F:Nat->List Tok} {n N:Nat} (a:∀ k,k<n->∀ A:List Tok,A.length+(F k).length<=N->L A k=L (A ++ F k) (k+1)):∀ (m k:Nat) (A:List Tok),k+m=n->A.length+(gI F k m).length<=N->L A k=L (A ++ gI F k m) n
 | 0,k,A,h,_=>by grind [gI]
 | m+1,k,A,h,b=>by rw[gI,aY] at b;rw[a k (by omega) A (by omega),aL' a m (k+1) _ (by omega) (by rw[aY]; omega),gI,zU]
def qC {L:List Tok->Nat->R} {F:Nat->List Tok} {n:Nat} (N:Nat) {A:List Tok} (a:∀ k,k<n->∀ A:List Tok,A.length+(F k).length<=N->L A k=L (A ++ F k) (k+1)) (b:A.length+(gI F 0 n).length<=N):L A 0=L (A ++ gI F 0 n) n:=aL' a n 0 A (by omega) b
def aLZ {a:Type} (l:List a) (d:a) (F:Nat->List Tok) (f:a->List Tok) (h:∀ k,k<l.length->F k=f (l.getD k d)):∀ (m k:Nat),k+m=l.length->gI F k m=(l.drop k).flatMap f
 | 0,k,e=>by rw[NP (by omega)]; rfl
 | m+1,k,e=>by rw[gI,aLZ l d F f h m (k+1) (by omega),h k (by omega),F7 (by omega:k<l.length),NQ,gD (by omega:k<l.length)]
def xy {l:List e} (d:e) {f:e->List Tok} (h:∀ k,k<l.length->J k=f (l.getD k d)):gI J 0 l.length=l.flatMap f:=aLZ l d J f h l.length 0 (by omega)
def aLY {F G:Nat->List Tok}:∀ (m k:Nat),(∀ i,k<=i->i<k+m->F i=G i)->gI F k m=gI G k m
 | 0,_,_=>rfl
 | m+1,k,h=>by rw[gI,gI,h k (dO _) (by omega),aLY m (k+1) fun i a b=>h i (by omega) (by omega)]
def QR (F:Nat->List Tok):∀ (m k:Nat),gI F (k+1) m=gI (fun i=>F (i+1)) k m
 | 0,_=>rfl
 | m+1,k=>by rw[gI,gI,QR F m (k+1)]
def aM1 {c:Type} (s:Tok) (d:c) (f:c->List Tok):∀ (l:List c) (a:List Tok),a ++ gI (fun k=>s::f (l.getD k d)) 0 l.length=iL s (a::l.map f)
 | [],a=>by rw[jv,gI,DY]; rfl
 | b::l,a=>by rw[bT,gI,QR];show a ++ (s::(f b ++ gI (fun k=>s::f (l.getD k d)) 0 l.length))=_;rw[aM1 s d f l (f b)]; rfl
def W_ {l:List e} (s:Tok) (d:e) {f:e->List Tok} (p:List Tok) (b:l ≠ []) (c:J 0=p ++ f (l.getD 0 d)) (h:∀ k,J (k+1)=s::f (l.getD (k+1) d)):gI J 0 l.length=p ++ iL s (l.map f):=by
 match l,b with
 | a::l,_ =>rw[bT,gI,QR,c,aLY (G:=fun k=>s::f (l.getD k d)) l.length 0 (fun i _ _=>h i),zU,aM1];rfl
def WJ {l:List e} (s:Tok) (d:e) {f:e->List Tok} (b:J 0=f (l.getD 0 d)) (h:∀ k,J (k+1)=s::f (l.getD (k+1) d)):gI J 0 l.length=iL s (l.map f):=by
 by_cases a:l = []
 .subst a; rfl
 .exact W_ s d [] a b h
theorem aB0 (I:Int) (a:List Int):∀ (l:List Nm) (k:Nat),gI (fun i=>CY I a (k+i) (l.getD i [])) 0 l.length=xG I a k l
 | [],_=>rfl
 | s::l,k=>by rw[bT,gI,QR,xG,<- aB0 I a l (k+1)];grind
def jH (h:A.length+i<=200000000):decide ((bu A).length+i<=aN)=true:=aK (by rw[oI]; show A.length+i<=1073741824; omega)
def rY (A:List Tok) (b:b_):bu A ++ ([.str b]:ai)=bu (A ++ [tW b.data.toList]):=by rw[ul];rfl
def KG (A:List Tok) (b c:b_):bu A ++ ([.str b,.str c]:ai)=bu (A ++ [tW b.data.toList,tW c.data.toList]):=by rw[ul];rfl
def ap3 (A:List Tok) (b c d:b_):bu A ++ ([.str b,.str c,.str d]:ai)=bu (A ++ [tW b.data.toList,tW c.data.toList,tW d.data.toList]):=by rw[ul];rfl
def ap4 (A:List Tok) (b c d e:b_):bu A ++ ([.str b,.str c,.str d,.str e]:ai)=bu (A ++ [tW b.data.toList,tW c.data.toList,tW d.data.toList,tW e.data.toList]):=by rw[ul];rfl
def ap5 (A:List Tok) (b c d e f:b_):bu A ++ ([.str b,.str c,.str d,.str e,.str f]:ai)=bu (A ++ [tW b.data.toList,tW c.data.toList,tW d.data.toList,tW e.data.toList,tW f.data.toList]):=by rw[ul];rfl
theorem zJ {B:List Tok} (h:A.map (·.text)=B.map (·.text)):bu A=bu B:=by
 have e:∀ T:List Tok,bu T=(T.map (·.text)).map fun s=>PV.str (bs s):=fun T=>by rw[AQ]; rfl
 rw[e,e,h]
theorem bd (s:Nm):(bs s).data.toList=s:=by simp[bs]
theorem YM (v:Int):(gU v).length<=2:=by grind [gU]
theorem b3A (l:List Nm) (b:l.length<=20000):SS.CC 77 [a_ (aJ l)] []=some (a_ (bu (iL (tS [44]) (l.map fun s => [tW s]))),[]):=by
 rw[bS8];have e:=qC (L:=fun A k=>TF (aJ l) (bu A) (k:Int)) (F:=fun k=>(if k=0 then [] else [tS [44]]) ++ [tW (l.getD k [])]) (n:=l.length) 100000000 (fun k hk A c=>by
  rw[aTJ,aK (by rw[fJ]; omega),aI,yx hk,je,bK (by omega),gD hk []];by_cases a:k=0
  .subst a;rw[aU (by decide),aF,aQ (jH (by omega)),rY];rfl
  .rw[aK (by omega),aI,aQ (jH (by omega)),rY,aQ (jH (by rw[aY,xg]; omega)),rY,bd];grind [zJ]) (by
  have:∀ (m k:Nat),(gI (fun k=>(if k=0 then [] else [tS [44]]) ++ [tW (l.getD k [])]) k m).length<=2*m:=by
   intro m;induction m with
   | zero=>intro k; exact Dc _
   | succ m d =>grind [gI]
  have:=this l.length 0;rw[jv]; omega)
 refine (show TF (aJ l) [] 0=_ from e).trans ?_;rw[aTJ,aU (by rw[fJ]; omega),aF,List.nil_append,WJ (tS [44]) [] (f:=fun s => [tW s]) rfl (fun k=>rfl)]
def LM (a:0<=w) (b:w<l.length) (K:PV->R):dD (aJ l) w K=K (.str (bs (l.getD w.toNat []))):=by
 have hk:w.toNat<l.length:=by omega
 have e:=yx hk K;rw[show ((w.toNat:Nat):Int)=w by omega] at e;rw[e,gD hk]
def aZ1 (l:List Int) (d:l.length<=20000) (k:Int):SS.CC 179 [a_ (fP l),aP k] []=some (.bool (decide (k∈l)),[]):=by
 have e:∃ r,XK (fP l) k ((0:Nat):Int)=some (aP r,[])/\decide (0<=r)=zl (fun i=>k==l.getD i 0) l.length:=by
  refine rJ (L:=fun i=>XK (fP l) k (i:Int)) (fun i a => ?_) ?_
  .rw[aQG,aK (by rw[bz]; omega),aI,LK a,vZ,bK (by omega),gD a 0]
  .rw[aQG,aU (by rw[bz]; omega),aF]
 obtain ⟨r,b,c⟩:=e;rw[bEQ,bn ((bJL _ _).trans b),c,aAR (fun y=>k==y) l 0];have:(l.any fun y=>k==y)=decide (k∈l):=by rw[Ef]; simp
 rw[this]
def cAG (t:Tm) (c:uz t) (A:List Tok) (d:A.length+(xG t.I t.mr 0 t.ls).length<=100000000):Kw (iD t) (bu A) 0=Ol (iD t) (bu (A ++ xG t.I t.mr 0 t.ls)) [] 0:=by
 have f:=aB0 t.I t.mr t.ls 0;have e:=qC (L:=fun A k=>Kw (iD t) (bu A) (k:Int)) (F:=fun k=>CY t.I t.mr (0+k) (t.ls.getD k [])) (n:=t.ls.length) 100000000 (fun k hk A d=>by
  have h:=c.ls.1;rw[aTI,aK (show (k:Int)<((iD t).2.1.length:Int) by rw[fJ]; omega),yx hk,je,aQ (jH (by omega)),KG,gD hk []];have g:∀ B:List Tok,B.length<=100000010->a5K (iD t) (bu B) (k:Int) (k:Int)=Kw (iD t) (bu (B ++ (if (k:Int)∈t.mr then [tW [109,97,114,107,101,100]] else []) ++ [tS [59]])) ((k+1:Nat):Int):=fun B i=>by
   rw[bRR,bC (aZ1 t.mr c.mr _),bK (by omega)];by_cases a:(k:Int)∈t.mr
   .rw[aK a,aI,aQ (jH (by omega)),rY,aQ (jH (by rw[aY,xg]; omega)),rY,ay a];congr 1
    exact zJ (by simp)
   .rw[aU a,aF,aQ (jH (by omega)),rY,aX a];congr 1
    exact zJ (by simp)
  by_cases b:(k:Int)=t.I
  .rw[a1S b,aQ (jH (by simp only[aY,bT,jv]; omega)),rY,g _ (by simp only[aY,bT,jv]; omega)];unfold CY;rw[xh,ay b,bd];simp
  .rw[aBB b,g _ (by simp only[aY,bT,jv]; omega)];unfold CY;rw[xh,aX b,bd];simp) (by rw[f]; exact d)
 refine (show Kw (iD t) (bu A) 0=_ from e).trans ?_;rw[f,aTI,aU (show ¬ (t.ls.length:Int)<((iD t).2.1.length:Int) by rw[fJ]; omega),aF]
def cAO (t:Tm) (g:uz t) (h:Df t) (A:List Tok) (a:A.length+(t.vs.flatMap qf).length<=100000000):Ol (iD t) (bu A) [] 0=IW (iD t) (bu (A ++ t.vs.flatMap qf)) 0 (aJ (t.vs.map (·.n))):=by
 have b:gI (fun k=>qf (t.vs.getD k dV)) 0 t.vs.length=t.vs.flatMap qf:=xy dV fun _ _=>rfl
 have e:=qC (L:=fun A k=>Ol (iD t) (bu A) (aJ ((t.vs.take k).map (·.n))) (k:Int)) (F:=fun k=>qf (t.vs.getD k dV)) 100000000 (fun k hk A a=>by
  have j:=g.vs.1;obtain ⟨_,c,d,f⟩:=h.vs _ (dZ hk);have a1:=YM (t.vs[k]).lo;have a2:=YM (t.vs[k]).hi;have a3:=YM (t.vs[k]).i;rw[aTF,aK (show (k:Int)<((iD t).2.2.2.2.2.2.2.1.length:Int) by rw[bz]; omega),aI,Ir hk,aQ (di (sH _ _ k j)),aQ (jH (by omega))];dsimp only;rw[nS (UG c.1 c.2),ap3,sG (·.n) t.vs hk,bK (by omega),gD hk dV];rw[aQ (jH (by rw[aY,oI]; simp only[bT,jv]; omega)),<- ul];rw[aQ (jH (by simp only[aY,bT,jv]; omega)),rY,nS (UG d.1 d.2)];rw[aQ (jH (by rw[oI]; simp only[aY,bT,jv]; omega)),<- ul];rw[aQ (jH (by simp only[aY,bT,jv]; omega)),rY,nS (UG f.1 f.2)];rw[aQ (jH (by rw[oI]; simp only[aY,bT,jv]; omega)),<- ul];rw[aQ (jH (by simp only[aY,bT,jv]; omega)),rY];congr 1
  refine zJ ?_;unfold qf;rw[bd];simp) (by rw[b]; exact a)
 refine (show Ol (iD t) (bu A) [] 0=_ from e).trans ?_;rw[b,aTF,aU (show ¬ (t.vs.length:Int)<((iD t).2.2.2.2.2.2.2.1.length:Int) by rw[bz]; omega),aF,VD (dO _)]
def exw (h:uy l.length x):SS.CC 180 [a_ (aJ l),A1 (ev x),aP 0] []=some (.sl true 1 (bu (vK l x)),[]):=by obtain ⟨a,b⟩:=OX h;exact (c2V l a h.len).1 (by omega) 0 (U4 x)
def aXR (h:uy l.length x):(vK l x).length<=512:=(OX h).2
def NF (t:Tm):(t.vs.map (·.n)).length=t.vs.length:=aZ _
def aF' {a b:PV} (K:PV->R):dD [a,b] (if (1:Int)<(i:Int) then (1:Int) else (i:Int)) K=K (if i=0 then a else b):=by
 by_cases h:i=0
 .subst h; rfl
 .rw[aX h,show (if (1:Int)<(i:Int) then (1:Int) else (i:Int))=1 by split<;>omega]; rfl
def cAN (t:Tm) (x:Mv) (o:x.us.length<=20000) (f:∀ u,u∈x.us->(0<=u.1/\u.1<t.vs.length)/\uy t.vs.length u.2) (A:List Tok) (k:Int) (g:A.length+(if x.us = [] then [] else tW [100,111]::iL (tS [44]) (x.us.map (lY (t.vs.map (·.n))))).length<=100001000) :
 TE (iD t) (bu A) (x.us.map sW) 0 (aJ (t.vs.map (·.n))) k=IW (iD t) (bu (A ++ (if x.us = [] then [] else tW [100,111]::iL (tS [44]) (x.us.map (lY (t.vs.map (·.n))))) ++ [tS [59]])) (i64.wrap (k+1)) (aJ (t.vs.map (·.n))):=by
 have d:gI (fun i=>(if i=0 then tW [100,111] else tS [44])::lY (t.vs.map (·.n)) (x.us.getD i dU)) 0 x.us.length=(if x.us = [] then [] else tW [100,111]::iL (tS [44]) (x.us.map (lY (t.vs.map (·.n))))):=by
  by_cases h:x.us = []
  .rw[h]; rfl
  .rw[aX h];exact W_ (tS [44]) dU [tW [100,111]] h rfl fun _=>rfl
 have e:=qC (L:=fun A i=>TE (iD t) (bu A) (x.us.map sW) (i:Int) (aJ (t.vs.map (·.n))) k) (F:=fun i=>(if i=0 then tW [100,111] else tS [44])::lY (t.vs.map (·.n)) (x.us.getD i dU)) 100001000 (fun i c B p=>by
  obtain ⟨⟨j,l⟩,m⟩:=f _ (dZ c);have a:uy (t.vs.map (·.n)).length (x.us[i]).2:=by rw[NF]; exact m
  have q:=aXR a;rw[aTH,aK (by rw[bz]; omega),aI,LQ c,aF'];rw[show (if i=0 then PV.str ⟨#[100,111]⟩ else PV.str ⟨#[44]⟩) = .str (if i=0 then ⟨#[100,111]⟩ else ⟨#[44]⟩) by split<;>rfl,je,LM j (by rw[NF]; exact l),je,aQ (jH (by omega)),nS (exw a),ap3,aQ (jH (by rw[oI]; simp only[aY,bT,jv]; omega)),<- ul,bK (by omega),gD c dU];congr 1
  refine zJ ?_;unfold lY;rw[bd];by_cases b:i=0
  .rw[ay b,ay b]; simp
  .rw[aX b,aX b]; simp) (by rw[d]; exact g)
 refine (show TE (iD t) (bu A) (x.us.map sW) 0 (aJ (t.vs.map (·.n))) k=_ from e).trans ?_;rw[d,aTH,aU (by rw[bz]; omega),aF,aQ (jH (by rw[aY]; omega)),rY];congr 1
 exact zJ (by simp)
def cAJ (t:Tm) (c:uz t) (l:Df t) (A:List Tok) (m:A.length+(t.ms.flatMap (nN t)).length<=100000000):IW (iD t) (bu A) 0 (aJ (t.vs.map (·.n)))=some (a_ (bu (A ++ t.ms.flatMap (nN t) ++ [tS [125]])),[]):=by
 have d:gI (fun k=>nN t (t.ms.getD k dM)) 0 t.ms.length=t.ms.flatMap (nN t):=xy dM fun _ _=>rfl
 have e:=qC (L:=fun A k=>IW (iD t) (bu A) (k:Int) (aJ (t.vs.map (·.n)))) (F:=fun k=>nN t (t.ms.getD k dM)) 100000000 (fun k hk B b=>by
  have u:=c.ms.1;obtain ⟨f,h,i,o,p⟩:=l.ms _ (dZ hk);obtain ⟨o1,q,v⟩:=c.ms.2 _ (dZ hk);have a:uy (t.vs.map (·.n)).length (t.ms[k]).g:=by rw[NF]; exact o
  have w:=aXR a;rw[gD hk dM] at b;unfold nN at b;simp only[aY,bT] at b;rw[aTG,aK (show (k:Int)<((iD t).2.2.2.2.2.2.2.2.1.length:Int) by rw[bz]; omega),U1 hk];try dsimp only
  rw[LM f.1 f.2,je];rw[LM h.1 h.2,je];rw[LM i.1 i.2,je];rw[aQ (jH (by omega)),eG g_,bC (fZ o1 tE),ap4,gD hk dM];have j:∀ C:List Tok,C.length+(if (t.ms[k]).us = [] then [] else tW [100,111]::iL (tS [44]) ((t.ms[k]).us.map (lY (t.vs.map (·.n))))).length<=100001000->a5J (iD t) (sU t.ms[k]) (bu C) (aJ (t.vs.map (·.n))) (k:Int)=IW (iD t) (bu (C ++ (if (t.ms[k]).us = [] then [] else tW [100,111]::iL (tS [44]) ((t.ms[k]).us.map (lY (t.vs.map (·.n))))) ++ [tS [59]])) ((k+1:Nat):Int) (aJ (t.vs.map (·.n))):=fun C r=>by rw[bRQ,<- bK (by omega)];exact cAN t _ q p C _ r
  cases hq:gX (t.ms[k]).g tE with
  | true =>rw[j _ (by simp only[aY,bT,jv]; omega)];unfold nN;rw[hq,bd,bd,bd];simp
  | false =>rw[aQ (jH (by simp only[aY,bT,jv]; omega)),nS (exw a),rY,aQ (jH (by rw[oI]; simp only[aY,bT,jv]; omega)),<- ul,j _ (by simp only[aY,bT,jv]; omega)];unfold nN;rw[hq,bd,bd,bd];simp) (by rw[d]; exact m)
 refine (show IW (iD t) (bu A) 0 (aJ (t.vs.map (·.n)))=_ from e).trans ?_;rw[d,aTG,aU (show ¬ (t.ms.length:Int)<((iD t).2.2.2.2.2.2.2.2.1.length:Int) by rw[bz]; omega),aF,aQ (jH (by rw[aY]; omega)),rY];rw[zJ (B:=A ++ t.ms.flatMap (nN t) ++ [tS [125]]) (by simp)]
def cAK (t:Tm) (a:uz t) (b:Df t) (c:(mZ t).length<=100000000):SS.CC 75 [A5 (iD t)] []=some (a_ (bu (mZ t)),[]):=by unfold mZ xJ at c;simp only[aY,bT,jv] at c;rw[bS4,vk (b3A t.es a.es.1),aQ (aK (by rw[oI]; show _<=1073741824; omega))];have d:([cEX [116,101,109,112,108,97,116,101],.str (iD t).1,cEX [40]]:ai)=bu [tW [116,101,109,112,108,97,116,101],tW t.n,tS [40]]:=rfl;rw[d,<- ul,aQ (jH (by simp only[aY,bT,jv]; omega)),KG,cAG t a _ (by simp only[aY,bT,jv]; omega),cAO t a b _ (by simp only[aY,bT,jv]; omega),cAJ t a b _ (by simp only[aY,bT,jv]; omega)];rw[zJ (B:=mZ t) (by unfold mZ xJ; simp)]
def cAD (m:Mo) (e:nD) (A:List Tok) (h:A.length<=100000100) (k:Int):C9 (aV m) (ou e) (bu A) 0 k=C9 (aV m) (ou e) (bu (A ++ (if e.c then [tW [99,111,110,116,114,111,108,108,97,98,108,101]] else []) ++ (if e.o then [tW [111,98,115,101,114,118,97,98,108,101]] else []) ++ (if e.f then [tW [102,111,114,99,105,98,108,101]] else []))) 3 k:=by
 have s0:∀ B:List Tok,B.length<=100000200->C9 (aV m) (ou e) (bu B) 0 k=C9 (aV m) (ou e) (bu (B ++ (if e.c then [tW [99,111,110,116,114,111,108,108,97,98,108,101]] else []))) 1 k:=fun B a=>by
  rw[a3G,nK (e := .bool e.c) (by decide) rfl,BX];cases e.c with
  | true=>rw[nK (by decide) rfl,je,aQ (jH (by omega)),rY]; congr 1
  | false=>rw[aX V9,DY]; rfl
 have s1:∀ B:List Tok,B.length<=100000200->C9 (aV m) (ou e) (bu B) 1 k=C9 (aV m) (ou e) (bu (B ++ (if e.o then [tW [111,98,115,101,114,118,97,98,108,101]] else []))) 2 k:=fun B a=>by
  rw[a3G,nK (e := .bool e.o) (by decide) rfl,BX];cases e.o with
  | true=>rw[nK (by decide) rfl,je,aQ (jH (by omega)),rY]; congr 1
  | false=>rw[aX V9,DY]; rfl
 have g:∀ B:List Tok,B.length<=100000200->C9 (aV m) (ou e) (bu B) 2 k=C9 (aV m) (ou e) (bu (B ++ (if e.f then [tW [102,111,114,99,105,98,108,101]] else []))) 3 k:=fun B a=>by
  rw[a3G,nK (e := .bool e.f) (by decide) rfl,BX];cases e.f with
  | true=>rw[nK (by decide) rfl,je,aQ (jH (by omega)),rY]; congr 1
  | false=>rw[aX V9,DY]; rfl
 have d:∀ (b:Bool) (w:Nm),(if b then [tW w] else []).length<=1:=fun b w=>by cases b<;>simp
 have i:=d e.c [99,111,110,116,114,111,108,108,97,98,108,101];have j:=d e.o [111,98,115,101,114,118,97,98,108,101];rw[s0 A (by omega),s1 _ (by rw[aY]; omega),g _ (by rw[aY,aY]; omega)]
def cAC (m:Mo) (h:lm m) (i:FD m) (A:List Tok) (j:A.length+(m.es.flatMap tu).length<=100000000):Oh (aV m) (bu A) 0=Og (aV m) (bu (A ++ m.es.flatMap tu)) 0:=by
 have d:gI (fun k=>tu (m.es.getD k dE)) 0 m.es.length=m.es.flatMap tu:=xy dE fun _ _=>rfl
 have e:=qC (L:=fun A k=>Oh (aV m) (bu A) (k:Int)) (F:=fun k=>tu (m.es.getD k dE)) 100000000 (fun k hk B r=>by
  have t:=h.es.1;obtain ⟨_,k0,k4⟩:=i.es _ (dZ hk);rw[aPU,aK (show (k:Int)<((aV m).2.1.length:Int) by rw[bz]; omega),aI,P6 hk,aQ (jH (by omega)),KG,cAD m _ _ (by simp only[aY,bT,jv]; omega),gD hk dE];rw[a3G,aU (by decide),aF,bK (by omega)];dsimp only;generalize b:B ++ _ ++ _ ++ _ ++ _=C;have l:C.length<=B.length+5:=by rw[<- b];cases (m.es[k]).c<;>cases (m.es[k]).o<;>cases (m.es[k]).f<;>simp
  have g:tu (m.es[k]) = [tW [101,118,101,110,116],tW (m.es[k]).n] ++ (if (m.es[k]).c then [tW [99,111,110,116,114,111,108,108,97,98,108,101]] else []) ++ (if (m.es[k]).o then [tW [111,98,115,101,114,118,97,98,108,101]] else []) ++ (if (m.es[k]).f then [tW [102,111,114,99,105,98,108,101]] else []) ++ (if (m.es[k]).k=0 then [] else tW [102,97,117,108,116]::gU (m.es[k]).k) ++ [tS [59]]:=rfl;by_cases a:(m.es[k]).k=0
  .rw[aU (by omega),aF,aQ (jH (by omega)),rY];congr 1
   refine zJ ?_;rw[g,ay a,<- b,bd];simp
  .have p:gU (m.es[k]).k = [tN (m.es[k]).k.toNat]:=aX (by omega);have q:SS.CC 74 [aP (m.es[k]).k] []=some (.str (bs (Lib.decDigits (m.es[k]).k.toNat)),[]):=by have:=a6Q (m.es[k]).k.toNat (by omega);rwa [show (((m.es[k]).k.toNat:Nat):Int)=(m.es[k]).k by omega] at this
   rw[aK (by omega),aI,nR q,aQ (jH (by omega)),KG,aQ (jH (by simp only[aY,bT,jv]; omega)),rY];congr 1
   refine zJ ?_;rw[g,aX a,p,<- b,bd,bd];simp) (by rw[d]; exact j)
 refine (show Oh (aV m) (bu A) 0=_ from e).trans ?_;rw[d,aPU,aU (show ¬ (m.es.length:Int)<((aV m).2.1.length:Int) by rw[bz]; omega),aF]
def cAM (m:Mo) (a:lm m) (c:FD m) (A:List Tok) (d:A.length+(m.ts.flatMap mZ).length<=100000000):Og (aV m) (bu A) 0=KZ (aV m) ((m.cs ++ m.rs).map dN) (((m.cs ++ m.rs).map dN).length:Int) (bu (A ++ m.ts.flatMap mZ)) 0:=by
 have b:gI (fun k=>mZ (m.ts.getD k dT)) 0 m.ts.length=m.ts.flatMap mZ:=xy dT fun _ _=>rfl
 have e:=qC (L:=fun A k=>Og (aV m) (bu A) (k:Int)) (F:=fun k=>mZ (m.ts.getD k dT)) 100000000 (fun k hk B f=>by have g:=a.ts.1;rw[gD hk dT] at f;rw[aPO,aK (show (k:Int)<((aV m).2.2.1.length:Int) by rw[bz]; omega),aI,Iq hk,vk (cAK _ (a.ts.2 _ (dZ hk)).2 (c.ts _ (dZ hk)).2 (by omega)),aQ (jH (by rw[oI]; omega)),<- ul,bK (by omega),gD hk dT]) (by rw[b]; exact d);refine (show Og (aV m) (bu A) 0=_ from e).trans ?_;rw[b,aPO,aU (show ¬ (m.ts.length:Int)<((aV m).2.2.1.length:Int) by rw[bz]; omega),aF,Jk (KL m.cs a.is.1),aQ (by rw[aZ]; exact EU a.is.1 (by rw[aZ]; exact a.is.2.1))];rw[<- pq]
def aLX (F:Nat->List Tok):∀ (a k b:Nat),gI F k (a+b)=gI F k a ++ gI F (k+a) b
 | 0,k,b=>by rw[xh,gI,List.nil_append,VE]
 | a+1,k,b=>by rw[show a+1+b=(a+b)+1 by omega,gI,aLX F a (k+1) b,gI,zU,show k+1+a=k+(a+1) by omega]
def aM0 (F:Nat->List Tok) (a:Nat):∀ (m k:Nat),gI F (k+a) m=gI (fun i=>F (i+a)) k m
 | 0,_=>rfl
 | m+1,k=>by rw[gI,gI,show k+a+1=(k+1)+a by omega,aM0 F a m (k+1)]
def b7' (a b:List Ins):gI (fun k=>kJ (if k<a.length then wC else wR) ((a ++ b).getD k dI)) 0 (a ++ b).length=a.flatMap (kJ wC) ++ b.flatMap (kJ wR):=by
 rw[aY,aLX,xh];congr 1
 .refine xy dI fun k hk => ?_
  rw[ay hk,gD (by rw[aY]; omega),gD hk,List.getElem_append_left hk]
 .have:=aM0 (fun k=>kJ (if k<a.length then wC else wR) ((a ++ b).getD k dI)) a.length b.length 0;rw[xh] at this;rw[this];refine xy dI fun k hk => ?_
  rw[aX (by omega),gD (by rw[aY]; omega),gD hk,List.getElem_append_right (by omega)];congr 2
  omega
def cAE (m:Mo) (f:lm m) (g:m.cs.length+m.rs.length<=20000) (A:List Tok) (h:A.length+(m.cs.flatMap (kJ wC) ++ m.rs.flatMap (kJ wR)).length<=100000000):KZ (aV m) ((m.cs ++ m.rs).map dN) (((m.cs ++ m.rs).map dN).length:Int) (bu A) 0=Ko (aV m) (bu (A ++ (m.cs.flatMap (kJ wC) ++ m.rs.flatMap (kJ wR)))) 0:=by
 have j:(m.cs ++ m.rs).length<=20000:=by rw[aY]; exact g
 have c:=b7' m.cs m.rs;have e:=qC (L:=fun A k=>KZ (aV m) ((m.cs ++ m.rs).map dN) (((m.cs ++ m.rs).map dN).length:Int) (bu A) (k:Int)) (F:=fun k=>kJ (if k<m.cs.length then wC else wR) ((m.cs ++ m.rs).getD k dI)) 100000000 (fun k hk B b=>by
  obtain ⟨_,_,i⟩:=f.is.2.2 _ (dZ hk);rw[gD hk dI] at b;have d:∀ w:Nm,B.length+(kJ w (m.cs ++ m.rs)[k]).length<=100000000->a3F (aV m) ((m.cs ++ m.rs).map dN) (((m.cs ++ m.rs).map dN).length:Int) (He (m.cs ++ m.rs)[k]) (bs w) (bu B) (k:Int)=KZ (aV m) ((m.cs ++ m.rs).map dN) (((m.cs ++ m.rs).map dN).length:Int) (bu (B ++ kJ w (m.cs ++ m.rs)[k])) ((k+1:Nat):Int):=fun w a=>by
   unfold kJ xJ at a;simp only[aY,bT] at a;rw[bFB,aQ (jH (by omega)),vk (b3A _ i.1),ap5];rw[aQ (jH (by rw[oI]; simp only[aY,bT]; omega)),<- ul,aQ (jH (by simp only[aY,bT]; omega)),KG,bK (by omega)];congr 1
   refine zJ ?_;unfold kJ xJ;rw[bd,bd,bd];simp
  rw[aPP,aK (by rw[bz]; omega),aI,BD hk,bz,gD hk dI];by_cases a:k<m.cs.length
  .rw[aU (by omega),aF,ay a];exact d wC b
  .rw[aK (by omega),aI,aX a];exact d wR b) (by rw[c]; exact h)
 refine (show KZ (aV m) ((m.cs ++ m.rs).map dN) (((m.cs ++ m.rs).map dN).length:Int) (bu A) 0=_ from e).trans ?_;rw[c,aPP,aU (by rw[bz]; omega),aF]
def a'Q {a b:b_}:(if i=0 then PV.str a else PV.str b) = .str (if i=0 then a else b):=by split<;>rfl
def cAH (m:Mo) (x:qj) (f:x.ls.length<=20000) (d:x.ls ≠ []) (A:List Tok) (k:Int) (g:A.length+(iL (tS [44]) (x.ls.map fun l => [tW l.1,tW l.2])).length<=100000100):SL (aV m) (x.ls.map yE) (bu A) 0 k=Ko (aV m) (bu (A ++ tS [58]::iL (tS [44]) (x.ls.map fun l => [tW l.1,tW l.2]) ++ [tS [59]])) (i64.wrap (k+1)):=by
 have b:gI (fun i=>(if i=0 then tS [58] else tS [44]) :: [tW (x.ls.getD i dL).1,tW (x.ls.getD i dL).2]) 0 x.ls.length = [tS [58]] ++ iL (tS [44]) (x.ls.map fun l => [tW l.1,tW l.2]):=W_ (tS [44]) dL [tS [58]] d rfl fun _=>rfl
 have e:=qC (L:=fun A i=>SL (aV m) (x.ls.map yE) (bu A) (i:Int) k) (F:=fun i=>(if i=0 then tS [58] else tS [44]) :: [tW (x.ls.getD i dL).1,tW (x.ls.getD i dL).2]) (n:=x.ls.length) 100000200 (A:=A) (fun i c B h=>by
  rw[aPR,aK (by rw[bz]; omega),aI,P7 c,aF',a'Q,je,aQ (jH (by omega)),ap3,bK (by omega),gD c dL];congr 1
  refine zJ ?_;rw[bd,bd];by_cases a:i=0
  .rw[ay a,ay a]; simp
  .rw[aX a,aX a]; simp) (by rw[b,aY,xg]; omega)
 refine (show SL (aV m) (x.ls.map yE) (bu A) 0 k=_ from e).trans ?_;rw[b,aPR,aU (by rw[bz]; omega),aF,aQ (jH (by simp only[aY,bT,jv]; omega)),rY];congr 1
 exact zJ (by simp)
def cAP (m:Mo) (b:lm m) (d:FD m) (A:List Tok) (f:A.length+(m.xs.flatMap sZ).length<=100000000):Ko (aV m) (bu A) 0=Kr (m.ks.map oZ) (bu (A ++ m.xs.flatMap sZ)) 0:=by
 have c:gI (fun k=>sZ (m.xs.getD k dX)) 0 m.xs.length=m.xs.flatMap sZ:=xy dX fun _ _=>rfl
 have e:=qC (L:=fun A k=>Ko (aV m) (bu A) (k:Int)) (F:=fun k=>sZ (m.xs.getD k dX)) 100000000 (fun k hk B a=>by have i:=b.xs.1;obtain ⟨_,g,_⟩:=b.xs.2 _ (dZ hk);obtain ⟨_,h,_⟩:=d.xs _ (dZ hk);rw[gD hk dX] at a;unfold sZ at a;simp only[aY,bT] at a;rw[aPQ,aK (show (k:Int)<((aV m).2.2.2.2.2.1.length:Int) by rw[bz]; omega),Gf hk,aQ (jH (by omega)),KG];refine (cAH m _ g h _ _ (by simp only[aY,bT]; omega)).trans ?_;rw[bK (by omega),gD hk dX];unfold sZ;rw[bd];simp) (by rw[c]; exact f);refine (show Ko (aV m) (bu A) 0=_ from e).trans ?_;rw[c,aPQ,aU (show ¬ (m.xs.length:Int)<((aV m).2.2.2.2.2.1.length:Int) by rw[bz]; omega),aF]
def cAL (P:ai) (x:Cst) (n:x.ts.length<=20000) (j:x.ts ≠ []) (d:p_ x.b) (m:∀ l,l∈x.ts->p_ l.2) (A:List Tok) (k:Int) (o:A.length+(iL (tS [43]) (x.ts.map fun l=>gU l.2 ++ [tS [42],tW l.1])).length<=100000100):SN P (um x) (bu A) 0 k=Kr P (bu (A ++ tS [58]::iL (tS [43]) (x.ts.map fun l=>gU l.2 ++ [tS [42],tW l.1]) ++ [tS [60,61]] ++ gU x.b ++ [tS [59]])) (i64.wrap (k+1)):=by
 have f:gI (fun i=>(if i=0 then tS [58] else tS [43])::(gU (x.ts.getD i dR).2 ++ [tS [42],tW (x.ts.getD i dR).1])) 0 x.ts.length = [tS [58]] ++ iL (tS [43]) (x.ts.map fun l=>gU l.2 ++ [tS [42],tW l.1]):=W_ (tS [43]) dR [tS [58]] j rfl fun _=>rfl
 have e:=qC (L:=fun A i=>SN P (um x) (bu A) (i:Int) k) (F:=fun i=>(if i=0 then tS [58] else tS [43])::(gU (x.ts.getD i dR).2 ++ [tS [42],tW (x.ts.getD i dR).1])) 100000200 (A:=A) (fun i a B g=>by
  have h:=m _ (dZ a);rw[gD a dR] at g;simp only[aY,bT] at g;rw[aPT,aK (show (i:Int)<((um x).2.1.length:Int) by rw[bz]; omega),aI,P8 a,aF',a'Q,je,aQ (jH (by omega))];rw[nS (UG h.1 h.2),rY,aQ (jH (by rw[oI]; simp only[aY,bT]; omega)),<- ul,aQ (jH (by simp only[aY,bT]; omega)),KG,bK (by omega),gD a dR];congr 1
  refine zJ ?_;rw[bd];by_cases c:i=0
  .rw[ay c,ay c]; simp
  .rw[aX c,aX c]; simp) (by rw[f,aY,xg]; omega)
 have hq:=YM x.b;refine (show SN P (um x) (bu A) 0 k=_ from e).trans ?_;rw[f,aPT,aU (show ¬ (x.ts.length:Int)<((um x).2.1.length:Int) by rw[bz]; omega),aF,aQ (jH (by simp only[aY,bT,jv]; omega)),rY];rw[nS (UG d.1 d.2),aQ (jH (by rw[oI]; simp only[aY,bT,jv]; omega)),<- ul,aQ (jH (by simp only[aY,bT,jv]; omega)),rY];congr 1
 exact zJ (by simp)
def cAF (l:List Cst) (n:l.length<=20000) (d:∀ x,x∈l->x.ts.length<=20000) (f:∀ x,x∈l->x.ts ≠ []/\p_ x.b/\∀ t,t∈x.ts->p_ t.2) (A:List Tok) (g:A.length+(l.flatMap ru).length<=100000000):Kr (l.map oZ) (bu A) 0=some (a_ (bu (A ++ l.flatMap ru)),[]):=by
 have c:gI (fun k=>ru (l.getD k dK)) 0 l.length=l.flatMap ru:=xy dK fun _ _=>rfl
 have e:=qC (L:=fun A k=>Kr (l.map oZ) (bu A) (k:Int)) (F:=fun k=>ru (l.getD k dK)) 100000000 (fun k hk B a=>by have h:=d _ (dZ hk);obtain ⟨i,j,m⟩:=f _ (dZ hk);rw[gD hk dK] at a;unfold ru at a;simp only[aY,bT] at a;rw[aPS,aK (by rw[bz]; omega),Ip hk,aQ (jH (by omega)),KG];refine (cAL _ _ h i j m _ _ (by simp only[aY,bT]; omega)).trans ?_;rw[bK (by omega),gD hk dK];unfold ru;rw[bd];simp) (by rw[c]; exact g);refine (show Kr (l.map oZ) (bu A) 0=_ from e).trans ?_;rw[c,aPS,aU (by rw[bz]; omega),aF]
def cAI (m:Mo) (a:lm m) (b:FD m) (e:m.cs.length+m.rs.length<=20000) (d:(kw m).length<=100000000):SS.CC 22 [A0 (aV m)] []=some (a_ (bu (kw m)),[]):=by unfold kw at d;simp only[aY,bT] at d;rw[bF'];have f:([cEX [109,111,100,101,108],.str (aV m).1,cEX [59]]:ai)=bu [tW [109,111,100,101,108],tW m.n,tS [59]]:=rfl;rw[f,cAC m a b _ (by simp only[bT]; omega),cAM m a b _ (by simp only[aY,bT]; omega),cAE m a e _ (by simp only[aY,bT]; omega),cAP m a b _ (by simp only[aY,bT]; omega),cAF m.ks a.ks.1 (fun x c=>(a.ks.2 x c).2.1) (fun x c=>⟨(b.ks x c).2.1,(b.ks x c).2.2.1,fun t g=>((b.ks x c).2.2.2 t g).2⟩) _ (by simp only[aY,bT]; omega)];unfold kw;simp only[zU]
abbrev Ja (A:List Tok):R:=bi [aG (fK A)]
theorem Ux (a:ai) (s:b_) (k:Nat) (A:List Tok) (hk:a[k]? = some (.str s)) (b:k<20000) (h:A.length+1<=1000000):SI a (A.map bM) (k:Int)=SI a ((A ++ [tW s.data.toList]).map bM) ((k+1:Nat):Int):=by
 have c:k<a.length:=by grind
 rw[a3A,aK (by omega),aI,nK (by omega) (by exact hk),je,aQ (aK (by rw[aZ]; show _<=1073741824; omega)),bK (by omega),pq,show [tW s.data.toList].map bM = [rU (1,bs s.data.toList,0,0,0,())] from rfl,a1G]
def b3C (a:ai) (k:Nat) (A:List Tok) (hk:a.length=k):SI a (A.map bM) (k:Int)=Ja A:=by rw[a3A,aU (by omega),aF]
def Jb (s r:b_) (A:List Tok) (h:A.length+2<=1000000):SS.CC 141 [ag,a_ [.str s,.str r]] [aG (fK A)]=Ja (A ++ [tW s.data.toList,tW r.data.toList]):=by rw[aBT];refine (Ux _ s 0 A rfl (by decide) (by omega)).trans ?_;refine (Ux _ r 1 _ rfl (by decide) (by simp; omega)).trans ?_;rw[b3C _ 2 _ rfl,zU]; rfl
def wo4 (s r u v:b_) (A:List Tok) (h:A.length+4<=1000000):SS.CC 141 [ag,a_ [.str s,.str r,.str u,.str v]] [aG (fK A)]=Ja (A ++ [tW s.data.toList,tW r.data.toList,tW u.data.toList,tW v.data.toList]):=by rw[aBT];refine (Ux _ s 0 A rfl (by decide) (by omega)).trans ?_;refine (Ux _ r 1 _ rfl (by decide) (by simp; omega)).trans ?_;refine (Ux _ u 2 _ rfl (by decide) (by simp; omega)).trans ?_;refine (Ux _ v 3 _ rfl (by decide) (by simp; omega)).trans ?_;rw[b3C _ 4 _ rfl];simp
def aZE (l:List Nm) (hk:i<l.length) (A:List Tok) (h:A.length+1<=1000000):SS.CC 230 [aP (i:Int),ag,.cst (a_ (aJ l))] [some [.ptr 1 0],aG (fK A)]=bi [some [.ptr 1 0],aG (fK (A ++ [tW l[i]]))]:=by rw[bJO,yx hk,je,bf (zO _ A h),bd]
theorem aZ6 (l:List Nm) (f:l.length<=20000) (A:List Tok) (b:A.length+(xJ l).length<=1000000):SS.CC 145 [ag,a_ (aJ l)] [aG (fK A)]=Ja (A ++ xJ l):=by
 unfold xJ at b;simp only[bT] at b;have g:gI (fun k=>(if k=0 then [] else [tS [44]]) ++ [tW (l.getD k [])]) 0 l.length=iL (tS [44]) (l.map fun s => [tW s]):=WJ (tS [44]) [] rfl (fun _=>rfl);have e:=qC (L:=fun A k=>XD ⟨#[44]⟩ (aJ l) (l.length:Int) (A.map bM) (k:Int)) (F:=fun k=>(if k=0 then [] else [tS [44]]) ++ [tW (l.getD k [])]) (n:=l.length) 1000000 (A:=A ++ [tS [40]]) (fun k hk B a=>by
  rw[aY] at a;simp only[bT] at a;rw[aPX,aK (by omega),aI,bK (by omega),gD hk []];by_cases c:k=0
  .rw[aU (by omega),qJ (aZE l hk B (by omega)),ay c];try rfl
  .rw[aX c] at a ⊢;simp only[bT] at a;rw[aK (by omega),aI,bf (lX _ B (by omega)),qJ (aZE l hk _ (by simp; omega)),zU]) (by grind)
 have d:SS.CC 146 [ag,aP ((aJ l).length:Int),cEX [44],dm 230 [.ptr 1 0,.cst (a_ (aJ l))]] [aG (fK (A ++ [tS [40]])),some [ag]]=bi [aG (fK (A ++ [tS [40]] ++ iL (tS [44]) (l.map fun s => [tW s]))),some [ag]]:=by rw[bG8,fJ];grind [aPX,aF]
 rw[bFA,bf (lX ⟨#[40]⟩ A (by omega))];refine (b4F d).trans ?_;rw[bf (lX ⟨#[41]⟩ _ (by grind))];grind [xJ]
def exC (h:uy l.length x) (A:List Tok) (d:A.length+(vK l x).length+1<=1000000):SS.CC 44 [ag,a_ (aJ l),A1 (ev x),aP 0] [aG (fK A)]=Ja (A ++ vK l x):=by
 obtain ⟨f,i⟩:=OX h;obtain ⟨a,b,c⟩:=c30 l f h.len;have e:=Je h.len b c a 0;have g:wp x 0 (vK l x)=vK l x:=by unfold wp;rw[aX (by have:=U4 x; omega)]
 rw[g] at e;exact e A d
theorem aJA (l:List Vr) (a:l.length<=20000):SS.CC 228 [.sl false 4 (l.map jI)] []=some (.sl true 1 (aJ (l.map (·.n))),[]):=by
 have e:SS.CC 277 [.sl false 4 (l.map jI),eu 278] []=some (.sl true 1 (aJ (l.map (·.n))),[]):=by
  rw[bNP];refine lS (n:=l.length) (L:=fun k=>V5 (l.map jI) (aJ ((l.take k).map (·.n))) (k:Int)) (fun k hk => ?_) ?_
  .rw[aRT,aK (by rw[bz]; omega),aI,Ir hk,nR (bNQ _),aQ (di (sH _ l k a)),sG (·.n) l hk,bK (by omega)]
  grind [aRT,aF]
 rw[bJM,nS e]
theorem b7K (t:Tm) (d:uz t) (a:ai) (A:List Tok) (g:A.length+(xG t.I t.mr 0 t.ls).length<=1000000):Oe (bs t.n) (aJ t.ls) (aJ t.es) (jP t) (A.map bM) a 0=SK (bs t.n) (aJ t.ls) (aJ t.es) (jP t) ((A ++ xG t.I t.mr 0 t.ls).map bM) a 0:=by
 have h:=aB0 t.I t.mr t.ls 0;have e:=qC (L:=fun A k=>Oe (bs t.n) (aJ t.ls) (aJ t.es) (jP t) (A.map bM) a (k:Int)) (F:=fun k=>CY t.I t.mr (0+k) (t.ls.getD k [])) (n:=t.ls.length) 1000000 (fun k hk B f=>by
  have j:=d.ls.1;unfold CY at f;simp only[aY,bT] at f;rw[aPJ,aK (by rw[fJ]; omega),aI,yx hk,je,bf (Jb _ _ B (by omega))];have l:∀ C:List Tok,C.length+(if (k:Int)∈t.mr then [tW [109,97,114,107,101,100]] else []).length+1<=1000000->a3C (bs t.n) (aJ t.ls) (aJ t.es) (jP t) (C.map bM) a (k:Int) (k:Int)=Oe (bs t.n) (aJ t.ls) (aJ t.es) (jP t) ((C ++ (if (k:Int)∈t.mr then [tW [109,97,114,107,101,100]] else []) ++ [tS [59]]).map bM) a ((k+1:Nat):Int):=fun C c=>by
   rw[bEY,bC (aZ1 t.mr d.mr _),bK (by omega)];by_cases b:(k:Int)∈t.mr
   .rw[ay b] at c ⊢;simp only[bT] at c;rw[aK b,aI,bf (zO ⟨#[109,97,114,107,101,100]⟩ C (by omega)),bf (lX ⟨#[59]⟩ _ (by simp; omega))]
   .rw[aX b] at c ⊢;rw[aU b,aF,bf (lX ⟨#[59]⟩ C (by omega)),DY]
  by_cases i:(k:Int)=t.I
  .rw[show ((k:Int)==(jP t).2.2.1)=true from a1S i,aI,bf (zO _ _ (by simp; omega))];grind [CY,bd]
  grind [aF,CY,bd]) (by rw[h]; exact g)
 grind [aPJ,fJ,aF]
theorem b7S (t:Tm) (g:uz t) (h:Df t) (a:ai) (A:List Tok) (i:A.length+(t.vs.flatMap qf).length<=1000000):SK (bs t.n) (aJ t.ls) (aJ t.es) (jP t) (A.map bM) a 0=IP (bs t.n) (aJ t.ls) (aJ t.es) (jP t) ((A ++ t.vs.flatMap qf).map bM) a 0:=by
 have j:gI (fun k=>qf (t.vs.getD k dV)) 0 t.vs.length=t.vs.flatMap qf:=xy dV fun _ _=>rfl
 have e:=qC (L:=fun A k=>SK (bs t.n) (aJ t.ls) (aJ t.es) (jP t) (A.map bM) a (k:Int)) (F:=fun k=>qf (t.vs.getD k dV)) (n:=t.vs.length) 1000000 (A:=A) (fun k hk B b=>by have l:=g.vs.1;obtain ⟨_,c,d,f⟩:=h.vs _ (dZ hk);rw[gD hk dV] at b;unfold qf at b;simp only[aY,bT,jv] at b;rw[aPH,aK (show (k:Int)<((jP t).2.2.2.2.1.length:Int) by rw[bz]; omega),aI,Ir hk,bf (Jb _ _ B (by omega))];dsimp only;rw[bf (lX _ _ (by grind))];rw[bf (Lc c.1 c.2 _ (by grind))];rw[bf (lX _ _ (by grind))];rw[bf (Lc d.1 d.2 _ (by grind))];rw[bf (lX _ _ (by grind))];rw[bf (Lc f.1 f.2 _ (by grind))];rw[bf (lX _ _ (by grind)),bK (by omega),gD hk dV];grind [qf,bd]) (by rw[j]; exact i);grind [aPH,aF]
theorem b7R (t:Tm) (x:Mv) (m:x.us.length<=20000) (f:∀ u,u∈x.us->(0<=u.1/\u.1<t.vs.length)/\uy t.vs.length u.2) (A:List Tok) (o:A.length+(iL (tS [44]) (x.us.map (lY (t.vs.map (·.n))))).length+1<=1000000) :
 SS.CC 146 [ag,aP (x.us.length:Int),cEX [44],dm 229 [.ptr 1 0,.ptr 2 0,.ptr 3 0]] [aG (fK A),some [ag],ja (aJ (t.vs.map (·.n)),()),O9 (sU x)]=bi [aG (fK (A ++ iL (tS [44]) (x.us.map (lY (t.vs.map (·.n)))))),some [ag],ja (aJ (t.vs.map (·.n)),()),O9 (sU x)]:=by
 have g:gI (fun i=>(if i=0 then [] else [tS [44]]) ++ lY (t.vs.map (·.n)) (x.us.getD i dU)) 0 x.us.length=iL (tS [44]) (x.us.map (lY (t.vs.map (·.n)))):=WJ (tS [44]) dU rfl (fun _=>rfl);have one:∀ (i:Nat) (a:i<x.us.length) (B:List Tok),B.length+(lY (t.vs.map (·.n)) x.us[i]).length+1<=1000000->SS.CC 229 [aP (i:Int),ag,.ptr 1 0,.ptr 2 0] [some [.ptr 3 0],ja (aJ (t.vs.map (·.n)),()),O9 (sU x),aG (fK B)]=bi [some [.ptr 3 0],ja (aJ (t.vs.map (·.n)),()),O9 (sU x),aG (fK (B ++ lY (t.vs.map (·.n)) x.us[i]))]:=fun i a B b=>by
  obtain ⟨⟨h,j⟩,l⟩:=f _ (dZ a);have c:uy (t.vs.map (·.n)).length (x.us[i]).2:=by rw[NF]; exact l
  unfold lY at b;rw[bJN,LQ a];rw[LM h (by rw[NF]; exact j),je,bf (zO _ B (by omega)),bf (lX _ _ (by grind)),LQ a];refine (bf (exC c _ (by grind))).trans ?_;grind [lY,bd]
 have e:=qC (L:=fun A i=>XC ⟨#[44]⟩ (x.us.length:Int) (A.map bM) (aJ (t.vs.map (·.n))) (sU x) (i:Int)) (F:=fun i=>(if i=0 then [] else [tS [44]]) ++ lY (t.vs.map (·.n)) (x.us.getD i dU)) 999999 (A:=A) (fun i a B b=>by
  rw[gD a dU,aY] at b;rw[aPW,aK (by omega),aI,bK (by omega),gD a dU];by_cases d:i=0
  .rw[aU (by omega),aKK (one i a B (by omega)),ay d];rfl
  .rw[aX d] at b ⊢;rw[aK (by omega),aI,bf (lX _ B (by omega)),aKK (one i a _ (by grind)),zU]) (by rw[g]; omega)
 rw[bG5];grind [aPW,aF]
theorem b7N (t:Tm) (d:uz t) (p:Df t) (A:List Tok) (w:A.length+(t.ms.flatMap (nN t)).length+2<=1000000):IP (bs t.n) (aJ t.ls) (aJ t.es) (jP t) (A.map bM) (aJ (t.vs.map (·.n))) 0=Ja (A ++ t.ms.flatMap (nN t) ++ [tS [125]]):=by
 have f:gI (fun k=>nN t (t.ms.getD k dM)) 0 t.ms.length=t.ms.flatMap (nN t):=xy dM fun _ _=>rfl
 have e:=qC (L:=fun A k=>IP (bs t.n) (aJ t.ls) (aJ t.es) (jP t) (A.map bM) (aJ (t.vs.map (·.n))) (k:Int)) (F:=fun k=>nN t (t.ms.getD k dM)) 999998 (A:=A) (fun k hk B a=>by
  have x:=d.ms.1;obtain ⟨h,i,j,q,r⟩:=p.ms _ (dZ hk);obtain ⟨o1,u,y⟩:=d.ms.2 _ (dZ hk);have c:uy (t.vs.map (·.n)).length (t.ms[k]).g:=by rw[NF]; exact q
  rw[gD hk dM] at a;unfold nN at a;simp only[aY,bT] at a;rw[aPI,aK (show (k:Int)<((jP t).2.2.2.2.2.1.length:Int) by rw[bz]; omega),U1 hk];rw[LM h.1 h.2,je,LM i.1 i.2,je,LM j.1 j.2,je];rw[bf (wo4 _ _ _ _ B (by omega)),eG g_,bC (fZ o1 tE),gD hk dM];have l:∀ C:List Tok,C.length+(if (t.ms[k]).us = [] then [] else tW [100,111]::iL (tS [44]) ((t.ms[k]).us.map (lY (t.vs.map (·.n))))).length+2<=1000000->a3D (bs t.n) (aJ t.ls) (aJ t.es) (jP t) (C.map bM) (aJ (t.vs.map (·.n))) (sU t.ms[k]) (k:Int)=IP (bs t.n) (aJ t.ls) (aJ t.es) (jP t) ((C ++ (if (t.ms[k]).us = [] then [] else tW [100,111]::iL (tS [44]) ((t.ms[k]).us.map (lY (t.vs.map (·.n))))) ++ [tS [59]]).map bM) (aJ (t.vs.map (·.n))) ((k+1:Nat):Int):=fun C m=>by
   have o:∀ D:List Tok,D.length+(iL (tS [44]) ((t.ms[k]).us.map (lY (t.vs.map (·.n))))).length+2<=1000000->a3E (bs t.n) (aJ t.ls) (aJ t.es) (jP t) (D.map bM) (aJ (t.vs.map (·.n))) (sU t.ms[k]) (k:Int)=IP (bs t.n) (aJ t.ls) (aJ t.es) (jP t) ((D ++ iL (tS [44]) ((t.ms[k]).us.map (lY (t.vs.map (·.n)))) ++ [tS [59]]).map bM) (aJ (t.vs.map (·.n))) ((k+1:Nat):Int):=fun D z=>by rw[bE',show (((sU t.ms[k]).2.2.2.2.2.2.2.1.length:Nat):Int)=((t.ms[k]).us.length:Int) from bz _ _,b4E (b7R t _ u r D (by omega)),bK (by omega)];rw[bf (lX _ _ (by grind))]
   rw[bEZ,show (((sU t.ms[k]).2.2.2.2.2.2.2.1.length:Nat):Int)=((t.ms[k]).us.length:Int) from bz _ _];by_cases b:(t.ms[k]).us = []
   .rw[o C (by rw[b]; show C.length+0+2<=1000000; omega),b];rfl
   .rw[aX b] at m ⊢;simp only[bT] at m;have v:0<(t.ms[k]).us.length:=List.length_pos_iff.2 b;rw[aK (by omega),bf (zO _ C (by omega)),o _ (by simp only[aY,bT,jv]; omega)];simp
  cases hq:gX (t.ms[k]).g tE with
  | true =>rw[l _ (by simp only[aY,bT,jv]; omega)];unfold nN;rw[hq,bd,bd,bd];simp
  | false =>rw[hq,aX V9] at a;simp only[bT] at a;rw[bf (zO _ _ (by simp only[aY,bT,jv]; omega)),bf (exC c _ (by simp only[aY,bT,jv]; omega)),l _ (by simp only[aY,bT,jv]; omega)];unfold nN;rw[hq,bd,bd,bd];simp) (by rw[f]; omega)
 refine (show IP (bs t.n) (aJ t.ls) (aJ t.es) (jP t) (A.map bM) (aJ (t.vs.map (·.n))) 0=_ from e).trans ?_;rw[f,aPI,aU (show ¬ (t.ms.length:Int)<((jP t).2.2.2.2.2.1.length:Int) by rw[bz]; omega),aF,bf (lX ⟨#[125]⟩ _ (by simp only[aY]; omega))]
def b7O (t:Tm) (a:uz t) (b:Df t) (A:List Tok) (c:A.length+(mZ t).length+2<=1000000):SS.CC 144 [ag,A5 (iD t)] [aG (fK A)]=Ja (A ++ mZ t):=by
 unfold mZ at c;simp only[aY,bT] at c;rw[bF9];rw[nS (aJA t.vs a.vs.1),bf (Jb _ _ A (by omega)),bf (aZ6 t.es a.es.1 _ (by simp only[aY,bT,jv]; omega)),bf (lX _ _ (by simp only[aY,bT,jv]; omega))];rw[b7K t a _ _ (by simp only[aY,bT,jv]; omega),b7S t a b _ _ (by simp only[aY,bT,jv]; omega),b7N t a b _ (by simp only[aY,bT,jv]; omega)];have d:A ++ [tW (⟨#[116,101,109,112,108,97,116,101]⟩:b_).data.toList,tW (bs t.n).data.toList] ++ xJ t.es ++ [tS (⟨#[123]⟩:b_).data.toList] ++ xG t.I t.mr 0 t.ls ++ t.vs.flatMap qf ++ t.ms.flatMap (nN t) ++ [tS [125]]=A ++ mZ t:=by unfold mZ;rw[bd];simp
 rw[<- d]
abbrev fC (e:nD):List Tok:=if e.c then [tW [99,111,110,116,114,111,108,108,97,98,108,101]] else []
abbrev fO (e:nD):List Tok:=if e.o then [tW [111,98,115,101,114,118,97,98,108,101]] else []
abbrev fF (e:nD):List Tok:=if e.f then [tW [102,111,114,99,105,98,108,101]] else []
def b7F (m:Mo) (e:nD) (A:List Tok) (d:A.length+3<=1000000) (k:Int):mV (aV m) (A.map bM) (ou e) 0 k=mV (aV m) ((A ++ fC e ++ fO e ++ fF e).map bM) (ou e) 3 k:=by
 have s0:∀ B:List Tok,B.length+1<=1000000->mV (aV m) (B.map bM) (ou e) 0 k=mV (aV m) ((B ++ fC e).map bM) (ou e) 1 k:=fun B a=>by
  have q:mV (aV m) (B.map bM) (ou e) 0 k=aB e.c (aj 141 [ag,a_ [cEX [99,111,110,116,114,111,108,108,97,98,108,101]]] [aG (fK B)] fun _ u=>mV (aV m) u.1 (ou e) 1 k) (mV (aV m) (B.map bM) (ou e) 1 k):=(a5M _ _ _ _ _).trans (by kernel_rfl);rw[q];unfold fC;cases e.c with
  | true=>rw[bf (zO _ B a)]; rfl
  | false=>rw[aF,aX V9,DY]
 have s1:∀ B:List Tok,B.length+1<=1000000->mV (aV m) (B.map bM) (ou e) 1 k=mV (aV m) ((B ++ fO e).map bM) (ou e) 2 k:=fun B a=>by
  have q:mV (aV m) (B.map bM) (ou e) 1 k=aB e.o (aj 141 [ag,a_ [cEX [111,98,115,101,114,118,97,98,108,101]]] [aG (fK B)] fun _ u=>mV (aV m) u.1 (ou e) 2 k) (mV (aV m) (B.map bM) (ou e) 2 k):=(a5M _ _ _ _ _).trans (by kernel_rfl);rw[q];unfold fO;cases e.o with
  | true=>rw[bf (zO _ B a)]; rfl
  | false=>rw[aF,aX V9,DY]
 have b:∀ B:List Tok,B.length+1<=1000000->mV (aV m) (B.map bM) (ou e) 2 k=mV (aV m) ((B ++ fF e).map bM) (ou e) 3 k:=fun B a=>by
  have q:mV (aV m) (B.map bM) (ou e) 2 k=aB e.f (aj 141 [ag,a_ [cEX [102,111,114,99,105,98,108,101]]] [aG (fK B)] fun _ u=>mV (aV m) u.1 (ou e) 3 k) (mV (aV m) (B.map bM) (ou e) 3 k):=(a5M _ _ _ _ _).trans (by kernel_rfl);rw[q];unfold fF;cases e.f with
  | true=>rw[bf (zO _ B a)]; rfl
  | false=>rw[aF,aX V9,DY]
 have g:(fC e).length<=1:=by unfold fC; cases e.c<;>simp
 have h:(fO e).length<=1:=by unfold fO; cases e.o<;>simp
 rw[s0 A (by omega),s1 _ (by rw[aY]; omega),b _ (by rw[aY,aY]; omega)]
theorem b7E (m:Mo) (c:lm m) (d:FD m) (A:List Tok) (f:A.length+(m.es.flatMap tu).length<=900000):TL (aV m) (A.map bM) 0=TG (aV m) ((A ++ m.es.flatMap tu).map bM) 0:=by
 have g:gI (fun k=>tu (m.es.getD k dE)) 0 m.es.length=m.es.flatMap tu:=xy dE fun _ _=>rfl
 have e:=qC (L:=fun A k=>TL (aV m) (A.map bM) (k:Int)) (F:=fun k=>tu (m.es.getD k dE)) (n:=m.es.length) 900000 (A:=A) (fun k hk B b=>by
  have i:=c.es.1;obtain ⟨_,k0,k4⟩:=d.es _ (dZ hk);have h:tu (m.es[k]) = [tW [101,118,101,110,116],tW (m.es[k]).n] ++ fC m.es[k] ++ fO m.es[k] ++ fF m.es[k] ++ (if (m.es[k]).k=0 then [] else tW [102,97,117,108,116]::gU (m.es[k]).k) ++ [tS [59]]:=rfl;rw[gD hk dE] at b ⊢;rw[h] at b ⊢;simp only[aY,bT,jv] at b;have j:(fC m.es[k]).length<=1:=by grind
  have l:(fO m.es[k]).length<=1:=by grind
  have o:(fF m.es[k]).length<=1:=by grind
  rw[aTP,aK (show (k:Int)<((aV m).2.1.length:Int) by rw[bz]; omega),aI,P6 hk,bf (Jb _ _ B (by omega))];refine (b7F m m.es[k] _ (by grind) _).trans ?_;rw[a5M,aU (by decide),aF,bK (by omega)];dsimp only;by_cases a:(m.es[k]).k=0
  .rw[show ((m.es[k]).k != 0)=false from RX a,aF,bf (lX _ _ (by grind)),ay a];grind [bd]
  .rw[aX a] at b ⊢;simp only[bT] at b;rw[show ((m.es[k]).k != 0)=true from WG a,aI,bf (zO _ _ (by grind)),bf (Lc (by omega) (by omega) _ (by grind)),bf (lX _ _ (by grind))];grind [bd]) (by rw[g]; exact f)
 grind [aTP,aF]
theorem b7Q (m:Mo) (a:lm m) (b:FD m) (A:List Tok) (c:A.length+(m.ts.flatMap mZ).length<=900000):TG (aV m) (A.map bM) 0=IX (aV m) ((A ++ m.ts.flatMap mZ).map bM) 0:=by
 have d:gI (fun k=>mZ (m.ts.getD k dT)) 0 m.ts.length=m.ts.flatMap mZ:=xy dT fun _ _=>rfl
 have e:=qC (L:=fun A k=>TG (aV m) (A.map bM) (k:Int)) (F:=fun k=>mZ (m.ts.getD k dT)) 900000 (fun k hk B f=>by have g:=a.ts.1;rw[gD hk dT] at f;rw[aTM,aK (show (k:Int)<((aV m).2.2.1.length:Int) by rw[bz]; omega),aI,Iq hk,bf (b7O _ (a.ts.2 _ (dZ hk)).2 (b.ts _ (dZ hk)).2 B (by omega)),bK (by omega),gD hk dT]) (by rw[d]; exact c);grind [aTM,aF]
theorem aV7 (w:b_) (x:Ins) (e:Ai x.es) (B:List Tok) (K:Sh.V iW->R) (f:B.length+(kJ w.data.toList x).length<=900000):(aj 141 [ag,a_ [.str w,.str (bs x.n)]] [aG (fK B)] fun _ a=>aj 142 [ag,a_ [cEX [61]]] [aG a] fun _ b=>aj 141 [ag,a_ [.str (bs x.t)]] [aG b] fun _ c=>aj 145 [ag,a_ (aJ x.es)] [aG c] fun _ d=>aj 142 [ag,a_ [cEX [59]]] [aG d] fun _ u32=>K u32)=K (fK (B ++ kJ w.data.toList x)):=by unfold kJ at f;rw[bf (Jb _ _ B (by omega)),bf (lX _ _ (by grind)),bf (zO _ _ (by grind)),bf (aZ6 _ e.1 _ (by grind)),bf (lX _ _ (by grind))];grind [kJ,bd]
def b7H (m:Mo) (l:List Ins) (f:l.length<=20000) (c:∀ x,x∈l->Ai x.es) (A:List Tok) (d:A.length+(l.flatMap (kJ wC)).length<=900000):BA (aV m) (A.map bM) 0 (l.map dN) 0 0 ((l.map dN).length:Int)=IX (aV m) ((A ++ l.flatMap (kJ wC)).map bM) 1:=by
 have a:gI (fun k=>kJ wC (l.getD k dI)) 0 l.length=l.flatMap (kJ wC):=xy dI fun _ _=>rfl
 have e:=qC (L:=fun A k=>BA (aV m) (A.map bM) (k:Int) (l.map dN) 0 0 ((l.map dN).length:Int)) (F:=fun k=>kJ wC (l.getD k dI)) 900000 (fun k hk B b=>by rw[gD hk dI] at b ⊢;rw[a5L,aK (by rw[bz]; omega),BD hk,bK (by omega)];exact aV7 ⟨#[99,111,109,112,111,110,101,110,116]⟩ _ (c _ (dZ hk)) B _ b) (by rw[a]; exact d);refine (show BA (aV m) (A.map bM) 0 (l.map dN) 0 0 ((l.map dN).length:Int)=_ from e).trans ?_;rw[a,a5L,aU (by rw[bz]; omega)];rfl
def b7I (m:Mo) (l:List Ins) (f:l.length<=20000) (c:∀ x,x∈l->Ai x.es) (A:List Tok) (d:A.length+(l.flatMap (kJ wR)).length<=900000):BA (aV m) (A.map bM) 0 (l.map dN) 1 1 ((l.map dN).length:Int)=IX (aV m) ((A ++ l.flatMap (kJ wR)).map bM) 2:=by
 have a:gI (fun k=>kJ wR (l.getD k dI)) 0 l.length=l.flatMap (kJ wR):=xy dI fun _ _=>rfl
 have e:=qC (L:=fun A k=>BA (aV m) (A.map bM) (k:Int) (l.map dN) 1 1 ((l.map dN).length:Int)) (F:=fun k=>kJ wR (l.getD k dI)) 900000 (fun k hk B b=>by rw[gD hk dI] at b ⊢;rw[a5L,aK (by rw[bz]; omega),BD hk,bK (by omega)];exact aV7 ⟨#[114,101,113,117,105,114,101,109,101,110,116]⟩ _ (c _ (dZ hk)) B _ b) (by rw[a]; exact d);refine (show BA (aV m) (A.map bM) 0 (l.map dN) 1 1 ((l.map dN).length:Int)=_ from e).trans ?_;rw[a,a5L,aU (by rw[bz]; omega)];rfl
def b7G (m:Mo) (a:lm m) (A:List Tok) (e:A.length+(m.cs.flatMap (kJ wC)).length+(m.rs.flatMap (kJ wR)).length<=900000):IX (aV m) (A.map bM) 0=TJ (aV m) ((A ++ m.cs.flatMap (kJ wC) ++ m.rs.flatMap (kJ wR)).map bM) 0:=by
 have c:IX (aV m) (A.map bM) 0=BA (aV m) (A.map bM) 0 (m.cs.map dN) 0 0 ((m.cs.map dN).length:Int):=(aCT _ _ _).trans (by kernel_rfl);have d:∀ B:List Tok,IX (aV m) (B.map bM) 1=BA (aV m) (B.map bM) 0 (m.rs.map dN) 1 1 ((m.rs.map dN).length:Int):=fun B=>(aCT _ _ _).trans (by kernel_rfl)
 rw[c,b7H m m.cs a.is.1 (fun x b=>(a.is.2.2 x (VB _ b)).2.2) A (by omega),d,b7I m m.rs a.is.2.1 (fun x b=>(a.is.2.2 x (VC _ b)).2.2) _ (by rw[aY]; omega),aCT,aU (by decide),aF]
theorem b7L (x:qj) (g:x.ls.length<=20000) (A:List Tok) (d:A.length+(iL (tS [44]) (x.ls.map fun l => [tW l.1,tW l.2])).length<=900000):SS.CC 146 [ag,aP (x.ls.length:Int),cEX [44],dm 147 [.ptr 1 0,.ptr 2 0]] [aG (fK A),some [ag],zh (QL x)]=bi [aG (fK (A ++ iL (tS [44]) (x.ls.map fun l => [tW l.1,tW l.2]))),some [ag],zh (QL x)]:=by
 have f:gI (fun i=>(if i=0 then [] else [tS [44]]) ++ [tW (x.ls.getD i dL).1,tW (x.ls.getD i dL).2]) 0 x.ls.length=iL (tS [44]) (x.ls.map fun l => [tW l.1,tW l.2]):=WJ (tS [44]) dL rfl (fun _=>rfl);have one:∀ (i:Nat) (a:i<x.ls.length) (B:List Tok),B.length+2<=1000000->SS.CC 147 [aP (i:Int),ag,.ptr 1 0] [some [.ptr 2 0],zh (QL x),aG (fK B)]=bi [some [.ptr 2 0],zh (QL x),aG (fK (B ++ [tW (x.ls[i]).1,tW (x.ls[i]).2]))]:=fun i a B b=>by rw[bGC,P7 a,P7 a,bf (Jb _ _ B b),bd,bd]
 have e:=qC (L:=fun A i=>XF ⟨#[44]⟩ (x.ls.length:Int) (A.map bM) (QL x) (i:Int)) (F:=fun i=>(if i=0 then [] else [tS [44]]) ++ [tW (x.ls.getD i dL).1,tW (x.ls.getD i dL).2]) (n:=x.ls.length) 900000 (fun i a B b=>by
  rw[aPY,aK (by omega),aI,bK (by omega),gD a dL];by_cases c:i=0
  .rw[aU (by omega),aKH (one i a B (by omega)),ay c];rfl
  .rw[aX c];rw[aK (by omega),aI,bf (lX _ B (by omega)),aKH (one i a _ (by grind)),zU]) (by rw[f]; exact d)
 rw[bGB];grind [aPY,aF]
theorem b7P (x:Cst) (j:x.ts.length<=20000) (d:∀ l,l∈x.ts->p_ l.2) (A:List Tok) (f:A.length+(iL (tS [43]) (x.ts.map fun l=>gU l.2 ++ [tS [42],tW l.1])).length<=900000):SS.CC 146 [ag,aP (x.ts.length:Int),cEX [43],dm 148 [.ptr 1 0,.ptr 2 0]] [aG (fK A),some [ag],xm (um x)]=bi [aG (fK (A ++ iL (tS [43]) (x.ts.map fun l=>gU l.2 ++ [tS [42],tW l.1]))),some [ag],xm (um x)]:=by
 have g:gI (fun i=>(if i=0 then [] else [tS [43]]) ++ (gU (x.ts.getD i dR).2 ++ [tS [42],tW (x.ts.getD i dR).1])) 0 x.ts.length=iL (tS [43]) (x.ts.map fun l=>gU l.2 ++ [tS [42],tW l.1]):=WJ (tS [43]) dR rfl (fun _=>rfl);have one:∀ (i:Nat) (a:i<x.ts.length) (B:List Tok),B.length+4<=1000000->SS.CC 148 [aP (i:Int),ag,.ptr 1 0] [some [.ptr 2 0],xm (um x),aG (fK B)]=bi [some [.ptr 2 0],xm (um x),aG (fK (B ++ (gU (x.ts[i]).2 ++ [tS [42],tW (x.ts[i]).1])))]:=fun i a B h=>by have b:=d _ (dZ a);have m:=YM (x.ts[i]).2;rw[bGD,P8 a];rw[bf (Lc b.1 b.2 B (by omega)),bf (lX _ _ (by grind)),P8 a,bf (zO _ _ (by grind)),bd];simp
 have e:=qC (L:=fun A i=>XB ⟨#[43]⟩ (x.ts.length:Int) (A.map bM) (um x) (i:Int)) (F:=fun i=>(if i=0 then [] else [tS [43]]) ++ (gU (x.ts.getD i dR).2 ++ [tS [42],tW (x.ts.getD i dR).1])) (n:=x.ts.length) 900000 (fun i a B h=>by
  rw[aPV,aK (by omega),aI,bK (by omega),gD a dR];by_cases c:i=0
  .rw[aU (by omega),aKI (one i a B (by omega)),ay c];rfl
  .rw[aX c];rw[aK (by omega),aI,bf (lX _ B (by omega)),aKI (one i a _ (by grind)),zU]) (by rw[g]; exact f)
 rw[bG2];grind [aPV,aF]
theorem b7T (m:Mo) (a:lm m) (A:List Tok) (b:A.length+(m.xs.flatMap sZ).length<=900000):TJ (aV m) (A.map bM) 0=TK (m.ks.map oZ) ((A ++ m.xs.flatMap sZ).map bM) 0:=by
 have c:gI (fun k=>sZ (m.xs.getD k dX)) 0 m.xs.length=m.xs.flatMap sZ:=xy dX fun _ _=>rfl
 have e:=qC (L:=fun A k=>TJ (aV m) (A.map bM) (k:Int)) (F:=fun k=>sZ (m.xs.getD k dX)) 900000 (fun k hk B d=>by have g:=a.xs.1;obtain ⟨_,f,_⟩:=a.xs.2 _ (dZ hk);unfold sZ at d;rw[aTN,aK (show (k:Int)<((aV m).2.2.2.2.2.1.length:Int) by rw[bz]; omega),aI,Gf hk,bf (Jb _ _ B (by omega)),bf (lX _ _ (by grind)),bz,b4B (b7L _ f _ (by grind)),bf (lX _ _ (by grind)),bK (by omega)];grind [sZ,bd]) (by rw[c]; exact b);grind [aTN,aF]
theorem b7J (l:List Cst) (m:l.length<=20000) (c:∀ x,x∈l->x.ts.length<=20000) (d:∀ x,x∈l->p_ x.b/\∀ t,t∈x.ts->p_ t.2) (A:List Tok) (f:A.length+(l.flatMap ru).length<=900000):TK (l.map oZ) (A.map bM) 0=Ja (A ++ l.flatMap ru):=by
 have g:gI (fun k=>ru (l.getD k dK)) 0 l.length=l.flatMap ru:=xy dK fun _ _=>rfl
 have e:=qC (L:=fun A k=>TK (l.map oZ) (A.map bM) (k:Int)) (F:=fun k=>ru (l.getD k dK)) 900000 (fun k hk B h=>by have i:=c _ (dZ hk);obtain ⟨a,j⟩:=d _ (dZ hk);unfold ru at h;rw[aTO,aK (by rw[bz]; omega),aI,Ip hk,bf (Jb _ _ B (by omega)),bf (lX _ _ (by grind)),bz,b4C (b7P _ i j _ (by grind)),bf (lX _ _ (by grind))];rw[bf (Lc a.1 a.2 _ (by grind)),bf (lX _ _ (by grind)),bK (by omega)];grind [ru,bd]) (by rw[g]; exact f);grind [aTO,aF]
theorem b7M (m:Mo) (a:lm m) (b:FD m) (d:(kw m).length<=900000):SS.CC 35 [ag,A0 (aV m)] [aG (fK [])]=Ja (kw m):=by unfold kw at d;simp only[aY] at d;rw[bSQ,bf (Jb _ _ [] (by decide)),bf (lX _ _ (by simp))];rw[b7E m a b _ (by grind),b7Q m a b _ (by grind),b7G m a _ (by grind),b7T m a _ (by grind),b7J m.ks a.ks.1 (fun x c=>(a.ks.2 x c).2.1) (fun x c=>⟨(b.ks x c).2.2.1,fun t e=>((b.ks x c).2.2.2 t e).2⟩) _ (by grind)];rfl
structure pG where
 d:Nat
 last:Nm
 out:Nm
 fr:Bool
def qV (a:pG) (s:Nm):pG:=if s = [125] then ⟨a.d-1,a.last,if a.fr then a.out else a.out ++ [10],true⟩ else a
def sQ (a:pG) (s:Nm):Nm:=(if a.fr then a.out ++ Lib.repeatL [32,32] a.d else if s = [44]\/s = [59]\/s = [41]\/a.last = [40] then a.out else a.out ++ [32]) ++ s
def kU (d:Nat) (s o:Nm):pG:=if s = [123] then ⟨d+1,s,o ++ [10],true⟩ else if s = [125]\/s = [59] then ⟨d,s,o ++ [10],true⟩ else ⟨d,s,o,false⟩
def kK (a:pG) (s:Nm):pG:=kU (qV a s).d s (sQ (qV a s) s)
def JA (a:pG):Nm:=if a.fr then a.out else a.out ++ [10]
def aM2 (l:Nm):SS.CC 176 [ag] [ql (l,())]=bi [ql (l,())]:=VM rfl
def wby (c:Int) (l:Nm) (d:l.length<=1000000000) (a:0<=c) (b:c<256):SS.CC 80 [ag,.int .u8 c] [ql (l,())]=some (.raw .nilIface,[ql (l ++ [UInt8.ofNat c.toNat],())]):=by rw[bGF,aKJ (aM2 l)];rw[aK (show l.length+1<=aN by show _<=1073741824; omega),aK a,aK b];rfl
theorem wst (s l:Nm) (a:l.length+s.length<=1000000000):SS.CC 72 [ag,.str (bs s)] [ql (l,())]=some (.tuple [aP (s.length:Int),.raw .nilIface],[ql (l ++ s,())]):=by rw[bRP,aKJ (aM2 l)];grind [lH,aN,aQ,bd]
def WP (a:Bool) (l:Nm) (b:l.length<=1000000000):SS.CC 79 [ag,.ptr 1 0] [jR (a,()),Dp (l,())]=bi [jR (true,()),Dp (if a then l else l ++ [10],())]:=by
 rw[bGE];cases a with
 | true=>rfl
 | false=>rw[aKF (wby 10 l b (by decide) (by decide))]; rfl
def c48 (k:Nat) (hk:k<=1000000):SS.CC 82 [cEX [32,32],aP (k:Int)] []=some (.str (bs (Lib.repeatL [32,32] k)),[]):=by
 refine VM ?_;show (match decide (0<=(k:Int))&&(Nat.ble (k:Int).toNat 9223372036854775807&&Nat.ble ((⟨#[32,32]⟩:b_).size*(k:Int).toNat) 140737488355328) with
  | true=>some (PV.str ⟨(Lib.repeatL [32,32] (k:Int).toNat).toArray⟩,([]:aH))
  | false=>none)=_
 rw[nC,show (⟨#[32,32]⟩:b_).size=2 from rfl,show Nat.ble k 9223372036854775807=true from aJT (by omega),show Nat.ble (2*k) 140737488355328=true from aJT (by omega)];rfl
def a_7 (k:Nat):(Lib.repeatL ([32,32]:d_) k).length=2*k:=by rw[Lib.repeatL_length]; simp; omega
def KI (s r:Nm):((bs s).toList==(bs r).toList)=decide (s=r):=aLS s r
theorem aFW (X:ai) (d:Nat) (j:d<=100000) (q:Sh.V o7) (s:Nm) (hq:q.2.1=bs s) (o:Nm) (l:o.length+s.length<=900000000) (f:Bool) (k:Nat) (hk:k<1000000):IY X o f q (d:Int) (k:Int)=BB X ((kU d s (o ++ s)).d:Int) (bs (kU d s (o ++ s)).last) ((k+1:Nat):Int) (kU d s (o ++ s)).out (kU d s (o ++ s)).fr:=by
 have b:(o ++ s).length<=1000000000:=by rw[aY]; omega
 rw[bSS,hq,aKE (wst s o (by omega)),bK (k:=k) (by omega)];have g:((bs s).toList==(⟨#[123]⟩:b_).toList)=decide (s = [123]):=KI s [123];have h:((bs s).toList==(⟨#[125]⟩:b_).toList)=decide (s = [125]):=KI s [125];have i:((bs s).toList==(⟨#[59]⟩:b_).toList)=decide (s = [59]):=KI s [59];rw[g,h,i];unfold kU;by_cases a:s = [123]
 .rw[aK a,ay a];refine (VW (WP false (o ++ s) b)).trans ?_;rw[bK (by omega)];rfl
 .rw[aU a,aX a];by_cases c:s = [125]
  .rw[aK c,ay (.inl c)];exact VW (WP false (o ++ s) b)
  .rw[aU c];by_cases e:s = [59]
   .rw[aK e,ay (.inr e)];exact VW (WP false (o ++ s) b)
   simp_all
theorem a'N (X:ai) (a:pG) (n:a.d<=100000) (q:Sh.V o7) (s:Nm) (hq:q.2.1=bs s) (o:a.out.length<=800000000) (p:s.length<=20000) (k:Nat) (hk:k<1000000):a5N X a.out a.fr q (a.d:Int) (bs a.last) (k:Int)=BB X ((kU a.d s (sQ a s)).d:Int) (bs (kU a.d s (sQ a s)).last) ((k+1:Nat):Int) (kU a.d s (sQ a s)).out (kU a.d s (sQ a s)).fr:=by
 rw[bSR,hq];have b:((bs s).toList==(⟨#[44]⟩:b_).toList)=decide (s = [44]):=KI s [44];have c:((bs s).toList==(⟨#[59]⟩:b_).toList)=decide (s = [59]):=KI s [59];have e:((bs s).toList==(⟨#[41]⟩:b_).toList)=decide (s = [41]):=KI s [41];have f:((bs a.last).toList==(⟨#[40]⟩:b_).toList)=decide (a.last = [40]):=KI a.last [40];rw[b,c,e,f];unfold sQ;cases r:a.fr with
 | true =>have t:=a_7 a.d;rw[nR (c48 a.d (by omega))];refine (aKE (wst _ _ (by omega))).trans ?_;grind [aFW]
 | false =>
  rw[aF];have g:∀ (_:s = [44]\/s = [59]\/s = [41]\/a.last = [40]),IY X a.out false q (a.d:Int) (k:Int)=BB X ((kU a.d s ((if s = [44]\/s = [59]\/s = [41]\/a.last = [40] then a.out else a.out ++ [32]) ++ s)).d:Int) (bs (kU a.d s ((if s = [44]\/s = [59]\/s = [41]\/a.last = [40] then a.out else a.out ++ [32]) ++ s)).last) ((k+1:Nat):Int) (kU a.d s ((if s = [44]\/s = [59]\/s = [41]\/a.last = [40] then a.out else a.out ++ [32]) ++ s)).out (kU a.d s ((if s = [44]\/s = [59]\/s = [41]\/a.last = [40] then a.out else a.out ++ [32]) ++ s)).fr:=fun h=>by grind [aFW]
  by_cases i:s = [44]
  .simp_all
  rw[aU i,su,aI];by_cases j:s = [59]
  .simp_all
  rw[aU j,su,aI];by_cases l:s = [41]
  .simp_all
  rw[aU l,su,aI];by_cases m:a.last = [40]
  .simp_all
  rw[aU m,su,aI,aKF (wby 32 _ (by omega) (by decide) (by decide))];grind [aFW]
theorem c2B (T:List Tok) (f:T.length<=900000) (hk:i<T.length) (a:pG) (g:a.d<=100000) (j:a.out.length<=700000000) (b:(T[i]).text.length<=20000):BB (T.map bM) (a.d:Int) (bs a.last) (i:Int) a.out a.fr=BB (T.map bM) ((kK a (T[i]).text).d:Int) (bs (kK a (T[i]).text).last) ((i+1:Nat):Int) (kK a (T[i]).text).out (kK a (T[i]).text).fr:=by
 have c:((bs (T[i]).text).toList==(⟨#[125]⟩:b_).toList)=decide ((T[i]).text = [125]):=KI _ [125];rw[aTS,aK (by rw[aZ]; omega),aI,YQ hk];rw[c];unfold kK qV;by_cases h:(T[i]).text = [125]
 .rw[aK h,ay h];refine (VW (WP a.fr a.out (by omega))).trans ?_;have e:(if (0:Int)>i64.wrap ((a.d:Int)-1) then (0:Int) else i64.wrap ((a.d:Int)-1))=((a.d-1:Nat):Int):=by rw[wrap64 (by omega) (by omega)];split<;>omega
  rw[e];exact a'N (T.map bM) ⟨a.d-1,a.last,if a.fr then a.out else a.out ++ [10],true⟩ (by grind) _ _ rfl (by grind) b i (by omega)
 grind [aF,a'N]
def fQ (a:pG) (T:List Tok):pG:=T.foldl (fun a t=>kK a t.text) a
abbrev qW:pG:=⟨0,[],[],true⟩
theorem c3N (T:List Tok) (hk:i<T.length) (a:pG):fQ a (T.take (i+1))=kK (fQ a (T.take i)) (T[i]).text:=by grind [fQ,List.take_succ_eq_append_getElem]
theorem a'M (T:List Tok) (b:T.length<=900000) (c:∀ t,t∈T->t.text.length<=20000) (a:∀ k,k<=T.length->(fQ qW (T.take k)).d<=100000/\(fQ qW (T.take k)).out.length<=700000000):BB (T.map bM) 0 ⟨#[]⟩ 0 [] true=some (.tuple [.str (bs (JA (fQ qW T))),aP 0],[]):=by
 refine lS (n:=T.length) (L:=fun k=>BB (T.map bM) ((fQ qW (T.take k)).d:Int) (bs (fQ qW (T.take k)).last) (k:Int) (fQ qW (T.take k)).out (fQ qW (T.take k)).fr) (fun k hk => ?_) ?_;grind [c3N,c2B]
 .have:=a T.length (dO _);rw[VD (dO _)] at this ⊢;rw[aTS,aU (by rw[aZ]; omega)];refine (VW (WP _ _ (by omega))).trans ?_;refine (b4D (y2:=(pJ (JA (fQ qW T)),())) (VM rfl)).trans rfl
def Kt (a:List Nm) (t:Tok):Prop:=(∃ s,Gn s/\t=tW s)\/(∃ n,n<=65536/\t=tN n)\/(∃ s,s∈a/\t=tS s)
def sP:List Nm := [[45],[40],[41],[33],[63],[58],[43],[42],[61,61],[33,61],[60],[60,61],[38,38],[124,124],[44],[46,46],[61],[58,61]]
def sA:List Nm := [59] :: [123] :: [125]::sP
abbrev Pl (T:List Tok):Prop:=∀ t,t∈T->Kt sP t
theorem a_Z:∀ s,s∈sA->s∈lC:=by decide
def c5T:∀ s,s∈sP->s∈sA:=by decide
theorem aKT (h:Kt sP p):Kt sA p:=by
 rcases h with h | h | ⟨s,a,e⟩
 .exact .inl h
 .exact .inr (.inl h)
 .exact .inr (.inr ⟨s,c5T s a,e⟩)
theorem Qw (h:Kt sA p):Tv p:=by
 rcases h with ⟨s,a,rfl⟩|⟨n,b,rfl⟩|⟨s,a,rfl⟩
 .exact c8X a
 .exact b2H b
 grind [c8W,a_Z]
theorem bVD (h:Gn m):m.length<=32:=by grind [f_]
theorem aKU (h:Kt sA p):p.text.length<=32:=by
 rcases h with ⟨s,a,rfl⟩|⟨n,b,rfl⟩|⟨s,a,rfl⟩
 .exact bVD a
 .exact jO (aMK 4 n (by omega)) (by decide)
 grind [aIJ,a_Z]
def b52 (h:Kt sP p):p.text ≠ [123]/\p.text ≠ [125]/\p.text ≠ [59]:=by
 rcases h with ⟨s,a,rfl⟩|⟨n,d,rfl⟩|⟨s,a,rfl⟩
 .refine ⟨?_,?_,?_⟩<;>(intro e; subst e; revert a; decide)
 .have b:=(b2H d).2.2.1;refine ⟨?_,?_,?_⟩<;>(intro e; rw[e] at b; have hk:=(congrArg (fun c=>c.1) b).trans (show (pK (tN n)).1=2 from rfl); revert hk; decide)
 .revert s; decide
theorem kR (h:Gn m):Kt l (tW m) := .inl ⟨m,h,rfl⟩
theorem nJ (h:m∈l):Kt l (tS m) := .inr (.inr ⟨m,h,rfl⟩)
theorem Ox (h:p_ w):Pl (gU w):=by
 unfold gU;split
 .intro t a;simp only[jy,zW,zX] at a;rcases a with rfl|rfl
  .exact nJ (by decide)
  .exact .inr (.inl ⟨_,by omega,rfl⟩)
 .intro t a;simp only[F8] at a;exact .inr (.inl ⟨_,by omega,a⟩)
def og (a:Pl A) (b:Pl B):Pl (A ++ B):=fun t c=>(DZ.1 c).elim (a t) (b t)
theorem iC (b:Kt sP p) (c:Pl A):Pl (p::A):=fun t d=>by grind
def qG:Pl []:=fun t a=>by cases a
theorem PW (h:Pl A):Pl (wp x w A):=by
 unfold wp;split
 .exact iC (nJ (by decide)) (og h (iC (nJ (by decide)) qG))
 .exact h
theorem b0I (h:w=2\/w=3\/w=4\/w=6\/w=7\/w=8\/w=9\/w=11\/w=12):lW w∈sP:=by rcases h with rfl|rfl|rfl|rfl|rfl|rfl|rfl|rfl|rfl<;>decide
theorem c36 (e:∀ s,s∈l->Gn s) (h:PB l x A):Pl A:=by
 induction h with
 | tt=>exact iC (kR (by decide)) qG
 | ff=>exact iC (kR (by decide)) qG
 | num f g=>grind [Ox]
 | var j=>grind [kR]
 | UB f g _ c=>exact iC (nJ (by decide)) (iC (nJ (by decide)) (og c (iC (nJ (by decide)) qG)))
 | neg _ _ c=>exact iC (nJ (by decide)) (PW c)
 | sJ _ c=>exact iC (nJ (by decide)) (PW c)
 | cmp i _ _ _ _ a b=>grind [PW,nJ,b0I]
 | bin i _ _ a b=>grind [PW,nJ,b0I]
 | ite _ _ _ d a b=>exact og (PW d) (iC (nJ (by decide)) (og (PW a) (iC (nJ (by decide)) (PW b))))
def c35 (a:∀ s,s∈l->Gn s) (h:uy l.length x):Pl (vK l x):=c36 a (OX h).1
def Yo {s:Tok} (c:Kt sP s):∀ {l:List (List Tok)},(∀ T,T∈l->Pl T)->Pl (iL s l)
 | [],_=>qG
 | [a],h=>h a (by simp)
 | a::b::l,h=>og (h a (by simp)) (iC c (Yo c fun T d=>h T (by simp[d])))
theorem a'R (h:∀ s,s∈l->Gn s):Pl (xJ l):=iC (nJ (by decide)) (og (Yo (nJ (by decide)) fun T a=>by grind [kR]) (iC (nJ (by decide)) qG))
inductive yT:List Tok->Prop
 | mk {X:List Tok}:Pl X->X ≠ []->yT (X ++ [tS [59]])
inductive Sts:List Tok->Prop
 | nil:Sts []
 | cons {X T:List Tok}:yT X->Sts T->Sts (X ++ T)
inductive uO:List Tok->Prop
 | nil:uO []
 | ZK {X T:List Tok}:yT X->uO T->uO (X ++ T)
 | ZO {X B T:List Tok}:Pl X->X ≠ []->Sts B->uO T->uO (X ++ [tS [123]] ++ B ++ [tS [125]] ++ T)
def b1Q (a:Sts A) (b:Sts B):Sts (A ++ B):=by
 induction a with
 | nil=>exact b
 | cons h _ c=>rw[zU]; exact .cons h c
theorem QA (b:uO A) (c:uO B):uO (A ++ B):=by
 induction b with
 | nil=>exact c
 | ZK h _ a=>rw[zU]; exact .ZK h a
 | ZO h d e _ a =>have:=uO.ZO h d e a;simp_all
def aII {b:Type} {f:b->List Tok}:∀ {l:List b},(∀ x,x∈l->yT (f x))->Sts (l.flatMap f)
 | [],_ => .nil
 | a::l,h=>by exact .cons (h a (by simp)) (aII fun x c=>h x (by simp[c]))
def QB {b:Type} {f:b->List Tok}:∀ {l:List b},(∀ x,x∈l->uO (f x))->uO (l.flatMap f)
 | [],_ => .nil
 | a::l,h=>by exact QA (h a (by simp)) (QB fun x c=>h x (by simp[c]))
def Un (h:yT A):uO A:=by have:=uO.ZK h .nil;rwa [DY] at this
def MS (e:B=A ++ [tS [59]]) (h:Pl A) (a:A ≠ []):yT B:=e ▸ .mk h a
theorem c7N {e:nD} (h:Gn e.n) (a:0<=e.k/\e.k<=4):yT (tu e):=by
 refine MS rfl ?_ (by simp);refine og (og (og (og (iC (kR (by decide)) (iC (kR h) qG)) ?_) ?_) ?_) ?_
 .split
  .exact iC (kR (by decide)) qG
  grind
 .split
  .exact iC (kR (by decide)) qG
  grind
 .split
  .exact iC (kR (by decide)) qG
  grind
 .split;grind
  .exact iC (kR (by decide)) (Ox ⟨by omega,by omega⟩)
theorem c7O (h:Gn m):yT (CY w j i m):=by
 refine MS rfl ?_ (by simp);refine og (og (iC (kR (by decide)) (iC (kR h) qG)) ?_) ?_
 .split
  .exact iC (kR (by decide)) qG
  grind
 .split
  .exact iC (kR (by decide)) qG
  grind
def b1R {I:Int} {a:List Int}:∀ {l:List Nm} {i:Nat},(∀ s,s∈l->Gn s)->Sts (xG I a i l)
 | [],_,_ => .nil
 | s::l,i,h => .cons (c7O (h s (by simp))) (b1R fun s b=>h s (by simp[b]))
def c7Q (h:Gn Z.n/\p_ Z.lo/\p_ Z.hi/\p_ Z.i):yT (qf Z):=by refine MS rfl ?_ (by simp);exact og (og (og (og (og (iC (kR (by decide)) (iC (kR h.1) (iC (nJ (by decide)) qG))) (Ox h.2.1)) (iC (nJ (by decide)) qG)) (Ox h.2.2.1)) (iC (nJ (by decide)) qG)) (Ox h.2.2.2)
theorem a6F (h:∀ s,s∈l->Gn s) (a:0<=w) (b:w<l.length):Gn (l.getD w.toNat []):=by grind
theorem c7P (a:Df D) (h:VR D a'):yT (nN D a'):=by
 have hv:∀ s,s∈D.vs.map (·.n)->Gn s:=fun s c=>by obtain ⟨v,hv,rfl⟩:=uu.1 c;exact (a.vs v hv).1
 have b:∀ {y:EX},uy D.vs.length y->Pl (vK (D.vs.map (·.n)) y):=fun i=>c35 hv (by rw[NF]; exact i)
 refine MS rfl ?_ (by simp);refine og (og (iC (kR (by decide)) (iC (kR (a6F a.ls h.f.1 h.f.2)) (iC (kR (a6F a.es h.e.1 h.e.2)) (iC (kR (a6F a.ls h.d.1 h.d.2)) qG)))) ?_) ?_
 .split;grind
  .exact iC (kR (by decide)) (b h.g)
 .split;grind
  .refine iC (kR (by decide)) (Yo (nJ (by decide)) fun T j => ?_);obtain ⟨u,l,rfl⟩:=uu.1 j;obtain ⟨⟨m,o⟩,p⟩:=h.us u l;exact og (iC (kR (a6F hv m (by rw[NF]; exact o))) (iC (nJ (by decide)) qG)) (b p)
theorem c8Q (b:Gn D.n) (a:Df D):uO (mZ D):=by have c:Sts (xG D.I D.mr 0 D.ls ++ D.vs.flatMap qf ++ D.ms.flatMap (nN D)):=b1Q (b1Q (b1R a.ls) (aII fun v hv=>c7Q (a.vs v hv))) (aII fun x d=>c7P a (a.ms x d));have:=uO.ZO (X := [tW [116,101,109,112,108,97,116,101],tW D.n] ++ xJ D.es) (og (iC (kR (by decide)) (iC (kR b) qG)) (a'R a.es)) (by simp) c .nil;grind [mZ]
def b1N (a:Gn m) {x:Ins} (h:Gn x.n/\Gn x.t/\∀ s,s∈x.es->Gn s):yT (kJ m x):=by refine MS rfl ?_ (by simp);exact og (iC (kR a) (iC (kR h.1) (iC (nJ (by decide)) (iC (kR h.2.1) qG)))) (a'R h.2.2)
theorem c7R {x:qj} (h:Gn x.n/\x.ls ≠ []/\∀ l,l∈x.ls->Gn l.1/\Gn l.2):yT (sZ x):=by refine MS rfl ?_ (by simp);refine og (iC (kR (by decide)) (iC (kR h.1) (iC (nJ (by decide)) qG))) (Yo (nJ (by decide)) fun T a => ?_);grind [kR]
def c7M {x:Cst} (h:Gn x.n/\x.ts ≠ []/\p_ x.b/\∀ l,l∈x.ts->Gn l.1/\p_ l.2):yT (ru x):=by refine MS rfl ?_ (by simp);refine og (og (og (iC (kR (by decide)) (iC (kR h.1) (iC (nJ (by decide)) qG))) (Yo (nJ (by decide)) fun T a => ?_)) (iC (nJ (by decide)) qG)) (Ox h.2.2.1);obtain ⟨l,c,rfl⟩:=uu.1 a;have:=h.2.2.2 l c;exact og (Ox this.2) (iC (nJ (by decide)) (iC (kR this.1) qG))
theorem Um (a:FD o):uO (kw o):=by refine QA (QA (QA (QA (QA (QA (Un ?_) (QB fun e he=>Un (c7N (a.es e he).1 (a.es e he).2))) (QB fun t c=>c8Q (a.ts t c).1 (a.ts t c).2)) (QB fun x b=>Un (b1N (by decide) (a.is x (VB _ b))))) (QB fun x b=>Un (b1N (by decide) (a.is x (VC _ b))))) (QB fun x b=>Un (c7R (a.xs x b)))) (QB fun x b=>Un (c7M (a.ks x b)));exact MS rfl (iC (kR (by decide)) (iC (kR a.n) qG)) (by simp)
def jw:List Tok->Nat
 | []=>0
 | t::T=>t.text.length+1+jw T
theorem gz:∀ A B:List Tok,jw (A ++ B)=jw A+jw B
 | [],B=>by rw[List.nil_append,jw,xh]
 | a::A,B=>by rw[pF,jw,jw,gz A B]; omega
theorem L6:∀ T:List Tok,T ≠ []->(eH T).length+1=jw T
 | [],h=>absurd rfl h
 | [t],_=>rfl
 | t::u::l,_=>by have:=L6 (u::l) (by simp);rw[eH,aY,bT,jw]; omega
def Ti:∀ T:List Tok,T.length<=jw T
 | []=>dO _
 | t::T=>by have:=Ti T; rw[bT,jw]; omega
def oJ (a:pG):Nat:=a.out.length+(if a.fr then 2 else 0)
theorem JD (a:pG) (A B:List Tok):fQ a (A ++ B)=fQ (fQ a A) B:=List.foldl_append
theorem aG5 (a:pG) (s:Nm) (b:a.d<=1):(sQ a s).length<=oJ a+s.length+(if a.fr then 0 else 1)/\a.out.length<=(sQ a s).length:=by have c:=a_7 a.d;grind [sQ,oJ]
theorem aHX:∀ {X:List Tok} {st:pG},Pl X->st.d<=1->(fQ st X).d=st.d/\oJ (fQ st X)<=oJ st+jw X/\(X ≠ []->(fQ st X).fr=false)
 | [],st,_,_=>⟨rfl,by show oJ st<=_; omega,fun h=>absurd rfl h⟩
 | t::X,st,h,a=>by
  obtain ⟨i,b,j⟩:=b52 (h t (by simp));have e:kK st t.text=⟨st.d,t.text,sQ st t.text,false⟩:=by unfold kK qV kU;rw[aX b,aX i,aX (by rintro (c | c); exact b c; exact j c)]
  have l:fQ st (t::X)=fQ ⟨st.d,t.text,sQ st t.text,false⟩ X:=by show fQ (kK st t.text) X=_;rw[e]
  have f:=(aG5 st t.text a).1;obtain ⟨m,q,n⟩:=aHX (X:=X) (st:=⟨st.d,t.text,sQ st t.text,false⟩) (fun u o=>h u (by simp[o])) a;rw[l];refine ⟨m,?_,fun _ => ?_⟩
  .have hq:oJ ⟨st.d,t.text,sQ st t.text,false⟩=(sQ st t.text).length:=by unfold oJ; simp
   rw[jw];cases p:st.fr<;>rw[p] at f<;>simp at f<;>omega
  .by_cases g:X = []
   .subst g; rfl
   .exact n g
variable {b1:pG}
theorem c58 (a:b1.d<=1):(kK b1 [59]).d=b1.d/\oJ (kK b1 [59])<=oJ b1+4/\(kK b1 [59]).fr=true:=by have b:=(aG5 b1 [59] a).1;grind [kK,sQ,qV,kU,oJ]
theorem a_P (h:yT A) (b:b1.d<=1):(fQ b1 A).d=b1.d/\oJ (fQ b1 A)<=oJ b1+2*jw A/\(fQ b1 A).fr=true:=by
 cases h with
 | @mk X c a =>grind [aHX,c58,fQ,JD,jw,gz]
theorem c5A (h:Sts A):∀ {st:pG},st.d<=1->st.fr=true->(fQ st A).d=st.d/\oJ (fQ st A)<=oJ st+2*jw A/\(fQ st A).fr=true:=by
 induction h with
 | nil=>intro st _ a; exact ⟨rfl,by show oJ st<=_; omega,a⟩
 | cons b _ c =>grind [a_P,JD,gz]
theorem aHY (h:uO A):∀ {st:pG},st.d=0->st.fr=true->(fQ st A).d=0/\oJ (fQ st A)<=oJ st+2*jw A/\(fQ st A).fr=true:=by
 induction h with
 | nil=>intro st a b; exact ⟨a,by show oJ st<=_; omega,b⟩
 | ZK c _ f =>grind [a_P,JD,gz]
 | @ZO X B A c j l _ f =>
  intro st a b;obtain ⟨r,t,u⟩:=aHX (st:=st) c (by omega);have v:=(aG5 (fQ st X) [123] (by omega)).1;have g:kK (fQ st X) [123]=⟨1,[123],sQ (fQ st X) [123] ++ [10],true⟩:=by grind [kK,qV,kU]
  have w:oJ (kK (fQ st X) [123])<=oJ (fQ st X)+5:=by grind [oJ]
  obtain ⟨m,n,o⟩:=c5A l (st:=kK (fQ st X) [123]) (by rw[g]; simp) (by rw[g]);generalize p:fQ (kK (fQ st X) [123]) B=S at m n o;have i:kK S [125]=⟨0,[125],S.out ++ [125] ++ [10],true⟩:=by
   have x:qV S [125]=⟨0,S.last,S.out,true⟩:=by grind [qV]
   grind [kK,kU,sQ,Lib.repeatL]
  have y:oJ (kK S [125])<=oJ S+2:=by grind [oJ]
  obtain ⟨s1,z,q⟩:=f (st:=kK S [125]) (by rw[i]) (by rw[i]);have e:fQ st (X ++ [tS [123]] ++ B ++ [tS [125]] ++ A)=fQ (kK S [125]) A:=by rw[JD,JD,JD,JD];show fQ (kK (fQ (kK (fQ st X) [123]) B) [125]) A=_;rw[p]
  have C:jw (X ++ [tS [123]] ++ B ++ [tS [125]] ++ A)=jw X+2+jw B+2+jw A:=by rw[gz,gz,gz,gz]; rfl
  rw[e];exact ⟨s1,by omega,q⟩
def c7K (a:pG) (s:Nm):a.out.length<=(kK a s).out.length/\(kK a s).d<=a.d+1:=by
 have b:a.out.length<=(qV a s).out.length/\(qV a s).d<=a.d:=by
  unfold qV;split
  .refine ⟨?_,by show a.d-1<=_; omega⟩;show _<=(if a.fr then a.out else a.out ++ [10]).length;split
   .omega
   .rw[aY]; omega
  .exact ⟨dO _,dO _⟩
 have c:(qV a s).out.length<=(sQ (qV a s) s).length:=by
  unfold sQ;split
  .rw[aY,aY]; omega
  .rw[aY];split
   .omega
   .rw[aY]; omega
 unfold kK kU;split
 .exact ⟨by rw[aY]; omega,by show (qV a s).d+1<=_; omega⟩
 .split
  .exact ⟨by rw[aY]; omega,by show (qV a s).d<=_; omega⟩
  .exact ⟨by show _<=(sQ (qV a s) s).length; omega,by show (qV a s).d<=_; omega⟩
def ZA:∀ (T:List Tok) (a:pG),a.out.length<=(fQ a T).out.length/\(fQ a T).d<=a.d+T.length
 | [],a=>⟨dO _,dO _⟩
 | t::T,a=>by have b:=c7K a t.text;have c:=ZA T (kK a t.text);show a.out.length<=(fQ (kK a t.text) T).out.length/\(fQ (kK a t.text) T).d<=a.d+(T.length+1);omega
def a'X (h:A.map (·.text)=B.map (·.text)) (a:pG):fQ a A=fQ a B:=by
 have e:∀ (T:List Tok) (a:pG),fQ a T=(T.map (·.text)).foldl kK a:=fun T a=>by unfold fQ; rw[List.foldl_map]
 rw[e,e,h]
def aW5 (b:A ≠ []) (f:∀ t,t∈A->Tv t) (g:(eH A).length<=65536):SS.CC 45 [.sl false 5 (A.map bM)] []=some (.tuple [.str (bs (eH A)),aP 0],[]):=by
 have o:A.length<=65537:=by have:=Ti A; have:=L6 A b; omega
 obtain ⟨a,e,i,c,j⟩:=b06 b f g;have hk:∀ t,t∈A->t.kind≠4:=fun t h=>(f t h).2.2.2
 have d:=aMJ c hk;have l:a.length=A.length:=by have:=congrArg List.length c; simpa using this
 have m:SS.CC 20 [.str (bs (eH A))] []=some (.tuple [.sl false 5 ((a ++ [e]).map bM),aP 0,aP 0,aP 0],[]):=by
  have:SS.CC 20 [.str (bs (eH A))] []=some (H5 (vX (eH A)),[]):=by rw[Nb fG]; rfl
  rw[this,i]; rfl
 have n:uQ (a ++ [e])=a:=by rw[aAV,OB d,a1C j]; simp[uQ]
 rw[aBQ,Jl (DR A (by omega)),OB hk];have:=aW2 A (by omega) A.length 0 (by omega);rw[show ((0:Nat):Int)=0 from rfl,List.take_zero,List.map_nil] at this;rw[this,aOO,aU (by rw[aZ]; omega),nR (sjc A (by omega) (by omega)),a0C m];rw[Jl (DR (a ++ [e]) (by rw[aY,xg]; omega)),n,bC (bA2 A a (by omega) c)];rfl
def c3K (a:A ≠ []) (b:∀ t,t∈A->Kt sA t) (e:uO A) (m:(eH A).length<=30000):SS.CC 23 [.sl false 5 (A.map bM)] []=some (.tuple [.str (bs (JA (fQ qW A))),aP 0],[])/\(JA (fQ qW A)).length<=65536:=by
 have n:=L6 A a;have o:=Ti A;obtain ⟨p,c,f⟩:=aHY e (st:=qW) rfl rfl;have g:(fQ qW A).out.length<=65536:=by unfold oJ at c; simp at c; omega
 have hk:∀ t,t∈A->t.kind≠4:=fun t h=>(Qw (b t h)).2.2.2
 have i:uQ A=A:=OB hk;refine ⟨?_,by unfold JA; rw[f]; exact g⟩;rw[aTT,VQ (aW5 a (fun t h=>Qw (b t h)) (by omega))];rw[Jl (DR A (by omega)),i];refine a'M A (by omega) (fun t h=>jO (aKU (b t h)) (by decide)) fun k hk => ?_
 have q:=ZA (A.take k) qW;have j:=ZA (A.drop k) (fQ qW (A.take k));rw[<- JD,NR] at j;have:(A.take k).length<=A.length:=by rw[ve]; omega
 have l:qW.d=0:=rfl;exact ⟨by omega,by omega⟩
def bX7 (c:uQ A=B) (d:A.length<=900000) (a:B ≠ []) (b:∀ t,t∈B->Tv t) (f:(eH B).length<=65536):SS.CC 45 [.sl false 5 (A.map bM)] []=some (.tuple [.str (bs (eH B)),aP 0],[]):=by
 have e:=aW5 a b f;have hk:∀ t,t∈B->t.kind≠4:=fun t h=>(b t h).2.2.2
 have g:B.length<=65537:=by have:=Ti B; have:=L6 B a; omega
 rw[aBQ,Jl (DR B (by omega)),OB hk] at e;rw[aBQ,Jl (DR A (by omega)),c];exact e
theorem c8V (h:B.map pK=A.map pK) (j:∀ t,t∈A->Tv t):∀ t,t∈B->Tv t:=fun f m=>by
 have:pK f∈A.map pK:=by grind
 obtain ⟨t,g,e⟩:=uu.1 this;obtain ⟨a,b,c,d⟩:=j t g;have i:f.text=t.text:=(congrArg (fun c=>c.2.1) e).symm;have l:f.kind=t.kind:=(congrArg (fun c=>c.1) e).symm;exact ⟨by rw[i]; exact a,by rw[i]; exact b,by simp_all,by rw[l]; exact d⟩
def b94 (h:B.map pK=A.map pK):B.map (·.text)=A.map (·.text):=by have:=congrArg (List.map fun c:Int×d_×Int=>c.2.1) h;rw[AQ,AQ] at this;exact this
theorem aW4:∀ {A B:List Tok},A.map (·.text)=B.map (·.text)->eH A=eH B
 | [],[],_=>rfl
 | [],_::_,h=>by cases h
 | _::_,[],h=>by cases h
 | [a],[b],h=>by injection h
 | [_],_::_::_,h=>by simp_all
 | _::_::_,[_],h=>by simp_all
 | a::a2::A,b::e::B,h=>by
  injection h with c d
  rw[eH,eH,aW4 d,show a.text=b.text from c]
theorem c3J {a:List Tok} (l:uQ A=B) (e:A.length<=900000) (f:B.map pK=a.map pK) (b:a ≠ []) (m:∀ t,t∈a->Kt sA t) (n:uO a) (r:(eH a).length<=30000):SS.CC 23 [.sl false 5 (A.map bM)] []=some (.tuple [.str (bs (JA (fQ qW a))),aP 0],[]):=by
 have g:=b94 f;have o:eH B=eH a:=aW4 g;have c:B.length=a.length:=by have:=congrArg List.length f; grind
 have d:B ≠ []:=fun h=>b (List.length_eq_zero_iff.1 (by rw[<- c,h]; rfl))
 have i:∀ t,t∈B->Tv t:=c8V f fun t h=>Qw (m t h)
 have u:a.length<=30001:=by have:=Ti a; have:=L6 a b; omega
 have j:∀ t,t∈B->t.text.length<=20000:=fun v w=>by grind [List.mem_map_of_mem,aKU]
 obtain ⟨x,y,z⟩:=aHY n (st:=qW) rfl rfl;have p:=L6 a b;have C:(fQ qW a).out.length<=65536:=by grind [oJ]
 rw[aTT,VQ (bX7 l e d i (by rw[o]; omega))];rw[Jl (DR A (by omega)),l,<- a'X g];refine a'M B (by omega) j fun k hk => ?_
 have D:=ZA (B.take k) qW;have q:=ZA (B.drop k) (fQ qW (B.take k));rw[<- JD,NR,a'X g] at q;grind
theorem aWR (h:yT A):∀ t,t∈A->Kt sA t:=by
 cases h with
 | mk b _ =>
  intro t a;rcases DZ.1 a with a | a
  grind [aKT]
  .rw[F8] at a; rw[a]; exact nJ (by decide)
theorem bYK (h:Sts A):∀ t,t∈A->Kt sA t:=by
 induction h with
 | nil=>simp
 | cons a _ b =>grind [aWR]
theorem aDY (h:uO A):∀ t,t∈A->Kt sA t:=by
 induction h with
 | nil=>simp
 | ZK b _ c =>grind [aWR]
 | ZO b _ d _ c =>
  intro t a;simp only[DZ,F8] at a;rcases a with (((a | a) | a) | a) | a
  grind [aKT]
  .rw[a]; exact nJ (by decide)
  grind [bYK]
  .rw[a]; exact nJ (by decide)
  simp_all
theorem YW (m:Mo):kw m ≠ []:=by unfold kw; simp
def MZ (m:Mo):Nm:=JA (fQ qW (kw m))
def aYQ (a:(eH (kw o)).length<=30000):(kw o).length<=30001:=by have:=Ti (kw o); have:=L6 (kw o) (YW o); omega
theorem b1W (g:lm o) (j:o.cs.length+o.rs.length<=20000) (l:Bl o=0) (i:(eH (kw o)).length<=30000):SS.CC 8 [A0 (aV o)] []=some (.str (bs (MZ o)),[]):=by
 have c:=a6B g l;have v:=aYQ i;have d:=aDY (Um c);obtain ⟨b,e,n,a,p⟩:=b06 (YW o) (fun t h=>Qw (d t h)) (by omega);have q:SS.CC 20 [.str (bs (eH (kw o)))] []=some (.tuple [.sl false 5 ((b ++ [e]).map bM),aP 0,aP 0,aP 0],[]):=by
  have:SS.CC 20 [.str (bs (eH (kw o)))] []=some (H5 (vX (eH (kw o))),[]):=by rw[Nb fG]; rfl
  rw[this,n]; rfl
 have f:=aMJ a fun t h=>(Qw (d t h)).2.2.2
 have r:uQ (b ++ [e])=b:=by rw[aAV,OB f,a1C p]; simp[uQ]
 have u:b.length=(kw o).length:=by have:=congrArg List.length a; grind
 rw[bI8,vk (cAI o g c j (by omega))];refine (nR (sjc (kw o) (by omega) (by omega))).trans ?_;rw[a0C q];rw[VQ (c3J r (by rw[aY,xg]; omega) a (YW o) d (Um c) i)];rfl
def c3M (a:lm o) (f:o.cs.length+o.rs.length<=20000) (d:Bl o=0) (e:(eH (kw o)).length<=30000):SS.CC 11 [A0 (aV o)] []=some (.tuple [.str (bs (MZ o)),aP 0],[]):=by have b:=a6B a d;have i:=aYQ e;have g:=aDY (Um b);have h:=c3K (YW o) g (Um b) e;have c:=b7M o a b (by omega);rw[bGO,bn (aMG o a f),d,RX rfl];refine (bf c).trans ?_;rw[VQ h.1];rw[lH,aU (by omega)];rfl
section
variable {u:List UInt8} {T:List Tok} {b:UInt8} {t:Tok}
end
theorem Gi {L:Nat->e->Y} {E:e->Y} {P:Nat->e->Prop} {n:Nat} (d:∀ k a,k<n->P k a->∃ c,L k a=L (k+1) c/\P (k+1) c) (he:∀ a,P n a->L n a=E a) (a:e) (f:P 0 a):∃ b,L 0 a=E b/\P n b:=by
 have:∀ (m k:Nat) (a:e),k+m=n->P k a->∃ b,L k a=E b/\P n b:=by
  intro m;induction m with
  | zero=>grind
  | succ m g =>grind
 simp_all
theorem nX (t:Tok) (B:List Tok):jw (t::B)=t.text.length+1+jw B:=by rw[jw]
theorem kZ:jw []=0:=rfl
theorem Yf:∀ T:List Tok,(eH T).length<=jw T
 | []=>by simp[eH]
 | [t]=>by rw[eH,jw,jw]; omega
 | t::u::l=>by have:=Yf (u::l);rw[eH,nX,aY,bT];omega
def Ij {c:Type} (f:c->List Tok) (b:Nat):∀ l:List c,(∀ a,a∈l->jw (f a)<=b)->jw (l.flatMap f)<=l.length*b
 | [],_=>by simp[kZ]
 | a::l,h=>by
  have e:=h a (by simp);have g:=Ij f b l fun x d=>h x (by simp[d])
  rw[NQ,gz,bT,rQ];omega
def YA (s:Tok) (b:Nat):∀ L:List (List Tok),(∀ a,a∈L->jw a+s.text.length+1<=b)->jw (iL s L)<=L.length*b
 | [],_=>by simp[iL,kZ]
 | [a],h=>by have:=h a (by simp); simp[iL]; omega
 | a::c::l,h=>by
  have e:=h a (by simp);have f:=YA s b (c::l) fun x d=>h x (by simp[d])
  rw[iL,gz,nX,bT,rQ];omega
theorem Yc {v:Int} (a : -999<=v) (b:v<=999):jw (gU v)<=6:=by grind [Lib.decDigits,gU,nX,kZ]
theorem Uy (x:EX) (a:Int) (B:List Tok):jw (wp x a B)<=jw B+4:=by grind [wp,nX,gz,kZ]
theorem aJG (x:EX) (B:List Tok):jw (wp x 0 B)=jw B:=by have:=U4 x;grind [wp]
theorem a90 (o:Int):(lW o).length<=2:=by grind [lW]
theorem c2S (r:∀ s,s∈l->s.length<=2) (h:PB l x A):∀ {j k:Int},Ty j k x->jw A<=12*gB x:=by
 induction h with
 | tt=>intro j k _; show 5<=12*3; decide
 | ff=>intro j k _; show 6<=12*3; decide
 | @num v _ _ =>
  intro j k n;have hv : -8<=v/\v<=23:=by
   generalize z:nE v=x at n;cases n with
   | EI g m=>grind [nE]
   | var _ _=>grind [nE,vE]
   | neg _=>grind [nE]
   | sJ _=>grind [nE]
   | ar g m _ _=>grind [nE]
   | cmp g m _ _=>grind [nE]
   | log g m _ _=>grind [nE]
   | ite _ _ _=>grind [nE]
  have:=Yc (v:=v) (by omega) (by omega);show _<=12*1;omega
 | @var i s D =>intro j k _;have:=r s (tC D);rw[nX,kZ];show s.length+1+0<=12*1;omega
 | @UB v H g u t =>
  intro j k n;have E:Ty j 1 (nE v):=by
   generalize z:kS 5 (nE v)=x at n;cases n with
   | EI g m=>grind [nE]
   | var _ _=>grind [vE]
   | neg h=>simp_all
   | sJ _=>simp_all
   | ar g m _ _=>simp_all
   | cmp g m _ _=>simp_all
   | log g m _ _=>simp_all
   | ite _ _ _=>simp_all
  have:=t E;have e:gB (nE v)=1:=rfl;rw[e] at this;rw[nX,nX,gz,nX,kZ];show 1+1+(1+1+(_+(1+1+0)))<=12*2;omega
 | @neg o v i d A I u t =>grind [Ty,nE,vE,Uy,gB,qZ,nX]
 | @sJ a A u t =>grind [Ty,nE,vE,Uy,gB,qZ,nX]
 | @cmp o a b f A F _ _ p q w y =>grind [Ty,nE,vE,Uy,gB,qZ,a90,gz,nX]
 | @bin o J a b f A F p q w y =>grind [Ty,nE,vE,Uy,gB,qZ,a90,gz,nX]
 | @ite c a b C f A G p q K w y =>grind [Ty,nE,vE,Uy,gB,qZ,gz,nX,aJG]
theorem WM (x:R):bJ true x=x:=aQ rfl
abbrev U8 (n:Int):Prop:=0<=n/\n<=255
abbrev I8 (n:Int):Prop := -128<=n/\n<=127
structure a0A (e:nD):Prop where
 k:0<=e.k/\e.k<=4
 f:e.k≠0->e.c=false/\e.o=false
theorem WU (a:Sh.V Vm) (bZ:List nD) (o:bZ.length<=100) (j:Int) (c:UInt8) (n:Int) (p:U8 n) (d:j<5)
 (i:vF ([.int .u8 (IntKind.u8.wrap (97+(IntKind.u8.wrap j)))]:ai)=true) (l:strOf ([.int .u8 (IntKind.u8.wrap (97+(IntKind.u8.wrap j)))]:ai)=bs [c])
 (m:∀ K,dD [.int .u8 a.1,.int .u8 a.2.1,.int .u8 a.2.2.1,.int .u8 a.2.2.2.1,.int .u8 a.2.2.2.2.1] j K=K (.int .u8 n)) :
 ∃ e:nD,e.n = [c]/\a0A e/\Ob a (bZ.map wK) j=Ob a ((bZ ++ [e]).map wK) (i64.wrap (j+1)):=by
 have b:(bZ.map wK).length+1<=aN:=by rw[aZ]; show _<=1073741824; omega
 rw[aOR];simp only[aK d,aI,aQ i,aQ (aK d),m,vZ,l,aQ (aK b)];by_cases f:48<=n
 .rw[aK f,aI];by_cases g:n<52
  .rw[aK g,aI];refine ⟨⟨[c],false,false,false,n-47⟩,rfl,⟨⟨by grind,by grind⟩,fun _=>⟨rfl,rfl⟩⟩,?_⟩;grind [WM,wrap64]
  .rw[aU g,aF];refine ⟨⟨[c],IntKind.u8.wrap ((BitVec.ofInt 8 n &&& BitVec.ofInt 8 1).toNat:Int)==1,IntKind.u8.wrap ((BitVec.ofInt 8 n &&& BitVec.ofInt 8 2).toNat:Int)==2,IntKind.u8.wrap ((BitVec.ofInt 8 n &&& BitVec.ofInt 8 4).toNat:Int)==4,0⟩,rfl,⟨⟨Int.le_refl _,by simp⟩,fun h=>absurd rfl h⟩,?_⟩;grind [WM]
 .rw[aU f,aF];refine ⟨⟨[c],IntKind.u8.wrap ((BitVec.ofInt 8 n &&& BitVec.ofInt 8 1).toNat:Int)==1,IntKind.u8.wrap ((BitVec.ofInt 8 n &&& BitVec.ofInt 8 2).toNat:Int)==2,IntKind.u8.wrap ((BitVec.ofInt 8 n &&& BitVec.ofInt 8 4).toNat:Int)==4,0⟩,rfl,⟨⟨Int.le_refl _,by simp⟩,fun h=>absurd rfl h⟩,?_⟩;grind [WM]
theorem evM {d e:Int} (l:U8 w) (m:U8 y) (o:U8 I) (p:U8 d) (he:U8 e):∃ h:List nD,SS.CC 24 [Zf (w,y,I,d,e,())] []=some (.sl false 5 (h.map wK),[])/\h.map (·.n) = [[97],[98],[99],[100],[101]]/\∀ x,x∈h->a0A x:=by obtain ⟨f,A,B,q⟩:=WU (w,y,I,d,e,()) [] (by decide) 0 97 w l (by decide) (by kernel_rfl) (by kernel_rfl) (fun K=>rfl);obtain ⟨g,C,o1,r⟩:=WU (w,y,I,d,e,()) [f] (by simp) 1 98 y m (by decide) (by kernel_rfl) (by kernel_rfl) (fun K=>rfl);obtain ⟨i,D,E,t⟩:=WU (w,y,I,d,e,()) [f,g] (by simp) 2 99 I o (by decide) (by kernel_rfl) (by kernel_rfl) (fun K=>rfl);obtain ⟨j,F,G,u⟩:=WU (w,y,I,d,e,()) [f,g,i] (by simp) 3 100 d p (by decide) (by kernel_rfl) (by kernel_rfl) (fun K=>rfl);obtain ⟨v,H,J,z⟩:=WU (w,y,I,d,e,()) [f,g,i,j] (by simp) 4 101 e he (by decide) (by kernel_rfl) (by kernel_rfl) (fun K=>rfl);refine ⟨[f,g,i,j,v],?_,by simp_all,by simp_all⟩;rw[bCD];refine q.trans (r.trans (t.trans (u.trans (z.trans ?_))));rw[aOR];rfl
def sF (c:UInt8) (k:Nat):List Nm:=(List.range k).map fun i => [c,48+UInt8.ofNat i]
def b_B (k:Nat) (h:k<=3):SS.CC 83 [.int .u8 118,aP (k:Int)] []=some (a_ (aJ (sF 118 k)),[]):=by
 have:k=0\/k=1\/k=2\/k=3:=by omega
 rcases this with rfl|rfl|rfl|rfl<;>exact a09 fG 60 (by kernel_rfl)
def b_9 (k:Nat) (h:1<=k/\k<=4):SS.CC 83 [.int .u8 108,aP (k:Int)] []=some (a_ (aJ (sF 108 k)),[]):=by
 have:k=1\/k=2\/k=3\/k=4:=by omega
 rcases this with rfl|rfl|rfl|rfl<;>exact a09 fG 60 (by kernel_rfl)
def Gq (c:UInt8) (k:Nat):(sF c k).length=k:=by simp[sF]
abbrev PS (r:Int×Int):PV := .agg [.int .i8 r.1,.int .i8 r.2]
structure O0 (i:Nat) (v:Vr):Prop where
 n:v.n = [120,48+UInt8.ofNat i]
 a : -4<=v.lo
 b:v.lo<=v.i
 c:v.i<=v.hi
 d:v.hi<=7
def u8w (n:Int):0<=IntKind.u8.wrap n/\IntKind.u8.wrap n<=255:=by rw[IntKind.wrap_u8]; omega
def c4P {l:List (Int×Int)} (O:l.length<=1000) (z:∀ r,r∈l->I8 r.1/\I8 r.2):∃ a:List Vr,SS.CC 84 [.sl false 2 (l.map PS)] []=some (.sl false 4 (a.map jI),[])/\a.length<=3/\∀ i (h:i<a.length),O0 i a[i]:=by
 rw[bIU];refine Exists.elim (Gi (n:=min l.length 3) (L:=fun k (a:List Vr)=>PP (l.map PS) (a.map jI) (k:Int)) (E:=fun a=>some (.sl false 4 (a.map jI),[]))
  (P:=fun k a=>a.length=k/\∀ i (h:i<a.length),O0 i a[i]) (fun k a hk d => ?_) (fun a d => ?_) [] ⟨rfl,fun i h=>by cases h⟩) fun a d=>⟨a,d.1,by have:=d.2.1; omega,d.2.2⟩
 .obtain ⟨hv,hq⟩:=d;have e:k<l.length:=by omega
  have c:k=0\/k=1\/k=2:=by omega
  obtain ⟨A,B⟩:=z l[k] (dZ e);have j:∀ K:Sh.V RJ->R,ak RJ (l.map PS) (k:Int) K=K (l[k].1,l[k].2,()):=fun K=>yw (f:=PS) (g:=fun r=>(r.1,r.2,())) (fun _ _=>rfl) e K
  have C:vF ([.int .u8 (IntKind.u8.wrap (48+(IntKind.u8.wrap (k:Int))))]:ai)=true:=by rcases c with rfl|rfl|rfl<;>rfl
  have D:(⟨#[120]⟩:b_) ++ strOf ([.int .u8 (IntKind.u8.wrap (48+(IntKind.u8.wrap (k:Int))))]:ai)=bs [120,48+UInt8.ofNat k]:=by rcases c with rfl|rfl|rfl<;>kernel_rfl
  have t:decide ((⟨#[120]⟩:b_).size+(strOf ([.int .u8 (IntKind.u8.wrap (48+(IntKind.u8.wrap (k:Int))))]:ai)).size<=aN)=true:=by rcases c with rfl|rfl|rfl<;>kernel_rfl
  generalize l[k].1=p at A j;generalize l[k].2=q at B j;have v : -4<=Int.tmod p 5/\Int.tmod p 5<=4:=by have Q:=QV p (b:=5) (by decide);have S:=Int.lt_tmod_of_pos p (b:=5) (by decide);omega
  generalize F:Int.tmod p 5=P at v;obtain ⟨m,_⟩:=u8w q;generalize G:IntKind.u8.wrap q=u at m;have w:0<=Int.tmod u 4/\Int.tmod u 4<=3:=⟨VA 4 m,by have:=QV u (b:=4) (by decide); omega⟩;generalize H:Int.tmod u 4=W at w;obtain ⟨o,x⟩:=u8w (Int.tdiv u 4);generalize I:IntKind.u8.wrap (Int.tdiv u 4)=T at o x;have J:0<=Int.tmod T (W+1)/\Int.tmod T (W+1)<=W:=⟨VA _ o,by have:=QV T (b:=W+1) (by omega); omega⟩;generalize N:Int.tmod T (W+1)=M at J;refine ⟨a ++ [⟨[120,48+UInt8.ofNat k],P,P+W,P+M⟩],?_,by simp[hv],fun i h => ?_⟩
  .rw[aQD,aK (by rw[aZ]; omega),aI,aK (by omega),aI,j];rw[j];rw[aQ C,aQ t,j];rw[F,G,H,I,wrap64 (n:=P) (by omega) (by omega),wrap64 (n:=W) (by omega) (by omega),wrap64 (n:=W+1) (by omega) (by omega),wrap64 (n:=P+W) (by omega) (by omega),wrap64 (n:=T) (by omega) (by omega),N,wrap64 (n:=P+M) (by omega) (by omega),aQ (by simp; omega),aQ (di (by rw[aZ]; omega)),D,bK (by omega),pq];rfl
  .rw[aY,xg] at h;by_cases y:i<a.length
   .rw[List.getElem_append_left y]; exact hq i y
   .have:i=a.length:=by omega
    subst this;rw[List.getElem_append_right (dO _)];simp only[Nat.sub_self,List.getElem_cons_zero];exact ⟨by rw[hv],by show -4<=P; omega,by show P<=P+M; omega,by show P+M<=P+W; omega,by show P+W<=7; omega⟩
 .rw[aQD];by_cases h:l.length<=3
  .rw[aU (by rw[aZ]; omega),aF]
  .rw[aK (by rw[aZ]; omega),aI,aU (by omega),aF]
structure FP (l:List Int) (k:Int):Prop where
 b:∀ i,i<l.length->0<=l.getD i 0/\l.getD i 0<k
 s:∀ i,0<i->i<l.length->l.getD (i-1) 0<l.getD i 0
def aV9 (k:Int):FP [] k:=⟨fun i h=>(nomatch h),fun i _ h=>(nomatch h)⟩
theorem aVA (h:FP j w):FP j (w+1):=⟨fun i a=>by have:=h.b i a; omega,h.s⟩
theorem bVB:(j ++ [w]).getD i 0=if i<j.length then j.getD i 0 else if i=j.length then w else 0:=by grind
def aV8 (h:FP j w) (e:0<=w):FP (j ++ [w]) (w+1):=by
 refine ⟨fun i c => ?_,fun i d c => ?_⟩<;>simp only[aY,xg] at c<;>simp only[bVB]
 .split
  .next a=>have:=h.b i a; omega
  omega
 .rw[ay (show i-1<j.length by omega)];split
  .next a=>exact h.s i d a
  .rw[ay (by omega)]; exact (h.b _ (by omega)).2
structure Nj (nv k:Int) (x:EX):Prop where
 t:Ty nv k x
 d:oO x<=6
 s:gB x<=63
structure a0L (nv:Int) (k:Nat) (us:List (Int×EX)):Prop where
 l:us.length<=k
 i:FP (us.map (·.1)) k
 e:∀ u,u∈us->Nj nv 1 u.2
structure Ny (nl ne nv:Nat) (x:Mv):Prop where
 f:0<=x.f/\x.f<nl
 e:0<=x.e/\x.e<ne
 t:0<=x.t/\x.t<nl
 g:Nj nv 2 x.g
 u:a0L nv nv x.us
structure Mc where
 a:Int
 b:Int
 i:Int
 m:Int
 rg:List (Int×Int)
 mv:List (Int×Int×Int)
 y:d_
abbrev NC (x:Int×Int×Int):Sh.V yS:=(x.1,x.2.1,x.2.2,())
abbrev Lr (x:Int×Int×Int):PV := .agg [.int .u8 x.1,.int .u8 x.2.1,.int .u8 x.2.2]
abbrev AU (c:Mc):Sh.V uK:=(c.a,c.b,c.i,c.m,c.rg.map PS,c.mv.map Lr,zu c.y,())
abbrev Ls (c:Mc):PV:=Bd (AU c)
def YP {l:List (Int×Int×Int)} (hk:i<l.length) (K:Sh.V yS->R):ak yS (l.map Lr) (i:Int) K=K (NC l[i]):=yw (fun _ _=>rfl) hk K
def aEN {l:List Mc} (hk:i<l.length) (K:Sh.V uK->R):ak uK (l.map Ls) (i:Int) K=K (AU l[i]):=yw (fun _ _=>rfl) hk K
structure aAD (c:Mc):Prop where
 a:U8 c.a
 b:U8 c.b
 i:U8 c.i
 m:U8 c.m
 rg:c.rg.length<=1000/\∀ r,r∈c.rg->I8 r.1/\I8 r.2
 mv:c.mv.length<=1000/\∀ x,x∈c.mv->U8 x.1/\U8 x.2.1/\U8 x.2.2
 y:c.y.length<=10000
def cut (a:i<=100000) (hk:C<=100000):(if i64.wrap (C:Int)<(i:Int) then i64.wrap (C:Int) else (i:Int))=((min C i:Nat):Int):=by rw[wrap64 (by omega) (by omega)];split<;>omega
section
variable {x3:Sh.V uK} {n:b_} {ls es:List Nm} {vs:List Vr} (hv:vs.length<=3)
include hv
theorem l25 {q:Int×Int×Int} {g m o:Int} {p:ai} {y:d_} (w:y.length<=100000) {k:Int} {r v c:ai} :
 ∃ a,SH x3 n (aJ ls) (aJ es) (vs.map jI) (NC q) g m o p 0 [] (zu y) k r v c=bJ (decide (c.length+1<=aN)) (KY x3 n (aJ ls) (aJ es) (vs.map jI) (i64.wrap (k+1)) (c ++ ([A9 (Int.tmod (i64.wrap q.1) ((aJ ls).length:Int),Int.tmod (i64.wrap q.2.1) ((aJ es).length:Int),Int.tmod (i64.wrap q.2.2) ((aJ ls).length:Int),g,m,o,p,a.map sW,())]:ai)) r v)/\a0L vs.length vs.length a:=by
 refine Gi (L:=fun j a=>SH x3 n (aJ ls) (aJ es) (vs.map jI) (NC q) g m o p (j:Int) (a.map sW) (zu y) k r v c) (P:=fun j a=>a0L vs.length j a) (fun j a A b => ?_) (fun a b => ?_) [] ⟨dO _,aV9 _,fun u h=>(nomatch h)⟩
 .rw[aOW,aK (by rw[aZ]; omega),aQ (by rw[wrap64 (by omega) (by omega)]; rfl)];try dsimp only
  generalize (IntKind.u8.wrap _==(1:Int))=z;cases z with
  | false =>rw[bK (by omega)];exact ⟨a,rfl,by have:=b.l; omega,aVA b.i,b.e⟩
  | true =>
   obtain ⟨x,e,t,d,s⟩:=aK1 (nv:=(vs.length:Int)) ⟨by omega,by omega⟩ (.inl rfl) (y.drop (min (j+1) y.length)) (by rw[qH]; omega);have B:=b.l;rw[show (zu y).length=y.length from aZ _,show ((j:Int)+1)=((j+1:Nat):Int) by omega,cut w (by omega),aQ (by simp; omega),nC,<- List.map_drop,show (vs.map jI).length=vs.length from aZ _,eG e,aQ (di (by rw[aZ]; omega)),wrap64 (by omega) (by omega)];refine ⟨a ++ [((j:Int),x)],?_,by rw[aY,xg]; omega,?_,?_⟩;simp
   .rw[pq];exact aV8 b.i (show (0:Int)<=(j:Int) by omega)
   .intro u f;rw[DZ,F8] at f;rcases f with f | rfl
    .exact b.e u f
    .exact ⟨t,d,s⟩
 grind [aOW,aF]
end
def a9F (b:U8 w) (c:0<y):0<=Int.tmod (i64.wrap w) y/\Int.tmod (i64.wrap w) y<y:=by have d:=b.1;rw[wrap64 (by omega) (by omega)];exact ⟨VA _ d,QV _ c⟩
def bVE (a:Int):Nj a 2 tE:=⟨.cmp (by decide) (by decide) (.EI (by decide) (by decide)) (.EI (by decide) (by decide)),by decide,by decide⟩
variable {b3:Mc}
theorem l17 (u:aAD b3) {n:b_} {ls es:List Nm} (hv:r.length<=3) (z:0<ls.length) {al mr:ai} :
 ∃ a:List Mv,KY (AU b3) n (aJ ls) (aJ es) (r.map jI) 0 [] al mr=some (A5 (n,aJ ls,aJ es,al,(ls.length:Int),Int.tmod (i64.wrap b3.i) (ls.length:Int),mr,r.map jI,a.map sN,()),[])/\a.length<=4/\∀ x,x∈a->Ny ls.length es.length r.length x:=by
 have M:=u.y;have m:(zu b3.y).length=b3.y.length:=aZ _;have o:(r.map jI).length=r.length:=aZ _;have A:(b3.mv.map Lr).length=b3.mv.length:=aZ _;have B:(if es.length=0 then 0 else min b3.mv.length 4)<=4:=by split<;>omega
 refine Exists.elim (Gi (L:=fun k (a:List Mv)=>KY (AU b3) n (aJ ls) (aJ es) (r.map jI) (k:Int) (a.map sN) al mr)
  (P:=fun k a=>a.length=k/\∀ x,x∈a->Ny ls.length es.length r.length x) (fun k a hk f => ?_) (fun a f => ?_) [] ⟨rfl,fun x h=>(nomatch h)⟩) fun a f=>⟨a,f.1,jO (Hg f.2.1) B,f.2.2⟩
 .have he:es.length≠0:=fun h=>by rw[ay h] at hk; omega
  rw[aX he] at hk;have v:k<b3.mv.length:=by omega
  have C:(!((ls.length:Int)==0))=true:=by rw[F6,tH]; omega
  obtain ⟨D,E,F⟩:=u.mv.2 _ (dZ v);obtain ⟨p,G⟩:=f;have w9:i64.wrap (9*(k:Int))=((9*k:Nat):Int):=by rw[wrap64 (by omega) (by omega)]; omega
  have j:∀ g,Nj r.length 2 g->∃ b:List Mv,a2M (AU b3) n (aJ ls) (aJ es) (r.map jI) (NC b3.mv[k]) (ev g).1 (ev g).2.1 (ev g).2.2.1 (ev g).2.2.2.1 (zu (b3.y.drop (min (9*k) b3.y.length))) (k:Int) al mr (a.map sN)=KY (AU b3) n (aJ ls) (aJ es) (r.map jI) ((k+1:Nat):Int) (b.map sN) al mr/\b.length=k+1/\∀ x,x∈b->Ny ls.length es.length r.length x:=fun g H=>by
   obtain ⟨I,e,J⟩:=l25 hv (y:=b3.y.drop (min (9*k) b3.y.length)) (by rw[qH]; omega);rw[bCE,e,aQ (di (by rw[aZ]; omega)),bK (by omega),fJ,fJ];refine ⟨a ++ [⟨Int.tmod (i64.wrap b3.mv[k].1) (ls.length:Int),Int.tmod (i64.wrap b3.mv[k].2.1) (es.length:Int),Int.tmod (i64.wrap b3.mv[k].2.2) (ls.length:Int),g,I⟩],by rw[pq]; rfl,by rw[aY,p]; rfl,fun x q => ?_⟩
   .rw[DZ,F8] at q;rcases q with q | rfl
    simp_all
    .exact ⟨a9F D (by omega),a9F E (by omega),a9F F (by omega),H,J⟩
  rw[aOV];unfold fV;try dsimp only
  rw[aK (by omega),aI,YP v,show ((k:Int)==4)=false by simp; omega,aF,fJ,fJ,show ((es.length:Int)==0)=false by grind,aF,eG g_];have l:(if ((9*k:Nat):Int)<(b3.y.length:Int) then ((9*k:Nat):Int) else (b3.y.length:Int))=((min (9*k) b3.y.length:Nat):Int):=by split<;>omega
  simp only[C,WM,tV,m,w9,l,nC,<- List.map_drop,o,su];rw[aQ (by simp only[bQ,tJ]; omega)];by_cases w:128<=b3.mv[k].1
  .obtain ⟨x,e,t,d,s⟩:=aK1 (nv:=(r.length:Int)) ⟨by omega,by omega⟩ (.inr rfl) (b3.y.drop (min (9*k) b3.y.length)) (by rw[qH]; omega);rw[aK w,aI,eG e];exact j x ⟨t,d,s⟩
  .rw[aU w,aF];exact j tE (bVE _)
 .rw[aOV];unfold fV;try dsimp only
  rw[fJ,fJ];by_cases he:es.length=0
  .rw[ay he];by_cases K:0<b3.mv.length
   .rw[aK (by omega),aI,YP K,show (((0:Nat):Int)==4)=false from rfl,aF,show ((es.length:Int)==0)=true by rw[he]; rfl,aI]
   .rw[aU (by omega),aF]
  .rw[aX he];by_cases N:b3.mv.length<=4
   .rw[aU (by omega),aF]
   .rw[E_ (by omega),aK (by omega),aI,YP (by omega),show (((4:Nat):Int)==4)=true from rfl,aI]
abbrev I9 (n:Nat):List Int:=(List.range n).map Int.ofNat
structure Dw (t:Tm):Prop where
 ls:∃ n:Nat,1<=n/\n<=4/\t.ls=sF 108 n
 es:∃ n:Nat,n<=3/\t.es=sF 118 n/\t.al=I9 n
 L:t.L=(t.ls.length:Int)
 I:0<=t.I/\t.I<(t.ls.length:Int)
 mr:FP t.mr (t.ls.length:Int)/\t.mr.length<=4
 vs:t.vs.length<=3/\∀ i (h:i<t.vs.length),O0 i t.vs[i]
 ms:t.ms.length<=4/\∀ x,x∈t.ms->Ny t.ls.length t.es.length t.vs.length x
section
variable {c:Mc} {n:b_} {ls es:List Nm} {o4:ai}
theorem Oy (f:ls.length<=4) {al:ai}:∃ a:List Int,Oc (AU c) n (aJ ls) (aJ es) o4 0 [] al=KY (AU c) n (aJ ls) (aJ es) o4 0 [] al (fP a)/\a.length<=ls.length/\FP a (ls.length:Int):=by
 refine Gi (n:=ls.length) (L:=fun k a=>Oc (AU c) n (aJ ls) (aJ es) o4 (k:Int) (fP a) al) (P:=fun k a=>a.length<=k/\FP a (k:Int)) (fun k a hk b => ?_) (fun a b => ?_) [] ⟨dO _,aV9 _⟩
 .obtain ⟨g,d⟩:=b;rw[aOU,aK (by rw[fJ]; omega),aI,aQ (by rfl)];generalize (IntKind.u8.wrap _==(1:Int))=e;cases e with
  | false =>rw[aF,bK (by omega)];grind [aVA]
  | true =>rw[aI,aQ (di (by rw[aZ]; omega)),bK (by omega)];refine ⟨a ++ [(k:Int)],?_,by rw[aY,xg]; omega,aV8 d (by omega)⟩;rw[show fP (a ++ [(k:Int)])=fP a ++ fP [(k:Int)] from pq]; rfl
 grind [aOU,fJ,aF]
theorem l6 (he:es.length<=3):GH (AU c) n (aJ ls) (aJ es) o4 0 []=Oc (AU c) n (aJ ls) (aJ es) o4 0 [] (fP (I9 es.length)):=by
 refine lS (n:=es.length) (L:=fun k=>GH (AU c) n (aJ ls) (aJ es) o4 (k:Int) (fP (I9 k))) (fun k hk => ?_) ?_
 .rw[aOX,aK (by rw[fJ]; omega),aI,aQ (di (by rw[aZ,aZ,List.length_range]; omega)),bK (by omega)];rw[show fP (I9 (k+1))=fP (I9 k) ++ fP [(k:Int)] by grind [List.range_succ]];rfl
 grind [aOX,fJ,aF]
end
theorem tmM {c:Mc} (f:aAD c) (n:Nm):∃ t:Tm,SS.CC 25 [.str (bs n),Bd (AU c)] []=some (A5 (iD t),[])/\t.n=n/\Dw t:=by
 obtain ⟨a0,a1⟩:=f.a;obtain ⟨r,D⟩:=f.b;have u:∃ e:Nat,e<=3/\i64.wrap (Int.tmod c.a 4)=(e:Int):=by have g:=QV c.a (b:=4) (by decide);have h:=VA 4 a0;rw[wrap64 (by omega) (by omega)];exact ⟨(Int.tmod c.a 4).toNat,by omega,by omega⟩
 have v:∃ d:Nat,(1<=d/\d<=4)/\i64.wrap (1+i64.wrap (Int.tmod c.b 4))=(d:Int):=by have g:=QV c.b (b:=4) (by decide);have h:=VA 4 r;rw[wrap64 (n:=Int.tmod c.b 4) (by omega) (by omega),wrap64 (by omega) (by omega)];exact ⟨(1+Int.tmod c.b 4).toNat,by omega,by omega⟩
 obtain ⟨e,o,w⟩:=u;obtain ⟨d,j,x⟩:=v;obtain ⟨p,ev,hv,l⟩:=c4P f.rg.1 f.rg.2;have q:=Gq 108 d;have y:=Gq 118 e;obtain ⟨mr,z,A,m⟩:=Oy (c:=c) (n:=bs n) (ls:=sF 108 d) (es:=sF 118 e) (o4:=p.map jI) (by omega) (al:=fP (I9 (sF 118 e).length));obtain ⟨B,es,g,h⟩:=l17 f (n:=bs n) (ls:=sF 108 d) (es:=sF 118 e) hv (by omega) (al:=fP (I9 (sF 118 e).length)) (mr:=fP mr);have C:(!((d:Int)==0))=true:=by rw[F6,tH]; omega
 refine ⟨⟨n,sF 108 d,sF 118 e,I9 (sF 118 e).length,((sF 108 d).length:Int),Int.tmod (i64.wrap c.i) ((sF 108 d).length:Int),mr,p,B⟩,?_,rfl,⟨⟨d,j.1,j.2,rfl⟩,⟨e,o,rfl,by rw[y]⟩,rfl,a9F f.i (by omega),⟨m,by grind⟩,⟨hv,l⟩,g,h⟩⟩;rw[bCO];unfold fV;try dsimp only
 simp only[w,x,vk (b_B e o),vk (b_9 d j),fJ,q,C,WM,b3W ev,tV];rw[l6 (by omega),z,es,q]
end Go.Proofs.YtmbehibpfkkjbaaGreatDoor.W
end

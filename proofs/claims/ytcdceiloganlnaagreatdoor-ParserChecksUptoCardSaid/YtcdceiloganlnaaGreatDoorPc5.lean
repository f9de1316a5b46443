/- A part of the proof: HO17, W17r, R17, W17x, W17m, W17y, E17, O17, O17w, AbV17, AbV18, QPQ16, F17, F17b, F17c, W17w, H17, I17, HO17b, J17w, U17, N17a, V17, V17b, M17b, S17, J18, P18, P18b. -/
import Derived.Test.YtcdceiloganlnaaGreatDoorPc4
import Derived.Test.YtcdceiloganlnaaGreatDoorPc3
import Derived.ProofKit
import Derived.SizedLaws
import Derived.ChangeArms
import Derived.OpenShut
import Derived.ChangeOld
import Derived.Deep.DeepHandedRow
import Derived.Lib.LaidTab
import Derived.Shelf.LaysM
import Derived.Test.YtcdceiloganlnaaGreatDoorRows
import Derived.Test.YtcdceiloganlnaaGreatDoorCards
import Derived.Test.YtcdceiloganlnaaGreatDoorTie
import Derived.Stop.LaidErr
import Derived.JoinedOf
set_option linter.unusedVariables false
set_option linter.unusedSimpArgs false
set_option linter.unnecessarySimpa false
set_option linter.unusedSectionVars false
noncomputable section
open Go.IntKind (i64)
namespace Go.Proofs.YtcdceiloganlnaaGreatDoor.W
open Go.RowKit
theorem nY {C:Cal} {g:FuncId} {a:List PV} {h:aF} {F:PV->aF->R} {r:PV} {h':aF} {v:R} (e:C g a h=some (r,h')) (e2:F r h'=v):xg C g a h F=v:=by unfold xg; rw[e]; exact e2
theorem vK {C:Cal} {g:FuncId} {a:List PV} {F:PV->R} {r:PV} {v:R} (e:C g a []=some (r,[])) (e2:F r=v):iI C g a F=v:=by unfold iI; rw[e]; exact e2
theorem JG {g:FuncId} {a:List PV} {n1:ByteArray} {n2:Int} {K:RS.F (.t [(false,[.S]),(false,[.I .i64])]) R} (e:SS.CC g a []=some (.tuple [.str n1,.int .i64 n2],[])):G0 g a K=K ((n1,()),(n2,()),()):=vK e rfl
theorem bV {g:FuncId} {a:List PV} {n1:Int} {K:RS.F (.ti .i64) R} (e:SS.CC g a []=some (.int .i64 n1,[])):G1 g a K=K n1:=vK e rfl
theorem a5A {g:FuncId} {a:List PV} {n1:List PV} {n2:Int} {n3:Int} {n4:Int} {K:RS.F (.t [(false,[.L false 5]),(false,[.I .i64]),(false,[.I .i64]),(false,[.I .i64])]) R} (e:SS.CC g a []=some (.tuple [.sl false 5 n1,.int .i64 n2,.int .i64 n3,.int .i64 n4],[])):XK g a K=K ((n1,()),(n2,()),(n3,()),(n4,()),()):=vK e rfl
theorem ou {g:FuncId} {a:List PV} {s1:ByteArray} {K:RS.F (.ts) R} (e:SS.CC g a []=some (.str s1,[])):G2 g a K=K s1:=vK e rfl
theorem dS {g:FuncId} {a:List PV} {x1:Sh.V S1} {K:RS.F (.g S1) R} (e:SS.CC g a []=some (A1 x1,[])):wK g a K=K x1:=vK e rfl
theorem bD {g:FuncId} {a:List PV} {b1:Bool} {K:RS.F (.tb) R} (e:SS.CC g a []=some (.bool b1,[])):G3 g a K=K b1:=vK e rfl
theorem aLH {g:FuncId} {a:List PV} {n1:Int} {n2:Bool} {K:RS.F (.t [(false,[.I .i64]),(false,[.B])]) R} (e:SS.CC g a []=some (.tuple [.int .i64 n1,.bool n2],[])):G37 g a K=K ((n1,()),(n2,()),()):=vK e rfl
theorem zx {g:FuncId} {a:List PV} {l1:List PV} {K:RS.F (.tl false 1) R} (e:SS.CC g a []=some (.sl false 1 l1,[])):G4 g a K=K l1:=vK e rfl
theorem a5B {g:FuncId} {a:List PV} {n1:Int} {n2:Int} {K:RS.F (.t [(false,[.I .i64]),(false,[.I .i64])]) R} (e:SS.CC g a []=some (.tuple [.int .i64 n1,.int .i64 n2],[])):G6 g a K=K ((n1,()),(n2,()),()):=vK e rfl
theorem kG {g:FuncId} {a:List PV} {l1:List PV} {K:RS.F (.tl true 1) R} (e:SS.CC g a []=some (.sl true 1 l1,[])):G7 g a K=K l1:=vK e rfl
theorem bJ {g:FuncId} {a:List PV} {h:aF} {y1:Sh.V fU} {K:RS.F (.t []) (jU [.c fU])} (e:SS.CC g a h=some (.tuple [],[aB y1])):aX g a h K=K () y1:=nY e rfl
theorem a5C {g:FuncId} {a:List PV} {h:aF} {n1:Int} {y2:Sh.V yT} {K:RS.F (.ti .i64) (jU [.c yT])} (e:SS.CC g a h=some (.int .i64 n1,[eP y2])):XL g a h K=K n1 y2:=nY e rfl
theorem aLK {g:FuncId} {a:List PV} {h:aF} {x1:Sh.V jl} {y2:Sh.V bM} {K:RS.F (.g jl) (jU [.c bM])} (e:SS.CC g a h=some (jf x1,[uG y2])):H24 g a h K=K x1 y2:=nY e rfl
theorem a5F {g:FuncId} {a:List PV} {h:aF} {b1:Bool} {y2:Sh.V yT} {K:RS.F (.tb) (jU [.c yT])} (e:SS.CC g a h=some (.bool b1,[eP y2])):XO g a h K=K b1 y2:=nY e rfl
theorem aLO {g:FuncId} {a:List PV} {h:aF} {b1:Bool} {y2:Sh.V rX} {K:RS.F (.tb) (jU [.c rX])} (e:SS.CC g a h=some (.bool b1,[iG y2])):wL g a h K=K b1 y2:=nY e rfl
theorem lS {g:FuncId} {a:List PV} {h:aF} {y1:Sh.V fU} {K:RS.F (.t []) (jU [.z oD,.c fU])} (e:SS.CC g a h=some (.tuple [],[some [.ptr 1 0],aB y1])):dh g a h K=K () y1:=nY e rfl
set_option maxRecDepth 1000000
section
theorem aRR (h0:Sh.V bM):SS.CC 131 [.ptr 0 0] [uG h0] =
 aA (h0.2.2.2.1 != 0) (some (jf (4,⟨#[]⟩,0,h0.2.1,h0.2.2.1,()),[uG h0])) (bG jl h0.1 0 fun u2=>some (jf u2,[uG h0])):=cc
theorem aWE (h0:Sh.V bM):SS.CC 220 [.ptr 0 0] [uG h0] =
 H24 131 [.ptr 0 0] [uG h0] fun u1 u6=>aA (u6.2.2.2.1==0) (aA (u1.1 != 4) (chk (decide (0<=1)&&decide (1<=(u6.1.length:Int))) (some (jf u1,[uG ((u6.1.drop (1:Int).toNat),u6.2.1,u6.2.2.1,u6.2.2.2.1,())]))) (some (jf u1,[uG u6]))) (some (jf u1,[uG u6])):=cc
end
structure RA where
 toks:List Tok
 line:Int
 sH:Int
 e:Int
abbrev tk (t:Tok):Sh.V jl:=(t.kind,bs t.text,t.value,t.line,t.sH,())
abbrev RA.v (A:RA):Sh.V bM:=(A.toks.map aZ,A.line,A.sH,A.e,())
def aLW (t:Tok):Prop:=(t.kind=1/\t.text∉ui)\/(t.kind=2/\0<=t.value/\t.value<=65536)\/(t.kind=3/\t.text∈ui)
def Xa:List Tok->Prop
 | []=>False
 | t::l=>(t.kind=4/\l = [])\/(aLW t/\Xa l)
def RA.ok (A:RA):Prop:=A.e=0->Xa A.toks
def RA.a7Y (A:RA):Tok:=⟨4,[],0,A.line,A.sH⟩
def RA.pk (A:RA):Tok:=if A.e=0 then A.toks.headD A.a7Y else A.a7Y
theorem RA.ok.ne {A:RA} (h:A.ok) (he:A.e=0):∃ t tl,A.toks=t::tl:=by
 have:=h he;match hA:A.toks with
 | []=>rw[hA] at this; exact this.elim
 | t::tl=>exact ⟨t,tl,rfl⟩
theorem qZ {n:Int} (h:n=0):(n != 0)=false:=by simp[h]
theorem ru {n:Int} (h:n≠0):(n != 0)=true:=by simp[h]
theorem aMQ {n:Int} (h:n=0):(n==0)=true:=by simp[h]
theorem a6T {n:Int} (h:n≠0):(n==0)=false:=by simp[h]
theorem peek {A:RA} (h:A.ok):SS.CC 131 [.ptr 0 0] [uG A.v]=some (jf (tk A.pk),[uG A.v]):=by
 rw[aRR];dsimp only;unfold RA.pk;by_cases he:A.e=0
 .obtain ⟨t,tl,ht⟩:=h.ne he;rw[qZ he,aC,aH he,ht]; rfl
 .rw[ru he,aG,aI he]; rfl
theorem pk4 {A:RA} (he:A.e≠0):A.pk.kind=4:=by unfold RA.pk; rw[aI he]; rfl
def RA.next (A:RA):RA:=if A.e=0/\A.pk.kind≠4 then { A with toks:=A.toks.drop 1 } else A
theorem next {A:RA} (h:A.ok):SS.CC 220 [.ptr 0 0] [uG A.v]=some (jf (tk A.pk),[uG A.next.v]):=by
 rw[aWE,aLK (peek h)];dsimp only;unfold RA.next;by_cases he:A.e=0
 .obtain ⟨t,tl,ht⟩:=h.ne he;rw[aMQ he,aG];by_cases hk:A.pk.kind=4
  .rw[show (A.pk.kind != 4)=false by simp[hk],aC,aI (by simp[hk])]
  .have hl:(A.toks.map aZ).length=tl.length+1:=by rw[ht]; simp
   have hc:(decide ((0:Int)<=1)&&decide ((1:Int)<=((A.toks.map aZ).length:Int)))=true:=by rw[aN (by omega),aN (by rw[hl]; omega)]; rfl
   rw[show (A.pk.kind != 4)=true by simp[hk],aG,aH ⟨he,hk⟩];refine (ah hc).trans ?_;show some (jf (tk A.pk),[uG ((A.toks.map aZ).drop 1,A.line,A.sH,A.e,())])=some (jf (tk A.pk),[uG ((A.toks.drop 1).map aZ,A.line,A.sH,A.e,())]);rw[List.map_drop]
 .rw[a6T he,aC,aI (by simp[he])]
theorem RA.ok.next {A:RA} (h:A.ok):A.next.ok:=by
 unfold RA.next;split
 .rename_i c;intro he;obtain ⟨t,tl,ht⟩:=h.ne c.1;have h1:=h c.1;have hp:A.pk=t:=by unfold RA.pk; rw[aH c.1,ht]; rfl
  rw[hp] at c;show Xa (A.toks.drop 1);rw[ht] at h1 ⊢;rcases h1 with ⟨h1,_⟩ | h1
  .exact absurd h1 c.2
  .exact h1.2
 .exact h
def RA.is (A:RA) (x:List UInt8):Bool:=(A.pk.kind==1||A.pk.kind==3)&&A.pk.text==x
def RA.take (A:RA) (x:List UInt8):RA:=bif A.is x then A.next else A
theorem RA.ok.take {A:RA} (h:A.ok) (x:List UInt8):(A.take x).ok:=by
 unfold RA.take;cases A.is x with
 | true=>exact h.next
 | false=>exact h
def RA.fail (A:RA) (n:Int):RA:=if A.e=0/\n≠0 then { A with line:=A.pk.line,sH:=A.pk.sH,e:=n } else A
theorem aQ5 {A:RA} {n:Int} (hn:n≠0):(A.fail n).e≠0:=by
 unfold RA.fail;by_cases he:A.e=0
 .rw[aH ⟨he,hn⟩]; exact hn
 .rw[aI (by simp[he])]; exact he
theorem b7K {A:RA} (h:A.e≠0):A.ok:=fun e=>absurd e h
theorem RA.ok.fail {A:RA} (h:A.ok) (n:Int):(A.fail n).ok:=by
 by_cases hn:n=0
 .unfold RA.fail; rw[aI (by simp[hn])]; exact h
 .exact b7K (aQ5 hn)
theorem b6' {A:RA} (h:A.e≠0):A.next=A:=by unfold RA.next; rw[aI (by simp[h])]
theorem b70 (A:RA):A.next.e=A.e:=by unfold RA.next; split<;>rfl
def RA.num (A:RA) (sg lo hi:Int):RA:=if A.pk.kind=2 then (if i64.wrap (sg*A.pk.value)<lo\/hi<i64.wrap (sg*A.pk.value) then A.fail 2 else A.next) else A.fail 14
theorem RA.ok.num {A:RA} (h:A.ok) (sg lo hi:Int):(A.num sg lo hi).ok:=by
 unfold RA.num; split
 .split
  .exact h.fail 2
  .exact h.next
 .exact h.fail 14
def RA.mi (A:RA):Bool:=A.pk.kind==3&&A.pk.text == [45]
def RA.int (A:RA) (lo hi:Int):RA:=bif A.mi then A.next.num (-1) lo hi else A.num 1 lo hi
theorem RA.ok.int {A:RA} (h:A.ok) (lo hi:Int):(A.int lo hi).ok:=by
 unfold RA.int;cases A.mi with
 | true=>exact h.next.num _ _ _
 | false=>exact h.num _ _ _
section
end
section
theorem aRP (a0:Int):SS.CC 118 [.int .i64 a0] [] =
 aA (a0==2) (some (.str ⟨#[43]⟩,[])) (aA (a0==3) (some (.str ⟨#[45]⟩,[])) (aA (a0==4) (some (.str ⟨#[42]⟩,[])) (aA (a0==6) (some (.str ⟨#[61,61]⟩,[])) (aA (a0==7) (some (.str ⟨#[33,61]⟩,[])) (aA (a0==8) (some (.str ⟨#[60]⟩,[])) (aA (a0==9) (some (.str ⟨#[60,61]⟩,[])) (aA (a0==11) (some (.str ⟨#[38,38]⟩,[])) (some (.str ⟨#[124,124]⟩,[]))))))))):=cc
end
section
theorem aWG (a0:Sh.V S1) (a1:Sh.V S1):SS.CC 23 [A1 a0,A1 a1] [] =
 aA (a0.1==a1.1) (aA (a0.2.1==a1.2.1) (aA (a0.2.2.1==a1.2.2.1) (G3 106 [.sl false 4 a0.2.2.2.1,.sl false 4 a1.2.2.2.1,.func (.func 23) [] []] fun b1=>some (.bool b1,[])) (some (.bool false,[]))) (some (.bool false,[]))) (some (.bool false,[])):=cc
theorem aXI (a0:List PV) (a1:ByteArray):SS.CC 25 [.sl false 1 a0,.str a1] [] =
 G1 108 [.sl false 1 a0,.str a1] fun n1=>some (.bool (decide (0<=n1)),[]):=cc
def aQZ:KT:=SS.rK Tryz.f106 106 0 []
def aQ':KT:=SS.jK 106 32 0 (cS Tryz.f106 15) aQZ
def aR0:KT:=au 0 aQ'
def UD (x1:List PV) (x15:List PV) (x17:Int):R:=SS.LL (SS.ae 106 32) 0 [1,2,15,16,17] 0 (cS Tryz.f106 75) aR0 ⟨[(1,.sl false 4 x1),(2,.func (.func 23) [] []),(15,.sl false 4 x15),(16,.int .i64 (x15.length:Int)),(17,.int .i64 x17)],[]⟩
theorem a9E (x1:List PV) (x15:List PV) (x17:Int):UD x1 x15 x17 =
 aA (decide (x17<(x15.length:Int))) (bG S1 x15 x17 fun u2=>bG S1 x1 x17 fun u7=>G3 23 [A1 u2,A1 u7] fun b11=>aA (!b11) (some (.bool false,[])) (UD x1 x15 (i64.wrap (x17+1)))) (some (.bool true,[])):=ll
theorem aR1 (a0:List PV) (a1:List PV):SS.CC 106 [.sl false 4 a0,.sl false 4 a1,.func (.func 23) [] []] [] =
 aA ((a0.length:Int) !=(a1.length:Int)) (some (.bool false,[])) (UD a1 a0 0):=cc
def aR3:KT:=SS.rK Tryz.f108 108 0 []
def aR4:KT:=SS.jK 108 19 0 (cS Tryz.f108 7) aR3
def aR5:KT:=au 0 aR4
def UE (x0:List PV) (x1:ByteArray) (x8:Int):R:=SS.LL (SS.ae 108 19) 0 [0,1,7,8] 0 (cS Tryz.f108 37) aR5 ⟨[(0,.sl false 1 x0),(1,.str x1),(7,.int .i64 (x0.length:Int)),(8,.int .i64 x8)],[]⟩
theorem a9F (x0:List PV) (x1:ByteArray) (x8:Int):UE x0 x1 x8 =
 aA (decide (x8<(x0.length:Int))) (dH x0 x8 fun e1=>vS e1 fun s2=>aA (x1.toList==s2.toList) (some (.int .i64 x8,[])) (UE x0 x1 (i64.wrap (x8+1)))) (some (.int .i64 (-1),[])):=ll
theorem aR6 (a0:List PV) (a1:ByteArray):SS.CC 108 [.sl false 1 a0,.str a1] [] =
 UE a0 a1 0:=cc
theorem aRN:SS.CC 116 [] [] =
 some (A1 (6,0,0,[A1 (0,0,0,[],()),A1 (0,0,0,[],())],()),[]):=cc
theorem aRO:SS.CC 117 [] [] =
 some (A1 (7,0,0,[A1 (0,0,0,[],()),A1 (0,0,0,[],())],()),[]):=cc
end
inductive EX where
 | node (op val idx:Int) (args:List EX)
theorem EX.ind {P:EX->Prop} (h:∀ o x i l,(∀ e,e∈l->P e)->P (.node o x i l)):∀ e,P e :=
 fun e=>EX.rec (motive_1:=P) (motive_2:=fun l=>∀ e,e∈l->P e) (fun o x i l ih=>h o x i l ih) (by simp) (fun a l ha hl e he=>by
  rcases fQ.1 he with rfl | he
  .exact ha
  .exact hl e he) e
inductive EX.Len:EX->Prop
 | mk {o v i:Int} {l:List EX}:l.length<=70368744177664->(-9223372036854775808<=v/\v<=9223372036854775807)->(-9223372036854775808<=o/\o<=9223372036854775807)->(-9223372036854775808<=i/\i<=9223372036854775807)->(∀ e,e∈l->EX.Len e)->EX.Len (.node o v i l)
mutual
def ev:EX->Sh.V S1
 | .node o x i l=>(o,x,i,mJ l,())
def mJ:List EX->List PV
 | [] => []
 | e::l=>A1 (ev e)::mJ l
end
theorem Td:∀ l:List EX,mJ l=l.map fun e=>A1 (ev e)
 | []=>rfl
 | e::l=>by rw[mJ,Td l]; rfl
theorem iw (o x i:Int) (l:List EX):ev (.node o x i l)=(o,x,i,mJ l,()):=by rw[ev]
abbrev uk (o:Int) (a:EX):EX := .node o 0 0 [a]
abbrev rZ (o:Int) (a b:EX):EX := .node o 0 0 [a,b]
def zE:EX := .node 0 0 0 []
def nE (n:Int):EX := .node 0 n 0 []
def vE (n:Int):EX := .node 1 0 n []
def tE:EX := .node 6 0 0 [zE,zE]
def fE:EX := .node 7 0 0 [zE,zE]
theorem Ti (n:Int):ev (nE n)=(0,n,0,[],()):=rfl
theorem c116:SS.CC 116 [] []=some (A1 (ev tE),[]):=aRN
theorem c117:SS.CC 117 [] []=some (A1 (ev fE),[]):=aRO
def uZ (l:List ByteArray):List PV:=l.map .str
def Hm (s:ByteArray):List ByteArray->Nat->Int
 | [],_ => -1
 | x::l,k=>if s=x then (k:Int) else Hm s l (k+1)
theorem aMR (s x:ByteArray):(s.toList==x.toList)=decide (s=x):=by
 rw[Wy,Wy];by_cases h:s=x
 .simp[h]
 .have:s.data≠x.data:=fun e=>h (ByteArray.ext e)
  rw[aT h];simpa using this
theorem aDU (all:List ByteArray) (hn:all.length<1000000000000) (s:ByteArray):∀ (l:List ByteArray) (k:Nat),all.drop k=l->k<=all.length->UE (uZ all) s (k:Int)=some (.int .i64 (Hm s l k),[])
 | [],k,h,hk=>by have:all.length<=k:=J3.1 h;rw[a9F,aT (by unfold uZ; rw[bW]; omega),aC]; rfl
 | x::l,k,h,hk=>by
  have hlt:k<all.length:=by
   rcases je k all.length with h' | h'
   .exact h'
   .rw[zq h'] at h; cases h
  have hg:all[k]? = some x:=by have:=congrArg (fun l=>l[0]?) h;simpa using this
  rw[a9F,aN (by unfold uZ; rw[bW]; omega),aG,jo (e := .str x) (by omega) (by unfold uZ; rw[lm,gV,hg]; rfl),iO,aMR];rw[Hm];by_cases e:s=x
  .rw[aN e,aG,aH e]
  .rw[aT e,aC,aI e,wrap64 (by omega) (by omega),show ((k:Int)+1)=((k+1:Nat):Int) by omega];exact aDU all hn s l (k+1) (by rw[<- NC,h]; rfl) (by omega)
theorem b35 (l:List ByteArray) (hn:l.length<1000000000000) (s:ByteArray):SS.CC 108 [.sl false 1 (uZ l),.str s] []=some (.int .i64 (Hm s l 0),[]):=by rw[aR6]; exact aDU l hn s l 0 rfl (uA _)
theorem hasc (l:List ByteArray) (hn:l.length<1000000000000) (s:ByteArray):SS.CC 25 [.sl false 1 (uZ l),.str s] []=some (.bool (decide (0<=Hm s l 0)),[]):=by rw[aXI,bV (b35 l hn s)]
end Go.Proofs.YtcdceiloganlnaaGreatDoor.W
namespace Go.Proofs.YtcdceiloganlnaaGreatDoor
open Go.RowKit Go.ChangeShapes Go.WideShapes Go.ChangeAt
set_option maxRecDepth 100000
theorem b7S:ownKnob Tryz.prog.godebug=none:=by kernel_rfl
theorem b57:laidOutB Tryz.prog=true:=by kernel_rfl
theorem b6T:Tryz.prog.follows .mixedOrders=true:=by kernel_rfl
theorem aPZ {g:FuncId} {args:List PV} {r:PV} (h:W.SS.CC g args []=jQ r):Ev Tryz.prog g args [] r [] :=JE b6T W.dO aLF g args [] r [] h
theorem bAR {M:Mem} {B:aQ}:ag M B [] []:=dC.2 rfl
theorem bAS {M:Mem} {B:aQ} {p:PV} {ps:List PV} {u:Value} {us:List Value} (h:Rep M B p u) (h2:ag M B ps us):ag M B (p::ps) (u::us):=bY.2 ⟨u,us,rfl,h,h2⟩
theorem b9F:parts Tryz.prog 42 = [(0,3),(1,3),(2,3),(3,40)]:=by kernel_rfl
theorem TN:Tryz.prog.cellsOf 42=4:=by kernel_rfl
theorem EJ:Tryz.prog.cellsOf 3=1:=by kernel_rfl
theorem CJ:Tryz.prog.cellsOf 9=1:=by kernel_rfl
theorem aO8:Tryz.prog.cellsOf 40=1:=by kernel_rfl
theorem byE:Tryz.prog.bytesOf 42=48:=by kernel_rfl
theorem agE:AP Tryz.prog 42=true:=by kernel_rfl
def I64 (n:Int):Prop := -9223372036854775808<=n/\n<=9223372036854775807
theorem a2Q {fuel:Nat} {ps:List PV} (h:Bz Tryz.prog fuel 3 ps):∃ n,ps = [.int .i64 n]/\I64 n:=by
 cases fuel with
 | zero=>exact h.elim
 | succ fuel =>simp only[Bz,Tryz.underlying3] at h;obtain ⟨n,rfl,hn⟩:=h;refine ⟨n,rfl,?_⟩;simp[Lit.wf,IntKind.min,IntKind.max,IntKind.signed,IntKind.bits] at hn;exact hn
theorem a06 {α:Type} {f:α->PV} {Q:α->Prop}:∀ {es:List PV},(∀ p,p∈es->∃ x,p=f x/\Q x)->∃ l:List α,es=l.map f/\∀ x,x∈l->Q x
 | [],_=>⟨[],rfl,by simp⟩
 | p::es,h=>by
  obtain ⟨x,hx,hq⟩:=h p (by simp);obtain ⟨l,hl,hql⟩:=a06 (es:=es) fun q hq=>h q (by simp[hq])
  exact ⟨x::l,by rw[hx,hl]; rfl,fun y hy=>by
   rcases fQ.1 hy with rfl | hy
   .exact hq
   .exact hql y hy⟩
theorem four {ps:List PV} (h:ps.length=4):∃ a b c d,ps = [a,b,c,d]:=by
 match ps,h with
 | [a,b,c,d],_=>exact ⟨a,b,c,d,rfl⟩
theorem bCJ:∀ {fuel:Nat} {ps:List PV},Bz Tryz.prog fuel 42 ps->∃ e,sJ Tryz.prog 42 ps=W.A1 (W.ev e)/\W.EX.Len e:=by
 intro fuel;induction fuel using Nat.strongRecOn with
 | _ fuel ih =>
  intro ps h;cases fuel with
  | zero=>exact h.elim
  | succ fuel =>
   simp only[Bz,Tryz.underlying42,b9F,TN] at h;obtain ⟨hl,h⟩:=h;obtain ⟨a,b,c,d,rfl⟩:=four hl;have h0:=h (0,3) (by simp);have h1:=h (1,3) (by simp);have h2:=h (2,3) (by simp);have h3:=h (3,40) (by simp);simp only[EJ,aO8,List.drop,List.take] at h0 h1 h2 h3;obtain ⟨o,e0,i0⟩:=a2Q h0;obtain ⟨x,e1,i1⟩:=a2Q h1;obtain ⟨i,e2,i2⟩:=a2Q h2;cases e0; cases e1; cases e2;cases fuel with
   | zero=>exact h3.elim
   | succ fuel =>
    simp only[Bz,Tryz.underlying40] at h3;obtain ⟨es,e3,hw,hes⟩:=h3;cases e3;obtain ⟨l,rfl,hq⟩:=a06 (f:=fun e=>W.A1 (W.ev e)) (Q:=W.EX.Len) (es:=es) fun p hp=>by obtain ⟨qs,hs,rfl⟩:=hes p hp;exact ih fuel (by omega) hs
    refine ⟨.node o x i l,by rw[W.iw,W.Td]; simp only[sJ,agE,fD,TN],.mk ?_ i1 i0 i2 hq⟩;rw[byE,bW] at hw;unfold reachBytes at hw;omega
def aG3:DataW Unit->List Value
 | .lit (.int k n) => [Value.int k n]
 | _ => []
def b5Y:DataW Unit->List Value
 | .agg l=>l.flatMap aG3
 | d=>aG3 d
def b5X:DataW Unit->Array Value
 | .agg l=>(l.flatMap b5Y).toArray
 | _ => #[]
def QN (g:Nat) (d:DataW Unit) (h:Array Obj):Array Obj:=h.modify g fun
 | .cells _ t frozen => .cells (b5X d) t frozen
 | o=>o
noncomputable def laidWorld6 (os:Os):World :={ World.holding Tryz.prog os ⟨#[],#[],[]⟩ with heap:=QN 2 Rows.laid_unicode_utf8_first (QN 3 Rows.laid_unicode_utf8_acceptRanges (QN 4 Rows.laid_math_bits_deBruijn32tab (QN 5 Rows.laid_math_bits_deBruijn64tab (QN 1 Rows.laid_internal_strconv_uint64pow10 (World.holding Tryz.prog os ⟨#[],#[],[]⟩).heap)))) }
theorem bA5 {H:Type}:(Rows.laid_internal_strconv_uint64pow10:DataW H)=Lib.tabData .u64 Lib.pow10Tab:=by kernel_rfl
def Tryz.laysM144_ren:Go.Shelf.Ren:=⟨fun|144=>41|143=>157|219=>236|217=>293|225=>294|224=>295|267=>296|266=>331|314=>332|n=>n,fun|46=>175|146=>261|51=>260|n=>n,fun|1=>0|n=>n⟩
theorem Tryz.laysM144 : LaysM.n144 Tryz.prog Tryz.laysM144_ren:=by constructor<;>first|kernel_rfl|(intro w;kernel_rfl)|exact fun w h => Go.Proofs.cell_of_shapedOpen_int (zero := #[.int .i64 0]) (t := 3) h (of_decide_eq_true (by kernel_rfl)) (by kernel_rfl) rfl (by kernel_rfl) (by kernel_rfl) Tryz.underlying3|(constructor<;>first|kernel_rfl|(intro w;kernel_rfl))
theorem b23 {W:World} {rest:List (String×DataW Unit)} (h1:laidMet Tryz.prog (("internal/strconv.uint64pow10",Rows.laid_internal_strconv_uint64pow10)::rest) W) (hs:W.ShapedOpen Tryz.prog):GW W:=by
 rw[bA5] at h1;have ht:=Lib.tabIs_of_head (g:=1) (t:=336) (e:=263) (n:=20) (by kernel_rfl) (by kernel_rfl) (by kernel_rfl) (by kernel_rfl) (by kernel_rfl) (by kernel_rfl) h1;obtain ⟨m,hm⟩:=Tryz.laysM144.s1_3 W hs;have hm:W.cell? ⟨0,0,none⟩=some (.int .i64 m):=by rw[show 0=Tryz.laysM144_ren.g 1 by kernel_rfl]; exact hm
 refine ⟨m,fun b o v hg => ?_⟩;unfold yQ at hg;have e:a2Z m = [(0,[Value.int .i64 m]),(1,Lib.pow10Tab.map (Value.int .u64))]:=rfl;rw[e] at hg;by_cases hb:b=0
 .subst hb;have hg:([Value.int .i64 m]:List Value)[o]? = some v:=hg;match o,hg with
  | 0,hg =>cases hg;exact Qx.2 ⟨hm,rfl⟩
  | o+1,hg=>cases hg
 .by_cases hc:b=1
  .subst hc;have hg:(Lib.pow10Tab.map (Value.int .u64))[o]? = some v:=hg;rw[gV] at hg;obtain ⟨z,hz,rfl⟩:=G8.1 hg;have ho:o<Lib.pow10Tab.length:=(dQ.1 hz).1;have hc:=ht.cell (g:=1) (by kernel_rfl) o ho;refine Qx.2 ⟨?_,rfl⟩;rw[hc,NE,hz]; rfl
  .have h1:(b==0)=false:=by simpa using hb
   have h2:(b==1)=false:=by simpa using hc
   simp[List.lookup,h1,h2] at hg
theorem b3T {P:Program} {f:FuncId} {fn:Func} {s:ChangeSpec} {c:OpenClaim}
 (h1:(c.wf (OpenSpec.ofChange s)&&laidOutB P&&mapsRowed P&&fn.params.all (P.readableRec ·)&&namedTie P c.named s.vars&&(c.stops == [])&&(P.stops == [])&&(c.knobs == [])&&(P.stopKnobs == []))=true)
 (h2:(c.inPlace==P.inPlace f)=true) (h3:(c.unfollowed==P.unfollowed f)=true) (h4:(c.recurses==P.recurses f)=true) (h5:(c.named==P.varsNamed f)=true)
 (h6:((c.maps==(fn.params.toList ++ s.plain.varTypes P).any (P.mapsRec ·))&&(c.ifaces==(fn.params.toList ++ s.plain.varTypes P).any (P.ifacesRec ·))&&(c.mapsOut==P.mapsAmong fn.resultTypes.toList) &&
  (c.loops==(fn.params.toList ++ s.plain.varTypes P).any (P.loopsFrom ·))&&(c.wideKeys==(fn.params.toList ++ s.plain.varTypes P ++ fn.resultTypes.toList).any (P.wideKeysFrom ·)) &&
  s.vars.all (P.varReadable ·)&&fn.resultTypes.all (fun t=>P.readableRec t&&decide (t<P.types.size))&&(c.ifacesOut==fn.resultTypes.toList.any (P.ifacesRec ·))&&(c.loopsOut==fn.resultTypes.toList.any (P.loopsFrom ·))&&(c.plainKeys==P.plainKeys)&&c.shortTexts.isNone&&P.stopsHeard&&P.mayEnter&&(c.lifted==P.liftsFinal)&&(P.make==some c.make)&&(c.kinds==(if c.domain.isEmpty then [] else fn.params.toList.map fun t=>match P.underlying t with | some (.int k)=>some k | _=>none))&&(c.pinned==c.pinnedBy) &&
  (c.veiled==(fn.params.toList ++ s.plain.varTypes P ++ fn.resultTypes.toList).any (P.veiledRec ·))&&c.veiledFits P fn.params.toList (fn.params.toList ++ s.plain.varTypes P ++ fn.resultTypes.toList))=true):joinedFacts P f fn s c=true:=by
 unfold joinedFacts;simp only[aY,and_assoc] at h1 h6 ⊢;exact ⟨h1.1,h1.2.1,h1.2.2.1,h1.2.2.2.1,h1.2.2.2.2.1,h1.2.2.2.2.2.1,h1.2.2.2.2.2.2.1,h1.2.2.2.2.2.2.2.1,h1.2.2.2.2.2.2.2.2,h2,h3,h4,h5,h6⟩
def fG (P:Program) (B:Nat):Nat->TypeId->List PV->Prop
 | 0,_,_=>False
 | fuel+1,t,ps=>match P.underlying t with
  | some .bool=>∃ b,ps = [.bool b]
  | some (.int k)=>∃ n,ps = [.int k n]/\(Lit.int k n).wf=true
  | some .string=>∃ s:ByteArray,ps = [.str s]/\s.size<=B
  | some (.slice e)=>∃ es:List PV,ps = [.sl false (P.cellsOf e) es]/\es.length*P.bytesOf e<=B/\∀ p,p∈es->∃ qs,fG P B fuel e qs/\p=sJ P e qs
  | some (.struct _) | some (.array ..)=>ps.length=P.cellsOf t/\∀ x,x∈parts P t->fG P B fuel x.2 ((ps.drop x.1).take (P.cellsOf x.2))
  | _=>False
theorem aJL {P:Program} {B:Nat} {fuel:Nat} {t:TypeId} {ps:List PV} (h:fG P B fuel t ps) (ha:AP P t=false):∃ q,ps = [q]/\q.isAgg=false/\(∀ cs,q ≠ .tuple cs)/\q.size=1:=by
 cases fuel with
 | zero=>exact h.elim
 | succ fuel =>
  unfold fG at h;unfold AP at ha;split at h
  .obtain ⟨b,rfl⟩:=h; exact ⟨_,rfl,rfl,by simp,rfl⟩
  .obtain ⟨b,rfl,_⟩:=h; exact ⟨_,rfl,rfl,by simp,rfl⟩
  .obtain ⟨b,rfl,_⟩:=h; exact ⟨_,rfl,rfl,by simp,rfl⟩
  .obtain ⟨b,rfl,_⟩:=h; exact ⟨_,rfl,rfl,by simp,rfl⟩
  .simp_all
  .simp_all
  .exact h.elim
section
variable {B:Nat} {H:Type} {enc:TypeId×Value->H} {W:World} {hW:GW W} {P:Program}
theorem aPG {fuel:Nat} {e:TypeId} {ps:List PV} {cs:List Value} (hs:fG P B fuel e ps) (hr:ag (whole W hW) [] ps cs) (hl:cs.length=P.cellsOf e) (ho:∀ v,v∈cs->v.oneCell'=true) :
 (sJ P e ps).size=P.cellsOf e/\∀ b off,(∀ i,i<cs.length->W.cell? ⟨b,off+i,none⟩=cs[i]?)->Loc (whole W hW) [] (sJ P e ps) b off:=by
 unfold sJ;have hlen:=kY hr;cases ha:AP P e with
 | true =>refine ⟨by simp[PV.size]; omega,fun b off h=>vX.2 (CG fun j p hp => ?_)⟩;obtain ⟨u,hu,Cc⟩:=qM hr hp;exact ⟨u,a4H.2 ⟨(h j (dQ.1 hu).1).trans hu,ho u (iV hu)⟩,Cc⟩
 | false =>
  obtain ⟨q,rfl,h1,h2,h3⟩:=aJL hs ha;have hc1:cs.length=1:=by rw[<- hlen]; rfl
  refine ⟨by simp[h3]; omega,fun b off h=>(sS h1 h2).2 ?_⟩;obtain ⟨u,hu,Cc⟩:=qM hr (j:=0) (p:=q) rfl;exact ⟨u,a4H.2 ⟨(h 0 (by omega)).trans hu,ho u (iV hu)⟩,Cc⟩
theorem b7Q {l:List TypeId} (hl:Y4 P l=true):∀ (fuel:Nat) (t:TypeId) (cs:List Value) (x:DataW H×List MemPlace),t∈l->DataW.trod enc P W 0 (fun _=>true) true fuel t cs=some x->(∀ n,n∈x.1.weights P t->n<=B) ->
 ∃ ps,fG P B fuel t ps/\ag (whole W hW) [] ps cs/\cs.length=P.cellsOf t/\∀ v,v∈cs->v.oneCell'=true:=by
 intro fuel;induction fuel with
 | zero=>intro t cs x _ h; simp[DataW.trod] at h
 | succ fuel ih =>
  intro t cs x ht h hw;have hc:=fH.1 hl t ht;simp only[fG];cases hu:P.underlying t with
  | none=>rw[hu] at hc; cases hc
  | some ty =>
   cases ty with
   | bool =>simp only[hu] at hc;obtain ⟨b,rfl,_⟩:=DataW.trod_bool hu h;exact ⟨[.bool b],⟨b,rfl⟩,bY.2 ⟨_,_,rfl,iZ.2 rfl,dC.2 rfl⟩,(eq_of_beq hc).symm,by simp[Value.oneCell']⟩
   | int k =>simp only[hu] at hc;obtain ⟨n,rfl,_,hn⟩:=DataW.trod_int hu h;exact ⟨[.int k n],⟨n,rfl,hn⟩,bY.2 ⟨_,_,rfl,dF.2 rfl,dC.2 rfl⟩,(eq_of_beq hc).symm,by simp[Value.oneCell']⟩
   | string =>simp only[hu] at hc;obtain ⟨s,rfl,rfl,hn⟩:=DataW.trod_string hu h;exact ⟨[.str s],⟨s,rfl,by have:=hw s.size (by simp[DataW.weights]); exact this⟩,bY.2 ⟨_,_,rfl,gJ.2 rfl,dC.2 rfl⟩,(eq_of_beq hc).symm,by simp[Value.oneCell']⟩
   | slice e =>
    simp only[hu,aY,gu,kF,a4P] at hc;obtain ⟨⟨he,hpos⟩,h1⟩:=hc;rcases DataW.trod_slice hu h with ⟨rfl,rfl⟩ | ⟨a,len,cap,elems,rest,n',hf,rfl,rfl,_,hle,_,hel,hall,hsp,_⟩
    .exact ⟨[.sl false (P.cellsOf e) []],⟨[],rfl,by simp,by simp⟩,bY.2 ⟨_,_,rfl,iF.2 ⟨none,0,rfl,bQ _,by simp,fun _=>⟨rfl,rfl,rfl⟩,by simp⟩,dC.2 rfl⟩,h1.symm,by simp[Value.oneCell']⟩
    .injection hf with hf; subst hf
     have hwt:∀ k,k∈(DataW.slice (elems.map (·.1)) (rest.map (·.1)):DataW H).weights P t->k<=B:=hw;have hw0:len*P.bytesOf e<=B:=by have:=hwt ((elems.length+rest.length)*P.bytesOf e) (by simp[DataW.weights,hu]);refine iC (qU _ (by omega)) this
     have hone:∀ j,j<len->∃ p,(∃ qs,fG P B fuel e qs/\p=sJ P e qs)/\p.size=P.cellsOf e/\∀ b off,a=⟨b,off,none⟩->Loc (whole W hW) [] p b (off+j*P.cellsOf e):=by
      intro j hj;have hjj:=hall j hj;rw[fJ (by omega)] at hjj;obtain ⟨cs',hc',ht'⟩:=aLC.1 hjj;obtain ⟨qs,q1,q2,q3,q4⟩:=ih e cs' _ he ht' fun k hk=>hwt k (by simp only[DataW.weights,hu,fQ,rP];exact .inr (.inl (a4G (kP.2 ⟨_,dD (by omega),rfl⟩) hk)))
      obtain ⟨s1,s2⟩:=aPG q1 q2 q3 q4;refine ⟨_,⟨qs,q1,rfl⟩,s1,fun b off hab=>s2 b _ fun i hi => ?_⟩;obtain ⟨_,_,hcell⟩:=World.cells?_some hc';have:=hcell i (by omega);rw[hab,a5Z,a5Z] at this;exact this
     have hspot:cap≠0->∃ b off,a=⟨b,off,none⟩:=fun hcap=>by
      have key:∀ k cs',k=0->W.cells? 0 (a.add k) (P.cellsOf e)=some cs'->a.spot=none:=fun k cs' hk hc'=>by subst hk;obtain ⟨_,h2,hcell⟩:=World.cells?_some hc';have:=hcell 0 hpos;rw[fJ (by omega)] at this;simpa[Addr.add] using World.cell?_spot this
      have:a.spot=none:=by
       by_cases h0:0<len
       .have hjj:=hall 0 h0;rw[fJ (by omega)] at hjj;obtain ⟨cs',hc',_⟩:=aLC.1 hjj;exact key _ cs' (Nat.zero_mul _) hc'
       .obtain ⟨r1,r2⟩:=hsp rfl;have hjj:=r2 0 (by omega);rw[fJ (by omega)] at hjj;obtain ⟨cs',hc',_⟩:=aLC.1 hjj;exact key _ cs' (by simp[show len=0 by omega]) hc'
      exact ⟨a.block,a.off,by cases a; simp at this; subst this; rfl⟩
     obtain ⟨es,hlen,hes⟩:=aG0 len hone;subst hlen;refine ⟨[.sl false (P.cellsOf e) es],⟨es,rfl,hw0,fun p hp => ?_⟩,bY.2 ⟨_,_,rfl,iF.2 ⟨some a,cap,rfl,hle,fun p hp => ?_,fun h0=>by omega,fun hne => ?_⟩,dC.2 rfl⟩,h1.symm,by simp[Value.oneCell']⟩
     .obtain ⟨j,hj⟩:=wH.1 hp;exact (hes j p hj).1
     .obtain ⟨j,hj⟩:=wH.1 hp;exact (hes j p hj).2.1
     .have hne':es.length≠0:=fun h0=>hne (iU h0)
      obtain ⟨b,off,hab⟩:=hspot (by omega);exact ⟨b,off,by rw[hab],wo fun j p hj=>(hes j p hj).2.2 b off hab⟩
   | struct fs =>
    simp only[hu,aY,fH,a4P] at hc;obtain ⟨hm,PN⟩:=hc;obtain ⟨xs,n,hf,rfl,hlen,hxs,hg⟩:=DataW.trod_struct hu h;injection hf with hf; subst hf
    rw[<- hlen] at PN;obtain ⟨ps,p1,p2,p3⟩:=a3A (M:=whole W hW) (S:=fG P B fuel) (cs:=cs) (off:=0) PN fun y hy=>by
     have hp:parts P t=fs.toList.map fun f=>(f.offset,f.type):=by unfold parts; rw[hu]
     obtain ⟨f,hf,hfe⟩:=kP.1 (hp▸hy);obtain ⟨i,hi⟩:=wH.1 hf;have hi':fs[i]? = some f:=by simpa using hi
     have hlt:i<xs.length:=by rw[hxs]; exact (rH.1 hi').1
     have hgi:=hg i f hi';rw[fJ hlt] at hgi;subst hfe;obtain ⟨qs,q1,q2,q3,q4⟩:=ih f.type _ _ (hm _ hy) hgi fun k hk=>hw k (by simp only[DataW.weights,hu];exact DataW.weights_mem_each (j:=i) (t:=f.type) (by rw[gV,hi]; rfl) (by rw[gV,fJ hlt]; rfl) k hk)
     exact ⟨qs,q1,q2,q4⟩
    rw[ND] at p1 p2;exact ⟨ps,⟨by rw[kY p1,hlen],fun y hy=>by have:=p3 y hy; rwa [Nat.sub_zero] at this⟩,p1,hlen,p2⟩
   | array n e =>
    simp only[hu,aY,fH,a4P] at hc;obtain ⟨hm,PN⟩:=hc;obtain ⟨xs,n',hf,rfl,hlen,hxs,hg⟩:=DataW.trod_array hu h;injection hf with hf; subst hf
    rw[<- hlen] at PN;obtain ⟨ps,p1,p2,p3⟩:=a3A (M:=whole W hW) (S:=fG P B fuel) (cs:=cs) (off:=0) PN fun y hy=>by
     have hp:parts P t=(List.range n).map fun i=>(i*P.cellsOf e,e):=by unfold parts; rw[hu]
     obtain ⟨i,hi,hfe⟩:=kP.1 (hp▸hy);have hlt:i<n:=Fv.1 hi;have hgi:=hg i hlt;rw[fJ (by omega)] at hgi;subst hfe;obtain ⟨qs,q1,q2,q3,q4⟩:=ih e _ _ (hm _ hy) hgi fun k hk=>hw k (by simp only[DataW.weights,hu];exact a4G (kP.2 ⟨_,dD (by omega),rfl⟩) hk)
     exact ⟨qs,q1,q2,q4⟩
    rw[ND] at p1 p2;exact ⟨ps,⟨by rw[kY p1,hlen],fun y hy=>by have:=p3 y hy; rwa [Nat.sub_zero] at this⟩,p1,hlen,p2⟩
   | _=>simp only[hu] at hc; cases hc
theorem b7R {l:List TypeId} (hl:Y4 P l=true) {r:Reach} {b0:Nat} {t:TypeId} {v:Value} {d:DataW H} {ps:List MemPlace} (ht:t∈l) (hv:Value.okWide P W r b0 t v) (h:DataW.Trod enc P W 0 (fun _=>true) true t v d ps) (hw:∀ n,n∈d.weights P t->n<=B) :
 ∃ fuel qs,fG P B fuel t qs/\Rep (whole W hW) [] (sJ P t qs) v:=by
 obtain ⟨fuel,hf⟩:=h;obtain ⟨qs,h1,h2,h3,h4⟩:=b7Q hl fuel t _ _ ht hf hw;refine ⟨fuel,qs,h1,?_⟩;unfold sJ;cases ha:AP P t with
 | true =>
  have:∃ cs,v = .agg cs:=by
   unfold Value.okWide at hv;unfold AP at ha;split at hv
   .obtain ⟨cs,h,_⟩:=hv; exact ⟨cs,h⟩
   .obtain ⟨cs,h,_⟩:=hv; exact ⟨cs,h⟩
   .rename_i n1 n2;split at ha
    .rename_i fs hfs; exact absurd hfs (n1 fs)
    .rename_i a b hfs; exact absurd hfs (n2 a b)
    .cases ha
  obtain ⟨cs,rfl⟩:=this;rw[aH rfl];exact mX.2 ⟨cs,rfl,h2⟩
 | false =>
  obtain ⟨q,rfl,h5,h6,h7⟩:=aJL h1 ha;obtain ⟨u,us,hu,hq,hn⟩:=bY.1 h2;rw[dC] at hn; subst hn;simp only[rJ,qV,List.headD_cons];have:v.cells.toList = [v]\/∃ cs,v = .agg cs:=by cases v<;>first | exact .inr ⟨_,rfl⟩ | exact .inl rfl
  rcases this with h | ⟨cs,rfl⟩
  .rw[h] at hu; injection hu with hu; subst hu; exact hq
  .exfalso;unfold Value.okWide at hv;unfold AP at ha;split at hv
   .simp_all
   .simp_all
   .unfold Cell.okWide at hv;split at hv<;>simp_all[Cell.ok]
end
end Go.Proofs.YtcdceiloganlnaaGreatDoor
namespace Go.Proofs.YtcdceiloganlnaaGreatDoor
open Go.RowKit Go.Proofs.YtcdceiloganlnaaGreatDoor.Rows
section
variable {H:Type}
theorem aN0:∀ d:DataW H,1<=uptoBulk d
 | .lit x=>by cases x<;>simp[uptoBulk]
 | .nil=>by simp[uptoBulk]
 | .ptr d=>by rw[uptoBulk]; omega
 | .slice _ _=>by rw[uptoBulk]; omega
 | .agg _=>by rw[uptoBulk]; omega
 | .iface _ _=>by rw[uptoBulk]; omega
 | .map _=>by rw[uptoBulk]; omega
 | .held _=>by simp[uptoBulk]
theorem Xu:∀ ds:List (DataW H),ds.length<=uptoBulkAll ds
 | []=>uA _
 | d::ds=>by have:=aN0 d;have:=Xu ds;rw[uptoBulkAll,aU]; omega
variable {P:Program} {K:Nat} {l:List TypeId}
def OA (P:Program) (K:Nat) (l:List TypeId):Bool:=l.all fun t=>decide (P.bytesOf t<=K)&&match P.underlying t with
 | some .bool | some (.int _) | some .string=>true
 | some (.slice e)=>l.contains e
 | some (.struct fs)=>fs.toList.all fun f=>l.contains f.type
 | _=>false
theorem OB (hl:OA P K l=true) {t:TypeId} (ht:t∈l):P.bytesOf t<=K/\(match P.underlying t with
 | some .bool | some (.int _) | some .string=>true
 | some (.slice e)=>l.contains e
 | some (.struct fs)=>fs.toList.all fun f=>l.contains f.type
 | _=>false)=true:=by
 have:=fH.1 hl t ht;rw[aY] at this;exact ⟨jP this.1,this.2⟩
theorem IA {a b:Nat} (h:a<=b):K*a<=K*b:=Nat.mul_le_mul_left _ h
mutual
theorem aL5 (hl:OA P K l=true) (h1:1<=K):∀ (d:DataW H) (t:TypeId) (n:Nat),t∈l->n∈d.weights P t->n<=K*uptoBulk d
 | .lit x,t,n,ht,h=>by
  cases x with
  | string bytes =>simp only[DataW.weights,Bj] at h;rw[uptoBulk,h];have:bytes.length+1<=K*(bytes.length+1):=Nat.le_mul_of_pos_left _ (by omega);omega
  | _=>simp[DataW.weights] at h
 | .nil,t,n,ht,h=>by simp[DataW.weights] at h
 | .ptr d,t,n,ht,h=>by
  rw[DataW.weights] at h;split at h
  .rename_i e hu;have:=(OB hl ht).2;rw[hu] at this; cases this
  .cases h
 | .slice elems spare,t,n,ht,h=>by
  rw[DataW.weights] at h;rw[uptoBulk];split at h
  .rename_i e hu;have he:=(OB hl ht).2;rw[hu] at he;have he:e∈l:=by simpa using he
   rcases fQ.1 h with h | h
   .have a1:=Xu elems;have a2:=Xu spare;rw[h];have:=Nat.mul_le_mul (show elems.length+spare.length<=uptoBulkAll elems+uptoBulkAll spare+1 by omega) (OB hl he).1;rw[Nat.mul_comm K]; exact this
   .rcases rP.1 h with h | h
    .exact iC (a4I hl h1 elems _ n he h) (IA (by omega))
    .exact iC (a4I hl h1 spare _ n he h) (IA (by omega))
  .cases h
 | .agg parts,t,n,ht,h=>by
  rw[DataW.weights] at h;rw[uptoBulk];have he:=(OB hl ht).2;split at h
  .rename_i fs hu;rw[hu] at he;refine iC (a4J hl h1 parts _ n (fun x hx => ?_) h) (IA (by omega));obtain ⟨f,hf,rfl⟩:=kP.1 hx;simpa using fH.1 he f hf
  .rename_i k e hu;rw[hu] at he; cases he
  .cases h
 | .iface _ _,t,n,ht,h=>by simp[DataW.weights] at h
 | .map entries,t,n,ht,h=>by
  rw[DataW.weights] at h;have he:=(OB hl ht).2;split at h
  .rename_i k e hu;rw[hu] at he; cases he
  .cases h
 | .held _,t,n,ht,h=>by simp[DataW.weights] at h
theorem a4I (hl:OA P K l=true) (h1:1<=K):∀ (ds:List (DataW H)) (t:TypeId) (n:Nat),t∈l->n∈DataW.weightsAll P t ds->n<=K*uptoBulkAll ds
 | [],t,n,ht,h=>by simp[DataW.weightsAll] at h
 | d::ds,t,n,ht,h=>by
  rw[DataW.weightsAll] at h;rw[uptoBulkAll];rcases rP.1 h with h | h
  .exact iC (aL5 hl h1 d _ n ht h) (IA (by omega))
  .exact iC (a4I hl h1 ds _ n ht h) (IA (by omega))
theorem a4J (hl:OA P K l=true) (h1:1<=K):∀ (ds:List (DataW H)) (ts:List TypeId) (n:Nat),(∀ t,t∈ts->t∈l)->n∈DataW.weightsEach P ts ds->n<=K*uptoBulkAll ds
 | [],ts,n,ht,h=>by cases ts<;>simp[DataW.weightsEach] at h
 | d::ds,[],n,ht,h=>by simp[DataW.weightsEach] at h
 | d::ds,t::ts,n,ht,h=>by
  rw[DataW.weightsEach] at h;rw[uptoBulkAll];rcases rP.1 h with h | h
  .exact iC (aL5 hl h1 d _ n (ht t (by simp)) h) (IA (by omega))
  .exact iC (a4J hl h1 ds _ n (fun x hx=>ht x (by simp[hx])) h) (IA (by omega))
end
end
end Go.Proofs.YtcdceiloganlnaaGreatDoor
namespace Go.Proofs.YtcdceiloganlnaaGreatDoor
open Go.RowKit
def DV (c:Bool) (f:Nat) (rest:List UInt8) (i line start:Nat) (acc:List Tok):Dz :=
 let g:=fM c rest
 let p:=qm (rest.take g) i (line,start)
 match rest.drop g with
 | [] => .ok (acc ++ [(⟨4,[],0,(p.1:Nat),((i+g-p.2+1:Nat):Int)⟩:Tok)])
 | b::r =>
  if (bz (b::r)).2=0 then ve f ((b::r).drop (bz (b::r)).1.text.length) (i+g+(bz (b::r)).1.text.length) p.1 p.2 (acc ++ [(bz (b::r)).1.at (p.1:Nat) ((i+g-p.2+1:Nat):Int)])
  else .err (p.1:Nat) ((i+g-p.2+1:Nat):Int) (bz (b::r)).2
theorem G_step {c c':Bool} {b:UInt8} {r:List UInt8} (h:fM c (b::r)=1+fM c' r) (f i line start:Nat) (acc:List Tok) :
 DV c f (b::r) i line start acc=DV c' f r (i+1) (if b=10 then line+1 else line) (if b=10 then i+1 else start) acc:=by
 unfold DV;rw[h];simp only[Nat.add_comm 1 (fM c' r),RX,List.drop_succ_cons,qm];generalize fM c' r=g;rw[show i+(g+1)=i+1+g by omega];by_cases hb:b=10
 .simp only[hb,fD]
 .simp only[hb,qV]
theorem aLJ (c:Bool) (f i line start:Nat) (acc:List Tok):DV c f [] i line start acc = .ok (acc ++ [(⟨4,[],0,(line:Nat),((i-start+1:Nat):Int)⟩:Tok)]):=by
 have:fM c []=0:=by cases c<;>rfl
 unfold DV;rw[this]; rfl
theorem a2L:∀ (f f':Nat) (rest:List UInt8) (i line start:Nat) (acc:List Tok),rest.length<f->rest.length<f'->ve f rest i line start acc=ve f' rest i line start acc
 | 0,_,_,_,_,_,_,h,_=>by omega
 | f+1,0,_,_,_,_,_,_,h=>by omega
 | f+1,f'+1,rest,i,line,start,acc,h1,h2=>by
  unfold ve;simp only;split
  .rfl
  .rename_i b r hcons;split
   .rename_i h0;obtain ⟨k4,k5⟩:=Vy h0;have hl:=congrArg List.length hcons;rw[qR] at hl;exact a2L f f' _ _ _ _ _ (by rw[qR]; omega) (by rw[qR]; omega)
   .rfl
def vZ (c:Bool) (rest:List UInt8) (i line start:Nat) (acc:List Tok):Dz:=DV c rest.length rest i line start acc
theorem G_C {c:Bool} {f:Nat} {rest:List UInt8} (h:rest.length<=f) (i line start:Nat) (acc:List Tok):DV c f rest i line start acc=vZ c rest i line start acc:=by
 unfold vZ DV;simp only;split
 .rfl
 .rename_i b r hcons;split
  .rename_i h0;obtain ⟨k4,k5⟩:=Vy h0;have hl:=congrArg List.length hcons;rw[qR] at hl;exact a2L _ _ _ _ _ _ _ (by rw[qR]; omega) (by rw[qR]; omega)
  .rfl
theorem bBW (l:List UInt8) (i line start:Nat) (acc:List Tok):ve (l.length+1) l i line start acc=vZ false l i line start acc:=rfl
theorem aLG (c:Bool) (i line start:Nat) (acc:List Tok):vZ c [] i line start acc = .ok (acc ++ [(⟨4,[],0,(line:Nat),((i-start+1:Nat):Int)⟩:Tok)]):=aLJ c 0 i line start acc
theorem C_step {c c':Bool} {b:UInt8} {r:List UInt8} (h:fM c (b::r)=1+fM c' r) (i line start:Nat) (acc:List Tok) :
 vZ c (b::r) i line start acc=vZ c' r (i+1) (if b=10 then line+1 else line) (if b=10 then i+1 else start) acc:=by
 rw[vZ,G_step h,G_C (by simp)]
theorem a4Z {b:UInt8} {r:List UInt8} (h:fM false (b::r)=0) (i line start:Nat) (acc:List Tok) :
 vZ false (b::r) i line start acc=if (bz (b::r)).2=0 then vZ false ((b::r).drop (bz (b::r)).1.text.length) (i+(bz (b::r)).1.text.length) line start (acc ++ [(bz (b::r)).1.at (line:Nat) ((i-start+1:Nat):Int)])
  else .err (line:Nat) ((i-start+1:Nat):Int) (bz (b::r)).2:=by
 rw[vZ,DV,h];simp only[List.take_zero,ND,qm,zt];split
 .rename_i h0;obtain ⟨k4,k5⟩:=Vy h0;rw[a2L _ (((b::r).drop (bz (b::r)).1.text.length).length+1) _ _ _ _ _ (by rw[qR]; omega) (by omega)];rfl
 .rfl
theorem bCN (c:Bool) (b:UInt8) (r:List UInt8):(∃ c',fM c (b::r)=1+fM c' r/\((c=true/\b=10/\c'=false)\/(c=true/\b≠10/\c'=true)\/(c=false/\wX b.toNat=true/\c'=false)\/(c=false/\wX b.toNat=false /\ [47,47].isPrefixOf (b::r)=true/\c'=true))) \/
 (c=false/\wX b.toNat=false /\ [47,47].isPrefixOf (b::r)=false/\fM c (b::r)=0):=by
 cases c with
 | true =>
  left;by_cases h:b=10
  .exact ⟨false,by rw[fM,aH h],.inl ⟨rfl,h,rfl⟩⟩
  .exact ⟨true,by rw[fM,aI h],.inr (.inl ⟨rfl,h,rfl⟩)⟩
 | false =>
  cases hb:wX b.toNat with
  | true=>exact .inl ⟨false,by rw[fM,aH hb],.inr (.inr (.inl ⟨rfl,rfl,rfl⟩))⟩
  | false =>
   cases hp : [47,47].isPrefixOf (b::r) with
   | true=>exact .inl ⟨true,by rw[fM,hb,hp]; rfl,.inr (.inr (.inr ⟨rfl,rfl,rfl,rfl⟩))⟩
   | false=>exact .inr ⟨rfl,rfl,rfl,by rw[fM,hb,hp]; rfl⟩
theorem a2A {p:Nat->Bool} {x:UInt8} (hx:p x.toNat=false) (u:List UInt8):∀ (l:List UInt8),fK p (l ++ x::u)=fK p l
 | []=>by unfold fK; rw[RU,Fz,hx]; rfl
 | b::l=>by have:=a2A hx u l;unfold fK at *;rw[og,Fz,Fz,this]
theorem aI3 {x:UInt8} (u:List UInt8):∀ (y l:List UInt8),(∀ c,c∈y->c≠x)->y.isPrefixOf (l ++ x::u)=y.isPrefixOf l
 | [],l,_=>by simp
 | a::y,[],h=>by have:=h a (by simp);simp[List.isPrefixOf,this]
 | a::y,b::l,h=>by
  have:=aI3 u y l fun c hc=>h c (by simp[hc])
  simp only[og,List.isPrefixOf,this]
theorem find_congr {α:Type} {p q:α->Bool}:∀ {l:List α},(∀ x,x∈l->p x=q x)->l.find? p=l.find? q
 | [],_=>rfl
 | a::l,h=>by
  have:=find_congr (l:=l) fun x hx=>h x (by simp[hx])
  rw[List.find?_cons,List.find?_cons,h a (by simp),this]
theorem bDF:∀ x∈ui,∀ c∈x,c≠32:=by decide
theorem bDE {x:UInt8} (hx:∀ y∈ui,∀ c∈y,c≠x) (u l:List UInt8):FX (l ++ x::u)=FX l:=by unfold FX;exact find_congr fun y hy=>aI3 u y l (hx y hy)
theorem bAI {x:UInt8} (h1:lW x.toNat=false) (hx:∀ y∈ui,∀ c∈y,c≠x) (u:List UInt8) (b:UInt8) (r:List UInt8):bz ((b::r) ++ x::u)=bz (b::r):=by
 have hd:fB x.toNat=false:=by unfold lW at h1; simp at h1; exact h1.2
 have e1:=a2A h1 u (b::r);have e2:=a2A hd u (b::r);have e3:=bDE hx u (b::r);rw[og] at *;rw[show bz (b::(r ++ x::u))=if fB b.toNat then zO (b::(r ++ x::u)) else if isLet b.toNat then zi (b::(r ++ x::u)) else BZ (b::(r ++ x::u)) from rfl,
  show bz (b::r)=if fB b.toNat then zO (b::r) else if isLet b.toNat then zi (b::r) else BZ (b::r) from rfl]
 unfold zO zi BZ;rw[e1,e2,e3]
end Go.Proofs.YtcdceiloganlnaaGreatDoor
namespace Go.Proofs.YtcdceiloganlnaaGreatDoor.W
open Go.RowKit
set_option maxRecDepth 1000000
def RA.N (A:RA):Nat:=if A.e=0 then A.toks.length else 0
structure Le (A A':RA):Prop where
 ok:A'.ok
 bad:A.e≠0->A'=A
 le:A'.N<=A.N
theorem Le.refl {A:RA} (h:A.ok):Le A A:=⟨h,fun _=>rfl,bQ _⟩
theorem Le.trans {A B C:RA} (h:Le A B) (k:Le B C):Le A C:=⟨k.ok,fun e=>by have h1:=h.bad e;rw[h1] at k;exact k.bad e,iC k.le h.le⟩
theorem Le.e0 {A B:RA} (h:Le A B) (e:B.e=0):A.e=0:=by
 by_cases c:A.e=0
 .exact c
 .rw[h.bad c] at e; exact absurd e c
theorem b54 {A:RA} (hk:A.pk.kind≠4):A.e=0:=by
 by_cases c:A.e=0
 .exact c
 .exact absurd (pk4 c) hk
theorem b71 {A:RA} (h:A.ok) (hk:A.pk.kind≠4):A.next.e=0/\A.next.N<A.N:=by
 have he:=b54 hk;obtain ⟨t,tl,ht⟩:=h.ne he;have hn:A.next.e=0:=by rw[b70,he]
 have hd:A.next.toks=A.toks.drop 1:=by unfold RA.next; rw[aH ⟨he,hk⟩]
 refine ⟨hn,?_⟩;unfold RA.N;rw[aH hn,aH he,hd,ht];simp
theorem Le.next {A:RA} (h:A.ok):Le A A.next:=⟨h.next,fun e=>b6' e,by
 by_cases hk:A.pk.kind=4
 .have:A.next=A:=by unfold RA.next; rw[aI (by simp[hk])]
  rw[this]; exact bQ _
 .exact Nat.le_of_lt (b71 h hk).2⟩
theorem Le.take {A:RA} (h:A.ok) (x:List UInt8):Le A (A.take x):=by
 unfold RA.take;cases A.is x with
 | true=>exact .next h
 | false=>exact .refl h
abbrev Bc:List UInt8 := [116,114,117,101]
abbrev EO:List UInt8 := [102,97,108,115,101]
abbrev MF:=ByteArray×List PV×List PV×List PV×List PV×List PV×List PV
section
variable {F:MF} {v:List PV} {d:Int} {A B:RA} {x:EX}
end
theorem tlT:(⟨#[116,114,117,101]⟩:ByteArray).toList=Bc:=Wy _
theorem tlF:(⟨#[102,97,108,115,101]⟩:ByteArray).toList=EO:=Wy _
def xK (o:Int):List UInt8:=if o=2 then [43] else if o=3 then [45] else if o=4 then [42] else if o=6 then [61,61] else if o=7 then [33,61] else if o=8 then [60] else if o=9 then [60,61] else if o=11 then [38,38] else [124,124]
theorem Qc (o:Int):SS.CC 118 [.int .i64 o] []=some (.str (bs (xK o)),[]):=by
 rw[aRP];unfold xK;simp only[JW,kF];repeat' split
 all_goals rfl
section
variable {F:MF} {l:List ByteArray} {d:Int}
end
section
theorem aX2 (a0:Sh.V S1):SS.CC 24 [A1 a0] [] =
 G3 107 [A1 a0] fun b1=>some (.bool b1,[]):=cc
def aXJ:KT:=SS.rK Tryz.f26 26 0 []
def aXK:KT:=SS.jK 26 55 0 (cS Tryz.f26 7) aXJ
def aXL:KT:=au 0 aXK
def uU (x0:ByteArray) (x8:Int):R:=SS.LL (SS.ae 26 55) 0 [0,7,8] 0 (cS Tryz.f26 37) aXL ⟨[(0,.str x0),(7,.int .i64 (x0.size:Int)),(8,.int .i64 x8)],[]⟩
theorem aBC (x0:ByteArray) (x8:Int):uU x0 x8 =
 aA (decide (x8<(x0.size:Int))) (ry x0 x8 fun c1=>aA (decide (97<=c1)) (aA (decide (c1<=122)) (uU x0 (i64.wrap (x8+1))) (aA (decide (65<=c1)) (aA (decide (c1<=90)) (uU x0 (i64.wrap (x8+1))) (aA (!(c1==95)) (aA (x8==0) (some (.bool false,[])) (aA (decide (c1<48)) (some (.bool false,[])) (aA (decide (57<c1)) (some (.bool false,[])) (uU x0 (i64.wrap (x8+1)))))) (uU x0 (i64.wrap (x8+1))))) (aA (!(c1==95)) (aA (x8==0) (some (.bool false,[])) (aA (decide (c1<48)) (some (.bool false,[])) (aA (decide (57<c1)) (some (.bool false,[])) (uU x0 (i64.wrap (x8+1)))))) (uU x0 (i64.wrap (x8+1)))))) (aA (decide (65<=c1)) (aA (decide (c1<=90)) (uU x0 (i64.wrap (x8+1))) (aA (!(c1==95)) (aA (x8==0) (some (.bool false,[])) (aA (decide (c1<48)) (some (.bool false,[])) (aA (decide (57<c1)) (some (.bool false,[])) (uU x0 (i64.wrap (x8+1)))))) (uU x0 (i64.wrap (x8+1))))) (aA (!(c1==95)) (aA (x8==0) (some (.bool false,[])) (aA (decide (c1<48)) (some (.bool false,[])) (aA (decide (57<c1)) (some (.bool false,[])) (uU x0 (i64.wrap (x8+1)))))) (uU x0 (i64.wrap (x8+1)))))) (aA (decide (0<(x0.size:Int))) (some (.bool (decide ((x0.size:Int)<=32)),[])) (some (.bool false,[]))):=ll
theorem aXM (a0:ByteArray):SS.CC 26 [.str a0] [] =
 uU a0 0:=cc
theorem aBD (a0:Sh.V S1) (a1:Int):SS.CC 27 [A1 a0,.int .i64 a1] [] =
 aA (decide (a1<0)) (some (.tuple [.int .i64 0,.int .i64 2],[])) (aA (decide (16<a1)) (some (.tuple [.int .i64 0,.int .i64 2],[])) (XL 109 [A1 a0,.int .i64 a1,.int .i64 1,.ptr 0 0] [eP (0,())] fun n1 u2=>aA (n1 != 0) (some (.tuple [.int .i64 0,.int .i64 n1],[])) (G1 110 [A1 a0] fun n5=>aA (n5==0) (some (.tuple [.int .i64 0,.int .i64 16],[])) (some (.tuple [.int .i64 n5,.int .i64 0],[]))))):=cc
def aXX:KT:=SS.rK Tryz.f29 29 0 []
def aXY:KT:=SS.jK 29 157 0 (cS Tryz.f29 127) aXX
def aXZ:KT:=au 0 aXY
def UZ (x0:List PV) (x4:Sh.V S1):R:=bI (SS.xX 29 157 0) (cS Tryz.f29 229215) aXZ ⟨[(0,.sl false 1 x0),(4,.cst (A1 x4))],[]⟩
theorem aXW (x0:List PV) (x4:Sh.V S1):UZ x0 x4 =
 bG S1 x4.2.2.2.1 0 fun u2=>G7 29 [.sl false 1 x0,A1 u2,.int .i64 6] fun l6=>chk (decide (1+l6.length<=aV)) (some (.sl true 1 (([.str ⟨#[45]⟩]:List PV) ++ l6),[])):=by kernel_rfl
theorem Am (a0:List PV) (a1:Sh.V S1) (a2:Int):SS.CC 29 [.sl false 1 a0,A1 a1,.int .i64 a2] [] =
 G1 115 [A1 a1] fun n1=>aA (decide (n1<a2)) (G7 29 [.sl false 1 a0,A1 a1,.int .i64 0] fun l3=>chk (decide (1+l3.length<=aV)) (chk (decide ((([.str ⟨#[40]⟩]:List PV) ++ l3).length+1<=aV)) (some (.sl true 1 ((([.str ⟨#[40]⟩]:List PV) ++ l3) ++ ([.str ⟨#[41]⟩]:List PV)),[])))) (wK 116 [] fun u5=>G3 23 [A1 a1,A1 u5] fun b10=>aA b10 (some (.sl true 1 [.str ⟨#[116,114,117,101]⟩],[])) (wK 117 [] fun u12=>G3 23 [A1 a1,A1 u12] fun b17=>aA b17 (some (.sl true 1 [.str ⟨#[102,97,108,115,101]⟩],[])) (G1 115 [A1 a1] fun n19=>aA (a1.1==0) (G7 56 [.int .i64 a1.2.1] fun l21=>some (.sl true 1 l21,[])) (aA (a1.1==1) (dH a0 a1.2.2.1 fun e23=>vS e23 fun s24=>some (.sl true 1 [.str s24],[])) (aA (a1.1==10) (bG S1 a1.2.2.2.1 0 fun u26=>G7 29 [.sl false 1 a0,A1 u26,.int .i64 6] fun l30=>chk (decide (1+l30.length<=aV)) (some (.sl true 1 (([.str ⟨#[33]⟩]:List PV) ++ l30),[]))) (aA (a1.1==5) (bG S1 a1.2.2.2.1 0 fun u33=>aA (u33.1==0) (aA (decide (0<=u33.2.1)) (G7 29 [.sl false 1 a0,A1 u33,.int .i64 0] fun Zz=>chk (decide (2+Zz.length<=aV)) (chk (decide ((([.str ⟨#[45]⟩,.str ⟨#[40]⟩]:List PV) ++ Zz).length+1<=aV)) (some (.sl true 1 ((([.str ⟨#[45]⟩,.str ⟨#[40]⟩]:List PV) ++ Zz) ++ ([.str ⟨#[41]⟩]:List PV)),[])))) (UZ a0 a1)) (UZ a0 a1)) (aA (a1.1==13) (bG S1 a1.2.2.2.1 0 fun u40=>G7 29 [.sl false 1 a0,A1 u40,.int .i64 1] fun l44=>chk (decide (l44.length+1<=aV)) (bG S1 a1.2.2.2.1 1 fun u47=>G7 29 [.sl false 1 a0,A1 u47,.int .i64 0] fun l51=>chk (decide ((l44 ++ ([.str ⟨#[63]⟩]:List PV)).length+l51.length<=aV)) (chk (decide (((l44 ++ ([.str ⟨#[63]⟩]:List PV)) ++ l51).length+1<=aV)) (bG S1 a1.2.2.2.1 2 fun Qr=>G7 29 [.sl false 1 a0,A1 Qr,.int .i64 0] fun l58=>chk (decide ((((l44 ++ ([.str ⟨#[63]⟩]:List PV)) ++ l51) ++ ([.str ⟨#[58]⟩]:List PV)).length+l58.length<=aV)) (some (.sl true 1 ((((l44 ++ ([.str ⟨#[63]⟩]:List PV)) ++ l51) ++ ([.str ⟨#[58]⟩]:List PV)) ++ l58),[])))))) (aA (a1.1==6) (bG S1 a1.2.2.2.1 0 fun u61=>G7 29 [.sl false 1 a0,A1 u61,.int .i64 4] fun l65=>G2 118 [.int .i64 a1.1] fun s67=>chk (decide (l65.length+1<=aV)) (bG S1 a1.2.2.2.1 1 fun u70=>G7 29 [.sl false 1 a0,A1 u70,.int .i64 4] fun l74=>chk (decide ((l65 ++ ([.str s67]:List PV)).length+l74.length<=aV)) (some (.sl true 1 ((l65 ++ ([.str s67]:List PV)) ++ l74),[])))) (aA (a1.1==7) (bG S1 a1.2.2.2.1 0 fun u77=>G7 29 [.sl false 1 a0,A1 u77,.int .i64 4] fun Kr=>G2 118 [.int .i64 a1.1] fun s83=>chk (decide (Kr.length+1<=aV)) (bG S1 a1.2.2.2.1 1 fun u86=>G7 29 [.sl false 1 a0,A1 u86,.int .i64 4] fun Ph=>chk (decide ((Kr ++ ([.str s83]:List PV)).length+Ph.length<=aV)) (some (.sl true 1 ((Kr ++ ([.str s83]:List PV)) ++ Ph),[])))) (aA (a1.1==8) (bG S1 a1.2.2.2.1 0 fun u93=>G7 29 [.sl false 1 a0,A1 u93,.int .i64 4] fun l97=>G2 118 [.int .i64 a1.1] fun s99=>chk (decide (l97.length+1<=aV)) (bG S1 a1.2.2.2.1 1 fun Qq=>G7 29 [.sl false 1 a0,A1 Qq,.int .i64 4] fun aF0=>chk (decide ((l97 ++ ([.str s99]:List PV)).length+aF0.length<=aV)) (some (.sl true 1 ((l97 ++ ([.str s99]:List PV)) ++ aF0),[])))) (aA (a1.1==9) (bG S1 a1.2.2.2.1 0 fun bE0=>G7 29 [.sl false 1 a0,A1 bE0,.int .i64 4] fun Hw=>G2 118 [.int .i64 a1.1] fun aI'=>chk (decide (Hw.length+1<=aV)) (bG S1 a1.2.2.2.1 1 fun bE1=>G7 29 [.sl false 1 a0,A1 bE1,.int .i64 4] fun aF3=>chk (decide ((Hw ++ ([.str aI']:List PV)).length+aF3.length<=aV)) (some (.sl true 1 ((Hw ++ ([.str aI']:List PV)) ++ aF3),[])))) (bG S1 a1.2.2.2.1 0 fun bE2=>G7 29 [.sl false 1 a0,A1 bE2,.int .i64 n19] fun Eh=>G2 118 [.int .i64 a1.1] fun aJ0=>chk (decide (Eh.length+1<=aV)) (bG S1 a1.2.2.2.1 1 fun bE3=>G7 29 [.sl false 1 a0,A1 bE3,.int .i64 (i64.wrap (n19+1))] fun PX=>chk (decide ((Eh ++ ([.str aJ0]:List PV)).length+PX.length<=aV)) (some (.sl true 1 ((Eh ++ ([.str aJ0]:List PV)) ++ PX),[]))))))))))))))):=cc
theorem a'G (a0:Int):SS.CC 56 [.int .i64 a0] [] =
 aA (decide (a0<0)) (G2 35 [.int .i64 (i64.wrap (0-a0))] fun s1=>some (.sl true 1 [.str ⟨#[45]⟩,.str s1],[])) (G2 35 [.int .i64 a0] fun s3=>some (.sl true 1 [.str s3],[])):=cc
theorem aR2 (a0:Sh.V S1):SS.CC 107 [A1 a0] [] =
 XO 201 [A1 a0,.int .i64 1,.ptr 0 0] [eP (80,())] fun b1 u2=>some (.bool b1,[]):=cc
def a9G:KT:=SS.rK Tryz.f109 109 1 []
def aR8:KT:=SS.jK 109 103 1 (cS Tryz.f109 127) a9G
def aR9:KT:=au 1 aR8
def qA (x1:Int) (x2:Int) (x4:Sh.V S1) (aJ:Int):R:=bI (SS.xX 109 103 1) (cS Tryz.f109 63) a9G ⟨[(1,.int .i64 x1),(2,.int .i64 x2),(3,.ptr 0 0),(4,.cst (A1 x4))],[eP (aJ,())]⟩
def UF (x1:Int) (x2:Int) (x87:List PV) (aJ:Int) (x89:Int):R:=SS.LL (SS.ae 109 103) 1 [1,2,3,87,88,89] 1 (cS Tryz.f109 607) aR9 ⟨[(1,.int .i64 x1),(2,.int .i64 x2),(3,.ptr 0 0),(87,.sl false 4 x87),(88,.int .i64 (x87.length:Int)),(89,.int .i64 x89)],[eP (aJ,())]⟩
theorem aR7 (x1:Int) (x2:Int) (x4:Sh.V S1) (aJ:Int):qA x1 x2 x4 aJ =
 UF x1 x2 x4.2.2.2.1 aJ 0:=by kernel_rfl
theorem a9H (x1:Int) (x2:Int) (x87:List PV) (aJ:Int) (x89:Int):UF x1 x2 x87 aJ x89 =
 aA (decide (x89<(x87.length:Int))) (bG S1 x87 x89 fun u2=>XL 109 [A1 u2,.int .i64 x1,.int .i64 (i64.wrap (x2+1)),.ptr 0 0] [eP (aJ,())] fun n6 u7=>aA (n6 != 0) (some (.int .i64 n6,[eP u7])) (UF x1 x2 x87 u7.1 (i64.wrap (x89+1)))) (some (.int .i64 0,[eP (aJ,())])):=ll
theorem aRA (a0:Sh.V S1) (a1:Int) (a2:Int) (ay:Int):SS.CC 109 [A1 a0,.int .i64 a1,.int .i64 a2,.ptr 0 0] [eP (ay,())] =
 aA (ay==64) (some (.int .i64 3,[eP (ay,())])) (aA (decide (8<a2)) (some (.int .i64 3,[eP (ay,())])) (G37 202 [.int .i64 a0.1] fun u1=>aA (!u1.2.1.1) (some (.int .i64 11,[eP (i64.wrap (ay+1),())])) (aA ((a0.2.2.2.1.length:Int) != u1.1.1) (some (.int .i64 4,[eP (i64.wrap (ay+1),())])) (aA (a0.1 != 0) (aA (a0.2.1 != 0) (some (.int .i64 6,[eP (i64.wrap (ay+1),())])) (aA (a0.1 != 1) (aA (a0.2.2.1 != 0) (some (.int .i64 6,[eP (i64.wrap (ay+1),())])) (aA (a0.1==0) (G3 203 [.int .i64 a0.2.1,.int .i64 65536] fun b4=>aA b4 (some (.int .i64 2,[eP (i64.wrap (ay+1),())])) (aA (a0.1==1) (aA (decide (a0.2.2.1<0)) (some (.int .i64 2,[eP (i64.wrap (ay+1),())])) (aA (decide (a1<=a0.2.2.1)) (some (.int .i64 2,[eP (i64.wrap (ay+1),())])) (qA a1 a2 a0 (i64.wrap (ay+1))))) (qA a1 a2 a0 (i64.wrap (ay+1))))) (aA (a0.1==1) (aA (decide (a0.2.2.1<0)) (some (.int .i64 2,[eP (i64.wrap (ay+1),())])) (aA (decide (a1<=a0.2.2.1)) (some (.int .i64 2,[eP (i64.wrap (ay+1),())])) (qA a1 a2 a0 (i64.wrap (ay+1))))) (qA a1 a2 a0 (i64.wrap (ay+1)))))) (aA (a0.1==0) (G3 203 [.int .i64 a0.2.1,.int .i64 65536] fun b6=>aA b6 (some (.int .i64 2,[eP (i64.wrap (ay+1),())])) (aA (a0.1==1) (aA (decide (a0.2.2.1<0)) (some (.int .i64 2,[eP (i64.wrap (ay+1),())])) (aA (decide (a1<=a0.2.2.1)) (some (.int .i64 2,[eP (i64.wrap (ay+1),())])) (qA a1 a2 a0 (i64.wrap (ay+1))))) (qA a1 a2 a0 (i64.wrap (ay+1))))) (aA (a0.1==1) (aA (decide (a0.2.2.1<0)) (some (.int .i64 2,[eP (i64.wrap (ay+1),())])) (aA (decide (a1<=a0.2.2.1)) (some (.int .i64 2,[eP (i64.wrap (ay+1),())])) (qA a1 a2 a0 (i64.wrap (ay+1))))) (qA a1 a2 a0 (i64.wrap (ay+1))))))) (aA (a0.1 != 1) (aA (a0.2.2.1 != 0) (some (.int .i64 6,[eP (i64.wrap (ay+1),())])) (aA (a0.1==0) (G3 203 [.int .i64 a0.2.1,.int .i64 65536] fun b8=>aA b8 (some (.int .i64 2,[eP (i64.wrap (ay+1),())])) (aA (a0.1==1) (aA (decide (a0.2.2.1<0)) (some (.int .i64 2,[eP (i64.wrap (ay+1),())])) (aA (decide (a1<=a0.2.2.1)) (some (.int .i64 2,[eP (i64.wrap (ay+1),())])) (qA a1 a2 a0 (i64.wrap (ay+1))))) (qA a1 a2 a0 (i64.wrap (ay+1))))) (aA (a0.1==1) (aA (decide (a0.2.2.1<0)) (some (.int .i64 2,[eP (i64.wrap (ay+1),())])) (aA (decide (a1<=a0.2.2.1)) (some (.int .i64 2,[eP (i64.wrap (ay+1),())])) (qA a1 a2 a0 (i64.wrap (ay+1))))) (qA a1 a2 a0 (i64.wrap (ay+1)))))) (aA (a0.1==0) (G3 203 [.int .i64 a0.2.1,.int .i64 65536] fun b10=>aA b10 (some (.int .i64 2,[eP (i64.wrap (ay+1),())])) (aA (a0.1==1) (aA (decide (a0.2.2.1<0)) (some (.int .i64 2,[eP (i64.wrap (ay+1),())])) (aA (decide (a1<=a0.2.2.1)) (some (.int .i64 2,[eP (i64.wrap (ay+1),())])) (qA a1 a2 a0 (i64.wrap (ay+1))))) (qA a1 a2 a0 (i64.wrap (ay+1))))) (aA (a0.1==1) (aA (decide (a0.2.2.1<0)) (some (.int .i64 2,[eP (i64.wrap (ay+1),())])) (aA (decide (a1<=a0.2.2.1)) (some (.int .i64 2,[eP (i64.wrap (ay+1),())])) (qA a1 a2 a0 (i64.wrap (ay+1))))) (qA a1 a2 a0 (i64.wrap (ay+1)))))))))):=cc
def aRB:KT:=SS.rK Tryz.f110 110 0 []
def aRC:KT:=SS.jK 110 68 0 (cS Tryz.f110 15) aRB
def aRD:KT:=au 0 aRC
def UG (x1:Sh.V S1) (x11:Int) (aJ:List PV):R:=SS.LL (SS.ae 110 68) 0 [1,3,9,10,11] 1 (cS Tryz.f110 75) aRD ⟨[(1,.cst (A1 x1)),(3,.ptr 0 0),(9,.sl false 4 x1.2.2.2.1),(10,.int .i64 (x1.2.2.2.1.length:Int)),(11,.int .i64 x11)],[iG (aJ,())]⟩
theorem a9I (x1:Sh.V S1) (x11:Int) (aJ:List PV):UG x1 x11 aJ =
 aA (decide (x11<(x1.2.2.2.1.length:Int))) (bG S1 x1.2.2.2.1 x11 fun u2=>G1 110 [A1 u2] fun n6=>aA (n6==0) (some (.int .i64 0,[])) (chk (decide (aJ.length+1<=aV)) (UG x1 (i64.wrap (x11+1)) (aJ ++ ([.int .i64 n6]:List PV))))) (aA (x1.1==0) (some (.int .i64 1,[])) (aA (x1.1==1) (some (.int .i64 1,[])) (aA (x1.1==2) (wL 204 [.int .i64 1,.ptr 0 0] [iG (aJ,())] fun b8 u9=>aA b8 (some (.int .i64 1,[])) (some (.int .i64 0,[]))) (aA (x1.1==3) (wL 204 [.int .i64 1,.ptr 0 0] [iG (aJ,())] fun b12 u13=>aA b12 (some (.int .i64 1,[])) (some (.int .i64 0,[]))) (aA (x1.1==4) (wL 204 [.int .i64 1,.ptr 0 0] [iG (aJ,())] fun b16 MP=>aA b16 (some (.int .i64 1,[])) (some (.int .i64 0,[]))) (aA (x1.1==5) (wL 204 [.int .i64 1,.ptr 0 0] [iG (aJ,())] fun b20 u21=>aA b20 (some (.int .i64 1,[])) (some (.int .i64 0,[]))) (aA (x1.1==6) (wL 204 [.int .i64 1,.ptr 0 0] [iG (aJ,())] fun Xo u25=>aA Xo (some (.int .i64 2,[])) (some (.int .i64 0,[]))) (aA (x1.1==7) (wL 204 [.int .i64 1,.ptr 0 0] [iG (aJ,())] fun b28 u29=>aA b28 (some (.int .i64 2,[])) (some (.int .i64 0,[]))) (aA (x1.1==8) (wL 204 [.int .i64 1,.ptr 0 0] [iG (aJ,())] fun b32 u33=>aA b32 (some (.int .i64 2,[])) (some (.int .i64 0,[]))) (aA (x1.1==9) (wL 204 [.int .i64 1,.ptr 0 0] [iG (aJ,())] fun b36 u37=>aA b36 (some (.int .i64 2,[])) (some (.int .i64 0,[]))) (aA (x1.1==10) (wL 204 [.int .i64 2,.ptr 0 0] [iG (aJ,())] fun b40 u41=>aA b40 (some (.int .i64 2,[])) (some (.int .i64 0,[]))) (aA (x1.1==11) (wL 204 [.int .i64 2,.ptr 0 0] [iG (aJ,())] fun b44 u45=>aA b44 (some (.int .i64 2,[])) (some (.int .i64 0,[]))) (aA (x1.1==12) (wL 204 [.int .i64 2,.ptr 0 0] [iG (aJ,())] fun b48 u49=>aA b48 (some (.int .i64 2,[])) (some (.int .i64 0,[]))) (aA (x1.1==13) (dH aJ 0 fun e52=>vI .i64 e52 fun n53=>aA (n53==2) (dH aJ 1 fun e54=>vI .i64 e54 fun n55=>dH aJ 2 fun e56=>vI .i64 e56 fun n57=>aA (n55==n57) (dH aJ 1 fun e58=>vI .i64 e58 fun n59=>some (.int .i64 n59,[])) (some (.int .i64 0,[]))) (some (.int .i64 0,[]))) (some (.int .i64 0,[])))))))))))))))):=ll
theorem aRE (a0:Sh.V S1):SS.CC 110 [A1 a0] [] =
 UG a0 0 []:=cc
theorem aRF (a0:ByteArray):SS.CC 112 [.str a0] [] =
 aA (a0.toList==(⟨#[116,114,117,101]⟩:ByteArray).toList) (some (.bool true,[])) (some (.bool (a0.toList==(⟨#[102,97,108,115,101]⟩:ByteArray).toList),[])):=cc
def aRG:KT:=SS.QZ SS.CC SS.LL (SS.ae 113 141) Tryz.f113.results.toList (SS.gU 113).ro 1 [] 1 166 [.ptr 0 0,.sl false 1 [.str ⟨#[41]⟩]]
def aRH:KT:=SS.rK Tryz.f113 113 1 []
def oN (x5:List PV) (x6:Sh.V S1) (x8:Int) (aJ:List PV) (x10:ByteArray):R:=bI (SS.xX 113 141 1) (cS Tryz.f113 63) aRG ⟨[(4,.ptr 1 0),(5,.cst (.sl false 1 x5)),(6,.cst (A1 x6)),(8,.int .i64 x8),(9,.func (.func 208) [] [.ptr 1 0,.cst (.sl false 1 x5),.cst (A1 x6)]),(10,.str x10)],[aB (aJ,()),some [.ptr 0 0]]⟩
def oM (x5:List PV) (x6:Sh.V S1) (x8:Int) (aJ:List PV) (x10:ByteArray):R:=bI (SS.xX 113 141 1) (cS Tryz.f113 63) aRH ⟨[(4,.ptr 1 0),(5,.cst (.sl false 1 x5)),(6,.cst (A1 x6)),(8,.int .i64 x8),(9,.func (.func 208) [] [.ptr 1 0,.cst (.sl false 1 x5),.cst (A1 x6)]),(10,.str x10)],[aB (aJ,()),some [.ptr 0 0]]⟩
theorem Ak (x5:List PV) (x6:Sh.V S1) (x8:Int) (aJ:List PV) (x10:ByteArray):oN x5 x6 x8 aJ x10 =
 wK 116 [] fun u1=>G3 23 [A1 x6,A1 u1] fun b6=>aA b6 (aX 165 [.ptr 0 0,.sl false 1 [.str ⟨#[116,114,117,101]⟩]] [aB (aJ,())] fun _ u8=>aX 166 [.ptr 0 0,.sl false 1 [.str ⟨#[41]⟩]] [aB u8] fun _ u11=>some (.tuple [],[aB u11])) (wK 117 [] fun u14=>G3 23 [A1 x6,A1 u14] fun b19=>aA b19 (aX 165 [.ptr 0 0,.sl false 1 [.str ⟨#[102,97,108,115,101]⟩]] [aB (aJ,())] fun _ u21=>aX 166 [.ptr 0 0,.sl false 1 [.str ⟨#[41]⟩]] [aB u21] fun _ u24=>some (.tuple [],[aB u24])) (aA (x6.1==0) (aX 167 [.ptr 0 0,.int .i64 x6.2.1] [aB (aJ,())] fun _ u27=>aX 166 [.ptr 0 0,.sl false 1 [.str ⟨#[41]⟩]] [aB u27] fun _ u30=>some (.tuple [],[aB u30])) (aA (x6.1==1) (dH x5 x6.2.2.1 fun e33=>vS e33 fun s34=>aX 165 [.ptr 0 0,.sl false 1 [.str s34]] [aB (aJ,())] fun _ u35=>aX 166 [.ptr 0 0,.sl false 1 [.str ⟨#[41]⟩]] [aB u35] fun _ u38=>some (.tuple [],[aB u38])) (aA (x6.1==5) (bG S1 x6.2.2.2.1 0 fun u42=>aA (u42.1==0) (bG S1 x6.2.2.2.1 0 fun u47=>aA (decide (0<=u47.2.1)) (aX 166 [.ptr 0 0,.sl false 1 [.str ⟨#[45]⟩,.str ⟨#[40]⟩]] [aB (aJ,())] fun _ u51=>dh 208 [.int .i64 0,.int .i64 0,.ptr 0 0,.cst (.sl false 1 x5),.cst (A1 x6)] [some [.ptr 1 0],aB u51] fun _ Qr=>aX 166 [.ptr 0 0,.sl false 1 [.str ⟨#[41]⟩]] [aB Qr] fun _ u57=>aX 166 [.ptr 0 0,.sl false 1 [.str ⟨#[41]⟩]] [aB u57] fun _ u60=>some (.tuple [],[aB u60])) (aA (x6.1==5) (aX 166 [.ptr 0 0,.sl false 1 [.str x10]] [aB (aJ,())] fun _ u63=>dh 208 [.int .i64 0,.int .i64 6,.ptr 0 0,.cst (.sl false 1 x5),.cst (A1 x6)] [some [.ptr 1 0],aB u63] fun _ u66=>aX 166 [.ptr 0 0,.sl false 1 [.str ⟨#[41]⟩]] [aB u66] fun _ u69=>some (.tuple [],[aB u69])) (aA (x6.1==10) (aX 166 [.ptr 0 0,.sl false 1 [.str x10]] [aB (aJ,())] fun _ u72=>dh 208 [.int .i64 0,.int .i64 6,.ptr 0 0,.cst (.sl false 1 x5),.cst (A1 x6)] [some [.ptr 1 0],aB u72] fun _ u75=>aX 166 [.ptr 0 0,.sl false 1 [.str ⟨#[41]⟩]] [aB u75] fun _ u78=>some (.tuple [],[aB u78])) (aA (x6.1==13) (dh 208 [.int .i64 0,.int .i64 1,.ptr 0 0,.cst (.sl false 1 x5),.cst (A1 x6)] [some [.ptr 1 0],aB (aJ,())] fun _ u81=>aX 166 [.ptr 0 0,.sl false 1 [.str ⟨#[63]⟩]] [aB u81] fun _ u84=>dh 208 [.int .i64 1,.int .i64 0,.ptr 0 0,.cst (.sl false 1 x5),.cst (A1 x6)] [some [.ptr 1 0],aB u84] fun _ u87=>aX 166 [.ptr 0 0,.sl false 1 [.str ⟨#[58]⟩]] [aB u87] fun _ u90=>dh 208 [.int .i64 2,.int .i64 0,.ptr 0 0,.cst (.sl false 1 x5),.cst (A1 x6)] [some [.ptr 1 0],aB u90] fun _ u93=>aX 166 [.ptr 0 0,.sl false 1 [.str ⟨#[41]⟩]] [aB u93] fun _ u96=>some (.tuple [],[aB u96])) (aA (x8==3) (dh 208 [.int .i64 0,.int .i64 4,.ptr 0 0,.cst (.sl false 1 x5),.cst (A1 x6)] [some [.ptr 1 0],aB (aJ,())] fun _ u99=>aX 166 [.ptr 0 0,.sl false 1 [.str x10]] [aB u99] fun _ Qq=>dh 208 [.int .i64 1,.int .i64 4,.ptr 0 0,.cst (.sl false 1 x5),.cst (A1 x6)] [some [.ptr 1 0],aB Qq] fun _ u105=>aX 166 [.ptr 0 0,.sl false 1 [.str ⟨#[41]⟩]] [aB u105] fun _ a3F=>some (.tuple [],[aB a3F])) (dh 208 [.int .i64 0,.int .i64 x8,.ptr 0 0,.cst (.sl false 1 x5),.cst (A1 x6)] [some [.ptr 1 0],aB (aJ,())] fun _ a3G=>aX 166 [.ptr 0 0,.sl false 1 [.str x10]] [aB a3G] fun _ a3H=>dh 208 [.int .i64 1,.int .i64 (i64.wrap (x8+1)),.ptr 0 0,.cst (.sl false 1 x5),.cst (A1 x6)] [some [.ptr 1 0],aB a3H] fun _ a3I=>aX 166 [.ptr 0 0,.sl false 1 [.str ⟨#[41]⟩]] [aB a3I] fun _ a3J=>some (.tuple [],[aB a3J]))))))) (aA (x6.1==5) (aX 166 [.ptr 0 0,.sl false 1 [.str x10]] [aB (aJ,())] fun _ a3K=>dh 208 [.int .i64 0,.int .i64 6,.ptr 0 0,.cst (.sl false 1 x5),.cst (A1 x6)] [some [.ptr 1 0],aB a3K] fun _ a3L=>aX 166 [.ptr 0 0,.sl false 1 [.str ⟨#[41]⟩]] [aB a3L] fun _ a3M=>some (.tuple [],[aB a3M])) (aA (x6.1==10) (aX 166 [.ptr 0 0,.sl false 1 [.str x10]] [aB (aJ,())] fun _ a3N=>dh 208 [.int .i64 0,.int .i64 6,.ptr 0 0,.cst (.sl false 1 x5),.cst (A1 x6)] [some [.ptr 1 0],aB a3N] fun _ a3O=>aX 166 [.ptr 0 0,.sl false 1 [.str ⟨#[41]⟩]] [aB a3O] fun _ u138=>some (.tuple [],[aB u138])) (aA (x6.1==13) (dh 208 [.int .i64 0,.int .i64 1,.ptr 0 0,.cst (.sl false 1 x5),.cst (A1 x6)] [some [.ptr 1 0],aB (aJ,())] fun _ a3P=>aX 166 [.ptr 0 0,.sl false 1 [.str ⟨#[63]⟩]] [aB a3P] fun _ a3Q=>dh 208 [.int .i64 1,.int .i64 0,.ptr 0 0,.cst (.sl false 1 x5),.cst (A1 x6)] [some [.ptr 1 0],aB a3Q] fun _ a3R=>aX 166 [.ptr 0 0,.sl false 1 [.str ⟨#[58]⟩]] [aB a3R] fun _ a3S=>dh 208 [.int .i64 2,.int .i64 0,.ptr 0 0,.cst (.sl false 1 x5),.cst (A1 x6)] [some [.ptr 1 0],aB a3S] fun _ a3T=>aX 166 [.ptr 0 0,.sl false 1 [.str ⟨#[41]⟩]] [aB a3T] fun _ a3U=>some (.tuple [],[aB a3U])) (aA (x8==3) (dh 208 [.int .i64 0,.int .i64 4,.ptr 0 0,.cst (.sl false 1 x5),.cst (A1 x6)] [some [.ptr 1 0],aB (aJ,())] fun _ a3V=>aX 166 [.ptr 0 0,.sl false 1 [.str x10]] [aB a3V] fun _ u162=>dh 208 [.int .i64 1,.int .i64 4,.ptr 0 0,.cst (.sl false 1 x5),.cst (A1 x6)] [some [.ptr 1 0],aB u162] fun _ a3W=>aX 166 [.ptr 0 0,.sl false 1 [.str ⟨#[41]⟩]] [aB a3W] fun _ a3X=>some (.tuple [],[aB a3X])) (dh 208 [.int .i64 0,.int .i64 x8,.ptr 0 0,.cst (.sl false 1 x5),.cst (A1 x6)] [some [.ptr 1 0],aB (aJ,())] fun _ a3Y=>aX 166 [.ptr 0 0,.sl false 1 [.str x10]] [aB a3Y] fun _ a3Z=>dh 208 [.int .i64 1,.int .i64 (i64.wrap (x8+1)),.ptr 0 0,.cst (.sl false 1 x5),.cst (A1 x6)] [some [.ptr 1 0],aB a3Z] fun _ a4A=>aX 166 [.ptr 0 0,.sl false 1 [.str ⟨#[41]⟩]] [aB a4A] fun _ a4B=>some (.tuple [],[aB a4B]))))))) (aA (x6.1==5) (aX 166 [.ptr 0 0,.sl false 1 [.str x10]] [aB (aJ,())] fun _ bE4=>dh 208 [.int .i64 0,.int .i64 6,.ptr 0 0,.cst (.sl false 1 x5),.cst (A1 x6)] [some [.ptr 1 0],aB bE4] fun _ bE5=>aX 166 [.ptr 0 0,.sl false 1 [.str ⟨#[41]⟩]] [aB bE5] fun _ bE6=>some (.tuple [],[aB bE6])) (aA (x6.1==10) (aX 166 [.ptr 0 0,.sl false 1 [.str x10]] [aB (aJ,())] fun _ bE7=>dh 208 [.int .i64 0,.int .i64 6,.ptr 0 0,.cst (.sl false 1 x5),.cst (A1 x6)] [some [.ptr 1 0],aB bE7] fun _ bE8=>aX 166 [.ptr 0 0,.sl false 1 [.str ⟨#[41]⟩]] [aB bE8] fun _ u198=>some (.tuple [],[aB u198])) (aA (x6.1==13) (dh 208 [.int .i64 0,.int .i64 1,.ptr 0 0,.cst (.sl false 1 x5),.cst (A1 x6)] [some [.ptr 1 0],aB (aJ,())] fun _ u201=>aX 166 [.ptr 0 0,.sl false 1 [.str ⟨#[63]⟩]] [aB u201] fun _ bE9=>dh 208 [.int .i64 1,.int .i64 0,.ptr 0 0,.cst (.sl false 1 x5),.cst (A1 x6)] [some [.ptr 1 0],aB bE9] fun _ bEA=>aX 166 [.ptr 0 0,.sl false 1 [.str ⟨#[58]⟩]] [aB bEA] fun _ u210=>dh 208 [.int .i64 2,.int .i64 0,.ptr 0 0,.cst (.sl false 1 x5),.cst (A1 x6)] [some [.ptr 1 0],aB u210] fun _ bEB=>aX 166 [.ptr 0 0,.sl false 1 [.str ⟨#[41]⟩]] [aB bEB] fun _ bEC=>some (.tuple [],[aB bEC])) (aA (x8==3) (dh 208 [.int .i64 0,.int .i64 4,.ptr 0 0,.cst (.sl false 1 x5),.cst (A1 x6)] [some [.ptr 1 0],aB (aJ,())] fun _ bED=>aX 166 [.ptr 0 0,.sl false 1 [.str x10]] [aB bED] fun _ bEE=>dh 208 [.int .i64 1,.int .i64 4,.ptr 0 0,.cst (.sl false 1 x5),.cst (A1 x6)] [some [.ptr 1 0],aB bEE] fun _ bEF=>aX 166 [.ptr 0 0,.sl false 1 [.str ⟨#[41]⟩]] [aB bEF] fun _ bEG=>some (.tuple [],[aB bEG])) (dh 208 [.int .i64 0,.int .i64 x8,.ptr 0 0,.cst (.sl false 1 x5),.cst (A1 x6)] [some [.ptr 1 0],aB (aJ,())] fun _ bEH=>aX 166 [.ptr 0 0,.sl false 1 [.str x10]] [aB bEH] fun _ u234=>dh 208 [.int .i64 1,.int .i64 (i64.wrap (x8+1)),.ptr 0 0,.cst (.sl false 1 x5),.cst (A1 x6)] [some [.ptr 1 0],aB u234] fun _ bEI=>aX 166 [.ptr 0 0,.sl false 1 [.str ⟨#[41]⟩]] [aB bEI] fun _ bEJ=>some (.tuple [],[aB bEJ])))))))))):=by kernel_rfl
theorem Aj (x5:List PV) (x6:Sh.V S1) (x8:Int) (aJ:List PV) (x10:ByteArray):oM x5 x6 x8 aJ x10 =
 wK 116 [] fun u1=>G3 23 [A1 x6,A1 u1] fun b6=>aA b6 (aX 165 [.ptr 0 0,.sl false 1 [.str ⟨#[116,114,117,101]⟩]] [aB (aJ,())] fun _ u8=>some (.tuple [],[aB u8])) (wK 117 [] fun u11=>G3 23 [A1 x6,A1 u11] fun b16=>aA b16 (aX 165 [.ptr 0 0,.sl false 1 [.str ⟨#[102,97,108,115,101]⟩]] [aB (aJ,())] fun _ u18=>some (.tuple [],[aB u18])) (aA (x6.1==0) (aX 167 [.ptr 0 0,.int .i64 x6.2.1] [aB (aJ,())] fun _ u21=>some (.tuple [],[aB u21])) (aA (x6.1==1) (dH x5 x6.2.2.1 fun e24=>vS e24 fun s25=>aX 165 [.ptr 0 0,.sl false 1 [.str s25]] [aB (aJ,())] fun _ u26=>some (.tuple [],[aB u26])) (aA (x6.1==5) (bG S1 x6.2.2.2.1 0 fun u30=>aA (u30.1==0) (bG S1 x6.2.2.2.1 0 fun u35=>aA (decide (0<=u35.2.1)) (aX 166 [.ptr 0 0,.sl false 1 [.str ⟨#[45]⟩,.str ⟨#[40]⟩]] [aB (aJ,())] fun _ u39=>dh 208 [.int .i64 0,.int .i64 0,.ptr 0 0,.cst (.sl false 1 x5),.cst (A1 x6)] [some [.ptr 1 0],aB u39] fun _ u42=>aX 166 [.ptr 0 0,.sl false 1 [.str ⟨#[41]⟩]] [aB u42] fun _ u45=>some (.tuple [],[aB u45])) (aA (x6.1==5) (aX 166 [.ptr 0 0,.sl false 1 [.str x10]] [aB (aJ,())] fun _ u48=>dh 208 [.int .i64 0,.int .i64 6,.ptr 0 0,.cst (.sl false 1 x5),.cst (A1 x6)] [some [.ptr 1 0],aB u48] fun _ u51=>some (.tuple [],[aB u51])) (aA (x6.1==10) (aX 166 [.ptr 0 0,.sl false 1 [.str x10]] [aB (aJ,())] fun _ Qr=>dh 208 [.int .i64 0,.int .i64 6,.ptr 0 0,.cst (.sl false 1 x5),.cst (A1 x6)] [some [.ptr 1 0],aB Qr] fun _ u57=>some (.tuple [],[aB u57])) (aA (x6.1==13) (dh 208 [.int .i64 0,.int .i64 1,.ptr 0 0,.cst (.sl false 1 x5),.cst (A1 x6)] [some [.ptr 1 0],aB (aJ,())] fun _ u60=>aX 166 [.ptr 0 0,.sl false 1 [.str ⟨#[63]⟩]] [aB u60] fun _ u63=>dh 208 [.int .i64 1,.int .i64 0,.ptr 0 0,.cst (.sl false 1 x5),.cst (A1 x6)] [some [.ptr 1 0],aB u63] fun _ u66=>aX 166 [.ptr 0 0,.sl false 1 [.str ⟨#[58]⟩]] [aB u66] fun _ u69=>dh 208 [.int .i64 2,.int .i64 0,.ptr 0 0,.cst (.sl false 1 x5),.cst (A1 x6)] [some [.ptr 1 0],aB u69] fun _ u72=>some (.tuple [],[aB u72])) (aA (x8==3) (dh 208 [.int .i64 0,.int .i64 4,.ptr 0 0,.cst (.sl false 1 x5),.cst (A1 x6)] [some [.ptr 1 0],aB (aJ,())] fun _ u75=>aX 166 [.ptr 0 0,.sl false 1 [.str x10]] [aB u75] fun _ u78=>dh 208 [.int .i64 1,.int .i64 4,.ptr 0 0,.cst (.sl false 1 x5),.cst (A1 x6)] [some [.ptr 1 0],aB u78] fun _ u81=>some (.tuple [],[aB u81])) (dh 208 [.int .i64 0,.int .i64 x8,.ptr 0 0,.cst (.sl false 1 x5),.cst (A1 x6)] [some [.ptr 1 0],aB (aJ,())] fun _ u84=>aX 166 [.ptr 0 0,.sl false 1 [.str x10]] [aB u84] fun _ u87=>dh 208 [.int .i64 1,.int .i64 (i64.wrap (x8+1)),.ptr 0 0,.cst (.sl false 1 x5),.cst (A1 x6)] [some [.ptr 1 0],aB u87] fun _ u90=>some (.tuple [],[aB u90]))))))) (aA (x6.1==5) (aX 166 [.ptr 0 0,.sl false 1 [.str x10]] [aB (aJ,())] fun _ u93=>dh 208 [.int .i64 0,.int .i64 6,.ptr 0 0,.cst (.sl false 1 x5),.cst (A1 x6)] [some [.ptr 1 0],aB u93] fun _ u96=>some (.tuple [],[aB u96])) (aA (x6.1==10) (aX 166 [.ptr 0 0,.sl false 1 [.str x10]] [aB (aJ,())] fun _ u99=>dh 208 [.int .i64 0,.int .i64 6,.ptr 0 0,.cst (.sl false 1 x5),.cst (A1 x6)] [some [.ptr 1 0],aB u99] fun _ Qq=>some (.tuple [],[aB Qq])) (aA (x6.1==13) (dh 208 [.int .i64 0,.int .i64 1,.ptr 0 0,.cst (.sl false 1 x5),.cst (A1 x6)] [some [.ptr 1 0],aB (aJ,())] fun _ u105=>aX 166 [.ptr 0 0,.sl false 1 [.str ⟨#[63]⟩]] [aB u105] fun _ a3F=>dh 208 [.int .i64 1,.int .i64 0,.ptr 0 0,.cst (.sl false 1 x5),.cst (A1 x6)] [some [.ptr 1 0],aB a3F] fun _ a3G=>aX 166 [.ptr 0 0,.sl false 1 [.str ⟨#[58]⟩]] [aB a3G] fun _ a3H=>dh 208 [.int .i64 2,.int .i64 0,.ptr 0 0,.cst (.sl false 1 x5),.cst (A1 x6)] [some [.ptr 1 0],aB a3H] fun _ a3I=>some (.tuple [],[aB a3I])) (aA (x8==3) (dh 208 [.int .i64 0,.int .i64 4,.ptr 0 0,.cst (.sl false 1 x5),.cst (A1 x6)] [some [.ptr 1 0],aB (aJ,())] fun _ a3J=>aX 166 [.ptr 0 0,.sl false 1 [.str x10]] [aB a3J] fun _ a3K=>dh 208 [.int .i64 1,.int .i64 4,.ptr 0 0,.cst (.sl false 1 x5),.cst (A1 x6)] [some [.ptr 1 0],aB a3K] fun _ a3L=>some (.tuple [],[aB a3L])) (dh 208 [.int .i64 0,.int .i64 x8,.ptr 0 0,.cst (.sl false 1 x5),.cst (A1 x6)] [some [.ptr 1 0],aB (aJ,())] fun _ a3M=>aX 166 [.ptr 0 0,.sl false 1 [.str x10]] [aB a3M] fun _ a3N=>dh 208 [.int .i64 1,.int .i64 (i64.wrap (x8+1)),.ptr 0 0,.cst (.sl false 1 x5),.cst (A1 x6)] [some [.ptr 1 0],aB a3N] fun _ a3O=>some (.tuple [],[aB a3O]))))))) (aA (x6.1==5) (aX 166 [.ptr 0 0,.sl false 1 [.str x10]] [aB (aJ,())] fun _ u138=>dh 208 [.int .i64 0,.int .i64 6,.ptr 0 0,.cst (.sl false 1 x5),.cst (A1 x6)] [some [.ptr 1 0],aB u138] fun _ a3P=>some (.tuple [],[aB a3P])) (aA (x6.1==10) (aX 166 [.ptr 0 0,.sl false 1 [.str x10]] [aB (aJ,())] fun _ a3Q=>dh 208 [.int .i64 0,.int .i64 6,.ptr 0 0,.cst (.sl false 1 x5),.cst (A1 x6)] [some [.ptr 1 0],aB a3Q] fun _ a3R=>some (.tuple [],[aB a3R])) (aA (x6.1==13) (dh 208 [.int .i64 0,.int .i64 1,.ptr 0 0,.cst (.sl false 1 x5),.cst (A1 x6)] [some [.ptr 1 0],aB (aJ,())] fun _ a3S=>aX 166 [.ptr 0 0,.sl false 1 [.str ⟨#[63]⟩]] [aB a3S] fun _ a3T=>dh 208 [.int .i64 1,.int .i64 0,.ptr 0 0,.cst (.sl false 1 x5),.cst (A1 x6)] [some [.ptr 1 0],aB a3T] fun _ a3U=>aX 166 [.ptr 0 0,.sl false 1 [.str ⟨#[58]⟩]] [aB a3U] fun _ a3V=>dh 208 [.int .i64 2,.int .i64 0,.ptr 0 0,.cst (.sl false 1 x5),.cst (A1 x6)] [some [.ptr 1 0],aB a3V] fun _ u162=>some (.tuple [],[aB u162])) (aA (x8==3) (dh 208 [.int .i64 0,.int .i64 4,.ptr 0 0,.cst (.sl false 1 x5),.cst (A1 x6)] [some [.ptr 1 0],aB (aJ,())] fun _ a3W=>aX 166 [.ptr 0 0,.sl false 1 [.str x10]] [aB a3W] fun _ a3X=>dh 208 [.int .i64 1,.int .i64 4,.ptr 0 0,.cst (.sl false 1 x5),.cst (A1 x6)] [some [.ptr 1 0],aB a3X] fun _ a3Y=>some (.tuple [],[aB a3Y])) (dh 208 [.int .i64 0,.int .i64 x8,.ptr 0 0,.cst (.sl false 1 x5),.cst (A1 x6)] [some [.ptr 1 0],aB (aJ,())] fun _ a3Z=>aX 166 [.ptr 0 0,.sl false 1 [.str x10]] [aB a3Z] fun _ a4A=>dh 208 [.int .i64 1,.int .i64 (i64.wrap (x8+1)),.ptr 0 0,.cst (.sl false 1 x5),.cst (A1 x6)] [some [.ptr 1 0],aB a4A] fun _ a4B=>some (.tuple [],[aB a4B])))))))))):=by kernel_rfl
theorem aRI (a1:List PV) (a2:Sh.V S1) (a3:Int) (ay:List PV):SS.CC 113 [.ptr 0 0,.sl false 1 a1,A1 a2,.int .i64 a3] [aB (ay,())] =
 G1 207 [A1 a2] fun n1=>aA (decide (n1<a3)) (aX 166 [.ptr 0 0,.sl false 1 [.str ⟨#[40]⟩]] [aB (ay,())] fun _ u3=>chk (decide (0<=a2.1)&&decide (a2.1<(14:Int))) (aA (a2.1==0) (oN a1 a2 n1 u3.1 ⟨#[]⟩) (aA (a2.1==1) (oN a1 a2 n1 u3.1 ⟨#[]⟩) (aA (a2.1==2) (oN a1 a2 n1 u3.1 ⟨#[43]⟩) (aA (a2.1==3) (oN a1 a2 n1 u3.1 ⟨#[45]⟩) (aA (a2.1==4) (oN a1 a2 n1 u3.1 ⟨#[42]⟩) (aA (a2.1==5) (oN a1 a2 n1 u3.1 ⟨#[45]⟩) (aA (a2.1==6) (oN a1 a2 n1 u3.1 ⟨#[61,61]⟩) (aA (a2.1==7) (oN a1 a2 n1 u3.1 ⟨#[33,61]⟩) (aA (a2.1==8) (oN a1 a2 n1 u3.1 ⟨#[60]⟩) (aA (a2.1==9) (oN a1 a2 n1 u3.1 ⟨#[60,61]⟩) (aA (a2.1==10) (oN a1 a2 n1 u3.1 ⟨#[33]⟩) (aA (a2.1==11) (oN a1 a2 n1 u3.1 ⟨#[38,38]⟩) (aA (a2.1==12) (oN a1 a2 n1 u3.1 ⟨#[124,124]⟩) (aA (a2.1==13) (oN a1 a2 n1 u3.1 ⟨#[63]⟩) (none)))))))))))))))) (chk (decide (0<=a2.1)&&decide (a2.1<(14:Int))) (aA (a2.1==0) (oM a1 a2 n1 ay ⟨#[]⟩) (aA (a2.1==1) (oM a1 a2 n1 ay ⟨#[]⟩) (aA (a2.1==2) (oM a1 a2 n1 ay ⟨#[43]⟩) (aA (a2.1==3) (oM a1 a2 n1 ay ⟨#[45]⟩) (aA (a2.1==4) (oM a1 a2 n1 ay ⟨#[42]⟩) (aA (a2.1==5) (oM a1 a2 n1 ay ⟨#[45]⟩) (aA (a2.1==6) (oM a1 a2 n1 ay ⟨#[61,61]⟩) (aA (a2.1==7) (oM a1 a2 n1 ay ⟨#[33,61]⟩) (aA (a2.1==8) (oM a1 a2 n1 ay ⟨#[60]⟩) (aA (a2.1==9) (oM a1 a2 n1 ay ⟨#[60,61]⟩) (aA (a2.1==10) (oM a1 a2 n1 ay ⟨#[33]⟩) (aA (a2.1==11) (oM a1 a2 n1 ay ⟨#[38,38]⟩) (aA (a2.1==12) (oM a1 a2 n1 ay ⟨#[124,124]⟩) (aA (a2.1==13) (oM a1 a2 n1 ay ⟨#[63]⟩) (none)))))))))))))))):=cc
def aRJ:KT:=SS.rK Tryz.f114 114 0 []
def aRK:KT:=SS.jK 114 45 0 (cS Tryz.f114 31) aRJ
def aRL:KT:=au 0 aRK
def OZ (x0:List PV) (x4:List PV) (x16:Int):R:=SS.LL (SS.ae 114 45) 0 [0,4,14,15,16] 0 (cS Tryz.f114 151) aRL ⟨[(0,.sl false 5 x0),(4,.sl true 1 x4),(14,.sl false 5 x0),(15,.int .i64 (x0.length:Int)),(16,.int .i64 x16)],[]⟩
theorem a9J (x0:List PV) (x4:List PV) (x16:Int):OZ x0 x4 x16 =
 aA (decide (x16<(x0.length:Int))) (bG jl x0 x16 fun u2=>chk (decide (x4.length+1<=aV)) (OZ x0 (x4 ++ ([.str u2.2.1]:List PV)) (i64.wrap (x16+1)))) (G2 15 [.sl false 1 x4,.str ⟨#[32]⟩] fun s7=>XK 99 [.str s7] fun u9=>aA (u9.2.2.2.1.1 != 0) (some (.tuple [.str ⟨#[]⟩,.int .i64 6],[])) (NW 175 [.sl false 5 u9.1.1] fun l14=>G3 209 [.sl false 5 l14,.sl false 5 x0,.func (.func 210) [] []] fun b16=>aA (!b16) (some (.tuple [.str ⟨#[]⟩,.int .i64 6],[])) (some (.tuple [.str s7,.int .i64 0],[])))):=ll
theorem YX (a0:List PV):SS.CC 114 [.sl false 5 a0] [] =
 NW 175 [.sl false 5 a0] fun l1=>OZ l1 [] 0:=cc
theorem aRM (a0:Sh.V S1):SS.CC 115 [A1 a0] [] =
 wK 116 [] fun u1=>G3 23 [A1 a0,A1 u1] fun b6=>aA b6 (some (.int .i64 7,[])) (wK 117 [] fun u8=>G3 23 [A1 a0,A1 u8] fun b13=>aA b13 (some (.int .i64 7,[])) (aA (a0.1==0) (aA (decide (a0.2.1<0)) (some (.int .i64 6,[])) (some (.int .i64 7,[]))) (aA (a0.1==13) (some (.int .i64 0,[])) (aA (a0.1==12) (some (.int .i64 1,[])) (aA (a0.1==11) (some (.int .i64 2,[])) (aA (a0.1==6) (some (.int .i64 3,[])) (aA (a0.1==7) (some (.int .i64 3,[])) (aA (a0.1==8) (some (.int .i64 3,[])) (aA (a0.1==9) (some (.int .i64 3,[])) (aA (a0.1==2) (some (.int .i64 4,[])) (aA (a0.1==3) (some (.int .i64 4,[])) (aA (a0.1==4) (some (.int .i64 5,[])) (aA (a0.1==10) (some (.int .i64 6,[])) (aA (a0.1==5) (some (.int .i64 6,[])) (some (.int .i64 7,[])))))))))))))))):=cc
def aT4:KT:=SS.rK Tryz.f165 165 1 []
def aT5:KT:=au 0 aT4
def Jq (x6:List PV) (aJ:List PV) (x8:Int):R:=SS.LL (SS.ae 165 24) 1 [0,6,7,8] 1 (cS Tryz.f165 9) aT5 ⟨[(0,.ptr 0 0),(6,.sl false 1 x6),(7,.int .i64 (x6.length:Int)),(8,.int .i64 x8)],[aB (aJ,())]⟩
theorem UJ (x6:List PV) (aJ:List PV) (x8:Int):Jq x6 aJ x8 =
 aA (decide (x8<(x6.length:Int))) (dH x6 x8 fun e1=>vS e1 fun s2=>chk (decide (aJ.length+1<=aV)) (Jq x6 (aJ ++ ([jf (1,s2,0,0,0,())]:List PV)) (i64.wrap (x8+1)))) (some (.tuple [],[aB (aJ,())])):=ll
theorem YY (a1:List PV) (ay:List PV):SS.CC 165 [.ptr 0 0,.sl false 1 a1] [aB (ay,())] =
 Jq a1 ay 0:=cc
def aT6:KT:=SS.rK Tryz.f166 166 1 []
def aT7:KT:=au 0 aT6
def YZ (x6:List PV) (aJ:List PV) (x8:Int):R:=SS.LL (SS.ae 166 24) 1 [0,6,7,8] 1 (cS Tryz.f166 9) aT7 ⟨[(0,.ptr 0 0),(6,.sl false 1 x6),(7,.int .i64 (x6.length:Int)),(8,.int .i64 x8)],[aB (aJ,())]⟩
theorem Oh (x6:List PV) (aJ:List PV) (x8:Int):YZ x6 aJ x8 =
 aA (decide (x8<(x6.length:Int))) (dH x6 x8 fun e1=>vS e1 fun s2=>chk (decide (aJ.length+1<=aV)) (YZ x6 (aJ ++ ([jf (3,s2,0,0,0,())]:List PV)) (i64.wrap (x8+1)))) (some (.tuple [],[aB (aJ,())])):=ll
theorem aA4 (a1:List PV) (ay:List PV):SS.CC 166 [.ptr 0 0,.sl false 1 a1] [aB (ay,())] =
 YZ a1 ay 0:=cc
def aT9:KT:=SS.rK Tryz.f167 167 1 []
def Jr (aJ:List PV) (x1:Int):R:=bI (SS.xX 167 24 1) (cS Tryz.f167 3) aT9 ⟨[(0,.ptr 0 0),(1,.int .i64 x1)],[aB (aJ,())]⟩
theorem aT8 (aJ:List PV) (x1:Int):Jr aJ x1 =
 G2 35 [.int .i64 x1] fun s1=>chk (decide (aJ.length+1<=aV)) (some (.tuple [],[aB ((aJ ++ ([jf (2,s1,x1,0,0,())]:List PV)),())])):=by kernel_rfl
theorem aTA (a1:Int) (ay:List PV):SS.CC 167 [.ptr 0 0,.int .i64 a1] [aB (ay,())] =
 aA (decide (a1<0)) (aX 166 [.ptr 0 0,.sl false 1 [.str ⟨#[45]⟩]] [aB (ay,())] fun _ u1=>Jr u1.1 (i64.wrap (0-a1))) (Jr ay a1):=cc
theorem aUU (a0:List PV):SS.CC 175 [.sl false 5 a0] [] =
 G49 245 [.sl false 5 a0] fun l1=>aA (decide (0<l1.length)) (chk (l1.all (vY 5)) (chk ((dG l1).all nZ&&true) (H50 244 [.slh 0 0 l1.length 5,.func (.func 246) [] []] [some (dG l1)] fun u3 l4=>chk (l4.all nZ&&true) (chk (decide (u3.1*5<=l4.length)&&decide (0<5)&&l4.all fun p=>p.one&&p.flat) (some (.sl false 5 (kT 5 l4 u3.1),[])))))) (NW 244 [.sl false 5 [],.func (.func 246) [] []] fun l7=>some (.sl false 5 l7,[])):=cc
def aVZ:KT:=SS.rK Tryz.f201 201 1 []
def aV':KT:=SS.jK 201 44 1 (cS Tryz.f201 31) aVZ
def aW0:KT:=au 0 aV'
def UU (x1:Int) (x3:Sh.V S1) (aJ:Int) (x7:Int):R:=SS.LL (SS.ae 201 44) 1 [1,2,3,7] 1 (cS Tryz.f201 151) aW0 ⟨[(1,.int .i64 x1),(2,.ptr 0 0),(3,.cst (A1 x3)),(7,.int .i64 x7)],[eP (aJ,())]⟩
theorem aAX (x1:Int) (x3:Sh.V S1) (aJ:Int) (x7:Int):UU x1 x3 aJ x7 =
 aA (decide (x7<(x3.2.2.2.1.length:Int))) (bG S1 x3.2.2.2.1 x7 fun u2=>XO 201 [A1 u2,.int .i64 (i64.wrap (x1+1)),.ptr 0 0] [eP (aJ,())] fun b6 u7=>aA (!b6) (some (.bool false,[eP u7])) (UU x1 x3 u7.1 (i64.wrap (x7+1)))) (some (.bool true,[eP (aJ,())])):=ll
theorem aW1 (a0:Sh.V S1) (a1:Int) (ay:Int):SS.CC 201 [A1 a0,.int .i64 a1,.ptr 0 0] [eP (ay,())] =
 aA (ay==0) (some (.bool false,[eP (ay,())])) (aA (decide (10<a1)) (some (.bool false,[eP (ay,())])) (aA (decide (4<(a0.2.2.2.1.length:Int))) (some (.bool false,[eP (ay,())])) (UU a1 a0 (i64.wrap (ay-1)) 0))):=cc
theorem aW2 (a0:Int):SS.CC 202 [.int .i64 a0] [] =
 aA (a0==0) (some (.tuple [.int .i64 0,.bool true],[])) (aA (a0==1) (some (.tuple [.int .i64 0,.bool true],[])) (aA (a0==5) (some (.tuple [.int .i64 1,.bool true],[])) (aA (a0==10) (some (.tuple [.int .i64 1,.bool true],[])) (aA (a0==2) (some (.tuple [.int .i64 2,.bool true],[])) (aA (a0==3) (some (.tuple [.int .i64 2,.bool true],[])) (aA (a0==4) (some (.tuple [.int .i64 2,.bool true],[])) (aA (a0==6) (some (.tuple [.int .i64 2,.bool true],[])) (aA (a0==7) (some (.tuple [.int .i64 2,.bool true],[])) (aA (a0==8) (some (.tuple [.int .i64 2,.bool true],[])) (aA (a0==9) (some (.tuple [.int .i64 2,.bool true],[])) (aA (a0==11) (some (.tuple [.int .i64 2,.bool true],[])) (aA (a0==12) (some (.tuple [.int .i64 2,.bool true],[])) (aA (a0==13) (some (.tuple [.int .i64 3,.bool true],[])) (some (.tuple [.int .i64 0,.bool false],[]))))))))))))))):=cc
theorem aAY (a0:Int) (a1:Int):SS.CC 203 [.int .i64 a0,.int .i64 a1] [] =
 aA (decide (a1<a0)) (some (.bool true,[])) (some (.bool (decide (a0<(i64.wrap (0-a1)))),[])):=cc
theorem aW3 (a0:Int) (ay:List PV):SS.CC 204 [.int .i64 a0,.ptr 0 0] [iG (ay,())] =
 G3 205 [.sl false 1 ay,.func (.func 206) [] [.cst (.int .i64 a0)]] fun b1=>some (.bool (!b1),[iG (ay,())]):=cc
theorem aW4 (a0:List PV) (a1:Int):SS.CC 205 [.sl false 1 a0,.func (.func 206) [] [.cst (.int .i64 a1)]] [] =
 G1 258 [.sl false 1 a0,.func (.func 206) [] [.cst (.int .i64 a1)]] fun n1=>some (.bool (decide (0<=n1)),[]):=cc
theorem aW5 (a0:Int) (a1:Int):SS.CC 206 [.int .i64 a0,.cst (.int .i64 a1)] [] =
 some (.bool (a0 != a1),[]):=cc
theorem aW6 (a0:Sh.V S1):SS.CC 207 [A1 a0] [] =
 wK 116 [] fun u1=>G3 23 [A1 a0,A1 u1] fun b6=>aA b6 (some (.int .i64 7,[])) (wK 117 [] fun u8=>G3 23 [A1 a0,A1 u8] fun b13=>aA b13 (some (.int .i64 7,[])) (aA (a0.1==0) (aA (decide (a0.2.1<0)) (some (.int .i64 6,[])) (chk (decide (0<=a0.1)&&decide (a0.1<(14:Int))) (aA (a0.1==0) (some (.int .i64 7,[])) (aA (a0.1==1) (some (.int .i64 7,[])) (aA (a0.1==2) (some (.int .i64 4,[])) (aA (a0.1==3) (some (.int .i64 4,[])) (aA (a0.1==4) (some (.int .i64 5,[])) (aA (a0.1==5) (some (.int .i64 6,[])) (aA (a0.1==6) (some (.int .i64 3,[])) (aA (a0.1==7) (some (.int .i64 3,[])) (aA (a0.1==8) (some (.int .i64 3,[])) (aA (a0.1==9) (some (.int .i64 3,[])) (aA (a0.1==10) (some (.int .i64 6,[])) (aA (a0.1==11) (some (.int .i64 2,[])) (aA (a0.1==12) (some (.int .i64 1,[])) (aA (a0.1==13) (some (.int .i64 0,[])) (none))))))))))))))))) (chk (decide (0<=a0.1)&&decide (a0.1<(14:Int))) (aA (a0.1==0) (some (.int .i64 7,[])) (aA (a0.1==1) (some (.int .i64 7,[])) (aA (a0.1==2) (some (.int .i64 4,[])) (aA (a0.1==3) (some (.int .i64 4,[])) (aA (a0.1==4) (some (.int .i64 5,[])) (aA (a0.1==5) (some (.int .i64 6,[])) (aA (a0.1==6) (some (.int .i64 3,[])) (aA (a0.1==7) (some (.int .i64 3,[])) (aA (a0.1==8) (some (.int .i64 3,[])) (aA (a0.1==9) (some (.int .i64 3,[])) (aA (a0.1==10) (some (.int .i64 6,[])) (aA (a0.1==11) (some (.int .i64 2,[])) (aA (a0.1==12) (some (.int .i64 1,[])) (aA (a0.1==13) (some (.int .i64 0,[])) (none)))))))))))))))))):=cc
theorem aW7 (a0:Int) (a1:Int) (a3:List PV) (a4:Sh.V S1) (lD:List PV):SS.CC 208 [.int .i64 a0,.int .i64 a1,.ptr 0 0,.cst (.sl false 1 a3),.cst (A1 a4)] [some [.ptr 1 0],aB (lD,())] =
 bG S1 a4.2.2.2.1 a0 fun u2=>aX 113 [.ptr 0 0,.sl false 1 a3,A1 u2,.int .i64 a1] [aB (lD,())] fun _ u6=>some (.tuple [],[some [.ptr 1 0],aB u6]):=cc
def aW8:KT:=SS.rK Tryz.f209 209 0 []
def aW9:KT:=SS.jK 209 32 0 (cS Tryz.f209 15) aW8
def aWA:KT:=au 0 aW9
def UV (x1:List PV) (x15:List PV) (x17:Int):R:=SS.LL (SS.ae 209 32) 0 [1,2,15,16,17] 0 (cS Tryz.f209 75) aWA ⟨[(1,.sl false 5 x1),(2,.func (.func 210) [] []),(15,.sl false 5 x15),(16,.int .i64 (x15.length:Int)),(17,.int .i64 x17)],[]⟩
theorem aAZ (x1:List PV) (x15:List PV) (x17:Int):UV x1 x15 x17 =
 aA (decide (x17<(x15.length:Int))) (bG jl x15 x17 fun u2=>bG jl x1 x17 fun u8=>G3 210 [jf u2,jf u8] fun b13=>aA (!b13) (some (.bool false,[])) (UV x1 x15 (i64.wrap (x17+1)))) (some (.bool true,[])):=ll
theorem aWB (a0:List PV) (a1:List PV):SS.CC 209 [.sl false 5 a0,.sl false 5 a1,.func (.func 210) [] []] [] =
 aA ((a0.length:Int) !=(a1.length:Int)) (some (.bool false,[])) (UV a1 a0 0):=cc
theorem aWC (a0:Sh.V jl) (a1:Sh.V jl):SS.CC 210 [jf a0,jf a1] [] =
 aA (a0.1==a1.1) (aA (a0.2.1.toList==a1.2.1.toList) (some (.bool (a0.2.2.1==a1.2.2.1),[])) (some (.bool false,[]))) (some (.bool false,[])):=cc
def aWO:KT:=SS.rK Tryz.f244 244 1 [0]
def aWP:KT:=SS.jK 244 42 1 (cS Tryz.f244 31) aWO
def aWQ:KT:=au 0 aWP
def Oo (x0:Nat) (x5:Int) (o0:List PV) (x6:Int):R:=SS.LL (SS.ae 244 42) 1 [0,1,5,6] 1 (cS Tryz.f244 151) aWQ ⟨[(0,.slh 0 0 x0 5),(1,.func (.func 246) [] []),(5,.int .i64 x5),(6,.int .i64 x6)],[some o0]⟩
theorem aB0 (x0:Nat) (x5:Int) (o0:List PV) (x6:Int):Oo x0 x5 o0 x6 =
 chk (o0.all nZ&&true) (aA (decide (x6<(x0:Int))) (chk (o0.all nZ&&true) (chk (decide (0<=x6)&&decide (x6<(x0:Int))) (chk (decide ((0+x6.toNat*5)+5<=o0.length)) (Eb jl (.agg (((o0.drop (0+x6.toNat*5)).take 5).map PV.un)) fun u1=>G3 246 [jf u1] fun b6=>aA (!b6) (chk (decide (0<=x5)&&decide (x5<(x0:Int))) (chk (decide ((0+x5.toNat*5)+5<=o0.length)) (chk ((o0.take (0+x5.toNat*5) ++ (([.int .i64 u1.1,.str u1.2.1,.int .i64 u1.2.2.1,.int .i64 u1.2.2.2.1,.int .i64 u1.2.2.2.2.1]:List PV):List PV) ++ o0.drop ((0+x5.toNat*5)+5)).all nZ&&true) (Oo x0 (i64.wrap (x5+1)) (o0.take (0+x5.toNat*5) ++ (([.int .i64 u1.1,.str u1.2.1,.int .i64 u1.2.2.1,.int .i64 u1.2.2.2.1,.int .i64 u1.2.2.2.2.1]:List PV):List PV) ++ o0.drop ((0+x5.toNat*5)+5)) (i64.wrap (x6+1)))))) (chk (o0.all nZ&&true) (Oo x0 x5 o0 (i64.wrap (x6+1)))))))) (chk (o0.all nZ&&true) (chk (decide (0<=x5)&&decide (x5<=(x0:Int))) (aA (decide (x5<(x0:Int))) (chk (decide ((0+x5.toNat*5)+(x0-x5.toNat)*5<=o0.length)) (chk (decide (0<=x5)&&decide (x5<=(x0:Int))&&decide (0<x0)) (chk ((o0.take (0+x5.toNat*5) ++ ((List.replicate (x0-x5.toNat) (([.int .i64 0,.str ⟨#[]⟩,.int .i64 0,.int .i64 0,.int .i64 0]:List PV):List PV)).flatten.map PV.un) ++ o0.drop ((0+x5.toNat*5)+(x0-x5.toNat)*5)).all nZ&&true) (some (.slh 0 0 x5.toNat 5,[some (o0.take (0+x5.toNat*5) ++ ((List.replicate (x0-x5.toNat) (([.int .i64 0,.str ⟨#[]⟩,.int .i64 0,.int .i64 0,.int .i64 0]:List PV):List PV)).flatten.map PV.un) ++ o0.drop ((0+x5.toNat*5)+(x0-x5.toNat)*5))]))))) (chk (decide (0<=x5)&&decide (x5<=(x0:Int))&&decide (0<x0)) (chk (o0.all nZ&&true) (some (.slh 0 0 x5.toNat 5,[some o0])))))))):=ll
theorem aWR (a0:Nat) (h0:List PV):SS.CC 244 [.slh 0 0 a0 5,.func (.func 246) [] []] [some h0] =
 chk ((decide (a0*5<=h0.length)&&decide (0<5)&&h0.all qJ)&&true) (G1 299 [.sl false 5 (kT 5 h0 a0),.func (.func 246) [] []] fun n1=>aA (n1==(-1)) (chk (h0.all nZ&&true) (some (.slh 0 0 a0 5,[some h0]))) (chk (h0.all nZ&&true) (Oo a0 n1 h0 (i64.wrap (n1+1))))):=cc
theorem aWS (a0:List PV):SS.CC 245 [.sl false 5 a0] [] =
 F5 a0 fun b1=>aA (b1==true) (some (.sl true 5 [],[])) (chk (decide (0+a0.length<=aV)) (some (.sl true 5 a0,[]))):=cc
theorem aWT (a0:Sh.V jl):SS.CC 246 [jf a0] [] =
 some (.bool (a0.1==4),[]):=cc
def aXE:KT:=SS.rK Tryz.f258 258 0 []
def aXF:KT:=SS.jK 258 19 0 (cS Tryz.f258 7) aXE
def aXG:KT:=au 0 aXF
def UX (x0:List PV) (x1:Int) (x8:Int):R:=SS.LL (SS.ae 258 19) 0 [0,1,7,8] 0 (cS Tryz.f258 37) aXG ⟨[(0,.sl false 1 x0),(1,.func (.func 206) [] [.cst (.int .i64 x1)]),(7,.int .i64 (x0.length:Int)),(8,.int .i64 x8)],[]⟩
theorem aBB (x0:List PV) (x1:Int) (x8:Int):UX x0 x1 x8 =
 aA (decide (x8<(x0.length:Int))) (dH x0 x8 fun e1=>vI .i64 e1 fun n2=>G3 206 [.int .i64 n2,.cst (.int .i64 x1)] fun b3=>aA b3 (some (.int .i64 x8,[])) (UX x0 x1 (i64.wrap (x8+1)))) (some (.int .i64 (-1),[])):=ll
theorem aXH (a0:List PV) (a1:Int):SS.CC 258 [.sl false 1 a0,.func (.func 206) [] [.cst (.int .i64 a1)]] [] =
 UX a0 a1 0:=cc
def aXS:KT:=SS.rK Tryz.f299 299 0 []
def aXT:KT:=SS.jK 299 19 0 (cS Tryz.f299 7) aXS
def aXU:KT:=au 0 aXT
def Ov (x0:List PV) (x8:Int):R:=SS.LL (SS.ae 299 19) 0 [0,1,7,8] 0 (cS Tryz.f299 37) aXU ⟨[(0,.sl false 5 x0),(1,.func (.func 246) [] []),(7,.int .i64 (x0.length:Int)),(8,.int .i64 x8)],[]⟩
theorem aBF (x0:List PV) (x8:Int):Ov x0 x8 =
 aA (decide (x8<(x0.length:Int))) (bG jl x0 x8 fun u2=>G3 246 [jf u2] fun b7=>aA b7 (some (.int .i64 x8,[])) (Ov x0 (i64.wrap (x8+1)))) (some (.int .i64 (-1),[])):=ll
theorem aXV (a0:List PV):SS.CC 299 [.sl false 5 a0,.func (.func 246) [] []] [] =
 Ov a0 0:=cc
end
theorem BA {l:List EX} {k:Nat} (hk:k<l.length) (K:Sh.V S1->R):bG S1 (mJ l) (k:Int) K=K (ev l[k]):=by show dH (mJ l) (k:Int) _=_;rw[jo (e:=A1 (ev l[k])) (by omega) (by rw[Td,lm,gV,fJ hk]; rfl)];rfl
theorem qE {a:EX} {l:List EX} (K:Sh.V S1->R):bG S1 (mJ (a::l)) 0 K=K (ev a):=BA (l:=a::l) (k:=0) (by simp) K
theorem xk (l:List EX):(mJ l).length=l.length:=by rw[Td,bW]
mutual
def dY:EX->EX->Bool
 | .node o v i l,.node o' v' i' l'=>o==o'&&(v==v'&&(i==i'&&sK l l'))
def sK:List EX->List EX->Bool
 | [],[]=>true
 | a::l,b::l'=>dY a b&&sK l l'
 | _,_=>false
end
theorem OI (o v i:Int) (l:List EX) (o' v' i':Int) (l':List EX):dY (.node o v i l) (.node o' v' i' l')=(o==o'&&(v==v'&&(i==i'&&sK l l'))):=by rw[dY]
theorem TW (a b:EX) (l l':List EX):sK (a::l) (b::l')=(dY a b&&sK l l'):=by rw[sK]
theorem TY:∀ {l l':List EX},sK l l'=true->l.length=l'.length
 | [],[],_=>rfl
 | [],_::_,h=>by rw[sK] at h; cases h; all_goals simp
 | _::_,[],h=>by rw[sK] at h; cases h; all_goals simp
 | a::l,b::l',h=>by rw[TW,aY] at h; rw[aU,aU,TY h.2]
theorem a7':∀ x y:EX,dY x y=true->x=y:=by
 intro x;induction x using EX.ind with
 | h o v i l ih =>
  intro y;obtain ⟨o',v',i',l'⟩:=y;intro h;rw[OI,aY,aY,aY] at h;obtain ⟨h1,h2,h3,h4⟩:=h;have hl:∀ (l:List EX),(∀ e,e∈l->∀ y,dY e y=true->e=y)->∀ l',sK l l'=true->l=l':=by
   intro l;induction l with
   | nil=>intro _ l' h; cases l' with
    | nil=>rfl
    | cons b l'=>have:=TY h; cases this
   | cons a l ihl =>
    intro hi l' h;cases l' with
    | nil=>have:=TY h; cases this
    | cons b l' =>rw[TW,aY] at h;rw[hi a (by simp) b h.1,ihl (fun e he=>hi e (by simp[he])) l' h.2]
  rw[hl l ih l' h4,show o=o' by simpa using h1,show v=v' by simpa using h2,show i=i' by simpa using h3]
theorem Je:∀ x:EX,dY x x=true:=by
 intro x;induction x using EX.ind with
 | h o v i l ih =>
  have hl:∀ (l:List EX),(∀ e,e∈l->dY e e=true)->sK l l=true:=by
   intro l;induction l with
   | nil=>intro _; rw[sK]
   | cons a l ihl=>intro h; rw[TW,h a (by simp),ihl fun e he=>h e (by simp[he])]; rfl
  rw[OI,GG,GG,GG,hl l ih]; rfl
theorem drop_cons {α:Type} {l r:List α} {a:α} {k:Nat} (h:l.drop k=a::r):∃ hk:k<l.length,l[k]=a/\l.drop (k+1)=r:=by
 have hk:k<l.length:=by
  rcases je k l.length with h' | h'
  .exact h'
  .rw[zq h'] at h; cases h
 rw[yO hk] at h;injection h with h1 h2
 exact ⟨hk,h1,h2⟩
theorem a8C (la lb:List EX) (hn:la.length<9223372036854775807) (hl:la.length=lb.length) (ih:∀ e,e∈la->∀ y,SS.CC 23 [A1 (ev e),A1 (ev y)] []=some (.bool (dY e y),[])) :
 ∀ (a b:List EX) (k:Nat),la.drop k=a->lb.drop k=b->k<=la.length->UD (mJ lb) (mJ la) (k:Int)=some (.bool (sK a b),[])
 | [],b,k,ha,hb,hk=>by
  have h1:la.length<=k:=J3.1 ha;have h2:b = []:=by rw[<- hb]; exact zq (by omega)
  subst h2;rw[a9E,aT (by rw[xk]; omega),aC,sK]
 | a::ta,b,k,ha,hb,hk=>by
  obtain ⟨h1,h2,h3⟩:=drop_cons ha;have hkb:k<lb.length:=by omega
  rw[yO hkb] at hb;subst hb;rw[a9E,aN (by rw[xk]; omega),aG,BA h1,BA hkb,h2,bD (ih a (by rw[<- h2]; exact dD h1) _),TW];cases dY a lb[k] with
  | false=>rfl
  | true =>rw[uq,aC,wrap64 (by omega) (by omega),show ((k:Int)+1)=((k+1:Nat):Int) by omega,Bg];exact a8C la lb hn hl ih ta _ (k+1) h3 rfl (by omega)
theorem dW {x:EX} (h:x.Len):∀ y,SS.CC 23 [A1 (ev x),A1 (ev y)] []=some (.bool (dY x y),[]):=by
 induction h with
 | @mk o v i l hl _ _ _ _ ih =>
  intro y;obtain ⟨o',v',i',l'⟩:=y;rw[aWG,iw,iw,OI];try dsimp only
  cases o==o' with
  | false=>rfl
  | true =>
   cases v==v' with
   | false=>rfl
   | true =>
    cases i==i' with
    | false=>rfl
    | true =>
     rw[aG,aG,aG,Bg,Bg,Bg];have:SS.CC 106 [.sl false 4 (mJ l),.sl false 4 (mJ l'),.func (.func 23) [] []] []=some (.bool (sK l l'),[]):=by
      rw[aR1,xk,xk];by_cases hll:l.length=l'.length
      .rw[show ((l.length:Int) !=(l'.length:Int))=false by simp[hll],aC];exact a8C l l' (by omega) hll ih l l' 0 rfl rfl (uA _)
      .rw[show ((l.length:Int) !=(l'.length:Int))=true by simp; omega,aG];cases hq:sK l l' with
       | false=>rfl
       | true=>exact absurd (TY hq) hll
     rw[bD this]
def C9 (o:Int):Nat:=if o=0\/o=1 then 0 else if o=5\/o=10 then 1 else if o=13 then 3 else 2
inductive Fd (n:Int):EX->Prop
 | mk {o v i:Int} {l:List EX}:0<=o->o<=13->l.length=C9 o->(o≠0->v=0)->(o≠1->i=0)->(o=0 -> -65536<=v/\v<=65536)->(o=1->0<=i/\i<n)->(∀ e,e∈l->Fd n e)->Fd n (.node o v i l)
mutual
def lg:EX->Nat
 | .node _ _ _ l=>Ba l+1
def Ba:List EX->Nat
 | []=>0
 | e::l=>lg e+Ba l
end
mutual
def Jd:EX->Nat
 | .node _ _ _ l=>OD l+1
def OD:List EX->Nat
 | []=>0
 | e::l=>max (Jd e) (OD l)
end
theorem arc (o:Int):∃ a b,SS.CC 202 [.int .i64 o] []=some (.tuple [.int .i64 a,.bool b],[])/\(b=true->0<=o/\o<=13/\a=(C9 o:Int)):=by
 rw[aW2];by_cases h:0<=o/\o<=13
 .have:o=0\/o=1\/o=2\/o=3\/o=4\/o=5\/o=6\/o=7\/o=8\/o=9\/o=10\/o=11\/o=12\/o=13:=by omega
  rcases this with rfl | rfl | rfl | rfl | rfl | rfl | rfl | rfl | rfl | rfl | rfl | rfl | rfl | rfl<;>exact ⟨_,true,rfl,fun _=>⟨by decide,by decide,rfl⟩⟩
 .have f:∀ k:Int,0<=k/\k<=13->(o==k)=false:=fun k hk=>by simp; omega
  refine ⟨0,false,?_,fun h=>by cases h⟩;rw[f 0 (by decide),f 1 (by decide),f 5 (by decide),f 10 (by decide),f 2 (by decide),f 3 (by decide),f 4 (by decide),f 6 (by decide),f 7 (by decide),f 8 (by decide),f 9 (by decide),f 11 (by decide),f 12 (by decide),f 13 (by decide)];rfl
theorem lgc (v:Int) (h : -9223372036854775808<=v/\v<=9223372036854775807):∃ b,SS.CC 203 [.int .i64 v,.int .i64 65536] []=some (.bool b,[])/\(b=false -> -65536<=v/\v<=65536):=by
 rw[aAY];by_cases h1:(65536:Int)<v
 .rw[aN h1,aG]; exact ⟨true,rfl,fun h=>by cases h⟩
 .rw[aT h1,aC,wrap64 (by decide) (by decide)];refine ⟨_,rfl,fun h => ?_⟩;have:¬ v<0-65536:=by simpa using h
  omega
def NU (n:Int) (x:EX) (d c:Int) (r:R):Prop:=∃ e c',r=some (.int .i64 e,[eP (c',())])/\0<=c'/\c'<=64/\(e=0->Fd n x/\d+(Jd x:Int)<=9/\c'=c+(lg x:Int))
theorem a7T {m:Nat}:∀ {l:List EX},(∀ e,e∈l->Jd e<=m)->OD l<=m
 | [],_=>by rw[OD]; exact uA _
 | a::l,h=>by rw[OD]; exact Nat.max_le.2 ⟨h a (by simp),a7T fun e he=>h e (by simp[he])⟩
theorem a8N {n d:Int} (hd:d<=8) (hd0:0<=d) (all:List EX) (hn:all.length<=3) (ih:∀ e,e∈all->∀ d c,0<=d->d<=9->0<=c->c<=64->NU n e d c (SS.CC 109 [A1 (ev e),.int .i64 n,.int .i64 d,.ptr 0 0] [eP (c,())])) :
 ∀ (l:List EX) (k:Nat) (c:Int),all.drop k=l->k<=all.length->0<=c->c<=64->∃ e c',UF n d (mJ all) c (k:Int)=some (.int .i64 e,[eP (c',())])/\0<=c'/\c'<=64/\(e=0->(∀ e,e∈l->Fd n e/\d+1+(Jd e:Int)<=9)/\c'=c+(Ba l:Int))
 | [],k,c,ha,hk,h0,h1=>by have h2:all.length<=k:=J3.1 ha;rw[a9H,aT (by rw[xk]; omega),aC];exact ⟨0,c,rfl,h0,h1,fun _=>⟨fun _ h=>(by cases h),by simp[Ba]⟩⟩
 | a::l,k,c,ha,hk,h0,h1=>by
  obtain ⟨k1,k2,k3⟩:=drop_cons ha;rw[a9H,aN (by rw[xk]; omega),aG,BA k1,k2,wrap64 (by omega) (by omega)];obtain ⟨e,c',r1,r2,r3,r4⟩:=ih a (by rw[<- k2]; exact dD k1) (d+1) c (by omega) (by omega) h0 h1;rw[a5C r1];try dsimp only
  by_cases he:e=0
  .obtain ⟨f1,f2,f3⟩:=r4 he;rw[qZ he,aC,wrap64 (by omega) (by omega),show ((k:Int)+1)=((k+1:Nat):Int) by omega];obtain ⟨e2,c2,s1,s2,s3,s4⟩:=a8N hd hd0 all hn ih l (k+1) c' k3 (by omega) r2 r3;refine ⟨e2,c2,s1,s2,s3,fun h => ?_⟩;obtain ⟨t1,t3⟩:=s4 h;refine ⟨fun x hx => ?_,?_⟩
   .rcases fQ.1 hx with rfl | hx
    .exact ⟨f1,f2⟩
    .exact t1 x hx
   .rw[Ba,t3,f3]; omega
  .rw[ru he,aG];exact ⟨e,c',rfl,r2,r3,fun h=>absurd h he⟩
theorem aQ6 {n:Int} {x:EX} (hx:x.Len):∀ d c,0<=d->d<=9->0<=c->c<=64->NU n x d c (SS.CC 109 [A1 (ev x),.int .i64 n,.int .i64 d,.ptr 0 0] [eP (c,())]):=by
 induction hx with
 | @mk o v i l hl hv ho hi _ ih =>
  intro d c h0 h1 h2 h3;have bad:∀ (e c':Int),e≠0->0<=c'->c'<=64->NU n (.node o v i l) d c (some (.int .i64 e,[eP (c',())])):=fun e c' he k1 k2=>⟨e,c',rfl,k1,k2,fun h=>absurd h he⟩
  rw[aRA,iw];try dsimp only
  by_cases hc:c=64
  .rw[show (c==64)=true by simp[hc],aG]; exact bad 3 c (by decide) h2 h3
  rw[show (c==64)=false by simpa using hc,aC];by_cases hd:8<d
  .rw[aN hd,aG]; exact bad 3 c (by decide) h2 h3
  rw[aT hd,aC];obtain ⟨a,b,e1,e2⟩:=arc o;rw[aLH e1];try dsimp only
  have hw:i64.wrap (c+1)=c+1:=wrap64 (by omega) (by omega);rw[hw];have bad':∀ e:Int,e≠0->NU n (.node o v i l) d c (some (.int .i64 e,[eP (c+1,())])):=fun e he=>bad e _ he (by omega) (by omega)
  cases b with
  | false=>rw[zn,aG]; exact bad' 11 (by decide)
  | true =>
   obtain ⟨o1,o2,rfl⟩:=e2 rfl;rw[uq,aC,xk];by_cases hlen:l.length=C9 o
   .have hl3:l.length<=3:=by
     rw[hlen]; unfold C9;repeat' split
     all_goals omega
    rw[show ((l.length:Int) !=(C9 o:Int))=false by simp[hlen],aC];have good:(o≠0->v=0)->(o≠1->i=0)->(o=0 -> -65536<=v/\v<=65536)->(o=1->0<=i/\i<n)->NU n (.node o v i l) d c (qA n d (o,v,i,mJ l,()) (c+1)):=fun g1 g2 g3 g4=>by
     rw[aR7];obtain ⟨e,c',r1,r2,r3,r4⟩:=a8N (n:=n) (d:=d) (by omega) h0 l hl3 ih l 0 (c+1) rfl (uA _) (by omega) (by omega);refine ⟨e,c',r1,r2,r3,fun h => ?_⟩;obtain ⟨t1,t2⟩:=r4 h;refine ⟨.mk o1 o2 hlen g1 g2 g3 g4 fun e he=>(t1 e he).1,?_,?_⟩
     .rw[Jd];have:=a7T (m:=(8-d).toNat) (l:=l) fun e he=>by have:=(t1 e he).2; omega
      omega
     .rw[lg,t2]; omega
    obtain ⟨bl,q1,q2⟩:=lgc v hv;rw[bD q1];by_cases p0:o=0
    .subst p0;rw[show ((0:Int) != 0)=false from rfl,aC,show ((0:Int) != 1)=true from rfl,aG];by_cases p2:i=0
     .rw[qZ p2,aC,show ((0:Int)==0)=true from rfl,aG];cases bl with
      | true=>rw[aG]; exact bad' 2 (by decide)
      | false =>rw[aC,show ((0:Int)==1)=false from rfl,aC];exact good (fun h=>absurd rfl h) (fun _=>p2) (fun _=>q2 rfl) (fun h=>by cases h)
     .rw[ru p2,aG]; exact bad' 6 (by decide)
    .rw[ru p0,aG];by_cases p1:v=0
     .rw[qZ p1,aC];by_cases p3:o=1
      .subst p3;rw[show ((1:Int) != 1)=false from rfl,aC,show ((1:Int)==0)=false from rfl,aC,show ((1:Int)==1)=true from rfl,aG];by_cases p4:i<0
       .rw[aN p4,aG]; exact bad' 2 (by decide)
       .rw[aT p4,aC];by_cases p5:n<=i
        .rw[aN p5,aG]; exact bad' 2 (by decide)
        .rw[aT p5,aC];exact good (fun _=>p1) (fun h=>absurd rfl h) (fun h=>by cases h) (fun _=>⟨by omega,by omega⟩)
      .rw[show (o != 1)=true by simpa using p3,aG];by_cases p2:i=0
       .rw[qZ p2,aC,a6T p0,aC,show (o==1)=false by simpa using p3,aC];exact good (fun _=>p1) (fun _=>p2) (fun h=>absurd h p0) (fun h=>absurd h p3)
       .rw[ru p2,aG]; exact bad' 6 (by decide)
     .rw[ru p1,aG]; exact bad' 6 (by decide)
   .rw[show ((l.length:Int) !=(C9 o:Int))=true by simp; omega,aG];exact bad' 4 (by decide)
abbrev jF (l:List Int):List PV:=l.map fun k => .int .i64 k
theorem aEB (all:List Int) (hn:all.length<1000000000000) (a:Int):∀ (l:List Int) (k:Nat),all.drop k=l->∃ r,UX (jF all) a (k:Int)=some (.int .i64 r,[])
 | [],k,h=>by have h1:all.length<=k:=J3.1 h;rw[aBB,aT (by rw[bW]; omega),aC];exact ⟨_,rfl⟩
 | x::l,k,h=>by
  obtain ⟨h1,h2,h3⟩:=drop_cons h;rw[aBB,aN (by rw[bW]; omega),aG,jo (e := .int .i64 x) (by omega) (by rw[lm,gV,fJ h1,h2]; rfl),yI,bD (aW5 x a)];cases x != a with
  | true=>exact ⟨_,rfl⟩
  | false =>rw[aC,wrap64 (by omega) (by omega),show ((k:Int)+1)=((k+1:Nat):Int) by omega];exact aEB all hn a l (k+1) h3
theorem aM6 (ks:List Int) (hn:ks.length<1000000000000) (a:Int):∃ b,SS.CC 204 [.int .i64 a,.ptr 0 0] [iG (jF ks,())]=some (.bool b,[iG (jF ks,())]):=by
 obtain ⟨r,hr⟩:=aEB ks hn a ks 0 rfl;have h1:SS.CC 258 [.sl false 1 (jF ks),.func (.func 206) [] [.cst (.int .i64 a)]] []=some (.int .i64 r,[]):=(aXH _ _).trans hr;have h2:SS.CC 205 [.sl false 1 (jF ks),.func (.func 206) [] [.cst (.int .i64 a)]] []=some (.bool (decide (0<=r)),[]):=by rw[aW4,bV h1]
 exact ⟨_,by rw[aW3,bD h2]⟩
def Tot (r:R):Prop:=∃ k,r=some (.int .i64 k,[])
theorem rD {b:Bool} {x y:R} (hx:Tot x) (hy:Tot y):Tot (aA b x y):=by cases b<;>assumption
theorem Di (k:Int):Tot (some (.int .i64 k,[])):=⟨k,rfl⟩
theorem bDU {ks:List Int} (hn:ks.length<1000000000000) {a p q:Int}:Tot (wL 204 [.int .i64 a,.ptr 0 0] [iG (jF ks,())] fun b _=>aA b (some (.int .i64 p,[])) (some (.int .i64 q,[]))):=by obtain ⟨b,hb⟩:=aM6 ks hn a;rw[aLO hb];exact rD (Di _) (Di _)
theorem aEY {o v i:Int} {all:List EX} (hn:all.length<=3) (h13:o=13->all.length=3) (ho:0<=o/\o<=13) (ih:∀ e,e∈all->Tot (SS.CC 110 [A1 (ev e)] [])) :
 ∀ (l:List EX) (k:Nat) (ks:List Int),all.drop k=l->ks.length=k->k<=all.length->Tot (UG (o,v,i,mJ all,()) (k:Int) (jF ks))
 | [],k,ks,h,hk,hk2=>by
  have h1:all.length<=k:=J3.1 h;have hks:ks.length<1000000000000:=by omega
  rw[a9I];try dsimp only
  rw[aT (by rw[xk]; omega),aC];have al:=fun a p q=>bDU hks (a:=a) (p:=p) (q:=q)
  refine rD (Di _) (rD (Di _) (rD (al _ _ _) (rD (al _ _ _) (rD (al _ _ _) (rD (al _ _ _) (rD (al _ _ _) (rD (al _ _ _) (rD (al _ _ _) (rD (al _ _ _) (rD (al _ _ _) (rD (al _ _ _) (rD (al _ _ _) ?_))))))))))));by_cases h3:o=13
  .rw[show (o==13)=true by simp[h3],aG];have hl:=h13 h3;match ks,hk with
   | [a,b,c],_ =>rw[show jF [a,b,c] = [PV.int .i64 a,.int .i64 b,.int .i64 c] from rfl,jo (e := .int .i64 a) (by decide) rfl,yI];refine rD ?_ (Di _);rw[jo (e := .int .i64 b) (by decide) rfl,yI,jo (e := .int .i64 c) (by decide) rfl,yI];refine rD ?_ (Di _);exact Di _
   | [],hk=>simp at hk; omega
   | [_],hk=>simp at hk; omega
   | [_,_],hk=>simp at hk; omega
   | _::_::_::_::_,hk=>simp at hk; omega
  .rw[show (o==13)=false by simpa using h3,aC];exact Di _
 | a::l,k,ks,h,hk,hk2=>by
  obtain ⟨h1,h2,h3⟩:=drop_cons h;rw[a9I];try dsimp only
  rw[aN (by rw[xk]; omega),aG,BA h1,h2];obtain ⟨n,hn1⟩:=ih a (by rw[<- h2]; exact dD h1);rw[bV hn1];refine rD (Di _) ?_;rw[ah (aN (by rw[bW]; unfold aV; omega)),wrap64 (by omega) (by omega),show ((k:Int)+1)=((k+1:Nat):Int) by omega,show jF ks ++ ([.int .i64 n]:List PV)=jF (ks ++ [n]) by simp];exact aEY hn h13 ho ih l (k+1) (ks ++ [n]) h3 (by simp[hk]) (by omega)
theorem b53 {n:Int} {x:EX} (h:Fd n x):Tot (SS.CC 110 [A1 (ev x)] []):=by
 induction h with
 | @mk o v i l h1 h2 h3 _ _ _ _ _ ih =>
  rw[aRE,iw];have hl:l.length<=3:=by
   rw[h3]; unfold C9;repeat' split
   all_goals omega
  exact aEY hl (fun h=>by rw[h3,h]; rfl) ⟨h1,h2⟩ ih l 0 [] rfl rfl (uA _)
theorem a7L {x:EX} (hx:x.Len) {n:Int} (h0:0<=n) (h1:n<=16):∃ k e,SS.CC 27 [A1 (ev x),.int .i64 n] []=some (.tuple [.int .i64 k,.int .i64 e],[])/\(e=0->Fd n x/\Jd x<=8/\lg x<=64):=by
 rw[aBD,aT (by omega),aC,aT (by omega),aC];obtain ⟨e,c',r1,r2,r3,r4⟩:=aQ6 (n:=n) hx 1 0 (by decide) (by decide) (by decide) (by decide);rw[a5C r1];try dsimp only
 by_cases he:e=0
 .obtain ⟨f1,f2,f3⟩:=r4 he;rw[qZ he,aC];obtain ⟨k,hk⟩:=b53 f1;rw[bV hk];cases k==0 with
  | true=>exact ⟨_,_,rfl,fun h=>by cases h⟩
  | false=>exact ⟨_,_,rfl,fun _=>⟨f1,by omega,by omega⟩⟩
 .rw[ru he,aG];exact ⟨_,_,rfl,fun h=>absurd h he⟩
def zQ (k n:Nat):Bool:=isLet n||(decide (k≠0)&&fB n)
def xy:List UInt8->Nat->Bool
 | [],_=>true
 | b::l,k=>zQ k b.toNat&&xy l (k+1)
def nameB (l:List UInt8):Bool:=xy l 0&&(decide (0<l.length)&&decide (l.length<=32))
theorem b7M {k n:Nat} (h:((97<=n/\n<=122)\/(65<=n/\n<=90)\/n=95)\/(k≠0/\48<=n/\n<=57)):zQ k n=true:=by unfold zQ isLet fB;simp only[ut,aY,gu,kF];exact h
theorem b7L {k n:Nat} (h:¬ (((97<=n/\n<=122)\/(65<=n/\n<=90)\/n=95)\/(k≠0/\48<=n/\n<=57))):zQ k n=false:=by rw[Bool.eq_false_iff];intro c;unfold zQ isLet fB at c;simp only[ut,aY,gu,kF] at c;exact h c
theorem aH2 (all:List UInt8) (hn:all.length<=1000):∀ (l:List UInt8) (k:Nat),all.drop k=l->k<=all.length->uU (bs all) (k:Int)=some (.bool (xy l k&&(decide (0<all.length)&&decide (all.length<=32))),[])
 | [],k,h,hk=>by
  have h1:all.length<=k:=J3.1 h;rw[aBC,aT (by rw[jR]; omega),aC,xy,Bg,jR];by_cases h2:0<all.length
  .rw[aN (show (0:Int)<(all.length:Int) by omega),aG,aN h2,Bg,show decide ((all.length:Int)<=32)=decide (all.length<=32) from by
    by_cases h3:all.length<=32
    .rw[aN h3,aN (by omega)]
    .rw[aT h3,aT (by omega)]]
  .rw[aT (show ¬ (0:Int)<(all.length:Int) by omega),aC,aT h2]; rfl
 | b::l,k,h,hk=>by
  obtain ⟨h1,h2,h3⟩:=drop_cons h;have ih:uU (bs all) (i64.wrap ((k:Int)+1))=some (.bool (xy l (k+1)&&(decide (0<all.length)&&decide (all.length<=32))),[]):=by rw[wrap64 (by omega) (by omega),show ((k:Int)+1)=((k+1:Nat):Int) by omega];exact aH2 all hn l (k+1) h3 (by omega)
  rw[aBC,aN (by rw[jR]; omega),aG,AY (b:=b) (by omega) (by rw[lm,EG,fJ h1,h2]),ih,xy];generalize b.toNat=n;have hf:zQ k n=false->(some (PV.bool false,[]):R)=some (.bool (zQ k n&&xy l (k+1)&&(decide (0<all.length)&&decide (all.length<=32))),[]):=fun h=>by rw[h]; rfl
  have ht:zQ k n=true->(some (PV.bool (xy l (k+1)&&(decide (0<all.length)&&decide (all.length<=32))),[]):R)=some (.bool (zQ k n&&xy l (k+1)&&(decide (0<all.length)&&decide (all.length<=32))),[]):=fun h=>by rw[h,Bg]
  simp only[JW,gu,kF,tX,rU];repeat' split
  all_goals first
   | exact ht (b7M (by omega))
   | exact hf (b7L (by omega))
theorem ww (l:List UInt8) (hn:l.length<=1000):SS.CC 26 [.str (bs l)] []=some (.bool (nameB l),[]):=by rw[aXM]; exact aH2 l hn l 0 rfl (uA _)
theorem bAX (l:List UInt8):SS.CC 112 [.str (bs l)] []=some (.bool (l==Bc||l==EO),[]):=by rw[aRF,EH,tlT,tlF];cases l==Bc<;>rfl
abbrev y5 (l:List (List UInt8)):List ByteArray:=l.map bs
theorem a0K {l:List (List UInt8)} {k:Nat} (hk:k<l.length):(uZ (y5 l))[(k:Int).toNat]? = some (.str (bs l[k])):=by unfold uZ y5;rw[lm,gV,gV,fJ hk]; rfl
theorem b77 (l:List (List UInt8)):(uZ (y5 l)).length=l.length:=by unfold uZ y5; rw[bW,bW]
theorem GM {g:FuncId} {a:List PV} {l1:List PV} {K:RS.F (.tl false 5) R} (e:SS.CC g a []=some (.sl false 5 l1,[])):NW g a K=K l1:=vK e rfl
theorem aLI {g:FuncId} {a:List PV} {l1:List PV} {K:RS.F (.tl true 5) R} (e:SS.CC g a []=some (.sl true 5 l1,[])):G49 g a K=K l1:=vK e rfl
theorem aLR {g:FuncId} {a:List PV} {h:aF} {n:Nat} {l:List PV} {K:RS.F (.o (.H 0 0 5)) (jU [.a])} (e:SS.CC g a h=some (.slh 0 0 n 5,[some l])):H50 g a h K=K (n,()) l:=nY e rfl
def oJ (ts:List Tok):List Tok:=ts.filter fun t=>t.kind != 4
def AZ (t:Tok):List PV := [.int .i64 t.kind,.str (bs t.text),.int .i64 t.value,.int .i64 t.line,.int .i64 t.sH]
def jB (us:List Tok):List PV:=us.flatMap AZ
theorem EP (t:Tok) (us:List Tok):jB (t::us)=AZ t ++ jB us:=rfl
theorem a8Y:∀ (us:List Tok),dG (us.map aZ)=jB us
 | []=>rfl
 | t::us=>by rw[o8,EP,<- a8Y us]; rfl
theorem OQ:∀ (us:List Tok),(jB us).length=us.length*5
 | []=>rfl
 | t::us=>by rw[EP,aK,OQ us,aU,Bq]; show 5+_=_; omega
theorem a8Z (a b:List Tok):jB (a ++ b)=jB a ++ jB b:=List.flatMap_append
theorem U3:∀ (us:List Tok) (j:Nat),(jB us).drop (j*5)=jB (us.drop j)
 | [],j=>by simp[jB]
 | t::us,0=>rfl
 | t::us,j+1=>by rw[EP,show (j+1)*5=5+j*5 by omega,List.drop_succ_cons,<- U3 us j];exact List.drop_length_add_append (l₁:=AZ t) (l₂:=jB us) (j*5)
theorem YQ:∀ (us:List Tok) (j:Nat),(jB us).take (j*5)=jB (us.take j)
 | [],j=>by simp[jB]
 | t::us,0=>by simp[jB]
 | t::us,j+1=>by rw[EP,show (j+1)*5=5+j*5 by omega,RX,EP,<- YQ us j];exact List.take_length_add_append (l₁:=AZ t) (l₂:=jB us) (j*5)
theorem a95 {us:List Tok} {j:Nat} {t:Tok} (h:us[j]? = some t):((jB us).drop (j*5)).take 5=AZ t:=by
 have hlt:=(dQ.1 h).1;rw[U3,yO hlt,EP];rw[fJ hlt] at h; injection h with h
 rw[h]; rfl
theorem aQL {us:List Tok} {i:Nat} (h:i<us.length) (t:Tok):(jB us).take (i*5) ++ AZ t ++ (jB us).drop (i*5+5)=jB (us.set i t):=by rw[show i*5+5=(i+1)*5 by omega,YQ,U3,List.set_eq_take_append_cons_drop,aH h,a8Z,EP,kN]
theorem aQK (us:List Tok):(jB us).all qJ=true:=by rw[fH];intro p hp;obtain ⟨t,_,ht⟩:=List.mem_flatMap.1 hp;simp only[AZ,fQ,tZ,uC] at ht;rcases ht with rfl | rfl | rfl | rfl | rfl<;>rfl
theorem a94 (us:List Tok):((jB us).all fun p=>p.one&&p.flat)=true:=by rw[fH];intro p hp;obtain ⟨t,_,ht⟩:=List.mem_flatMap.1 hp;simp only[AZ,fQ,tZ,uC] at ht;rcases ht with rfl | rfl | rfl | rfl | rfl<;>rfl
theorem bDS (us:List Tok):(us.map aZ).all (vY 5)=true:=by rw[fH];intro p hp;obtain ⟨t,_,rfl⟩:=kP.1 hp;rfl
theorem a90 {us:List Tok} {k:Nat} (h:k<=us.length):kT 5 (jB us) k=(us.take k).map aZ:=by
 show (List.range k).map (fun j=>PV.agg ((((jB us).drop (j*5)).take 5).map PV.un))=_;apply J4;intro j;by_cases hj:j<k
 .have h1:us[j]? = some us[j]:=fJ (by omega);rw[gV,List.getElem?_range hj,gV,gY,aH hj,h1,o9,o9,a95 h1];rfl
 .rw[rO (by rw[bW,List.length_range]; omega),rO (by rw[bW,kz]; omega)]
theorem bFL (m:Nat):((List.replicate m (([.int .i64 0,.str ⟨#[]⟩,.int .i64 0,.int .i64 0,.int .i64 0]:List PV):List PV)).flatten.map PV.un)=jB (List.replicate m Tok.zero):=by
 induction m with
 | zero=>rfl
 | succ m ih=>rw[RV,RV,a4R,tY,ih,EP]; rfl
theorem Gq (us:List Tok):(jB us).all nZ=true:=a94 us
theorem bT {k:Nat} (h:k<1000000000000):i64.wrap ((k:Int)+1)=((k+1:Nat):Int):=by rw[wrap64 (by omega) (by omega)]; omega
theorem OH {a b:Int} (h:a=b):(a==b)=true:=by simp[h]
theorem OG {a b:Int} (h:a≠b):(a==b)=false:=by simp[h]
theorem Po {ts:List Tok} {k:Nat} (hk:k<ts.length) (K:Sh.V jl->R):bG jl (ts.map aZ) (k:Int) K=K (tk ts[k]):=by show dH (ts.map aZ) (k:Int) _=_;rw[jo (e:=aZ ts[k]) (by omega) (by rw[lm,gV,fJ hk]; rfl)];rfl
theorem gvT (t:Tok) (K:Sh.V jl->R):Eb jl (.agg ((AZ t).map PV.un)) K=K (tk t):=rfl
theorem m65 (t:Tok):SS.CC 246 [jf (tk t)] []=some (.bool (t.kind==4),[]):=aWT _
theorem b6A (ts:List Tok) (hl:ts.length<=1000000):∀ (m k:Nat),k+m=ts.length->(∀ t,t∈ts.take k->t.kind≠4) ->
 (Ov (ts.map aZ) (k:Int)=some (.int .i64 (-1),[])/\∀ t,t∈ts->t.kind≠4)\/∃ (p:Nat) (t:Tok),Ov (ts.map aZ) (k:Int)=some (.int .i64 (p:Int),[])/\ts[p]? = some t/\t.kind=4/\∀ t,t∈ts.take p->t.kind≠4:=by
 intro m;induction m with
 | zero =>intro k hk h;left;rw[tq (by omega)] at h;exact ⟨by rw[aBF,aT (by rw[bW]; omega),aC],h⟩
 | succ m ih =>
  intro k hk h;have h1:ts[k]? = some ts[k]:=fJ (by omega);rw[aBF,aN (by rw[bW]; omega),aG,Po (by omega),bD (m65 _),bT (by omega)];by_cases h4:ts[k].kind=4
  .right;rw[OH h4,aG];exact ⟨k,ts[k],rfl,h1,h4,h⟩
  .rw[OG h4,aC];refine ih (k+1) (by omega) fun t ht => ?_
   rw[J7 (by omega)] at ht;rcases rP.1 ht with ht | ht
   .exact h t ht
   .simp only[Bj] at ht; subst ht; exact h4
theorem m82 (ts:List Tok) (hl:ts.length<=1000000):(SS.CC 299 [.sl false 5 (ts.map aZ),.func (.func 246) [] []] []=some (.int .i64 (-1),[])/\∀ t,t∈ts->t.kind≠4)\/∃ (p:Nat) (t:Tok),SS.CC 299 [.sl false 5 (ts.map aZ),.func (.func 246) [] []] []=some (.int .i64 (p:Int),[])/\ts[p]? = some t/\t.kind=4/\∀ t,t∈ts.take p->t.kind≠4:=by rw[aXV];exact b6A ts hl ts.length 0 (by omega) (by simp)
theorem GR {ts:List Tok} (h:∀ t,t∈ts->t.kind≠4):oJ ts=ts:=List.filter_eq_self.2 fun t ht=>by simp[bne_iff_ne,h t ht]
theorem Xp (a b:List Tok):oJ (a ++ b)=oJ a ++ oJ b:=List.filter_append ..
theorem Sl {t:Tok} (h:t.kind=4) (l:List Tok):oJ (t::l)=oJ l:=List.filter_cons_of_neg (by simp[h])
theorem aMP {t:Tok} (h:t.kind≠4) (l:List Tok):oJ (t::l)=t::oJ l:=List.filter_cons_of_pos (by simp[bne_iff_ne,h])
theorem b68 (ts:List Tok) (hl:ts.length<=1000000) (h0:0<ts.length):∀ (m i j:Nat) (us:List Tok),j+m=ts.length->i<=j->us.length=ts.length->us.drop j=ts.drop j ->
 ∃ k qN,Oo ts.length (i:Int) (jB us) (j:Int)=some (.slh 0 0 k 5,[some (jB qN)])/\qN.length=ts.length/\k<=ts.length/\qN.take k=us.take i ++ oJ (ts.drop j):=by
 intro m;induction m with
 | zero =>
  intro i j us hj hij Ec hd;have hjn:j=ts.length:=by omega
  subst hjn;rw[aB0];simp only[Gq,wF,lm,jW,OQ];rw[ah rfl,aT (by omega),aC,ah rfl,ah (by simp<;>omega)];rw[zq (bQ _)];by_cases hi:i<ts.length
  .have e1:(jB us).take (i*5) ++ (List.replicate (ts.length-i) [PV.int .i64 0,.str ⟨#[]⟩,.int .i64 0,.int .i64 0,.int .i64 0]).flatten.map PV.un ++ (jB us).drop (i*5+(ts.length-i)*5)=jB (us.take i ++ List.replicate (ts.length-i) Tok.zero):=by rw[bFL,YQ,show i*5+(ts.length-i)*5=ts.length*5 by omega,<- Ec,U3,zq (bQ _),a8Z];simp[jB]
   rw[aN (by omega),aG,e1,ah (aN (by rw[Ec]; omega)),ah (by simp<;>omega),Gq,ah (b:=true&&true) rfl];have hti:(us.take i).length=i:=by rw[kz]; omega
   refine ⟨i,_,rfl,by rw[aK,hti,List.length_replicate]; omega,by omega,?_⟩;rw[List.take_append_of_le_length (by omega),tq (by omega)];simp[oJ]
  .rw[aT (by omega),aC,ah (by simp<;>omega),ah rfl];exact ⟨i,us,rfl,Ec,by omega,by simp[oJ]⟩
 | succ m ih =>
  intro i j us hj hij Ec hd;have hjl:j<ts.length:=by omega
  have h1:ts[j]? = some ts[j]:=fJ hjl;have h2:us[j]? = some ts[j]:=by
   have:=congrArg (fun l=>l[0]?) hd;have e:us[j]? = ts[j]? := by simpa using this
   rw[e,h1]
  have hd1:us.drop (j+1)=ts.drop (j+1):=by have:=congrArg (fun l=>l.drop 1) hd;simpa using this
  rw[yO hjl];rw[aB0];simp only[Gq,wF,lm,jW,OQ,a95 h2];rw[ah rfl,aN (by omega),aG,ah rfl,ah (by simp<;>omega),ah (aN (by rw[Ec]; omega)),gvT,bD (m65 _)];by_cases h4:ts[j].kind=4
  .rw[OH h4,uq,aC,ah rfl,bT (by omega)];obtain ⟨k,qN,q1,q2,q3,q4⟩:=ih i (j+1) us (by omega) (by omega) Ec hd1;refine ⟨k,qN,q1,q2,q3,?_⟩;rw[q4,Sl h4]
  .have hil:i<us.length:=by omega
   have e1:=aQL hil ts[j];rw[OG h4,zn,aG,ah (by simp<;>omega),ah (aN (by rw[Ec]; omega)),show [PV.int .i64 ts[j].kind,.str (bs ts[j].text),.int .i64 ts[j].value,.int .i64 ts[j].line,.int .i64 ts[j].sH]=AZ ts[j] from rfl,e1,Gq,ah (b:=true&&true) rfl,
    bT (k:=i) (by omega),bT (k:=j) (by omega)]
   obtain ⟨k,qN,q1,q2,q3,q4⟩:=ih (i+1) (j+1) (us.set i ts[j]) (by omega) (by omega) (by rw[Bh]; exact Ec) (by rw[List.drop_set_of_lt (by omega)]; exact hd1);refine ⟨k,qN,q1,q2,q3,?_⟩;rw[q4,J7 (by rw[Bh]; exact hil),List.getElem_set_self,List.take_set_of_le (bQ _)];rw[aMP h4,kN]; rfl
theorem m63 (ts:List Tok) (hl:ts.length<=1000000) (h0:0<ts.length):∃ k qN,SS.CC 244 [.slh 0 0 ts.length 5,.func (.func 246) [] []] [some (jB ts)]=some (.slh 0 0 k 5,[some (jB qN)])/\qN.length=ts.length/\k<=ts.length/\qN.take k=oJ ts:=by
 rw[aWR];simp only[aQK,Gq,OQ];rw[ah (by simp),a90 (bQ _),tq (bQ _)];rcases m82 ts hl with ⟨e,h⟩ | ⟨p,t,e,h1,h2,h3⟩
 .rw[bV e,OH rfl,aG,ah (b:=true&&true) rfl];exact ⟨ts.length,ts,rfl,rfl,bQ _,by rw[tq (bQ _),GR h]⟩
 .have hp:=(dQ.1 h1).1;rw[bV e,OG (by omega),aC,ah (b:=true&&true) rfl,bT (by omega)];obtain ⟨k,qN,q1,q2,q3,q4⟩:=b68 ts hl h0 (ts.length-(p+1)) p (p+1) ts (by omega) (by omega) rfl rfl;refine ⟨k,qN,q1,q2,q3,?_⟩;rw[q4];have hsplit:ts=ts.take p ++ t::ts.drop (p+1):=by
   conv=>lhs; rw[<- J6 p ts,yO hp]
   rw[fJ hp] at h1; injection h1 with h1; rw[h1]
  conv=>rhs; rw[hsplit,Xp,GR h3,Sl h2]
theorem b69:SS.CC 244 [.sl false 5 [],.func (.func 246) [] []] []=some (.sl false 5 [],[]):=a4Y dO 60 (by kernel_rfl)
theorem m64 (ts:List Tok) (hl:ts.length<=1000000):SS.CC 245 [.sl false 5 (ts.map aZ)] []=some (.sl true 5 (ts.map aZ),[]):=by
 rw[aWS];refine a0I ?_ fun h => ?_
 .rw[show (false==true)=false from rfl,aC,ah (aN (by rw[bW]; unfold aV; omega))]
 .rw[h]; rfl
theorem m32 (ts:List Tok) (hl:ts.length<=1000000):SS.CC 175 [.sl false 5 (ts.map aZ)] []=some (.sl false 5 ((oJ ts).map aZ),[]):=by
 rw[aUU,aLI (m64 ts hl),bW];by_cases h0:0<ts.length
 .obtain ⟨k,qN,q1,q2,q3,q4⟩:=m63 ts hl h0;rw[aN h0,aG,ah (bDS ts),a8Y,Gq,ah (b:=true&&true) rfl,aLR q1,Gq,ah (b:=true&&true) rfl,a94,OQ,ah (by rw[aN (by omega)]; rfl),a90 (by omega),q4]
 .have:ts = []:=iU (by omega);subst this;rw[aT h0,aC,GM b69]; rfl
abbrev tW (s:List UInt8):Tok:=⟨1,s,0,0,0⟩
abbrev tS (s:List UInt8):Tok:=⟨3,s,0,0,0⟩
abbrev tN (n:Nat):Tok:=⟨2,Lib.decDigits n,n,0,0⟩
def eG (v:Int):List Tok:=if v<0 then [tS [45],tN (-v).toNat] else [tN v.toNat]
def nO (x:EX):Int:=if dY x tE=true then 7 else if dY x fE=true then 7 else match x with
 | .node o v _ _=>if o=0 then (if v<0 then 6 else 7) else if o=1 then 7 else if o=2 then 4 else if o=3 then 4 else if o=4 then 5 else if o=5 then 6 else if o=6 then 3 else if o=7 then 3 else if o=8 then 3 else if o=9 then 3 else if o=10 then 6 else if o=11 then 2 else if o=12 then 1 else 0
def wp (x:EX) (need:Int) (B:List Tok):List Tok:=if nO x<need then tS [40]::(B ++ [tS [41]]) else B
inductive PB (ns:List (List UInt8)):EX->List Tok->Prop
 | tt:PB ns tE [tW Bc]
 | ff:PB ns fE [tW EO]
 | num {v:Int} : -65536<=v->v<=65536->PB ns (nE v) (eG v)
 | var {i:Nat} {s:List UInt8}:ns[i]? = some s->PB ns (vE (i:Int)) [tW s]
 | Vh {v:Int}:0<=v->v<=65536->PB ns (nE v) (eG v)->PB ns (uk 5 (nE v)) (tS [45]::tS [40]::(eG v ++ [tS [41]]))
 | neg {o v i:Int} {l:List EX} {B:List Tok}:(o≠0\/v<0)->PB ns (.node o v i l) B->PB ns (uk 5 (.node o v i l)) (tS [45]::wp (.node o v i l) 6 B)
 | Vl {a:EX} {B:List Tok}:PB ns a B->PB ns (uk 10 a) (tS [33]::wp a 6 B)
 | cmp {o:Int} {a b:EX} {A B:List Tok}:(o=6\/o=7\/o=8\/o=9)->dY (rZ o a b) tE=false->dY (rZ o a b) fE=false->PB ns a A->PB ns b B->PB ns (rZ o a b) (wp a 4 A ++ tS (xK o)::wp b 4 B)
 | bin {o lv:Int} {a b:EX} {A B:List Tok}:(o=2/\lv=4\/o=3/\lv=4\/o=4/\lv=5\/o=11/\lv=2\/o=12/\lv=1)->PB ns a A->PB ns b B->PB ns (rZ o a b) (wp a lv A ++ tS (xK o)::wp b (lv+1) B)
 | ite {c a b:EX} {C A B:List Tok}:PB ns c C->PB ns a A->PB ns b B->PB ns (.node 13 0 0 [c,a,b]) (wp c 1 C ++ tS [63]::(wp a 0 A ++ tS [58]::wp b 0 B))
theorem Dn (x:EX) (need:Int) (B:List Tok):(wp x need B).length<=B.length+2:=by unfold wp; split<;>simp
theorem aHC {l:List EX} (h:l.length=1):∃ a,l = [a]:=by
 match l,h with
 | [a],_=>exact ⟨a,rfl⟩
theorem aKU {l:List EX} (h:l.length=2):∃ a b,l = [a,b]:=by
 match l,h with
 | [a,b],_=>exact ⟨a,b,rfl⟩
theorem bDL {l:List EX} (h:l.length=3):∃ a b c,l = [a,b,c]:=by
 match l,h with
 | [a,b,c],_=>exact ⟨a,b,c,rfl⟩
theorem IC {l:List EX} (h:l.length=0):l = []:=iU h
theorem b9S (ns:List (List UInt8)) {x:EX} (h:Fd (ns.length:Int) x):∃ B,PB ns x B/\B.length<=8*lg x:=by
 induction h with
 | @mk o v i l h1 h2 h3 h4 h5 h6 h7 _ ih =>
  have hop:o=0\/o=1\/o=2\/o=3\/o=4\/o=5\/o=6\/o=7\/o=8\/o=9\/o=10\/o=11\/o=12\/o=13:=by omega
  by_cases ht:dY (.node o v i l) tE=true
  .rw[a7' _ _ ht]; exact ⟨_,.tt,by decide⟩
  by_cases hf:dY (.node o v i l) fE=true
  .rw[a7' _ _ hf]; exact ⟨_,.ff,by decide⟩
  have sz1:∀ a:EX,lg (.node o v i [a])=lg a+1:=fun a=>by simp[lg,Ba]
  have WZ:∀ a b:EX,lg (.node o v i [a,b])=lg a+lg b+1:=fun a b=>by simp[lg,Ba]
  have bi:∀ lv:Int,(o=2/\lv=4\/o=3/\lv=4\/o=4/\lv=5\/o=11/\lv=2\/o=12/\lv=1)->∃ B,PB ns (.node o v i l) B/\B.length<=8*lg (.node o v i l):=fun lv hlv=>by obtain ⟨a,b,rfl⟩:=aKU (show l.length=2 by rw[h3]; unfold C9; rw[aI (by omega),aI (by omega),aI (by omega)]);obtain rfl:=h4 (by omega);obtain rfl:=h5 (by omega);obtain ⟨A,a1,a2⟩:=ih a (by simp);obtain ⟨B,b1,b2⟩:=ih b (by simp);have w1:=Dn a lv A;have w2:=Dn b (lv+1) B;exact ⟨_,.bin hlv a1 b1,by rw[WZ,aK,aU]; omega⟩
  have cm:(o=6\/o=7\/o=8\/o=9)->∃ B,PB ns (.node o v i l) B/\B.length<=8*lg (.node o v i l):=fun ho=>by obtain ⟨a,b,rfl⟩:=aKU (show l.length=2 by rw[h3]; unfold C9; rw[aI (by omega),aI (by omega),aI (by omega)]);obtain rfl:=h4 (by omega);obtain rfl:=h5 (by omega);obtain ⟨A,a1,a2⟩:=ih a (by simp);obtain ⟨B,b1,b2⟩:=ih b (by simp);have w1:=Dn a 4 A;have w2:=Dn b 4 B;exact ⟨_,.cmp ho (by simpa using ht) (by simpa using hf) a1 b1,by rw[WZ,aK,aU]; omega⟩
  rcases hop with rfl | rfl | rfl | rfl | rfl | rfl | rfl | rfl | rfl | rfl | rfl | rfl | rfl | rfl
  .obtain rfl:=IC (show l.length=0 from h3);obtain rfl:=h5 (by decide);obtain ⟨v1,v2⟩:=h6 rfl;refine ⟨_,.num v1 v2,?_⟩;unfold eG; split<;>simp[lg,Ba]
  .obtain rfl:=IC (show l.length=0 from h3);obtain rfl:=h4 (by decide);obtain ⟨i1,i2⟩:=h7 rfl;have hi:i.toNat<ns.length:=by omega
   have hv:(EX.node 1 0 i [])=vE (i.toNat:Int):=by rw[Iz i1]; rfl
   rw[hv];exact ⟨_,.var (fJ hi),by simp[lg,Ba,vE]⟩
  .exact bi 4 (by simp)
  .exact bi 4 (by simp)
  .exact bi 5 (by simp)
  .obtain ⟨a,rfl⟩:=aHC (show l.length=1 from h3);obtain rfl:=h4 (by decide);obtain rfl:=h5 (by decide);obtain ⟨A,a1,a2⟩:=ih a (by simp);obtain ⟨ao,av,ai,al⟩:=a;by_cases hc:ao≠0\/av<0
   .have w1:=Dn (.node ao av ai al) 6 A;exact ⟨_,.neg hc a1,by rw[sz1,aU]; omega⟩
   .have h0:ao=0:=by omega
    subst h0;cases a1 with
    | num v1 v2 =>refine ⟨_,.Vh (by omega) v2 (.num v1 v2),?_⟩;rw[sz1,aU,aU,aK,oh];omega
    | cmp ho=>omega
    | bin ho=>omega
  .exact cm (by simp)
  .exact cm (by simp)
  .exact cm (by simp)
  .exact cm (by simp)
  .obtain ⟨a,rfl⟩:=aHC (show l.length=1 from h3);obtain rfl:=h4 (by decide);obtain rfl:=h5 (by decide);obtain ⟨A,a1,a2⟩:=ih a (by simp);have w1:=Dn a 6 A;exact ⟨_,.Vl a1,by rw[sz1,aU]; omega⟩
  .exact bi 2 (by simp)
  .exact bi 1 (by simp)
  .obtain ⟨c,a,b,rfl⟩:=bDL (show l.length=3 from h3);obtain rfl:=h4 (by decide);obtain rfl:=h5 (by decide);obtain ⟨C,c1,c2⟩:=ih c (by simp);obtain ⟨A,a1,a2⟩:=ih a (by simp);obtain ⟨B,b1,b2⟩:=ih b (by simp);have w0:=Dn c 1 C;have w1:=Dn a 0 A;have w2:=Dn b 0 B;refine ⟨_,.ite c1 a1 b1,?_⟩;rw[show lg (.node 13 0 0 [c,a,b])=lg c+lg a+lg b+1 by simp[lg,Ba]; omega,aK,aU,aK,aU];omega
theorem zJ {x:EX} (hx:x.Len):∀ {o v i:Int} {l:List EX},x = .node o v i l->0<=o->o<=13->SS.CC 207 [A1 (ev x)] []=some (.int .i64 (nO x),[])/\SS.CC 115 [A1 (ev x)] []=some (.int .i64 (nO x),[]):=by
 intro o v i l e h1 h2;have hop:o=0\/o=1\/o=2\/o=3\/o=4\/o=5\/o=6\/o=7\/o=8\/o=9\/o=10\/o=11\/o=12\/o=13:=by omega
 rw[aW6,aRM,dS c116,dS c116,bD (dW hx tE),bD (dW hx tE)];unfold nO;cases ct:dY x tE with
 | true=>exact ⟨rfl,rfl⟩
 | false =>
  rw[aC,aC,dS c117,dS c117,bD (dW hx fE),bD (dW hx fE)];cases cf:dY x fE with
  | true=>exact ⟨rfl,rfl⟩
  | false =>
   subst e;rw[aC,aC,iw,aI (by decide),aI (by decide)];try dsimp only
   rcases hop with rfl | rfl | rfl | rfl | rfl | rfl | rfl | rfl | rfl | rfl | rfl | rfl | rfl | rfl
   .by_cases hv:v<0
    .rw[aN hv,aH hv]; exact ⟨rfl,rfl⟩
    .rw[aT hv,aI hv]; exact ⟨rfl,rfl⟩
   all_goals exact ⟨rfl,rfl⟩
theorem JC {g:FuncId} {args:List PV} {h:aF} {v:PV×aF} (e:CS g args h=some v):SS.CC g args h=some v:=by rw[JD dO];show D7 (CS g args h) _=_;rw[e]; rfl
section
variable {A B:RA} {x:EX} {d:Int} {v:List PV}
end
abbrev dJ (l:List Tok):Sh.V fU:=(l.map aZ,())
theorem jE (s:ByteArray) (acc:List Tok) (h:acc.length+1<=1000000):SS.CC 166 [.ptr 0 0,.sl false 1 [.str s]] [aB (dJ acc)]=some (.tuple [],[aB (dJ (acc ++ [tS s.data.toList]))]):=by rw[aA4,Oh,aN (by simp),aG,jo (e := .str s) (by decide) rfl,iO,ah (aN (by rw[bW]; unfold aV; omega)),wrap64 (by decide) (by decide),Oh,aT (by simp),aC];show _=some (PV.tuple [],[aB ((acc ++ [tS s.data.toList]).map aZ,())]);rw[tY,show [tS s.data.toList].map aZ = [jf (3,bs s.data.toList,0,0,0,())] from rfl,oK]
theorem sy2 (s r:ByteArray) (acc:List Tok) (h:acc.length+2<=1000000):SS.CC 166 [.ptr 0 0,.sl false 1 [.str s,.str r]] [aB (dJ acc)]=some (.tuple [],[aB (dJ (acc ++ [tS s.data.toList,tS r.data.toList]))]):=by
 rw[aA4,Oh,aN (by simp),aG,jo (e := .str s) (by decide) rfl,iO,ah (aN (by rw[bW]; unfold aV; omega)),wrap64 (by decide) (by decide),
  Oh,aN (by simp),aG,jo (e := .str r) (by decide) rfl,iO,ah (aN (by rw[aK,bW]; unfold aV; simp; omega)),wrap64 (by decide) (by decide),Oh,aT (by simp),aC]
 show _=some (PV.tuple [],[aB ((acc ++ [tS s.data.toList,tS r.data.toList]).map aZ,())]);rw[tY,show [tS s.data.toList,tS r.data.toList].map aZ = [jf (3,bs s.data.toList,0,0,0,()),jf (3,bs r.data.toList,0,0,0,())] from rfl,oK,oK,kN];rfl
theorem ul (s:ByteArray) (acc:List Tok) (h:acc.length+1<=1000000):SS.CC 165 [.ptr 0 0,.sl false 1 [.str s]] [aB (dJ acc)]=some (.tuple [],[aB (dJ (acc ++ [tW s.data.toList]))]):=by rw[YY,UJ,aN (by simp),aG,jo (e := .str s) (by decide) rfl,iO,ah (aN (by rw[bW]; unfold aV; omega)),wrap64 (by decide) (by decide),UJ,aT (by simp),aC];show _=some (PV.tuple [],[aB ((acc ++ [tW s.data.toList]).map aZ,())]);rw[tY,show [tW s.data.toList].map aZ = [jf (1,bs s.data.toList,0,0,0,())] from rfl,oK]
theorem b3K (m:Int):CS 35 [.int .i64 m] []=(match decide (0<=m)&&decide (m<NZ) with | true=>some (PV.str ⟨(Lib.decDigits m.toNat).toArray⟩,([]:aF)) | false=>none):=rfl
theorem VD (n:Nat) (h:n<=65536):SS.CC 35 [.int .i64 (n:Int)] []=some (.str (bs (Lib.decDigits n)),[]):=by refine JC ?_;rw[b3K,aN (by omega),aN (by unfold NZ; omega),lm];rfl
theorem aH6 (n:Nat) (h:n<=65536) (acc:List Tok) (h2:acc.length+1<=1000000):Jr (acc.map aZ) (n:Int)=some (.tuple [],[aB (dJ (acc ++ [tN n]))]):=by rw[aT8,ou (VD n h),ah (aN (by rw[bW]; unfold aV; omega))];show _=some (PV.tuple [],[aB ((acc ++ [tN n]).map aZ,())]);rw[tY];rfl
theorem F9 {v:Int} (h0 : -65536<=v) (h1:v<=65536) (acc:List Tok) (h:acc.length+(eG v).length<=1000000):SS.CC 167 [.ptr 0 0,.int .i64 v] [aB (dJ acc)]=some (.tuple [],[aB (dJ (acc ++ eG v))]):=by
 rw[aTA];unfold eG at h ⊢;by_cases hv:v<0
 .rw[aH hv] at h ⊢;have h:acc.length+2<=1000000:=h;rw[aN hv,aG,bJ (jE ⟨#[45]⟩ acc (by omega))];show Jr ((acc ++ [tS [45]]).map aZ) (i64.wrap (0-v))=_;rw[show i64.wrap (0-v)=((-v).toNat:Int) by rw[wrap64 (by omega) (by omega)]; omega,aH6 _ (by omega) _ (by rw[aK,oh]; omega),kN];rfl
 .rw[aI hv] at h ⊢;have h:acc.length+1<=1000000:=h;rw[aT hv,aC];show Jr (acc.map aZ) v=_;rw[show v=(v.toNat:Int) by omega,aH6 _ (by omega) _ (by omega)];rfl
abbrev NS (ns:List (List UInt8)):List PV:=uZ (y5 ns)
def WR (ns:List (List UInt8)) (x:EX) (need:Int) (T:List Tok):Prop:=∀ acc:List Tok,acc.length+T.length+1<=1000000 ->
 SS.CC 113 [.ptr 0 0,.sl false 1 (NS ns),A1 (ev x),.int .i64 need] [aB (dJ acc)]=some (.tuple [],[aB (dJ (acc ++ T))])
def zh (o:Int):ByteArray:=if o=2 then ⟨#[43]⟩ else if o=3 then ⟨#[45]⟩ else if o=4 then ⟨#[42]⟩ else if o=5 then ⟨#[45]⟩ else if o=6 then ⟨#[61,61]⟩ else if o=7 then ⟨#[33,61]⟩ else if o=8 then ⟨#[60]⟩ else if o=9 then ⟨#[60,61]⟩ else if o=10 then ⟨#[33]⟩ else if o=11 then ⟨#[38,38]⟩ else if o=12 then ⟨#[124,124]⟩ else if o=13 then ⟨#[63]⟩ else ⟨#[]⟩
def EX.op:EX->Int
 | .node o _ _ _=>o
def WB (ns:List (List UInt8)) (x:EX) (B:List Tok):Prop:=∀ acc:List Tok,acc.length+B.length+1<=1000000 ->
 oM (NS ns) (ev x) (nO x) (acc.map aZ) (zh x.op)=some (.tuple [],[aB (dJ (acc ++ B))]) /\
 oN (NS ns) (ev x) (nO x) (acc.map aZ) (zh x.op)=some (.tuple [],[aB (dJ (acc ++ B ++ [tS [41]]))])
theorem aPT (x:EX):(ev x).1=x.op:=by obtain ⟨o,v,i,l⟩:=x; rw[iw]; rfl
theorem zk {ns:List (List UInt8)} {x:EX} {B:List Tok} (hx:x.Len) (h1:0<=x.op) (h2:x.op<=13) (hb:WB ns x B) (need:Int):WR ns x need (wp x need B):=by
 intro acc hacc;have hop:x.op=0\/x.op=1\/x.op=2\/x.op=3\/x.op=4\/x.op=5\/x.op=6\/x.op=7\/x.op=8\/x.op=9\/x.op=10\/x.op=11\/x.op=12\/x.op=13:=by omega
 have lv:SS.CC 207 [A1 (ev x)] []=some (.int .i64 (nO x),[]):=by obtain ⟨o,v,i,l⟩:=x;exact (zJ hx rfl h1 h2).1
 rw[aRI,bV lv,aPT];unfold wp at hacc ⊢;by_cases hn:nO x<need
 .rw[aH hn] at hacc ⊢;rw[aU,aK,oh] at hacc;rw[aN hn,aG,bJ (jE ⟨#[40]⟩ acc (by omega))];try dsimp only
  have hb:=(hb (acc ++ [tS [40]]) (by rw[aK,oh]; omega)).2;rw[kN,kN] at hb;rw[ah (by rw[aN (by omega),aN (by omega)]; rfl)];rcases hop with h | h | h | h | h | h | h | h | h | h | h | h | h | h<;>(rw[h] at hb ⊢; exact hb)
 .rw[aI hn] at hacc ⊢;have hb:=hb acc;rw[aT hn,aC,ah (by rw[aN (by omega),aN (by omega)]; rfl)];have hb:=(hb hacc).1;rcases hop with h | h | h | h | h | h | h | h | h | h | h | h | h | h<;>(rw[h] at hb ⊢; exact hb)
theorem xN (acc:List Tok) (h:acc.length+1<=1000000):SS.CC 166 [.ptr 0 0,.sl false 1 [.str ⟨#[41]⟩]] [aB (dJ acc)]=some (.tuple [],[aB (dJ (acc ++ [tS [41]]))]):=jE _ acc h
theorem syQ (acc:List Tok) (h:acc.length+1<=1000000):SS.CC 166 [.ptr 0 0,.sl false 1 [.str ⟨#[63]⟩]] [aB (dJ acc)]=some (.tuple [],[aB (dJ (acc ++ [tS [63]]))]):=jE _ acc h
theorem syD (acc:List Tok) (h:acc.length+1<=1000000):SS.CC 166 [.ptr 0 0,.sl false 1 [.str ⟨#[58]⟩]] [aB (dJ acc)]=some (.tuple [],[aB (dJ (acc ++ [tS [58]]))]):=jE _ acc h
theorem aKK (acc:List Tok) (h:acc.length+2<=1000000):SS.CC 166 [.ptr 0 0,.sl false 1 [.str ⟨#[45]⟩,.str ⟨#[40]⟩]] [aB (dJ acc)]=some (.tuple [],[aB (dJ (acc ++ [tS [45],tS [40]]))]):=sy2 _ _ acc h
theorem woT (acc:List Tok) (h:acc.length+1<=1000000):SS.CC 165 [.ptr 0 0,.sl false 1 [.str ⟨#[116,114,117,101]⟩]] [aB (dJ acc)]=some (.tuple [],[aB (dJ (acc ++ [tW Bc]))]):=ul _ acc h
theorem woF (acc:List Tok) (h:acc.length+1<=1000000):SS.CC 165 [.ptr 0 0,.sl false 1 [.str ⟨#[102,97,108,115,101]⟩]] [aB (dJ acc)]=some (.tuple [],[aB (dJ (acc ++ [tW EO]))]):=ul _ acc h
theorem woB (s:List UInt8) (acc:List Tok) (h:acc.length+1<=1000000):SS.CC 165 [.ptr 0 0,.sl false 1 [.str (bs s)]] [aB (dJ acc)]=some (.tuple [],[aB (dJ (acc ++ [tW s]))]):=ul _ acc h
def zX (o:Int):List UInt8:=if o=5 then [45] else if o=10 then [33] else xK o
theorem BX {o:Int} (ho:o=2\/o=3\/o=4\/o=5\/o=6\/o=7\/o=8\/o=9\/o=10\/o=11\/o=12) (acc:List Tok) (h:acc.length+1<=1000000):SS.CC 166 [.ptr 0 0,.sl false 1 [.str (zh o)]] [aB (dJ acc)]=some (.tuple [],[aB (dJ (acc ++ [tS (zX o)]))]):=by rw[jE _ acc h];rcases ho with rfl | rfl | rfl | rfl | rfl | rfl | rfl | rfl | rfl | rfl | rfl<;>rfl
theorem Xh {ns:List (List UInt8)} {o v i:Int} {l:List EX} {k:Nat} (hk:k<l.length) {need:Int} {T:List Tok} (hw:WR ns l[k] need T) (acc:List Tok) (h:acc.length+T.length+1<=1000000) :
 SS.CC 208 [.int .i64 (k:Int),.int .i64 need,.ptr 0 0,.cst (.sl false 1 (NS ns)),.cst (A1 (o,v,i,mJ l,()))] [some [.ptr 1 0],aB (dJ acc)]=some (.tuple [],[some [.ptr 1 0],aB (dJ (acc ++ T))]):=by
 rw[aW7];try dsimp only
 rw[BA hk,bJ (hw acc h)]
theorem vH {ns:List (List UInt8)} {o v i:Int} {a:EX} {l:List EX} {need:Int} {T:List Tok} (hw:WR ns a need T) (acc:List Tok) (h:acc.length+T.length+1<=1000000) :
 SS.CC 208 [.int .i64 0,.int .i64 need,.ptr 0 0,.cst (.sl false 1 (NS ns)),.cst (A1 (o,v,i,mJ (a::l),()))] [some [.ptr 1 0],aB (dJ acc)]=some (.tuple [],[some [.ptr 1 0],aB (dJ (acc ++ T))]):=Xh (l:=a::l) (k:=0) (by simp) hw acc h
theorem JR {ns:List (List UInt8)} {o v i:Int} {a b:EX} {l:List EX} {need:Int} {T:List Tok} (hw:WR ns b need T) (acc:List Tok) (h:acc.length+T.length+1<=1000000) :
 SS.CC 208 [.int .i64 1,.int .i64 need,.ptr 0 0,.cst (.sl false 1 (NS ns)),.cst (A1 (o,v,i,mJ (a::b::l),()))] [some [.ptr 1 0],aB (dJ acc)]=some (.tuple [],[some [.ptr 1 0],aB (dJ (acc ++ T))]):=Xh (l:=a::b::l) (k:=1) (by simp) hw acc h
theorem ag2 {ns:List (List UInt8)} {o v i:Int} {a b c:EX} {l:List EX} {need:Int} {T:List Tok} (hw:WR ns c need T) (acc:List Tok) (h:acc.length+T.length+1<=1000000) :
 SS.CC 208 [.int .i64 2,.int .i64 need,.ptr 0 0,.cst (.sl false 1 (NS ns)),.cst (A1 (o,v,i,mJ (a::b::c::l),()))] [some [.ptr 1 0],aB (dJ acc)]=some (.tuple [],[some [.ptr 1 0],aB (dJ (acc ++ T))]):=Xh (l:=a::b::c::l) (k:=2) (by simp) hw acc h
theorem Len.arg {o v i:Int} {l:List EX} (h:(EX.node o v i l).Len) {e:EX} (he:e∈l):e.Len:=by
 cases h with
 | mk _ _ _ _ h5=>exact h5 e he
theorem pO {o v i:Int} {l:List EX} (h:o≠6):dY (.node o v i l) tE=false:=by unfold tE; rw[OI,show (o==6)=false by simpa using h,RP]
theorem ql {o v i:Int} {l:List EX} (h:o≠7):dY (.node o v i l) fE=false:=by unfold fE; rw[OI,show (o==7)=false by simpa using h,RP]
section
variable {ns:List (List UInt8)}
theorem bFF (hx:tE.Len):WB ns tE [tW Bc]:=fun acc h=>by
 have h:acc.length+1+1<=1000000:=h;constructor
 .rw[Aj,dS c116,bD (dW hx tE),show dY tE tE=true from Je _,aG,bJ (woT acc (by omega))]
 .rw[Ak,dS c116,bD (dW hx tE),show dY tE tE=true from Je _,aG,bJ (woT acc (by omega)),bJ (xN _ (by rw[aK,oh]; omega))]
theorem bF9 (hx:fE.Len):WB ns fE [tW EO]:=fun acc h=>by
 have h:acc.length+1+1<=1000000:=h;have ht:dY fE tE=false:=pO (by decide);constructor
 .rw[Aj,dS c116,bD (dW hx tE),ht,aC,dS c117,bD (dW hx fE),show dY fE fE=true from Je _,aG,bJ (woF acc (by omega))]
 .rw[Ak,dS c116,bD (dW hx tE),ht,aC,dS c117,bD (dW hx fE),show dY fE fE=true from Je _,aG,bJ (woF acc (by omega)),bJ (xN _ (by rw[aK,oh]; omega))]
theorem bFE {v:Int} (h0 : -65536<=v) (h1:v<=65536) (hx:(EX.node 0 v 0 []).Len):WB ns (nE v) (eG v):=fun acc h=>by
 have ht:dY (.node 0 v 0 []) tE=false:=pO (by decide);have hf:dY (.node 0 v 0 []) fE=false:=ql (by decide);unfold nE;constructor
 .rw[Aj,dS c116,bD (dW hx tE),ht,aC,dS c117,bD (dW hx fE),hf,aC,iw];try dsimp only
  rw[show ((0:Int)==0)=true from rfl,aG,bJ (F9 h0 h1 acc (by omega))]
 .rw[Ak,dS c116,bD (dW hx tE),ht,aC,dS c117,bD (dW hx fE),hf,aC,iw];try dsimp only
  rw[show ((0:Int)==0)=true from rfl,aG,bJ (F9 h0 h1 acc (by omega)),bJ (xN _ (by rw[aK]; omega))]
theorem bFG {i:Nat} {s:List UInt8} (hs:ns[i]? = some s) (hx:(EX.node 1 0 (i:Int) []).Len):WB ns (vE (i:Int)) [tW s]:=fun acc h=>by
 have h:acc.length+1+1<=1000000:=h;have ht:dY (.node 1 0 (i:Int) []) tE=false:=pO (by decide);have hf:dY (.node 1 0 (i:Int) []) fE=false:=ql (by decide);have hg:(NS ns)[(i:Int).toNat]? = some (.str (bs s)):=by obtain ⟨h1,h2⟩:=dQ.1 hs;rw[a0K h1,h2]
 unfold vE;constructor
 .rw[Aj,dS c116,bD (dW hx tE),ht,aC,dS c117,bD (dW hx fE),hf,aC,iw];try dsimp only
  rw[show ((1:Int)==0)=false from rfl,aC,show ((1:Int)==1)=true from rfl,aG,jo (by omega) hg,iO,bJ (woB s acc (by omega))]
 .rw[Ak,dS c116,bD (dW hx tE),ht,aC,dS c117,bD (dW hx fE),hf,aC,iw];try dsimp only
  rw[show ((1:Int)==0)=false from rfl,aC,show ((1:Int)==1)=true from rfl,aG,jo (by omega) hg,iO,bJ (woB s acc (by omega)),bJ (xN _ (by rw[aK,oh]; omega))]
theorem bFC {v:Int} (h0:0<=v) (hw:WR ns (nE v) 0 (eG v)) (hx:(EX.node 5 0 0 [nE v]).Len):WB ns (uk 5 (nE v)) (tS [45]::tS [40]::(eG v ++ [tS [41]])):=fun acc h=>by
 have h:acc.length+((eG v ++ [tS [41]]).length+1+1)+1<=1000000:=h;rw[aK,oh] at h;have ht:dY (.node 5 0 0 [nE v]) tE=false:=pO (by decide);have hf:dY (.node 5 0 0 [nE v]) fE=false:=ql (by decide);have e:acc ++ tS [45]::tS [40]::(eG v ++ [tS [41]])=acc ++ [tS [45],tS [40]] ++ eG v ++ [tS [41]]:=by simp
 have l1:(acc ++ [tS [45],tS [40]]).length=acc.length+2:=by simp
 have l2:(acc ++ [tS [45],tS [40]] ++ eG v).length=acc.length+2+(eG v).length:=by rw[aK,l1]
 unfold uk;rw[e];show oM _ _ _ _ (zh 5)=_/\oN _ _ _ _ (zh 5)=_;constructor
 .rw[Aj,dS c116,bD (dW hx tE),ht,aC,dS c117,bD (dW hx fE),hf,aC,iw];try dsimp only
  rw[show ((5:Int)==0)=false from rfl,aC,show ((5:Int)==1)=false from rfl,aC,show ((5:Int)==5)=true from rfl,aG,qE,qE,Ti];try dsimp only
  rw[show ((0:Int)==0)=true from rfl,aG,aN h0,aG,bJ (aKK acc (by omega)),lS (vH hw _ (by rw[l1]; omega)),bJ (xN _ (by rw[l2]; omega))]
 .rw[Ak,dS c116,bD (dW hx tE),ht,aC,dS c117,bD (dW hx fE),hf,aC,iw];try dsimp only
  rw[show ((5:Int)==0)=false from rfl,aC,show ((5:Int)==1)=false from rfl,aC,show ((5:Int)==5)=true from rfl,aG,qE,qE,Ti];try dsimp only
  rw[show ((0:Int)==0)=true from rfl,aG,aN h0,aG,bJ (aKK acc (by omega)),lS (vH hw _ (by rw[l1]; omega)),bJ (xN _ (by rw[l2]; omega)),bJ (xN _ (by rw[aK,l2,oh]; omega))]
theorem bFB {o v i:Int} {l:List EX} {T:List Tok} (hc:o≠0\/v<0) (hw:WR ns (.node o v i l) 6 T) (hx:(EX.node 5 0 0 [.node o v i l]).Len):WB ns (uk 5 (.node o v i l)) (tS [45]::T):=fun acc h=>by
 have h:acc.length+(T.length+1)+1<=1000000:=h;have ht:dY (.node 5 0 0 [.node o v i l]) tE=false:=pO (by decide);have hf:dY (.node 5 0 0 [.node o v i l]) fE=false:=ql (by decide);have e:acc ++ tS [45]::T=acc ++ [tS [45]] ++ T:=by simp
 have l1:(acc ++ [tS [45]]).length=acc.length+1:=by simp
 unfold uk;rw[e];show oM _ _ _ _ (zh 5)=_/\oN _ _ _ _ (zh 5)=_;constructor
 .rw[Aj,dS c116,bD (dW hx tE),ht,aC,dS c117,bD (dW hx fE),hf,aC,iw];try dsimp only
  rw[show ((5:Int)==0)=false from rfl,aC,show ((5:Int)==1)=false from rfl,aC,show ((5:Int)==5)=true from rfl,aG,qE,qE,iw];try dsimp only
  by_cases h0:o=0
  .rw[show (o==0)=true by simp[h0],aG,aT (by omega),aC,aG,bJ (BX (o:=5) (by simp) acc (by omega))];rw[show zX 5 = [45] from rfl,lS (vH hw _ (by rw[l1]; omega))]
  .rw[show (o==0)=false by simpa using h0,aC,aG,bJ (BX (o:=5) (by simp) acc (by omega))];rw[show zX 5 = [45] from rfl,lS (vH hw _ (by rw[l1]; omega))]
 .rw[Ak,dS c116,bD (dW hx tE),ht,aC,dS c117,bD (dW hx fE),hf,aC,iw];try dsimp only
  rw[show ((5:Int)==0)=false from rfl,aC,show ((5:Int)==1)=false from rfl,aC,show ((5:Int)==5)=true from rfl,aG,qE,qE,iw];try dsimp only
  by_cases h0:o=0
  .rw[show (o==0)=true by simp[h0],aG,aT (by omega),aC,aG,bJ (BX (o:=5) (by simp) acc (by omega))];rw[show zX 5 = [45] from rfl,lS (vH hw _ (by rw[l1]; omega)),bJ (xN _ (by rw[aK,l1]; omega))]
  .rw[show (o==0)=false by simpa using h0,aC,aG,bJ (BX (o:=5) (by simp) acc (by omega))];rw[show zX 5 = [45] from rfl,lS (vH hw _ (by rw[l1]; omega)),bJ (xN _ (by rw[aK,l1]; omega))]
theorem bFD {a:EX} {T:List Tok} (hw:WR ns a 6 T) (hx:(EX.node 10 0 0 [a]).Len):WB ns (uk 10 a) (tS [33]::T):=fun acc h=>by
 have h:acc.length+(T.length+1)+1<=1000000:=h;have ht:dY (.node 10 0 0 [a]) tE=false:=pO (by decide);have hf:dY (.node 10 0 0 [a]) fE=false:=ql (by decide);have e:acc ++ tS [33]::T=acc ++ [tS [33]] ++ T:=by simp
 have l1:(acc ++ [tS [33]]).length=acc.length+1:=by simp
 unfold uk;rw[e];show oM _ _ _ _ (zh 10)=_/\oN _ _ _ _ (zh 10)=_;constructor
 .rw[Aj,dS c116,bD (dW hx tE),ht,aC,dS c117,bD (dW hx fE),hf,aC,iw];try dsimp only
  rw[show ((10:Int)==0)=false from rfl,aC,show ((10:Int)==1)=false from rfl,aC,show ((10:Int)==5)=false from rfl,aC,aC,show ((10:Int)==10)=true from rfl,aG,bJ (BX (o:=10) (by simp) acc (by omega)),show zX 10 = [33] from rfl,lS (vH hw _ (by rw[l1]; omega))]
 .rw[Ak,dS c116,bD (dW hx tE),ht,aC,dS c117,bD (dW hx fE),hf,aC,iw];try dsimp only
  rw[show ((10:Int)==0)=false from rfl,aC,show ((10:Int)==1)=false from rfl,aC,show ((10:Int)==5)=false from rfl,aC,aC,show ((10:Int)==10)=true from rfl,aG,bJ (BX (o:=10) (by simp) acc (by omega)),show zX 10 = [33] from rfl,lS (vH hw _ (by rw[l1]; omega)),bJ (xN _ (by rw[aK,l1]; omega))]
theorem bFA {c a b:EX} {C A B:List Tok} (hc:WR ns c 1 C) (ha:WR ns a 0 A) (hb:WR ns b 0 B) (hx:(EX.node 13 0 0 [c,a,b]).Len):WB ns (.node 13 0 0 [c,a,b]) (C ++ tS [63]::(A ++ tS [58]::B)):=fun acc h=>by
 rw[aK,aU,aK,aU] at h;have ht:dY (.node 13 0 0 [c,a,b]) tE=false:=pO (by decide);have hf:dY (.node 13 0 0 [c,a,b]) fE=false:=ql (by decide);have e:acc ++ (C ++ tS [63]::(A ++ tS [58]::B))=acc ++ C ++ [tS [63]] ++ A ++ [tS [58]] ++ B:=by simp
 have l1:(acc ++ C).length=acc.length+C.length:=by simp
 have l2:(acc ++ C ++ [tS [63]]).length=acc.length+C.length+1:=by rw[aK,l1]; rfl
 have l3:(acc ++ C ++ [tS [63]] ++ A).length=acc.length+C.length+1+A.length:=by rw[aK,l2]
 have l4:(acc ++ C ++ [tS [63]] ++ A ++ [tS [58]]).length=acc.length+C.length+1+A.length+1:=by rw[aK,l3]; rfl
 rw[e];constructor
 .rw[Aj,dS c116,bD (dW hx tE),ht,aC,dS c117,bD (dW hx fE),hf,aC,iw];try dsimp only
  rw[show ((13:Int)==0)=false from rfl,aC,show ((13:Int)==1)=false from rfl,aC,show ((13:Int)==5)=false from rfl,aC,aC,show ((13:Int)==10)=false from rfl,aC,show ((13:Int)==13)=true from rfl,aG,
   lS (vH hc acc (by omega)),bJ (syQ _ (by rw[l1]; omega)),lS (JR ha _ (by rw[l2]; omega)),bJ (syD _ (by rw[l3]; omega)),lS (ag2 hb _ (by rw[l4]; omega))]
 .rw[Ak,dS c116,bD (dW hx tE),ht,aC,dS c117,bD (dW hx fE),hf,aC,iw];try dsimp only
  rw[show ((13:Int)==0)=false from rfl,aC,show ((13:Int)==1)=false from rfl,aC,show ((13:Int)==5)=false from rfl,aC,aC,show ((13:Int)==10)=false from rfl,aC,show ((13:Int)==13)=true from rfl,aG,
   lS (vH hc acc (by omega)),bJ (syQ _ (by rw[l1]; omega)),lS (JR ha _ (by rw[l2]; omega)),bJ (syD _ (by rw[l3]; omega)),lS (ag2 hb _ (by rw[l4]; omega)),bJ (xN _ (by rw[aK,l4]; omega))]
theorem aL2 {o lv:Int} {a b:EX} {A B:List Tok} {n1 n2:Int} (ho:o=2\/o=3\/o=4\/o=6\/o=7\/o=8\/o=9\/o=11\/o=12) (hlv:nO (rZ o a b)=lv) (hn:lv=3/\n1=4/\n2=4\/lv≠3/\0<=lv/\lv<=7/\n1=lv/\n2=lv+1)
 (ht:dY (.node o 0 0 [a,b]) tE=false) (hf:dY (.node o 0 0 [a,b]) fE=false) (ha:WR ns a n1 A) (hb:WR ns b n2 B) (hx:(EX.node o 0 0 [a,b]).Len):WB ns (rZ o a b) (A ++ tS (xK o)::B):=fun acc h=>by
 rw[aK,aU] at h;have e:acc ++ (A ++ tS (xK o)::B)=acc ++ A ++ [tS (zX o)] ++ B:=by rw[show zX o=xK o by unfold zX; rw[aI (by omega),aI (by omega)]]; simp
 have l1:(acc ++ A).length=acc.length+A.length:=by simp
 have l2:(acc ++ A ++ [tS (zX o)]).length=acc.length+A.length+1:=by rw[aK,l1]; rfl
 have b0:(o==0)=false:=by simp; omega
 have b1:(o==1)=false:=by simp; omega
 have b5:(o==5)=false:=by simp; omega
 have b10:(o==10)=false:=by simp; omega
 have b13:(o==13)=false:=by simp; omega
 rw[e,hlv];unfold rZ;show oM _ _ _ _ (zh o)=_/\oN _ _ _ _ (zh o)=_;rcases hn with ⟨rfl,rfl,rfl⟩ | ⟨h3,h4,h5,rfl,rfl⟩
 .constructor
  .rw[Aj,dS c116,bD (dW hx tE),ht,aC,dS c117,bD (dW hx fE),hf,aC,iw];try dsimp only
   rw[b0,aC,b1,aC,b5,aC,aC,b10,aC,b13,aC,show ((3:Int)==3)=true from rfl,aG,lS (vH ha acc (by omega)),bJ (BX (by omega) _ (by rw[l1]; omega)),lS (JR hb _ (by rw[l2]; omega))]
  .rw[Ak,dS c116,bD (dW hx tE),ht,aC,dS c117,bD (dW hx fE),hf,aC,iw];try dsimp only
   rw[b0,aC,b1,aC,b5,aC,aC,b10,aC,b13,aC,show ((3:Int)==3)=true from rfl,aG,lS (vH ha acc (by omega)),bJ (BX (by omega) _ (by rw[l1]; omega)),lS (JR hb _ (by rw[l2]; omega)),bJ (xN _ (by rw[aK,l2]; omega))]
 .have b3:(n1==3)=false:=by simpa using h3
  constructor
  .rw[Aj,dS c116,bD (dW hx tE),ht,aC,dS c117,bD (dW hx fE),hf,aC,iw];try dsimp only
   rw[b0,aC,b1,aC,b5,aC,aC,b10,aC,b13,aC,b3,aC,lS (vH ha acc (by omega)),bJ (BX (by omega) _ (by rw[l1]; omega)),wrap64 (by omega) (by omega),lS (JR hb _ (by rw[l2]; omega))]
  .rw[Ak,dS c116,bD (dW hx tE),ht,aC,dS c117,bD (dW hx fE),hf,aC,iw];try dsimp only
   rw[b0,aC,b1,aC,b5,aC,aC,b10,aC,b13,aC,b3,aC,lS (vH ha acc (by omega)),bJ (BX (by omega) _ (by rw[l1]; omega)),wrap64 (by omega) (by omega),lS (JR hb _ (by rw[l2]; omega)),bJ (xN _ (by rw[aK,l2]; omega))]
end
theorem aGB {o lv:Int} {a b:EX} (h:o=2/\lv=4\/o=3/\lv=4\/o=4/\lv=5\/o=11/\lv=2\/o=12/\lv=1):nO (rZ o a b)=lv:=by unfold nO rZ;rw[pO (by omega),ql (by omega)];rcases h with ⟨rfl,rfl⟩ | ⟨rfl,rfl⟩ | ⟨rfl,rfl⟩ | ⟨rfl,rfl⟩ | ⟨rfl,rfl⟩<;>rfl
theorem aGC {o:Int} {a b:EX} (h:o=6\/o=7\/o=8\/o=9) (ht:dY (rZ o a b) tE=false) (hf:dY (rZ o a b) fE=false):nO (rZ o a b)=3:=by unfold nO;rw[ht,hf];unfold rZ;rcases h with rfl | rfl | rfl | rfl<;>rfl
theorem b9U (ns:List (List UInt8)) {x:EX} {B:List Tok} (h:PB ns x B):x.Len->WB ns x B/\0<=x.op/\x.op<=13:=by
 induction h with
 | tt=>exact fun hx=>⟨bFF hx,by simp[EX.op,tE,fE,nE,vE],by simp[EX.op,tE,fE,nE,vE]⟩
 | ff=>exact fun hx=>⟨bF9 hx,by simp[EX.op,tE,fE,nE,vE],by simp[EX.op,tE,fE,nE,vE]⟩
 | num h0 h1=>exact fun hx=>⟨bFE h0 h1 hx,by simp[EX.op,tE,fE,nE,vE],by simp[EX.op,tE,fE,nE,vE]⟩
 | var hs=>exact fun hx=>⟨bFG hs hx,by simp[EX.op,tE,fE,nE,vE],by simp[EX.op,tE,fE,nE,vE]⟩
 | @Vh v h0 h1 _ ih =>
  intro hx;obtain ⟨k1,k2,k3⟩:=ih (Len.arg hx (by simp));have hw:=zk (Len.arg hx (by simp)) k2 k3 k1 0;have hp:wp (nE v) 0 (eG v)=eG v:=by unfold wp nO nE;rw[pO (by decide),ql (by decide)];exact aI (by show ¬ (if v<0 then (6:Int) else 7)<0; split<;>decide)
  rw[hp] at hw;exact ⟨bFC h0 hw hx,by simp[EX.op,tE,fE,nE,vE],by simp[EX.op,tE,fE,nE,vE]⟩
 | neg hc _ ih =>intro hx;obtain ⟨k1,k2,k3⟩:=ih (Len.arg hx (by simp));exact ⟨bFB hc (zk (Len.arg hx (by simp)) k2 k3 k1 6) hx,by simp[EX.op,tE,fE,nE,vE],by simp[EX.op,tE,fE,nE,vE]⟩
 | Vl _ ih =>intro hx;obtain ⟨k1,k2,k3⟩:=ih (Len.arg hx (by simp));exact ⟨bFD (zk (Len.arg hx (by simp)) k2 k3 k1 6) hx,by simp[EX.op,tE,fE,nE,vE],by simp[EX.op,tE,fE,nE,vE]⟩
 | cmp ho ht hf _ _ iha ihb =>
  intro hx;obtain ⟨k1,k2,k3⟩:=iha (Len.arg hx (by simp));obtain ⟨m1,m2,m3⟩:=ihb (Len.arg hx (by simp));refine ⟨aL2 (by omega) (aGC ho ht hf) (.inl ⟨rfl,rfl,rfl⟩) ht hf (zk (Len.arg hx (by simp)) k2 k3 k1 4) (zk (Len.arg hx (by simp)) m2 m3 m1 4) hx,?_,?_⟩
  .simp only[EX.op]; omega
  .simp only[EX.op]; omega
 | bin ho _ _ iha ihb =>
  intro hx;obtain ⟨k1,k2,k3⟩:=iha (Len.arg hx (by simp));obtain ⟨m1,m2,m3⟩:=ihb (Len.arg hx (by simp));refine ⟨aL2 (by omega) (aGB ho) (.inr ⟨by omega,by omega,by omega,rfl,rfl⟩) (pO (by omega)) (ql (by omega)) (zk (Len.arg hx (by simp)) k2 k3 k1 _) (zk (Len.arg hx (by simp)) m2 m3 m1 _) hx,?_,?_⟩
  .simp only[EX.op]; omega
  .simp only[EX.op]; omega
 | ite _ _ _ PO iha ihb =>intro hx;obtain ⟨j1,j2,j3⟩:=PO (Len.arg hx (by simp));obtain ⟨k1,k2,k3⟩:=iha (Len.arg hx (by simp));obtain ⟨m1,m2,m3⟩:=ihb (Len.arg hx (by simp));exact ⟨bFA (zk (Len.arg hx (by simp)) j2 j3 j1 1) (zk (Len.arg hx (by simp)) k2 k3 k1 0) (zk (Len.arg hx (by simp)) m2 m3 m1 0) hx,by simp[EX.op,tE,fE,nE,vE],by simp[EX.op,tE,fE,nE,vE]⟩
def bH (T:List Tok):List PV:=T.map fun t => .str (bs t.text)
theorem jy (T:List Tok):(bH T).length=T.length:=by unfold bH; rw[bW]
theorem oW (a b:List Tok):bH (a ++ b)=bH a ++ bH b:=by unfold bH; rw[tY]
theorem MO (t:Tok) (a:List Tok):bH (t::a) = .str (bs t.text)::bH a:=rfl
def MW (ns:List (List UInt8)) (x:EX) (B:List Tok):Prop:=∀ need:Int,need<=7->B.length+2<=1000000->SS.CC 29 [.sl false 1 (NS ns),A1 (ev x),.int .i64 need] []=some (.sl true 1 (bH (wp x need B)),[])
def MB (ns:List (List UInt8)) (x:EX) (B:List Tok):Prop:=B.length+2<=1000000->∀ need:Int,need<=nO x->SS.CC 29 [.sl false 1 (NS ns),A1 (ev x),.int .i64 need] []=some (.sl true 1 (bH B),[])
theorem a0C (x:EX):0<=nO x:=by
 obtain ⟨o,v,i,l⟩:=x;unfold nO;dsimp only;repeat' split
 all_goals omega
section
variable {ns:List (List UInt8)}
theorem BF {x:EX} {B:List Tok} (hx:x.Len) (h1:0<=x.op) (h2:x.op<=13) (hb:MB ns x B):MW ns x B:=fun need _ hl=>by
 unfold wp;by_cases hn:nO x<need
 .have lv:SS.CC 115 [A1 (ev x)] []=some (.int .i64 (nO x),[]):=by obtain ⟨o,v,i,l⟩:=x;exact (zJ hx rfl h1 h2).2
  rw[aH hn,Am,bV lv,aN hn,aG,kG (hb hl 0 (a0C x)),ah (aN (by rw[jy]; unfold aV; omega)),ah (aN (by rw[aK,jy]; unfold aV; simp; omega)),MO,oW];rfl
 .rw[aI hn]; exact hb hl need (by omega)
theorem b6P (hx:tE.Len):MB ns tE [tW Bc]:=fun _ need hn=>by rw[Am,bV (zJ hx rfl (by decide) (by decide)).2,aT (by omega),aC,dS c116,bD (dW hx tE),Je,aG];rfl
theorem b6J (hx:fE.Len):MB ns fE [tW EO]:=fun _ need hn=>by rw[Am,bV (zJ hx rfl (by decide) (by decide)).2,aT (by omega),aC,dS c116,bD (dW hx tE),show dY fE tE=false from pO (by decide),aC,dS c117,bD (dW hx fE),Je,aG];rfl
theorem LK {v:Int} (h0 : -65536<=v) (h1:v<=65536):SS.CC 56 [.int .i64 v] []=some (.sl true 1 (bH (eG v)),[]):=by
 rw[a'G];unfold eG;by_cases hv:v<0
 .rw[aN hv,aG,aH hv,show i64.wrap (0-v)=((-v).toNat:Int) by rw[wrap64 (by omega) (by omega)]; omega,ou (VD _ (by omega))];rfl
 .rw[aT hv,aC,aI hv,show v=(v.toNat:Int) by omega,ou (VD _ (by omega))];rfl
theorem b6O {v:Int} (h0 : -65536<=v) (h1:v<=65536) (hx:(EX.node 0 v 0 []).Len):MB ns (nE v) (eG v):=fun _ need hn=>by
 have ht:dY (.node 0 v 0 []) tE=false:=pO (by decide);have hf:dY (.node 0 v 0 []) fE=false:=ql (by decide);have lv:=(zJ hx rfl (by decide) (by decide)).2;unfold nE at hn ⊢;rw[Am,bV lv,aT (by omega),aC,dS c116,bD (dW hx tE),ht,aC,dS c117,bD (dW hx fE),hf,aC,bV lv,iw];try dsimp only
 rw[show ((0:Int)==0)=true from rfl,aG,kG (LK h0 h1)]
theorem b6Q {i:Nat} {s:List UInt8} (hs:ns[i]? = some s) (hx:(EX.node 1 0 (i:Int) []).Len):MB ns (vE (i:Int)) [tW s]:=fun _ need hn=>by
 have ht:dY (.node 1 0 (i:Int) []) tE=false:=pO (by decide);have hf:dY (.node 1 0 (i:Int) []) fE=false:=ql (by decide);have lv:=(zJ hx rfl (by decide) (by decide)).2;have hg:(NS ns)[(i:Int).toNat]? = some (.str (bs s)):=by obtain ⟨h1,h2⟩:=dQ.1 hs;rw[a0K h1,h2]
 unfold vE at hn ⊢;rw[Am,bV lv,aT (by omega),aC,dS c116,bD (dW hx tE),ht,aC,dS c117,bD (dW hx fE),hf,aC,bV lv,iw];try dsimp only
 rw[show ((1:Int)==0)=false from rfl,aC,show ((1:Int)==1)=true from rfl,aG,jo (by omega) hg,iO];rfl
theorem b6N {a:EX} {A:List Tok} (ha:MW ns a A) (hx:(EX.node 10 0 0 [a]).Len):MB ns (uk 10 a) (tS [33]::wp a 6 A):=fun hl need hn=>by
 rw[aU] at hl;have ht:dY (.node 10 0 0 [a]) tE=false:=pO (by decide);have hf:dY (.node 10 0 0 [a]) fE=false:=ql (by decide);have lv:=(zJ hx rfl (by decide) (by decide)).2;have hA:A.length<=(wp a 6 A).length:=by unfold wp; split<;>simp; omega
 unfold uk at hn ⊢;rw[Am,bV lv,aT (by omega),aC,dS c116,bD (dW hx tE),ht,aC,dS c117,bD (dW hx fE),hf,aC,bV lv,iw];try dsimp only
 rw[show ((10:Int)==0)=false from rfl,aC,show ((10:Int)==1)=false from rfl,aC,show ((10:Int)==10)=true from rfl,aG,qE,kG (ha 6 (by decide) (by omega)),ah (aN (by rw[jy]; unfold aV; omega))];rfl
theorem b6M {v:Int} (h0:0<=v) (ha:MW ns (nE v) (eG v)) (hp:wp (nE v) 0 (eG v)=eG v) (hx:(EX.node 5 0 0 [nE v]).Len):MB ns (uk 5 (nE v)) (tS [45]::tS [40]::(eG v ++ [tS [41]])):=fun hl need hn=>by
 rw[aU,aU,aK,oh] at hl;have ht:dY (.node 5 0 0 [nE v]) tE=false:=pO (by decide);have hf:dY (.node 5 0 0 [nE v]) fE=false:=ql (by decide);have lv:=(zJ hx rfl (by decide) (by decide)).2;have h29:=ha 0 (by decide) (by omega);rw[hp,Ti] at h29;unfold uk at hn ⊢;rw[Am,bV lv,aT (by omega),aC,dS c116,bD (dW hx tE),ht,aC,dS c117,bD (dW hx fE),hf,aC,bV lv,iw];try dsimp only
 rw[show ((5:Int)==0)=false from rfl,aC,show ((5:Int)==1)=false from rfl,aC,show ((5:Int)==10)=false from rfl,aC,show ((5:Int)==5)=true from rfl,aG,qE,Ti];try dsimp only
 rw[show ((0:Int)==0)=true from rfl,aG,aN h0,aG,kG h29,ah (aN (by rw[jy]; unfold aV; omega)),ah (aN (by rw[aK,jy]; unfold aV; simp; omega)),MO,MO,oW];rfl
theorem b6L {o v i:Int} {l:List EX} {A:List Tok} (hc:o≠0\/v<0) (ha:MW ns (.node o v i l) A) (hx:(EX.node 5 0 0 [.node o v i l]).Len):MB ns (uk 5 (.node o v i l)) (tS [45]::wp (.node o v i l) 6 A):=fun hl need hn=>by
 rw[aU] at hl;have ht:dY (.node 5 0 0 [.node o v i l]) tE=false:=pO (by decide);have hf:dY (.node 5 0 0 [.node o v i l]) fE=false:=ql (by decide);have lv:=(zJ hx rfl (by decide) (by decide)).2;have hA:A.length<=(wp (.node o v i l) 6 A).length:=by unfold wp; split<;>simp; omega
 have hJ:UZ (NS ns) (5,0,0,mJ [.node o v i l],())=some (.sl true 1 (bH (tS [45]::wp (.node o v i l) 6 A)),[]):=by
  rw[aXW];try dsimp only
  rw[qE,kG (ha 6 (by decide) (by omega)),ah (aN (by rw[jy]; unfold aV; omega))];rfl
 unfold uk at hn ⊢;rw[Am,bV lv,aT (by omega),aC,dS c116,bD (dW hx tE),ht,aC,dS c117,bD (dW hx fE),hf,aC,bV lv,iw];try dsimp only
 rw[show ((5:Int)==0)=false from rfl,aC,show ((5:Int)==1)=false from rfl,aC,show ((5:Int)==10)=false from rfl,aC,show ((5:Int)==5)=true from rfl,aG,qE,hJ,iw];try dsimp only
 by_cases h0:o=0
 .rw[show (o==0)=true by simp[h0],aG,aT (by omega),aC]
 .rw[show (o==0)=false by simpa using h0,aC]
theorem b6K {c a b:EX} {C A B:List Tok} (hc:MW ns c C) (ha:MW ns a A) (hb:MW ns b B) (hx:(EX.node 13 0 0 [c,a,b]).Len):MB ns (.node 13 0 0 [c,a,b]) (wp c 1 C ++ tS [63]::(wp a 0 A ++ tS [58]::wp b 0 B)):=fun hl need hn=>by
 rw[aK,aU,aK,aU] at hl;have ht:dY (.node 13 0 0 [c,a,b]) tE=false:=pO (by decide);have hf:dY (.node 13 0 0 [c,a,b]) fE=false:=ql (by decide);have lv:=(zJ hx rfl (by decide) (by decide)).2;have hC:C.length<=(wp c 1 C).length:=by unfold wp; split<;>simp; omega
 have hA:A.length<=(wp a 0 A).length:=by unfold wp; split<;>simp; omega
 have hB:B.length<=(wp b 0 B).length:=by unfold wp; split<;>simp; omega
 have x1:SS.CC 29 [.sl false 1 (NS ns),A1 (ev a),.int .i64 0] []=_:=ha 0 (by decide) (by omega);rw[Am,bV lv,aT (by omega),aC,dS c116,bD (dW hx tE),ht,aC,dS c117,bD (dW hx fE),hf,aC,bV lv,iw];try dsimp only
 rw[show ((13:Int)==0)=false from rfl,aC,show ((13:Int)==1)=false from rfl,aC,show ((13:Int)==10)=false from rfl,aC,show ((13:Int)==5)=false from rfl,aC,show ((13:Int)==13)=true from rfl,aG,
  qE,kG (hc 1 (by decide) (by omega)),ah (aN (by rw[jy]; unfold aV; omega)),show (1:Int)=((1:Nat):Int) from rfl,BA (l := [c,a,b]) (k:=1) (by simp)]
 rw[show [c,a,b][1]=a from rfl,kG x1,ah (aN (by rw[aK,jy,jy]; unfold aV; simp; omega)),ah (aN (by rw[aK,aK,jy,jy]; unfold aV; simp; omega)),show (2:Int)=((2:Nat):Int) from rfl,BA (l := [c,a,b]) (k:=2) (by simp)];rw[show [c,a,b][2]=b from rfl,kG (hb 0 (by decide) (by omega)),ah (aN (by rw[aK,aK,aK,jy,jy,jy]; unfold aV; simp; omega)),oW,MO,oW,MO];simp;exact ⟨rfl,rfl⟩
theorem aGL {o lv:Int} {a b:EX} {A B:List Tok} {n1 n2:Int} (ho:o=2\/o=3\/o=4\/o=6\/o=7\/o=8\/o=9\/o=11\/o=12) (hlv:nO (rZ o a b)=lv) (hn:(o=6\/o=7\/o=8\/o=9)/\n1=4/\n2=4\/(o=2\/o=3\/o=4\/o=11\/o=12)/\0<=lv/\lv<=6/\n1=lv/\n2=lv+1)
 (ht:dY (.node o 0 0 [a,b]) tE=false) (hf:dY (.node o 0 0 [a,b]) fE=false) (ha:MW ns a A) (hb:MW ns b B) (hx:(EX.node o 0 0 [a,b]).Len):MB ns (rZ o a b) (wp a n1 A ++ tS (xK o)::wp b n2 B):=fun hl need hn2=>by
 rw[aK,aU] at hl;have hA:A.length<=(wp a n1 A).length:=by unfold wp; split<;>simp; omega
 have hB:B.length<=(wp b n2 B).length:=by unfold wp; split<;>simp; omega
 have lvv:=(zJ hx rfl (by omega) (by omega)).2;have b2Q:nO (.node o 0 0 [a,b])=lv:=hlv;have hd:bH (wp a n1 A ++ tS (xK o)::wp b n2 B)=bH (wp a n1 A) ++ [.str (bs (xK o))] ++ bH (wp b n2 B):=by rw[oW,MO]; simp
 have a29:=ha n1 (by omega) (by omega);have Nw:=hb n2 (by omega) (by omega);have k1:∀ K,bG S1 (mJ [a,b]) 1 K=K (ev b):=fun K=>BA (l := [a,b]) (k:=1) (by simp) K
 have c1:decide ((bH (wp a n1 A)).length+1<=aV)=true:=aN (by rw[jy]; unfold aV; omega);have c2:decide ((bH (wp a n1 A) ++ ([.str (bs (xK o))]:List PV)).length+(bH (wp b n2 B)).length<=aV)=true:=aN (by rw[aK,jy,jy]; unfold aV; simp; omega);unfold rZ at hn2 ⊢;rw[Am,bV lvv,aT (by omega),aC,dS c116,bD (dW hx tE),ht,aC,dS c117,bD (dW hx fE),hf,aC,bV lvv,iw,hd,b2Q];try dsimp only
 have b0:(o==0)=false:=by simp; omega
 have b1:(o==1)=false:=by simp; omega
 have b5:(o==5)=false:=by simp; omega
 have b10:(o==10)=false:=by simp; omega
 have b13:(o==13)=false:=by simp; omega
 rw[b0,aC,b1,aC,b10,aC,b5,aC,b13,aC];rcases hn with ⟨h,rfl,rfl⟩ | ⟨h,h0,h6,rfl,rfl⟩
 .rcases h with rfl | rfl | rfl | rfl
  .rw[show ((6:Int)==6)=true from rfl,aG,qE,kG a29,ou (Qc 6),ah c1,k1,kG Nw,ah c2]
  .rw[show ((7:Int)==6)=false from rfl,aC,show ((7:Int)==7)=true from rfl,aG,qE,kG a29,ou (Qc 7),ah c1,k1,kG Nw,ah c2]
  .rw[show ((8:Int)==6)=false from rfl,aC,show ((8:Int)==7)=false from rfl,aC,show ((8:Int)==8)=true from rfl,aG,qE,kG a29,ou (Qc 8),ah c1,k1,kG Nw,ah c2]
  .rw[show ((9:Int)==6)=false from rfl,aC,show ((9:Int)==7)=false from rfl,aC,show ((9:Int)==8)=false from rfl,aC,show ((9:Int)==9)=true from rfl,aG,qE,kG a29,ou (Qc 9),ah c1,k1,kG Nw,ah c2]
 .have b6:(o==6)=false:=by simp; omega
  have b7:(o==7)=false:=by simp; omega
  have b8:(o==8)=false:=by simp; omega
  have b9:(o==9)=false:=by simp; omega
  rw[b6,aC,b7,aC,b8,aC,b9,aC,qE,kG a29,ou (Qc o),ah c1,k1,wrap64 (by omega) (by omega),kG Nw,ah c2]
end
theorem b9T (ns:List (List UInt8)) {x:EX} {B:List Tok} (h:PB ns x B):x.Len->MB ns x B/\0<=x.op/\x.op<=13:=by
 induction h with
 | tt=>exact fun hx=>⟨b6P hx,by simp[EX.op,tE],by simp[EX.op,tE]⟩
 | ff=>exact fun hx=>⟨b6J hx,by simp[EX.op,fE],by simp[EX.op,fE]⟩
 | num h0 h1=>exact fun hx=>⟨b6O h0 h1 hx,by simp[EX.op,nE],by simp[EX.op,nE]⟩
 | var hs=>exact fun hx=>⟨b6Q hs hx,by simp[EX.op,vE],by simp[EX.op,vE]⟩
 | @Vh v h0 h1 _ ih =>
  intro hx;obtain ⟨k1,k2,k3⟩:=ih (Len.arg hx (by simp));have hp:wp (nE v) 0 (eG v)=eG v:=by unfold wp nO nE;rw[pO (by decide),ql (by decide)];exact aI (by show ¬ (if v<0 then (6:Int) else 7)<0; split<;>decide)
  exact ⟨b6M h0 (BF (Len.arg hx (by simp)) k2 k3 k1) hp hx,by simp[EX.op],by simp[EX.op]⟩
 | neg hc _ ih =>intro hx;obtain ⟨k1,k2,k3⟩:=ih (Len.arg hx (by simp));exact ⟨b6L hc (BF (Len.arg hx (by simp)) k2 k3 k1) hx,by simp[EX.op],by simp[EX.op]⟩
 | Vl _ ih =>intro hx;obtain ⟨k1,k2,k3⟩:=ih (Len.arg hx (by simp));exact ⟨b6N (BF (Len.arg hx (by simp)) k2 k3 k1) hx,by simp[EX.op],by simp[EX.op]⟩
 | cmp ho ht hf _ _ iha ihb =>
  intro hx;obtain ⟨k1,k2,k3⟩:=iha (Len.arg hx (by simp));obtain ⟨m1,m2,m3⟩:=ihb (Len.arg hx (by simp));refine ⟨aGL (by omega) (aGC ho ht hf) (.inl ⟨ho,rfl,rfl⟩) ht hf (BF (Len.arg hx (by simp)) k2 k3 k1) (BF (Len.arg hx (by simp)) m2 m3 m1) hx,?_,?_⟩
  .simp only[EX.op]; omega
  .simp only[EX.op]; omega
 | bin ho _ _ iha ihb =>
  intro hx;obtain ⟨k1,k2,k3⟩:=iha (Len.arg hx (by simp));obtain ⟨m1,m2,m3⟩:=ihb (Len.arg hx (by simp));refine ⟨aGL (by omega) (aGB ho) (.inr ⟨by omega,by omega,by omega,rfl,rfl⟩) (pO (by omega)) (ql (by omega)) (BF (Len.arg hx (by simp)) k2 k3 k1) (BF (Len.arg hx (by simp)) m2 m3 m1) hx,?_,?_⟩
  .simp only[EX.op]; omega
  .simp only[EX.op]; omega
 | ite _ _ _ PO iha ihb =>intro hx;obtain ⟨j1,j2,j3⟩:=PO (Len.arg hx (by simp));obtain ⟨k1,k2,k3⟩:=iha (Len.arg hx (by simp));obtain ⟨m1,m2,m3⟩:=ihb (Len.arg hx (by simp));exact ⟨b6K (BF (Len.arg hx (by simp)) j2 j3 j1) (BF (Len.arg hx (by simp)) k2 k3 k1) (BF (Len.arg hx (by simp)) m2 m3 m1) hx,by simp[EX.op],by simp[EX.op]⟩
abbrev jS (t:Tok):Int×List UInt8×Int:=(t.kind,t.text,t.value)
def Tv (t:Tok):Prop:=t.text ≠ []/\(bz t.text).2=0/\jS (bz t.text).1=jS t/\t.kind≠4
theorem bDD:∀ x∈ui,∀ c∈x.head?,wX c.toNat=false/\c≠47:=by decide
theorem aQH {b:UInt8} {r:List UInt8} (h:(bz (b::r)).2=0):wX b.toNat=false/\b≠47:=by
 unfold bz at h;dsimp only at h;cases hd:fB b.toNat with
 | true =>simp only[fB,aY,gu] at hd;refine ⟨?_,fun c=>by subst c; revert hd; decide⟩;unfold wX;simp only[Iy,rU];omega
 | false =>
  cases hl:isLet b.toNat with
  | true =>simp only[isLet,ut,aY,gu,kF] at hl;refine ⟨?_,fun c=>by subst c; revert hl; decide⟩;unfold wX;simp only[Iy,rU];omega
  | false =>
   rw[hd,hl] at h;simp only[rJ,qV] at h;unfold BZ at h;cases hs:FX (b::r) with
   | none=>rw[hs] at h; exact absurd h (by decide)
   | some x =>
    obtain ⟨m1,m2⟩:=aKL hs;have hp:=(a2Y x m1).1;match x,m1,m2,hp with
    | c::x,m1,m2,_ =>
     have hc:c=b:=by simp[List.isPrefixOf] at m2; exact m2.1
     subst hc;exact bDD _ m1 c (by simp)
theorem aJN {b:UInt8} {r:List UInt8} (h:(bz (b::r)).2=0) (u:List UInt8):fM false (b::u)=0:=by
 obtain ⟨h1,h2⟩:=aQH h;rcases bCN false b u with ⟨c',_,k⟩ | ⟨_,_,_,k⟩
 .rcases k with ⟨k,_⟩ | ⟨k,_⟩ | ⟨_,k,_⟩ | ⟨_,_,k,_⟩
  .cases k
  .cases k
  .rw[h1] at k; cases k
  .simp[List.isPrefixOf] at k;exact absurd k.1.symm h2
 .exact k
def joinL:List Tok->List UInt8
 | [] => []
 | [t]=>t.text
 | t::u::l=>t.text ++ 32::joinL (u::l)
theorem aJ7:∀ (T:List Tok),T ≠ []->(∀ t,t∈T->Tv t)->∀ (i line start:Nat) (acc:List Tok),∃ T' e,vZ false (joinL T) i line start acc = .ok (acc ++ T' ++ [e])/\T'.map jS=T.map jS/\e.kind=4
 | [],h,_,_,_,_,_=>absurd rfl h
 | [t],_,ht,i,line,start,acc=>by
  obtain ⟨h1,h2,h3,_⟩:=ht t (by simp);show ∃ T' e,vZ false t.text i line start acc=_/\_;match hx:t.text,h1 with
  | b::r,_ =>
   rw[hx] at h2 h3;have e3:(bz (b::r)).1.text=b::r:=by have:=congrArg (fun c=>c.2.1) h3;simpa[hx] using this
   have hS:vZ false (b::r) i line start acc = .ok (acc ++ [(bz (b::r)).1.at (line:Nat) ((i-start+1:Nat):Int)] ++ [(⟨4,[],0,(line:Nat),((i+(b::r).length-start+1:Nat):Int)⟩:Tok)]):=by rw[a4Z (aJN h2 r),aH h2,e3,List.drop_length,aLG]
   refine ⟨_,_,hS,?_,rfl⟩;show [jS (bz (b::r)).1] = [jS t];rw[h3]
 | t::u::l,_,ht,i,line,start,acc=>by
  obtain ⟨h1,h2,h3,_⟩:=ht t (by simp);show ∃ T' e,vZ false (t.text ++ 32::joinL (u::l)) i line start acc=_/\_;match hx:t.text,h1 with
  | b::r,_ =>
   rw[hx] at h2 h3;have e3:(bz (b::r)).1.text=b::r:=by have:=congrArg (fun c=>c.2.1) h3;simpa[hx] using this
   have hr:bz (b::(r ++ 32::joinL (u::l)))=bz (b::r):=bAI (x:=32) (by decide) bDF _ b r;obtain ⟨T',e,k1,k2,k3⟩:=aJ7 (u::l) (by simp) (fun t h=>ht t (by simp[h])) (i+(b::r).length+1) line start (acc ++ [(bz (b::r)).1.at (line:Nat) ((i-start+1:Nat):Int)]);refine ⟨(bz (b::r)).1.at (line:Nat) ((i-start+1:Nat):Int)::T',e,?_,?_,k3⟩
   .have hdrop:(b::(r ++ 32::joinL (u::l))).drop (b::r).length=32::joinL (u::l):=by rw[<- og,List.drop_left]
    rw[og,a4Z (by rw[aJN h2]),hr,aH h2,e3,hdrop,
     C_step (c':=false) (by rw[fM,aH (by decide)]),aI (by decide),aI (by decide),k1]
    simp
   .rw[o8,o8,k2,<- h3];rfl
theorem Y8:∀ (n:Nat) (b:UInt8),b∈Lib.decDigits n->fB b.toNat=true:=by
 intro n;induction n using Nat.strongRecOn with
 | _ n ih =>
  intro b hb;have OC:∀ d:Nat,d<10->fB (UInt8.ofNat (48+d)).toNat=true:=fun d hd=>by
   have:d=0\/d=1\/d=2\/d=3\/d=4\/d=5\/d=6\/d=7\/d=8\/d=9:=by omega
   rcases this with rfl | rfl | rfl | rfl | rfl | rfl | rfl | rfl | rfl | rfl<;>rfl
  rw[Lib.decDigits] at hb;split at hb
  .simp only[Bj] at hb;rw[hb]; exact OC n (by omega)
  .rcases rP.1 hb with hb | hb
   .exact ih (n / 10) (by omega) b hb
   .simp only[Bj] at hb;rw[hb]; exact OC (n % 10) (by omega)
theorem aH7:∀ (l:List UInt8) (b:UInt8) (a m:Nat),qF l a=some m->10*m+(b.toNat-48)<=65536->qF (l ++ [b]) a=some (10*m+(b.toNat-48))
 | [],b,a,m,h,h2=>by simp only[qF,wJ] at h;subst h;rw[RU,qF,aI (by omega),qF]
 | c::l,b,a,m,h,h2=>by
  rw[qF] at h;rw[og,qF];split at h
  .cases h
  .rename_i hc;rw[aI hc];exact aH7 l b _ m h h2
theorem aP9:∀ (n:Nat),n<=65536->qF (Lib.decDigits n) 0=some n:=by
 intro n;induction n using Nat.strongRecOn with
 | _ n ih =>
  intro hn;have OC:∀ d:Nat,d<10->(UInt8.ofNat (48+d)).toNat-48=d:=fun d hd=>by
   have:d=0\/d=1\/d=2\/d=3\/d=4\/d=5\/d=6\/d=7\/d=8\/d=9:=by omega
   rcases this with rfl | rfl | rfl | rfl | rfl | rfl | rfl | rfl | rfl | rfl<;>rfl
  rw[Lib.decDigits];split
  .rename_i h;rw[qF,OC n h,aI (by omega),qF];simp
  .have hd:=OC (n % 10) (by omega);have:=aH7 (Lib.decDigits (n / 10)) (UInt8.ofNat (48+n % 10)) 0 (n / 10) (ih (n / 10) (by omega) (by omega)) (by rw[hd]; omega);rw[this,hd];congr 1
   omega
theorem aP8:∀ (n:Nat),0<n->∃ b r,Lib.decDigits n=b::r/\b≠48:=by
 intro n;induction n using Nat.strongRecOn with
 | _ n ih =>
  intro hn;rw[Lib.decDigits];split
  .rename_i h;refine ⟨_,[],rfl,?_⟩;have:n=1\/n=2\/n=3\/n=4\/n=5\/n=6\/n=7\/n=8\/n=9:=by omega
   rcases this with rfl | rfl | rfl | rfl | rfl | rfl | rfl | rfl | rfl<;>decide
  .obtain ⟨b,r,h1,h2⟩:=ih (n / 10) (by omega) (by omega);exact ⟨b,r ++ [UInt8.ofNat (48+n % 10)],by rw[h1]; rfl,h2⟩
theorem IX {p:Nat->Bool}:∀ {l:List UInt8},(∀ b,b∈l->p b.toNat=true)->fK p l=l
 | [],_=>rfl
 | b::l,h=>by
  have:=IX (l:=l) fun c hc=>h c (by simp[hc])
  unfold fK at *;rw[Fz,h b (by simp),aH rfl,this]
theorem aKT {n:Nat} (h:n<=65536):Tv (tN n):=by
 have hne:Lib.decDigits n ≠ []:=by rw[Lib.decDigits]; split<;>simp
 have h1:fK fB (Lib.decDigits n)=Lib.decDigits n:=IX (Y8 n);have h2:fK lW (Lib.decDigits n)=Lib.decDigits n:=IX fun b hb=>by unfold lW; rw[Y8 n b hb,Bool.or_true]
 have hN:zO (Lib.decDigits n)=(⟨2,Lib.decDigits n,n,0,0⟩,0):=by
  unfold zO;rw[h1,h2,aI (by omega)];have hz:¬ (1<(Lib.decDigits n).length/\(Lib.decDigits n)[0]? = some 48):=by
   rintro ⟨k1,k2⟩;rcases Bo n with rfl | hp
   .rw[Lib.decDigits_one (by decide)] at k1;simp at k1
   .obtain ⟨b,r,k3,k4⟩:=aP8 n hp;rw[k3] at k2;simp at k2;exact k4 k2
  rw[aI hz,aP9 n h]
 have hR:bz (Lib.decDigits n)=(⟨2,Lib.decDigits n,n,0,0⟩,0):=by
  unfold bz;match hd:Lib.decDigits n,hne with
  | b::r,_ =>dsimp only;rw[Y8 n b (by rw[hd]; simp),aH rfl,<- hd];rw[hN]
 refine ⟨hne,?_,?_,show (2:Int)≠4 by decide⟩
 .show (bz (Lib.decDigits n)).2=0;rw[hR]
 .show jS (bz (Lib.decDigits n)).1=_;rw[hR]
theorem bDZ:∀ s,s∈ui->Tv (tS s):=by
 have:∀ s,s∈ui->s ≠ []/\(bz s).2=0/\jS (bz s).1=(3,s,0):=by decide
 intro s hs;obtain ⟨h1,h2,h3⟩:=this s hs;exact ⟨h1,h2,h3,show (3:Int)≠4 by decide⟩
theorem bD' {s:List UInt8} (h:nameB s=true):Tv (tW s):=by
 unfold nameB at h;simp only[aY,gu] at h;obtain ⟨h1,h2,h3⟩:=h;have hall:∀ (l:List UInt8) (k:Nat),xy l k=true->∀ b,b∈l->lW b.toNat=true:=by
  intro l;induction l with
  | nil=>intro _ _ b hb; cases hb
  | cons c l ih =>
   intro k h b hb;rw[xy,aY] at h;rcases fQ.1 hb with rfl | hb
   .have:=h.1;unfold zQ at this;unfold lW;rw[ut] at this ⊢;rcases this with h | h
    .exact .inl h
    .rw[aY] at h; exact .inr h.2
   .exact ih (k+1) h.2 b hb
 match hs:s,h2 with
 | b::r,_ =>
  have hb:isLet b.toNat=true:=by rw[xy,aY] at h1;have:=h1.1;unfold zQ at this;simpa using this
  have hdg:fB b.toNat=false:=by rw[Bool.eq_false_iff];intro c;simp only[fB,aY,gu] at c;simp only[isLet,ut,aY,gu,kF] at hb;omega
  have hw:zi (b::r)=(⟨1,b::r,0,0,0⟩,0):=by unfold zi;rw[IX (hall _ 0 h1),aI (by omega)]
  have hR:bz (b::r)=(⟨1,b::r,0,0,0⟩,0):=by unfold bz;dsimp only;rw[hdg,hb];simp only[rJ,qV,fD];exact hw
  refine ⟨by simp,?_,?_,show (1:Int)≠4 by decide⟩
  .show (bz (b::r)).2=0;rw[hR]
  .show jS (bz (b::r)).1=_;rw[hR]
theorem aE3:∀ (T:List Tok),([32]:List UInt8).intercalate (T.map (·.text))=joinL T
 | []=>rfl
 | [t]=>by simp[List.intercalate,joinL]
 | t::u::l=>by have:=aE3 (u::l);rw[joinL,<- this];simp[List.intercalate,List.intersperse]
theorem aEE:∀ (T:List Tok),(∀ t,t∈T->t.text.length<=32)->(joinL T).length<=33*T.length
 | [],_=>by simp[joinL]
 | [t],h=>by have:=h t (by simp);show t.text.length<=33;omega
 | t::u::l,h=>by
  have h1:=h t (by simp);have h2:=aEE (u::l) fun t ht=>h t (by simp[ht])
  have e:(t::u::l).length=(u::l).length+1:=rfl;rw[joinL,aK,aU];omega
theorem a2W:∀ (l:List (List UInt8)),strsOf (l.map fun s=>PV.str (bs s))=some (l.map bs)
 | []=>rfl
 | s::l=>by rw[o8,strsOf,a2W l]; rfl
theorem aEG (es:List PV) (sep:ByteArray):CS 15 [.sl false 1 es,.str sep] []=(match strsOf es with
 | some xs=>(match Nat.ble (Cf xs sep).length 140737488355328&&Nat.ble xs.length 140737488355328 with
  | true=>some (PV.str ⟨(Cf xs sep).toArray⟩,([]:aF))
  | false=>none)
 | none=>none):=rfl
theorem aED (T:List Tok):Cf (T.map fun t=>bs t.text) ⟨#[32]⟩=joinL T:=by unfold Cf Lib.join;rw[Bi,<- aE3];rfl
theorem sjc (T:List Tok) (h1:T.length<=1000000) (h2:(joinL T).length<=1000000):SS.CC 15 [.sl false 1 (T.map fun t=>PV.str (bs t.text)),.str ⟨#[32]⟩] []=some (.str (bs (joinL T)),[]):=by
 refine JC ?_;have hs:strsOf (T.map fun t=>PV.str (bs t.text))=some (T.map fun t=>bs t.text):=by have:=a2W (T.map (·.text));rw[Bi,Bi] at this;exact this
 rw[aEG,hs];dsimp only;rw[aED,bW,J8 (by omega),J8 (by omega)];rfl
theorem a7P {T T':List Tok} (h:T'.map jS=T.map jS) (hk:∀ t,t∈T->t.kind≠4):∀ t,t∈T'->t.kind≠4:=by
 intro t ht;have hm:jS t∈T.map jS:=by rw[<- h]; exact a4S ht
 obtain ⟨u,hu,e⟩:=kP.1 hm;have:u.kind=t.kind:=congrArg (·.1) e;rw[<- this]; exact hk u hu
theorem a8B (T T':List Tok) (hn:T.length<=1000000) (h:T'.map jS=T.map jS):∀ (m k:Nat),k+m=T.length->UV (T.map aZ) (T'.map aZ) (k:Int)=some (.bool true,[])
 | 0,k,hk=>by
  have hl:T'.length=T.length:=by have:=congrArg List.length h; simpa using this
  rw[aAZ,aT (by rw[bW]; omega),aC]
 | m+1,k,hk=>by
  have hl:T'.length=T.length:=by have:=congrArg List.length h; simpa using this
  have h1:k<T'.length:=by omega
  have h2:k<T.length:=by omega
  have e:jS T'[k]=jS T[k]:=by have:=congrArg (fun l=>l[k]?) h;simp only[gV,fJ h1,fJ h2,o9,wJ] at this;exact this
  have e1:T'[k].kind=T[k].kind:=congrArg (·.1) e;have e2:T'[k].text=T[k].text:=congrArg (·.2.1) e;have e3:T'[k].value=T[k].value:=congrArg (·.2.2) e;have b2A:SS.CC 210 [jf (tk T'[k]),jf (tk T[k])] []=some (.bool true,[]):=by rw[aWC];dsimp only;rw[e1,e2,e3,GG,aG,GG,aG,GG]
  rw[aAZ,aN (by rw[bW]; omega),aG,Po h1,Po h2,bD b2A,uq,aC,bT (by omega)];exact a8B T T' hn h m (k+1) (by omega)
theorem aPQ (T T':List Tok) (hn:T.length<=1000000) (h:T'.map jS=T.map jS):SS.CC 209 [.sl false 5 (T'.map aZ),.sl false 5 (T.map aZ),.func (.func 210) [] []] []=some (.bool true,[]):=by
 have hl:T'.length=T.length:=by have:=congrArg List.length h; simpa using this
 rw[aWB,bW,bW,show ((T'.length:Int) !=(T.length:Int))=false by simp[hl],aC];exact a8B T T' hn h T.length 0 (by omega)
theorem aEC (T:List Tok) (hn:T.length<=1000000):∀ (m k:Nat),k+m=T.length->OZ (T.map aZ) ((T.take k).map fun t=>PV.str (bs t.text)) (k:Int)=OZ (T.map aZ) (T.map fun t=>PV.str (bs t.text)) (T.length:Int)
 | 0,k,hk=>by
  have:k=T.length:=by omega
  rw[this,List.take_length]
 | m+1,k,hk=>by
  have h1:k<T.length:=by omega
  rw[a9J,aN (by rw[bW]; omega),aG,Po h1,ah (aN (by rw[bW,kz]; unfold aV; omega)),bT (by omega)];have:=aEC T hn m (k+1) (by omega);rw[J7 h1,tY] at this;exact this
theorem aJ6 {T:List Tok} (hne:T ≠ []) (ht:∀ t,t∈T->Tv t) (hl:(joinL T).length<=65536):∃ T' e,BU (joinL T) = .ok (T' ++ [e])/\T'.map jS=T.map jS/\e.kind=4:=by obtain ⟨T',e,h1,h2,h3⟩:=aJ7 T hne ht 0 1 0 [];refine ⟨T',e,?_,h2,h3⟩;unfold BU;rw[aI (by omega),bBW,h1];rfl
theorem a7Q:∀ (k n:Nat),n<10 ^ (k+1)->(Lib.decDigits n).length<=k+1
 | 0,n,h=>by rw[Lib.decDigits_one (by omega)]; simp
 | k+1,n,h=>by
  rw[Lib.decDigits];split
  .simp
  .rw[aK,oh];have:=a7Q k (n / 10) (by rw[Nat.pow_succ] at h; omega);omega
section
variable {v:List PV} {d:Int} {T:List Tok} {x:EX}
end
section
variable {v:List PV} {d:Int} {T:List Tok} {x:EX}
end
theorem aMY {a b:List UInt8} (h:bs a=bs b):a=b:=by have:=congrArg ByteArray.toList h;rwa [EH,EH] at this
end Go.Proofs.YtcdceiloganlnaaGreatDoor.W
end

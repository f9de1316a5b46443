/- A part of the proof. -/
import Derived.Test.YtcdceiloganlnaaGreatDoorPl4
import Derived.Test.YtcdceiloganlnaaGreatDoorPl3
import Derived.ProofKit
import Derived.SizedLaws
import Derived.ChangeArms
import Derived.OpenShut
import Derived.ChangeOld
import Derived.Deep.DeepHandedRow
import Derived.Lib.LaidTab
import Derived.Shelf.LaysM
import Derived.Test.YtcdceiloganlnaaGreatDoorRows
import Derived.Test.YtcdceiloganlnaaGreatDoorCards
import Derived.Test.YtcdceiloganlnaaGreatDoorTie
import Derived.Stop.LaidErr
import Derived.JoinedOf
set_option linter.unusedVariables false
set_option linter.unusedSimpArgs false
set_option linter.unnecessarySimpa false
set_option linter.unusedSectionVars false
noncomputable section
open Go.IntKind (i64)
namespace Go.Proofs.YtcdceiloganlnaaGreatDoor.W
open Go.RowKit
theorem gm {C:Cal} {g:FuncId} {a:bSH} {h:aI} {F:PV->aI->R} {r:PV} {h':aI} {v:R} (e:C g a h=some (r,h')) (e2:F r h'=v):AQ C g a h F=v:=by unfold AQ; rw[e]; exact e2
theorem wE {C:Cal} {g:FuncId} {a:bSH} {F:PV->R} {r:PV} {v:R} (e:C g a []=some (r,[])) (e2:F r=v):jF C g a F=v:=by unfold jF; rw[e]; exact e2
theorem QW {g:FuncId} {a:bSH} {n1:bSG} {n2:Int} {K:RS.F (.t [(false,[.S]),(false,[.I .i64])]) R} (e:SS.CC g a []=some (.tuple [.str n1,bSD n2],[])):G0 g a K=K ((n1,()),(n2,()),()):=wE e rfl
theorem bf {g:FuncId} {a:bSH} {n1:Int} {K:RS.F (.ti .i64) R} (e:SS.CC g a []=some (bSD n1,[])):G1 g a K=K n1:=wE e rfl
theorem VX {g:FuncId} {a:bSH} {n1:bSH} {n2:Int} {n3:Int} {n4:Int} {K:RS.F (.t [(false,[.L false 5]),(false,[.I .i64]),(false,[.I .i64]),(false,[.I .i64])]) R} (e:SS.CC g a []=some (.tuple [.sl false 5 n1,bSD n2,bSD n3,bSD n4],[])):VW g a K=K ((n1,()),(n2,()),(n3,()),(n4,()),()):=wE e rfl
theorem oO {g:FuncId} {a:bSH} {s1:bSG} {K:RS.F (.ts) R} (e:SS.CC g a []=some (.str s1,[])):G2 g a K=K s1:=wE e rfl
theorem eF {g:FuncId} {a:bSH} {x1:Sh.V S1} {K:RS.F (.g S1) R} (e:SS.CC g a []=some (A1 x1,[])):zD g a K=K x1:=wE e rfl
theorem bF {g:FuncId} {a:bSH} {b1:Bool} {K:RS.F (.tb) R} (e:SS.CC g a []=some (.bool b1,[])):G3 g a K=K b1:=wE e rfl
theorem aRK {g:FuncId} {a:bSH} {n1:Int} {n2:Bool} {K:RS.F (.t [(false,[.I .i64]),(false,[.B])]) R} (e:SS.CC g a []=some (.tuple [bSD n1,.bool n2],[])):G37 g a K=K ((n1,()),(n2,()),()):=wE e rfl
theorem xC {g:FuncId} {a:bSH} {l1:bSH} {K:RS.F (.tl false 1) R} (e:SS.CC g a []=some (bSE l1,[])):G4 g a K=K l1:=wE e rfl
theorem aBG {g:FuncId} {a:bSH} {n1:Int} {n2:Int} {K:RS.F (.t [(false,[.I .i64]),(false,[.I .i64])]) R} (e:SS.CC g a []=some (.tuple [bSD n1,bSD n2],[])):G6 g a K=K ((n1,()),(n2,()),()):=wE e rfl
theorem lu {g:FuncId} {a:bSH} {l1:bSH} {K:RS.F (.tl true 1) R} (e:SS.CC g a []=some (.sl true 1 l1,[])):G7 g a K=K l1:=wE e rfl
theorem bT {g:FuncId} {a:bSH} {h:aI} {y1:Sh.V gY} {K:RS.F (.t []) (fD [.c gY])} (e:SS.CC g a h=some (.tuple [],[aF y1])):ah g a h K=K () y1:=gm e rfl
theorem aBH {g:FuncId} {a:bSH} {h:aI} {y1:Sh.V aH} {K:RS.F (.z (.pt 0 0)) (fD [.c aH])} (e:SS.CC g a h=some (bSF,[aB y1])):H14 g a h K=K y1:=gm e rfl
theorem fQ {g:FuncId} {a:bSH} {h:aI} {y1:Sh.V aH} {K:RS.F (.t []) (fD [.c aH])} (e:SS.CC g a h=some (.tuple [],[aB y1])):cO g a h K=K () y1:=gm e rfl
theorem MJ {g:FuncId} {a:bSH} {h:aI} {n1:Int} {n2:Int} {n3:Int} {y4:Sh.V aH} {K:RS.F (.t [(false,[.I .i64]),(false,[.I .i64]),(false,[.I .i64])]) (fD [.c aH])} (e:SS.CC g a h=some (.tuple [bSD n1,bSD n2,bSD n3],[aB y4])):QZ g a h K=K ((n1,()),(n2,()),(n3,()),()) y4:=gm e rfl
theorem aBI {g:FuncId} {a:bSH} {h:aI} {n1:Int} {y2:Sh.V MS} {K:RS.F (.ti .i64) (fD [.c MS])} (e:SS.CC g a h=some (bSD n1,[iV y2])):H19 g a h K=K n1 y2:=gm e rfl
theorem lw {g:FuncId} {a:bSH} {h:aI} {x1:Sh.V lS} {y2:Sh.V aH} {K:RS.F (.g lS) (fD [.c aH])} (e:SS.CC g a h=some (kD x1,[aB y2])):nH g a h K=K x1 y2:=gm e rfl
theorem uU {g:FuncId} {a:bSH} {h:aI} {s1:bSG} {y2:Sh.V aH} {K:RS.F (.ts) (fD [.c aH])} (e:SS.CC g a h=some (.str s1,[aB y2])):sJ g a h K=K s1 y2:=gm e rfl
theorem jd {g:FuncId} {a:bSH} {h:aI} {b1:Bool} {y2:Sh.V aH} {K:RS.F (.tb) (fD [.c aH])} (e:SS.CC g a h=some (.bool b1,[aB y2])):kK g a h K=K b1 y2:=gm e rfl
theorem aRS {g:FuncId} {a:bSH} {h:aI} {b1:Bool} {y2:Sh.V ve} {K:RS.F (.tb) (fD [.c ve])} (e:SS.CC g a h=some (.bool b1,[jC y2])):zF g a h K=K b1 y2:=gm e rfl
theorem ny {g:FuncId} {a:bSH} {h:aI} {y1:Sh.V gY} {K:RS.F (.t []) (fD [.z nz,.c gY])} (e:SS.CC g a h=some (.tuple [],[some [.ptr 1 0],aF y1])):eY g a h K=K () y1:=gm e rfl
theorem aBR {g:FuncId} {a:bSH} {h:aI} {n1:Int} {y2:Sh.V aH} {K:RS.F (.ti .i64) (fD [.c aH])} (e:SS.CC g a h=some (bSD n1,[aB y2])):H67 g a h K=K n1 y2:=gm e rfl
set_option maxRecDepth 1000000
section
theorem aWM (a0:bSG):SS.CC 100 [.str a0] []=VW 99 [.str a0] fun u1=>some (bSF,[aB (u1.1.1,u1.2.1.1,u1.2.2.1.1,u1.2.2.2.1.1,())]):=cc
theorem aWN (h0:Sh.V aH):SS.CC 104 [bSF] [aB h0]=aA (h0.2.2.2.1==0) (some (.tuple [bSD 0,bSD 0,bSD 0],[aB h0])) (some (.tuple [bSD h0.2.1,bSD h0.2.2.1,bSD h0.2.2.2.1],[aB h0])):=cc
theorem aXK (a1:bSG) (h0:Sh.V aH):SS.CC 128 [bSF,.str a1] [aB h0]=kK 197 [bSF,.str a1] [aB h0] fun b1 u2=>aA (!b1) (cO 133 [bSF,bSD 14] [aB u2] fun _ u8=>some (.tuple [],[aB u8])) (some (.tuple [],[aB u2])):=cc
theorem aXL (h0:Sh.V aH):SS.CC 129 [bSF] [aB h0]=nH 131 [bSF] [aB h0] fun u1 u6=>aA (u1.1 != 1) (cO 133 [bSF,bSD 14] [aB u6] fun _ u12=>some (.str ⟨#[]⟩,[aB u12])) (nH 220 [bSF] [aB u6] fun pJ u23=>some (.str pJ.2.1,[aB u23])):=cc
theorem aXM (h0:Sh.V aH):SS.CC 131 [bSF] [aB h0]=aA (h0.2.2.2.1 != 0) (some (kD (4,⟨#[]⟩,0,h0.2.1,h0.2.2.1,()),[aB h0])) (bD lS h0.1 0 fun u2=>some (kD u2,[aB h0])):=cc
theorem aXN (a1:Int) (h0:Sh.V aH):SS.CC 133 [bSF,bSD a1] [aB h0]=sK fun ag=>aA (h0.2.2.2.1 != 0) (some (.tuple [],[aB h0])) (aA (a1==0) (some (.tuple [],[aB h0])) (nH 131 [bSF] [aB h0] fun u1 u6=>ag 1 (some (.tuple [],[aB (u6.1,u1.2.2.2.1,u1.2.2.2.2.1,a1,())])))):=Et cc
theorem b0G (a1:bSG) (h0:Sh.V aH):SS.CC 197 [bSF,.str a1] [aB h0]=kK 257 [bSF,.str a1] [aB h0] fun b1 u2=>aA b1 (nH 220 [bSF] [aB u2] fun u8 u13=>some (.bool b1,[aB u13])) (some (.bool b1,[aB u2])):=cc
theorem b0W (h0:Sh.V aH):SS.CC 220 [bSF] [aB h0]=nH 131 [bSF] [aB h0] fun u1 u6=>aA (u6.2.2.2.1==0) (aA (u1.1 != 4) (chk (decide (0<=1)&&decide (1<=(u6.1.length:Int))) (some (kD u1,[aB ((u6.1.drop (1:Int).toNat),u6.2.1,u6.2.2.1,u6.2.2.2.1,())]))) (some (kD u1,[aB u6]))) (some (kD u1,[aB u6])):=cc
theorem b2W (a1:bSG) (h0:Sh.V aH):SS.CC 257 [bSF,.str a1] [aB h0]=nH 131 [bSF] [aB h0] fun u1 u6=>aA (u1.1==1) (some (.bool (u1.2.1.toList==a1.toList),[aB u6])) (aA (u1.1==3) (some (.bool (u1.2.1.toList==a1.toList),[aB u6])) (some (.bool false,[aB u6]))):=cc
def b4M:KT:=SS.rK Tryz.f276 276 1 []
def SY (x1:Int) (x2:Int) (q0:Sh.V aH) (x7:Int):R:=bH (SS.xX 276 47 1) (cS Tryz.f276 15) b4M ⟨[(0,bSF),(1,bSD x1),(2,bSD x2),(7,bSD x7)],[aB q0]⟩
theorem b4L (x1:Int) (x2:Int) (q0:Sh.V aH) (x7:Int):SY x1 x2 q0 x7=nH 131 [bSF] [aB q0] fun u1 u6=>aA (u1.1 != 2) (cO 133 [bSF,bSD 14] [aB u6] fun _ u12=>some (bSD 0,[aB u12])) (aA (decide ((i64.wrap (x7*u1.2.2.1))<x1)) (cO 133 [bSF,bSD 2] [aB u6] fun _ pJ=>some (bSD 0,[aB pJ])) (aA (decide (x2<(i64.wrap (x7*u1.2.2.1)))) (cO 133 [bSF,bSD 2] [aB u6] fun _ u24=>some (bSD 0,[aB u24])) (nH 220 [bSF] [aB u6] fun u30 u35=>some (bSD (i64.wrap (x7*u1.2.2.1)),[aB u35])))):=by kernel_rfl
theorem b4N (a1:Int) (a2:Int) (h0:Sh.V aH):SS.CC 276 [bSF,bSD a1,bSD a2] [aB h0]=nH 131 [bSF] [aB h0] fun u1 u6=>aA (u1.1==3) (aA (u1.2.1.toList==(⟨#[45]⟩:bSG).toList) (nH 220 [bSF] [aB u6] fun u12 yc=>SY a1 a2 yc (-1)) (SY a1 a2 u6 1)) (SY a1 a2 u6 1):=cc
end
structure RA where
 toks:List Tok
 line:Int
 sS:Int
 e:Int
abbrev tk (t:Tok):Sh.V lS:=(t.kind,bs t.text,t.value,t.line,t.sS,())
abbrev RA.v (A:RA):Sh.V aH:=(A.toks.map ay,A.line,A.sS,A.e,())
def Vm (t:Tok):Prop:=(t.kind=1/\t.text∉tV)\/(t.kind=2/\0<=t.value/\t.value<=65536)\/(t.kind=3/\t.text∈tV)
def di:List Tok->Prop
 | []=>False
 | t::l=>(t.kind=4/\l = [])\/(Vm t/\di l)
def RA.ok (A:RA):Prop:=A.e=0->di A.toks
def RA.aDN (A:RA):Tok:=⟨4,[],0,A.line,A.sS⟩
def RA.pk (A:RA):Tok:=if A.e=0 then A.toks.headD A.aDN else A.aDN
theorem RA.ok.ne {A:RA} (h:A.ok) (he:A.e=0):∃ t tl,A.toks=t::tl:=by
 have:=h he;match hA:A.toks with
 | []=>rw[hA] at this; exact this.elim
 | t::tl=>exact ⟨t,tl,rfl⟩
theorem ug {n:Int} (h:n=0):(n != 0)=false:=by simp[h]
theorem xM {n:Int} (h:n≠0):(n != 0)=true:=by simp[h]
theorem a0W {n:Int} (h:n=0):(n==0)=true:=by simp[h]
theorem WJ {n:Int} (h:n≠0):(n==0)=false:=by simp[h]
theorem peek {A:RA} (h:A.ok):SS.CC 131 [bSF] [aB A.v]=some (kD (tk A.pk),[aB A.v]):=by
 rw[aXM];dsimp only;unfold RA.pk;by_cases he:A.e=0
 .obtain ⟨t,tl,ht⟩:=h.ne he;rw[ug he,aC,aJ he,ht]; rfl
 .rw[xM he,aG,aK he]; rfl
theorem pk4 {A:RA} (he:A.e≠0):A.pk.kind=4:=by unfold RA.pk; rw[aK he]; rfl
def RA.next (A:RA):RA:=if A.e=0/\A.pk.kind≠4 then { A with toks:=A.toks.drop 1 } else A
theorem next {A:RA} (h:A.ok):SS.CC 220 [bSF] [aB A.v]=some (kD (tk A.pk),[aB A.next.v]):=by
 rw[b0W,lw (peek h)];dsimp only;unfold RA.next;by_cases he:A.e=0
 .obtain ⟨t,tl,ht⟩:=h.ne he;rw[a0W he,aG];by_cases hk:A.pk.kind=4
  .rw[show (A.pk.kind != 4)=false by simp[hk],aC,aK (by simp[hk])]
  .have hl:(A.toks.map ay).length=tl.length+1:=by rw[ht]; simp
   have hc:(decide ((0:Int)<=1)&&decide ((1:Int)<=((A.toks.map ay).length:Int)))=true:=by rw[aO (by omega),aO (by rw[hl]; omega)]; rfl
   rw[show (A.pk.kind != 4)=true by simp[hk],aG,aJ ⟨he,hk⟩];refine (aX hc).trans ?_;show some (kD (tk A.pk),[aB ((A.toks.map ay).drop 1,A.line,A.sS,A.e,())])=some (kD (tk A.pk),[aB ((A.toks.drop 1).map ay,A.line,A.sS,A.e,())]);rw[List.map_drop]
 .rw[WJ he,aC,aK (by simp[he])]
theorem RA.ok.next {A:RA} (h:A.ok):A.next.ok:=by
 unfold RA.next;split
 .rename_i c;intro he;obtain ⟨t,tl,ht⟩:=h.ne c.1;have h1:=h c.1;have hp:A.pk=t:=by unfold RA.pk; rw[aJ c.1,ht]; rfl
  rw[hp] at c;show di (A.toks.drop 1);rw[ht] at h1 ⊢;rcases h1 with ⟨h1,_⟩ | h1
  .exact absurd h1 c.2
  .exact h1.2
 .exact h
def RA.is (A:RA) (x:bSI):Bool:=(A.pk.kind==1||A.pk.kind==3)&&A.pk.text==x
theorem isc {A:RA} (h:A.ok) (b:bSG):SS.CC 257 [bSF,.str b] [aB A.v]=some (.bool (A.is b.data.toList),[aB A.v]):=by rw[b2W,lw (peek h)];dsimp only;rw[Dh,Q8 b];unfold RA.is;cases A.pk.kind==1<;>cases A.pk.kind==3<;>rfl
def RA.take (A:RA) (x:bSI):RA:=bif A.is x then A.next else A
theorem aA2 {A:RA} (h:A.ok) (b:bSG):SS.CC 197 [bSF,.str b] [aB A.v]=some (.bool (A.is b.data.toList),[aB (A.take b.data.toList).v]):=by
 rw[b0G,jd (isc h b)];unfold RA.take;cases A.is b.data.toList with
 | true=>rw[aG,lw (next h)]; rfl
 | false=>rw[aC]; rfl
theorem RA.ok.take {A:RA} (h:A.ok) (x:bSI):(A.take x).ok:=by
 unfold RA.take;cases A.is x with
 | true=>exact h.next
 | false=>exact h
def RA.fail (A:RA) (n:Int):RA:=if A.e=0/\n≠0 then { A with line:=A.pk.line,sS:=A.pk.sS,e:=n } else A
theorem AU {A:RA} (h:A.ok) (n:Int):SS.CC 133 [bSF,bSD n] [aB A.v]=some (.tuple [],[aB (A.fail n).v]):=by
 rw[aXN];dsimp only[sK];unfold RA.fail;by_cases he:A.e=0
 .rw[ug he,aC];by_cases hn:n=0
  .rw[a0W hn,aG,aK (by simp[hn])]
  .rw[WJ hn,aC,lw (peek h),aJ ⟨he,hn⟩]
 .rw[xM he,aG,aK (by simp[he])]
theorem aE8 {A:RA} {n:Int} (hn:n≠0):(A.fail n).e≠0:=by
 unfold RA.fail;by_cases he:A.e=0
 .rw[aJ ⟨he,hn⟩]; exact hn
 .rw[aK (by simp[he])]; exact he
theorem bHM {A:RA} (h:A.e≠0):A.ok:=fun e=>absurd e h
theorem RA.ok.fail {A:RA} (h:A.ok) (n:Int):(A.fail n).ok:=by
 by_cases hn:n=0
 .unfold RA.fail; rw[aK (by simp[hn])]; exact h
 .exact bHM (aE8 hn)
theorem bH4 {A:RA} (h:A.e≠0):A.next=A:=by unfold RA.next; rw[aK (by simp[h])]
theorem aVZ {A:RA} (h:A.e≠0) (n:Int):A.fail n=A:=by unfold RA.fail; rw[aK (by simp[h])]
theorem bH5 (A:RA):A.next.e=A.e:=by unfold RA.next; split<;>rfl
def RA.exp (A:RA) (x:bSI):RA:=bif A.is x then A.next else A.fail 14
theorem aE6 {A:RA} (h:A.ok) (b:bSG):SS.CC 128 [bSF,.str b] [aB A.v]=some (.tuple [],[aB (A.exp b.data.toList).v]):=by
 rw[aXK,jd (aA2 h b)];unfold RA.take RA.exp;cases A.is b.data.toList with
 | true=>rfl
 | false=>show aA true _ _=_; rw[aG,qN,fQ (AU h 14)]; rfl
theorem RA.ok.exp {A:RA} (h:A.ok) (x:bSI):(A.exp x).ok:=by
 unfold RA.exp;cases A.is x with
 | true=>exact h.next
 | false=>exact h.fail 14
def RA.name (A:RA):RA:=if A.pk.kind=1 then A.next else A.fail 14
def RA.aMV (A:RA):bSI:=if A.pk.kind=1 then A.pk.text else []
theorem bH2 {A:RA} (h:A.ok):SS.CC 129 [bSF] [aB A.v]=some (.str (bs A.aMV),[aB A.name.v]):=by
 rw[aXL,lw (peek h)];dsimp only;unfold RA.name RA.aMV;by_cases hk:A.pk.kind=1
 .rw[show (A.pk.kind != 1)=false by simp[hk],aC,lw (next h),aJ hk,aJ hk]
 .rw[show (A.pk.kind != 1)=true by simp[hk],aG,fQ (AU h 14),aK hk,aK hk]; rfl
theorem RA.ok.name {A:RA} (h:A.ok):A.name.ok:=by
 unfold RA.name; split
 .exact h.next
 .exact h.fail 14
def RA.num (A:RA) (sg lo hi:Int):RA:=if A.pk.kind=2 then (if i64.wrap (sg*A.pk.value)<lo\/hi<i64.wrap (sg*A.pk.value) then A.fail 2 else A.next) else A.fail 14
def RA.UE (A:RA) (sg lo hi:Int):Int:=if A.pk.kind=2 then (if i64.wrap (sg*A.pk.value)<lo\/hi<i64.wrap (sg*A.pk.value) then 0 else i64.wrap (sg*A.pk.value)) else 0
theorem a6L {A:RA} (h:A.ok) (sg lo hi:Int):SY lo hi A.v sg=some (bSD (A.UE sg lo hi),[aB (A.num sg lo hi).v]):=by
 rw[b4L,lw (peek h)];dsimp only;unfold RA.num RA.UE;by_cases hk:A.pk.kind=2
 .rw[show (A.pk.kind != 2)=false by simp[hk],aC,aJ hk,aJ hk];by_cases h1:i64.wrap (sg*A.pk.value)<lo
  .rw[aO h1,aG,fQ (AU h 2),aJ (.inl h1),aJ (.inl h1)]
  .rw[aT h1,aC];by_cases h2:hi<i64.wrap (sg*A.pk.value)
   .rw[aO h2,aG,fQ (AU h 2),aJ (.inr h2),aJ (.inr h2)]
   .have:¬ (i64.wrap (sg*A.pk.value)<lo\/hi<i64.wrap (sg*A.pk.value)):=by simp[h1,h2]
    rw[aT h2,aC,lw (next h),aK this,aK this]
 .rw[show (A.pk.kind != 2)=true by simp[hk],aG,fQ (AU h 14),aK hk,aK hk]
theorem RA.ok.num {A:RA} (h:A.ok) (sg lo hi:Int):(A.num sg lo hi).ok:=by
 unfold RA.num; split
 .split
  .exact h.fail 2
  .exact h.next
 .exact h.fail 14
def RA.mi (A:RA):Bool:=A.pk.kind==3&&A.pk.text == [45]
def RA.int (A:RA) (lo hi:Int):RA:=bif A.mi then A.next.num (-1) lo hi else A.num 1 lo hi
def RA.YY (A:RA) (lo hi:Int):Int:=bif A.mi then A.next.UE (-1) lo hi else A.UE 1 lo hi
theorem bD7 {A:RA} (h:A.ok) (lo hi:Int):SS.CC 276 [bSF,bSD lo,bSD hi] [aB A.v]=some (bSD (A.YY lo hi),[aB (A.int lo hi).v]):=by
 rw[b4N,lw (peek h)];dsimp only;rw[Dh,Q8 ⟨#[45]⟩];show aA (A.pk.kind==3) (aA (A.pk.text == [45]) _ _) _=_;unfold RA.int RA.YY RA.mi;cases A.pk.kind==3 with
 | false=>rw[aC,Q7,qN,qN]; exact a6L h 1 lo hi
 | true =>
  rw[aG,DC];cases A.pk.text == [45] with
  | false=>rw[aC,qN,qN]; exact a6L h 1 lo hi
  | true=>rw[aG,QK,QK,lw (next h)]; exact a6L h.next (-1) lo hi
theorem RA.ok.int {A:RA} (h:A.ok) (lo hi:Int):(A.int lo hi).ok:=by
 unfold RA.int;cases A.mi with
 | true=>exact h.next.num _ _ _
 | false=>exact h.num _ _ _
theorem aDW (A:RA):SS.CC 104 [bSF] [aB A.v]=some (.tuple [bSD (if A.e=0 then 0 else A.line),bSD (if A.e=0 then 0 else A.sS),bSD A.e],[aB A.v]):=by
 rw[aWN];dsimp only;by_cases he:A.e=0
 .rw[a0W he,aG,aJ he,aJ he,he]
 .rw[WJ he,aC,aK he,aK he]
theorem aNC:∀ {l:bSI} {n m:Nat},qY l n=some m->n<=65536->m<=65536
 | [],n,m,h,h2=>by simp[qY] at h; omega
 | b::l,n,m,h,h2=>by
  rw[qY] at h;split at h
  .cases h
  .exact aNC h (by omega)
theorem bFL {l:bSI} {b:UInt8} (h:isLet b.toNat=true):b::l∉tV:=by
 intro hm;have:∀ x∈tV,∀ b l,x=b::l->isLet b.toNat=false:=by
  intro x hx b l e;subst e;revert hx
  simp only[tV,iQ,Lj,vP,vV];rintro (⟨rfl,_⟩ | ⟨rfl,_⟩ | ⟨rfl,_⟩ | ⟨rfl,_⟩ | ⟨rfl,_⟩ | ⟨rfl,_⟩ | ⟨rfl,_⟩ | ⟨rfl,_⟩ | ⟨rfl,_⟩ | ⟨rfl,_⟩ | ⟨rfl,_⟩ | ⟨rfl,_⟩ | ⟨rfl,_⟩ | ⟨rfl,_⟩ | ⟨rfl,_⟩ | ⟨rfl,_⟩ | ⟨rfl,_⟩ | ⟨rfl,_⟩ | ⟨rfl,_⟩ | ⟨rfl,_⟩ | ⟨rfl,_⟩ | ⟨rfl,_⟩ | ⟨rfl,_⟩ | ⟨rfl,_⟩ | ⟨rfl,_⟩ | ⟨rfl,_⟩)<;>decide
 rw[this _ hm b l rfl] at h;cases h
theorem bKE {l:bSI} (h:(bu l).2=0) (line sS:Int):Vm ((bu l).1.at line sS):=by
 unfold bu at h ⊢;match l,h with
 | [],h=>exact absurd h (by decide)
 | b::r,h =>
  dsimp only at h ⊢;cases hd:eU b.toNat with
  | true =>
   rw[hd,aJ rfl] at h;rw[aJ rfl];unfold Ah at h ⊢;split at h
   .cases h
   .rename_i c1;rw[aK c1];split at h
    .cases h
    .rename_i c2;rw[aK c2];split at h
     .cases h
     .rename_i n hn;have h2:=aNC hn (by omega);exact .inr (.inl ⟨rfl,by show (0:Int)<=(n:Int); omega,by show (n:Int)<=65536; omega⟩)
  | false =>
   rw[hd] at h;simp only[uP,tX] at h ⊢;cases hw:isLet b.toNat with
   | true =>
    rw[hw] at h;simp only[gV] at h ⊢;unfold yl at h ⊢;split at h
    .cases h
    .rename_i c;rw[aK c];refine .inl ⟨rfl,?_⟩;show fP kQ (b::r)∉tV;unfold fP;rw[DL,show kQ b.toNat=true by simp[kQ,hw],aJ rfl];exact bFL hw
   | false =>
    rw[hw] at h;simp only[uP,tX] at h ⊢;unfold D5 at h ⊢;cases hs:GG (b::r) with
    | none=>rw[hs] at h; exact absurd h (by decide)
    | some x=>exact .inr (.inr ⟨rfl,(a9' hs).1⟩)
theorem aQR:∀ {a b:List Tok},(∀ t,t∈a->Vm t)->di b->di (a ++ b)
 | [],_,_,h=>h
 | t::a,b,ha,h => .inr ⟨ha t (by simp),aQR (fun x hx=>ha x (by simp[hx])) h⟩
theorem scan_ok:∀ (f:Nat) (rest:bSI) (i line start:Nat) (acc ts:List Tok),(∀ t,t∈acc->Vm t)->wU f rest i line start acc = .ok ts->di ts
 | 0,_,_,_,_,_,_,_,h=>by cases h
 | f+1,rest,i,line,start,acc,ts,ha,h=>by
  rw[wU] at h;split at h
  .injection h with h
   rw[<- h];exact aQR ha (.inl ⟨rfl,rfl⟩)
  .split at h
   .rename_i c;refine scan_ok f _ _ _ _ _ ts (fun t ht => ?_) h;rcases yA.1 ht with ht | ht
    .exact ha t ht
    .simp only[DK] at ht;rw[ht];exact bKE c _ _
   .cases h
theorem a9Q {l:bSI} {ts:List Tok} (h:rX l = .ok ts):di ts:=by
 unfold rX at h;split at h
 .cases h
 .exact scan_ok _ _ _ _ _ _ _ (fun _ h=>by cases h) h
def Z9 (l:bSI):RA:=match rX l with | .ok ts=>⟨ts,0,0,0⟩ | .err a b e=>⟨[],a,b,e⟩
theorem aN1 (l:bSI):SS.CC 100 [.str (bs l)] []=some (bSF,[aB (Z9 l).v]):=by
 have Hu:SS.CC 99 [.str (bs l)] []=some (Cc (rX l),[]):=by rw[J5 dZ]; rfl
 rw[aWM];unfold Z9;cases hs:rX l with
 | ok ts=>rw[hs] at Hu; exact (VX (show SS.CC 99 [.str (bs l)] []=some (.tuple [.sl false 5 (ts.map ay),bSD 0,bSD 0,bSD 0],[]) from Hu)).trans rfl
 | err a b e=>rw[hs] at Hu; exact (VX (show SS.CC 99 [.str (bs l)] []=some (.tuple [.sl false 5 [],bSD a,bSD b,bSD e],[]) from Hu)).trans rfl
section
end
section
theorem aXD (a0:Int):SS.CC 118 [bSD a0] []=aA (a0==2) (some (.str ⟨#[43]⟩,[])) (aA (a0==3) (some (.str ⟨#[45]⟩,[])) (aA (a0==4) (some (.str ⟨#[42]⟩,[])) (aA (a0==6) (some (.str ⟨#[61,61]⟩,[])) (aA (a0==7) (some (.str ⟨#[33,61]⟩,[])) (aA (a0==8) (some (.str ⟨#[60]⟩,[])) (aA (a0==9) (some (.str ⟨#[60,61]⟩,[])) (aA (a0==11) (some (.str ⟨#[38,38]⟩,[])) (some (.str ⟨#[124,124]⟩,[]))))))))):=cc
end
section
theorem b1P (a0:Sh.V S1) (a1:Sh.V S1):SS.CC 23 [A1 a0,A1 a1] []=aA (a0.1==a1.1) (aA (a0.2.1==a1.2.1) (aA (a0.2.2.1==a1.2.2.1) (G3 106 [.sl false 4 a0.2.2.2.1,.sl false 4 a1.2.2.2.1,.func (.func 23) [] []] fun b1=>some (.bool b1,[])) (some (.bool false,[]))) (some (.bool false,[]))) (some (.bool false,[])):=cc
theorem b34 (a0:bSH) (a1:bSG):SS.CC 25 [bSE a0,.str a1] []=G1 108 [bSE a0,.str a1] fun n1=>some (.bool (decide (0<=n1)),[]):=cc
def aWO:KT:=SS.rK Tryz.f106 106 0 []
def aWP:KT:=SS.jK 106 32 0 (cS Tryz.f106 15) aWO
def aWQ:KT:=aj 0 aWP
def XQ (x1:bSH) (x15:bSH) (x17:Int):R:=SS.LL (SS.ae 106 32) 0 [1,2,15,16,17] 0 (cS Tryz.f106 75) aWQ ⟨[(1,.sl false 4 x1),(2,.func (.func 23) [] []),(15,.sl false 4 x15),(16,bSD (x15.length:Int)),(17,bSD x17)],[]⟩
theorem aEX (x1:bSH) (x15:bSH) (x17:Int):XQ x1 x15 x17=aA (decide (x17<(x15.length:Int))) (bD S1 x15 x17 fun u2=>bD S1 x1 x17 fun u7=>G3 23 [A1 u2,A1 u7] fun b11=>aA (!b11) (some (.bool false,[])) (XQ x1 x15 (i64.wrap (x17+1)))) (some (.bool true,[])):=ll
theorem aWR (a0:bSH) (a1:bSH):SS.CC 106 [.sl false 4 a0,.sl false 4 a1,.func (.func 23) [] []] []=aA ((a0.length:Int) !=(a1.length:Int)) (some (.bool false,[])) (XQ a1 a0 0):=cc
def aWS:KT:=SS.rK Tryz.f108 108 0 []
def aWT:KT:=SS.jK 108 19 0 (cS Tryz.f108 7) aWS
def aWU:KT:=aj 0 aWT
def XR (x0:bSH) (x1:bSG) (x8:Int):R:=SS.LL (SS.ae 108 19) 0 [0,1,7,8] 0 (cS Tryz.f108 37) aWU ⟨[(0,bSE x0),(1,.str x1),(7,bSD (x0.length:Int)),(8,bSD x8)],[]⟩
theorem aEY (x0:bSH) (x1:bSG) (x8:Int):XR x0 x1 x8=aA (decide (x8<(x0.length:Int))) (dQ x0 x8 fun e1=>vS e1 fun s2=>aA (x1.toList==s2.toList) (some (bSD x8,[])) (XR x0 x1 (i64.wrap (x8+1)))) (some (bSD (-1),[])):=ll
theorem aWV (a0:bSH) (a1:bSG):SS.CC 108 [bSE a0,.str a1] []=XR a0 a1 0:=cc
theorem aXB:SS.CC 116 [] []=some (A1 (6,0,0,[A1 (0,0,0,[],()),A1 (0,0,0,[],())],()),[]):=cc
theorem aXC:SS.CC 117 [] []=some (A1 (7,0,0,[A1 (0,0,0,[],()),A1 (0,0,0,[],())],()),[]):=cc
end
inductive EX where
 | node (op val idx:Int) (args:List EX)
theorem EX.ind {P:EX->Prop} (h:∀ o x i l,(∀ e,e∈l->P e)->P (.node o x i l)):∀ e,P e :=
 fun e=>EX.rec (motive_1:=P) (motive_2:=fun l=>∀ e,e∈l->P e) (fun o x i l ih=>h o x i l ih) (by simp) (fun a l ha hl e he=>by
  rcases iQ.1 he with rfl | he
  .exact ha
  .exact hl e he) e
inductive EX.Len:EX->Prop
 | mk {o v i:Int} {l:List EX}:l.length<=70368744177664->(-9223372036854775808<=v/\v<=9223372036854775807)->(-9223372036854775808<=o/\o<=9223372036854775807)->(-9223372036854775808<=i/\i<=9223372036854775807)->(∀ e,e∈l->EX.Len e)->EX.Len (.node o v i l)
mutual
def ev:EX->Sh.V S1
 | .node o x i l=>(o,x,i,pq l,())
def pq:List EX->bSH
 | [] => []
 | e::l=>A1 (ev e)::pq l
end
theorem a1M:∀ l:List EX,pq l=l.map fun e=>A1 (ev e)
 | []=>rfl
 | e::l=>by rw[pq,a1M l]; rfl
theorem kH (o x i:Int) (l:List EX):ev (.node o x i l)=(o,x,i,pq l,()):=by rw[ev]
abbrev y5 (o:Int) (a:EX):EX := .node o 0 0 [a]
abbrev vk (o:Int) (a b:EX):EX := .node o 0 0 [a,b]
def zE:EX := .node 0 0 0 []
def nE (n:Int):EX := .node 0 n 0 []
def vE (n:Int):EX := .node 1 0 n []
def tE:EX := .node 6 0 0 [zE,zE]
def fE:EX := .node 7 0 0 [zE,zE]
theorem X5 (n:Int):ev (nE n)=(0,n,0,[],()):=rfl
theorem c116:SS.CC 116 [] []=some (A1 (ev tE),[]):=aXB
theorem c117:SS.CC 117 [] []=some (A1 (ev fE),[]):=aXC
def yU (l:List bSG):bSH:=l.map .str
def Jq (s:bSG):List bSG->Nat->Int
 | [],_ => -1
 | x::l,k=>if s=x then (k:Int) else Jq s l (k+1)
theorem aT9 (s x:bSG):(s.toList==x.toList)=decide (s=x):=by
 rw[Q8,Q8];by_cases h:s=x
 .simp[h]
 .have:s.data≠x.data:=fun e=>h (ByteArray.ext e)
  rw[aT h];simpa using this
theorem aJQ (all:List bSG) (hn:all.length<1000000000000) (s:bSG):∀ (l:List bSG) (k:Nat),all.drop k=l->k<=all.length->XR (yU all) s (k:Int)=some (bSD (Jq s l k),[])
 | [],k,h,hk=>by have:all.length<=k:=QA.1 h;rw[aEY,aT (by unfold yU; rw[bM]; omega),aC]; rfl
 | x::l,k,h,hk=>by
  have hlt:k<all.length:=by
   rcases lq k all.length with h' | h'
   .exact h'
   .rw[Ef h'] at h; cases h
  have hg:all[k]? = some x:=by have:=congrArg (fun l=>l[0]?) h;simpa using this
  rw[aEY,aO (by unfold yU; rw[bM]; omega),aG,lH (e := .str x) (by omega) (by unfold yU; rw[nX,iU,hg]; rfl),jR,aT9];rw[Jq];by_cases e:s=x
  .rw[aO e,aG,aJ e]
  .rw[aT e,aC,aK e,wrap64 (by omega) (by omega),show ((k:Int)+1)=((k+1:Nat):Int) by omega];exact aJQ all hn s l (k+1) (by rw[<- a06,h]; rfl) (by omega)
theorem bD1 (l:List bSG) (hn:l.length<1000000000000) (s:bSG):SS.CC 108 [bSE (yU l),.str s] []=some (bSD (Jq s l 0),[]):=by rw[aWV]; exact aJQ l hn s l 0 rfl (BH _)
theorem hasc (l:List bSG) (hn:l.length<1000000000000) (s:bSG):SS.CC 25 [bSE (yU l),.str s] []=some (.bool (decide (0<=Jq s l 0)),[]):=by rw[b34,bf (bD1 l hn s)]
end Go.Proofs.YtcdceiloganlnaaGreatDoor.W
namespace Go.Proofs.YtcdceiloganlnaaGreatDoor
open Go.RowKit Go.ChangeShapes Go.WideShapes Go.ChangeAt
set_option maxRecDepth 100000
theorem bHT:ownKnob Tryz.prog.godebug=none:=by kernel_rfl
theorem aLR:laidOutB Tryz.prog=true:=by kernel_rfl
theorem bGZ:Tryz.prog.follows .mixedOrders=true:=by kernel_rfl
theorem aVT {g:FuncId} {args:List PV} {r:PV} (h:W.SS.CC g args []=kZ r):Ev Tryz.prog g args [] r [] :=MC bGZ W.dZ aRI g args [] r [] h
theorem bKQ {M:Mem} {B:aV}:bC M B [] []:=eu.2 rfl
theorem aON {M:Mem} {B:aV} {p:PV} {ps:List PV} {u:Value} {us:List Value} (h:Rep M B p u) (h2:bC M B ps us):bC M B (p::ps) (u::us):=dD.2 ⟨u,us,rfl,h,h2⟩
def aM0:DataW Unit->List Value
 | .lit (.int k n) => [Value.int k n]
 | _ => []
def bG2:DataW Unit->List Value
 | .agg l=>l.flatMap aM0
 | d=>aM0 d
def bG1:DataW Unit->Array Value
 | .agg l=>(l.flatMap bG2).toArray
 | _ => #[]
def UT (g:Nat) (d:DataW Unit) (h:Array Obj):Array Obj:=h.modify g fun
 | .cells _ t frozen => .cells (bG1 d) t frozen
 | o=>o
noncomputable def laidWorld6 (os:Os):World :={ World.holding Tryz.prog os ⟨#[],#[],[]⟩ with heap:=UT 2 Rows.laid_unicode_utf8_first (UT 3 Rows.laid_unicode_utf8_acceptRanges (UT 4 Rows.laid_math_bits_deBruijn32tab (UT 5 Rows.laid_math_bits_deBruijn64tab (UT 1 Rows.laid_internal_strconv_uint64pow10 (World.holding Tryz.prog os ⟨#[],#[],[]⟩).heap)))) }
theorem bK1 {H:Type}:(Rows.laid_internal_strconv_uint64pow10:DataW H)=Lib.tabData .u64 Lib.pow10Tab:=by kernel_rfl
shelf_lay LaysM.n144 Nm 144 at Tryz as Tryz.laysM144
theorem bC6 {W:World} {rest:List (String×DataW Unit)} (h1:laidMet Tryz.prog (("internal/strconv.uint64pow10",Rows.laid_internal_strconv_uint64pow10)::rest) W) (hs:W.ShapedOpen Tryz.prog):GW W:=by
 rw[bK1] at h1;have ht:=Lib.tabIs_of_head (g:=1) (t:=336) (e:=263) (n:=20) (by kernel_rfl) (by kernel_rfl) (by kernel_rfl) (by kernel_rfl) (by kernel_rfl) (by kernel_rfl) h1;obtain ⟨m,hm⟩:=Tryz.laysM144.s1_3 W hs;have hm:W.cell? ⟨0,0,none⟩=some (.int .i64 m):=by rw[show 0=Tryz.laysM144_ren.g 1 by kernel_rfl]; exact hm
 refine ⟨m,fun b o v hg => ?_⟩;unfold BI at hg;have e:aA1 m = [(0,[Value.int .i64 m]),(1,Lib.pow10Tab.map (Value.int .u64))]:=rfl;rw[e] at hg;by_cases hb:b=0
 .subst hb;have hg:([Value.int .i64 m]:List Value)[o]? = some v:=hg;match o,hg with
  | 0,hg =>cases hg;exact aA'.2 ⟨hm,rfl⟩
  | o+1,hg=>cases hg
 .by_cases hc:b=1
  .subst hc;have hg:(Lib.pow10Tab.map (Value.int .u64))[o]? = some v:=hg;rw[iU] at hg;obtain ⟨z,hz,rfl⟩:=J3.1 hg;have ho:o<Lib.pow10Tab.length:=(eP.1 hz).1;have hc:=ht.cell (g:=1) (by kernel_rfl) o ho;refine aA'.2 ⟨?_,rfl⟩;rw[hc,QB,hz]; rfl
  .have h1:(b==0)=false:=by simpa using hb
   have h2:(b==1)=false:=by simpa using hc
   simp[List.lookup,h1,h2] at hg
theorem bDR {P:Program} {f:FuncId} {fn:Func} {s:ChangeSpec} {c:OpenClaim}
 (h1:(c.wf (OpenSpec.ofChange s)&&laidOutB P&&mapsRowed P&&fn.params.all (P.readableRec ·)&&namedTie P c.named s.vars&&(c.stops == [])&&(P.stops == [])&&(c.knobs == [])&&(P.stopKnobs == []))=true)
 (h2:(c.inPlace==P.inPlace f)=true) (h3:(c.unfollowed==P.unfollowed f)=true) (h4:(c.recurses==P.recurses f)=true) (h5:(c.named==P.varsNamed f)=true)
 (h6:((c.maps==(fn.params.toList ++ s.plain.varTypes P).any (P.mapsRec ·))&&(c.ifaces==(fn.params.toList ++ s.plain.varTypes P).any (P.ifacesRec ·))&&(c.mapsOut==P.mapsAmong fn.resultTypes.toList) &&
  (c.loops==(fn.params.toList ++ s.plain.varTypes P).any (P.loopsFrom ·))&&(c.wideKeys==(fn.params.toList ++ s.plain.varTypes P ++ fn.resultTypes.toList).any (P.wideKeysFrom ·)) &&
  s.vars.all (P.varReadable ·)&&fn.resultTypes.all (fun t=>P.readableRec t&&decide (t<P.types.size))&&(c.ifacesOut==fn.resultTypes.toList.any (P.ifacesRec ·))&&(c.loopsOut==fn.resultTypes.toList.any (P.loopsFrom ·))&&(c.plainKeys==P.plainKeys)&&c.shortTexts.isNone&&P.stopsHeard&&P.mayEnter&&(c.lifted==P.liftsFinal)&&(P.make==some c.make)&&(c.kinds==(if c.domain.isEmpty then [] else fn.params.toList.map fun t=>match P.underlying t with | some (.int k)=>some k | _=>none))&&(c.pinned==c.pinnedBy) &&
  (c.veiled==(fn.params.toList ++ s.plain.varTypes P ++ fn.resultTypes.toList).any (P.veiledRec ·))&&c.veiledFits P fn.params.toList (fn.params.toList ++ s.plain.varTypes P ++ fn.resultTypes.toList))=true):joinedFacts P f fn s c=true:=by
 unfold joinedFacts;simp only[au,and_assoc] at h1 h6 ⊢;exact ⟨h1.1,h1.2.1,h1.2.2.1,h1.2.2.2.1,h1.2.2.2.2.1,h1.2.2.2.2.2.1,h1.2.2.2.2.2.2.1,h1.2.2.2.2.2.2.2.1,h1.2.2.2.2.2.2.2.2,h2,h3,h4,h5,h6⟩
theorem aNL {H:Type} {enc:TypeId×Value->H} {W:World} {hW:GW W} {r:Reach} {b0:Nat} {v:Value} {d:DataW H} {ps:List MemPlace} (hv:Value.okWide Tryz.prog W r b0 5 v) (h:DataW.Trod enc Tryz.prog W 0 (fun _=>true) true 5 v d ps) :
 ∃ c:UInt8,Rep (whole W hW) [] (.int .u8 (c.toNat:Int)) v:=by
 obtain ⟨fuel,hf⟩:=h;cases fuel with
 | zero=>simp[DataW.trod] at hf
 | succ fuel =>
  obtain ⟨n,hc,_,hn⟩:=DataW.trod_int Tryz.underlying5 hf;simp[Lit.wf,IntKind.min,IntKind.max,IntKind.signed,IntKind.bits] at hn;have e:((UInt8.ofNat n.toNat).toNat:Int)=n:=by rw[UInt8.toNat_ofNat'];omega
  refine ⟨UInt8.ofNat n.toNat,?_⟩;rw[e];have h2:v.cells.toList = [v]\/∃ cs,v = .agg cs:=by cases v<;>first | exact .inr ⟨_,rfl⟩ | exact .inl rfl
  rcases h2 with h2 | ⟨cs,rfl⟩
  .rw[h2] at hc;have hv2:v = .int .u8 n:=by simpa using hc
   exact dS.2 hv2
  .exfalso;simp only[Value.okWide,Tryz.underlying5] at hv;unfold Cell.okWide at hv;split at hv<;>simp_all[Cell.ok]
end Go.Proofs.YtcdceiloganlnaaGreatDoor
namespace Go.Proofs.YtcdceiloganlnaaGreatDoor
open Go.RowKit
def Fz (c:Bool) (f:Nat) (rest:List UInt8) (i line start:Nat) (acc:List Tok):Gp :=
 let g:=gW c rest
 let p:=uq (rest.take g) i (line,start)
 match rest.drop g with
 | [] => .ok (acc ++ [(⟨4,[],0,(p.1:Nat),((i+g-p.2+1:Nat):Int)⟩:Tok)])
 | b::r =>
  if (bu (b::r)).2=0 then wU f ((b::r).drop (bu (b::r)).1.text.length) (i+g+(bu (b::r)).1.text.length) p.1 p.2 (acc ++ [(bu (b::r)).1.at (p.1:Nat) ((i+g-p.2+1:Nat):Int)])
  else .err (p.1:Nat) ((i+g-p.2+1:Nat):Int) (bu (b::r)).2
theorem G_step {c c':Bool} {b:UInt8} {r:List UInt8} (h:gW c (b::r)=1+gW c' r) (f i line start:Nat) (acc:List Tok) :
 Fz c f (b::r) i line start acc=Fz c' f r (i+1) (if b=10 then line+1 else line) (if b=10 then i+1 else start) acc:=by
 unfold Fz;rw[h];simp only[VR 1 (gW c' r),VP,List.drop_succ_cons,uq];generalize gW c' r=g;rw[show i+(g+1)=i+1+g by omega];by_cases hb:b=10
 .simp only[hb,gV]
 .simp only[hb,tX]
theorem aRM (c:Bool) (f i line start:Nat) (acc:List Tok):Fz c f [] i line start acc = .ok (acc ++ [(⟨4,[],0,(line:Nat),((i-start+1:Nat):Int)⟩:Tok)]):=by
 have:gW c []=0:=by cases c<;>rfl
 unfold Fz;rw[this]; rfl
theorem a9R:∀ (f f':Nat) (rest:List UInt8) (i line start:Nat) (acc:List Tok),rest.length<f->rest.length<f'->wU f rest i line start acc=wU f' rest i line start acc
 | 0,_,_,_,_,_,_,h,_=>by omega
 | f+1,0,_,_,_,_,_,_,h=>by omega
 | f+1,f'+1,rest,i,line,start,acc,h1,h2=>by
  unfold wU;simp only;split
  .rfl
  .rename_i b r hcons;split
   .rename_i h0;obtain ⟨k4,k5⟩:=ZU h0;have hl:=congrArg List.length hcons;rw[uQ] at hl;exact a9R f f' _ _ _ _ _ (by rw[uQ]; omega) (by rw[uQ]; omega)
   .rfl
def iw (c:Bool) (rest:List UInt8) (i line start:Nat) (acc:List Tok):Gp:=Fz c rest.length rest i line start acc
theorem G_C {c:Bool} {f:Nat} {rest:List UInt8} (h:rest.length<=f) (i line start:Nat) (acc:List Tok):Fz c f rest i line start acc=iw c rest i line start acc:=by
 unfold iw Fz;simp only;split
 .rfl
 .rename_i b r hcons;split
  .rename_i h0;obtain ⟨k4,k5⟩:=ZU h0;have hl:=congrArg List.length hcons;rw[uQ] at hl;exact a9R _ _ _ _ _ _ _ (by rw[uQ]; omega) (by rw[uQ]; omega)
  .rfl
theorem aPI (l:List UInt8) (i line start:Nat) (acc:List Tok):wU (l.length+1) l i line start acc=iw false l i line start acc:=rfl
theorem aBF (c:Bool) (i line start:Nat) (acc:List Tok):iw c [] i line start acc = .ok (acc ++ [(⟨4,[],0,(line:Nat),((i-start+1:Nat):Int)⟩:Tok)]):=aRM c 0 i line start acc
theorem C_step {c c':Bool} {b:UInt8} {r:List UInt8} (h:gW c (b::r)=1+gW c' r) (i line start:Nat) (acc:List Tok) :
 iw c (b::r) i line start acc=iw c' r (i+1) (if b=10 then line+1 else line) (if b=10 then i+1 else start) acc:=by
 rw[iw,G_step h,G_C (by simp)]
theorem a0H {b:UInt8} {r:List UInt8} (h:gW false (b::r)=0) (i line start:Nat) (acc:List Tok) :
 iw false (b::r) i line start acc=if (bu (b::r)).2=0 then iw false ((b::r).drop (bu (b::r)).1.text.length) (i+(bu (b::r)).1.text.length) line start (acc ++ [(bu (b::r)).1.at (line:Nat) ((i-start+1:Nat):Int)])
  else .err (line:Nat) ((i-start+1:Nat):Int) (bu (b::r)).2:=by
 rw[iw,Fz,h];simp only[List.take_zero,List.drop_zero,uq,Ei];split
 .rename_i h0;obtain ⟨k4,k5⟩:=ZU h0;rw[a9R _ (((b::r).drop (bu (b::r)).1.text.length).length+1) _ _ _ _ _ (by rw[uQ]; omega) (by omega)];rfl
 .rfl
theorem bM2 (c:Bool) (b:UInt8) (r:List UInt8):(∃ c',gW c (b::r)=1+gW c' r/\((c=true/\b=10/\c'=false)\/(c=true/\b≠10/\c'=true)\/(c=false/\zN b.toNat=true/\c'=false)\/(c=false/\zN b.toNat=false /\ [47,47].isPrefixOf (b::r)=true/\c'=true))) \/
 (c=false/\zN b.toNat=false /\ [47,47].isPrefixOf (b::r)=false/\gW c (b::r)=0):=by
 cases c with
 | true =>
  left;by_cases h:b=10
  .exact ⟨false,by rw[gW,aJ h],.inl ⟨rfl,h,rfl⟩⟩
  .exact ⟨true,by rw[gW,aK h],.inr (.inl ⟨rfl,h,rfl⟩)⟩
 | false =>
  cases hb:zN b.toNat with
  | true=>exact .inl ⟨false,by rw[gW,aJ hb],.inr (.inr (.inl ⟨rfl,rfl,rfl⟩))⟩
  | false =>
   cases hp : [47,47].isPrefixOf (b::r) with
   | true=>exact .inl ⟨true,by rw[gW,hb,hp]; rfl,.inr (.inr (.inr ⟨rfl,rfl,rfl,rfl⟩))⟩
   | false=>exact .inr ⟨rfl,rfl,rfl,by rw[gW,hb,hp]; rfl⟩
theorem a9F {p:Nat->Bool} {x:UInt8} (hx:p x.toNat=false) (u:List UInt8):∀ (l:List UInt8),fP p (l ++ x::u)=fP p l
 | []=>by unfold fP; rw[Gf,DL,hx]; rfl
 | b::l=>by have:=a9F hx u l;unfold fP at *;rw[lM,DL,DL,this]
theorem aOC {x:UInt8} (u:List UInt8):∀ (y l:List UInt8),(∀ c,c∈y->c≠x)->y.isPrefixOf (l ++ x::u)=y.isPrefixOf l
 | [],l,_=>by simp
 | a::y,[],h=>by have:=h a (by simp);simp[List.isPrefixOf,this]
 | a::y,b::l,h=>by
  have:=aOC u y l fun c hc=>h c (by simp[hc])
  simp only[lM,List.isPrefixOf,this]
theorem find_congr {α:Type} {p q:α->Bool}:∀ {l:List α},(∀ x,x∈l->p x=q x)->l.find? p=l.find? q
 | [],_=>rfl
 | a::l,h=>by
  have:=find_congr (l:=l) fun x hx=>h x (by simp[hx])
  rw[List.find?_cons,List.find?_cons,h a (by simp),this]
theorem bMT:∀ x∈tV,∀ c∈x,c≠32:=by decide
theorem bMS {x:UInt8} (hx:∀ y∈tV,∀ c∈y,c≠x) (u l:List UInt8):GG (l ++ x::u)=GG l:=by unfold GG;exact find_congr fun y hy=>aOC u y l (hx y hy)
theorem bKD {x:UInt8} (h1:kQ x.toNat=false) (hx:∀ y∈tV,∀ c∈y,c≠x) (u:List UInt8) (b:UInt8) (r:List UInt8):bu ((b::r) ++ x::u)=bu (b::r):=by
 have hd:eU x.toNat=false:=by unfold kQ at h1; simp at h1; exact h1.2
 have e1:=a9F h1 u (b::r);have e2:=a9F hd u (b::r);have e3:=bMS hx u (b::r);rw[lM] at *;rw[show bu (b::(r ++ x::u))=if eU b.toNat then Ah (b::(r ++ x::u)) else if isLet b.toNat then yl (b::(r ++ x::u)) else D5 (b::(r ++ x::u)) from rfl,
  show bu (b::r)=if eU b.toNat then Ah (b::r) else if isLet b.toNat then yl (b::r) else D5 (b::r) from rfl]
 unfold Ah yl D5;rw[e1,e2,e3]
end Go.Proofs.YtcdceiloganlnaaGreatDoor
namespace Go.Proofs.YtcdceiloganlnaaGreatDoor.W
open Go.RowKit
set_option maxRecDepth 1000000
def RA.N (A:RA):Nat:=if A.e=0 then A.toks.length else 0
theorem aS7 {A:RA} (h:A.e≠0):A.N=0:=by unfold RA.N; rw[aK h]
structure Le (A A':RA):Prop where
 ok:A'.ok
 bad:A.e≠0->A'=A
 le:A'.N<=A.N
theorem Le.refl {A:RA} (h:A.ok):Le A A:=⟨h,fun _=>rfl,bW _⟩
theorem Le.trans {A B C:RA} (h:Le A B) (k:Le B C):Le A C:=⟨k.ok,fun e=>by have h1:=h.bad e;rw[h1] at k;exact k.bad e,oM k.le h.le⟩
theorem Le.e0 {A B:RA} (h:Le A B) (e:B.e=0):A.e=0:=by
 by_cases c:A.e=0
 .exact c
 .rw[h.bad c] at e; exact absurd e c
theorem bEZ {A:RA} (hk:A.pk.kind≠4):A.e=0:=by
 by_cases c:A.e=0
 .exact c
 .exact absurd (pk4 c) hk
theorem bH6 {A:RA} (h:A.ok) (hk:A.pk.kind≠4):A.next.e=0/\A.next.N<A.N:=by
 have he:=bEZ hk;obtain ⟨t,tl,ht⟩:=h.ne he;have hn:A.next.e=0:=by rw[bH5,he]
 have hd:A.next.toks=A.toks.drop 1:=by unfold RA.next; rw[aJ ⟨he,hk⟩]
 refine ⟨hn,?_⟩;unfold RA.N;rw[aJ hn,aJ he,hd,ht];simp
theorem Le.next {A:RA} (h:A.ok):Le A A.next:=⟨h.next,fun e=>bH4 e,by
 by_cases hk:A.pk.kind=4
 .have:A.next=A:=by unfold RA.next; rw[aK (by simp[hk])]
  rw[this]; exact bW _
 .exact Nat.le_of_lt (bH6 h hk).2⟩
theorem Le.fail {A:RA} (h:A.ok) {n:Int} (hn:n≠0):Le A (A.fail n):=⟨h.fail n,fun e=>aVZ e n,by rw[aS7 (aE8 hn)]; exact BH _⟩
theorem Le.exp {A:RA} (h:A.ok) (x:bSI):Le A (A.exp x):=by
 unfold RA.exp;cases A.is x with
 | true=>exact .next h
 | false=>exact .fail h (by decide)
theorem Le.take {A:RA} (h:A.ok) (x:bSI):Le A (A.take x):=by
 unfold RA.take;cases A.is x with
 | true=>exact .next h
 | false=>exact .refl h
theorem Le.name {A:RA} (h:A.ok):Le A A.name:=by
 unfold RA.name;split
 .exact .next h
 .exact .fail h (by decide)
theorem bMU {A:RA} {x:bSI} (h:A.is x=true):A.take x=A.next:=by unfold RA.take; rw[h]; rfl
theorem bMV {A:RA} {x:bSI} (h:A.is x=false):A.take x=A:=by unfold RA.take; rw[h]; rfl
abbrev EY:bSI := [116,114,117,101]
abbrev Ha:bSI := [102,97,108,115,101]
abbrev MF:=bSG×bSH×bSH×bSH×bSH×bSH×bSH
section
variable {F:MF} {v:bSH} {d:Int} {A B:RA} {x:EX}
end
theorem tlT:(⟨#[116,114,117,101]⟩:bSG).toList=EY:=Q8 _
theorem tlF:(⟨#[102,97,108,115,101]⟩:bSG).toList=Ha:=Q8 _
def zq (o:Int):bSI:=if o=2 then [43] else if o=3 then [45] else if o=4 then [42] else if o=6 then [61,61] else if o=7 then [33,61] else if o=8 then [60] else if o=9 then [60,61] else if o=11 then [38,38] else [124,124]
theorem Uh (o:Int):SS.CC 118 [bSD o] []=some (.str (bs (zq o)),[]):=by
 rw[aXD];unfold zq;simp only[N7,oN];repeat' split
 all_goals rfl
section
variable {F:MF} {l:List bSG} {d:Int}
end
section
def b4E:KT:=SS.rK Tryz.f26 26 0 []
def b4F:KT:=SS.jK 26 55 0 (cS Tryz.f26 7) b4E
def b4G:KT:=aj 0 b4F
def xR (x0:bSG) (x8:Int):R:=SS.LL (SS.ae 26 55) 0 [0,7,8] 0 (cS Tryz.f26 37) b4G ⟨[(0,.str x0),(7,bSD (x0.size:Int)),(8,bSD x8)],[]⟩
theorem aH0 (x0:bSG) (x8:Int):xR x0 x8=aA (decide (x8<(x0.size:Int))) (vz x0 x8 fun c1=>aA (decide (97<=c1)) (aA (decide (c1<=122)) (xR x0 (i64.wrap (x8+1))) (aA (decide (65<=c1)) (aA (decide (c1<=90)) (xR x0 (i64.wrap (x8+1))) (aA (!(c1==95)) (aA (x8==0) (some (.bool false,[])) (aA (decide (c1<48)) (some (.bool false,[])) (aA (decide (57<c1)) (some (.bool false,[])) (xR x0 (i64.wrap (x8+1)))))) (xR x0 (i64.wrap (x8+1))))) (aA (!(c1==95)) (aA (x8==0) (some (.bool false,[])) (aA (decide (c1<48)) (some (.bool false,[])) (aA (decide (57<c1)) (some (.bool false,[])) (xR x0 (i64.wrap (x8+1)))))) (xR x0 (i64.wrap (x8+1)))))) (aA (decide (65<=c1)) (aA (decide (c1<=90)) (xR x0 (i64.wrap (x8+1))) (aA (!(c1==95)) (aA (x8==0) (some (.bool false,[])) (aA (decide (c1<48)) (some (.bool false,[])) (aA (decide (57<c1)) (some (.bool false,[])) (xR x0 (i64.wrap (x8+1)))))) (xR x0 (i64.wrap (x8+1))))) (aA (!(c1==95)) (aA (x8==0) (some (.bool false,[])) (aA (decide (c1<48)) (some (.bool false,[])) (aA (decide (57<c1)) (some (.bool false,[])) (xR x0 (i64.wrap (x8+1)))))) (xR x0 (i64.wrap (x8+1)))))) (aA (decide (0<(x0.size:Int))) (some (.bool (decide ((x0.size:Int)<=32)),[])) (some (.bool false,[]))):=ll
theorem b4H (a0:bSG):SS.CC 26 [.str a0] []=xR a0 0:=cc
theorem aH1 (a0:Sh.V S1) (a1:Int):SS.CC 27 [A1 a0,bSD a1] []=aA (decide (a1<0)) (some (.tuple [bSD 0,bSD 2],[])) (aA (decide (16<a1)) (some (.tuple [bSD 0,bSD 2],[])) (H19 109 [A1 a0,bSD a1,bSD 1,bSF] [iV (0,())] fun n1 u2=>aA (n1 != 0) (some (.tuple [bSD 0,bSD n1],[])) (G1 110 [A1 a0] fun n5=>aA (n5==0) (some (.tuple [bSD 0,bSD 16],[])) (some (.tuple [bSD n5,bSD 0],[]))))):=cc
def b5D:KT:=SS.rK Tryz.f29 29 0 []
def b5E:KT:=SS.jK 29 157 0 (cS Tryz.f29 127) b5D
def b5F:KT:=aj 0 b5E
def Xt (x0:bSH) (x4:Sh.V S1):R:=bH (SS.xX 29 157 0) (cS Tryz.f29 229215) b5F ⟨[(0,bSE x0),(4,.cst (A1 x4))],[]⟩
theorem b5C (x0:bSH) (x4:Sh.V S1):Xt x0 x4=bD S1 x4.2.2.2.1 0 fun u2=>G7 29 [bSE x0,A1 u2,bSD 6] fun l6=>chk (decide (1+l6.length<=aQ)) (some (.sl true 1 (([.str ⟨#[45]⟩]:bSH) ++ l6),[])):=by kernel_rfl
theorem Dy (a0:bSH) (a1:Sh.V S1) (a2:Int):SS.CC 29 [bSE a0,A1 a1,bSD a2] []=G1 115 [A1 a1] fun n1=>aA (decide (n1<a2)) (G7 29 [bSE a0,A1 a1,bSD 0] fun l3=>chk (decide (1+l3.length<=aQ)) (chk (decide ((([.str ⟨#[40]⟩]:bSH) ++ l3).length+1<=aQ)) (some (.sl true 1 ((([.str ⟨#[40]⟩]:bSH) ++ l3) ++ ([.str ⟨#[41]⟩]:bSH)),[])))) (zD 116 [] fun u5=>G3 23 [A1 a1,A1 u5] fun b10=>aA b10 (some (.sl true 1 [.str ⟨#[116,114,117,101]⟩],[])) (zD 117 [] fun u12=>G3 23 [A1 a1,A1 u12] fun b17=>aA b17 (some (.sl true 1 [.str ⟨#[102,97,108,115,101]⟩],[])) (G1 115 [A1 a1] fun n19=>aA (a1.1==0) (G7 56 [bSD a1.2.1] fun l21=>some (.sl true 1 l21,[])) (aA (a1.1==1) (dQ a0 a1.2.2.1 fun e23=>vS e23 fun s24=>some (.sl true 1 [.str s24],[])) (aA (a1.1==10) (bD S1 a1.2.2.2.1 0 fun u26=>G7 29 [bSE a0,A1 u26,bSD 6] fun l30=>chk (decide (1+l30.length<=aQ)) (some (.sl true 1 (([.str ⟨#[33]⟩]:bSH) ++ l30),[]))) (aA (a1.1==5) (bD S1 a1.2.2.2.1 0 fun u33=>aA (u33.1==0) (aA (decide (0<=u33.2.1)) (G7 29 [bSE a0,A1 u33,bSD 0] fun l37=>chk (decide (2+l37.length<=aQ)) (chk (decide ((([.str ⟨#[45]⟩,.str ⟨#[40]⟩]:bSH) ++ l37).length+1<=aQ)) (some (.sl true 1 ((([.str ⟨#[45]⟩,.str ⟨#[40]⟩]:bSH) ++ l37) ++ ([.str ⟨#[41]⟩]:bSH)),[])))) (Xt a0 a1)) (Xt a0 a1)) (aA (a1.1==13) (bD S1 a1.2.2.2.1 0 fun u40=>G7 29 [bSE a0,A1 u40,bSD 1] fun l44=>chk (decide (l44.length+1<=aQ)) (bD S1 a1.2.2.2.1 1 fun zu=>G7 29 [bSE a0,A1 zu,bSD 0] fun l51=>chk (decide ((l44 ++ ([.str ⟨#[63]⟩]:bSH)).length+l51.length<=aQ)) (chk (decide (((l44 ++ ([.str ⟨#[63]⟩]:bSH)) ++ l51).length+1<=aQ)) (bD S1 a1.2.2.2.1 2 fun xy=>G7 29 [bSE a0,A1 xy,bSD 0] fun l58=>chk (decide ((((l44 ++ ([.str ⟨#[63]⟩]:bSH)) ++ l51) ++ ([.str ⟨#[58]⟩]:bSH)).length+l58.length<=aQ)) (some (.sl true 1 ((((l44 ++ ([.str ⟨#[63]⟩]:bSH)) ++ l51) ++ ([.str ⟨#[58]⟩]:bSH)) ++ l58),[])))))) (aA (a1.1==6) (bD S1 a1.2.2.2.1 0 fun u61=>G7 29 [bSE a0,A1 u61,bSD 4] fun l65=>G2 118 [bSD a1.1] fun s67=>chk (decide (l65.length+1<=aQ)) (bD S1 a1.2.2.2.1 1 fun u70=>G7 29 [bSE a0,A1 u70,bSD 4] fun l74=>chk (decide ((l65 ++ ([.str s67]:bSH)).length+l74.length<=aQ)) (some (.sl true 1 ((l65 ++ ([.str s67]:bSH)) ++ l74),[])))) (aA (a1.1==7) (bD S1 a1.2.2.2.1 0 fun u77=>G7 29 [bSE a0,A1 u77,bSD 4] fun OT=>G2 118 [bSD a1.1] fun s83=>chk (decide (OT.length+1<=aQ)) (bD S1 a1.2.2.2.1 1 fun u86=>G7 29 [bSE a0,A1 u86,bSD 4] fun Ti=>chk (decide ((OT ++ ([.str s83]:bSH)).length+Ti.length<=aQ)) (some (.sl true 1 ((OT ++ ([.str s83]:bSH)) ++ Ti),[])))) (aA (a1.1==8) (bD S1 a1.2.2.2.1 0 fun u93=>G7 29 [bSE a0,A1 u93,bSD 4] fun l97=>G2 118 [bSD a1.1] fun s99=>chk (decide (l97.length+1<=aQ)) (bD S1 a1.2.2.2.1 1 fun V4=>G7 29 [bSE a0,A1 V4,bSD 4] fun aK'=>chk (decide ((l97 ++ ([.str s99]:bSH)).length+aK'.length<=aQ)) (some (.sl true 1 ((l97 ++ ([.str s99]:bSH)) ++ aK'),[])))) (aA (a1.1==9) (bD S1 a1.2.2.2.1 0 fun bNH=>G7 29 [bSE a0,A1 bNH,bSD 4] fun Jv=>G2 118 [bSD a1.1] fun aP9=>chk (decide (Jv.length+1<=aQ)) (bD S1 a1.2.2.2.1 1 fun bNI=>G7 29 [bSE a0,A1 bNI,bSD 4] fun aL2=>chk (decide ((Jv ++ ([.str aP9]:bSH)).length+aL2.length<=aQ)) (some (.sl true 1 ((Jv ++ ([.str aP9]:bSH)) ++ aL2),[])))) (bD S1 a1.2.2.2.1 0 fun yZ=>G7 29 [bSE a0,A1 yZ,bSD n19] fun I7=>G2 118 [bSD a1.1] fun aPA=>chk (decide (I7.length+1<=aQ)) (bD S1 a1.2.2.2.1 1 fun bNJ=>G7 29 [bSE a0,A1 bNJ,bSD (i64.wrap (n19+1))] fun TZ=>chk (decide ((I7 ++ ([.str aPA]:bSH)).length+TZ.length<=aQ)) (some (.sl true 1 ((I7 ++ ([.str aPA]:bSH)) ++ TZ),[]))))))))))))))):=cc
theorem b8F (a0:Int):SS.CC 56 [bSD a0] []=aA (decide (a0<0)) (G2 35 [bSD (i64.wrap (0-a0))] fun s1=>some (.sl true 1 [.str ⟨#[45]⟩,.str s1],[])) (G2 35 [bSD a0] fun s3=>some (.sl true 1 [.str s3],[])):=cc
def aEZ:KT:=SS.rK Tryz.f109 109 1 []
def aWX:KT:=SS.jK 109 103 1 (cS Tryz.f109 127) aEZ
def aWY:KT:=aj 1 aWX
def uA (x1:Int) (x2:Int) (x4:Sh.V S1) (aN:Int):R:=bH (SS.xX 109 103 1) (cS Tryz.f109 63) aEZ ⟨[(1,bSD x1),(2,bSD x2),(3,bSF),(4,.cst (A1 x4))],[iV (aN,())]⟩
def XT (x1:Int) (x2:Int) (x87:bSH) (aN:Int) (x89:Int):R:=SS.LL (SS.ae 109 103) 1 [1,2,3,87,88,89] 1 (cS Tryz.f109 607) aWY ⟨[(1,bSD x1),(2,bSD x2),(3,bSF),(87,.sl false 4 x87),(88,bSD (x87.length:Int)),(89,bSD x89)],[iV (aN,())]⟩
theorem aWW (x1:Int) (x2:Int) (x4:Sh.V S1) (aN:Int):uA x1 x2 x4 aN=XT x1 x2 x4.2.2.2.1 aN 0:=by kernel_rfl
theorem aE' (x1:Int) (x2:Int) (x87:bSH) (aN:Int) (x89:Int):XT x1 x2 x87 aN x89=aA (decide (x89<(x87.length:Int))) (bD S1 x87 x89 fun u2=>H19 109 [A1 u2,bSD x1,bSD (i64.wrap (x2+1)),bSF] [iV (aN,())] fun n6 u7=>aA (n6 != 0) (some (bSD n6,[iV u7])) (XT x1 x2 x87 u7.1 (i64.wrap (x89+1)))) (some (bSD 0,[iV (aN,())])):=ll
theorem aWZ (a0:Sh.V S1) (a1:Int) (a2:Int) (bJ:Int):SS.CC 109 [A1 a0,bSD a1,bSD a2,bSF] [iV (bJ,())]=aA (bJ==64) (some (bSD 3,[iV (bJ,())])) (aA (decide (8<a2)) (some (bSD 3,[iV (bJ,())])) (G37 202 [bSD a0.1] fun u1=>aA (!u1.2.1.1) (some (bSD 11,[iV (i64.wrap (bJ+1),())])) (aA ((a0.2.2.2.1.length:Int) != u1.1.1) (some (bSD 4,[iV (i64.wrap (bJ+1),())])) (aA (a0.1 != 0) (aA (a0.2.1 != 0) (some (bSD 6,[iV (i64.wrap (bJ+1),())])) (aA (a0.1 != 1) (aA (a0.2.2.1 != 0) (some (bSD 6,[iV (i64.wrap (bJ+1),())])) (aA (a0.1==0) (G3 203 [bSD a0.2.1,bSD 65536] fun b4=>aA b4 (some (bSD 2,[iV (i64.wrap (bJ+1),())])) (aA (a0.1==1) (aA (decide (a0.2.2.1<0)) (some (bSD 2,[iV (i64.wrap (bJ+1),())])) (aA (decide (a1<=a0.2.2.1)) (some (bSD 2,[iV (i64.wrap (bJ+1),())])) (uA a1 a2 a0 (i64.wrap (bJ+1))))) (uA a1 a2 a0 (i64.wrap (bJ+1))))) (aA (a0.1==1) (aA (decide (a0.2.2.1<0)) (some (bSD 2,[iV (i64.wrap (bJ+1),())])) (aA (decide (a1<=a0.2.2.1)) (some (bSD 2,[iV (i64.wrap (bJ+1),())])) (uA a1 a2 a0 (i64.wrap (bJ+1))))) (uA a1 a2 a0 (i64.wrap (bJ+1)))))) (aA (a0.1==0) (G3 203 [bSD a0.2.1,bSD 65536] fun b6=>aA b6 (some (bSD 2,[iV (i64.wrap (bJ+1),())])) (aA (a0.1==1) (aA (decide (a0.2.2.1<0)) (some (bSD 2,[iV (i64.wrap (bJ+1),())])) (aA (decide (a1<=a0.2.2.1)) (some (bSD 2,[iV (i64.wrap (bJ+1),())])) (uA a1 a2 a0 (i64.wrap (bJ+1))))) (uA a1 a2 a0 (i64.wrap (bJ+1))))) (aA (a0.1==1) (aA (decide (a0.2.2.1<0)) (some (bSD 2,[iV (i64.wrap (bJ+1),())])) (aA (decide (a1<=a0.2.2.1)) (some (bSD 2,[iV (i64.wrap (bJ+1),())])) (uA a1 a2 a0 (i64.wrap (bJ+1))))) (uA a1 a2 a0 (i64.wrap (bJ+1))))))) (aA (a0.1 != 1) (aA (a0.2.2.1 != 0) (some (bSD 6,[iV (i64.wrap (bJ+1),())])) (aA (a0.1==0) (G3 203 [bSD a0.2.1,bSD 65536] fun b8=>aA b8 (some (bSD 2,[iV (i64.wrap (bJ+1),())])) (aA (a0.1==1) (aA (decide (a0.2.2.1<0)) (some (bSD 2,[iV (i64.wrap (bJ+1),())])) (aA (decide (a1<=a0.2.2.1)) (some (bSD 2,[iV (i64.wrap (bJ+1),())])) (uA a1 a2 a0 (i64.wrap (bJ+1))))) (uA a1 a2 a0 (i64.wrap (bJ+1))))) (aA (a0.1==1) (aA (decide (a0.2.2.1<0)) (some (bSD 2,[iV (i64.wrap (bJ+1),())])) (aA (decide (a1<=a0.2.2.1)) (some (bSD 2,[iV (i64.wrap (bJ+1),())])) (uA a1 a2 a0 (i64.wrap (bJ+1))))) (uA a1 a2 a0 (i64.wrap (bJ+1)))))) (aA (a0.1==0) (G3 203 [bSD a0.2.1,bSD 65536] fun b10=>aA b10 (some (bSD 2,[iV (i64.wrap (bJ+1),())])) (aA (a0.1==1) (aA (decide (a0.2.2.1<0)) (some (bSD 2,[iV (i64.wrap (bJ+1),())])) (aA (decide (a1<=a0.2.2.1)) (some (bSD 2,[iV (i64.wrap (bJ+1),())])) (uA a1 a2 a0 (i64.wrap (bJ+1))))) (uA a1 a2 a0 (i64.wrap (bJ+1))))) (aA (a0.1==1) (aA (decide (a0.2.2.1<0)) (some (bSD 2,[iV (i64.wrap (bJ+1),())])) (aA (decide (a1<=a0.2.2.1)) (some (bSD 2,[iV (i64.wrap (bJ+1),())])) (uA a1 a2 a0 (i64.wrap (bJ+1))))) (uA a1 a2 a0 (i64.wrap (bJ+1)))))))))):=cc
def aW':KT:=SS.rK Tryz.f110 110 0 []
def aX0:KT:=SS.jK 110 68 0 (cS Tryz.f110 15) aW'
def aX1:KT:=aj 0 aX0
def XU (x1:Sh.V S1) (x11:Int) (aN:bSH):R:=SS.LL (SS.ae 110 68) 0 [1,3,9,10,11] 1 (cS Tryz.f110 75) aX1 ⟨[(1,.cst (A1 x1)),(3,bSF),(9,.sl false 4 x1.2.2.2.1),(10,bSD (x1.2.2.2.1.length:Int)),(11,bSD x11)],[jC (aN,())]⟩
theorem aF0 (x1:Sh.V S1) (x11:Int) (aN:bSH):XU x1 x11 aN=aA (decide (x11<(x1.2.2.2.1.length:Int))) (bD S1 x1.2.2.2.1 x11 fun u2=>G1 110 [A1 u2] fun n6=>aA (n6==0) (some (bSD 0,[])) (chk (decide (aN.length+1<=aQ)) (XU x1 (i64.wrap (x11+1)) (aN ++ ([bSD n6]:bSH))))) (aA (x1.1==0) (some (bSD 1,[])) (aA (x1.1==1) (some (bSD 1,[])) (aA (x1.1==2) (zF 204 [bSD 1,bSF] [jC (aN,())] fun b8 u9=>aA b8 (some (bSD 1,[])) (some (bSD 0,[]))) (aA (x1.1==3) (zF 204 [bSD 1,bSF] [jC (aN,())] fun b12 u13=>aA b12 (some (bSD 1,[])) (some (bSD 0,[]))) (aA (x1.1==4) (zF 204 [bSD 1,bSF] [jC (aN,())] fun b16 yc=>aA b16 (some (bSD 1,[])) (some (bSD 0,[]))) (aA (x1.1==5) (zF 204 [bSD 1,bSF] [jC (aN,())] fun b20 u21=>aA b20 (some (bSD 1,[])) (some (bSD 0,[]))) (aA (x1.1==6) (zF 204 [bSD 1,bSF] [jC (aN,())] fun RD u25=>aA RD (some (bSD 2,[])) (some (bSD 0,[]))) (aA (x1.1==7) (zF 204 [bSD 1,bSF] [jC (aN,())] fun b28 u29=>aA b28 (some (bSD 2,[])) (some (bSD 0,[]))) (aA (x1.1==8) (zF 204 [bSD 1,bSF] [jC (aN,())] fun b32 u33=>aA b32 (some (bSD 2,[])) (some (bSD 0,[]))) (aA (x1.1==9) (zF 204 [bSD 1,bSF] [jC (aN,())] fun b36 u37=>aA b36 (some (bSD 2,[])) (some (bSD 0,[]))) (aA (x1.1==10) (zF 204 [bSD 2,bSF] [jC (aN,())] fun JE xx=>aA JE (some (bSD 2,[])) (some (bSD 0,[]))) (aA (x1.1==11) (zF 204 [bSD 2,bSF] [jC (aN,())] fun b44 u45=>aA b44 (some (bSD 2,[])) (some (bSD 0,[]))) (aA (x1.1==12) (zF 204 [bSD 2,bSF] [jC (aN,())] fun b48 u49=>aA b48 (some (bSD 2,[])) (some (bSD 0,[]))) (aA (x1.1==13) (dQ aN 0 fun e52=>vI .i64 e52 fun n53=>aA (n53==2) (dQ aN 1 fun e54=>vI .i64 e54 fun n55=>dQ aN 2 fun e56=>vI .i64 e56 fun n57=>aA (n55==n57) (dQ aN 1 fun e58=>vI .i64 e58 fun n59=>some (bSD n59,[])) (some (bSD 0,[]))) (some (bSD 0,[]))) (some (bSD 0,[])))))))))))))))):=ll
theorem aX2 (a0:Sh.V S1):SS.CC 110 [A1 a0] []=XU a0 0 []:=cc
theorem aX3 (a0:bSG):SS.CC 112 [.str a0] []=aA (a0.toList==(⟨#[116,114,117,101]⟩:bSG).toList) (some (.bool true,[])) (some (.bool (a0.toList==(⟨#[102,97,108,115,101]⟩:bSG).toList),[])):=cc
def aX4:KT:=SS.Ue SS.CC SS.LL (SS.ae 113 141) Tryz.f113.results.toList (SS.iI 113).ro 1 [] 1 166 [bSF,bSE [.str ⟨#[41]⟩]]
def aX5:KT:=SS.rK Tryz.f113 113 1 []
def rH (x5:bSH) (x6:Sh.V S1) (x8:Int) (aN:bSH) (x10:bSG):R:=bH (SS.xX 113 141 1) (cS Tryz.f113 63) aX4 ⟨[(4,.ptr 1 0),(5,.cst (bSE x5)),(6,.cst (A1 x6)),(8,bSD x8),(9,.func (.func 208) [] [.ptr 1 0,.cst (bSE x5),.cst (A1 x6)]),(10,.str x10)],[aF (aN,()),some [bSF]]⟩
def rG (x5:bSH) (x6:Sh.V S1) (x8:Int) (aN:bSH) (x10:bSG):R:=bH (SS.xX 113 141 1) (cS Tryz.f113 63) aX5 ⟨[(4,.ptr 1 0),(5,.cst (bSE x5)),(6,.cst (A1 x6)),(8,bSD x8),(9,.func (.func 208) [] [.ptr 1 0,.cst (bSE x5),.cst (A1 x6)]),(10,.str x10)],[aF (aN,()),some [bSF]]⟩
theorem Dx (x5:bSH) (x6:Sh.V S1) (x8:Int) (aN:bSH) (x10:bSG):rH x5 x6 x8 aN x10=zD 116 [] fun u1=>G3 23 [A1 x6,A1 u1] fun b6=>aA b6 (ah 165 [bSF,bSE [.str ⟨#[116,114,117,101]⟩]] [aF (aN,())] fun _ u8=>ah 166 [bSF,bSE [.str ⟨#[41]⟩]] [aF u8] fun _ u11=>some (.tuple [],[aF u11])) (zD 117 [] fun u14=>G3 23 [A1 x6,A1 u14] fun b19=>aA b19 (ah 165 [bSF,bSE [.str ⟨#[102,97,108,115,101]⟩]] [aF (aN,())] fun _ u21=>ah 166 [bSF,bSE [.str ⟨#[41]⟩]] [aF u21] fun _ u24=>some (.tuple [],[aF u24])) (aA (x6.1==0) (ah 167 [bSF,bSD x6.2.1] [aF (aN,())] fun _ u27=>ah 166 [bSF,bSE [.str ⟨#[41]⟩]] [aF u27] fun _ u30=>some (.tuple [],[aF u30])) (aA (x6.1==1) (dQ x5 x6.2.2.1 fun e33=>vS e33 fun s34=>ah 165 [bSF,bSE [.str s34]] [aF (aN,())] fun _ u35=>ah 166 [bSF,bSE [.str ⟨#[41]⟩]] [aF u35] fun _ u38=>some (.tuple [],[aF u38])) (aA (x6.1==5) (bD S1 x6.2.2.2.1 0 fun u42=>aA (u42.1==0) (bD S1 x6.2.2.2.1 0 fun zu=>aA (decide (0<=zu.2.1)) (ah 166 [bSF,bSE [.str ⟨#[45]⟩,.str ⟨#[40]⟩]] [aF (aN,())] fun _ u51=>eY 208 [bSD 0,bSD 0,bSF,.cst (bSE x5),.cst (A1 x6)] [some [.ptr 1 0],aF u51] fun _ xy=>ah 166 [bSF,bSE [.str ⟨#[41]⟩]] [aF xy] fun _ u57=>ah 166 [bSF,bSE [.str ⟨#[41]⟩]] [aF u57] fun _ u60=>some (.tuple [],[aF u60])) (aA (x6.1==5) (ah 166 [bSF,bSE [.str x10]] [aF (aN,())] fun _ u63=>eY 208 [bSD 0,bSD 6,bSF,.cst (bSE x5),.cst (A1 x6)] [some [.ptr 1 0],aF u63] fun _ u66=>ah 166 [bSF,bSE [.str ⟨#[41]⟩]] [aF u66] fun _ u69=>some (.tuple [],[aF u69])) (aA (x6.1==10) (ah 166 [bSF,bSE [.str x10]] [aF (aN,())] fun _ u72=>eY 208 [bSD 0,bSD 6,bSF,.cst (bSE x5),.cst (A1 x6)] [some [.ptr 1 0],aF u72] fun _ u75=>ah 166 [bSF,bSE [.str ⟨#[41]⟩]] [aF u75] fun _ Eb=>some (.tuple [],[aF Eb])) (aA (x6.1==13) (eY 208 [bSD 0,bSD 1,bSF,.cst (bSE x5),.cst (A1 x6)] [some [.ptr 1 0],aF (aN,())] fun _ Ph=>ah 166 [bSF,bSE [.str ⟨#[63]⟩]] [aF Ph] fun _ wY=>eY 208 [bSD 1,bSD 0,bSF,.cst (bSE x5),.cst (A1 x6)] [some [.ptr 1 0],aF wY] fun _ dH=>ah 166 [bSF,bSE [.str ⟨#[58]⟩]] [aF dH] fun _ V6=>eY 208 [bSD 2,bSD 0,bSF,.cst (bSE x5),.cst (A1 x6)] [some [.ptr 1 0],aF V6] fun _ u93=>ah 166 [bSF,bSE [.str ⟨#[41]⟩]] [aF u93] fun _ yf=>some (.tuple [],[aF yf])) (aA (x8==3) (eY 208 [bSD 0,bSD 4,bSF,.cst (bSE x5),.cst (A1 x6)] [some [.ptr 1 0],aF (aN,())] fun _ u99=>ah 166 [bSF,bSE [.str x10]] [aF u99] fun _ V4=>eY 208 [bSD 1,bSD 4,bSF,.cst (bSE x5),.cst (A1 x6)] [some [.ptr 1 0],aF V4] fun _ u105=>ah 166 [bSF,bSE [.str ⟨#[41]⟩]] [aF u105] fun _ LQ=>some (.tuple [],[aF LQ])) (eY 208 [bSD 0,bSD x8,bSF,.cst (bSE x5),.cst (A1 x6)] [some [.ptr 1 0],aF (aN,())] fun _ aA7=>ah 166 [bSF,bSE [.str x10]] [aF aA7] fun _ aA8=>eY 208 [bSD 1,bSD (i64.wrap (x8+1)),bSF,.cst (bSE x5),.cst (A1 x6)] [some [.ptr 1 0],aF aA8] fun _ GN=>ah 166 [bSF,bSE [.str ⟨#[41]⟩]] [aF GN] fun _ aA9=>some (.tuple [],[aF aA9]))))))) (aA (x6.1==5) (ah 166 [bSF,bSE [.str x10]] [aF (aN,())] fun _ LU=>eY 208 [bSD 0,bSD 6,bSF,.cst (bSE x5),.cst (A1 x6)] [some [.ptr 1 0],aF LU] fun _ aAA=>ah 166 [bSF,bSE [.str ⟨#[41]⟩]] [aF aAA] fun _ aAB=>some (.tuple [],[aF aAB])) (aA (x6.1==10) (ah 166 [bSF,bSE [.str x10]] [aF (aN,())] fun _ V5=>eY 208 [bSD 0,bSD 6,bSF,.cst (bSE x5),.cst (A1 x6)] [some [.ptr 1 0],aF V5] fun _ aAC=>ah 166 [bSF,bSE [.str ⟨#[41]⟩]] [aF aAC] fun _ u138=>some (.tuple [],[aF u138])) (aA (x6.1==13) (eY 208 [bSD 0,bSD 1,bSF,.cst (bSE x5),.cst (A1 x6)] [some [.ptr 1 0],aF (aN,())] fun _ aAD=>ah 166 [bSF,bSE [.str ⟨#[63]⟩]] [aF aAD] fun _ Il=>eY 208 [bSD 1,bSD 0,bSF,.cst (bSE x5),.cst (A1 x6)] [some [.ptr 1 0],aF Il] fun _ aAE=>ah 166 [bSF,bSE [.str ⟨#[58]⟩]] [aF aAE] fun _ Zy=>eY 208 [bSD 2,bSD 0,bSF,.cst (bSE x5),.cst (A1 x6)] [some [.ptr 1 0],aF Zy] fun _ aAF=>ah 166 [bSF,bSE [.str ⟨#[41]⟩]] [aF aAF] fun _ aAG=>some (.tuple [],[aF aAG])) (aA (x8==3) (eY 208 [bSD 0,bSD 4,bSF,.cst (bSE x5),.cst (A1 x6)] [some [.ptr 1 0],aF (aN,())] fun _ aAH=>ah 166 [bSF,bSE [.str x10]] [aF aAH] fun _ u162=>eY 208 [bSD 1,bSD 4,bSF,.cst (bSE x5),.cst (A1 x6)] [some [.ptr 1 0],aF u162] fun _ aAI=>ah 166 [bSF,bSE [.str ⟨#[41]⟩]] [aF aAI] fun _ aAJ=>some (.tuple [],[aF aAJ])) (eY 208 [bSD 0,bSD x8,bSF,.cst (bSE x5),.cst (A1 x6)] [some [.ptr 1 0],aF (aN,())] fun _ aAK=>ah 166 [bSF,bSE [.str x10]] [aF aAK] fun _ aAL=>eY 208 [bSD 1,bSD (i64.wrap (x8+1)),bSF,.cst (bSE x5),.cst (A1 x6)] [some [.ptr 1 0],aF aAL] fun _ aAM=>ah 166 [bSF,bSE [.str ⟨#[41]⟩]] [aF aAM] fun _ aAN=>some (.tuple [],[aF aAN]))))))) (aA (x6.1==5) (ah 166 [bSF,bSE [.str x10]] [aF (aN,())] fun _ bNR=>eY 208 [bSD 0,bSD 6,bSF,.cst (bSE x5),.cst (A1 x6)] [some [.ptr 1 0],aF bNR] fun _ bNS=>ah 166 [bSF,bSE [.str ⟨#[41]⟩]] [aF bNS] fun _ Zz=>some (.tuple [],[aF Zz])) (aA (x6.1==10) (ah 166 [bSF,bSE [.str x10]] [aF (aN,())] fun _ bNU=>eY 208 [bSD 0,bSD 6,bSF,.cst (bSE x5),.cst (A1 x6)] [some [.ptr 1 0],aF bNU] fun _ aAP=>ah 166 [bSF,bSE [.str ⟨#[41]⟩]] [aF aAP] fun _ u198=>some (.tuple [],[aF u198])) (aA (x6.1==13) (eY 208 [bSD 0,bSD 1,bSF,.cst (bSE x5),.cst (A1 x6)] [some [.ptr 1 0],aF (aN,())] fun _ u201=>ah 166 [bSF,bSE [.str ⟨#[63]⟩]] [aF u201] fun _ aAQ=>eY 208 [bSD 1,bSD 0,bSF,.cst (bSE x5),.cst (A1 x6)] [some [.ptr 1 0],aF aAQ] fun _ bNW=>ah 166 [bSF,bSE [.str ⟨#[58]⟩]] [aF bNW] fun _ u210=>eY 208 [bSD 2,bSD 0,bSF,.cst (bSE x5),.cst (A1 x6)] [some [.ptr 1 0],aF u210] fun _ aAR=>ah 166 [bSF,bSE [.str ⟨#[41]⟩]] [aF aAR] fun _ bNY=>some (.tuple [],[aF bNY])) (aA (x8==3) (eY 208 [bSD 0,bSD 4,bSF,.cst (bSE x5),.cst (A1 x6)] [some [.ptr 1 0],aF (aN,())] fun _ aAS=>ah 166 [bSF,bSE [.str x10]] [aF aAS] fun _ bNZ=>eY 208 [bSD 1,bSD 4,bSF,.cst (bSE x5),.cst (A1 x6)] [some [.ptr 1 0],aF bNZ] fun _ aAT=>ah 166 [bSF,bSE [.str ⟨#[41]⟩]] [aF aAT] fun _ bN'=>some (.tuple [],[aF bN'])) (eY 208 [bSD 0,bSD x8,bSF,.cst (bSE x5),.cst (A1 x6)] [some [.ptr 1 0],aF (aN,())] fun _ aAU=>ah 166 [bSF,bSE [.str x10]] [aF aAU] fun _ u234=>eY 208 [bSD 1,bSD (i64.wrap (x8+1)),bSF,.cst (bSE x5),.cst (A1 x6)] [some [.ptr 1 0],aF u234] fun _ bO1=>ah 166 [bSF,bSE [.str ⟨#[41]⟩]] [aF bO1] fun _ aAV=>some (.tuple [],[aF aAV])))))))))):=by kernel_rfl
theorem Dw (x5:bSH) (x6:Sh.V S1) (x8:Int) (aN:bSH) (x10:bSG):rG x5 x6 x8 aN x10=zD 116 [] fun u1=>G3 23 [A1 x6,A1 u1] fun b6=>aA b6 (ah 165 [bSF,bSE [.str ⟨#[116,114,117,101]⟩]] [aF (aN,())] fun _ u8=>some (.tuple [],[aF u8])) (zD 117 [] fun u11=>G3 23 [A1 x6,A1 u11] fun b16=>aA b16 (ah 165 [bSF,bSE [.str ⟨#[102,97,108,115,101]⟩]] [aF (aN,())] fun _ pJ=>some (.tuple [],[aF pJ])) (aA (x6.1==0) (ah 167 [bSF,bSD x6.2.1] [aF (aN,())] fun _ u21=>some (.tuple [],[aF u21])) (aA (x6.1==1) (dQ x5 x6.2.2.1 fun e24=>vS e24 fun s25=>ah 165 [bSF,bSE [.str s25]] [aF (aN,())] fun _ u26=>some (.tuple [],[aF u26])) (aA (x6.1==5) (bD S1 x6.2.2.2.1 0 fun u30=>aA (u30.1==0) (bD S1 x6.2.2.2.1 0 fun u35=>aA (decide (0<=u35.2.1)) (ah 166 [bSF,bSE [.str ⟨#[45]⟩,.str ⟨#[40]⟩]] [aF (aN,())] fun _ u39=>eY 208 [bSD 0,bSD 0,bSF,.cst (bSE x5),.cst (A1 x6)] [some [.ptr 1 0],aF u39] fun _ u42=>ah 166 [bSF,bSE [.str ⟨#[41]⟩]] [aF u42] fun _ u45=>some (.tuple [],[aF u45])) (aA (x6.1==5) (ah 166 [bSF,bSE [.str x10]] [aF (aN,())] fun _ u48=>eY 208 [bSD 0,bSD 6,bSF,.cst (bSE x5),.cst (A1 x6)] [some [.ptr 1 0],aF u48] fun _ u51=>some (.tuple [],[aF u51])) (aA (x6.1==10) (ah 166 [bSF,bSE [.str x10]] [aF (aN,())] fun _ xy=>eY 208 [bSD 0,bSD 6,bSF,.cst (bSE x5),.cst (A1 x6)] [some [.ptr 1 0],aF xy] fun _ u57=>some (.tuple [],[aF u57])) (aA (x6.1==13) (eY 208 [bSD 0,bSD 1,bSF,.cst (bSE x5),.cst (A1 x6)] [some [.ptr 1 0],aF (aN,())] fun _ u60=>ah 166 [bSF,bSE [.str ⟨#[63]⟩]] [aF u60] fun _ u63=>eY 208 [bSD 1,bSD 0,bSF,.cst (bSE x5),.cst (A1 x6)] [some [.ptr 1 0],aF u63] fun _ u66=>ah 166 [bSF,bSE [.str ⟨#[58]⟩]] [aF u66] fun _ u69=>eY 208 [bSD 2,bSD 0,bSF,.cst (bSE x5),.cst (A1 x6)] [some [.ptr 1 0],aF u69] fun _ u72=>some (.tuple [],[aF u72])) (aA (x8==3) (eY 208 [bSD 0,bSD 4,bSF,.cst (bSE x5),.cst (A1 x6)] [some [.ptr 1 0],aF (aN,())] fun _ u75=>ah 166 [bSF,bSE [.str x10]] [aF u75] fun _ Eb=>eY 208 [bSD 1,bSD 4,bSF,.cst (bSE x5),.cst (A1 x6)] [some [.ptr 1 0],aF Eb] fun _ Ph=>some (.tuple [],[aF Ph])) (eY 208 [bSD 0,bSD x8,bSF,.cst (bSE x5),.cst (A1 x6)] [some [.ptr 1 0],aF (aN,())] fun _ wY=>ah 166 [bSF,bSE [.str x10]] [aF wY] fun _ dH=>eY 208 [bSD 1,bSD (i64.wrap (x8+1)),bSF,.cst (bSE x5),.cst (A1 x6)] [some [.ptr 1 0],aF dH] fun _ V6=>some (.tuple [],[aF V6]))))))) (aA (x6.1==5) (ah 166 [bSF,bSE [.str x10]] [aF (aN,())] fun _ u93=>eY 208 [bSD 0,bSD 6,bSF,.cst (bSE x5),.cst (A1 x6)] [some [.ptr 1 0],aF u93] fun _ yf=>some (.tuple [],[aF yf])) (aA (x6.1==10) (ah 166 [bSF,bSE [.str x10]] [aF (aN,())] fun _ u99=>eY 208 [bSD 0,bSD 6,bSF,.cst (bSE x5),.cst (A1 x6)] [some [.ptr 1 0],aF u99] fun _ V4=>some (.tuple [],[aF V4])) (aA (x6.1==13) (eY 208 [bSD 0,bSD 1,bSF,.cst (bSE x5),.cst (A1 x6)] [some [.ptr 1 0],aF (aN,())] fun _ u105=>ah 166 [bSF,bSE [.str ⟨#[63]⟩]] [aF u105] fun _ LQ=>eY 208 [bSD 1,bSD 0,bSF,.cst (bSE x5),.cst (A1 x6)] [some [.ptr 1 0],aF LQ] fun _ aA7=>ah 166 [bSF,bSE [.str ⟨#[58]⟩]] [aF aA7] fun _ aA8=>eY 208 [bSD 2,bSD 0,bSF,.cst (bSE x5),.cst (A1 x6)] [some [.ptr 1 0],aF aA8] fun _ GN=>some (.tuple [],[aF GN])) (aA (x8==3) (eY 208 [bSD 0,bSD 4,bSF,.cst (bSE x5),.cst (A1 x6)] [some [.ptr 1 0],aF (aN,())] fun _ aA9=>ah 166 [bSF,bSE [.str x10]] [aF aA9] fun _ LU=>eY 208 [bSD 1,bSD 4,bSF,.cst (bSE x5),.cst (A1 x6)] [some [.ptr 1 0],aF LU] fun _ aAA=>some (.tuple [],[aF aAA])) (eY 208 [bSD 0,bSD x8,bSF,.cst (bSE x5),.cst (A1 x6)] [some [.ptr 1 0],aF (aN,())] fun _ aAB=>ah 166 [bSF,bSE [.str x10]] [aF aAB] fun _ V5=>eY 208 [bSD 1,bSD (i64.wrap (x8+1)),bSF,.cst (bSE x5),.cst (A1 x6)] [some [.ptr 1 0],aF V5] fun _ aAC=>some (.tuple [],[aF aAC]))))))) (aA (x6.1==5) (ah 166 [bSF,bSE [.str x10]] [aF (aN,())] fun _ u138=>eY 208 [bSD 0,bSD 6,bSF,.cst (bSE x5),.cst (A1 x6)] [some [.ptr 1 0],aF u138] fun _ aAD=>some (.tuple [],[aF aAD])) (aA (x6.1==10) (ah 166 [bSF,bSE [.str x10]] [aF (aN,())] fun _ Il=>eY 208 [bSD 0,bSD 6,bSF,.cst (bSE x5),.cst (A1 x6)] [some [.ptr 1 0],aF Il] fun _ aAE=>some (.tuple [],[aF aAE])) (aA (x6.1==13) (eY 208 [bSD 0,bSD 1,bSF,.cst (bSE x5),.cst (A1 x6)] [some [.ptr 1 0],aF (aN,())] fun _ Zy=>ah 166 [bSF,bSE [.str ⟨#[63]⟩]] [aF Zy] fun _ aAF=>eY 208 [bSD 1,bSD 0,bSF,.cst (bSE x5),.cst (A1 x6)] [some [.ptr 1 0],aF aAF] fun _ aAG=>ah 166 [bSF,bSE [.str ⟨#[58]⟩]] [aF aAG] fun _ aAH=>eY 208 [bSD 2,bSD 0,bSF,.cst (bSE x5),.cst (A1 x6)] [some [.ptr 1 0],aF aAH] fun _ u162=>some (.tuple [],[aF u162])) (aA (x8==3) (eY 208 [bSD 0,bSD 4,bSF,.cst (bSE x5),.cst (A1 x6)] [some [.ptr 1 0],aF (aN,())] fun _ aAI=>ah 166 [bSF,bSE [.str x10]] [aF aAI] fun _ aAJ=>eY 208 [bSD 1,bSD 4,bSF,.cst (bSE x5),.cst (A1 x6)] [some [.ptr 1 0],aF aAJ] fun _ aAK=>some (.tuple [],[aF aAK])) (eY 208 [bSD 0,bSD x8,bSF,.cst (bSE x5),.cst (A1 x6)] [some [.ptr 1 0],aF (aN,())] fun _ aAL=>ah 166 [bSF,bSE [.str x10]] [aF aAL] fun _ aAM=>eY 208 [bSD 1,bSD (i64.wrap (x8+1)),bSF,.cst (bSE x5),.cst (A1 x6)] [some [.ptr 1 0],aF aAM] fun _ aAN=>some (.tuple [],[aF aAN])))))))))):=by kernel_rfl
theorem aX6 (a1:bSH) (a2:Sh.V S1) (a3:Int) (bJ:bSH):SS.CC 113 [bSF,bSE a1,A1 a2,bSD a3] [aF (bJ,())]=G1 207 [A1 a2] fun n1=>aA (decide (n1<a3)) (ah 166 [bSF,bSE [.str ⟨#[40]⟩]] [aF (bJ,())] fun _ u3=>chk (decide (0<=a2.1)&&decide (a2.1<(14:Int))) (aA (a2.1==0) (rH a1 a2 n1 u3.1 ⟨#[]⟩) (aA (a2.1==1) (rH a1 a2 n1 u3.1 ⟨#[]⟩) (aA (a2.1==2) (rH a1 a2 n1 u3.1 ⟨#[43]⟩) (aA (a2.1==3) (rH a1 a2 n1 u3.1 ⟨#[45]⟩) (aA (a2.1==4) (rH a1 a2 n1 u3.1 ⟨#[42]⟩) (aA (a2.1==5) (rH a1 a2 n1 u3.1 ⟨#[45]⟩) (aA (a2.1==6) (rH a1 a2 n1 u3.1 ⟨#[61,61]⟩) (aA (a2.1==7) (rH a1 a2 n1 u3.1 ⟨#[33,61]⟩) (aA (a2.1==8) (rH a1 a2 n1 u3.1 ⟨#[60]⟩) (aA (a2.1==9) (rH a1 a2 n1 u3.1 ⟨#[60,61]⟩) (aA (a2.1==10) (rH a1 a2 n1 u3.1 ⟨#[33]⟩) (aA (a2.1==11) (rH a1 a2 n1 u3.1 ⟨#[38,38]⟩) (aA (a2.1==12) (rH a1 a2 n1 u3.1 ⟨#[124,124]⟩) (aA (a2.1==13) (rH a1 a2 n1 u3.1 ⟨#[63]⟩) (none)))))))))))))))) (chk (decide (0<=a2.1)&&decide (a2.1<(14:Int))) (aA (a2.1==0) (rG a1 a2 n1 bJ ⟨#[]⟩) (aA (a2.1==1) (rG a1 a2 n1 bJ ⟨#[]⟩) (aA (a2.1==2) (rG a1 a2 n1 bJ ⟨#[43]⟩) (aA (a2.1==3) (rG a1 a2 n1 bJ ⟨#[45]⟩) (aA (a2.1==4) (rG a1 a2 n1 bJ ⟨#[42]⟩) (aA (a2.1==5) (rG a1 a2 n1 bJ ⟨#[45]⟩) (aA (a2.1==6) (rG a1 a2 n1 bJ ⟨#[61,61]⟩) (aA (a2.1==7) (rG a1 a2 n1 bJ ⟨#[33,61]⟩) (aA (a2.1==8) (rG a1 a2 n1 bJ ⟨#[60]⟩) (aA (a2.1==9) (rG a1 a2 n1 bJ ⟨#[60,61]⟩) (aA (a2.1==10) (rG a1 a2 n1 bJ ⟨#[33]⟩) (aA (a2.1==11) (rG a1 a2 n1 bJ ⟨#[38,38]⟩) (aA (a2.1==12) (rG a1 a2 n1 bJ ⟨#[124,124]⟩) (aA (a2.1==13) (rG a1 a2 n1 bJ ⟨#[63]⟩) (none)))))))))))))))):=cc
def aX7:KT:=SS.rK Tryz.f114 114 0 []
def aX8:KT:=SS.jK 114 45 0 (cS Tryz.f114 31) aX7
def aX9:KT:=aj 0 aX8
def Rx (x0:bSH) (x4:bSH) (x16:Int):R:=SS.LL (SS.ae 114 45) 0 [0,4,14,15,16] 0 (cS Tryz.f114 151) aX9 ⟨[(0,.sl false 5 x0),(4,.sl true 1 x4),(14,.sl false 5 x0),(15,bSD (x0.length:Int)),(16,bSD x16)],[]⟩
theorem aF1 (x0:bSH) (x4:bSH) (x16:Int):Rx x0 x4 x16=aA (decide (x16<(x0.length:Int))) (bD lS x0 x16 fun u2=>chk (decide (x4.length+1<=aQ)) (Rx x0 (x4 ++ ([.str u2.2.1]:bSH)) (i64.wrap (x16+1)))) (G2 15 [bSE x4,.str ⟨#[32]⟩] fun s7=>VW 99 [.str s7] fun u9=>aA (u9.2.2.2.1.1 != 0) (some (.tuple [.str ⟨#[]⟩,bSD 6],[])) (QX 175 [.sl false 5 u9.1.1] fun l14=>G3 209 [.sl false 5 l14,.sl false 5 x0,.func (.func 210) [] []] fun b16=>aA (!b16) (some (.tuple [.str ⟨#[]⟩,bSD 6],[])) (some (.tuple [.str s7,bSD 0],[])))):=ll
theorem a2F (a0:bSH):SS.CC 114 [.sl false 5 a0] []=QX 175 [.sl false 5 a0] fun l1=>Rx l1 [] 0:=cc
theorem aXA (a0:Sh.V S1):SS.CC 115 [A1 a0] []=zD 116 [] fun u1=>G3 23 [A1 a0,A1 u1] fun b6=>aA b6 (some (bSD 7,[])) (zD 117 [] fun u8=>G3 23 [A1 a0,A1 u8] fun b13=>aA b13 (some (bSD 7,[])) (aA (a0.1==0) (aA (decide (a0.2.1<0)) (some (bSD 6,[])) (some (bSD 7,[]))) (aA (a0.1==13) (some (bSD 0,[])) (aA (a0.1==12) (some (bSD 1,[])) (aA (a0.1==11) (some (bSD 2,[])) (aA (a0.1==6) (some (bSD 3,[])) (aA (a0.1==7) (some (bSD 3,[])) (aA (a0.1==8) (some (bSD 3,[])) (aA (a0.1==9) (some (bSD 3,[])) (aA (a0.1==2) (some (bSD 4,[])) (aA (a0.1==3) (some (bSD 4,[])) (aA (a0.1==4) (some (bSD 5,[])) (aA (a0.1==10) (some (bSD 6,[])) (aA (a0.1==5) (some (bSD 6,[])) (some (bSD 7,[])))))))))))))))):=cc
def aZJ:KT:=SS.rK Tryz.f165 165 1 []
def aZK:KT:=aj 0 aZJ
def NW (x6:bSH) (aN:bSH) (x8:Int):R:=SS.LL (SS.ae 165 24) 1 [0,6,7,8] 1 (cS Tryz.f165 9) aZK ⟨[(0,bSF),(6,bSE x6),(7,bSD (x6.length:Int)),(8,bSD x8)],[aF (aN,())]⟩
theorem Xd (x6:bSH) (aN:bSH) (x8:Int):NW x6 aN x8=aA (decide (x8<(x6.length:Int))) (dQ x6 x8 fun e1=>vS e1 fun s2=>chk (decide (aN.length+1<=aQ)) (NW x6 (aN ++ ([kD (1,s2,0,0,0,())]:bSH)) (i64.wrap (x8+1)))) (some (.tuple [],[aF (aN,())])):=ll
theorem a2O (a1:bSH) (bJ:bSH):SS.CC 165 [bSF,bSE a1] [aF (bJ,())]=NW a1 bJ 0:=cc
def aZL:KT:=SS.rK Tryz.f166 166 1 []
def aZM:KT:=aj 0 aZL
def a2P (x6:bSH) (aN:bSH) (x8:Int):R:=SS.LL (SS.ae 166 24) 1 [0,6,7,8] 1 (cS Tryz.f166 9) aZM ⟨[(0,bSF),(6,bSE x6),(7,bSD (x6.length:Int)),(8,bSD x8)],[aF (aN,())]⟩
theorem SB (x6:bSH) (aN:bSH) (x8:Int):a2P x6 aN x8=aA (decide (x8<(x6.length:Int))) (dQ x6 x8 fun e1=>vS e1 fun s2=>chk (decide (aN.length+1<=aQ)) (a2P x6 (aN ++ ([kD (3,s2,0,0,0,())]:bSH)) (i64.wrap (x8+1)))) (some (.tuple [],[aF (aN,())])):=ll
theorem aFG (a1:bSH) (bJ:bSH):SS.CC 166 [bSF,bSE a1] [aF (bJ,())]=a2P a1 bJ 0:=cc
def aZO:KT:=SS.rK Tryz.f167 167 1 []
def NY (aN:bSH) (x1:Int):R:=bH (SS.xX 167 24 1) (cS Tryz.f167 3) aZO ⟨[(0,bSF),(1,bSD x1)],[aF (aN,())]⟩
theorem aZN (aN:bSH) (x1:Int):NY aN x1=G2 35 [bSD x1] fun s1=>chk (decide (aN.length+1<=aQ)) (some (.tuple [],[aF ((aN ++ ([kD (2,s1,x1,0,0,())]:bSH)),())])):=by kernel_rfl
theorem aZP (a1:Int) (bJ:bSH):SS.CC 167 [bSF,bSD a1] [aF (bJ,())]=aA (decide (a1<0)) (ah 166 [bSF,bSE [.str ⟨#[45]⟩]] [aF (bJ,())] fun _ u1=>NY u1.1 (i64.wrap (0-a1))) (NY bJ a1):=cc
theorem a_9 (a0:bSH):SS.CC 175 [.sl false 5 a0] []=G49 245 [.sl false 5 a0] fun l1=>aA (decide (0<l1.length)) (chk (l1.all (yV 5)) (chk ((dW l1).all qV&&true) (H50 244 [.slh 0 0 l1.length 5,.func (.func 246) [] []] [some (dW l1)] fun u3 l4=>chk (l4.all qV&&true) (chk (decide (u3.1*5<=l4.length)&&decide (0<5)&&l4.all fun p=>p.one&&p.flat) (some (.sl false 5 (mX 5 l4 u3.1),[])))))) (QX 244 [.sl false 5 [],.func (.func 246) [] []] fun l7=>some (.sl false 5 l7,[])):=cc
theorem b0I (a0:Int):SS.CC 202 [bSD a0] []=aA (a0==0) (some (.tuple [bSD 0,.bool true],[])) (aA (a0==1) (some (.tuple [bSD 0,.bool true],[])) (aA (a0==5) (some (.tuple [bSD 1,.bool true],[])) (aA (a0==10) (some (.tuple [bSD 1,.bool true],[])) (aA (a0==2) (some (.tuple [bSD 2,.bool true],[])) (aA (a0==3) (some (.tuple [bSD 2,.bool true],[])) (aA (a0==4) (some (.tuple [bSD 2,.bool true],[])) (aA (a0==6) (some (.tuple [bSD 2,.bool true],[])) (aA (a0==7) (some (.tuple [bSD 2,.bool true],[])) (aA (a0==8) (some (.tuple [bSD 2,.bool true],[])) (aA (a0==9) (some (.tuple [bSD 2,.bool true],[])) (aA (a0==11) (some (.tuple [bSD 2,.bool true],[])) (aA (a0==12) (some (.tuple [bSD 2,.bool true],[])) (aA (a0==13) (some (.tuple [bSD 3,.bool true],[])) (some (.tuple [bSD 0,.bool false],[]))))))))))))))):=cc
theorem aG7 (a0:Int) (a1:Int):SS.CC 203 [bSD a0,bSD a1] []=aA (decide (a1<a0)) (some (.bool true,[])) (some (.bool (decide (a0<(i64.wrap (0-a1)))),[])):=cc
theorem b0J (a0:Int) (bJ:bSH):SS.CC 204 [bSD a0,bSF] [jC (bJ,())]=G3 205 [bSE bJ,.func (.func 206) [] [.cst (bSD a0)]] fun b1=>some (.bool (!b1),[jC (bJ,())]):=cc
theorem b0K (a0:bSH) (a1:Int):SS.CC 205 [bSE a0,.func (.func 206) [] [.cst (bSD a1)]] []=G1 258 [bSE a0,.func (.func 206) [] [.cst (bSD a1)]] fun n1=>some (.bool (decide (0<=n1)),[]):=cc
theorem b0L (a0:Int) (a1:Int):SS.CC 206 [bSD a0,.cst (bSD a1)] []=some (.bool (a0 != a1),[]):=cc
theorem b0M (a0:Sh.V S1):SS.CC 207 [A1 a0] []=zD 116 [] fun u1=>G3 23 [A1 a0,A1 u1] fun b6=>aA b6 (some (bSD 7,[])) (zD 117 [] fun u8=>G3 23 [A1 a0,A1 u8] fun b13=>aA b13 (some (bSD 7,[])) (aA (a0.1==0) (aA (decide (a0.2.1<0)) (some (bSD 6,[])) (chk (decide (0<=a0.1)&&decide (a0.1<(14:Int))) (aA (a0.1==0) (some (bSD 7,[])) (aA (a0.1==1) (some (bSD 7,[])) (aA (a0.1==2) (some (bSD 4,[])) (aA (a0.1==3) (some (bSD 4,[])) (aA (a0.1==4) (some (bSD 5,[])) (aA (a0.1==5) (some (bSD 6,[])) (aA (a0.1==6) (some (bSD 3,[])) (aA (a0.1==7) (some (bSD 3,[])) (aA (a0.1==8) (some (bSD 3,[])) (aA (a0.1==9) (some (bSD 3,[])) (aA (a0.1==10) (some (bSD 6,[])) (aA (a0.1==11) (some (bSD 2,[])) (aA (a0.1==12) (some (bSD 1,[])) (aA (a0.1==13) (some (bSD 0,[])) (none))))))))))))))))) (chk (decide (0<=a0.1)&&decide (a0.1<(14:Int))) (aA (a0.1==0) (some (bSD 7,[])) (aA (a0.1==1) (some (bSD 7,[])) (aA (a0.1==2) (some (bSD 4,[])) (aA (a0.1==3) (some (bSD 4,[])) (aA (a0.1==4) (some (bSD 5,[])) (aA (a0.1==5) (some (bSD 6,[])) (aA (a0.1==6) (some (bSD 3,[])) (aA (a0.1==7) (some (bSD 3,[])) (aA (a0.1==8) (some (bSD 3,[])) (aA (a0.1==9) (some (bSD 3,[])) (aA (a0.1==10) (some (bSD 6,[])) (aA (a0.1==11) (some (bSD 2,[])) (aA (a0.1==12) (some (bSD 1,[])) (aA (a0.1==13) (some (bSD 0,[])) (none)))))))))))))))))):=cc
theorem b0N (a0:Int) (a1:Int) (a3:bSH) (a4:Sh.V S1) (nK:bSH):SS.CC 208 [bSD a0,bSD a1,bSF,.cst (bSE a3),.cst (A1 a4)] [some [.ptr 1 0],aF (nK,())]=bD S1 a4.2.2.2.1 a0 fun u2=>ah 113 [bSF,bSE a3,A1 u2,bSD a1] [aF (nK,())] fun _ u6=>some (.tuple [],[some [.ptr 1 0],aF u6]):=cc
def b0O:KT:=SS.rK Tryz.f209 209 0 []
def b0P:KT:=SS.jK 209 32 0 (cS Tryz.f209 15) b0O
def b0Q:KT:=aj 0 b0P
def Xm (x1:bSH) (x15:bSH) (x17:Int):R:=SS.LL (SS.ae 209 32) 0 [1,2,15,16,17] 0 (cS Tryz.f209 75) b0Q ⟨[(1,.sl false 5 x1),(2,.func (.func 210) [] []),(15,.sl false 5 x15),(16,bSD (x15.length:Int)),(17,bSD x17)],[]⟩
theorem aG8 (x1:bSH) (x15:bSH) (x17:Int):Xm x1 x15 x17=aA (decide (x17<(x15.length:Int))) (bD lS x15 x17 fun u2=>bD lS x1 x17 fun u8=>G3 210 [kD u2,kD u8] fun b13=>aA (!b13) (some (.bool false,[])) (Xm x1 x15 (i64.wrap (x17+1)))) (some (.bool true,[])):=ll
theorem b0R (a0:bSH) (a1:bSH):SS.CC 209 [.sl false 5 a0,.sl false 5 a1,.func (.func 210) [] []] []=aA ((a0.length:Int) !=(a1.length:Int)) (some (.bool false,[])) (Xm a1 a0 0):=cc
theorem b0S (a0:Sh.V lS) (a1:Sh.V lS):SS.CC 210 [kD a0,kD a1] []=aA (a0.1==a1.1) (aA (a0.2.1.toList==a1.2.1.toList) (some (.bool (a0.2.2.1==a1.2.2.1),[])) (some (.bool false,[]))) (some (.bool false,[])):=cc
def b1X:KT:=SS.rK Tryz.f244 244 1 [0]
def b1Y:KT:=SS.jK 244 42 1 (cS Tryz.f244 31) b1X
def b1Z:KT:=aj 0 b1Y
def SK (x0:Nat) (x5:Int) (o0:bSH) (x6:Int):R:=SS.LL (SS.ae 244 42) 1 [0,1,5,6] 1 (cS Tryz.f244 151) b1Z ⟨[(0,.slh 0 0 x0 5),(1,.func (.func 246) [] []),(5,bSD x5),(6,bSD x6)],[some o0]⟩
theorem aGD (x0:Nat) (x5:Int) (o0:bSH) (x6:Int):SK x0 x5 o0 x6=chk (o0.all qV&&true) (aA (decide (x6<(x0:Int))) (chk (o0.all qV&&true) (chk (decide (0<=x6)&&decide (x6<(x0:Int))) (chk (decide ((0+x6.toNat*5)+5<=o0.length)) (Ht lS (.agg (((o0.drop (0+x6.toNat*5)).take 5).map PV.un)) fun u1=>G3 246 [kD u1] fun b6=>aA (!b6) (chk (decide (0<=x5)&&decide (x5<(x0:Int))) (chk (decide ((0+x5.toNat*5)+5<=o0.length)) (chk ((o0.take (0+x5.toNat*5) ++ (([bSD u1.1,.str u1.2.1,bSD u1.2.2.1,bSD u1.2.2.2.1,bSD u1.2.2.2.2.1]:bSH):bSH) ++ o0.drop ((0+x5.toNat*5)+5)).all qV&&true) (SK x0 (i64.wrap (x5+1)) (o0.take (0+x5.toNat*5) ++ (([bSD u1.1,.str u1.2.1,bSD u1.2.2.1,bSD u1.2.2.2.1,bSD u1.2.2.2.2.1]:bSH):bSH) ++ o0.drop ((0+x5.toNat*5)+5)) (i64.wrap (x6+1)))))) (chk (o0.all qV&&true) (SK x0 x5 o0 (i64.wrap (x6+1)))))))) (chk (o0.all qV&&true) (chk (decide (0<=x5)&&decide (x5<=(x0:Int))) (aA (decide (x5<(x0:Int))) (chk (decide ((0+x5.toNat*5)+(x0-x5.toNat)*5<=o0.length)) (chk (decide (0<=x5)&&decide (x5<=(x0:Int))&&decide (0<x0)) (chk ((o0.take (0+x5.toNat*5) ++ ((List.replicate (x0-x5.toNat) (([bSD 0,.str ⟨#[]⟩,bSD 0,bSD 0,bSD 0]:bSH):bSH)).flatten.map PV.un) ++ o0.drop ((0+x5.toNat*5)+(x0-x5.toNat)*5)).all qV&&true) (some (.slh 0 0 x5.toNat 5,[some (o0.take (0+x5.toNat*5) ++ ((List.replicate (x0-x5.toNat) (([bSD 0,.str ⟨#[]⟩,bSD 0,bSD 0,bSD 0]:bSH):bSH)).flatten.map PV.un) ++ o0.drop ((0+x5.toNat*5)+(x0-x5.toNat)*5))]))))) (chk (decide (0<=x5)&&decide (x5<=(x0:Int))&&decide (0<x0)) (chk (o0.all qV&&true) (some (.slh 0 0 x5.toNat 5,[some o0])))))))):=ll
theorem b26 (a0:Nat) (h0:bSH):SS.CC 244 [.slh 0 0 a0 5,.func (.func 246) [] []] [some h0]=chk ((decide (a0*5<=h0.length)&&decide (0<5)&&h0.all uH)&&true) (G1 299 [.sl false 5 (mX 5 h0 a0),.func (.func 246) [] []] fun n1=>aA (n1==(-1)) (chk (h0.all qV&&true) (some (.slh 0 0 a0 5,[some h0]))) (chk (h0.all qV&&true) (SK a0 n1 h0 (i64.wrap (n1+1))))):=cc
theorem b2A (a0:bSH):SS.CC 245 [.sl false 5 a0] []=IK a0 fun b1=>aA (b1==true) (some (.sl true 5 [],[])) (chk (decide (0+a0.length<=aQ)) (some (.sl true 5 a0,[]))):=cc
theorem b2B (a0:Sh.V lS):SS.CC 246 [kD a0] []=some (.bool (a0.1==4),[]):=cc
def b2X:KT:=SS.rK Tryz.f258 258 0 []
def b2Y:KT:=SS.jK 258 19 0 (cS Tryz.f258 7) b2X
def b2Z:KT:=aj 0 b2Y
def Xo (x0:bSH) (x1:Int) (x8:Int):R:=SS.LL (SS.ae 258 19) 0 [0,1,7,8] 0 (cS Tryz.f258 37) b2Z ⟨[(0,bSE x0),(1,.func (.func 206) [] [.cst (bSD x1)]),(7,bSD (x0.length:Int)),(8,bSD x8)],[]⟩
theorem aGO (x0:bSH) (x1:Int) (x8:Int):Xo x0 x1 x8=aA (decide (x8<(x0.length:Int))) (dQ x0 x8 fun e1=>vI .i64 e1 fun n2=>G3 206 [bSD n2,.cst (bSD x1)] fun b3=>aA b3 (some (bSD x8,[])) (Xo x0 x1 (i64.wrap (x8+1)))) (some (bSD (-1),[])):=ll
theorem b31 (a0:bSH) (a1:Int):SS.CC 258 [bSE a0,.func (.func 206) [] [.cst (bSD a1)]] []=Xo a0 a1 0:=cc
def b58:KT:=SS.rK Tryz.f299 299 0 []
def b59:KT:=SS.jK 299 19 0 (cS Tryz.f299 7) b58
def b5A:KT:=aj 0 b59
def Si (x0:bSH) (x8:Int):R:=SS.LL (SS.ae 299 19) 0 [0,1,7,8] 0 (cS Tryz.f299 37) b5A ⟨[(0,.sl false 5 x0),(1,.func (.func 246) [] []),(7,bSD (x0.length:Int)),(8,bSD x8)],[]⟩
theorem aH3 (x0:bSH) (x8:Int):Si x0 x8=aA (decide (x8<(x0.length:Int))) (bD lS x0 x8 fun u2=>G3 246 [kD u2] fun b7=>aA b7 (some (bSD x8,[])) (Si x0 (i64.wrap (x8+1)))) (some (bSD (-1),[])):=ll
theorem b5B (a0:bSH):SS.CC 299 [.sl false 5 a0,.func (.func 246) [] []] []=Si a0 0:=cc
end
theorem FN {l:List EX} {k:Nat} (hk:k<l.length) (K:Sh.V S1->R):bD S1 (pq l) (k:Int) K=K (ev l[k]):=by show dQ (pq l) (k:Int) _=_;rw[lH (e:=A1 (ev l[k])) (by omega) (by rw[a1M,nX,iU,iM hk]; rfl)];rfl
theorem uD {a:EX} {l:List EX} (K:Sh.V S1->R):bD S1 (pq (a::l)) 0 K=K (ev a):=FN (l:=a::l) (k:=0) (by simp) K
theorem Ez (l:List EX):(pq l).length=l.length:=by rw[a1M,bM]
mutual
def eQ:EX->EX->Bool
 | .node o v i l,.node o' v' i' l'=>o==o'&&(v==v'&&(i==i'&&wH l l'))
def wH:List EX->List EX->Bool
 | [],[]=>true
 | a::l,b::l'=>eQ a b&&wH l l'
 | _,_=>false
end
theorem RY (o v i:Int) (l:List EX) (o' v' i':Int) (l':List EX):eQ (.node o v i l) (.node o' v' i' l')=(o==o'&&(v==v'&&(i==i'&&wH l l'))):=by rw[eQ]
theorem Wv (a b:EX) (l l':List EX):wH (a::l) (b::l')=(eQ a b&&wH l l'):=by rw[wH]
theorem Wx:∀ {l l':List EX},wH l l'=true->l.length=l'.length
 | [],[],_=>rfl
 | [],_::_,h=>by rw[wH] at h; cases h; all_goals simp
 | _::_,[],h=>by rw[wH] at h; cases h; all_goals simp
 | a::l,b::l',h=>by rw[Wv,au] at h; rw[aY,aY,Wx h.2]
theorem aDP:∀ x y:EX,eQ x y=true->x=y:=by
 intro x;induction x using EX.ind with
 | h o v i l ih =>
  intro y;obtain ⟨o',v',i',l'⟩:=y;intro h;rw[RY,au,au,au] at h;obtain ⟨h1,h2,h3,h4⟩:=h;have hl:∀ (l:List EX),(∀ e,e∈l->∀ y,eQ e y=true->e=y)->∀ l',wH l l'=true->l=l':=by
   intro l;induction l with
   | nil=>intro _ l' h; cases l' with
    | nil=>rfl
    | cons b l'=>have:=Wx h; cases this
   | cons a l ihl =>
    intro hi l' h;cases l' with
    | nil=>have:=Wx h; cases this
    | cons b l' =>rw[Wv,au] at h;rw[hi a (by simp) b h.1,ihl (fun e he=>hi e (by simp[he])) l' h.2]
  rw[hl l ih l' h4,show o=o' by simpa using h1,show v=v' by simpa using h2,show i=i' by simpa using h3]
theorem NH:∀ x:EX,eQ x x=true:=by
 intro x;induction x using EX.ind with
 | h o v i l ih =>
  have hl:∀ (l:List EX),(∀ e,e∈l->eQ e e=true)->wH l l=true:=by
   intro l;induction l with
   | nil=>intro _; rw[wH]
   | cons a l ihl=>intro h; rw[Wv,h a (by simp),ihl fun e he=>h e (by simp[he])]; rfl
  rw[RY,sF,sF,sF,hl l ih]; rfl
theorem drop_cons {α:Type} {l r:List α} {a:α} {k:Nat} (h:l.drop k=a::r):∃ hk:k<l.length,l[k]=a/\l.drop (k+1)=r:=by
 have hk:k<l.length:=by
  rcases lq k l.length with h' | h'
  .exact h'
  .rw[Ef h'] at h; cases h
 rw[DF hk] at h;injection h with h1 h2
 exact ⟨hk,h1,h2⟩
theorem aDV (la lb:List EX) (hn:la.length<9223372036854775807) (hl:la.length=lb.length) (ih:∀ e,e∈la->∀ y,SS.CC 23 [A1 (ev e),A1 (ev y)] []=some (.bool (eQ e y),[])) :
 ∀ (a b:List EX) (k:Nat),la.drop k=a->lb.drop k=b->k<=la.length->XQ (pq lb) (pq la) (k:Int)=some (.bool (wH a b),[])
 | [],b,k,ha,hb,hk=>by
  have h1:la.length<=k:=QA.1 ha;have h2:b = []:=by rw[<- hb]; exact Ef (by omega)
  subst h2;rw[aEX,aT (by rw[Ez]; omega),aC,wH]
 | a::ta,b,k,ha,hb,hk=>by
  obtain ⟨h1,h2,h3⟩:=drop_cons ha;have hkb:k<lb.length:=by omega
  rw[DF hkb] at hb;subst hb;rw[aEX,aO (by rw[Ez]; omega),aG,FN h1,FN hkb,h2,bF (ih a (by rw[<- h2]; exact dw h1) _),Wv];cases eQ a lb[k] with
  | false=>rfl
  | true =>rw[nG,aC,wrap64 (by omega) (by omega),show ((k:Int)+1)=((k+1:Nat):Int) by omega,DC];exact aDV la lb hn hl ih ta _ (k+1) h3 rfl (by omega)
theorem eG {x:EX} (h:x.Len):∀ y,SS.CC 23 [A1 (ev x),A1 (ev y)] []=some (.bool (eQ x y),[]):=by
 induction h with
 | @mk o v i l hl _ _ _ _ ih =>
  intro y;obtain ⟨o',v',i',l'⟩:=y;rw[b1P,kH,kH,RY];try dsimp only
  cases o==o' with
  | false=>rfl
  | true =>
   cases v==v' with
   | false=>rfl
   | true =>
    cases i==i' with
    | false=>rfl
    | true =>
     rw[aG,aG,aG,DC,DC,DC];have:SS.CC 106 [.sl false 4 (pq l),.sl false 4 (pq l'),.func (.func 23) [] []] []=some (.bool (wH l l'),[]):=by
      rw[aWR,Ez,Ez];by_cases hll:l.length=l'.length
      .rw[show ((l.length:Int) !=(l'.length:Int))=false by simp[hll],aC];exact aDV l l' (by omega) hll ih l l' 0 rfl rfl (BH _)
      .rw[show ((l.length:Int) !=(l'.length:Int))=true by simp; omega,aG];cases hq:wH l l' with
       | false=>rfl
       | true=>exact absurd (Wx hq) hll
     rw[bF this]
def Eu (o:Int):Nat:=if o=0\/o=1 then 0 else if o=5\/o=10 then 1 else if o=13 then 3 else 2
inductive Fd (n:Int):EX->Prop
 | mk {o v i:Int} {l:List EX}:0<=o->o<=13->l.length=Eu o->(o≠0->v=0)->(o≠1->i=0)->(o=0 -> -65536<=v/\v<=65536)->(o=1->0<=i/\i<n)->(∀ e,e∈l->Fd n e)->Fd n (.node o v i l)
mutual
def oG:EX->Nat
 | .node _ _ _ l=>EW l+1
def EW:List EX->Nat
 | []=>0
 | e::l=>oG e+EW l
end
mutual
def NG:EX->Nat
 | .node _ _ _ l=>RQ l+1
def RQ:List EX->Nat
 | []=>0
 | e::l=>max (NG e) (RQ l)
end
theorem arc (o:Int):∃ a b,SS.CC 202 [bSD o] []=some (.tuple [bSD a,.bool b],[])/\(b=true->0<=o/\o<=13/\a=(Eu o:Int)):=by
 rw[b0I];by_cases h:0<=o/\o<=13
 .have:o=0\/o=1\/o=2\/o=3\/o=4\/o=5\/o=6\/o=7\/o=8\/o=9\/o=10\/o=11\/o=12\/o=13:=by omega
  rcases this with rfl | rfl | rfl | rfl | rfl | rfl | rfl | rfl | rfl | rfl | rfl | rfl | rfl | rfl<;>exact ⟨_,true,rfl,fun _=>⟨by decide,by decide,rfl⟩⟩
 .have f:∀ k:Int,0<=k/\k<=13->(o==k)=false:=fun k hk=>by simp; omega
  refine ⟨0,false,?_,fun h=>by cases h⟩;rw[f 0 (by decide),f 1 (by decide),f 5 (by decide),f 10 (by decide),f 2 (by decide),f 3 (by decide),f 4 (by decide),f 6 (by decide),f 7 (by decide),f 8 (by decide),f 9 (by decide),f 11 (by decide),f 12 (by decide),f 13 (by decide)];rfl
theorem lgc (v:Int) (h : -9223372036854775808<=v/\v<=9223372036854775807):∃ b,SS.CC 203 [bSD v,bSD 65536] []=some (.bool b,[])/\(b=false -> -65536<=v/\v<=65536):=by
 rw[aG7];by_cases h1:(65536:Int)<v
 .rw[aO h1,aG]; exact ⟨true,rfl,fun h=>by cases h⟩
 .rw[aT h1,aC,wrap64 (by decide) (by decide)];refine ⟨_,rfl,fun h => ?_⟩;have:¬ v<0-65536:=by simpa using h
  omega
def QV (n:Int) (x:EX) (d c:Int) (r:R):Prop:=∃ e c',r=some (bSD e,[iV (c',())])/\0<=c'/\c'<=64/\(e=0->Fd n x/\d+(NG x:Int)<=9/\c'=c+(oG x:Int))
theorem aDJ {m:Nat}:∀ {l:List EX},(∀ e,e∈l->NG e<=m)->RQ l<=m
 | [],_=>by rw[RQ]; exact BH _
 | a::l,h=>by rw[RQ]; exact Nat.max_le.2 ⟨h a (by simp),aDJ fun e he=>h e (by simp[he])⟩
theorem aE9 {n d:Int} (hd:d<=8) (hd0:0<=d) (all:List EX) (hn:all.length<=3) (ih:∀ e,e∈all->∀ d c,0<=d->d<=9->0<=c->c<=64->QV n e d c (SS.CC 109 [A1 (ev e),bSD n,bSD d,bSF] [iV (c,())])) :
 ∀ (l:List EX) (k:Nat) (c:Int),all.drop k=l->k<=all.length->0<=c->c<=64->∃ e c',XT n d (pq all) c (k:Int)=some (bSD e,[iV (c',())])/\0<=c'/\c'<=64/\(e=0->(∀ e,e∈l->Fd n e/\d+1+(NG e:Int)<=9)/\c'=c+(EW l:Int))
 | [],k,c,ha,hk,h0,h1=>by have h2:all.length<=k:=QA.1 ha;rw[aE',aT (by rw[Ez]; omega),aC];exact ⟨0,c,rfl,h0,h1,fun _=>⟨fun _ h=>(by cases h),by simp[EW]⟩⟩
 | a::l,k,c,ha,hk,h0,h1=>by
  obtain ⟨k1,k2,k3⟩:=drop_cons ha;rw[aE',aO (by rw[Ez]; omega),aG,FN k1,k2,wrap64 (by omega) (by omega)];obtain ⟨e,c',r1,r2,r3,r4⟩:=ih a (by rw[<- k2]; exact dw k1) (d+1) c (by omega) (by omega) h0 h1;rw[aBI r1];try dsimp only
  by_cases he:e=0
  .obtain ⟨f1,f2,f3⟩:=r4 he;rw[ug he,aC,wrap64 (by omega) (by omega),show ((k:Int)+1)=((k+1:Nat):Int) by omega];obtain ⟨e2,c2,s1,s2,s3,s4⟩:=aE9 hd hd0 all hn ih l (k+1) c' k3 (by omega) r2 r3;refine ⟨e2,c2,s1,s2,s3,fun h => ?_⟩;obtain ⟨t1,t3⟩:=s4 h;refine ⟨fun x hx => ?_,?_⟩
   .rcases iQ.1 hx with rfl | hx
    .exact ⟨f1,f2⟩
    .exact t1 x hx
   .rw[EW,t3,f3]; omega
  .rw[xM he,aG];exact ⟨e,c',rfl,r2,r3,fun h=>absurd h he⟩
theorem aV' {n:Int} {x:EX} (hx:x.Len):∀ d c,0<=d->d<=9->0<=c->c<=64->QV n x d c (SS.CC 109 [A1 (ev x),bSD n,bSD d,bSF] [iV (c,())]):=by
 induction hx with
 | @mk o v i l hl hv ho hi _ ih =>
  intro d c h0 h1 h2 h3;have bad:∀ (e c':Int),e≠0->0<=c'->c'<=64->QV n (.node o v i l) d c (some (bSD e,[iV (c',())])):=fun e c' he k1 k2=>⟨e,c',rfl,k1,k2,fun h=>absurd h he⟩
  rw[aWZ,kH];try dsimp only
  by_cases hc:c=64
  .rw[show (c==64)=true by simp[hc],aG]; exact bad 3 c (by decide) h2 h3
  rw[show (c==64)=false by simpa using hc,aC];by_cases hd:8<d
  .rw[aO hd,aG]; exact bad 3 c (by decide) h2 h3
  rw[aT hd,aC];obtain ⟨a,b,e1,e2⟩:=arc o;rw[aRK e1];try dsimp only
  have hw:i64.wrap (c+1)=c+1:=wrap64 (by omega) (by omega);rw[hw];have bad':∀ e:Int,e≠0->QV n (.node o v i l) d c (some (bSD e,[iV (c+1,())])):=fun e he=>bad e _ he (by omega) (by omega)
  cases b with
  | false=>rw[rq,aG]; exact bad' 11 (by decide)
  | true =>
   obtain ⟨o1,o2,rfl⟩:=e2 rfl;rw[nG,aC,Ez];by_cases hlen:l.length=Eu o
   .have hl3:l.length<=3:=by
     rw[hlen]; unfold Eu;repeat' split
     all_goals omega
    rw[show ((l.length:Int) !=(Eu o:Int))=false by simp[hlen],aC];have good:(o≠0->v=0)->(o≠1->i=0)->(o=0 -> -65536<=v/\v<=65536)->(o=1->0<=i/\i<n)->QV n (.node o v i l) d c (uA n d (o,v,i,pq l,()) (c+1)):=fun g1 g2 g3 g4=>by
     rw[aWW];obtain ⟨e,c',r1,r2,r3,r4⟩:=aE9 (n:=n) (d:=d) (by omega) h0 l hl3 ih l 0 (c+1) rfl (BH _) (by omega) (by omega);refine ⟨e,c',r1,r2,r3,fun h => ?_⟩;obtain ⟨t1,t2⟩:=r4 h;refine ⟨.mk o1 o2 hlen g1 g2 g3 g4 fun e he=>(t1 e he).1,?_,?_⟩
     .rw[NG];have:=aDJ (m:=(8-d).toNat) (l:=l) fun e he=>by have:=(t1 e he).2; omega
      omega
     .rw[oG,t2]; omega
    obtain ⟨bl,q1,q2⟩:=lgc v hv;rw[bF q1];by_cases p0:o=0
    .subst p0;rw[show ((0:Int) != 0)=false from rfl,aC,show ((0:Int) != 1)=true from rfl,aG];by_cases p2:i=0
     .rw[ug p2,aC,show ((0:Int)==0)=true from rfl,aG];cases bl with
      | true=>rw[aG]; exact bad' 2 (by decide)
      | false =>rw[aC,show ((0:Int)==1)=false from rfl,aC];exact good (fun h=>absurd rfl h) (fun _=>p2) (fun _=>q2 rfl) (fun h=>by cases h)
     .rw[xM p2,aG]; exact bad' 6 (by decide)
    .rw[xM p0,aG];by_cases p1:v=0
     .rw[ug p1,aC];by_cases p3:o=1
      .subst p3;rw[show ((1:Int) != 1)=false from rfl,aC,show ((1:Int)==0)=false from rfl,aC,show ((1:Int)==1)=true from rfl,aG];by_cases p4:i<0
       .rw[aO p4,aG]; exact bad' 2 (by decide)
       .rw[aT p4,aC];by_cases p5:n<=i
        .rw[aO p5,aG]; exact bad' 2 (by decide)
        .rw[aT p5,aC];exact good (fun _=>p1) (fun h=>absurd rfl h) (fun h=>by cases h) (fun _=>⟨by omega,by omega⟩)
      .rw[show (o != 1)=true by simpa using p3,aG];by_cases p2:i=0
       .rw[ug p2,aC,WJ p0,aC,show (o==1)=false by simpa using p3,aC];exact good (fun _=>p1) (fun _=>p2) (fun h=>absurd h p0) (fun h=>absurd h p3)
       .rw[xM p2,aG]; exact bad' 6 (by decide)
     .rw[xM p1,aG]; exact bad' 6 (by decide)
   .rw[show ((l.length:Int) !=(Eu o:Int))=true by simp; omega,aG];exact bad' 4 (by decide)
abbrev kS (l:List Int):bSH:=l.map fun k => bSD k
theorem aKC (all:List Int) (hn:all.length<1000000000000) (a:Int):∀ (l:List Int) (k:Nat),all.drop k=l->∃ r,Xo (kS all) a (k:Int)=some (bSD r,[])
 | [],k,h=>by have h1:all.length<=k:=QA.1 h;rw[aGO,aT (by rw[bM]; omega),aC];exact ⟨_,rfl⟩
 | x::l,k,h=>by
  obtain ⟨h1,h2,h3⟩:=drop_cons h;rw[aGO,aO (by rw[bM]; omega),aG,lH (e := bSD x) (by omega) (by rw[nX,iU,iM h1,h2]; rfl),BB,bF (b0L x a)];cases x != a with
  | true=>exact ⟨_,rfl⟩
  | false =>rw[aC,wrap64 (by omega) (by omega),show ((k:Int)+1)=((k+1:Nat):Int) by omega];exact aKC all hn a l (k+1) h3
theorem aSK (ks:List Int) (hn:ks.length<1000000000000) (a:Int):∃ b,SS.CC 204 [bSD a,bSF] [jC (kS ks,())]=some (.bool b,[jC (kS ks,())]):=by
 obtain ⟨r,hr⟩:=aKC ks hn a ks 0 rfl;have h1:SS.CC 258 [bSE (kS ks),.func (.func 206) [] [.cst (bSD a)]] []=some (bSD r,[]):=(b31 _ _).trans hr;have h2:SS.CC 205 [bSE (kS ks),.func (.func 206) [] [.cst (bSD a)]] []=some (.bool (decide (0<=r)),[]):=by rw[b0K,bf h1]
 exact ⟨_,by rw[b0J,bF h2]⟩
def Tot (r:R):Prop:=∃ k,r=some (bSD k,[])
theorem vJ {b:Bool} {x y:R} (hx:Tot x) (hy:Tot y):Tot (aA b x y):=by cases b<;>assumption
theorem GM (k:Int):Tot (some (bSD k,[])):=⟨k,rfl⟩
theorem bN9 {ks:List Int} (hn:ks.length<1000000000000) {a p q:Int}:Tot (zF 204 [bSD a,bSF] [jC (kS ks,())] fun b _=>aA b (some (bSD p,[])) (some (bSD q,[]))):=by obtain ⟨b,hb⟩:=aSK ks hn a;rw[aRS hb];exact vJ (GM _) (GM _)
theorem aKW {o v i:Int} {all:List EX} (hn:all.length<=3) (h13:o=13->all.length=3) (ho:0<=o/\o<=13) (ih:∀ e,e∈all->Tot (SS.CC 110 [A1 (ev e)] [])) :
 ∀ (l:List EX) (k:Nat) (ks:List Int),all.drop k=l->ks.length=k->k<=all.length->Tot (XU (o,v,i,pq all,()) (k:Int) (kS ks))
 | [],k,ks,h,hk,hk2=>by
  have h1:all.length<=k:=QA.1 h;have hks:ks.length<1000000000000:=by omega
  rw[aF0];try dsimp only
  rw[aT (by rw[Ez]; omega),aC];have al:=fun a p q=>bN9 hks (a:=a) (p:=p) (q:=q)
  refine vJ (GM _) (vJ (GM _) (vJ (al _ _ _) (vJ (al _ _ _) (vJ (al _ _ _) (vJ (al _ _ _) (vJ (al _ _ _) (vJ (al _ _ _) (vJ (al _ _ _) (vJ (al _ _ _) (vJ (al _ _ _) (vJ (al _ _ _) (vJ (al _ _ _) ?_))))))))))));by_cases h3:o=13
  .rw[show (o==13)=true by simp[h3],aG];have hl:=h13 h3;match ks,hk with
   | [a,b,c],_ =>rw[show kS [a,b,c] = [PV.int .i64 a,bSD b,bSD c] from rfl,lH (e := bSD a) (by decide) rfl,BB];refine vJ ?_ (GM _);rw[lH (e := bSD b) (by decide) rfl,BB,lH (e := bSD c) (by decide) rfl,BB];refine vJ ?_ (GM _);exact GM _
   | [],hk=>simp at hk; omega
   | [_],hk=>simp at hk; omega
   | [_,_],hk=>simp at hk; omega
   | _::_::_::_::_,hk=>simp at hk; omega
  .rw[show (o==13)=false by simpa using h3,aC];exact GM _
 | a::l,k,ks,h,hk,hk2=>by
  obtain ⟨h1,h2,h3⟩:=drop_cons h;rw[aF0];try dsimp only
  rw[aO (by rw[Ez]; omega),aG,FN h1,h2];obtain ⟨n,hn1⟩:=ih a (by rw[<- h2]; exact dw h1);rw[bf hn1];refine vJ (GM _) ?_;rw[aX (aO (by rw[bM]; unfold aQ; omega)),wrap64 (by omega) (by omega),show ((k:Int)+1)=((k+1:Nat):Int) by omega,show kS ks ++ ([bSD n]:bSH)=kS (ks ++ [n]) by simp];exact aKW hn h13 ho ih l (k+1) (ks ++ [n]) h3 (by simp[hk]) (by omega)
theorem bEY {n:Int} {x:EX} (h:Fd n x):Tot (SS.CC 110 [A1 (ev x)] []):=by
 induction h with
 | @mk o v i l h1 h2 h3 _ _ _ _ _ ih =>
  rw[aX2,kH];have hl:l.length<=3:=by
   rw[h3]; unfold Eu;repeat' split
   all_goals omega
  exact aKW hl (fun h=>by rw[h3,h]; rfl) ⟨h1,h2⟩ ih l 0 [] rfl rfl (BH _)
theorem aDA {x:EX} (hx:x.Len) {n:Int} (h0:0<=n) (h1:n<=16):∃ k e,SS.CC 27 [A1 (ev x),bSD n] []=some (.tuple [bSD k,bSD e],[])/\(e=0->Fd n x/\NG x<=8/\oG x<=64):=by
 rw[aH1,aT (by omega),aC,aT (by omega),aC];obtain ⟨e,c',r1,r2,r3,r4⟩:=aV' (n:=n) hx 1 0 (by decide) (by decide) (by decide) (by decide);rw[aBI r1];try dsimp only
 by_cases he:e=0
 .obtain ⟨f1,f2,f3⟩:=r4 he;rw[ug he,aC];obtain ⟨k,hk⟩:=bEY f1;rw[bf hk];cases k==0 with
  | true=>exact ⟨_,_,rfl,fun h=>by cases h⟩
  | false=>exact ⟨_,_,rfl,fun _=>⟨f1,by omega,by omega⟩⟩
 .rw[xM he,aG];exact ⟨_,_,rfl,fun h=>absurd h he⟩
def CU (k n:Nat):Bool:=isLet n||(decide (k≠0)&&eU n)
def Ag:bSI->Nat->Bool
 | [],_=>true
 | b::l,k=>CU k b.toNat&&Ag l (k+1)
def nameB (l:bSI):Bool:=Ag l 0&&(decide (0<l.length)&&decide (l.length<=32))
theorem bHO {k n:Nat} (h:((97<=n/\n<=122)\/(65<=n/\n<=90)\/n=95)\/(k≠0/\48<=n/\n<=57)):CU k n=true:=by unfold CU isLet eU;simp only[y9,au,iy,oN];exact h
theorem bHN {k n:Nat} (h:¬ (((97<=n/\n<=122)\/(65<=n/\n<=90)\/n=95)\/(k≠0/\48<=n/\n<=57))):CU k n=false:=by rw[Bool.eq_false_iff];intro c;unfold CU isLet eU at c;simp only[y9,au,iy,oN] at c;exact h c
theorem aN7 (all:bSI) (hn:all.length<=1000):∀ (l:bSI) (k:Nat),all.drop k=l->k<=all.length->xR (bs all) (k:Int)=some (.bool (Ag l k&&(decide (0<all.length)&&decide (all.length<=32))),[])
 | [],k,h,hk=>by
  have h1:all.length<=k:=QA.1 h;rw[aH0,aT (by rw[kG]; omega),aC,Ag,DC,kG];by_cases h2:0<all.length
  .rw[aO (show (0:Int)<(all.length:Int) by omega),aG,aO h2,DC,show decide ((all.length:Int)<=32)=decide (all.length<=32) from by
    by_cases h3:all.length<=32
    .rw[aO h3,aO (by omega)]
    .rw[aT h3,aT (by omega)]]
  .rw[aT (show ¬ (0:Int)<(all.length:Int) by omega),aC,aT h2]; rfl
 | b::l,k,h,hk=>by
  obtain ⟨h1,h2,h3⟩:=drop_cons h;have ih:xR (bs all) (i64.wrap ((k:Int)+1))=some (.bool (Ag l (k+1)&&(decide (0<all.length)&&decide (all.length<=32))),[]):=by rw[wrap64 (by omega) (by omega),show ((k:Int)+1)=((k+1:Nat):Int) by omega];exact aN7 all hn l (k+1) h3 (by omega)
  rw[aH0,aO (by rw[kG]; omega),aG,Di (b:=b) (by omega) (by rw[nX,Gy,iM h1,h2]),ih,Ag];generalize b.toNat=n;have hf:CU k n=false->(some (PV.bool false,[]):R)=some (.bool (CU k n&&Ag l (k+1)&&(decide (0<all.length)&&decide (all.length<=32))),[]):=fun h=>by rw[h]; rfl
  have ht:CU k n=true->(some (PV.bool (Ag l (k+1)&&(decide (0<all.length)&&decide (all.length<=32))),[]):R)=some (.bool (CU k n&&Ag l (k+1)&&(decide (0<all.length)&&decide (all.length<=32))),[]):=fun h=>by rw[h,DC]
  simp only[N7,iy,oN,y8,vU];repeat' split
  all_goals first
   | exact ht (bHO (by omega))
   | exact hf (bHN (by omega))
theorem zY (l:bSI) (hn:l.length<=1000):SS.CC 26 [.str (bs l)] []=some (.bool (nameB l),[]):=by rw[b4H]; exact aN7 l hn l 0 rfl (BH _)
theorem bKV (l:bSI):SS.CC 112 [.str (bs l)] []=some (.bool (l==EY||l==Ha),[]):=by rw[aX3,Dh,tlT,tlF];cases l==EY<;>rfl
abbrev CO (l:List (bSI)):List bSG:=l.map bs
theorem a6K {l:List (bSI)} {k:Nat} (hk:k<l.length):(yU (CO l))[(k:Int).toNat]? = some (.str (bs l[k])):=by unfold yU CO;rw[nX,iU,iU,iM hk]; rfl
theorem bHC (l:List (bSI)):(yU (CO l)).length=l.length:=by unfold yU CO; rw[bM,bM]
theorem J8 {g:FuncId} {a:bSH} {l1:bSH} {K:RS.F (.tl false 5) R} (e:SS.CC g a []=some (.sl false 5 l1,[])):QX g a K=K l1:=wE e rfl
theorem aRL {g:FuncId} {a:bSH} {l1:bSH} {K:RS.F (.tl true 5) R} (e:SS.CC g a []=some (.sl true 5 l1,[])):G49 g a K=K l1:=wE e rfl
theorem aRV {g:FuncId} {a:bSH} {h:aI} {n:Nat} {l:bSH} {K:RS.F (.o (.H 0 0 5)) (fD [.a])} (e:SS.CC g a h=some (.slh 0 0 n 5,[some l])):H50 g a h K=K (n,()) l:=gm e rfl
def rD (ts:List Tok):List Tok:=ts.filter fun t=>t.kind != 4
def Dj (t:Tok):bSH := [bSD t.kind,.str (bs t.text),bSD t.value,bSD t.line,bSD t.sS]
def jk (us:List Tok):bSH:=us.flatMap Dj
theorem He (t:Tok) (us:List Tok):jk (t::us)=Dj t ++ jk us:=rfl
theorem aEK:∀ (us:List Tok),dW (us.map ay)=jk us
 | []=>rfl
 | t::us=>by rw[qm,He,<- aEK us]; rfl
theorem Rj:∀ (us:List Tok),(jk us).length=us.length*5
 | []=>rfl
 | t::us=>by rw[He,aP,Rj us,aY,Ej]; show 5+_=_; omega
theorem aEL (a b:List Tok):jk (a ++ b)=jk a ++ jk b:=List.flatMap_append
theorem XG:∀ (us:List Tok) (j:Nat),(jk us).drop (j*5)=jk (us.drop j)
 | [],j=>by simp[jk]
 | t::us,0=>rfl
 | t::us,j+1=>by rw[He,show (j+1)*5=5+j*5 by omega,List.drop_succ_cons,<- XG us j];exact List.drop_length_add_append (l₁:=Dj t) (l₂:=jk us) (j*5)
theorem a1Z:∀ (us:List Tok) (j:Nat),(jk us).take (j*5)=jk (us.take j)
 | [],j=>by simp[jk]
 | t::us,0=>by simp[jk]
 | t::us,j+1=>by rw[He,show (j+1)*5=5+j*5 by omega,VP,He,<- a1Z us j];exact List.take_length_add_append (l₁:=Dj t) (l₂:=jk us) (j*5)
theorem aEO {us:List Tok} {j:Nat} {t:Tok} (h:us[j]? = some t):((jk us).drop (j*5)).take 5=Dj t:=by
 have hlt:=(eP.1 h).1;rw[XG,DF hlt,He];rw[iM hlt] at h; injection h with h
 rw[h]; rfl
theorem aW6 {us:List Tok} {i:Nat} (h:i<us.length) (t:Tok):(jk us).take (i*5) ++ Dj t ++ (jk us).drop (i*5+5)=jk (us.set i t):=by rw[show i*5+5=(i+1)*5 by omega,a1Z,XG,List.set_eq_take_append_cons_drop,aJ h,aEL,He,jc]
theorem aW5 (us:List Tok):(jk us).all uH=true:=by rw[iC];intro p hp;obtain ⟨t,_,ht⟩:=List.mem_flatMap.1 hp;simp only[Dj,iQ,vP,vV] at ht;rcases ht with rfl | rfl | rfl | rfl | rfl<;>rfl
theorem aEN (us:List Tok):((jk us).all fun p=>p.one&&p.flat)=true:=by rw[iC];intro p hp;obtain ⟨t,_,ht⟩:=List.mem_flatMap.1 hp;simp only[Dj,iQ,vP,vV] at ht;rcases ht with rfl | rfl | rfl | rfl | rfl<;>rfl
theorem bN7 (us:List Tok):(us.map ay).all (yV 5)=true:=by rw[iC];intro p hp;obtain ⟨t,_,rfl⟩:=qL.1 hp;rfl
theorem aEM {us:List Tok} {k:Nat} (h:k<=us.length):mX 5 (jk us) k=(us.take k).map ay:=by
 show (List.range k).map (fun j=>PV.agg ((((jk us).drop (j*5)).take 5).map PV.un))=_;apply Ll;intro j;by_cases hj:j<k
 .have h1:us[j]? = some us[j]:=iM (by omega);rw[iU,List.getElem?_range hj,iU,iO,aJ hj,h1,sD,sD,aEO h1];rfl
 .rw[ww (by rw[bM,List.length_range]; omega),ww (by rw[bM,nY]; omega)]
theorem bP5 (m:Nat):((List.replicate m (([bSD 0,.str ⟨#[]⟩,bSD 0,bSD 0,bSD 0]:bSH):bSH)).flatten.map PV.un)=jk (List.replicate m Tok.zero):=by
 induction m with
 | zero=>rfl
 | succ m ih=>rw[VO,VO,aB6,ry,ih,He]; rfl
theorem JV (us:List Tok):(jk us).all qV=true:=aEN us
theorem bV {k:Nat} (h:k<1000000000000):i64.wrap ((k:Int)+1)=((k+1:Nat):Int):=by rw[wrap64 (by omega) (by omega)]; omega
theorem RX {a b:Int} (h:a=b):(a==b)=true:=by simp[h]
theorem RV {a b:Int} (h:a≠b):(a==b)=false:=by simp[h]
theorem U0 {ts:List Tok} {k:Nat} (hk:k<ts.length) (K:Sh.V lS->R):bD lS (ts.map ay) (k:Int) K=K (tk ts[k]):=by show dQ (ts.map ay) (k:Int) _=_;rw[lH (e:=ay ts[k]) (by omega) (by rw[nX,iU,iM hk]; rfl)];rfl
theorem gvT (t:Tok) (K:Sh.V lS->R):Ht lS (.agg ((Dj t).map PV.un)) K=K (tk t):=rfl
theorem m65 (t:Tok):SS.CC 246 [kD (tk t)] []=some (.bool (t.kind==4),[]):=b2B _
theorem bGF (ts:List Tok) (hl:ts.length<=1000000):∀ (m k:Nat),k+m=ts.length->(∀ t,t∈ts.take k->t.kind≠4) ->
 (Si (ts.map ay) (k:Int)=some (bSD (-1),[])/\∀ t,t∈ts->t.kind≠4)\/∃ (p:Nat) (t:Tok),Si (ts.map ay) (k:Int)=some (bSD (p:Int),[])/\ts[p]? = some t/\t.kind=4/\∀ t,t∈ts.take p->t.kind≠4:=by
 intro m;induction m with
 | zero =>intro k hk h;left;rw[nZ (by omega)] at h;exact ⟨by rw[aH3,aT (by rw[bM]; omega),aC],h⟩
 | succ m ih =>
  intro k hk h;have h1:ts[k]? = some ts[k]:=iM (by omega);rw[aH3,aO (by rw[bM]; omega),aG,U0 (by omega),bF (m65 _),bV (by omega)];by_cases h4:ts[k].kind=4
  .right;rw[RX h4,aG];exact ⟨k,ts[k],rfl,h1,h4,h⟩
  .rw[RV h4,aC];refine ih (k+1) (by omega) fun t ht => ?_
   rw[Ls (by omega)] at ht;rcases yA.1 ht with ht | ht
   .exact h t ht
   .simp only[DK] at ht; subst ht; exact h4
theorem m82 (ts:List Tok) (hl:ts.length<=1000000):(SS.CC 299 [.sl false 5 (ts.map ay),.func (.func 246) [] []] []=some (bSD (-1),[])/\∀ t,t∈ts->t.kind≠4)\/∃ (p:Nat) (t:Tok),SS.CC 299 [.sl false 5 (ts.map ay),.func (.func 246) [] []] []=some (bSD (p:Int),[])/\ts[p]? = some t/\t.kind=4/\∀ t,t∈ts.take p->t.kind≠4:=by rw[b5B];exact bGF ts hl ts.length 0 (by omega) (by simp)
theorem JF {ts:List Tok} (h:∀ t,t∈ts->t.kind≠4):rD ts=ts:=List.filter_eq_self.2 fun t ht=>by simp[bne_iff_ne,h t ht]
theorem a0V (a b:List Tok):rD (a ++ b)=rD a ++ rD b:=List.filter_append ..
theorem WI {t:Tok} (h:t.kind=4) (l:List Tok):rD (t::l)=rD l:=List.filter_cons_of_neg (by simp[h])
theorem aT8 {t:Tok} (h:t.kind≠4) (l:List Tok):rD (t::l)=t::rD l:=List.filter_cons_of_pos (by simp[bne_iff_ne,h])
theorem bGD (ts:List Tok) (hl:ts.length<=1000000) (h0:0<ts.length):∀ (m i j:Nat) (us:List Tok),j+m=ts.length->i<=j->us.length=ts.length->us.drop j=ts.drop j ->
 ∃ k wZ,SK ts.length (i:Int) (jk us) (j:Int)=some (.slh 0 0 k 5,[some (jk wZ)])/\wZ.length=ts.length/\k<=ts.length/\wZ.take k=us.take i ++ rD (ts.drop j):=by
 intro m;induction m with
 | zero =>
  intro i j us hj hij Hw hd;have hjn:j=ts.length:=by omega
  subst hjn;rw[aGD];simp only[JV,yw,nX,kW,Rj];rw[aX rfl,aT (by omega),aC,aX rfl,aX (by simp<;>omega)];rw[Ef (bW _)];by_cases hi:i<ts.length
  .have e1:(jk us).take (i*5) ++ (List.replicate (ts.length-i) [PV.int .i64 0,.str ⟨#[]⟩,bSD 0,bSD 0,bSD 0]).flatten.map PV.un ++ (jk us).drop (i*5+(ts.length-i)*5)=jk (us.take i ++ List.replicate (ts.length-i) Tok.zero):=by rw[bP5,a1Z,show i*5+(ts.length-i)*5=ts.length*5 by omega,<- Hw,XG,Ef (bW _),aEL];simp[jk]
   rw[aO (by omega),aG,e1,aX (aO (by rw[Hw]; omega)),aX (by simp<;>omega),JV,aX (b:=true&&true) rfl];have hti:(us.take i).length=i:=by rw[nY]; omega
   refine ⟨i,_,rfl,by rw[aP,hti,List.length_replicate]; omega,by omega,?_⟩;rw[List.take_append_of_le_length (by omega),nZ (by omega)];simp[rD]
  .rw[aT (by omega),aC,aX (by simp<;>omega),aX rfl];exact ⟨i,us,rfl,Hw,by omega,by simp[rD]⟩
 | succ m ih =>
  intro i j us hj hij Hw hd;have hjl:j<ts.length:=by omega
  have h1:ts[j]? = some ts[j]:=iM hjl;have h2:us[j]? = some ts[j]:=by
   have:=congrArg (fun l=>l[0]?) hd;have e:us[j]? = ts[j]? := by simpa using this
   rw[e,h1]
  have hd1:us.drop (j+1)=ts.drop (j+1):=by have:=congrArg (fun l=>l.drop 1) hd;simpa using this
  rw[DF hjl];rw[aGD];simp only[JV,yw,nX,kW,Rj,aEO h2];rw[aX rfl,aO (by omega),aG,aX rfl,aX (by simp<;>omega),aX (aO (by rw[Hw]; omega)),gvT,bF (m65 _)];by_cases h4:ts[j].kind=4
  .rw[RX h4,nG,aC,aX rfl,bV (by omega)];obtain ⟨k,wZ,q1,q2,q3,q4⟩:=ih i (j+1) us (by omega) (by omega) Hw hd1;refine ⟨k,wZ,q1,q2,q3,?_⟩;rw[q4,WI h4]
  .have hil:i<us.length:=by omega
   have e1:=aW6 hil ts[j];rw[RV h4,rq,aG,aX (by simp<;>omega),aX (aO (by rw[Hw]; omega)),show [PV.int .i64 ts[j].kind,.str (bs ts[j].text),bSD ts[j].value,bSD ts[j].line,bSD ts[j].sS]=Dj ts[j] from rfl,e1,JV,aX (b:=true&&true) rfl,
    bV (k:=i) (by omega),bV (k:=j) (by omega)]
   obtain ⟨k,wZ,q1,q2,q3,q4⟩:=ih (i+1) (j+1) (us.set i ts[j]) (by omega) (by omega) (by rw[Eg]; exact Hw) (by rw[List.drop_set_of_lt (by omega)]; exact hd1);refine ⟨k,wZ,q1,q2,q3,?_⟩;rw[q4,Ls (by rw[Eg]; exact hil),List.getElem_set_self,List.take_set_of_le (bW _)];rw[aT8 h4,jc]; rfl
theorem m63 (ts:List Tok) (hl:ts.length<=1000000) (h0:0<ts.length):∃ k wZ,SS.CC 244 [.slh 0 0 ts.length 5,.func (.func 246) [] []] [some (jk ts)]=some (.slh 0 0 k 5,[some (jk wZ)])/\wZ.length=ts.length/\k<=ts.length/\wZ.take k=rD ts:=by
 rw[b26];simp only[aW5,JV,Rj];rw[aX (by simp),aEM (bW _),nZ (bW _)];rcases m82 ts hl with ⟨e,h⟩ | ⟨p,t,e,h1,h2,h3⟩
 .rw[bf e,RX rfl,aG,aX (b:=true&&true) rfl];exact ⟨ts.length,ts,rfl,rfl,bW _,by rw[nZ (bW _),JF h]⟩
 .have hp:=(eP.1 h1).1;rw[bf e,RV (by omega),aC,aX (b:=true&&true) rfl,bV (by omega)];obtain ⟨k,wZ,q1,q2,q3,q4⟩:=bGD ts hl h0 (ts.length-(p+1)) p (p+1) ts (by omega) (by omega) rfl rfl;refine ⟨k,wZ,q1,q2,q3,?_⟩;rw[q4];have hsplit:ts=ts.take p ++ t::ts.drop (p+1):=by
   conv=>lhs; rw[<- QE p ts,DF hp]
   rw[iM hp] at h1; injection h1 with h1; rw[h1]
  conv=>rhs; rw[hsplit,a0V,JF h3,WI h2]
theorem bGE:SS.CC 244 [.sl false 5 [],.func (.func 246) [] []] []=some (.sl false 5 [],[]):=aBE dZ 60 (by kernel_rfl)
theorem m64 (ts:List Tok) (hl:ts.length<=1000000):SS.CC 245 [.sl false 5 (ts.map ay)] []=some (.sl true 5 (ts.map ay),[]):=by
 rw[b2A];refine aN4 ?_ fun h => ?_
 .rw[show (false==true)=false from rfl,aC,aX (aO (by rw[bM]; unfold aQ; omega))]
 .rw[h]; rfl
theorem m32 (ts:List Tok) (hl:ts.length<=1000000):SS.CC 175 [.sl false 5 (ts.map ay)] []=some (.sl false 5 ((rD ts).map ay),[]):=by
 rw[a_9,aRL (m64 ts hl),bM];by_cases h0:0<ts.length
 .obtain ⟨k,wZ,q1,q2,q3,q4⟩:=m63 ts hl h0;rw[aO h0,aG,aX (bN7 ts),aEK,JV,aX (b:=true&&true) rfl,aRV q1,JV,aX (b:=true&&true) rfl,aEN,Rj,aX (by rw[aO (by omega)]; rfl),aEM (by omega),q4]
 .have:ts = []:=qK (by omega);subst this;rw[aT h0,aC,J8 bGE]; rfl
abbrev tW (s:bSI):Tok:=⟨1,s,0,0,0⟩
abbrev tS (s:bSI):Tok:=⟨3,s,0,0,0⟩
abbrev tN (n:Nat):Tok:=⟨2,Lib.decDigits n,n,0,0⟩
def fM (v:Int):List Tok:=if v<0 then [tS [45],tN (-v).toNat] else [tN v.toNat]
def qA (x:EX):Int:=if eQ x tE=true then 7 else if eQ x fE=true then 7 else match x with
 | .node o v _ _=>if o=0 then (if v<0 then 6 else 7) else if o=1 then 7 else if o=2 then 4 else if o=3 then 4 else if o=4 then 5 else if o=5 then 6 else if o=6 then 3 else if o=7 then 3 else if o=8 then 3 else if o=9 then 3 else if o=10 then 6 else if o=11 then 2 else if o=12 then 1 else 0
def wp (x:EX) (need:Int) (B:List Tok):List Tok:=if qA x<need then tS [40]::(B ++ [tS [41]]) else B
inductive PB (ns:List (List UInt8)):EX->List Tok->Prop
 | tt:PB ns tE [tW EY]
 | ff:PB ns fE [tW Ha]
 | num {v:Int} : -65536<=v->v<=65536->PB ns (nE v) (fM v)
 | var {i:Nat} {s:bSI}:ns[i]? = some s->PB ns (vE (i:Int)) [tW s]
 | Z8 {v:Int}:0<=v->v<=65536->PB ns (nE v) (fM v)->PB ns (y5 5 (nE v)) (tS [45]::tS [40]::(fM v ++ [tS [41]]))
 | neg {o v i:Int} {l:List EX} {B:List Tok}:(o≠0\/v<0)->PB ns (.node o v i l) B->PB ns (y5 5 (.node o v i l)) (tS [45]::wp (.node o v i l) 6 B)
 | ZB {a:EX} {B:List Tok}:PB ns a B->PB ns (y5 10 a) (tS [33]::wp a 6 B)
 | cmp {o:Int} {a b:EX} {A B:List Tok}:(o=6\/o=7\/o=8\/o=9)->eQ (vk o a b) tE=false->eQ (vk o a b) fE=false->PB ns a A->PB ns b B->PB ns (vk o a b) (wp a 4 A ++ tS (zq o)::wp b 4 B)
 | bin {o lv:Int} {a b:EX} {A B:List Tok}:(o=2/\lv=4\/o=3/\lv=4\/o=4/\lv=5\/o=11/\lv=2\/o=12/\lv=1)->PB ns a A->PB ns b B->PB ns (vk o a b) (wp a lv A ++ tS (zq o)::wp b (lv+1) B)
 | ite {c a b:EX} {C A B:List Tok}:PB ns c C->PB ns a A->PB ns b B->PB ns (.node 13 0 0 [c,a,b]) (wp c 1 C ++ tS [63]::(wp a 0 A ++ tS [58]::wp b 0 B))
theorem GX (x:EX) (need:Int) (B:List Tok):(wp x need B).length<=B.length+2:=by unfold wp; split<;>simp
theorem aNJ {l:List EX} (h:l.length=1):∃ a,l = [a]:=by
 match l,h with
 | [a],_=>exact ⟨a,rfl⟩
theorem aQV {l:List EX} (h:l.length=2):∃ a b,l = [a,b]:=by
 match l,h with
 | [a,b],_=>exact ⟨a,b,rfl⟩
theorem bN0 {l:List EX} (h:l.length=3):∃ a b c,l = [a,b,c]:=by
 match l,h with
 | [a,b,c],_=>exact ⟨a,b,c,rfl⟩
theorem KN {l:List EX} (h:l.length=0):l = []:=qK h
theorem bJI (ns:List (bSI)) {x:EX} (h:Fd (ns.length:Int) x):∃ B,PB ns x B/\B.length<=8*oG x:=by
 induction h with
 | @mk o v i l h1 h2 h3 h4 h5 h6 h7 _ ih =>
  have hop:o=0\/o=1\/o=2\/o=3\/o=4\/o=5\/o=6\/o=7\/o=8\/o=9\/o=10\/o=11\/o=12\/o=13:=by omega
  by_cases ht:eQ (.node o v i l) tE=true
  .rw[aDP _ _ ht]; exact ⟨_,.tt,by decide⟩
  by_cases hf:eQ (.node o v i l) fE=true
  .rw[aDP _ _ hf]; exact ⟨_,.ff,by decide⟩
  have sz1:∀ a:EX,oG (.node o v i [a])=oG a+1:=fun a=>by simp[oG,EW]
  have Zu:∀ a b:EX,oG (.node o v i [a,b])=oG a+oG b+1:=fun a b=>by simp[oG,EW]
  have bi:∀ lv:Int,(o=2/\lv=4\/o=3/\lv=4\/o=4/\lv=5\/o=11/\lv=2\/o=12/\lv=1)->∃ B,PB ns (.node o v i l) B/\B.length<=8*oG (.node o v i l):=fun lv hlv=>by obtain ⟨a,b,rfl⟩:=aQV (show l.length=2 by rw[h3]; unfold Eu; rw[aK (by omega),aK (by omega),aK (by omega)]);obtain rfl:=h4 (by omega);obtain rfl:=h5 (by omega);obtain ⟨A,a1,a2⟩:=ih a (by simp);obtain ⟨B,b1,b2⟩:=ih b (by simp);have w1:=GX a lv A;have w2:=GX b (lv+1) B;exact ⟨_,.bin hlv a1 b1,by rw[Zu,aP,aY]; omega⟩
  have cm:(o=6\/o=7\/o=8\/o=9)->∃ B,PB ns (.node o v i l) B/\B.length<=8*oG (.node o v i l):=fun ho=>by obtain ⟨a,b,rfl⟩:=aQV (show l.length=2 by rw[h3]; unfold Eu; rw[aK (by omega),aK (by omega),aK (by omega)]);obtain rfl:=h4 (by omega);obtain rfl:=h5 (by omega);obtain ⟨A,a1,a2⟩:=ih a (by simp);obtain ⟨B,b1,b2⟩:=ih b (by simp);have w1:=GX a 4 A;have w2:=GX b 4 B;exact ⟨_,.cmp ho (by simpa using ht) (by simpa using hf) a1 b1,by rw[Zu,aP,aY]; omega⟩
  rcases hop with rfl | rfl | rfl | rfl | rfl | rfl | rfl | rfl | rfl | rfl | rfl | rfl | rfl | rfl
  .obtain rfl:=KN (show l.length=0 from h3);obtain rfl:=h5 (by decide);obtain ⟨v1,v2⟩:=h6 rfl;refine ⟨_,.num v1 v2,?_⟩;unfold fM; split<;>simp[oG,EW]
  .obtain rfl:=KN (show l.length=0 from h3);obtain rfl:=h4 (by decide);obtain ⟨i1,i2⟩:=h7 rfl;have hi:i.toNat<ns.length:=by omega
   have hv:(EX.node 1 0 i [])=vE (i.toNat:Int):=by rw[Lh i1]; rfl
   rw[hv];exact ⟨_,.var (iM hi),by simp[oG,EW,vE]⟩
  .exact bi 4 (by simp)
  .exact bi 4 (by simp)
  .exact bi 5 (by simp)
  .obtain ⟨a,rfl⟩:=aNJ (show l.length=1 from h3);obtain rfl:=h4 (by decide);obtain rfl:=h5 (by decide);obtain ⟨A,a1,a2⟩:=ih a (by simp);obtain ⟨ao,av,ai,al⟩:=a;by_cases hc:ao≠0\/av<0
   .have w1:=GX (.node ao av ai al) 6 A;exact ⟨_,.neg hc a1,by rw[sz1,aY]; omega⟩
   .have h0:ao=0:=by omega
    subst h0;cases a1 with
    | num v1 v2 =>refine ⟨_,.Z8 (by omega) v2 (.num v1 v2),?_⟩;rw[sz1,aY,aY,aP,ru];omega
    | cmp ho=>omega
    | bin ho=>omega
  .exact cm (by simp)
  .exact cm (by simp)
  .exact cm (by simp)
  .exact cm (by simp)
  .obtain ⟨a,rfl⟩:=aNJ (show l.length=1 from h3);obtain rfl:=h4 (by decide);obtain rfl:=h5 (by decide);obtain ⟨A,a1,a2⟩:=ih a (by simp);have w1:=GX a 6 A;exact ⟨_,.ZB a1,by rw[sz1,aY]; omega⟩
  .exact bi 2 (by simp)
  .exact bi 1 (by simp)
  .obtain ⟨c,a,b,rfl⟩:=bN0 (show l.length=3 from h3);obtain rfl:=h4 (by decide);obtain rfl:=h5 (by decide);obtain ⟨C,c1,c2⟩:=ih c (by simp);obtain ⟨A,a1,a2⟩:=ih a (by simp);obtain ⟨B,b1,b2⟩:=ih b (by simp);have w0:=GX c 1 C;have w1:=GX a 0 A;have w2:=GX b 0 B;refine ⟨_,.ite c1 a1 b1,?_⟩;rw[show oG (.node 13 0 0 [c,a,b])=oG c+oG a+oG b+1 by simp[oG,EW]; omega,aP,aY,aP,aY];omega
theorem C9 {x:EX} (hx:x.Len):∀ {o v i:Int} {l:List EX},x = .node o v i l->0<=o->o<=13->SS.CC 207 [A1 (ev x)] []=some (bSD (qA x),[])/\SS.CC 115 [A1 (ev x)] []=some (bSD (qA x),[]):=by
 intro o v i l e h1 h2;have hop:o=0\/o=1\/o=2\/o=3\/o=4\/o=5\/o=6\/o=7\/o=8\/o=9\/o=10\/o=11\/o=12\/o=13:=by omega
 rw[b0M,aXA,eF c116,eF c116,bF (eG hx tE),bF (eG hx tE)];unfold qA;cases ct:eQ x tE with
 | true=>exact ⟨rfl,rfl⟩
 | false =>
  rw[aC,aC,eF c117,eF c117,bF (eG hx fE),bF (eG hx fE)];cases cf:eQ x fE with
  | true=>exact ⟨rfl,rfl⟩
  | false =>
   subst e;rw[aC,aC,kH,aK (by decide),aK (by decide)];try dsimp only
   rcases hop with rfl | rfl | rfl | rfl | rfl | rfl | rfl | rfl | rfl | rfl | rfl | rfl | rfl | rfl
   .by_cases hv:v<0
    .rw[aO hv,aJ hv]; exact ⟨rfl,rfl⟩
    .rw[aT hv,aK hv]; exact ⟨rfl,rfl⟩
   all_goals exact ⟨rfl,rfl⟩
theorem QS {g:FuncId} {args:bSH} {h:aI} {v:PV×aI} (e:CS g args h=some v):SS.CC g args h=some v:=by rw[J5 dZ];show FV (CS g args h) _=_;rw[e]; rfl
section
variable {A B:RA} {x:EX} {d:Int} {v:bSH}
end
def mk0 (T:List Tok):RA:=⟨T,0,0,0⟩
theorem wK {T:List Tok} (h:di T):(mk0 T).ok:=fun _=>h
theorem Oc {t:Tok} {T:List Tok} (h:t.kind≠4):(mk0 (t::T)).next=mk0 T:=by unfold RA.next;rw[aJ ⟨rfl,h⟩]; rfl
abbrev dY (l:List Tok):Sh.V gY:=(l.map ay,())
theorem kC (s:bSG) (acc:List Tok) (h:acc.length+1<=1000000):SS.CC 166 [bSF,bSE [.str s]] [aF (dY acc)]=some (.tuple [],[aF (dY (acc ++ [tS s.data.toList]))]):=by rw[aFG,SB,aO (by simp),aG,lH (e := .str s) (by decide) rfl,jR,aX (aO (by rw[bM]; unfold aQ; omega)),wrap64 (by decide) (by decide),SB,aT (by simp),aC];show _=some (PV.tuple [],[aF ((acc ++ [tS s.data.toList]).map ay,())]);rw[ry,show [tS s.data.toList].map ay = [kD (3,bs s.data.toList,0,0,0,())] from rfl,rE]
theorem sy2 (s r:bSG) (acc:List Tok) (h:acc.length+2<=1000000):SS.CC 166 [bSF,bSE [.str s,.str r]] [aF (dY acc)]=some (.tuple [],[aF (dY (acc ++ [tS s.data.toList,tS r.data.toList]))]):=by
 rw[aFG,SB,aO (by simp),aG,lH (e := .str s) (by decide) rfl,jR,aX (aO (by rw[bM]; unfold aQ; omega)),wrap64 (by decide) (by decide),
  SB,aO (by simp),aG,lH (e := .str r) (by decide) rfl,jR,aX (aO (by rw[aP,bM]; unfold aQ; simp; omega)),wrap64 (by decide) (by decide),SB,aT (by simp),aC]
 show _=some (PV.tuple [],[aF ((acc ++ [tS s.data.toList,tS r.data.toList]).map ay,())]);rw[ry,show [tS s.data.toList,tS r.data.toList].map ay = [kD (3,bs s.data.toList,0,0,0,()),kD (3,bs r.data.toList,0,0,0,())] from rfl,rE,rE,jc];rfl
theorem y7 (s:bSG) (acc:List Tok) (h:acc.length+1<=1000000):SS.CC 165 [bSF,bSE [.str s]] [aF (dY acc)]=some (.tuple [],[aF (dY (acc ++ [tW s.data.toList]))]):=by rw[a2O,Xd,aO (by simp),aG,lH (e := .str s) (by decide) rfl,jR,aX (aO (by rw[bM]; unfold aQ; omega)),wrap64 (by decide) (by decide),Xd,aT (by simp),aC];show _=some (PV.tuple [],[aF ((acc ++ [tW s.data.toList]).map ay,())]);rw[ry,show [tW s.data.toList].map ay = [kD (1,bs s.data.toList,0,0,0,())] from rfl,rE]
theorem bDJ (m:Int):CS 35 [bSD m] []=(match decide (0<=m)&&decide (m<Qi) with | true=>some (PV.str ⟨(Lib.decDigits m.toNat).toArray⟩,([]:aI)) | false=>none):=rfl
theorem TS (n:Nat) (h:n<=65536):SS.CC 35 [bSD (n:Int)] []=some (.str (bs (Lib.decDigits n)),[]):=by refine QS ?_;rw[bDJ,aO (by omega),aO (by unfold Qi; omega),nX];rfl
theorem aNA (n:Nat) (h:n<=65536) (acc:List Tok) (h2:acc.length+1<=1000000):NY (acc.map ay) (n:Int)=some (.tuple [],[aF (dY (acc ++ [tN n]))]):=by rw[aZN,oO (TS n h),aX (aO (by rw[bM]; unfold aQ; omega))];show _=some (PV.tuple [],[aF ((acc ++ [tN n]).map ay,())]);rw[ry];rfl
theorem IQ {v:Int} (h0 : -65536<=v) (h1:v<=65536) (acc:List Tok) (h:acc.length+(fM v).length<=1000000):SS.CC 167 [bSF,bSD v] [aF (dY acc)]=some (.tuple [],[aF (dY (acc ++ fM v))]):=by
 rw[aZP];unfold fM at h ⊢;by_cases hv:v<0
 .rw[aJ hv] at h ⊢;have h:acc.length+2<=1000000:=h;rw[aO hv,aG,bT (kC ⟨#[45]⟩ acc (by omega))];show NY ((acc ++ [tS [45]]).map ay) (i64.wrap (0-v))=_;rw[show i64.wrap (0-v)=((-v).toNat:Int) by rw[wrap64 (by omega) (by omega)]; omega,aNA _ (by omega) _ (by rw[aP,ru]; omega),jc];rfl
 .rw[aK hv] at h ⊢;have h:acc.length+1<=1000000:=h;rw[aT hv,aC];show NY (acc.map ay) v=_;rw[show v=(v.toNat:Int) by omega,aNA _ (by omega) _ (by omega)];rfl
abbrev NS (ns:List (bSI)):bSH:=yU (CO ns)
def WR (ns:List (bSI)) (x:EX) (need:Int) (T:List Tok):Prop:=∀ acc:List Tok,acc.length+T.length+1<=1000000 ->
 SS.CC 113 [bSF,bSE (NS ns),A1 (ev x),bSD need] [aF (dY acc)]=some (.tuple [],[aF (dY (acc ++ T))])
def Cm (o:Int):bSG:=if o=2 then ⟨#[43]⟩ else if o=3 then ⟨#[45]⟩ else if o=4 then ⟨#[42]⟩ else if o=5 then ⟨#[45]⟩ else if o=6 then ⟨#[61,61]⟩ else if o=7 then ⟨#[33,61]⟩ else if o=8 then ⟨#[60]⟩ else if o=9 then ⟨#[60,61]⟩ else if o=10 then ⟨#[33]⟩ else if o=11 then ⟨#[38,38]⟩ else if o=12 then ⟨#[124,124]⟩ else if o=13 then ⟨#[63]⟩ else ⟨#[]⟩
def EX.op:EX->Int
 | .node o _ _ _=>o
def WB (ns:List (bSI)) (x:EX) (B:List Tok):Prop:=∀ acc:List Tok,acc.length+B.length+1<=1000000 ->
 rG (NS ns) (ev x) (qA x) (acc.map ay) (Cm x.op)=some (.tuple [],[aF (dY (acc ++ B))]) /\
 rH (NS ns) (ev x) (qA x) (acc.map ay) (Cm x.op)=some (.tuple [],[aF (dY (acc ++ B ++ [tS [41]]))])
theorem aVN (x:EX):(ev x).1=x.op:=by obtain ⟨o,v,i,l⟩:=x; rw[kH]; rfl
theorem D8 {ns:List (bSI)} {x:EX} {B:List Tok} (hx:x.Len) (h1:0<=x.op) (h2:x.op<=13) (hb:WB ns x B) (need:Int):WR ns x need (wp x need B):=by
 intro acc hacc;have hop:x.op=0\/x.op=1\/x.op=2\/x.op=3\/x.op=4\/x.op=5\/x.op=6\/x.op=7\/x.op=8\/x.op=9\/x.op=10\/x.op=11\/x.op=12\/x.op=13:=by omega
 have lv:SS.CC 207 [A1 (ev x)] []=some (bSD (qA x),[]):=by obtain ⟨o,v,i,l⟩:=x;exact (C9 hx rfl h1 h2).1
 rw[aX6,bf lv,aVN];unfold wp at hacc ⊢;by_cases hn:qA x<need
 .rw[aJ hn] at hacc ⊢;rw[aY,aP,ru] at hacc;rw[aO hn,aG,bT (kC ⟨#[40]⟩ acc (by omega))];try dsimp only
  have hb:=(hb (acc ++ [tS [40]]) (by rw[aP,ru]; omega)).2;rw[jc,jc] at hb;rw[aX (by rw[aO (by omega),aO (by omega)]; rfl)];rcases hop with h | h | h | h | h | h | h | h | h | h | h | h | h | h<;>(rw[h] at hb ⊢; exact hb)
 .rw[aK hn] at hacc ⊢;have hb:=hb acc;rw[aT hn,aC,aX (by rw[aO (by omega),aO (by omega)]; rfl)];have hb:=(hb hacc).1;rcases hop with h | h | h | h | h | h | h | h | h | h | h | h | h | h<;>(rw[h] at hb ⊢; exact hb)
theorem zt (acc:List Tok) (h:acc.length+1<=1000000):SS.CC 166 [bSF,bSE [.str ⟨#[41]⟩]] [aF (dY acc)]=some (.tuple [],[aF (dY (acc ++ [tS [41]]))]):=kC _ acc h
theorem syQ (acc:List Tok) (h:acc.length+1<=1000000):SS.CC 166 [bSF,bSE [.str ⟨#[63]⟩]] [aF (dY acc)]=some (.tuple [],[aF (dY (acc ++ [tS [63]]))]):=kC _ acc h
theorem syD (acc:List Tok) (h:acc.length+1<=1000000):SS.CC 166 [bSF,bSE [.str ⟨#[58]⟩]] [aF (dY acc)]=some (.tuple [],[aF (dY (acc ++ [tS [58]]))]):=kC _ acc h
theorem aQM (acc:List Tok) (h:acc.length+2<=1000000):SS.CC 166 [bSF,bSE [.str ⟨#[45]⟩,.str ⟨#[40]⟩]] [aF (dY acc)]=some (.tuple [],[aF (dY (acc ++ [tS [45],tS [40]]))]):=sy2 _ _ acc h
theorem woT (acc:List Tok) (h:acc.length+1<=1000000):SS.CC 165 [bSF,bSE [.str ⟨#[116,114,117,101]⟩]] [aF (dY acc)]=some (.tuple [],[aF (dY (acc ++ [tW EY]))]):=y7 _ acc h
theorem woF (acc:List Tok) (h:acc.length+1<=1000000):SS.CC 165 [bSF,bSE [.str ⟨#[102,97,108,115,101]⟩]] [aF (dY acc)]=some (.tuple [],[aF (dY (acc ++ [tW Ha]))]):=y7 _ acc h
theorem woB (s:bSI) (acc:List Tok) (h:acc.length+1<=1000000):SS.CC 165 [bSF,bSE [.str (bs s)]] [aF (dY acc)]=some (.tuple [],[aF (dY (acc ++ [tW s]))]):=y7 _ acc h
def Ce (o:Int):bSI:=if o=5 then [45] else if o=10 then [33] else zq o
theorem EU {o:Int} (ho:o=2\/o=3\/o=4\/o=5\/o=6\/o=7\/o=8\/o=9\/o=10\/o=11\/o=12) (acc:List Tok) (h:acc.length+1<=1000000):SS.CC 166 [bSF,bSE [.str (Cm o)]] [aF (dY acc)]=some (.tuple [],[aF (dY (acc ++ [tS (Ce o)]))]):=by rw[kC _ acc h];rcases ho with rfl | rfl | rfl | rfl | rfl | rfl | rfl | rfl | rfl | rfl | rfl<;>rfl
theorem agc {ns:List (bSI)} {o v i:Int} {l:List EX} {k:Nat} (hk:k<l.length) {need:Int} {T:List Tok} (hw:WR ns l[k] need T) (acc:List Tok) (h:acc.length+T.length+1<=1000000) :
 SS.CC 208 [bSD (k:Int),bSD need,bSF,.cst (bSE (NS ns)),.cst (A1 (o,v,i,pq l,()))] [some [.ptr 1 0],aF (dY acc)]=some (.tuple [],[some [.ptr 1 0],aF (dY (acc ++ T))]):=by
 rw[b0N];try dsimp only
 rw[FN hk,bT (hw acc h)]
theorem yG {ns:List (bSI)} {o v i:Int} {a:EX} {l:List EX} {need:Int} {T:List Tok} (hw:WR ns a need T) (acc:List Tok) (h:acc.length+T.length+1<=1000000) :
 SS.CC 208 [bSD 0,bSD need,bSF,.cst (bSE (NS ns)),.cst (A1 (o,v,i,pq (a::l),()))] [some [.ptr 1 0],aF (dY acc)]=some (.tuple [],[some [.ptr 1 0],aF (dY (acc ++ T))]):=agc (l:=a::l) (k:=0) (by simp) hw acc h
theorem MZ {ns:List (bSI)} {o v i:Int} {a b:EX} {l:List EX} {need:Int} {T:List Tok} (hw:WR ns b need T) (acc:List Tok) (h:acc.length+T.length+1<=1000000) :
 SS.CC 208 [bSD 1,bSD need,bSF,.cst (bSE (NS ns)),.cst (A1 (o,v,i,pq (a::b::l),()))] [some [.ptr 1 0],aF (dY acc)]=some (.tuple [],[some [.ptr 1 0],aF (dY (acc ++ T))]):=agc (l:=a::b::l) (k:=1) (by simp) hw acc h
theorem ag2 {ns:List (bSI)} {o v i:Int} {a b c:EX} {l:List EX} {need:Int} {T:List Tok} (hw:WR ns c need T) (acc:List Tok) (h:acc.length+T.length+1<=1000000) :
 SS.CC 208 [bSD 2,bSD need,bSF,.cst (bSE (NS ns)),.cst (A1 (o,v,i,pq (a::b::c::l),()))] [some [.ptr 1 0],aF (dY acc)]=some (.tuple [],[some [.ptr 1 0],aF (dY (acc ++ T))]):=agc (l:=a::b::c::l) (k:=2) (by simp) hw acc h
theorem Len.arg {o v i:Int} {l:List EX} (h:(EX.node o v i l).Len) {e:EX} (he:e∈l):e.Len:=by
 cases h with
 | mk _ _ _ _ h5=>exact h5 e he
theorem sW {o v i:Int} {l:List EX} (h:o≠6):eQ (.node o v i l) tE=false:=by unfold tE; rw[RY,show (o==6)=false by simpa using h,Q7]
theorem uo {o v i:Int} {l:List EX} (h:o≠7):eQ (.node o v i l) fE=false:=by unfold fE; rw[RY,show (o==7)=false by simpa using h,Q7]
section
variable {ns:List (bSI)}
theorem bOY (hx:tE.Len):WB ns tE [tW EY]:=fun acc h=>by
 have h:acc.length+1+1<=1000000:=h;constructor
 .rw[Dw,eF c116,bF (eG hx tE),show eQ tE tE=true from NH _,aG,bT (woT acc (by omega))]
 .rw[Dx,eF c116,bF (eG hx tE),show eQ tE tE=true from NH _,aG,bT (woT acc (by omega)),bT (zt _ (by rw[aP,ru]; omega))]
theorem bOS (hx:fE.Len):WB ns fE [tW Ha]:=fun acc h=>by
 have h:acc.length+1+1<=1000000:=h;have ht:eQ fE tE=false:=sW (by decide);constructor
 .rw[Dw,eF c116,bF (eG hx tE),ht,aC,eF c117,bF (eG hx fE),show eQ fE fE=true from NH _,aG,bT (woF acc (by omega))]
 .rw[Dx,eF c116,bF (eG hx tE),ht,aC,eF c117,bF (eG hx fE),show eQ fE fE=true from NH _,aG,bT (woF acc (by omega)),bT (zt _ (by rw[aP,ru]; omega))]
theorem bOX {v:Int} (h0 : -65536<=v) (h1:v<=65536) (hx:(EX.node 0 v 0 []).Len):WB ns (nE v) (fM v):=fun acc h=>by
 have ht:eQ (.node 0 v 0 []) tE=false:=sW (by decide);have hf:eQ (.node 0 v 0 []) fE=false:=uo (by decide);unfold nE;constructor
 .rw[Dw,eF c116,bF (eG hx tE),ht,aC,eF c117,bF (eG hx fE),hf,aC,kH];try dsimp only
  rw[show ((0:Int)==0)=true from rfl,aG,bT (IQ h0 h1 acc (by omega))]
 .rw[Dx,eF c116,bF (eG hx tE),ht,aC,eF c117,bF (eG hx fE),hf,aC,kH];try dsimp only
  rw[show ((0:Int)==0)=true from rfl,aG,bT (IQ h0 h1 acc (by omega)),bT (zt _ (by rw[aP]; omega))]
theorem bOZ {i:Nat} {s:bSI} (hs:ns[i]? = some s) (hx:(EX.node 1 0 (i:Int) []).Len):WB ns (vE (i:Int)) [tW s]:=fun acc h=>by
 have h:acc.length+1+1<=1000000:=h;have ht:eQ (.node 1 0 (i:Int) []) tE=false:=sW (by decide);have hf:eQ (.node 1 0 (i:Int) []) fE=false:=uo (by decide);have hg:(NS ns)[(i:Int).toNat]? = some (.str (bs s)):=by obtain ⟨h1,h2⟩:=eP.1 hs;rw[a6K h1,h2]
 unfold vE;constructor
 .rw[Dw,eF c116,bF (eG hx tE),ht,aC,eF c117,bF (eG hx fE),hf,aC,kH];try dsimp only
  rw[show ((1:Int)==0)=false from rfl,aC,show ((1:Int)==1)=true from rfl,aG,lH (by omega) hg,jR,bT (woB s acc (by omega))]
 .rw[Dx,eF c116,bF (eG hx tE),ht,aC,eF c117,bF (eG hx fE),hf,aC,kH];try dsimp only
  rw[show ((1:Int)==0)=false from rfl,aC,show ((1:Int)==1)=true from rfl,aG,lH (by omega) hg,jR,bT (woB s acc (by omega)),bT (zt _ (by rw[aP,ru]; omega))]
theorem bOV {v:Int} (h0:0<=v) (hw:WR ns (nE v) 0 (fM v)) (hx:(EX.node 5 0 0 [nE v]).Len):WB ns (y5 5 (nE v)) (tS [45]::tS [40]::(fM v ++ [tS [41]])):=fun acc h=>by
 have h:acc.length+((fM v ++ [tS [41]]).length+1+1)+1<=1000000:=h;rw[aP,ru] at h;have ht:eQ (.node 5 0 0 [nE v]) tE=false:=sW (by decide);have hf:eQ (.node 5 0 0 [nE v]) fE=false:=uo (by decide);have e:acc ++ tS [45]::tS [40]::(fM v ++ [tS [41]])=acc ++ [tS [45],tS [40]] ++ fM v ++ [tS [41]]:=by simp
 have l1:(acc ++ [tS [45],tS [40]]).length=acc.length+2:=by simp
 have l2:(acc ++ [tS [45],tS [40]] ++ fM v).length=acc.length+2+(fM v).length:=by rw[aP,l1]
 unfold y5;rw[e];show rG _ _ _ _ (Cm 5)=_/\rH _ _ _ _ (Cm 5)=_;constructor
 .rw[Dw,eF c116,bF (eG hx tE),ht,aC,eF c117,bF (eG hx fE),hf,aC,kH];try dsimp only
  rw[show ((5:Int)==0)=false from rfl,aC,show ((5:Int)==1)=false from rfl,aC,show ((5:Int)==5)=true from rfl,aG,uD,uD,X5];try dsimp only
  rw[show ((0:Int)==0)=true from rfl,aG,aO h0,aG,bT (aQM acc (by omega)),ny (yG hw _ (by rw[l1]; omega)),bT (zt _ (by rw[l2]; omega))]
 .rw[Dx,eF c116,bF (eG hx tE),ht,aC,eF c117,bF (eG hx fE),hf,aC,kH];try dsimp only
  rw[show ((5:Int)==0)=false from rfl,aC,show ((5:Int)==1)=false from rfl,aC,show ((5:Int)==5)=true from rfl,aG,uD,uD,X5];try dsimp only
  rw[show ((0:Int)==0)=true from rfl,aG,aO h0,aG,bT (aQM acc (by omega)),ny (yG hw _ (by rw[l1]; omega)),bT (zt _ (by rw[l2]; omega)),bT (zt _ (by rw[aP,l2,ru]; omega))]
theorem bOU {o v i:Int} {l:List EX} {T:List Tok} (hc:o≠0\/v<0) (hw:WR ns (.node o v i l) 6 T) (hx:(EX.node 5 0 0 [.node o v i l]).Len):WB ns (y5 5 (.node o v i l)) (tS [45]::T):=fun acc h=>by
 have h:acc.length+(T.length+1)+1<=1000000:=h;have ht:eQ (.node 5 0 0 [.node o v i l]) tE=false:=sW (by decide);have hf:eQ (.node 5 0 0 [.node o v i l]) fE=false:=uo (by decide);have e:acc ++ tS [45]::T=acc ++ [tS [45]] ++ T:=by simp
 have l1:(acc ++ [tS [45]]).length=acc.length+1:=by simp
 unfold y5;rw[e];show rG _ _ _ _ (Cm 5)=_/\rH _ _ _ _ (Cm 5)=_;constructor
 .rw[Dw,eF c116,bF (eG hx tE),ht,aC,eF c117,bF (eG hx fE),hf,aC,kH];try dsimp only
  rw[show ((5:Int)==0)=false from rfl,aC,show ((5:Int)==1)=false from rfl,aC,show ((5:Int)==5)=true from rfl,aG,uD,uD,kH];try dsimp only
  by_cases h0:o=0
  .rw[show (o==0)=true by simp[h0],aG,aT (by omega),aC,aG,bT (EU (o:=5) (by simp) acc (by omega))];rw[show Ce 5 = [45] from rfl,ny (yG hw _ (by rw[l1]; omega))]
  .rw[show (o==0)=false by simpa using h0,aC,aG,bT (EU (o:=5) (by simp) acc (by omega))];rw[show Ce 5 = [45] from rfl,ny (yG hw _ (by rw[l1]; omega))]
 .rw[Dx,eF c116,bF (eG hx tE),ht,aC,eF c117,bF (eG hx fE),hf,aC,kH];try dsimp only
  rw[show ((5:Int)==0)=false from rfl,aC,show ((5:Int)==1)=false from rfl,aC,show ((5:Int)==5)=true from rfl,aG,uD,uD,kH];try dsimp only
  by_cases h0:o=0
  .rw[show (o==0)=true by simp[h0],aG,aT (by omega),aC,aG,bT (EU (o:=5) (by simp) acc (by omega))];rw[show Ce 5 = [45] from rfl,ny (yG hw _ (by rw[l1]; omega)),bT (zt _ (by rw[aP,l1]; omega))]
  .rw[show (o==0)=false by simpa using h0,aC,aG,bT (EU (o:=5) (by simp) acc (by omega))];rw[show Ce 5 = [45] from rfl,ny (yG hw _ (by rw[l1]; omega)),bT (zt _ (by rw[aP,l1]; omega))]
theorem bOW {a:EX} {T:List Tok} (hw:WR ns a 6 T) (hx:(EX.node 10 0 0 [a]).Len):WB ns (y5 10 a) (tS [33]::T):=fun acc h=>by
 have h:acc.length+(T.length+1)+1<=1000000:=h;have ht:eQ (.node 10 0 0 [a]) tE=false:=sW (by decide);have hf:eQ (.node 10 0 0 [a]) fE=false:=uo (by decide);have e:acc ++ tS [33]::T=acc ++ [tS [33]] ++ T:=by simp
 have l1:(acc ++ [tS [33]]).length=acc.length+1:=by simp
 unfold y5;rw[e];show rG _ _ _ _ (Cm 10)=_/\rH _ _ _ _ (Cm 10)=_;constructor
 .rw[Dw,eF c116,bF (eG hx tE),ht,aC,eF c117,bF (eG hx fE),hf,aC,kH];try dsimp only
  rw[show ((10:Int)==0)=false from rfl,aC,show ((10:Int)==1)=false from rfl,aC,show ((10:Int)==5)=false from rfl,aC,aC,show ((10:Int)==10)=true from rfl,aG,bT (EU (o:=10) (by simp) acc (by omega)),show Ce 10 = [33] from rfl,ny (yG hw _ (by rw[l1]; omega))]
 .rw[Dx,eF c116,bF (eG hx tE),ht,aC,eF c117,bF (eG hx fE),hf,aC,kH];try dsimp only
  rw[show ((10:Int)==0)=false from rfl,aC,show ((10:Int)==1)=false from rfl,aC,show ((10:Int)==5)=false from rfl,aC,aC,show ((10:Int)==10)=true from rfl,aG,bT (EU (o:=10) (by simp) acc (by omega)),show Ce 10 = [33] from rfl,ny (yG hw _ (by rw[l1]; omega)),bT (zt _ (by rw[aP,l1]; omega))]
theorem bOT {c a b:EX} {C A B:List Tok} (hc:WR ns c 1 C) (ha:WR ns a 0 A) (hb:WR ns b 0 B) (hx:(EX.node 13 0 0 [c,a,b]).Len):WB ns (.node 13 0 0 [c,a,b]) (C ++ tS [63]::(A ++ tS [58]::B)):=fun acc h=>by
 rw[aP,aY,aP,aY] at h;have ht:eQ (.node 13 0 0 [c,a,b]) tE=false:=sW (by decide);have hf:eQ (.node 13 0 0 [c,a,b]) fE=false:=uo (by decide);have e:acc ++ (C ++ tS [63]::(A ++ tS [58]::B))=acc ++ C ++ [tS [63]] ++ A ++ [tS [58]] ++ B:=by simp
 have l1:(acc ++ C).length=acc.length+C.length:=by simp
 have l2:(acc ++ C ++ [tS [63]]).length=acc.length+C.length+1:=by rw[aP,l1]; rfl
 have l3:(acc ++ C ++ [tS [63]] ++ A).length=acc.length+C.length+1+A.length:=by rw[aP,l2]
 have l4:(acc ++ C ++ [tS [63]] ++ A ++ [tS [58]]).length=acc.length+C.length+1+A.length+1:=by rw[aP,l3]; rfl
 rw[e];constructor
 .rw[Dw,eF c116,bF (eG hx tE),ht,aC,eF c117,bF (eG hx fE),hf,aC,kH];try dsimp only
  rw[show ((13:Int)==0)=false from rfl,aC,show ((13:Int)==1)=false from rfl,aC,show ((13:Int)==5)=false from rfl,aC,aC,show ((13:Int)==10)=false from rfl,aC,show ((13:Int)==13)=true from rfl,aG,
   ny (yG hc acc (by omega)),bT (syQ _ (by rw[l1]; omega)),ny (MZ ha _ (by rw[l2]; omega)),bT (syD _ (by rw[l3]; omega)),ny (ag2 hb _ (by rw[l4]; omega))]
 .rw[Dx,eF c116,bF (eG hx tE),ht,aC,eF c117,bF (eG hx fE),hf,aC,kH];try dsimp only
  rw[show ((13:Int)==0)=false from rfl,aC,show ((13:Int)==1)=false from rfl,aC,show ((13:Int)==5)=false from rfl,aC,aC,show ((13:Int)==10)=false from rfl,aC,show ((13:Int)==13)=true from rfl,aG,
   ny (yG hc acc (by omega)),bT (syQ _ (by rw[l1]; omega)),ny (MZ ha _ (by rw[l2]; omega)),bT (syD _ (by rw[l3]; omega)),ny (ag2 hb _ (by rw[l4]; omega)),bT (zt _ (by rw[aP,l4]; omega))]
theorem aR5 {o lv:Int} {a b:EX} {A B:List Tok} {n1 n2:Int} (ho:o=2\/o=3\/o=4\/o=6\/o=7\/o=8\/o=9\/o=11\/o=12) (hlv:qA (vk o a b)=lv) (hn:lv=3/\n1=4/\n2=4\/lv≠3/\0<=lv/\lv<=7/\n1=lv/\n2=lv+1)
 (ht:eQ (.node o 0 0 [a,b]) tE=false) (hf:eQ (.node o 0 0 [a,b]) fE=false) (ha:WR ns a n1 A) (hb:WR ns b n2 B) (hx:(EX.node o 0 0 [a,b]).Len):WB ns (vk o a b) (A ++ tS (zq o)::B):=fun acc h=>by
 rw[aP,aY] at h;have e:acc ++ (A ++ tS (zq o)::B)=acc ++ A ++ [tS (Ce o)] ++ B:=by rw[show Ce o=zq o by unfold Ce; rw[aK (by omega),aK (by omega)]]; simp
 have l1:(acc ++ A).length=acc.length+A.length:=by simp
 have l2:(acc ++ A ++ [tS (Ce o)]).length=acc.length+A.length+1:=by rw[aP,l1]; rfl
 have b0:(o==0)=false:=by simp; omega
 have b1:(o==1)=false:=by simp; omega
 have b5:(o==5)=false:=by simp; omega
 have b10:(o==10)=false:=by simp; omega
 have b13:(o==13)=false:=by simp; omega
 rw[e,hlv];unfold vk;show rG _ _ _ _ (Cm o)=_/\rH _ _ _ _ (Cm o)=_;rcases hn with ⟨rfl,rfl,rfl⟩ | ⟨h3,h4,h5,rfl,rfl⟩
 .constructor
  .rw[Dw,eF c116,bF (eG hx tE),ht,aC,eF c117,bF (eG hx fE),hf,aC,kH];try dsimp only
   rw[b0,aC,b1,aC,b5,aC,aC,b10,aC,b13,aC,show ((3:Int)==3)=true from rfl,aG,ny (yG ha acc (by omega)),bT (EU (by omega) _ (by rw[l1]; omega)),ny (MZ hb _ (by rw[l2]; omega))]
  .rw[Dx,eF c116,bF (eG hx tE),ht,aC,eF c117,bF (eG hx fE),hf,aC,kH];try dsimp only
   rw[b0,aC,b1,aC,b5,aC,aC,b10,aC,b13,aC,show ((3:Int)==3)=true from rfl,aG,ny (yG ha acc (by omega)),bT (EU (by omega) _ (by rw[l1]; omega)),ny (MZ hb _ (by rw[l2]; omega)),bT (zt _ (by rw[aP,l2]; omega))]
 .have b3:(n1==3)=false:=by simpa using h3
  constructor
  .rw[Dw,eF c116,bF (eG hx tE),ht,aC,eF c117,bF (eG hx fE),hf,aC,kH];try dsimp only
   rw[b0,aC,b1,aC,b5,aC,aC,b10,aC,b13,aC,b3,aC,ny (yG ha acc (by omega)),bT (EU (by omega) _ (by rw[l1]; omega)),wrap64 (by omega) (by omega),ny (MZ hb _ (by rw[l2]; omega))]
  .rw[Dx,eF c116,bF (eG hx tE),ht,aC,eF c117,bF (eG hx fE),hf,aC,kH];try dsimp only
   rw[b0,aC,b1,aC,b5,aC,aC,b10,aC,b13,aC,b3,aC,ny (yG ha acc (by omega)),bT (EU (by omega) _ (by rw[l1]; omega)),wrap64 (by omega) (by omega),ny (MZ hb _ (by rw[l2]; omega)),bT (zt _ (by rw[aP,l2]; omega))]
end
theorem aM8 {o lv:Int} {a b:EX} (h:o=2/\lv=4\/o=3/\lv=4\/o=4/\lv=5\/o=11/\lv=2\/o=12/\lv=1):qA (vk o a b)=lv:=by unfold qA vk;rw[sW (by omega),uo (by omega)];rcases h with ⟨rfl,rfl⟩ | ⟨rfl,rfl⟩ | ⟨rfl,rfl⟩ | ⟨rfl,rfl⟩ | ⟨rfl,rfl⟩<;>rfl
theorem aM9 {o:Int} {a b:EX} (h:o=6\/o=7\/o=8\/o=9) (ht:eQ (vk o a b) tE=false) (hf:eQ (vk o a b) fE=false):qA (vk o a b)=3:=by unfold qA;rw[ht,hf];unfold vk;rcases h with rfl | rfl | rfl | rfl<;>rfl
theorem bJK (ns:List (bSI)) {x:EX} {B:List Tok} (h:PB ns x B):x.Len->WB ns x B/\0<=x.op/\x.op<=13:=by
 induction h with
 | tt=>exact fun hx=>⟨bOY hx,by simp[EX.op,tE,fE,nE,vE],by simp[EX.op,tE,fE,nE,vE]⟩
 | ff=>exact fun hx=>⟨bOS hx,by simp[EX.op,tE,fE,nE,vE],by simp[EX.op,tE,fE,nE,vE]⟩
 | num h0 h1=>exact fun hx=>⟨bOX h0 h1 hx,by simp[EX.op,tE,fE,nE,vE],by simp[EX.op,tE,fE,nE,vE]⟩
 | var hs=>exact fun hx=>⟨bOZ hs hx,by simp[EX.op,tE,fE,nE,vE],by simp[EX.op,tE,fE,nE,vE]⟩
 | @Z8 v h0 h1 _ ih =>
  intro hx;obtain ⟨k1,k2,k3⟩:=ih (Len.arg hx (by simp));have hw:=D8 (Len.arg hx (by simp)) k2 k3 k1 0;have hp:wp (nE v) 0 (fM v)=fM v:=by unfold wp qA nE;rw[sW (by decide),uo (by decide)];exact aK (by show ¬ (if v<0 then (6:Int) else 7)<0; split<;>decide)
  rw[hp] at hw;exact ⟨bOV h0 hw hx,by simp[EX.op,tE,fE,nE,vE],by simp[EX.op,tE,fE,nE,vE]⟩
 | neg hc _ ih =>intro hx;obtain ⟨k1,k2,k3⟩:=ih (Len.arg hx (by simp));exact ⟨bOU hc (D8 (Len.arg hx (by simp)) k2 k3 k1 6) hx,by simp[EX.op,tE,fE,nE,vE],by simp[EX.op,tE,fE,nE,vE]⟩
 | ZB _ ih =>intro hx;obtain ⟨k1,k2,k3⟩:=ih (Len.arg hx (by simp));exact ⟨bOW (D8 (Len.arg hx (by simp)) k2 k3 k1 6) hx,by simp[EX.op,tE,fE,nE,vE],by simp[EX.op,tE,fE,nE,vE]⟩
 | cmp ho ht hf _ _ iha ihb =>
  intro hx;obtain ⟨k1,k2,k3⟩:=iha (Len.arg hx (by simp));obtain ⟨m1,m2,m3⟩:=ihb (Len.arg hx (by simp));refine ⟨aR5 (by omega) (aM9 ho ht hf) (.inl ⟨rfl,rfl,rfl⟩) ht hf (D8 (Len.arg hx (by simp)) k2 k3 k1 4) (D8 (Len.arg hx (by simp)) m2 m3 m1 4) hx,?_,?_⟩
  .simp only[EX.op]; omega
  .simp only[EX.op]; omega
 | bin ho _ _ iha ihb =>
  intro hx;obtain ⟨k1,k2,k3⟩:=iha (Len.arg hx (by simp));obtain ⟨m1,m2,m3⟩:=ihb (Len.arg hx (by simp));refine ⟨aR5 (by omega) (aM8 ho) (.inr ⟨by omega,by omega,by omega,rfl,rfl⟩) (sW (by omega)) (uo (by omega)) (D8 (Len.arg hx (by simp)) k2 k3 k1 _) (D8 (Len.arg hx (by simp)) m2 m3 m1 _) hx,?_,?_⟩
  .simp only[EX.op]; omega
  .simp only[EX.op]; omega
 | ite _ _ _ TM iha ihb =>intro hx;obtain ⟨j1,j2,j3⟩:=TM (Len.arg hx (by simp));obtain ⟨k1,k2,k3⟩:=iha (Len.arg hx (by simp));obtain ⟨m1,m2,m3⟩:=ihb (Len.arg hx (by simp));exact ⟨bOT (D8 (Len.arg hx (by simp)) j2 j3 j1 1) (D8 (Len.arg hx (by simp)) k2 k3 k1 0) (D8 (Len.arg hx (by simp)) m2 m3 m1 0) hx,by simp[EX.op,tE,fE,nE,vE],by simp[EX.op,tE,fE,nE,vE]⟩
def bQ (T:List Tok):bSH:=T.map fun t => .str (bs t.text)
theorem lZ (T:List Tok):(bQ T).length=T.length:=by unfold bQ; rw[bM]
theorem rY (a b:List Tok):bQ (a ++ b)=bQ a ++ bQ b:=by unfold bQ; rw[ry]
theorem Pg (t:Tok) (a:List Tok):bQ (t::a) = .str (bs t.text)::bQ a:=rfl
def MW (ns:List (bSI)) (x:EX) (B:List Tok):Prop:=∀ need:Int,need<=7->B.length+2<=1000000->SS.CC 29 [bSE (NS ns),A1 (ev x),bSD need] []=some (.sl true 1 (bQ (wp x need B)),[])
def MB (ns:List (bSI)) (x:EX) (B:List Tok):Prop:=B.length+2<=1000000->∀ need:Int,need<=qA x->SS.CC 29 [bSE (NS ns),A1 (ev x),bSD need] []=some (.sl true 1 (bQ B),[])
theorem a6D (x:EX):0<=qA x:=by
 obtain ⟨o,v,i,l⟩:=x;unfold qA;dsimp only;repeat' split
 all_goals omega
section
variable {ns:List (bSI)}
theorem EK {x:EX} {B:List Tok} (hx:x.Len) (h1:0<=x.op) (h2:x.op<=13) (hb:MB ns x B):MW ns x B:=fun need _ hl=>by
 unfold wp;by_cases hn:qA x<need
 .have lv:SS.CC 115 [A1 (ev x)] []=some (bSD (qA x),[]):=by obtain ⟨o,v,i,l⟩:=x;exact (C9 hx rfl h1 h2).2
  rw[aJ hn,Dy,bf lv,aO hn,aG,lu (hb hl 0 (a6D x)),aX (aO (by rw[lZ]; unfold aQ; omega)),aX (aO (by rw[aP,lZ]; unfold aQ; simp; omega)),Pg,rY];rfl
 .rw[aK hn]; exact hb hl need (by omega)
theorem bGV (hx:tE.Len):MB ns tE [tW EY]:=fun _ need hn=>by rw[Dy,bf (C9 hx rfl (by decide) (by decide)).2,aT (by omega),aC,eF c116,bF (eG hx tE),NH,aG];rfl
theorem bGP (hx:fE.Len):MB ns fE [tW Ha]:=fun _ need hn=>by rw[Dy,bf (C9 hx rfl (by decide) (by decide)).2,aT (by omega),aC,eF c116,bF (eG hx tE),show eQ fE tE=false from sW (by decide),aC,eF c117,bF (eG hx fE),NH,aG];rfl
theorem Og {v:Int} (h0 : -65536<=v) (h1:v<=65536):SS.CC 56 [bSD v] []=some (.sl true 1 (bQ (fM v)),[]):=by
 rw[b8F];unfold fM;by_cases hv:v<0
 .rw[aO hv,aG,aJ hv,show i64.wrap (0-v)=((-v).toNat:Int) by rw[wrap64 (by omega) (by omega)]; omega,oO (TS _ (by omega))];rfl
 .rw[aT hv,aC,aK hv,show v=(v.toNat:Int) by omega,oO (TS _ (by omega))];rfl
theorem bGU {v:Int} (h0 : -65536<=v) (h1:v<=65536) (hx:(EX.node 0 v 0 []).Len):MB ns (nE v) (fM v):=fun _ need hn=>by
 have ht:eQ (.node 0 v 0 []) tE=false:=sW (by decide);have hf:eQ (.node 0 v 0 []) fE=false:=uo (by decide);have lv:=(C9 hx rfl (by decide) (by decide)).2;unfold nE at hn ⊢;rw[Dy,bf lv,aT (by omega),aC,eF c116,bF (eG hx tE),ht,aC,eF c117,bF (eG hx fE),hf,aC,bf lv,kH];try dsimp only
 rw[show ((0:Int)==0)=true from rfl,aG,lu (Og h0 h1)]
theorem bGW {i:Nat} {s:bSI} (hs:ns[i]? = some s) (hx:(EX.node 1 0 (i:Int) []).Len):MB ns (vE (i:Int)) [tW s]:=fun _ need hn=>by
 have ht:eQ (.node 1 0 (i:Int) []) tE=false:=sW (by decide);have hf:eQ (.node 1 0 (i:Int) []) fE=false:=uo (by decide);have lv:=(C9 hx rfl (by decide) (by decide)).2;have hg:(NS ns)[(i:Int).toNat]? = some (.str (bs s)):=by obtain ⟨h1,h2⟩:=eP.1 hs;rw[a6K h1,h2]
 unfold vE at hn ⊢;rw[Dy,bf lv,aT (by omega),aC,eF c116,bF (eG hx tE),ht,aC,eF c117,bF (eG hx fE),hf,aC,bf lv,kH];try dsimp only
 rw[show ((1:Int)==0)=false from rfl,aC,show ((1:Int)==1)=true from rfl,aG,lH (by omega) hg,jR];rfl
theorem bGT {a:EX} {A:List Tok} (ha:MW ns a A) (hx:(EX.node 10 0 0 [a]).Len):MB ns (y5 10 a) (tS [33]::wp a 6 A):=fun hl need hn=>by
 rw[aY] at hl;have ht:eQ (.node 10 0 0 [a]) tE=false:=sW (by decide);have hf:eQ (.node 10 0 0 [a]) fE=false:=uo (by decide);have lv:=(C9 hx rfl (by decide) (by decide)).2;have hA:A.length<=(wp a 6 A).length:=by unfold wp; split<;>simp; omega
 unfold y5 at hn ⊢;rw[Dy,bf lv,aT (by omega),aC,eF c116,bF (eG hx tE),ht,aC,eF c117,bF (eG hx fE),hf,aC,bf lv,kH];try dsimp only
 rw[show ((10:Int)==0)=false from rfl,aC,show ((10:Int)==1)=false from rfl,aC,show ((10:Int)==10)=true from rfl,aG,uD,lu (ha 6 (by decide) (by omega)),aX (aO (by rw[lZ]; unfold aQ; omega))];rfl
theorem bGS {v:Int} (h0:0<=v) (ha:MW ns (nE v) (fM v)) (hp:wp (nE v) 0 (fM v)=fM v) (hx:(EX.node 5 0 0 [nE v]).Len):MB ns (y5 5 (nE v)) (tS [45]::tS [40]::(fM v ++ [tS [41]])):=fun hl need hn=>by
 rw[aY,aY,aP,ru] at hl;have ht:eQ (.node 5 0 0 [nE v]) tE=false:=sW (by decide);have hf:eQ (.node 5 0 0 [nE v]) fE=false:=uo (by decide);have lv:=(C9 hx rfl (by decide) (by decide)).2;have h29:=ha 0 (by decide) (by omega);rw[hp,X5] at h29;unfold y5 at hn ⊢;rw[Dy,bf lv,aT (by omega),aC,eF c116,bF (eG hx tE),ht,aC,eF c117,bF (eG hx fE),hf,aC,bf lv,kH];try dsimp only
 rw[show ((5:Int)==0)=false from rfl,aC,show ((5:Int)==1)=false from rfl,aC,show ((5:Int)==10)=false from rfl,aC,show ((5:Int)==5)=true from rfl,aG,uD,X5];try dsimp only
 rw[show ((0:Int)==0)=true from rfl,aG,aO h0,aG,lu h29,aX (aO (by rw[lZ]; unfold aQ; omega)),aX (aO (by rw[aP,lZ]; unfold aQ; simp; omega)),Pg,Pg,rY];rfl
theorem bGR {o v i:Int} {l:List EX} {A:List Tok} (hc:o≠0\/v<0) (ha:MW ns (.node o v i l) A) (hx:(EX.node 5 0 0 [.node o v i l]).Len):MB ns (y5 5 (.node o v i l)) (tS [45]::wp (.node o v i l) 6 A):=fun hl need hn=>by
 rw[aY] at hl;have ht:eQ (.node 5 0 0 [.node o v i l]) tE=false:=sW (by decide);have hf:eQ (.node 5 0 0 [.node o v i l]) fE=false:=uo (by decide);have lv:=(C9 hx rfl (by decide) (by decide)).2;have hA:A.length<=(wp (.node o v i l) 6 A).length:=by unfold wp; split<;>simp; omega
 have hJ:Xt (NS ns) (5,0,0,pq [.node o v i l],())=some (.sl true 1 (bQ (tS [45]::wp (.node o v i l) 6 A)),[]):=by
  rw[b5C];try dsimp only
  rw[uD,lu (ha 6 (by decide) (by omega)),aX (aO (by rw[lZ]; unfold aQ; omega))];rfl
 unfold y5 at hn ⊢;rw[Dy,bf lv,aT (by omega),aC,eF c116,bF (eG hx tE),ht,aC,eF c117,bF (eG hx fE),hf,aC,bf lv,kH];try dsimp only
 rw[show ((5:Int)==0)=false from rfl,aC,show ((5:Int)==1)=false from rfl,aC,show ((5:Int)==10)=false from rfl,aC,show ((5:Int)==5)=true from rfl,aG,uD,hJ,kH];try dsimp only
 by_cases h0:o=0
 .rw[show (o==0)=true by simp[h0],aG,aT (by omega),aC]
 .rw[show (o==0)=false by simpa using h0,aC]
theorem bGQ {c a b:EX} {C A B:List Tok} (hc:MW ns c C) (ha:MW ns a A) (hb:MW ns b B) (hx:(EX.node 13 0 0 [c,a,b]).Len):MB ns (.node 13 0 0 [c,a,b]) (wp c 1 C ++ tS [63]::(wp a 0 A ++ tS [58]::wp b 0 B)):=fun hl need hn=>by
 rw[aP,aY,aP,aY] at hl;have ht:eQ (.node 13 0 0 [c,a,b]) tE=false:=sW (by decide);have hf:eQ (.node 13 0 0 [c,a,b]) fE=false:=uo (by decide);have lv:=(C9 hx rfl (by decide) (by decide)).2;have hC:C.length<=(wp c 1 C).length:=by unfold wp; split<;>simp; omega
 have hA:A.length<=(wp a 0 A).length:=by unfold wp; split<;>simp; omega
 have hB:B.length<=(wp b 0 B).length:=by unfold wp; split<;>simp; omega
 have x1:SS.CC 29 [bSE (NS ns),A1 (ev a),bSD 0] []=_:=ha 0 (by decide) (by omega);rw[Dy,bf lv,aT (by omega),aC,eF c116,bF (eG hx tE),ht,aC,eF c117,bF (eG hx fE),hf,aC,bf lv,kH];try dsimp only
 rw[show ((13:Int)==0)=false from rfl,aC,show ((13:Int)==1)=false from rfl,aC,show ((13:Int)==10)=false from rfl,aC,show ((13:Int)==5)=false from rfl,aC,show ((13:Int)==13)=true from rfl,aG,
  uD,lu (hc 1 (by decide) (by omega)),aX (aO (by rw[lZ]; unfold aQ; omega)),show (1:Int)=((1:Nat):Int) from rfl,FN (l := [c,a,b]) (k:=1) (by simp)]
 rw[show [c,a,b][1]=a from rfl,lu x1,aX (aO (by rw[aP,lZ,lZ]; unfold aQ; simp; omega)),aX (aO (by rw[aP,aP,lZ,lZ]; unfold aQ; simp; omega)),show (2:Int)=((2:Nat):Int) from rfl,FN (l := [c,a,b]) (k:=2) (by simp)];rw[show [c,a,b][2]=b from rfl,lu (hb 0 (by decide) (by omega)),aX (aO (by rw[aP,aP,aP,lZ,lZ,lZ]; unfold aQ; simp; omega)),rY,Pg,rY,Pg];simp;exact ⟨rfl,rfl⟩
theorem aMI {o lv:Int} {a b:EX} {A B:List Tok} {n1 n2:Int} (ho:o=2\/o=3\/o=4\/o=6\/o=7\/o=8\/o=9\/o=11\/o=12) (hlv:qA (vk o a b)=lv) (hn:(o=6\/o=7\/o=8\/o=9)/\n1=4/\n2=4\/(o=2\/o=3\/o=4\/o=11\/o=12)/\0<=lv/\lv<=6/\n1=lv/\n2=lv+1)
 (ht:eQ (.node o 0 0 [a,b]) tE=false) (hf:eQ (.node o 0 0 [a,b]) fE=false) (ha:MW ns a A) (hb:MW ns b B) (hx:(EX.node o 0 0 [a,b]).Len):MB ns (vk o a b) (wp a n1 A ++ tS (zq o)::wp b n2 B):=fun hl need hn2=>by
 rw[aP,aY] at hl;have hA:A.length<=(wp a n1 A).length:=by unfold wp; split<;>simp; omega
 have hB:B.length<=(wp b n2 B).length:=by unfold wp; split<;>simp; omega
 have lvv:=(C9 hx rfl (by omega) (by omega)).2;have bCO:qA (.node o 0 0 [a,b])=lv:=hlv;have hd:bQ (wp a n1 A ++ tS (zq o)::wp b n2 B)=bQ (wp a n1 A) ++ [.str (bs (zq o))] ++ bQ (wp b n2 B):=by rw[rY,Pg]; simp
 have a29:=ha n1 (by omega) (by omega);have RF:=hb n2 (by omega) (by omega);have k1:∀ K,bD S1 (pq [a,b]) 1 K=K (ev b):=fun K=>FN (l := [a,b]) (k:=1) (by simp) K
 have c1:decide ((bQ (wp a n1 A)).length+1<=aQ)=true:=aO (by rw[lZ]; unfold aQ; omega);have c2:decide ((bQ (wp a n1 A) ++ ([.str (bs (zq o))]:bSH)).length+(bQ (wp b n2 B)).length<=aQ)=true:=aO (by rw[aP,lZ,lZ]; unfold aQ; simp; omega);unfold vk at hn2 ⊢;rw[Dy,bf lvv,aT (by omega),aC,eF c116,bF (eG hx tE),ht,aC,eF c117,bF (eG hx fE),hf,aC,bf lvv,kH,hd,bCO];try dsimp only
 have b0:(o==0)=false:=by simp; omega
 have b1:(o==1)=false:=by simp; omega
 have b5:(o==5)=false:=by simp; omega
 have b10:(o==10)=false:=by simp; omega
 have b13:(o==13)=false:=by simp; omega
 rw[b0,aC,b1,aC,b10,aC,b5,aC,b13,aC];rcases hn with ⟨h,rfl,rfl⟩ | ⟨h,h0,h6,rfl,rfl⟩
 .rcases h with rfl | rfl | rfl | rfl
  .rw[show ((6:Int)==6)=true from rfl,aG,uD,lu a29,oO (Uh 6),aX c1,k1,lu RF,aX c2]
  .rw[show ((7:Int)==6)=false from rfl,aC,show ((7:Int)==7)=true from rfl,aG,uD,lu a29,oO (Uh 7),aX c1,k1,lu RF,aX c2]
  .rw[show ((8:Int)==6)=false from rfl,aC,show ((8:Int)==7)=false from rfl,aC,show ((8:Int)==8)=true from rfl,aG,uD,lu a29,oO (Uh 8),aX c1,k1,lu RF,aX c2]
  .rw[show ((9:Int)==6)=false from rfl,aC,show ((9:Int)==7)=false from rfl,aC,show ((9:Int)==8)=false from rfl,aC,show ((9:Int)==9)=true from rfl,aG,uD,lu a29,oO (Uh 9),aX c1,k1,lu RF,aX c2]
 .have b6:(o==6)=false:=by simp; omega
  have b7:(o==7)=false:=by simp; omega
  have b8:(o==8)=false:=by simp; omega
  have b9:(o==9)=false:=by simp; omega
  rw[b6,aC,b7,aC,b8,aC,b9,aC,uD,lu a29,oO (Uh o),aX c1,k1,wrap64 (by omega) (by omega),lu RF,aX c2]
end
theorem bJJ (ns:List (bSI)) {x:EX} {B:List Tok} (h:PB ns x B):x.Len->MB ns x B/\0<=x.op/\x.op<=13:=by
 induction h with
 | tt=>exact fun hx=>⟨bGV hx,by simp[EX.op,tE],by simp[EX.op,tE]⟩
 | ff=>exact fun hx=>⟨bGP hx,by simp[EX.op,fE],by simp[EX.op,fE]⟩
 | num h0 h1=>exact fun hx=>⟨bGU h0 h1 hx,by simp[EX.op,nE],by simp[EX.op,nE]⟩
 | var hs=>exact fun hx=>⟨bGW hs hx,by simp[EX.op,vE],by simp[EX.op,vE]⟩
 | @Z8 v h0 h1 _ ih =>
  intro hx;obtain ⟨k1,k2,k3⟩:=ih (Len.arg hx (by simp));have hp:wp (nE v) 0 (fM v)=fM v:=by unfold wp qA nE;rw[sW (by decide),uo (by decide)];exact aK (by show ¬ (if v<0 then (6:Int) else 7)<0; split<;>decide)
  exact ⟨bGS h0 (EK (Len.arg hx (by simp)) k2 k3 k1) hp hx,by simp[EX.op],by simp[EX.op]⟩
 | neg hc _ ih =>intro hx;obtain ⟨k1,k2,k3⟩:=ih (Len.arg hx (by simp));exact ⟨bGR hc (EK (Len.arg hx (by simp)) k2 k3 k1) hx,by simp[EX.op],by simp[EX.op]⟩
 | ZB _ ih =>intro hx;obtain ⟨k1,k2,k3⟩:=ih (Len.arg hx (by simp));exact ⟨bGT (EK (Len.arg hx (by simp)) k2 k3 k1) hx,by simp[EX.op],by simp[EX.op]⟩
 | cmp ho ht hf _ _ iha ihb =>
  intro hx;obtain ⟨k1,k2,k3⟩:=iha (Len.arg hx (by simp));obtain ⟨m1,m2,m3⟩:=ihb (Len.arg hx (by simp));refine ⟨aMI (by omega) (aM9 ho ht hf) (.inl ⟨ho,rfl,rfl⟩) ht hf (EK (Len.arg hx (by simp)) k2 k3 k1) (EK (Len.arg hx (by simp)) m2 m3 m1) hx,?_,?_⟩
  .simp only[EX.op]; omega
  .simp only[EX.op]; omega
 | bin ho _ _ iha ihb =>
  intro hx;obtain ⟨k1,k2,k3⟩:=iha (Len.arg hx (by simp));obtain ⟨m1,m2,m3⟩:=ihb (Len.arg hx (by simp));refine ⟨aMI (by omega) (aM8 ho) (.inr ⟨by omega,by omega,by omega,rfl,rfl⟩) (sW (by omega)) (uo (by omega)) (EK (Len.arg hx (by simp)) k2 k3 k1) (EK (Len.arg hx (by simp)) m2 m3 m1) hx,?_,?_⟩
  .simp only[EX.op]; omega
  .simp only[EX.op]; omega
 | ite _ _ _ TM iha ihb =>intro hx;obtain ⟨j1,j2,j3⟩:=TM (Len.arg hx (by simp));obtain ⟨k1,k2,k3⟩:=iha (Len.arg hx (by simp));obtain ⟨m1,m2,m3⟩:=ihb (Len.arg hx (by simp));exact ⟨bGQ (EK (Len.arg hx (by simp)) j2 j3 j1) (EK (Len.arg hx (by simp)) k2 k3 k1) (EK (Len.arg hx (by simp)) m2 m3 m1) hx,by simp[EX.op],by simp[EX.op]⟩
abbrev kw (t:Tok):Int×bSI×Int:=(t.kind,t.text,t.value)
def Tv (t:Tok):Prop:=t.text ≠ []/\(bu t.text).2=0/\kw (bu t.text).1=kw t/\t.kind≠4
theorem bMR:∀ x∈tV,∀ c∈x.head?,zN c.toNat=false/\c≠47:=by decide
theorem aW2 {b:UInt8} {r:bSI} (h:(bu (b::r)).2=0):zN b.toNat=false/\b≠47:=by
 unfold bu at h;dsimp only at h;cases hd:eU b.toNat with
 | true =>simp only[eU,au,iy] at hd;refine ⟨?_,fun c=>by subst c; revert hd; decide⟩;unfold zN;simp only[Ld,vU];omega
 | false =>
  cases hl:isLet b.toNat with
  | true =>simp only[isLet,y9,au,iy,oN] at hl;refine ⟨?_,fun c=>by subst c; revert hl; decide⟩;unfold zN;simp only[Ld,vU];omega
  | false =>
   rw[hd,hl] at h;simp only[uP,tX] at h;unfold D5 at h;cases hs:GG (b::r) with
   | none=>rw[hs] at h; exact absurd h (by decide)
   | some x =>
    obtain ⟨m1,m2⟩:=a9' hs;have hp:=(aA0 x m1).1;match x,m1,m2,hp with
    | c::x,m1,m2,_ =>
     have hc:c=b:=by simp[List.isPrefixOf] at m2; exact m2.1
     subst hc;exact bMR _ m1 c (by simp)
theorem a9U {b:UInt8} {r:bSI} (h:(bu (b::r)).2=0) (u:bSI):gW false (b::u)=0:=by
 obtain ⟨h1,h2⟩:=aW2 h;rcases bM2 false b u with ⟨c',_,k⟩ | ⟨_,_,_,k⟩
 .rcases k with ⟨k,_⟩ | ⟨k,_⟩ | ⟨_,k,_⟩ | ⟨_,_,k,_⟩
  .cases k
  .cases k
  .rw[h1] at k; cases k
  .simp[List.isPrefixOf] at k;exact absurd k.1.symm h2
 .exact k
def joinL:List Tok->bSI
 | [] => []
 | [t]=>t.text
 | t::u::l=>t.text ++ 32::joinL (u::l)
theorem aPJ:∀ (T:List Tok),T ≠ []->(∀ t,t∈T->Tv t)->∀ (i line start:Nat) (acc:List Tok),∃ T' e,iw false (joinL T) i line start acc = .ok (acc ++ T' ++ [e])/\T'.map kw=T.map kw/\e.kind=4
 | [],h,_,_,_,_,_=>absurd rfl h
 | [t],_,ht,i,line,start,acc=>by
  obtain ⟨h1,h2,h3,_⟩:=ht t (by simp);show ∃ T' e,iw false t.text i line start acc=_/\_;match hx:t.text,h1 with
  | b::r,_ =>
   rw[hx] at h2 h3;have e3:(bu (b::r)).1.text=b::r:=by have:=congrArg (fun c=>c.2.1) h3;simpa[hx] using this
   have hS:iw false (b::r) i line start acc = .ok (acc ++ [(bu (b::r)).1.at (line:Nat) ((i-start+1:Nat):Int)] ++ [(⟨4,[],0,(line:Nat),((i+(b::r).length-start+1:Nat):Int)⟩:Tok)]):=by rw[a0H (a9U h2 r),aJ h2,e3,List.drop_length,aBF]
   refine ⟨_,_,hS,?_,rfl⟩;show [kw (bu (b::r)).1] = [kw t];rw[h3]
 | t::u::l,_,ht,i,line,start,acc=>by
  obtain ⟨h1,h2,h3,_⟩:=ht t (by simp);show ∃ T' e,iw false (t.text ++ 32::joinL (u::l)) i line start acc=_/\_;match hx:t.text,h1 with
  | b::r,_ =>
   rw[hx] at h2 h3;have e3:(bu (b::r)).1.text=b::r:=by have:=congrArg (fun c=>c.2.1) h3;simpa[hx] using this
   have hr:bu (b::(r ++ 32::joinL (u::l)))=bu (b::r):=bKD (x:=32) (by decide) bMT _ b r;obtain ⟨T',e,k1,k2,k3⟩:=aPJ (u::l) (by simp) (fun t h=>ht t (by simp[h])) (i+(b::r).length+1) line start (acc ++ [(bu (b::r)).1.at (line:Nat) ((i-start+1:Nat):Int)]);refine ⟨(bu (b::r)).1.at (line:Nat) ((i-start+1:Nat):Int)::T',e,?_,?_,k3⟩
   .have hdrop:(b::(r ++ 32::joinL (u::l))).drop (b::r).length=32::joinL (u::l):=by rw[<- lM,List.drop_left]
    rw[lM,a0H (by rw[a9U h2]),hr,aJ h2,e3,hdrop,
     C_step (c':=false) (by rw[gW,aJ (by decide)]),aK (by decide),aK (by decide),k1]
    simp
   .rw[qm,qm,k2,<- h3];rfl
theorem Wn:∀ (n:Nat) (b:UInt8),b∈Lib.decDigits n->eU b.toNat=true:=by
 intro n;induction n using Nat.strongRecOn with
 | _ n ih =>
  intro b hb;have RP:∀ d:Nat,d<10->eU (UInt8.ofNat (48+d)).toNat=true:=fun d hd=>by
   have:d=0\/d=1\/d=2\/d=3\/d=4\/d=5\/d=6\/d=7\/d=8\/d=9:=by omega
   rcases this with rfl | rfl | rfl | rfl | rfl | rfl | rfl | rfl | rfl | rfl<;>rfl
  rw[Lib.decDigits] at hb;split at hb
  .simp only[DK] at hb;rw[hb]; exact RP n (by omega)
  .rcases yA.1 hb with hb | hb
   .exact ih (n / 10) (by omega) b hb
   .simp only[DK] at hb;rw[hb]; exact RP (n % 10) (by omega)
theorem aNB:∀ (l:bSI) (b:UInt8) (a m:Nat),qY l a=some m->10*m+(b.toNat-48)<=65536->qY (l ++ [b]) a=some (10*m+(b.toNat-48))
 | [],b,a,m,h,h2=>by simp only[qY,zA] at h;subst h;rw[Gf,qY,aK (by omega),qY]
 | c::l,b,a,m,h,h2=>by
  rw[qY] at h;rw[lM,qY];split at h
  .cases h
  .rename_i hc;rw[aK hc];exact aNB l b _ m h h2
theorem aUW:∀ (n:Nat),n<=65536->qY (Lib.decDigits n) 0=some n:=by
 intro n;induction n using Nat.strongRecOn with
 | _ n ih =>
  intro hn;have RP:∀ d:Nat,d<10->(UInt8.ofNat (48+d)).toNat-48=d:=fun d hd=>by
   have:d=0\/d=1\/d=2\/d=3\/d=4\/d=5\/d=6\/d=7\/d=8\/d=9:=by omega
   rcases this with rfl | rfl | rfl | rfl | rfl | rfl | rfl | rfl | rfl | rfl<;>rfl
  rw[Lib.decDigits];split
  .rename_i h;rw[qY,RP n h,aK (by omega),qY];simp
  .have hd:=RP (n % 10) (by omega);have:=aNB (Lib.decDigits (n / 10)) (UInt8.ofNat (48+n % 10)) 0 (n / 10) (ih (n / 10) (by omega) (by omega)) (by rw[hd]; omega);rw[this,hd];congr 1
   omega
theorem aUV:∀ (n:Nat),0<n->∃ b r,Lib.decDigits n=b::r/\b≠48:=by
 intro n;induction n using Nat.strongRecOn with
 | _ n ih =>
  intro hn;rw[Lib.decDigits];split
  .rename_i h;refine ⟨_,[],rfl,?_⟩;have:n=1\/n=2\/n=3\/n=4\/n=5\/n=6\/n=7\/n=8\/n=9:=by omega
   rcases this with rfl | rfl | rfl | rfl | rfl | rfl | rfl | rfl | rfl<;>decide
  .obtain ⟨b,r,h1,h2⟩:=ih (n / 10) (by omega) (by omega);exact ⟨b,r ++ [UInt8.ofNat (48+n % 10)],by rw[h1]; rfl,h2⟩
theorem L9 {p:Nat->Bool}:∀ {l:bSI},(∀ b,b∈l->p b.toNat=true)->fP p l=l
 | [],_=>rfl
 | b::l,h=>by
  have:=L9 (l:=l) fun c hc=>h c (by simp[hc])
  unfold fP at *;rw[DL,h b (by simp),aJ rfl,this]
theorem aQU {n:Nat} (h:n<=65536):Tv (tN n):=by
 have hne:Lib.decDigits n ≠ []:=by rw[Lib.decDigits]; split<;>simp
 have h1:fP eU (Lib.decDigits n)=Lib.decDigits n:=L9 (Wn n);have h2:fP kQ (Lib.decDigits n)=Lib.decDigits n:=L9 fun b hb=>by unfold kQ; rw[Wn n b hb,Bool.or_true]
 have hN:Ah (Lib.decDigits n)=(⟨2,Lib.decDigits n,n,0,0⟩,0):=by
  unfold Ah;rw[h1,h2,aK (by omega)];have hz:¬ (1<(Lib.decDigits n).length/\(Lib.decDigits n)[0]? = some 48):=by
   rintro ⟨k1,k2⟩;rcases Gg n with rfl | hp
   .rw[Lib.decDigits_one (by decide)] at k1;simp at k1
   .obtain ⟨b,r,k3,k4⟩:=aUV n hp;rw[k3] at k2;simp at k2;exact k4 k2
  rw[aK hz,aUW n h]
 have hR:bu (Lib.decDigits n)=(⟨2,Lib.decDigits n,n,0,0⟩,0):=by
  unfold bu;match hd:Lib.decDigits n,hne with
  | b::r,_ =>dsimp only;rw[Wn n b (by rw[hd]; simp),aJ rfl,<- hd];rw[hN]
 refine ⟨hne,?_,?_,show (2:Int)≠4 by decide⟩
 .show (bu (Lib.decDigits n)).2=0;rw[hR]
 .show kw (bu (Lib.decDigits n)).1=_;rw[hR]
theorem bNE:∀ s,s∈tV->Tv (tS s):=by
 have:∀ s,s∈tV->s ≠ []/\(bu s).2=0/\kw (bu s).1=(3,s,0):=by decide
 intro s hs;obtain ⟨h1,h2,h3⟩:=this s hs;exact ⟨h1,h2,h3,show (3:Int)≠4 by decide⟩
theorem bNF {s:bSI} (h:nameB s=true):Tv (tW s):=by
 unfold nameB at h;simp only[au,iy] at h;obtain ⟨h1,h2,h3⟩:=h;have hall:∀ (l:bSI) (k:Nat),Ag l k=true->∀ b,b∈l->kQ b.toNat=true:=by
  intro l;induction l with
  | nil=>intro _ _ b hb; cases hb
  | cons c l ih =>
   intro k h b hb;rw[Ag,au] at h;rcases iQ.1 hb with rfl | hb
   .have:=h.1;unfold CU at this;unfold kQ;rw[y9] at this ⊢;rcases this with h | h
    .exact .inl h
    .rw[au] at h; exact .inr h.2
   .exact ih (k+1) h.2 b hb
 match hs:s,h2 with
 | b::r,_ =>
  have hb:isLet b.toNat=true:=by rw[Ag,au] at h1;have:=h1.1;unfold CU at this;simpa using this
  have hdg:eU b.toNat=false:=by rw[Bool.eq_false_iff];intro c;simp only[eU,au,iy] at c;simp only[isLet,y9,au,iy,oN] at hb;omega
  have hw:yl (b::r)=(⟨1,b::r,0,0,0⟩,0):=by unfold yl;rw[L9 (hall _ 0 h1),aK (by omega)]
  have hR:bu (b::r)=(⟨1,b::r,0,0,0⟩,0):=by unfold bu;dsimp only;rw[hdg,hb];simp only[uP,tX,gV];exact hw
  refine ⟨by simp,?_,?_,show (1:Int)≠4 by decide⟩
  .show (bu (b::r)).2=0;rw[hR]
  .show kw (bu (b::r)).1=_;rw[hR]
theorem aK1:∀ (T:List Tok),([32]:bSI).intercalate (T.map (·.text))=joinL T
 | []=>rfl
 | [t]=>by simp[List.intercalate,joinL]
 | t::u::l=>by have:=aK1 (u::l);rw[joinL,<- this];simp[List.intercalate,List.intersperse]
theorem aQG:∀ (l:List (bSI)),strsOf (l.map fun s=>PV.str (bs s))=some (l.map bs)
 | []=>rfl
 | s::l=>by rw[qm,strsOf,aQG l]; rfl
theorem bDO (es:bSH) (sep:bSG):CS 15 [bSE es,.str sep] []=(match strsOf es with
 | some xs=>(match Nat.ble (FI xs sep).length 140737488355328&&Nat.ble xs.length 140737488355328 with
  | true=>some (PV.str ⟨(FI xs sep).toArray⟩,([]:aI))
  | false=>none)
 | none=>none):=rfl
theorem bDM (T:List Tok):FI (T.map fun t=>bs t.text) ⟨#[32]⟩=joinL T:=by unfold FI Lib.join;rw[Lp,<- aK1];rfl
theorem sjc (T:List Tok) (h1:T.length<=1000000) (h2:(joinL T).length<=1000000):SS.CC 15 [bSE (T.map fun t=>PV.str (bs t.text)),.str ⟨#[32]⟩] []=some (.str (bs (joinL T)),[]):=by
 refine QS ?_;have hs:strsOf (T.map fun t=>PV.str (bs t.text))=some (T.map fun t=>bs t.text):=by have:=aQG (T.map (·.text));rw[Lp,Lp] at this;exact this
 rw[bDO,hs];dsimp only;rw[bDM,bM,VS (by omega),VS (by omega)];rfl
theorem aDF {T T':List Tok} (h:T'.map kw=T.map kw) (hk:∀ t,t∈T->t.kind≠4):∀ t,t∈T'->t.kind≠4:=by
 intro t ht;have hm:kw t∈T.map kw:=by rw[<- h]; exact aB8 ht
 obtain ⟨u,hu,e⟩:=qL.1 hm;have:u.kind=t.kind:=congrArg (·.1) e;rw[<- this]; exact hk u hu
theorem aDU (T T':List Tok) (hn:T.length<=1000000) (h:T'.map kw=T.map kw):∀ (m k:Nat),k+m=T.length->Xm (T.map ay) (T'.map ay) (k:Int)=some (.bool true,[])
 | 0,k,hk=>by
  have hl:T'.length=T.length:=by have:=congrArg List.length h; simpa using this
  rw[aG8,aT (by rw[bM]; omega),aC]
 | m+1,k,hk=>by
  have hl:T'.length=T.length:=by have:=congrArg List.length h; simpa using this
  have h1:k<T'.length:=by omega
  have h2:k<T.length:=by omega
  have e:kw T'[k]=kw T[k]:=by have:=congrArg (fun l=>l[k]?) h;simp only[iU,iM h1,iM h2,sD,zA] at this;exact this
  have e1:T'[k].kind=T[k].kind:=congrArg (·.1) e;have e2:T'[k].text=T[k].text:=congrArg (·.2.1) e;have e3:T'[k].value=T[k].value:=congrArg (·.2.2) e;have bC8:SS.CC 210 [kD (tk T'[k]),kD (tk T[k])] []=some (.bool true,[]):=by rw[b0S];dsimp only;rw[e1,e2,e3,sF,aG,sF,aG,sF]
  rw[aG8,aO (by rw[bM]; omega),aG,U0 h1,U0 h2,bF bC8,nG,aC,bV (by omega)];exact aDU T T' hn h m (k+1) (by omega)
theorem aVI (T T':List Tok) (hn:T.length<=1000000) (h:T'.map kw=T.map kw):SS.CC 209 [.sl false 5 (T'.map ay),.sl false 5 (T.map ay),.func (.func 210) [] []] []=some (.bool true,[]):=by
 have hl:T'.length=T.length:=by have:=congrArg List.length h; simpa using this
 rw[b0R,bM,bM,show ((T'.length:Int) !=(T.length:Int))=false by simp[hl],aC];exact aDU T T' hn h T.length 0 (by omega)
theorem aKD (T:List Tok) (hn:T.length<=1000000):∀ (m k:Nat),k+m=T.length->Rx (T.map ay) ((T.take k).map fun t=>PV.str (bs t.text)) (k:Int)=Rx (T.map ay) (T.map fun t=>PV.str (bs t.text)) (T.length:Int)
 | 0,k,hk=>by
  have:k=T.length:=by omega
  rw[this,List.take_length]
 | m+1,k,hk=>by
  have h1:k<T.length:=by omega
  rw[aF1,aO (by rw[bM]; omega),aG,U0 h1,aX (aO (by rw[bM,nY]; unfold aQ; omega)),bV (by omega)];have:=aKD T hn m (k+1) (by omega);rw[Ls h1,ry] at this;exact this
theorem aPH {T:List Tok} (hne:T ≠ []) (ht:∀ t,t∈T->Tv t) (hl:(joinL T).length<=65536):∃ T' e,rX (joinL T) = .ok (T' ++ [e])/\T'.map kw=T.map kw/\e.kind=4:=by obtain ⟨T',e,h1,h2,h3⟩:=aPJ T hne ht 0 1 0 [];refine ⟨T',e,?_,h2,h3⟩;unfold rX;rw[aK (by omega),aPI,h1];rfl
theorem aDG:∀ (k n:Nat),n<10 ^ (k+1)->(Lib.decDigits n).length<=k+1
 | 0,n,h=>by rw[Lib.decDigits_one (by omega)]; simp
 | k+1,n,h=>by
  rw[Lib.decDigits];split
  .simp
  .rw[aP,ru];have:=aDG k (n / 10) (by rw[Nat.pow_succ] at h; omega);omega
section
variable {v:bSH} {d:Int} {T:List Tok} {x:EX}
end
section
variable {v:bSH} {d:Int} {T:List Tok} {x:EX}
end
theorem aTG {a b:bSI} (h:bs a=bs b):a=b:=by have:=congrArg ByteArray.toList h;rwa [Dh,Dh] at this
end Go.Proofs.YtcdceiloganlnaaGreatDoor.W
end

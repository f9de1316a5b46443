/- A part of the proof. -/
import Derived.Test.YtilpiopkekkbiaaGreatDoorPp4
import Derived.Test.YtilpiopkekkbiaaGreatDoorPp3
import Derived.ProofKit
import Derived.SizedLaws
import Derived.ChangeArms
import Derived.OpenShut
import Derived.ChangeOld
import Derived.Deep.DeepHandedRow
import Derived.Lib.LaidTab
import Derived.Shelf.LaysM
import Derived.Test.YtilpiopkekkbiaaGreatDoorRows
import Derived.Test.YtilpiopkekkbiaaGreatDoorCards
import Derived.Test.YtilpiopkekkbiaaGreatDoorTie
import Derived.Stop.LaidErr
import Derived.JoinedOf
set_option linter.unusedVariables false
set_option linter.unusedSimpArgs false
set_option linter.unnecessarySimpa false
set_option linter.unusedSectionVars false
noncomputable section
open Go.IntKind (i64)
namespace Go.Proofs.YtilpiopkekkbiaaGreatDoor.W
open Go.RowKit
variable {g:FuncId} {a:bZZ} {h:aG} {n2 n1 n:Int} {b1:Bool} {y2:Sh.V aH} {l:bZ'}
theorem fZ {C:Cal} {F:PV->aG->R} {r:PV} {h':aG} {v:R} (e:C g a h=some (r,h')) (e2:F r h'=v):AO C g a h F=v:=by unfold AO; rw[e]; exact e2
theorem uK {C:Cal} {F:PV->R} {r:PV} {v:R} (e:C g a []=some (r,[])) (e2:F r=v):jO C g a F=v:=by unfold jO; rw[e]; exact e2
theorem NQ {n1:bZY} {K:RS.F (.t [(false,[.S]),(false,[.I .i64])]) R} (e:SS.CC g a []=some (.tuple [.str n1,bZV n2],[])):G0 g a K=K ((n1,()),(n2,()),()):=uK e rfl
theorem cZ {K:RS.F (.ti .i64) R} (e:SS.CC g a []=some (bZV n1,[])):G1 g a K=K n1:=uK e rfl
theorem XR {n1:bZZ} {n3:Int} {n4:Int} {K:RS.F (.t [(false,[.L false 5]),(false,[.I .i64]),(false,[.I .i64]),(false,[.I .i64])]) R} (e:SS.CC g a []=some (.tuple [.sl false 5 n1,bZV n2,bZV n3,bZV n4],[])):XQ g a K=K ((n1,()),(n2,()),(n3,()),(n4,()),()):=uK e rfl
theorem pJ {s1:bZY} {K:RS.F (.ts) R} (e:SS.CC g a []=some (.str s1,[])):G2 g a K=K s1:=uK e rfl
theorem dN {x1:Sh.V S1} {K:RS.F (.g S1) R} (e:SS.CC g a []=some (A1 x1,[])):qM g a K=K x1:=uK e rfl
theorem aZ {K:RS.F (.tb) R} (e:SS.CC g a []=some (.bool b1,[])):G3 g a K=K b1:=uK e rfl
theorem aEE {n2:Bool} {K:RS.F (.t [(false,[.I .i64]),(false,[.B])]) R} (e:SS.CC g a []=some (.tuple [bZV n1,.bool n2],[])):G37 g a K=K ((n1,()),(n2,()),()):=uK e rfl
theorem uJ {l1:bZZ} {K:RS.F (.tl false 1) R} (e:SS.CC g a []=some (bZW l1,[])):G4 g a K=K l1:=uK e rfl
theorem aWF {K:RS.F (.t [(false,[.I .i64]),(false,[.I .i64])]) R} (e:SS.CC g a []=some (.tuple [bZV n1,bZV n2],[])):G6 g a K=K ((n1,()),(n2,()),()):=uK e rfl
theorem lN {l1:bZZ} {K:RS.F (.tl true 1) R} (e:SS.CC g a []=some (.sl true 1 l1,[])):G7 g a K=K l1:=uK e rfl
theorem bQ {y1:Sh.V gu} {K:RS.F (.t []) (dm [.c gu])} (e:SS.CC g a h=some (.tuple [],[aF y1])):ah g a h K=K () y1:=fZ e rfl
theorem aWL {y1:Sh.V aH} {K:RS.F (.z (.pt 0 0)) (dm [.c aH])} (e:SS.CC g a h=some (bZX,[aB y1])):H14 g a h K=K y1:=fZ e rfl
theorem jJ {y1:Sh.V aH} {K:RS.F (.t []) (dm [.c aH])} (e:SS.CC g a h=some (.tuple [],[aB y1])):eX g a h K=K () y1:=fZ e rfl
theorem aEP {n3:Int} {y4:Sh.V aH} {K:RS.F (.t [(false,[.I .i64]),(false,[.I .i64]),(false,[.I .i64])]) (dm [.c aH])} (e:SS.CC g a h=some (.tuple [bZV n1,bZV n2,bZV n3],[aB y4])):H17 g a h K=K ((n1,()),(n2,()),(n3,()),()) y4:=fZ e rfl
theorem XW {y2:Sh.V Nr} {K:RS.F (.ti .i64) (dm [.c Nr])} (e:SS.CC g a h=some (bZV n1,[kQ y2])):H19 g a h K=K n1 y2:=fZ e rfl
theorem jL {x1:Sh.V lm} {K:RS.F (.g lm) (dm [.c aH])} (e:SS.CC g a h=some (oK x1,[aB y2])):jv g a h K=K x1 y2:=fZ e rfl
theorem BJ {s1:bZY} {K:RS.F (.ts) (dm [.c aH])} (e:SS.CC g a h=some (.str s1,[aB y2])):BI g a h K=K s1 y2:=fZ e rfl
theorem eG {K:RS.F (.tb) (dm [.c aH])} (e:SS.CC g a h=some (.bool b1,[aB y2])):jY g a h K=K b1 y2:=fZ e rfl
theorem RZ {y2:Sh.V vk} {K:RS.F (.tb) (dm [.c vk])} (e:SS.CC g a h=some (.bool b1,[iw y2])):zA g a h K=K b1 y2:=fZ e rfl
theorem oM {y1:Sh.V gu} {K:RS.F (.t []) (dm [.z lq,.c gu])} (e:SS.CC g a h=some (.tuple [],[some [.ptr 1 0],aF y1])):eY g a h K=K () y1:=fZ e rfl
theorem XY {K:RS.F (.ti .i64) (dm [.c aH])} (e:SS.CC g a h=some (bZV n1,[aB y2])):NZ g a h K=K n1 y2:=fZ e rfl
set_option maxRecDepth 1000000
section
theorem b0L (a0:bZY):SS.CC 31 [.str a0] []=XQ 24 [.str a0] fun u1=>some (bZX,[aB (u1.1.1,u1.2.1.1,u1.2.2.1.1,u1.2.2.2.1.1,())]):=cc
theorem b0M (h0:Sh.V aH):SS.CC 38 [bZX] [aB h0]=aA (h0.2.2.2.1==0) (some (.tuple [bZV 0,bZV 0,bZV 0],[aB h0])) (some (.tuple [bZV h0.2.1,bZV h0.2.2.1,bZV h0.2.2.2.1],[aB h0])):=cc
theorem b2D (a1:bZY) (h0:Sh.V aH):SS.CC 32 [bZX,.str a1] [aB h0]=jY 143 [bZX,.str a1] [aB h0] fun b1 u2=>aA (!b1) (eX 37 [bZX,bZV 14] [aB u2] fun _ u8=>some (.tuple [],[aB u8])) (some (.tuple [],[aB u2])):=cc
theorem b2E (h0:Sh.V aH):SS.CC 33 [bZX] [aB h0]=jv 35 [bZX] [aB h0] fun u1 u6=>aA (u1.1 != 1) (eX 37 [bZX,bZV 14] [aB u6] fun _ u12=>some (.str ⟨#[]⟩,[aB u12])) (jv 144 [bZX] [aB u6] fun lG u23=>some (.str lG.2.1,[aB u23])):=cc
theorem b2G (h0:Sh.V aH):SS.CC 35 [bZX] [aB h0]=aA (h0.2.2.2.1 != 0) (some (oK (4,⟨#[]⟩,0,h0.2.1,h0.2.2.1,()),[aB h0])) (aj lm h0.1 0 fun u2=>some (oK u2,[aB h0])):=cc
theorem b2H (a1:Int) (h0:Sh.V aH):SS.CC 37 [bZX,bZV a1] [aB h0]=nN fun ag=>aA (h0.2.2.2.1 != 0) (some (.tuple [],[aB h0])) (aA (a1==0) (some (.tuple [],[aB h0])) (jv 35 [bZX] [aB h0] fun u1 u6=>ag 1 (some (.tuple [],[aB (u6.1,u1.2.2.2.1,u1.2.2.2.2.1,a1,())])))):=zF cc
theorem b8C (a1:bZY) (h0:Sh.V aH):SS.CC 143 [bZX,.str a1] [aB h0]=jY 193 [bZX,.str a1] [aB h0] fun b1 u2=>aA b1 (jv 144 [bZX] [aB u2] fun u8 u13=>some (.bool b1,[aB u13])) (some (.bool b1,[aB u2])):=cc
theorem b8V (h0:Sh.V aH):SS.CC 144 [bZX] [aB h0]=jv 35 [bZX] [aB h0] fun u1 u6=>aA (u6.2.2.2.1==0) (aA (u1.1 != 4) (chk (decide (0<=1)&&decide (1<=(u6.1.length:Int))) (some (oK u1,[aB ((u6.1.drop (1:Int).toNat),u6.2.1,u6.2.2.1,u6.2.2.2.1,())]))) (some (oK u1,[aB u6]))) (some (oK u1,[aB u6])):=cc
theorem bAJ (a1:bZY) (h0:Sh.V aH):SS.CC 193 [bZX,.str a1] [aB h0]=jv 35 [bZX] [aB h0] fun u1 u6=>aA (u1.1==1) (some (.bool (u1.2.1.toList==a1.toList),[aB u6])) (aA (u1.1==3) (some (.bool (u1.2.1.toList==a1.toList),[aB u6])) (some (.bool false,[aB u6]))):=cc
def bB3:KT:=SS.rK Tryz.f226 226 1 []
def U5 (x1:Int) (x2:Int) (q0:Sh.V aH) (x7:Int):R:=bH (SS.xX 226 47 1) (cS Tryz.f226 15) bB3 ⟨[(0,bZX),(1,bZV x1),(2,bZV x2),(7,bZV x7)],[aB q0]⟩
theorem bB0 (x1:Int) (x2:Int) (q0:Sh.V aH) (x7:Int):U5 x1 x2 q0 x7=jv 35 [bZX] [aB q0] fun u1 u6=>aA (u1.1 != 2) (eX 37 [bZX,bZV 14] [aB u6] fun _ u12=>some (bZV 0,[aB u12])) (aA (decide ((i64.wrap (x7*u1.2.2.1))<x1)) (eX 37 [bZX,bZV 2] [aB u6] fun _ lG=>some (bZV 0,[aB lG])) (aA (decide (x2<(i64.wrap (x7*u1.2.2.1)))) (eX 37 [bZX,bZV 2] [aB u6] fun _ u24=>some (bZV 0,[aB u24])) (jv 144 [bZX] [aB u6] fun u30 u35=>some (bZV (i64.wrap (x7*u1.2.2.1)),[aB u35])))):=by kernel_rfl
theorem bB4 (a1:Int) (a2:Int) (h0:Sh.V aH):SS.CC 226 [bZX,bZV a1,bZV a2] [aB h0]=jv 35 [bZX] [aB h0] fun u1 u6=>aA (u1.1==3) (aA (u1.2.1.toList==(⟨#[45]⟩:bZY).toList) (jv 144 [bZX] [aB u6] fun u12 wV=>U5 a1 a2 wV (-1)) (U5 a1 a2 u6 1)) (U5 a1 a2 u6 1):=cc
end
structure RA where
 toks:List Tok
 line:Int
 uq:Int
 e:Int
variable {A:RA}
abbrev tk (t:Tok):Sh.V lm:=(t.kind,bs t.text,t.value,t.line,t.uq,())
abbrev RA.v (A:RA):Sh.V aH:=(A.toks.map bK,A.line,A.uq,A.e,())
def Rt (t:Tok):Prop:=(t.kind=1/\t.text∉jS)\/(t.kind=2/\0<=t.value/\t.value<=65536)\/(t.kind=3/\t.text∈jS)
def bD:List Tok->Prop
 | []=>False
 | t::l=>(t.kind=4/\l = [])\/(Rt t/\bD l)
def RA.ok (A:RA):Prop:=A.e=0->bD A.toks
def RA.aH4 (A:RA):Tok:=⟨4,[],0,A.line,A.uq⟩
def RA.pk (A:RA):Tok:=if A.e=0 then A.toks.headD A.aH4 else A.aH4
theorem RA.ok.ne (h:A.ok) (he:A.e=0):∃ t tl,A.toks=t::tl:=by
 have:=h he;match hA:A.toks with
 | []=>rw[hA] at this; exact this.elim
 | t::tl=>simp
theorem DU (h:n=0):(n != 0)=false:=by simp[h]
theorem SL (h:n≠0):(n != 0)=true:=by simp[h]
theorem aYE (h:n≠0):(n==0)=false:=by simp[h]
theorem peek (h:A.ok):SS.CC 35 [bZX] [aB A.v]=some (oK (tk A.pk),[aB A.v]):=by
 rw[b2G];dsimp only;unfold RA.pk;by_cases he:A.e=0
 .obtain ⟨t,tl,ht⟩:=h.ne he;rw[DU he,aX he,ht]; rfl
 .rw[SL he,aV he]; rfl
theorem pk4 (he:A.e≠0):A.pk.kind=4:=by unfold RA.pk; rw[aV he]; rfl
def RA.next (A:RA):RA:=if A.e=0/\A.pk.kind≠4 then { A with toks:=A.toks.drop 1 } else A
theorem next (h:A.ok):SS.CC 144 [bZX] [aB A.v]=some (oK (tk A.pk),[aB A.next.v]):=by
 rw[b8V,jL (peek h)];unfold RA.next;by_cases he:A.e=0
 .obtain ⟨t,tl,ht⟩:=h.ne he;grind [aC,aI,aQ]
 grind [aC]
theorem RA.ok.next (h:A.ok):A.next.ok:=by
 unfold RA.next;split
 .rename_i c;intro he;obtain ⟨t,tl,ht⟩:=h.ne c.1;have h1:=h c.1;grind [RA.pk,bD]
 .exact h
def RA.is (A:RA) (x:bZ'):Bool:=(A.pk.kind==1||A.pk.kind==3)&&A.pk.text==x
theorem PH (h:A.ok) (b:bZY):SS.CC 193 [bZX,.str b] [aB A.v]=some (.bool (A.is b.data.toList),[aB A.v]):=by rw[bAJ,jL (peek h)];rw[HY,Qp b];unfold RA.is;cases A.pk.kind==1<;>cases A.pk.kind==3<;>rfl
def RA.take (A:RA) (x:bZ'):RA:=bif A.is x then A.next else A
theorem Cf (h:A.ok) (b:bZY):SS.CC 143 [bZX,.str b] [aB A.v]=some (.bool (A.is b.data.toList),[aB (A.take b.data.toList).v]):=by
 rw[b8C,eG (PH h b)];unfold RA.take;cases A.is b.data.toList with
 | true=>rw[jL (next h)]; rfl
 | false=>rfl
theorem RA.ok.take (h:A.ok) (x:bZ'):(A.take x).ok:=by
 unfold RA.take;cases A.is x with
 | true=>exact h.next
 | false=>exact h
def RA.fail (A:RA) (n:Int):RA:=if A.e=0/\n≠0 then { A with line:=A.pk.line,uq:=A.pk.uq,e:=n } else A
theorem Jt (h:A.ok) (n:Int):SS.CC 37 [bZX,bZV n] [aB A.v]=some (.tuple [],[aB (A.fail n).v]):=by
 rw[b2H];dsimp only[nN];unfold RA.fail;by_cases he:A.e=0
 .rw[DU he,aC];by_cases hn:n=0;simp_all
  .rw[aYE hn,aC,jL (peek h),aX ⟨he,hn⟩]
 grind [aI]
theorem a_S (hn:n≠0):(A.fail n).e≠0:=by grind [RA.fail]
theorem bNF (h:A.e≠0):A.ok:=fun e=>absurd e h
theorem RA.ok.fail (h:A.ok) (n:Int):(A.fail n).ok:=by grind [RA.fail,bNF]
theorem bMT (h:A.e≠0):A.next=A:=by grind [RA.next]
theorem a_R (h:A.e≠0) (n:Int):A.fail n=A:=by grind [RA.fail]
def RA.exp (A:RA) (x:bZ'):RA:=bif A.is x then A.next else A.fail 14
theorem Ym (h:A.ok) (b:bZY):SS.CC 32 [bZX,.str b] [aB A.v]=some (.tuple [],[aB (A.exp b.data.toList).v]):=by
 rw[b2D,eG (Cf h b)];unfold RA.take RA.exp;cases A.is b.data.toList with
 | true=>rfl
 | false=>rw[NH,jJ (Jt h 14)]; rfl
theorem RA.ok.exp (h:A.ok) (x:bZ'):(A.exp x).ok:=by
 unfold RA.exp;cases A.is x with
 | true=>exact h.next
 | false=>exact h.fail 14
def RA.name (A:RA):RA:=if A.pk.kind=1 then A.next else A.fail 14
def RA.aR3 (A:RA):bZ':=if A.pk.kind=1 then A.pk.text else []
theorem a1Y (h:A.ok):SS.CC 33 [bZX] [aB A.v]=some (.str (bs A.aR3),[aB A.name.v]):=by
 rw[b2E,jL (peek h)];unfold RA.name RA.aR3;by_cases hk:A.pk.kind=1
 .rw[show (A.pk.kind != 1)=false by simp[hk],aC,jL (next h),aX hk,aX hk]
 .rw[show (A.pk.kind != 1)=true by simp[hk],jJ (Jt h 14),aV hk,aV hk]; rfl
theorem RA.ok.name (h:A.ok):A.name.ok:=by
 unfold RA.name; split
 .exact h.next
 .exact h.fail 14
def RA.num (A:RA) (sg lo hi:Int):RA:=if A.pk.kind=2 then (if i64.wrap (sg*A.pk.value)<lo\/hi<i64.wrap (sg*A.pk.value) then A.fail 2 else A.next) else A.fail 14
def RA.LK (A:RA) (sg lo hi:Int):Int:=if A.pk.kind=2 then (if i64.wrap (sg*A.pk.value)<lo\/hi<i64.wrap (sg*A.pk.value) then 0 else i64.wrap (sg*A.pk.value)) else 0
theorem aA7 (h:A.ok) (sg lo hi:Int):U5 lo hi A.v sg=some (bZV (A.LK sg lo hi),[aB (A.num sg lo hi).v]):=by
 rw[bB0,jL (peek h)];unfold RA.num RA.LK;by_cases hk:A.pk.kind=2
 .rw[show (A.pk.kind != 2)=false by simp[hk],aC,aX hk,aX hk];by_cases h1:i64.wrap (sg*A.pk.value)<lo
  .rw[aN h1,aI,jJ (Jt h 2),aX (.inl h1),aX (.inl h1)]
  .rw[aW h1,aC];by_cases h2:hi<i64.wrap (sg*A.pk.value)
   .rw[aN h2,aI,jJ (Jt h 2),aX (.inr h2),aX (.inr h2)]
   .have:¬ (i64.wrap (sg*A.pk.value)<lo\/hi<i64.wrap (sg*A.pk.value)):=by omega
    rw[aW h2,aC,jL (next h),aV this,aV this]
 .rw[show (A.pk.kind != 2)=true by simp[hk],aI,jJ (Jt h 14),aV hk,aV hk]
theorem RA.ok.num (h:A.ok) (sg lo hi:Int):(A.num sg lo hi).ok:=by
 unfold RA.num; split
 .split
  .exact h.fail 2
  .exact h.next
 .exact h.fail 14
def RA.mi (A:RA):Bool:=A.pk.kind==3&&A.pk.text == [45]
def RA.int (A:RA) (lo hi:Int):RA:=bif A.mi then A.next.num (-1) lo hi else A.num 1 lo hi
def RA.KW (A:RA) (lo hi:Int):Int:=bif A.mi then A.next.LK (-1) lo hi else A.LK 1 lo hi
theorem a0T (h:A.ok) (lo hi:Int):SS.CC 226 [bZX,bZV lo,bZV hi] [aB A.v]=some (bZV (A.KW lo hi),[aB (A.int lo hi).v]):=by
 rw[bB4,jL (peek h)];rw[HY,Qp ⟨#[45]⟩];unfold RA.int RA.KW RA.mi;cases A.pk.kind==3 with
 | false=>rw[aC,Bool.false_and,NH]; exact aA7 h 1 lo hi
 | true =>
  rw[aI,N8];cases A.pk.text == [45] with
  | false=>rw[aC,NH]; exact aA7 h 1 lo hi
  | true=>rw[aI,jL (next h)]; exact aA7 h.next (-1) lo hi
theorem RA.ok.int (h:A.ok) (lo hi:Int):(A.int lo hi).ok:=by
 unfold RA.int;cases A.mi with
 | true=>exact h.next.num _ _ _
 | false=>exact h.num _ _ _
theorem a_6 (A:RA):SS.CC 38 [bZX] [aB A.v]=some (.tuple [bZV (if A.e=0 then 0 else A.line),bZV (if A.e=0 then 0 else A.uq),bZV A.e],[aB A.v]):=by rw[b0M];grind [aI,aC]
theorem aRO:∀ {l:bZ'} {n m:Nat},uS l n=some m->n<=65536->m<=65536
 | [],n,m,h,h2=>by grind [uS]
 | b::l,n,m,h,h2=>by
  rw[uS] at h;split at h
  .cases h
  .exact aRO h (by omega)
theorem bLD {b:UInt8} (h:isLet b.toNat=true):b::l∉jS:=by
 intro hm;have:∀ x∈jS,∀ b l,x=b::l->isLet b.toNat=false:=by
  intro x hx b l e;subst e;revert hx
  simp only[jS,kG,yw,yz];rintro (⟨rfl,_⟩ | ⟨rfl,_⟩ | ⟨rfl,_⟩ | ⟨rfl,_⟩ | ⟨rfl,_⟩ | ⟨rfl,_⟩ | ⟨rfl,_⟩ | ⟨rfl,_⟩ | ⟨rfl,_⟩ | ⟨rfl,_⟩ | ⟨rfl,_⟩ | ⟨rfl,_⟩ | ⟨rfl,_⟩ | ⟨rfl,_⟩ | ⟨rfl,_⟩ | ⟨rfl,_⟩ | ⟨rfl,_⟩ | ⟨rfl,_⟩ | ⟨rfl,_⟩ | ⟨rfl,_⟩ | ⟨rfl,_⟩ | ⟨rfl,_⟩ | ⟨rfl,_⟩ | ⟨rfl,_⟩ | ⟨rfl,_⟩ | ⟨rfl,_⟩)<;>decide
 rw[this _ hm b l rfl] at h;cases h
theorem bQR (h:(bg l).2=0) (line uq:Int):Rt ((bg l).1.at line uq):=by
 unfold bg at h ⊢;match l,h with
 | [],h=>exact absurd h (by decide)
 | b::r,h =>
  dsimp only at h ⊢;cases hd:iG b.toNat with
  | true =>
   rw[hd,aX rfl] at h;unfold CG at h ⊢;split at h
   .cases h
   .rename_i c1;rw[aV c1];split at h
    .cases h
    .rename_i c2;rw[aV c2];split at h
     .cases h
     .rename_i n hn;have h2:=aRO hn (by omega);exact .inr (.inl ⟨rfl,by show (0:Int)<=(n:Int); omega,by show (n:Int)<=65536; omega⟩)
  | false =>
   rw[hd] at h;simp only[Qo,if_false] at h ⊢;cases hw:isLet b.toNat with
   | true =>
    rw[hw] at h;simp only[BD] at h ⊢;unfold Ci at h ⊢;split at h
    .cases h
    .rename_i c;rw[aV c];refine .inl ⟨rfl,?_⟩;show gZ o8 (b::r)∉jS;grind [gZ,List.takeWhile_cons,o8,bLD]
   | false =>
    unfold Eb at h ⊢;cases hs:Ce (b::r) with
    | none=>simp_all
    | some x=>exact .inr (.inr ⟨rfl,(aV8 hs).1⟩)
theorem aVI:∀ {a b:List Tok},(∀ t,t∈a->Rt t)->bD b->bD (a ++ b)
 | [],_,_,h=>h
 | t::a,b,ha,h => .inr ⟨ha t (by simp),aVI (fun x hx=>ha x (by simp[hx])) h⟩
theorem scan_ok:∀ (f:Nat) (rest:bZ') (i line start:Nat) (acc ts:List Tok),(∀ t,t∈acc->Rt t)->wP f rest i line start acc = .ok ts->bD ts
 | 0,_,_,_,_,_,_,_,h=>by cases h
 | f+1,rest,i,line,start,acc,ts,ha,h=>by
  rw[wP] at h;split at h
  .injection h with h
   rw[<- h];exact aVI ha (.inl ⟨rfl,rfl⟩)
  .split at h
   .rename_i c;refine scan_ok f _ _ _ _ _ ts (fun t ht => ?_) h;rcases vX.1 ht with ht | ht
    .exact ha t ht
    .simp only[xx] at ht;rw[ht];exact bQR c _ _
   .cases h
theorem bS9 {ts:List Tok} (h:tu l = .ok ts):bD ts:=by grind [tu,scan_ok]
def a2A (l:bZ'):RA:=match tu l with | .ok ts=>⟨ts,0,0,0⟩ | .err a b e=>⟨[],a,b,e⟩
theorem bMS (l:bZ'):SS.CC 31 [.str (bs l)] []=some (bZX,[aB (a2A l).v]):=by
 have Hz:SS.CC 24 [.str (bs l)] []=some (EY (tu l),[]):=by rw[JU dQ]; rfl
 rw[b0L];unfold a2A;cases hs:tu l with
 | ok ts=>rw[hs] at Hz; exact (XR (show SS.CC 24 [.str (bs l)] []=some (.tuple [.sl false 5 (ts.map bK),bZV 0,bZV 0,bZV 0],[]) from Hz)).trans rfl
 | err a b e=>rw[hs] at Hz; exact (XR (show SS.CC 24 [.str (bs l)] []=some (.tuple [.sl false 5 [],bZV a,bZV b,bZV e],[]) from Hz)).trans rfl
section
end
section
theorem b1L (a0:Int):SS.CC 275 [bZV a0] []=aA (a0==2) (some (.str ⟨#[43]⟩,[])) (aA (a0==3) (some (.str ⟨#[45]⟩,[])) (aA (a0==4) (some (.str ⟨#[42]⟩,[])) (aA (a0==6) (some (.str ⟨#[61,61]⟩,[])) (aA (a0==7) (some (.str ⟨#[33,61]⟩,[])) (aA (a0==8) (some (.str ⟨#[60]⟩,[])) (aA (a0==9) (some (.str ⟨#[60,61]⟩,[])) (aA (a0==11) (some (.str ⟨#[38,38]⟩,[])) (some (.str ⟨#[124,124]⟩,[]))))))))):=cc
end
section
theorem b9J (a0:Sh.V S1) (a1:Sh.V S1):SS.CC 83 [A1 a0,A1 a1] []=aA (a0.1==a1.1) (aA (a0.2.1==a1.2.1) (aA (a0.2.2.1==a1.2.2.1) (G3 178 [.sl false 4 a0.2.2.2.1,.sl false 4 a1.2.2.2.1,.func (.func 83) [] []] fun b1=>some (.bool b1,[])) (some (.bool false,[]))) (some (.bool false,[]))) (some (.bool false,[])):=cc
theorem bAN (a0:bZZ) (a1:bZY):SS.CC 156 [bZW a0,.str a1] []=G1 240 [bZW a0,.str a1] fun n1=>some (.bool (decide (0<=n1)),[]):=cc
def b0N:KT:=SS.rK Tryz.f178 178 0 []
def b0O:KT:=SS.jK 178 32 0 (cS Tryz.f178 15) b0N
def b0P:KT:=ak 0 b0O
def Z4 (x1:bZZ) (x15:bZZ) (x17:Int):R:=SS.LL (SS.ae 178 32) 0 [1,2,15,16,17] 0 (cS Tryz.f178 75) b0P ⟨[(1,.sl false 4 x1),(2,.func (.func 83) [] []),(15,.sl false 4 x15),(16,bZV (x15.length:Int)),(17,bZV x17)],[]⟩
theorem aIC (x1:bZZ) (x15:bZZ) (x17:Int):Z4 x1 x15 x17=aA (decide (x17<(x15.length:Int))) (aj S1 x15 x17 fun u2=>aj S1 x1 x17 fun u7=>G3 83 [A1 u2,A1 u7] fun b11=>aA (!b11) (some (.bool false,[])) (Z4 x1 x15 (i64.wrap (x17+1)))) (some (.bool true,[])):=ll
theorem b0Q (a0:bZZ) (a1:bZZ):SS.CC 178 [.sl false 4 a0,.sl false 4 a1,.func (.func 83) [] []] []=aA ((a0.length:Int) !=(a1.length:Int)) (some (.bool false,[])) (Z4 a1 a0 0):=cc
def b0R:KT:=SS.rK Tryz.f240 240 0 []
def b0S:KT:=SS.jK 240 19 0 (cS Tryz.f240 7) b0R
def b0T:KT:=ak 0 b0S
def Z5 (x0:bZZ) (x1:bZY) (x8:Int):R:=SS.LL (SS.ae 240 19) 0 [0,1,7,8] 0 (cS Tryz.f240 37) b0T ⟨[(0,bZW x0),(1,.str x1),(7,bZV (x0.length:Int)),(8,bZV x8)],[]⟩
theorem aID (x0:bZZ) (x1:bZY) (x8:Int):Z5 x0 x1 x8=aA (decide (x8<(x0.length:Int))) (bz x0 x8 fun e1=>vS e1 fun s2=>aA (x1.toList==s2.toList) (some (bZV x8,[])) (Z5 x0 x1 (i64.wrap (x8+1)))) (some (bZV (-1),[])):=ll
theorem b0U (a0:bZZ) (a1:bZY):SS.CC 240 [bZW a0,.str a1] []=Z5 a0 a1 0:=cc
theorem b1J:SS.CC 133 [] []=some (A1 (6,0,0,[A1 (0,0,0,[],()),A1 (0,0,0,[],())],()),[]):=cc
theorem b1K:SS.CC 187 [] []=some (A1 (7,0,0,[A1 (0,0,0,[],()),A1 (0,0,0,[],())],()),[]):=cc
end
inductive EX where
 | node (op val idx:Int) (args:List EX)
theorem EX.ind {P:EX->Prop} (h:∀ o x i l,(∀ e,e∈l->P e)->P (.node o x i l)):∀ e,P e :=fun e=>EX.rec (motive_1:=P) (motive_2:=fun l=>∀ e,e∈l->P e) (fun o x i l ih=>h o x i l ih) (by simp) (fun a l ha hl e he=>by grind) e
inductive EX.Len:EX->Prop
 | mk {o v i:Int} {l:List EX}:l.length<=70368744177664->(-9223372036854775808<=v/\v<=9223372036854775807)->(-9223372036854775808<=o/\o<=9223372036854775807)->(-9223372036854775808<=i/\i<=9223372036854775807)->(∀ e,e∈l->EX.Len e)->EX.Len (.node o v i l)
mutual
def ev:EX->Sh.V S1
 | .node o x i l=>(o,x,i,lw l,())
def lw:List EX->bZZ
 | [] => []
 | e::l=>A1 (ev e)::lw l
end
theorem a6A:∀ l:List EX,lw l=l.map fun e=>A1 (ev e)
 | []=>rfl
 | e::l=>by rw[lw,a6A l]; rfl
theorem jP (o x i:Int) (l:List EX):ev (.node o x i l)=(o,x,i,lw l,()):=by rw[ev]
abbrev kN (o:Int) (a:EX):EX := .node o 0 0 [a]
abbrev lS (o:Int) (a b:EX):EX := .node o 0 0 [a,b]
theorem ev1 (o:Int) (a:EX):ev (kN o a)=(o,0,0,[A1 (ev a)],()):=by rw[ev]; rfl
theorem Ye (o:Int) (a b:EX):ev (lS o a b)=(o,0,0,[A1 (ev a),A1 (ev b)],()):=by rw[ev]; rfl
theorem ev3 (o:Int) (a b c:EX):ev (.node o 0 0 [a,b,c])=(o,0,0,[A1 (ev a),A1 (ev b),A1 (ev c)],()):=by rw[ev]; rfl
def zE:EX := .node 0 0 0 []
def nE (n:Int):EX := .node 0 n 0 []
def vE (n:Int):EX := .node 1 0 n []
def tE:EX := .node 6 0 0 [zE,zE]
def fE:EX := .node 7 0 0 [zE,zE]
theorem Jo (n:Int):ev (nE n)=(0,n,0,[],()):=rfl
theorem a_J (n:Int):ev (vE n)=(1,0,n,[],()):=rfl
theorem c116:SS.CC 133 [] []=some (A1 (ev tE),[]):=b1J
theorem c117:SS.CC 187 [] []=some (A1 (ev fE),[]):=b1K
def rq (l:List bZY):bZZ:=l.map .str
def qU (s:bZY):List bZY->Nat->Int
 | [],_ => -1
 | x::l,k=>if s=x then (k:Int) else qU s l (k+1)
theorem aYF (s x:bZY):(s.toList==x.toList)=decide (s=x):=by
 rw[Qp,Qp];by_cases h:s=x
 .simp[h]
 .have:s.data≠x.data:=fun e=>h (ByteArray.ext e)
  rw[aW h];simp_all
theorem aNO (all:List bZY) (hn:all.length<1000000000000) (s:bZY):∀ (l:List bZY) (k:Nat),all.drop k=l->k<=all.length->Z5 (rq all) s (k:Int)=some (bZV (qU s l k),[])
 | [],k,h,hk=>by have:all.length<=k:=NC.1 h;rw[aID,aW (by grind [rq]),aC]; rfl
 | x::l,k,h,hk=>by
  have hlt:k<all.length:=by
   rcases zy k all.length with h' | h'
   .exact h'
   .rw[JI h'] at h; cases h
  have hg:all[k]? = some x:=by have:=congrArg (fun l=>l[0]?) h;simpa using this
  rw[aID,aN (by unfold rq; rw[bF]; omega),aI,nS (e := .str x) (by omega) (by unfold rq; rw[pG,lL,hg]; rfl),jT,aYF];rw[qU];by_cases e:s=x
  .rw[aN e,aI,aX e]
  .rw[aW e,aC,aV e,wrap64 (by omega) (by omega),show ((k:Int)+1)=((k+1:Nat):Int) by omega];exact aNO all hn s l (k+1) (by rw[<- Qr,h]; rfl) (by omega)
theorem aNQ (l:List bZY) (hn:l.length<1000000000000) (s:bZY):SS.CC 240 [bZW (rq l),.str s] []=some (bZV (qU s l 0),[]):=by rw[b0U]; exact aNO l hn s l 0 rfl (Ee _)
theorem hasc (l:List bZY) (hn:l.length<1000000000000) (s:bZY):SS.CC 156 [bZW (rq l),.str s] []=some (.bool (decide (0<=qU s l 0)),[]):=by rw[bAN,cZ (aNQ l hn s)]
def kW (x:bZ'):Int×Int×Bool :=
 if x = [124,124] then (1,12,false) else if x = [38,38] then (2,11,false) else if x = [61,61] then (3,6,false) else if x = [33,61] then (3,7,false)
 else if x = [60] then (3,8,false) else if x = [60,61] then (3,9,false) else if x = [62] then (3,8,true) else if x = [62,61] then (3,9,true)
 else if x = [43] then (4,2,false) else if x = [45] then (4,3,false) else if x = [42] then (5,4,false) else (0,0,false)
theorem aAV (h:A.ok):Rt A.pk\/A.pk.kind=4:=by
 by_cases he:A.e=0
 .obtain ⟨t,tl,ht⟩:=h.ne he;have h1:=h he;have hp:A.pk=t:=by grind [RA.pk]
  rw[hp]; rw[ht] at h1;rcases h1 with ⟨h1,_⟩ | h1
  omega;simp_all
 .exact .inr (pk4 he)
theorem aSI (h:A.ok) (h3:A.pk.kind=3):A.pk.text∈jS:=by
 rcases aAV h with (⟨h1,_⟩ | ⟨h1,_⟩ | ⟨_,h1⟩) | h1
 .omega
 .omega
 .exact h1
 .omega
theorem PG (h:A.ok) {x:bZ'} (hx:x∈jS):A.is x=(A.pk.kind==3&&A.pk.text==x):=by
 unfold RA.is;by_cases h1:A.pk.kind=1
 .have ht:A.pk.text≠x:=by
   rcases aAV h with (⟨_,h2⟩ | ⟨h2,_⟩ | ⟨h2,_⟩) | h2
   grind
   all_goals omega
  rw[show (A.pk.text==x)=false by grind,JF,JF]
 grind
def RA.Fa (A:RA) (lv:Int):Bool:=A.pk.kind==3&&(kW A.pk.text).1==lv
theorem opm:∀ x,x∈jS->∀ (lv:Int) (K:Int->Int->Bool->R) (N:R),IP none [.str ⟨#[33,61]⟩,qL (3,7,false,()),.str ⟨#[38,38]⟩,qL (2,11,false,()),.str ⟨#[42]⟩,qL (5,4,false,()),.str ⟨#[43]⟩,qL (4,2,false,()),.str ⟨#[45]⟩,qL (4,3,false,()),.str ⟨#[60]⟩,qL (3,8,false,()),.str ⟨#[60,61]⟩,qL (3,9,false,()),.str ⟨#[61,61]⟩,qL (3,6,false,()),.str ⟨#[62]⟩,qL (3,8,true,()),.str ⟨#[62,61]⟩,qL (3,9,true,()),.str ⟨#[124,124]⟩,qL (1,12,false,())] (.str (bs x)) (fun e=>Dw Xj e fun u=>K u.1 u.2.1 u.2.2.1) N=if (kW x).1=0 then N else K (kW x).1 (kW x).2.1 (kW x).2.2:=by
 intro x hx lv K N;revert hx
 simp only[jS,kG,yw,yz];rintro (rfl | rfl | rfl | rfl | rfl | rfl | rfl | rfl | rfl | rfl | rfl | rfl | rfl | rfl | rfl | rfl | rfl | rfl | rfl | rfl | rfl | rfl | rfl | rfl | rfl | rfl)<;>kernel_rfl
end Go.Proofs.YtilpiopkekkbiaaGreatDoor.W
namespace Go.Proofs.YtilpiopkekkbiaaGreatDoor
open Go.RowKit Go.ChangeShapes Go.WideShapes Go.ChangeAt
set_option maxRecDepth 100000
variable {ps:List PV}
theorem bNM:ownKnob Tryz.prog.godebug=none:=by kernel_rfl
theorem aPU:laidOutB Tryz.prog=true:=by kernel_rfl
theorem bMJ:Tryz.prog.follows .mixedOrders=true:=by kernel_rfl
theorem a_H {g:FuncId} {args:List PV} {r:PV} (h:W.SS.CC g args []=lh r):Ev Tryz.prog g args [] r [] :=NL bMJ W.dQ aWA g args [] r [] h
theorem bR0 {M:Mem} {B:aP}:ay M B [] []:=dW.2 rfl
theorem aT1 {M:Mem} {B:aP} {p:PV} {u:Value} {us:List Value} (h:Rep M B p u) (h2:ay M B ps us):ay M B (p::ps) (u::us):=cO.2 ⟨u,us,rfl,h,h2⟩
theorem agU:Ep Tryz.prog 5=false:=by kernel_rfl
theorem aUB {fuel:Nat} (h:jG Tryz.prog fuel 5 ps):∃ c:UInt8,ps = [.int .u8 (c.toNat:Int)]:=by
 cases fuel with
 | zero=>exact h.elim
 | succ fuel =>
  simp only[jG,Tryz.underlying5] at h;obtain ⟨n,rfl,hn⟩:=h;simp[Lit.wf,IntKind.min,IntKind.max,IntKind.signed,IntKind.bits] at hn;refine ⟨UInt8.ofNat n.toNat,?_⟩;have:((UInt8.ofNat n.toNat).toNat:Int)=n:=by rw[UInt8.toNat_ofNat'];omega
  rw[this]
theorem aQ5 {α:Type} {f:α->PV} {Q:α->Prop}:∀ {es:List PV},(∀ p,p∈es->∃ x,p=f x/\Q x)->∃ l:List α,es=l.map f/\∀ x,x∈l->Q x
 | [],_=>⟨[],rfl,by simp⟩
 | p::es,h=>by
  obtain ⟨x,hx,hq⟩:=h p (by simp);obtain ⟨l,hl,hql⟩:=aQ5 (es:=es) fun q hq=>h q (by simp[hq])
  exact ⟨x::l,by rw[hx,hl]; rfl,fun y hy=>by
   rcases kG.1 hy with rfl | hy
   .exact hq
   .exact hql y hy⟩
theorem bSN {fuel:Nat} (h:jG Tryz.prog fuel 5 ps):∃ c:UInt8,zG Tryz.prog 5 ps = .int .u8 (c.toNat:Int)/\True:=by obtain ⟨c,rfl⟩:=aUB h;exact ⟨c,by simp[zG,agU],trivial⟩
def aQA:DataW Unit->List Value
 | .lit (.int k n) => [Value.int k n]
 | _ => []
def bLK:DataW Unit->List Value
 | .agg l=>l.flatMap aQA
 | d=>aQA d
def bLJ:DataW Unit->Array Value
 | .agg l=>(l.flatMap bLK).toArray
 | _ => #[]
def aA' (g:Nat) (d:DataW Unit) (h:Array Obj):Array Obj:=h.modify g fun
 | .cells _ t frozen => .cells (bLJ d) t frozen
 | o=>o
noncomputable def laidWorld6 (os:Os):World :={ World.holding Tryz.prog os ⟨#[],#[],[]⟩ with heap:=aA' 2 Rows.laid_math_bits_deBruijn32tab (aA' 3 Rows.laid_math_bits_deBruijn64tab (aA' 1 Rows.laid_internal_strconv_uint64pow10 (World.holding Tryz.prog os ⟨#[],#[],[]⟩).heap)) }
theorem bQ0 {H:Type}:(Rows.laid_internal_strconv_uint64pow10:DataW H)=Lib.tabData .u64 Lib.pow10Tab:=by kernel_rfl
shelf_lay LaysM.n144 Nm 144 at Tryz as Tryz.laysM144
theorem bIF {W:World} {rest:List (String×DataW Unit)} (h1:laidMet Tryz.prog (("internal/strconv.uint64pow10",Rows.laid_internal_strconv_uint64pow10)::rest) W) (hs:W.ShapedOpen Tryz.prog):GW W:=by
 rw[bQ0] at h1;have ht:=Lib.tabIs_of_head (g:=1) (t:=326) (e:=304) (n:=20) (by kernel_rfl) (by kernel_rfl) (by kernel_rfl) (by kernel_rfl) (by kernel_rfl) (by kernel_rfl) h1;obtain ⟨m,hm⟩:=Tryz.laysM144.s1_3 W hs;have hm:W.cell? ⟨0,0,none⟩=some (.int .i64 m):=by rw[show 0=Tryz.laysM144_ren.g 1 by kernel_rfl]; exact hm
 refine ⟨m,fun b o v hg => ?_⟩;unfold BH at hg;have e:aCZ m = [(0,[Value.int .i64 m]),(1,Lib.pow10Tab.map (Value.int .u64))]:=rfl;rw[e] at hg;by_cases hb:b=0
 .subst hb;have hg:([Value.int .i64 m]:List Value)[o]? = some v:=hg;match o,hg with
  | 0,hg =>cases hg;exact aDR.2 ⟨hm,rfl⟩
  | o+1,hg=>cases hg
 .by_cases hc:b=1
  .subst hc;have hg:(Lib.pow10Tab.map (Value.int .u64))[o]? = some v:=hg;rw[lL] at hg;obtain ⟨z,hz,rfl⟩:=JQ.1 hg;have ho:o<Lib.pow10Tab.length:=(iO.1 hz).1;have hc:=ht.cell (g:=1) (by kernel_rfl) o ho;refine aDR.2 ⟨?_,rfl⟩;rw[hc,aD',hz]; rfl
  .have h1:(b==0)=false:=by simpa using hb
   have h2:(b==1)=false:=by simpa using hc
   simp[List.lookup,h1,h2] at hg
theorem bJS {P:Program} {f:FuncId} {fn:Func} {s:ChangeSpec} {c:OpenClaim}
 (h1:(c.wf (OpenSpec.ofChange s)&&laidOutB P&&mapsRowed P&&fn.params.all (P.readableRec ·)&&namedTie P c.named s.vars&&(c.stops == [])&&(P.stops == [])&&(c.knobs == [])&&(P.stopKnobs == []))=true)
 (h2:(c.inPlace==P.inPlace f)=true) (h3:(c.unfollowed==P.unfollowed f)=true) (h4:(c.recurses==P.recurses f)=true) (h5:(c.named==P.varsNamed f)=true)
 (h6:((c.maps==(fn.params.toList ++ s.plain.varTypes P).any (P.mapsRec ·))&&(c.ifaces==(fn.params.toList ++ s.plain.varTypes P).any (P.ifacesRec ·))&&(c.mapsOut==P.mapsAmong fn.resultTypes.toList) &&
  (c.loops==(fn.params.toList ++ s.plain.varTypes P).any (P.loopsFrom ·))&&(c.wideKeys==(fn.params.toList ++ s.plain.varTypes P ++ fn.resultTypes.toList).any (P.wideKeysFrom ·)) &&
  s.vars.all (P.varReadable ·)&&fn.resultTypes.all (fun t=>P.readableRec t&&decide (t<P.types.size))&&(c.ifacesOut==fn.resultTypes.toList.any (P.ifacesRec ·))&&(c.loopsOut==fn.resultTypes.toList.any (P.loopsFrom ·))&&(c.plainKeys==P.plainKeys)&&c.shortTexts.isNone&&P.stopsHeard&&P.mayEnter&&(c.lifted==P.liftsFinal)&&(P.make==some c.make)&&(c.kinds==(if c.domain.isEmpty then [] else fn.params.toList.map fun t=>match P.underlying t with | some (.int k)=>some k | _=>none))&&(c.pinned==c.pinnedBy) &&
  (c.veiled==(fn.params.toList ++ s.plain.varTypes P ++ fn.resultTypes.toList).any (P.veiledRec ·))&&c.veiledFits P fn.params.toList (fn.params.toList ++ s.plain.varTypes P ++ fn.resultTypes.toList))=true):joinedFacts P f fn s c=true:=by
 unfold joinedFacts;simp only[bI,and_assoc] at h1 h6 ⊢;exact ⟨h1.1,h1.2.1,h1.2.2.1,h1.2.2.2.1,h1.2.2.2.2.1,h1.2.2.2.2.2.1,h1.2.2.2.2.2.2.1,h1.2.2.2.2.2.2.2.1,h1.2.2.2.2.2.2.2.2,h2,h3,h4,h5,h6⟩
end Go.Proofs.YtilpiopkekkbiaaGreatDoor
namespace Go.Proofs.YtilpiopkekkbiaaGreatDoor
open Go.RowKit
variable {c:Bool} {b x:UInt8} {r:List UInt8}
def Iz (c:Bool) (f:Nat) (rest:List UInt8) (i line start:Nat) (acc:List Tok):Gx :=
 let g:=jD c rest
 let p:=vC (rest.take g) i (line,start)
 match rest.drop g with
 | [] => .ok (acc ++ [(⟨4,[],0,(p.1:Nat),((i+g-p.2+1:Nat):Int)⟩:Tok)])
 | b::r =>
  if (bg (b::r)).2=0 then wP f ((b::r).drop (bg (b::r)).1.text.length) (i+g+(bg (b::r)).1.text.length) p.1 p.2 (acc ++ [(bg (b::r)).1.at (p.1:Nat) ((i+g-p.2+1:Nat):Int)])
  else .err (p.1:Nat) ((i+g-p.2+1:Nat):Int) (bg (b::r)).2
theorem G_step {c':Bool} (h:jD c (b::r)=1+jD c' r) (f i line start:Nat) (acc:List Tok):
 Iz c f (b::r) i line start acc=Iz c' f r (i+1) (if b=10 then line+1 else line) (if b=10 then i+1 else start) acc:=by
 grind [Iz,vC]
theorem aWG (c:Bool) (f i line start:Nat) (acc:List Tok):Iz c f [] i line start acc = .ok (acc ++ [(⟨4,[],0,(line:Nat),((i-start+1:Nat):Int)⟩:Tok)]):=by rfl
theorem aCP:∀ (f f':Nat) (rest:List UInt8) (i line start:Nat) (acc:List Tok),rest.length<f->rest.length<f'->wP f rest i line start acc=wP f' rest i line start acc
 | 0,_,_,_,_,_,_,h,_=>by omega
 | f+1,0,_,_,_,_,_,_,h=>by omega
 | f+1,f'+1,rest,i,line,start,acc,h1,h2=>by
  unfold wP;simp only;split
  .rfl
  .rename_i b r hcons;split
   .rename_i h0;obtain ⟨k4,k5⟩:=Vb h0;have hl:=congrArg List.length hcons;rw[xw] at hl;exact aCP f f' _ _ _ _ _ (by rw[xw]; omega) (by rw[xw]; omega)
   .rfl
def xg (c:Bool) (rest:List UInt8) (i line start:Nat) (acc:List Tok):Gx:=Iz c rest.length rest i line start acc
theorem G_C {f:Nat} {rest:List UInt8} (h:rest.length<=f) (i line start:Nat) (acc:List Tok):Iz c f rest i line start acc=xg c rest i line start acc:=by grind [xg,Iz,Vb,aCP]
theorem bSA (l:List UInt8) (i line start:Nat) (acc:List Tok):wP (l.length+1) l i line start acc=xg false l i line start acc:=rfl
theorem aEB (c:Bool) (i line start:Nat) (acc:List Tok):xg c [] i line start acc = .ok (acc ++ [(⟨4,[],0,(line:Nat),((i-start+1:Nat):Int)⟩:Tok)]):=aWG c 0 i line start acc
theorem C_step {c':Bool} (h:jD c (b::r)=1+jD c' r) (i line start:Nat) (acc:List Tok):
 xg c (b::r) i line start acc=xg c' r (i+1) (if b=10 then line+1 else line) (if b=10 then i+1 else start) acc:=by
 rw[xg,G_step h,G_C (by simp)]
theorem a4L (h:jD false (b::r)=0) (i line start:Nat) (acc:List Tok):
 xg false (b::r) i line start acc=if (bg (b::r)).2=0 then xg false ((b::r).drop (bg (b::r)).1.text.length) (i+(bg (b::r)).1.text.length) line start (acc ++ [(bg (b::r)).1.at (line:Nat) ((i-start+1:Nat):Int)])
  else .err (line:Nat) ((i-start+1:Nat):Int) (bg (b::r)).2:=by
 rw[xg,Iz,h];simp only[List.take_zero,List.drop_zero,vC,NE];split
 .rename_i h0;obtain ⟨k4,k5⟩:=Vb h0;rw[aCP _ (((b::r).drop (bg (b::r)).1.text.length).length+1) _ _ _ _ _ (by rw[xw]; omega) (by omega)];rfl
 .rfl
theorem bSP (c:Bool) (b:UInt8) (r:List UInt8):(∃ c',jD c (b::r)=1+jD c' r/\((c=true/\b=10/\c'=false)\/(c=true/\b≠10/\c'=true)\/(c=false/\yI b.toNat=true/\c'=false)\/(c=false/\yI b.toNat=false /\ [47,47].isPrefixOf (b::r)=true/\c'=true))) \/
 (c=false/\yI b.toNat=false /\ [47,47].isPrefixOf (b::r)=false/\jD c (b::r)=0):=by
 cases c with
 | true =>
  left;by_cases h:b=10
  .exact ⟨false,by rw[jD,aX h],.inl ⟨rfl,h,rfl⟩⟩
  .exact ⟨true,by rw[jD,aV h],.inr (.inl ⟨rfl,h,rfl⟩)⟩
 | false =>grind [jD]
theorem aCD {p:Nat->Bool} (hx:p x.toNat=false) (u:List UInt8):∀ (l:List UInt8),gZ p (l ++ x::u)=gZ p l
 | []=>by unfold gZ; rw[XF,JK,hx]; rfl
 | b::l=>by have:=aCD hx u l;grind [gZ,List.takeWhile_cons]
theorem aAW (u:List UInt8):∀ (y l:List UInt8),(∀ c,c∈y->c≠x)->y.isPrefixOf (l ++ x::u)=y.isPrefixOf l
 | [],l,_=>by simp
 | a::y,[],h=>by have:=h a (by simp);grind
 | a::y,b::l,h=>by
  have:=aAW u y l fun c hc=>h c (by simp[hc])
  grind
theorem find_congr {α:Type} {p q:α->Bool}:∀ {l:List α},(∀ x,x∈l->p x=q x)->l.find? p=l.find? q
 | [],_=>rfl
 | a::l,h=>by
  have:=find_congr (l:=l) fun x hx=>h x (by simp[hx])
  rw[List.find?_cons,List.find?_cons,h a (by simp),this]
theorem bTI:∀ x∈jS,∀ c∈x,c≠32:=by decide
theorem bTG (hx:∀ y∈jS,∀ c∈y,c≠x) (u l:List UInt8):Ce (l ++ x::u)=Ce l:=by grind [Ce,find_congr,aAW]
theorem bQQ (h1:o8 x.toNat=false) (hx:∀ y∈jS,∀ c∈y,c≠x) (u:List UInt8) (b:UInt8) (r:List UInt8):bg ((b::r) ++ x::u)=bg (b::r):=by grind [o8,aCD,bTG,bg,CG,Ci,Eb]
end Go.Proofs.YtilpiopkekkbiaaGreatDoor
namespace Go.Proofs.YtilpiopkekkbiaaGreatDoor.W
open Go.RowKit
set_option maxRecDepth 1000000
variable {k n i:Nat} {g:FuncId}
def RA.N (A:RA):Nat:=if A.e=0 then A.toks.length else 0
theorem aX4 {A:RA} (h:A.e≠0):A.N=0:=by grind [RA.N]
structure Le (A A':RA):Prop where
 ok:A'.ok
 bad:A.e≠0->A'=A
 le:A'.N<=A.N
theorem Le.refl {A:RA} (h:A.ok):Le A A:=⟨h,fun _=>rfl,fK _⟩
theorem Le.trans {A B C:RA} (h:Le A B) (k:Le B C):Le A C:=⟨k.ok,fun e=>by have h1:=h.bad e;rw[h1] at k;exact k.bad e,ng k.le h.le⟩
theorem bK' {A:RA} (hk:A.pk.kind≠4):A.e=0:=by grind [pk4]
theorem bMU {A:RA} (h:A.ok) (hk:A.pk.kind≠4):A.next.e=0/\A.next.N<A.N:=by have he:=bK' hk;obtain ⟨t,tl,ht⟩:=h.ne he;grind [RA.next,RA.N]
theorem Le.next {A:RA} (h:A.ok):Le A A.next:=⟨h.next,fun e=>bMT e,by grind [RA.next,bMU]⟩
theorem Le.fail {A:RA} (h:A.ok) {n:Int} (hn:n≠0):Le A (A.fail n):=⟨h.fail n,fun e=>a_R e n,by rw[aX4 (a_S hn)]; omega⟩
theorem Le.exp {A:RA} (h:A.ok) (x:bZ'):Le A (A.exp x):=by
 unfold RA.exp;cases A.is x with
 | true=>exact .next h
 | false=>exact .fail h (by decide)
theorem Le.take {A:RA} (h:A.ok) (x:bZ'):Le A (A.take x):=by
 unfold RA.take;cases A.is x with
 | true=>exact .next h
 | false=>exact .refl h
theorem Le.name {A:RA} (h:A.ok):Le A A.name:=by
 unfold RA.name;split
 .exact .next h
 .exact .fail h (by decide)
theorem Vz {A:RA} {x:bZ'} (h:A.is x=true):A.take x=A.next:=by grind [RA.take]
theorem Lu {A:RA} {x:bZ'} (h:A.is x=false):A.take x=A:=by grind [RA.take]
theorem bJF {A:RA} (h:A.ok) {x:bZ'} (hx:x∈jS) (hi:A.is x=true):A.pk.kind=3/\A.pk.text=x:=by rw[PG h hx,bI] at hi;simp_all
theorem aOA {A:RA} (h:A.ok) {x:bZ'} (hx:x∉jS):A.is x=(A.pk.kind==1&&A.pk.text==x):=by grind [RA.is,aSI]
def RA.kp (A:RA) (l:List bZY):RA:=if A.pk.kind=1/\qU (bs A.pk.text) l 0<0 then A.fail 9 else A
def RA.kn (A:RA) (l:List bZY):RA:=(A.kp l).name
def RA.PP (A:RA) (l:List bZY):Int:=if (0:Int)>qU (bs A.pk.text) l 0 then 0 else qU (bs A.pk.text) l 0
theorem bL0 {A:RA} {l:List bZY} (hk:A.pk.kind=1) (hi:qU (bs A.pk.text) l 0<0):A.kp l=A.fail 9:=by grind [RA.kp]
theorem a95 {A:RA} {l:List bZY} (c:¬ (A.pk.kind=1/\qU (bs A.pk.text) l 0<0)):A.kp l=A:=by grind [RA.kp]
theorem RA.ok.kp {A:RA} (h:A.ok) (l:List bZY):(A.kp l).ok:=by
 unfold RA.kp; split
 .exact h.fail 9
 .exact h
theorem Le.kn {A:RA} (h:A.ok) (l:List bZY):Le A (A.kn l):=by
 unfold RA.kn;refine Le.trans ?_ (Le.name (h.kp l));unfold RA.kp; split
 .exact .fail h (by decide)
 .exact .refl h
theorem I4 {A:RA} (h:A.ok):SS.CC 193 [bZX,.str ⟨#[33]⟩] [aB A.v]=some (.bool (A.is [33]),[aB A.v]):=PH h _
theorem KX {A:RA} (h:A.ok):SS.CC 193 [bZX,.str ⟨#[45]⟩] [aB A.v]=some (.bool (A.is [45]),[aB A.v]):=PH h _
theorem Ua {A:RA} (h:A.ok):SS.CC 193 [bZX,.str ⟨#[40]⟩] [aB A.v]=some (.bool (A.is [40]),[aB A.v]):=PH h _
theorem aVC {A:RA} (h:A.ok):SS.CC 143 [bZX,.str ⟨#[63]⟩] [aB A.v]=some (.bool (A.is [63]),[aB (A.take [63]).v]):=Cf h _
abbrev nX:bZ' := [116,114,117,101]
abbrev pV:bZ' := [102,97,108,115,101]
theorem tkT {A:RA} (h:A.ok):SS.CC 143 [bZX,.str ⟨#[116,114,117,101]⟩] [aB A.v]=some (.bool (A.is nX),[aB (A.take nX).v]):=Cf h _
theorem tkF {A:RA} (h:A.ok):SS.CC 143 [bZX,.str ⟨#[102,97,108,115,101]⟩] [aB A.v]=some (.bool (A.is pV),[aB (A.take pV).v]):=Cf h _
theorem a_L {A:RA} (h:A.ok):SS.CC 32 [bZX,.str ⟨#[58]⟩] [aB A.v]=some (.tuple [],[aB (A.exp [58]).v]):=Ym h _
theorem a_K {A:RA} (h:A.ok):SS.CC 32 [bZX,.str ⟨#[41]⟩] [aB A.v]=some (.tuple [],[aB (A.exp [41]).v]):=Ym h _
abbrev MF:=bZY×bZZ×bZZ×bZZ×bZZ×bZZ×bZZ
section
variable {F:MF} {v:bZZ} {d:Int} {A B:RA} {x:EX}
theorem a8O (hk:A.pk.kind=2) (t:bZ'):A.is t=false:=by grind [RA.is]
theorem bN8 (h:A.ok) (hk:A.pk.kind=2):0<=A.pk.value/\A.pk.value<=65536:=by
 rcases aAV h with (⟨h1,_⟩ | ⟨_,h1⟩ | ⟨h1,_⟩) | h1
 .omega
 .exact h1
 .omega
 .omega
theorem a0S (h:A.ok) (hk:A.pk.kind=2):A.KW 0 65536=A.pk.value/\A.int 0 65536=A.next:=by obtain ⟨h1,h2⟩:=bN8 h hk;grind [RA.mi,wrap64,RA.KW,RA.int,RA.LK,RA.num]
end
theorem tlT:(⟨#[116,114,117,101]⟩:bZY).toList=nX:=Qp _
theorem tlF:(⟨#[102,97,108,115,101]⟩:bZY).toList=pV:=Qp _
def qA (o:Int):bZ':=if o=2 then [43] else if o=3 then [45] else if o=4 then [42] else if o=6 then [61,61] else if o=7 then [33,61] else if o=8 then [60] else if o=9 then [60,61] else if o=11 then [38,38] else [124,124]
theorem Vm (o:Int):SS.CC 275 [bZV o] []=some (.str (bs (qA o)),[]):=by
 rw[b1L];unfold qA;simp only[O5,uH];repeat' split
 all_goals rfl
theorem aU5 (o:Int):qA o∈jS:=by
 unfold qA;repeat' split
 all_goals decide
section
variable {F:MF} {l:List bZY} {d:Int}
theorem aZP (a b:Sh.V S1):lT 4 ([bZV a.1,bZV a.2.1,bZV a.2.2.1,.sl false 4 a.2.2.2.1,bZV b.1,bZV b.2.1,bZV b.2.2.1,.sl false 4 b.2.2.2.1]:bZZ) 2 = [A1 a,A1 b]:=rfl
theorem aZQ (a b:Sh.V S1):(decide (2*4<=([bZV a.1,bZV a.2.1,bZV a.2.2.1,.sl false 4 a.2.2.2.1,bZV b.1,bZV b.2.1,bZV b.2.2.1,.sl false 4 b.2.2.2.1]:bZZ).length)&&decide (0<4)&&([bZV a.1,bZV a.2.1,bZV a.2.2.1,.sl false 4 a.2.2.2.1,bZV b.1,bZV b.2.1,bZV b.2.2.1,.sl false 4 b.2.2.2.1]:bZZ).all fun p=>p.one&&p.flat)=true:=rfl
end
section
def bAO:KT:=SS.rK Tryz.f51 51 0 []
def bAP:KT:=SS.jK 51 55 0 (cS Tryz.f51 7) bAO
def bAQ:KT:=ak 0 bAP
def F9 (x0:bZY) (x8:Int):R:=SS.LL (SS.ae 51 55) 0 [0,7,8] 0 (cS Tryz.f51 37) bAQ ⟨[(0,.str x0),(7,bZV (x0.size:Int)),(8,bZV x8)],[]⟩
theorem aKX (x0:bZY) (x8:Int):F9 x0 x8=aA (decide (x8<(x0.size:Int))) (vw x0 x8 fun c1=>(fun w=>aA (decide (97<=c1)) (aA (decide (c1<=122)) (F9 x0 (i64.wrap (x8+1))) (aA (decide (65<=c1)) (aA (decide (c1<=90)) (F9 x0 (i64.wrap (x8+1))) w) w)) (aA (decide (65<=c1)) (aA (decide (c1<=90)) (F9 x0 (i64.wrap (x8+1))) w) w)) (aA (!(c1==95)) (aA (x8==0) (some (.bool false,[])) (aA (decide (c1<48)) (some (.bool false,[])) (aA (decide (57<c1)) (some (.bool false,[])) (F9 x0 (i64.wrap (x8+1)))))) (F9 x0 (i64.wrap (x8+1))))) (aA (decide (0<(x0.size:Int))) (some (.bool (decide ((x0.size:Int)<=32)),[])) (some (.bool false,[]))):=ll
theorem bAR (a0:bZY):SS.CC 51 [.str a0] []=F9 a0 0:=cc
theorem a7G (a0:Sh.V S1) (a1:Int):SS.CC 111 [A1 a0,bZV a1] []=aA (decide (a1<0)) (some (.tuple [bZV 0,bZV 2],[])) (aA (decide (16<a1)) (some (.tuple [bZV 0,bZV 2],[])) (H19 183 [A1 a0,bZV a1,bZV 1,bZX] [kQ (0,())] fun n1 u2=>aA (n1 != 0) (some (.tuple [bZV 0,bZV n1],[])) (G1 184 [A1 a0] fun n5=>aA (n5==0) (some (.tuple [bZV 0,bZV 16],[])) (some (.tuple [bZV n5,bZV 0],[]))))):=cc
def bC9:KT:=SS.rK Tryz.f211 211 0 []
def bCA:KT:=SS.jK 211 157 0 (cS Tryz.f211 127) bC9
def bCB:KT:=ak 0 bCA
def Zu (x0:bZZ) (x4:Sh.V S1):R:=bH (SS.xX 211 157 0) (cS Tryz.f211 229215) bCB ⟨[(0,bZW x0),(4,.cst (A1 x4))],[]⟩
theorem bC8 (x0:bZZ) (x4:Sh.V S1):Zu x0 x4=aj S1 x4.2.2.2.1 0 fun u2=>G7 211 [bZW x0,A1 u2,bZV 6] fun l6=>chk (decide (1+l6.length<=aO)) (some (.sl true 1 (([.str ⟨#[45]⟩]:bZZ) ++ l6),[])):=by kernel_rfl
theorem Dq (a0:bZZ) (a1:Sh.V S1) (a2:Int):SS.CC 211 [bZW a0,A1 a1,bZV a2] []=G1 274 [A1 a1] fun n1=>aA (decide (n1<a2)) (G7 211 [bZW a0,A1 a1,bZV 0] fun l3=>chk (decide (1+l3.length<=aO)) (chk (decide ((([.str ⟨#[40]⟩]:bZZ) ++ l3).length+1<=aO)) (some (.sl true 1 ((([.str ⟨#[40]⟩]:bZZ) ++ l3) ++ ([.str ⟨#[41]⟩]:bZZ)),[])))) (qM 133 [] fun u5=>G3 83 [A1 a1,A1 u5] fun b10=>aA b10 (some (.sl true 1 [.str ⟨#[116,114,117,101]⟩],[])) (qM 187 [] fun u12=>G3 83 [A1 a1,A1 u12] fun b17=>aA b17 (some (.sl true 1 [.str ⟨#[102,97,108,115,101]⟩],[])) (G1 274 [A1 a1] fun n19=>aA (a1.1==0) (G7 126 [bZV a1.2.1] fun l21=>some (.sl true 1 l21,[])) (aA (a1.1==1) (bz a0 a1.2.2.1 fun e23=>vS e23 fun s24=>some (.sl true 1 [.str s24],[])) (aA (a1.1==10) (aj S1 a1.2.2.2.1 0 fun u26=>G7 211 [bZW a0,A1 u26,bZV 6] fun l30=>chk (decide (1+l30.length<=aO)) (some (.sl true 1 (([.str ⟨#[33]⟩]:bZZ) ++ l30),[]))) (aA (a1.1==5) (aj S1 a1.2.2.2.1 0 fun u33=>aA (u33.1==0) (aA (decide (0<=u33.2.1)) (G7 211 [bZW a0,A1 u33,bZV 0] fun l37=>chk (decide (2+l37.length<=aO)) (chk (decide ((([.str ⟨#[45]⟩,.str ⟨#[40]⟩]:bZZ) ++ l37).length+1<=aO)) (some (.sl true 1 ((([.str ⟨#[45]⟩,.str ⟨#[40]⟩]:bZZ) ++ l37) ++ ([.str ⟨#[41]⟩]:bZZ)),[])))) (Zu a0 a1)) (Zu a0 a1)) (aA (a1.1==13) (aj S1 a1.2.2.2.1 0 fun u40=>G7 211 [bZW a0,A1 u40,bZV 1] fun l44=>chk (decide (l44.length+1<=aO)) (aj S1 a1.2.2.2.1 1 fun MM=>G7 211 [bZW a0,A1 MM,bZV 0] fun l51=>chk (decide ((l44 ++ ([.str ⟨#[63]⟩]:bZZ)).length+l51.length<=aO)) (chk (decide (((l44 ++ ([.str ⟨#[63]⟩]:bZZ)) ++ l51).length+1<=aO)) (aj S1 a1.2.2.2.1 2 fun WZ=>G7 211 [bZW a0,A1 WZ,bZV 0] fun l58=>chk (decide ((((l44 ++ ([.str ⟨#[63]⟩]:bZZ)) ++ l51) ++ ([.str ⟨#[58]⟩]:bZZ)).length+l58.length<=aO)) (some (.sl true 1 ((((l44 ++ ([.str ⟨#[63]⟩]:bZZ)) ++ l51) ++ ([.str ⟨#[58]⟩]:bZZ)) ++ l58),[])))))) (aA (a1.1==6) (aj S1 a1.2.2.2.1 0 fun u61=>G7 211 [bZW a0,A1 u61,bZV 4] fun l65=>G2 275 [bZV a1.1] fun s67=>chk (decide (l65.length+1<=aO)) (aj S1 a1.2.2.2.1 1 fun u70=>G7 211 [bZW a0,A1 u70,bZV 4] fun l74=>chk (decide ((l65 ++ ([.str s67]:bZZ)).length+l74.length<=aO)) (some (.sl true 1 ((l65 ++ ([.str s67]:bZZ)) ++ l74),[])))) (aA (a1.1==7) (aj S1 a1.2.2.2.1 0 fun u77=>G7 211 [bZW a0,A1 u77,bZV 4] fun PS=>G2 275 [bZV a1.1] fun s83=>chk (decide (PS.length+1<=aO)) (aj S1 a1.2.2.2.1 1 fun u86=>G7 211 [bZW a0,A1 u86,bZV 4] fun Us=>chk (decide ((PS ++ ([.str s83]:bZZ)).length+Us.length<=aO)) (some (.sl true 1 ((PS ++ ([.str s83]:bZZ)) ++ Us),[])))) (aA (a1.1==8) (aj S1 a1.2.2.2.1 0 fun u93=>G7 211 [bZW a0,A1 u93,bZV 4] fun l97=>G2 275 [bZV a1.1] fun s99=>chk (decide (l97.length+1<=aO)) (aj S1 a1.2.2.2.1 1 fun ML=>G7 211 [bZW a0,A1 ML,bZV 4] fun aP1=>chk (decide ((l97 ++ ([.str s99]:bZZ)).length+aP1.length<=aO)) (some (.sl true 1 ((l97 ++ ([.str s99]:bZZ)) ++ aP1),[])))) (aA (a1.1==9) (aj S1 a1.2.2.2.1 0 fun bUA=>G7 211 [bZW a0,A1 bUA,bZV 4] fun Kv=>G2 275 [bZV a1.1] fun aTN=>chk (decide (Kv.length+1<=aO)) (aj S1 a1.2.2.2.1 1 fun aD8=>G7 211 [bZW a0,A1 aD8,bZV 4] fun aP4=>chk (decide ((Kv ++ ([.str aTN]:bZZ)).length+aP4.length<=aO)) (some (.sl true 1 ((Kv ++ ([.str aTN]:bZZ)) ++ aP4),[])))) (aj S1 a1.2.2.2.1 0 fun aD9=>G7 211 [bZW a0,A1 aD9,bZV n19] fun IA=>G2 275 [bZV a1.1] fun aTO=>chk (decide (IA.length+1<=aO)) (aj S1 a1.2.2.2.1 1 fun bUE=>G7 211 [bZW a0,A1 bUE,bZV (i64.wrap (n19+1))] fun Um=>chk (decide ((IA ++ ([.str aTO]:bZZ)).length+Um.length<=aO)) (some (.sl true 1 ((IA ++ ([.str aTO]:bZZ)) ++ Um),[]))))))))))))))):=cc
theorem bEU (a0:Int):SS.CC 126 [bZV a0] []=aA (decide (a0<0)) (G2 123 [bZV (i64.wrap (0-a0))] fun s1=>some (.sl true 1 [.str ⟨#[45]⟩,.str s1],[])) (G2 123 [bZV a0] fun s3=>some (.sl true 1 [.str s3],[])):=cc
def aIF:KT:=SS.rK Tryz.f183 183 1 []
def b0V:KT:=SS.jK 183 103 1 (cS Tryz.f183 127) aIF
def b0W:KT:=ak 1 b0V
def TQ (x1:Int) (x2:Int) (x4:Sh.V S1) (aJ:Int):R:=bH (SS.xX 183 103 1) (cS Tryz.f183 63) aIF ⟨[(1,bZV x1),(2,bZV x2),(3,bZX),(4,.cst (A1 x4))],[kQ (aJ,())]⟩
def TR (x1:Int) (x2:Int) (x87:bZZ) (aJ:Int) (x89:Int):R:=SS.LL (SS.ae 183 103) 1 [1,2,3,87,88,89] 1 (cS Tryz.f183 607) b0W ⟨[(1,bZV x1),(2,bZV x2),(3,bZX),(87,.sl false 4 x87),(88,bZV (x87.length:Int)),(89,bZV x89)],[kQ (aJ,())]⟩
theorem aIE (x1:Int) (x2:Int) (x4:Sh.V S1) (aJ:Int):TQ x1 x2 x4 aJ=TR x1 x2 x4.2.2.2.1 aJ 0:=by kernel_rfl
theorem Z7 (x1:Int) (x2:Int) (x87:bZZ) (aJ:Int) (x89:Int):TR x1 x2 x87 aJ x89=aA (decide (x89<(x87.length:Int))) (aj S1 x87 x89 fun u2=>H19 183 [A1 u2,bZV x1,bZV (i64.wrap (x2+1)),bZX] [kQ (aJ,())] fun n6 u7=>aA (n6 != 0) (some (bZV n6,[kQ u7])) (TR x1 x2 x87 u7.1 (i64.wrap (x89+1)))) (some (bZV 0,[kQ (aJ,())])):=ll
theorem aIG (a0:Sh.V S1) (a1:Int) (a2:Int) (bf:Int):SS.CC 183 [A1 a0,bZV a1,bZV a2,bZX] [kQ (bf,())]=aA (bf==64) (some (bZV 3,[kQ (bf,())])) (aA (decide (8<a2)) (some (bZV 3,[kQ (bf,())])) (G37 248 [bZV a0.1] fun u1=>aA (!u1.2.1.1) (some (bZV 11,[kQ (i64.wrap (bf+1),())])) (aA ((a0.2.2.2.1.length:Int) != u1.1.1) (some (bZV 4,[kQ (i64.wrap (bf+1),())])) ((fun w=>aA (a0.1 != 0) (aA (a0.2.1 != 0) (some (bZV 6,[kQ (i64.wrap (bf+1),())])) (aA (a0.1 != 1) (aA (a0.2.2.1 != 0) (some (bZV 6,[kQ (i64.wrap (bf+1),())])) (aA (a0.1==0) (G3 242 [bZV a0.2.1,bZV 65536] fun b4=>aA b4 (some (bZV 2,[kQ (i64.wrap (bf+1),())])) w) w)) (aA (a0.1==0) (G3 242 [bZV a0.2.1,bZV 65536] fun b6=>aA b6 (some (bZV 2,[kQ (i64.wrap (bf+1),())])) w) w))) (aA (a0.1 != 1) (aA (a0.2.2.1 != 0) (some (bZV 6,[kQ (i64.wrap (bf+1),())])) (aA (a0.1==0) (G3 242 [bZV a0.2.1,bZV 65536] fun b8=>aA b8 (some (bZV 2,[kQ (i64.wrap (bf+1),())])) w) w)) (aA (a0.1==0) (G3 242 [bZV a0.2.1,bZV 65536] fun b10=>aA b10 (some (bZV 2,[kQ (i64.wrap (bf+1),())])) w) w))) (aA (a0.1==1) (aA (decide (a0.2.2.1<0)) (some (bZV 2,[kQ (i64.wrap (bf+1),())])) (aA (decide (a1<=a0.2.2.1)) (some (bZV 2,[kQ (i64.wrap (bf+1),())])) (TQ a1 a2 a0 (i64.wrap (bf+1))))) (TQ a1 a2 a0 (i64.wrap (bf+1)))))))):=cc
def b0Y:KT:=SS.rK Tryz.f184 184 0 []
def b0Z:KT:=SS.jK 184 68 0 (cS Tryz.f184 15) b0Y
def b1A:KT:=ak 0 b0Z
def OY (x1:Sh.V S1) (x11:Int) (aJ:bZZ):R:=SS.LL (SS.ae 184 68) 0 [1,3,9,10,11] 1 (cS Tryz.f184 75) b1A ⟨[(1,.cst (A1 x1)),(3,bZX),(9,.sl false 4 x1.2.2.2.1),(10,bZV (x1.2.2.2.1.length:Int)),(11,bZV x11)],[iw (aJ,())]⟩
theorem Jw (x1:Sh.V S1) (x11:Int) (aJ:bZZ):OY x1 x11 aJ=aA (decide (x11<(x1.2.2.2.1.length:Int))) (aj S1 x1.2.2.2.1 x11 fun u2=>G1 184 [A1 u2] fun n6=>aA (n6==0) (some (bZV 0,[])) (chk (decide (aJ.length+1<=aO)) (OY x1 (i64.wrap (x11+1)) (aJ ++ ([bZV n6]:bZZ))))) (aA (x1.1==0) (some (bZV 1,[])) (aA (x1.1==1) (some (bZV 1,[])) (aA (x1.1==2) (zA 249 [bZV 1,bZX] [iw (aJ,())] fun b8 u9=>aA b8 (some (bZV 1,[])) (some (bZV 0,[]))) (aA (x1.1==3) (zA 249 [bZV 1,bZX] [iw (aJ,())] fun b12 u13=>aA b12 (some (bZV 1,[])) (some (bZV 0,[]))) (aA (x1.1==4) (zA 249 [bZV 1,bZX] [iw (aJ,())] fun b16 wV=>aA b16 (some (bZV 1,[])) (some (bZV 0,[]))) (aA (x1.1==5) (zA 249 [bZV 1,bZX] [iw (aJ,())] fun b20 u21=>aA b20 (some (bZV 1,[])) (some (bZV 0,[]))) (aA (x1.1==6) (zA 249 [bZV 1,bZX] [iw (aJ,())] fun O0 u25=>aA O0 (some (bZV 2,[])) (some (bZV 0,[]))) (aA (x1.1==7) (zA 249 [bZV 1,bZX] [iw (aJ,())] fun b28 u29=>aA b28 (some (bZV 2,[])) (some (bZV 0,[]))) (aA (x1.1==8) (zA 249 [bZV 1,bZX] [iw (aJ,())] fun b32 u33=>aA b32 (some (bZV 2,[])) (some (bZV 0,[]))) (aA (x1.1==9) (zA 249 [bZV 1,bZX] [iw (aJ,())] fun b36 u37=>aA b36 (some (bZV 2,[])) (some (bZV 0,[]))) (aA (x1.1==10) (zA 249 [bZV 2,bZX] [iw (aJ,())] fun b40 u41=>aA b40 (some (bZV 2,[])) (some (bZV 0,[]))) (aA (x1.1==11) (zA 249 [bZV 2,bZX] [iw (aJ,())] fun b44 u45=>aA b44 (some (bZV 2,[])) (some (bZV 0,[]))) (aA (x1.1==12) (zA 249 [bZV 2,bZX] [iw (aJ,())] fun b48 u49=>aA b48 (some (bZV 2,[])) (some (bZV 0,[]))) (aA (x1.1==13) (bz aJ 0 fun e52=>vI .i64 e52 fun n53=>aA (n53==2) (bz aJ 1 fun e54=>vI .i64 e54 fun n55=>bz aJ 2 fun e56=>vI .i64 e56 fun n57=>aA (n55==n57) (bz aJ 1 fun e58=>vI .i64 e58 fun n59=>some (bZV n59,[])) (some (bZV 0,[]))) (some (bZV 0,[]))) (some (bZV 0,[])))))))))))))))):=ll
theorem aIH (a0:Sh.V S1):SS.CC 184 [A1 a0] []=OY a0 0 []:=cc
theorem b1B (a0:bZY):SS.CC 110 [.str a0] []=aA (a0.toList==(⟨#[116,114,117,101]⟩:bZY).toList) (some (.bool true,[])) (some (.bool (a0.toList==(⟨#[102,97,108,115,101]⟩:bZY).toList),[])):=cc
def b1C:KT:=SS.Vj SS.CC SS.LL (SS.ae 112 141) Tryz.f112.results.toList (SS.iL 112).ro 1 [] 1 136 [bZX,bZW [.str ⟨#[41]⟩]]
def b1D:KT:=SS.rK Tryz.f112 112 1 []
def tH (x5:bZZ) (x6:Sh.V S1) (x8:Int) (aJ:bZZ) (x10:bZY):R:=bH (SS.xX 112 141 1) (cS Tryz.f112 63) b1C ⟨[(4,.ptr 1 0),(5,.cst (bZW x5)),(6,.cst (A1 x6)),(8,bZV x8),(9,.func (.func 186) [] [.ptr 1 0,.cst (bZW x5),.cst (A1 x6)]),(10,.str x10)],[aF (aJ,()),some [bZX]]⟩
def tC (x5:bZZ) (x6:Sh.V S1) (x8:Int) (aJ:bZZ) (x10:bZY):R:=bH (SS.xX 112 141 1) (cS Tryz.f112 63) b1D ⟨[(4,.ptr 1 0),(5,.cst (bZW x5)),(6,.cst (A1 x6)),(8,bZV x8),(9,.func (.func 186) [] [.ptr 1 0,.cst (bZW x5),.cst (A1 x6)]),(10,.str x10)],[aF (aJ,()),some [bZX]]⟩
theorem Dn (x5:bZZ) (x6:Sh.V S1) (x8:Int) (aJ:bZZ) (x10:bZY):tH x5 x6 x8 aJ x10=qM 133 [] fun u1=>G3 83 [A1 x6,A1 u1] fun b6=>aA b6 (ah 135 [bZX,bZW [.str ⟨#[116,114,117,101]⟩]] [aF (aJ,())] fun _ u8=>ah 136 [bZX,bZW [.str ⟨#[41]⟩]] [aF u8] fun _ u11=>some (.tuple [],[aF u11])) (qM 187 [] fun u14=>G3 83 [A1 x6,A1 u14] fun b19=>aA b19 (ah 135 [bZX,bZW [.str ⟨#[102,97,108,115,101]⟩]] [aF (aJ,())] fun _ u21=>ah 136 [bZX,bZW [.str ⟨#[41]⟩]] [aF u21] fun _ u24=>some (.tuple [],[aF u24])) (aA (x6.1==0) (ah 137 [bZX,bZV x6.2.1] [aF (aJ,())] fun _ u27=>ah 136 [bZX,bZW [.str ⟨#[41]⟩]] [aF u27] fun _ u30=>some (.tuple [],[aF u30])) (aA (x6.1==1) (bz x5 x6.2.2.1 fun e33=>vS e33 fun s34=>ah 135 [bZX,bZW [.str s34]] [aF (aJ,())] fun _ u35=>ah 136 [bZX,bZW [.str ⟨#[41]⟩]] [aF u35] fun _ u38=>some (.tuple [],[aF u38])) (aA (x6.1==5) (aj S1 x6.2.2.2.1 0 fun u42=>aA (u42.1==0) (aj S1 x6.2.2.2.1 0 fun MM=>aA (decide (0<=MM.2.1)) (ah 136 [bZX,bZW [.str ⟨#[45]⟩,.str ⟨#[40]⟩]] [aF (aJ,())] fun _ u51=>eY 186 [bZV 0,bZV 0,bZX,.cst (bZW x5),.cst (A1 x6)] [some [.ptr 1 0],aF u51] fun _ WZ=>ah 136 [bZX,bZW [.str ⟨#[41]⟩]] [aF WZ] fun _ MN=>ah 136 [bZX,bZW [.str ⟨#[41]⟩]] [aF MN] fun _ u60=>some (.tuple [],[aF u60])) (aA (x6.1==5) (ah 136 [bZX,bZW [.str x10]] [aF (aJ,())] fun _ u63=>eY 186 [bZV 0,bZV 6,bZX,.cst (bZW x5),.cst (A1 x6)] [some [.ptr 1 0],aF u63] fun _ u66=>ah 136 [bZX,bZW [.str ⟨#[41]⟩]] [aF u66] fun _ u69=>some (.tuple [],[aF u69])) (aA (x6.1==10) (ah 136 [bZX,bZW [.str x10]] [aF (aJ,())] fun _ u72=>eY 186 [bZV 0,bZV 6,bZX,.cst (bZW x5),.cst (A1 x6)] [some [.ptr 1 0],aF u72] fun _ u75=>ah 136 [bZX,bZW [.str ⟨#[41]⟩]] [aF u75] fun _ u78=>some (.tuple [],[aF u78])) (aA (x6.1==13) (eY 186 [bZV 0,bZV 1,bZX,.cst (bZW x5),.cst (A1 x6)] [some [.ptr 1 0],aF (aJ,())] fun _ Wh=>ah 136 [bZX,bZW [.str ⟨#[63]⟩]] [aF Wh] fun _ MO=>eY 186 [bZV 1,bZV 0,bZX,.cst (bZW x5),.cst (A1 x6)] [some [.ptr 1 0],aF MO] fun _ Wi=>ah 136 [bZX,bZW [.str ⟨#[58]⟩]] [aF Wi] fun _ Wj=>eY 186 [bZV 2,bZV 0,bZX,.cst (bZW x5),.cst (A1 x6)] [some [.ptr 1 0],aF Wj] fun _ u93=>ah 136 [bZX,bZW [.str ⟨#[41]⟩]] [aF u93] fun _ u96=>some (.tuple [],[aF u96])) (aA (x8==3) (eY 186 [bZV 0,bZV 4,bZX,.cst (bZW x5),.cst (A1 x6)] [some [.ptr 1 0],aF (aJ,())] fun _ u99=>ah 136 [bZX,bZW [.str x10]] [aF u99] fun _ ML=>eY 186 [bZV 1,bZV 4,bZX,.cst (bZW x5),.cst (A1 x6)] [some [.ptr 1 0],aF ML] fun _ u105=>ah 136 [bZX,bZW [.str ⟨#[41]⟩]] [aF u105] fun _ aD5=>some (.tuple [],[aF aD5])) (eY 186 [bZV 0,bZV x8,bZX,.cst (bZW x5),.cst (A1 x6)] [some [.ptr 1 0],aF (aJ,())] fun _ WL=>ah 136 [bZX,bZW [.str x10]] [aF WL] fun _ aD7=>eY 186 [bZV 1,bZV (i64.wrap (x8+1)),bZX,.cst (bZW x5),.cst (A1 x6)] [some [.ptr 1 0],aF aD7] fun _ WM=>ah 136 [bZX,bZW [.str ⟨#[41]⟩]] [aF WM] fun _ WN=>some (.tuple [],[aF WN]))))))) (aA (x6.1==5) (ah 136 [bZX,bZW [.str x10]] [aF (aJ,())] fun _ WO=>eY 186 [bZV 0,bZV 6,bZX,.cst (bZW x5),.cst (A1 x6)] [some [.ptr 1 0],aF WO] fun _ aDA=>ah 136 [bZX,bZW [.str ⟨#[41]⟩]] [aF aDA] fun _ WP=>some (.tuple [],[aF WP])) (aA (x6.1==10) (ah 136 [bZX,bZW [.str x10]] [aF (aJ,())] fun _ WQ=>eY 186 [bZV 0,bZV 6,bZX,.cst (bZW x5),.cst (A1 x6)] [some [.ptr 1 0],aF WQ] fun _ aDB=>ah 136 [bZX,bZW [.str ⟨#[41]⟩]] [aF aDB] fun _ u138=>some (.tuple [],[aF u138])) (aA (x6.1==13) (eY 186 [bZV 0,bZV 1,bZX,.cst (bZW x5),.cst (A1 x6)] [some [.ptr 1 0],aF (aJ,())] fun _ WS=>ah 136 [bZX,bZW [.str ⟨#[63]⟩]] [aF WS] fun _ WT=>eY 186 [bZV 1,bZV 0,bZX,.cst (bZW x5),.cst (A1 x6)] [some [.ptr 1 0],aF WT] fun _ WU=>ah 136 [bZX,bZW [.str ⟨#[58]⟩]] [aF WU] fun _ a3X=>eY 186 [bZV 2,bZV 0,bZX,.cst (bZW x5),.cst (A1 x6)] [some [.ptr 1 0],aF a3X] fun _ aDC=>ah 136 [bZX,bZW [.str ⟨#[41]⟩]] [aF aDC] fun _ WV=>some (.tuple [],[aF WV])) (aA (x8==3) (eY 186 [bZV 0,bZV 4,bZX,.cst (bZW x5),.cst (A1 x6)] [some [.ptr 1 0],aF (aJ,())] fun _ aDD=>ah 136 [bZX,bZW [.str x10]] [aF aDD] fun _ u162=>eY 186 [bZV 1,bZV 4,bZX,.cst (bZW x5),.cst (A1 x6)] [some [.ptr 1 0],aF u162] fun _ WX=>ah 136 [bZX,bZW [.str ⟨#[41]⟩]] [aF WX] fun _ Qg=>some (.tuple [],[aF Qg])) (eY 186 [bZV 0,bZV x8,bZX,.cst (bZW x5),.cst (A1 x6)] [some [.ptr 1 0],aF (aJ,())] fun _ aDF=>ah 136 [bZX,bZW [.str x10]] [aF aDF] fun _ WY=>eY 186 [bZV 1,bZV (i64.wrap (x8+1)),bZX,.cst (bZW x5),.cst (A1 x6)] [some [.ptr 1 0],aF WY] fun _ aDG=>ah 136 [bZX,bZW [.str ⟨#[41]⟩]] [aF aDG] fun _ Qh=>some (.tuple [],[aF Qh]))))))) (aA (x6.1==5) (ah 136 [bZX,bZW [.str x10]] [aF (aJ,())] fun _ bUQ=>eY 186 [bZV 0,bZV 6,bZX,.cst (bZW x5),.cst (A1 x6)] [some [.ptr 1 0],aF bUQ] fun _ aDH=>ah 136 [bZX,bZW [.str ⟨#[41]⟩]] [aF aDH] fun _ bUS=>some (.tuple [],[aF bUS])) (aA (x6.1==10) (ah 136 [bZX,bZW [.str x10]] [aF (aJ,())] fun _ bUT=>eY 186 [bZV 0,bZV 6,bZX,.cst (bZW x5),.cst (A1 x6)] [some [.ptr 1 0],aF bUT] fun _ aDI=>ah 136 [bZX,bZW [.str ⟨#[41]⟩]] [aF aDI] fun _ u198=>some (.tuple [],[aF u198])) (aA (x6.1==13) (eY 186 [bZV 0,bZV 1,bZX,.cst (bZW x5),.cst (A1 x6)] [some [.ptr 1 0],aF (aJ,())] fun _ u201=>ah 136 [bZX,bZW [.str ⟨#[63]⟩]] [aF u201] fun _ bUV=>eY 186 [bZV 1,bZV 0,bZX,.cst (bZW x5),.cst (A1 x6)] [some [.ptr 1 0],aF bUV] fun _ bUW=>ah 136 [bZX,bZW [.str ⟨#[58]⟩]] [aF bUW] fun _ u210=>eY 186 [bZV 2,bZV 0,bZX,.cst (bZW x5),.cst (A1 x6)] [some [.ptr 1 0],aF u210] fun _ bUX=>ah 136 [bZX,bZW [.str ⟨#[41]⟩]] [aF bUX] fun _ bUZ=>some (.tuple [],[aF bUZ])) (aA (x8==3) (eY 186 [bZV 0,bZV 4,bZX,.cst (bZW x5),.cst (A1 x6)] [some [.ptr 1 0],aF (aJ,())] fun _ bU'=>ah 136 [bZX,bZW [.str x10]] [aF bU'] fun _ bV0=>eY 186 [bZV 1,bZV 4,bZX,.cst (bZW x5),.cst (A1 x6)] [some [.ptr 1 0],aF bV0] fun _ aDJ=>ah 136 [bZX,bZW [.str ⟨#[41]⟩]] [aF aDJ] fun _ bV1=>some (.tuple [],[aF bV1])) (eY 186 [bZV 0,bZV x8,bZX,.cst (bZW x5),.cst (A1 x6)] [some [.ptr 1 0],aF (aJ,())] fun _ aDK=>ah 136 [bZX,bZW [.str x10]] [aF aDK] fun _ u234=>eY 186 [bZV 1,bZV (i64.wrap (x8+1)),bZX,.cst (bZW x5),.cst (A1 x6)] [some [.ptr 1 0],aF u234] fun _ bV3=>ah 136 [bZX,bZW [.str ⟨#[41]⟩]] [aF bV3] fun _ aDL=>some (.tuple [],[aF aDL])))))))))):=by kernel_rfl
theorem Dl (x5:bZZ) (x6:Sh.V S1) (x8:Int) (aJ:bZZ) (x10:bZY):tC x5 x6 x8 aJ x10=qM 133 [] fun u1=>G3 83 [A1 x6,A1 u1] fun b6=>aA b6 (ah 135 [bZX,bZW [.str ⟨#[116,114,117,101]⟩]] [aF (aJ,())] fun _ u8=>some (.tuple [],[aF u8])) (qM 187 [] fun u11=>G3 83 [A1 x6,A1 u11] fun b16=>aA b16 (ah 135 [bZX,bZW [.str ⟨#[102,97,108,115,101]⟩]] [aF (aJ,())] fun _ lG=>some (.tuple [],[aF lG])) (aA (x6.1==0) (ah 137 [bZX,bZV x6.2.1] [aF (aJ,())] fun _ u21=>some (.tuple [],[aF u21])) (aA (x6.1==1) (bz x5 x6.2.2.1 fun e24=>vS e24 fun s25=>ah 135 [bZX,bZW [.str s25]] [aF (aJ,())] fun _ u26=>some (.tuple [],[aF u26])) (aA (x6.1==5) (aj S1 x6.2.2.2.1 0 fun u30=>aA (u30.1==0) (aj S1 x6.2.2.2.1 0 fun u35=>aA (decide (0<=u35.2.1)) (ah 136 [bZX,bZW [.str ⟨#[45]⟩,.str ⟨#[40]⟩]] [aF (aJ,())] fun _ u39=>eY 186 [bZV 0,bZV 0,bZX,.cst (bZW x5),.cst (A1 x6)] [some [.ptr 1 0],aF u39] fun _ u42=>ah 136 [bZX,bZW [.str ⟨#[41]⟩]] [aF u42] fun _ u45=>some (.tuple [],[aF u45])) (aA (x6.1==5) (ah 136 [bZX,bZW [.str x10]] [aF (aJ,())] fun _ u48=>eY 186 [bZV 0,bZV 6,bZX,.cst (bZW x5),.cst (A1 x6)] [some [.ptr 1 0],aF u48] fun _ u51=>some (.tuple [],[aF u51])) (aA (x6.1==10) (ah 136 [bZX,bZW [.str x10]] [aF (aJ,())] fun _ WZ=>eY 186 [bZV 0,bZV 6,bZX,.cst (bZW x5),.cst (A1 x6)] [some [.ptr 1 0],aF WZ] fun _ MN=>some (.tuple [],[aF MN])) (aA (x6.1==13) (eY 186 [bZV 0,bZV 1,bZX,.cst (bZW x5),.cst (A1 x6)] [some [.ptr 1 0],aF (aJ,())] fun _ u60=>ah 136 [bZX,bZW [.str ⟨#[63]⟩]] [aF u60] fun _ u63=>eY 186 [bZV 1,bZV 0,bZX,.cst (bZW x5),.cst (A1 x6)] [some [.ptr 1 0],aF u63] fun _ u66=>ah 136 [bZX,bZW [.str ⟨#[58]⟩]] [aF u66] fun _ u69=>eY 186 [bZV 2,bZV 0,bZX,.cst (bZW x5),.cst (A1 x6)] [some [.ptr 1 0],aF u69] fun _ u72=>some (.tuple [],[aF u72])) (aA (x8==3) (eY 186 [bZV 0,bZV 4,bZX,.cst (bZW x5),.cst (A1 x6)] [some [.ptr 1 0],aF (aJ,())] fun _ u75=>ah 136 [bZX,bZW [.str x10]] [aF u75] fun _ u78=>eY 186 [bZV 1,bZV 4,bZX,.cst (bZW x5),.cst (A1 x6)] [some [.ptr 1 0],aF u78] fun _ Wh=>some (.tuple [],[aF Wh])) (eY 186 [bZV 0,bZV x8,bZX,.cst (bZW x5),.cst (A1 x6)] [some [.ptr 1 0],aF (aJ,())] fun _ MO=>ah 136 [bZX,bZW [.str x10]] [aF MO] fun _ Wi=>eY 186 [bZV 1,bZV (i64.wrap (x8+1)),bZX,.cst (bZW x5),.cst (A1 x6)] [some [.ptr 1 0],aF Wi] fun _ Wj=>some (.tuple [],[aF Wj]))))))) (aA (x6.1==5) (ah 136 [bZX,bZW [.str x10]] [aF (aJ,())] fun _ u93=>eY 186 [bZV 0,bZV 6,bZX,.cst (bZW x5),.cst (A1 x6)] [some [.ptr 1 0],aF u93] fun _ u96=>some (.tuple [],[aF u96])) (aA (x6.1==10) (ah 136 [bZX,bZW [.str x10]] [aF (aJ,())] fun _ u99=>eY 186 [bZV 0,bZV 6,bZX,.cst (bZW x5),.cst (A1 x6)] [some [.ptr 1 0],aF u99] fun _ ML=>some (.tuple [],[aF ML])) (aA (x6.1==13) (eY 186 [bZV 0,bZV 1,bZX,.cst (bZW x5),.cst (A1 x6)] [some [.ptr 1 0],aF (aJ,())] fun _ u105=>ah 136 [bZX,bZW [.str ⟨#[63]⟩]] [aF u105] fun _ aD5=>eY 186 [bZV 1,bZV 0,bZX,.cst (bZW x5),.cst (A1 x6)] [some [.ptr 1 0],aF aD5] fun _ WL=>ah 136 [bZX,bZW [.str ⟨#[58]⟩]] [aF WL] fun _ aD7=>eY 186 [bZV 2,bZV 0,bZX,.cst (bZW x5),.cst (A1 x6)] [some [.ptr 1 0],aF aD7] fun _ WM=>some (.tuple [],[aF WM])) (aA (x8==3) (eY 186 [bZV 0,bZV 4,bZX,.cst (bZW x5),.cst (A1 x6)] [some [.ptr 1 0],aF (aJ,())] fun _ WN=>ah 136 [bZX,bZW [.str x10]] [aF WN] fun _ WO=>eY 186 [bZV 1,bZV 4,bZX,.cst (bZW x5),.cst (A1 x6)] [some [.ptr 1 0],aF WO] fun _ aDA=>some (.tuple [],[aF aDA])) (eY 186 [bZV 0,bZV x8,bZX,.cst (bZW x5),.cst (A1 x6)] [some [.ptr 1 0],aF (aJ,())] fun _ WP=>ah 136 [bZX,bZW [.str x10]] [aF WP] fun _ WQ=>eY 186 [bZV 1,bZV (i64.wrap (x8+1)),bZX,.cst (bZW x5),.cst (A1 x6)] [some [.ptr 1 0],aF WQ] fun _ aDB=>some (.tuple [],[aF aDB]))))))) (aA (x6.1==5) (ah 136 [bZX,bZW [.str x10]] [aF (aJ,())] fun _ u138=>eY 186 [bZV 0,bZV 6,bZX,.cst (bZW x5),.cst (A1 x6)] [some [.ptr 1 0],aF u138] fun _ WS=>some (.tuple [],[aF WS])) (aA (x6.1==10) (ah 136 [bZX,bZW [.str x10]] [aF (aJ,())] fun _ WT=>eY 186 [bZV 0,bZV 6,bZX,.cst (bZW x5),.cst (A1 x6)] [some [.ptr 1 0],aF WT] fun _ WU=>some (.tuple [],[aF WU])) (aA (x6.1==13) (eY 186 [bZV 0,bZV 1,bZX,.cst (bZW x5),.cst (A1 x6)] [some [.ptr 1 0],aF (aJ,())] fun _ a3X=>ah 136 [bZX,bZW [.str ⟨#[63]⟩]] [aF a3X] fun _ aDC=>eY 186 [bZV 1,bZV 0,bZX,.cst (bZW x5),.cst (A1 x6)] [some [.ptr 1 0],aF aDC] fun _ WV=>ah 136 [bZX,bZW [.str ⟨#[58]⟩]] [aF WV] fun _ aDD=>eY 186 [bZV 2,bZV 0,bZX,.cst (bZW x5),.cst (A1 x6)] [some [.ptr 1 0],aF aDD] fun _ u162=>some (.tuple [],[aF u162])) (aA (x8==3) (eY 186 [bZV 0,bZV 4,bZX,.cst (bZW x5),.cst (A1 x6)] [some [.ptr 1 0],aF (aJ,())] fun _ WX=>ah 136 [bZX,bZW [.str x10]] [aF WX] fun _ Qg=>eY 186 [bZV 1,bZV 4,bZX,.cst (bZW x5),.cst (A1 x6)] [some [.ptr 1 0],aF Qg] fun _ aDF=>some (.tuple [],[aF aDF])) (eY 186 [bZV 0,bZV x8,bZX,.cst (bZW x5),.cst (A1 x6)] [some [.ptr 1 0],aF (aJ,())] fun _ WY=>ah 136 [bZX,bZW [.str x10]] [aF WY] fun _ aDG=>eY 186 [bZV 1,bZV (i64.wrap (x8+1)),bZX,.cst (bZW x5),.cst (A1 x6)] [some [.ptr 1 0],aF aDG] fun _ Qh=>some (.tuple [],[aF Qh])))))))))):=by kernel_rfl
theorem b1E (a1:bZZ) (a2:Sh.V S1) (a3:Int) (bf:bZZ):SS.CC 112 [bZX,bZW a1,A1 a2,bZV a3] [aF (bf,())]=G1 185 [A1 a2] fun n1=>aA (decide (n1<a3)) (ah 136 [bZX,bZW [.str ⟨#[40]⟩]] [aF (bf,())] fun _ u3=>chk (decide (0<=a2.1)&&decide (a2.1<(14:Int))) (aA (a2.1==0) (tH a1 a2 n1 u3.1 ⟨#[]⟩) (aA (a2.1==1) (tH a1 a2 n1 u3.1 ⟨#[]⟩) (aA (a2.1==2) (tH a1 a2 n1 u3.1 ⟨#[43]⟩) (aA (a2.1==3) (tH a1 a2 n1 u3.1 ⟨#[45]⟩) (aA (a2.1==4) (tH a1 a2 n1 u3.1 ⟨#[42]⟩) (aA (a2.1==5) (tH a1 a2 n1 u3.1 ⟨#[45]⟩) (aA (a2.1==6) (tH a1 a2 n1 u3.1 ⟨#[61,61]⟩) (aA (a2.1==7) (tH a1 a2 n1 u3.1 ⟨#[33,61]⟩) (aA (a2.1==8) (tH a1 a2 n1 u3.1 ⟨#[60]⟩) (aA (a2.1==9) (tH a1 a2 n1 u3.1 ⟨#[60,61]⟩) (aA (a2.1==10) (tH a1 a2 n1 u3.1 ⟨#[33]⟩) (aA (a2.1==11) (tH a1 a2 n1 u3.1 ⟨#[38,38]⟩) (aA (a2.1==12) (tH a1 a2 n1 u3.1 ⟨#[124,124]⟩) (aA (a2.1==13) (tH a1 a2 n1 u3.1 ⟨#[63]⟩) (none)))))))))))))))) (chk (decide (0<=a2.1)&&decide (a2.1<(14:Int))) (aA (a2.1==0) (tC a1 a2 n1 bf ⟨#[]⟩) (aA (a2.1==1) (tC a1 a2 n1 bf ⟨#[]⟩) (aA (a2.1==2) (tC a1 a2 n1 bf ⟨#[43]⟩) (aA (a2.1==3) (tC a1 a2 n1 bf ⟨#[45]⟩) (aA (a2.1==4) (tC a1 a2 n1 bf ⟨#[42]⟩) (aA (a2.1==5) (tC a1 a2 n1 bf ⟨#[45]⟩) (aA (a2.1==6) (tC a1 a2 n1 bf ⟨#[61,61]⟩) (aA (a2.1==7) (tC a1 a2 n1 bf ⟨#[33,61]⟩) (aA (a2.1==8) (tC a1 a2 n1 bf ⟨#[60]⟩) (aA (a2.1==9) (tC a1 a2 n1 bf ⟨#[60,61]⟩) (aA (a2.1==10) (tC a1 a2 n1 bf ⟨#[33]⟩) (aA (a2.1==11) (tC a1 a2 n1 bf ⟨#[38,38]⟩) (aA (a2.1==12) (tC a1 a2 n1 bf ⟨#[124,124]⟩) (aA (a2.1==13) (tC a1 a2 n1 bf ⟨#[63]⟩) (none)))))))))))))))):=cc
def b1F:KT:=SS.rK Tryz.f113 113 0 []
def b1G:KT:=SS.jK 113 45 0 (cS Tryz.f113 31) b1F
def b1H:KT:=ak 0 b1G
def TS (x0:bZZ) (x4:bZZ) (x16:Int):R:=SS.LL (SS.ae 113 45) 0 [0,4,14,15,16] 0 (cS Tryz.f113 151) b1H ⟨[(0,.sl false 5 x0),(4,.sl true 1 x4),(14,.sl false 5 x0),(15,bZV (x0.length:Int)),(16,bZV x16)],[]⟩
theorem aII (x0:bZZ) (x4:bZZ) (x16:Int):TS x0 x4 x16=aA (decide (x16<(x0.length:Int))) (aj lm x0 x16 fun u2=>chk (decide (x4.length+1<=aO)) (TS x0 (x4 ++ ([.str u2.2.1]:bZZ)) (i64.wrap (x16+1)))) (G2 25 [bZW x4,.str ⟨#[32]⟩] fun s7=>XQ 24 [.str s7] fun u9=>aA (u9.2.2.2.1.1 != 0) (some (.tuple [.str ⟨#[]⟩,bZV 6],[])) (NR 129 [.sl false 5 u9.1.1] fun l14=>G3 188 [.sl false 5 l14,.sl false 5 x0,.func (.func 189) [] []] fun b16=>aA (!b16) (some (.tuple [.str ⟨#[]⟩,bZV 6],[])) (some (.tuple [.str s7,bZV 0],[])))):=ll
theorem a6R (a0:bZZ):SS.CC 113 [.sl false 5 a0] []=NR 129 [.sl false 5 a0] fun l1=>TS l1 [] 0:=cc
theorem b1I (a0:Sh.V S1):SS.CC 274 [A1 a0] []=qM 133 [] fun u1=>G3 83 [A1 a0,A1 u1] fun b6=>aA b6 (some (bZV 7,[])) (qM 187 [] fun u8=>G3 83 [A1 a0,A1 u8] fun b13=>aA b13 (some (bZV 7,[])) (aA (a0.1==0) (aA (decide (a0.2.1<0)) (some (bZV 6,[])) (some (bZV 7,[]))) (aA (a0.1==13) (some (bZV 0,[])) (aA (a0.1==12) (some (bZV 1,[])) (aA (a0.1==11) (some (bZV 2,[])) (aA (a0.1==6) (some (bZV 3,[])) (aA (a0.1==7) (some (bZV 3,[])) (aA (a0.1==8) (some (bZV 3,[])) (aA (a0.1==9) (some (bZV 3,[])) (aA (a0.1==2) (some (bZV 4,[])) (aA (a0.1==3) (some (bZV 4,[])) (aA (a0.1==4) (some (bZV 5,[])) (aA (a0.1==10) (some (bZV 6,[])) (aA (a0.1==5) (some (bZV 6,[])) (some (bZV 7,[])))))))))))))))):=cc
def b5A:KT:=SS.rK Tryz.f135 135 1 []
def b5B:KT:=ak 0 b5A
def Oh (x6:bZZ) (aJ:bZZ) (x8:Int):R:=SS.LL (SS.ae 135 24) 1 [0,6,7,8] 1 (cS Tryz.f135 9) b5B ⟨[(0,bZX),(6,bZW x6),(7,bZV (x6.length:Int)),(8,bZV x8)],[aF (aJ,())]⟩
theorem ZO (x6:bZZ) (aJ:bZZ) (x8:Int):Oh x6 aJ x8=aA (decide (x8<(x6.length:Int))) (bz x6 x8 fun e1=>vS e1 fun s2=>chk (decide (aJ.length+1<=aO)) (Oh x6 (aJ ++ ([oK (1,s2,0,0,0,())]:bZZ)) (i64.wrap (x8+1)))) (some (.tuple [],[aF (aJ,())])):=ll
theorem a6V (a1:bZZ) (bf:bZZ):SS.CC 135 [bZX,bZW a1] [aF (bf,())]=Oh a1 bf 0:=cc
def b5C:KT:=SS.rK Tryz.f136 136 1 []
def b5D:KT:=ak 0 b5C
def a6W (x6:bZZ) (aJ:bZZ) (x8:Int):R:=SS.LL (SS.ae 136 24) 1 [0,6,7,8] 1 (cS Tryz.f136 9) b5D ⟨[(0,bZX),(6,bZW x6),(7,bZV (x6.length:Int)),(8,bZV x8)],[aF (aJ,())]⟩
theorem TY (x6:bZZ) (aJ:bZZ) (x8:Int):a6W x6 aJ x8=aA (decide (x8<(x6.length:Int))) (bz x6 x8 fun e1=>vS e1 fun s2=>chk (decide (aJ.length+1<=aO)) (a6W x6 (aJ ++ ([oK (3,s2,0,0,0,())]:bZZ)) (i64.wrap (x8+1)))) (some (.tuple [],[aF (aJ,())])):=ll
theorem aJD (a1:bZZ) (bf:bZZ):SS.CC 136 [bZX,bZW a1] [aF (bf,())]=a6W a1 bf 0:=cc
def b5F:KT:=SS.rK Tryz.f137 137 1 []
def ZP (aJ:bZZ) (x1:Int):R:=bH (SS.xX 137 24 1) (cS Tryz.f137 3) b5F ⟨[(0,bZX),(1,bZV x1)],[aF (aJ,())]⟩
theorem b5E (aJ:bZZ) (x1:Int):ZP aJ x1=G2 123 [bZV x1] fun s1=>chk (decide (aJ.length+1<=aO)) (some (.tuple [],[aF ((aJ ++ ([oK (2,s1,x1,0,0,())]:bZZ)),())])):=by kernel_rfl
theorem b5G (a1:Int) (bf:bZZ):SS.CC 137 [bZX,bZV a1] [aF (bf,())]=aA (decide (a1<0)) (ah 136 [bZX,bZW [.str ⟨#[45]⟩]] [aF (bf,())] fun _ u1=>ZP u1.1 (i64.wrap (0-a1))) (ZP bf a1):=cc
theorem b73 (a0:bZZ):SS.CC 129 [.sl false 5 a0] []=G49 213 [.sl false 5 a0] fun l1=>aA (decide (0<l1.length)) (chk (l1.all (yV 5)) (chk ((eu l1).all pW&&true) (H50 212 [.slh 0 0 l1.length 5,.func (.func 214) [] []] [some (eu l1)] fun u3 l4=>chk (l4.all pW&&true) (chk (decide (u3.1*5<=l4.length)&&decide (0<5)&&l4.all fun p=>p.one&&p.flat) (some (.sl false 5 (lT 5 l4 u3.1),[])))))) (NR 212 [.sl false 5 [],.func (.func 214) [] []] fun l7=>some (.sl false 5 l7,[])):=cc
theorem aK7 (a0:Int):SS.CC 248 [bZV a0] []=aA (a0==0) (some (.tuple [bZV 0,.bool true],[])) (aA (a0==1) (some (.tuple [bZV 0,.bool true],[])) (aA (a0==5) (some (.tuple [bZV 1,.bool true],[])) (aA (a0==10) (some (.tuple [bZV 1,.bool true],[])) (aA (a0==2) (some (.tuple [bZV 2,.bool true],[])) (aA (a0==3) (some (.tuple [bZV 2,.bool true],[])) (aA (a0==4) (some (.tuple [bZV 2,.bool true],[])) (aA (a0==6) (some (.tuple [bZV 2,.bool true],[])) (aA (a0==7) (some (.tuple [bZV 2,.bool true],[])) (aA (a0==8) (some (.tuple [bZV 2,.bool true],[])) (aA (a0==9) (some (.tuple [bZV 2,.bool true],[])) (aA (a0==11) (some (.tuple [bZV 2,.bool true],[])) (aA (a0==12) (some (.tuple [bZV 2,.bool true],[])) (aA (a0==13) (some (.tuple [bZV 3,.bool true],[])) (some (.tuple [bZV 0,.bool false],[]))))))))))))))):=cc
theorem aK8 (a0:Int) (a1:Int):SS.CC 242 [bZV a0,bZV a1] []=aA (decide (a1<a0)) (some (.bool true,[])) (some (.bool (decide (a0<(i64.wrap (0-a1)))),[])):=cc
theorem aK9 (a0:Int) (bf:bZZ):SS.CC 249 [bZV a0,bZX] [iw (bf,())]=G3 250 [bZW bf,.func (.func 251) [] [.cst (bZV a0)]] fun b1=>some (.bool (!b1),[iw (bf,())]):=cc
theorem aKA (a0:bZZ) (a1:Int):SS.CC 250 [bZW a0,.func (.func 251) [] [.cst (bZV a1)]] []=G1 292 [bZW a0,.func (.func 251) [] [.cst (bZV a1)]] fun n1=>some (.bool (decide (0<=n1)),[]):=cc
theorem aKB (a0:Int) (a1:Int):SS.CC 251 [bZV a0,.cst (bZV a1)] []=some (.bool (a0 != a1),[]):=cc
theorem b8E (a0:Sh.V S1):SS.CC 185 [A1 a0] []=qM 133 [] fun u1=>G3 83 [A1 a0,A1 u1] fun b6=>aA b6 (some (bZV 7,[])) (qM 187 [] fun u8=>G3 83 [A1 a0,A1 u8] fun b13=>aA b13 (some (bZV 7,[])) ((fun w=>aA (a0.1==0) (aA (decide (a0.2.1<0)) (some (bZV 6,[])) w) w) (chk (decide (0<=a0.1)&&decide (a0.1<(14:Int))) (aA (a0.1==0) (some (bZV 7,[])) (aA (a0.1==1) (some (bZV 7,[])) (aA (a0.1==2) (some (bZV 4,[])) (aA (a0.1==3) (some (bZV 4,[])) (aA (a0.1==4) (some (bZV 5,[])) (aA (a0.1==5) (some (bZV 6,[])) (aA (a0.1==6) (some (bZV 3,[])) (aA (a0.1==7) (some (bZV 3,[])) (aA (a0.1==8) (some (bZV 3,[])) (aA (a0.1==9) (some (bZV 3,[])) (aA (a0.1==10) (some (bZV 6,[])) (aA (a0.1==11) (some (bZV 2,[])) (aA (a0.1==12) (some (bZV 1,[])) (aA (a0.1==13) (some (bZV 0,[])) (none)))))))))))))))))):=cc
theorem b8F (a0:Int) (a1:Int) (a3:bZZ) (a4:Sh.V S1) (o7:bZZ):SS.CC 186 [bZV a0,bZV a1,bZX,.cst (bZW a3),.cst (A1 a4)] [some [.ptr 1 0],aF (o7,())]=aj S1 a4.2.2.2.1 a0 fun u2=>ah 112 [bZX,bZW a3,A1 u2,bZV a1] [aF (o7,())] fun _ u6=>some (.tuple [],[some [.ptr 1 0],aF u6]):=cc
def b8G:KT:=SS.rK Tryz.f188 188 0 []
def b8H:KT:=SS.jK 188 32 0 (cS Tryz.f188 15) b8G
def b8I:KT:=ak 0 b8H
def ZZ (x1:bZZ) (x15:bZZ) (x17:Int):R:=SS.LL (SS.ae 188 32) 0 [1,2,15,16,17] 0 (cS Tryz.f188 75) b8I ⟨[(1,.sl false 5 x1),(2,.func (.func 189) [] []),(15,.sl false 5 x15),(16,bZV (x15.length:Int)),(17,bZV x17)],[]⟩
theorem aKC (x1:bZZ) (x15:bZZ) (x17:Int):ZZ x1 x15 x17=aA (decide (x17<(x15.length:Int))) (aj lm x15 x17 fun u2=>aj lm x1 x17 fun u8=>G3 189 [oK u2,oK u8] fun b13=>aA (!b13) (some (.bool false,[])) (ZZ x1 x15 (i64.wrap (x17+1)))) (some (.bool true,[])):=ll
theorem b8J (a0:bZZ) (a1:bZZ):SS.CC 188 [.sl false 5 a0,.sl false 5 a1,.func (.func 189) [] []] []=aA ((a0.length:Int) !=(a1.length:Int)) (some (.bool false,[])) (ZZ a1 a0 0):=cc
theorem b8K (a0:Sh.V lm) (a1:Sh.V lm):SS.CC 189 [oK a0,oK a1] []=aA (a0.1==a1.1) (aA (a0.2.1.toList==a1.2.1.toList) (some (.bool (a0.2.2.1==a1.2.2.1),[])) (some (.bool false,[]))) (some (.bool false,[])):=cc
def b9R:KT:=SS.rK Tryz.f212 212 1 [0]
def b9S:KT:=SS.jK 212 42 1 (cS Tryz.f212 31) b9R
def b9T:KT:=ak 0 b9S
def Tz (x0:Nat) (x5:Int) (o0:bZZ) (x6:Int):R:=SS.LL (SS.ae 212 42) 1 [0,1,5,6] 1 (cS Tryz.f212 151) b9T ⟨[(0,.slh 0 0 x0 5),(1,.func (.func 214) [] []),(5,bZV x5),(6,bZV x6)],[some o0]⟩
theorem aKJ (x0:Nat) (x5:Int) (o0:bZZ) (x6:Int):Tz x0 x5 o0 x6=chk (o0.all pW&&true) (aA (decide (x6<(x0:Int))) (chk (o0.all pW&&true) (chk (decide (0<=x6)&&decide (x6<(x0:Int))) (chk (decide ((0+x6.toNat*5)+5<=o0.length)) (Dw lm (.agg (((o0.drop (0+x6.toNat*5)).take 5).map PV.un)) fun u1=>G3 214 [oK u1] fun b6=>aA (!b6) (chk (decide (0<=x5)&&decide (x5<(x0:Int))) (chk (decide ((0+x5.toNat*5)+5<=o0.length)) (chk ((o0.take (0+x5.toNat*5) ++ (([bZV u1.1,.str u1.2.1,bZV u1.2.2.1,bZV u1.2.2.2.1,bZV u1.2.2.2.2.1]:bZZ):bZZ) ++ o0.drop ((0+x5.toNat*5)+5)).all pW&&true) (Tz x0 (i64.wrap (x5+1)) (o0.take (0+x5.toNat*5) ++ (([bZV u1.1,.str u1.2.1,bZV u1.2.2.1,bZV u1.2.2.2.1,bZV u1.2.2.2.2.1]:bZZ):bZZ) ++ o0.drop ((0+x5.toNat*5)+5)) (i64.wrap (x6+1)))))) (chk (o0.all pW&&true) (Tz x0 x5 o0 (i64.wrap (x6+1)))))))) (chk (o0.all pW&&true) (chk (decide (0<=x5)&&decide (x5<=(x0:Int))) (aA (decide (x5<(x0:Int))) (chk (decide ((0+x5.toNat*5)+(x0-x5.toNat)*5<=o0.length)) (chk (decide (0<=x5)&&decide (x5<=(x0:Int))&&decide (0<x0)) (chk ((o0.take (0+x5.toNat*5) ++ ((List.replicate (x0-x5.toNat) (([bZV 0,.str ⟨#[]⟩,bZV 0,bZV 0,bZV 0]:bZZ):bZZ)).flatten.map PV.un) ++ o0.drop ((0+x5.toNat*5)+(x0-x5.toNat)*5)).all pW&&true) (some (.slh 0 0 x5.toNat 5,[some (o0.take (0+x5.toNat*5) ++ ((List.replicate (x0-x5.toNat) (([bZV 0,.str ⟨#[]⟩,bZV 0,bZV 0,bZV 0]:bZZ):bZZ)).flatten.map PV.un) ++ o0.drop ((0+x5.toNat*5)+(x0-x5.toNat)*5))]))))) (chk (decide (0<=x5)&&decide (x5<=(x0:Int))&&decide (0<x0)) (chk (o0.all pW&&true) (some (.slh 0 0 x5.toNat 5,[some o0])))))))):=ll
theorem b9U (a0:Nat) (h0:bZZ):SS.CC 212 [.slh 0 0 a0 5,.func (.func 214) [] []] [some h0]=chk ((decide (a0*5<=h0.length)&&decide (0<5)&&h0.all uX)&&true) (G1 276 [.sl false 5 (lT 5 h0 a0),.func (.func 214) [] []] fun n1=>aA (n1==(-1)) (chk (h0.all pW&&true) (some (.slh 0 0 a0 5,[some h0]))) (chk (h0.all pW&&true) (Tz a0 n1 h0 (i64.wrap (n1+1))))):=cc
theorem b9V (a0:bZZ):SS.CC 213 [.sl false 5 a0] []=IV a0 fun b1=>aA (b1==true) (some (.sl true 5 [],[])) (chk (decide (0+a0.length<=aO)) (some (.sl true 5 a0,[]))):=cc
theorem b9W (a0:Sh.V lm):SS.CC 214 [oK a0] []=some (.bool (a0.1==4),[]):=cc
def bAK:KT:=SS.rK Tryz.f292 292 0 []
def bAL:KT:=SS.jK 292 19 0 (cS Tryz.f292 7) bAK
def bAM:KT:=ak 0 bAL
def U4 (x0:bZZ) (x1:Int) (x8:Int):R:=SS.LL (SS.ae 292 19) 0 [0,1,7,8] 0 (cS Tryz.f292 37) bAM ⟨[(0,bZW x0),(1,.func (.func 251) [] [.cst (bZV x1)]),(7,bZV (x0.length:Int)),(8,bZV x8)],[]⟩
theorem Zf (x0:bZZ) (x1:Int) (x8:Int):U4 x0 x1 x8=aA (decide (x8<(x0.length:Int))) (bz x0 x8 fun e1=>vI .i64 e1 fun n2=>G3 251 [bZV n2,.cst (bZV x1)] fun b3=>aA b3 (some (bZV x8,[])) (U4 x0 x1 (i64.wrap (x8+1)))) (some (bZV (-1),[])):=ll
theorem aKV (a0:bZZ) (a1:Int):SS.CC 292 [bZW a0,.func (.func 251) [] [.cst (bZV a1)]] []=U4 a0 a1 0:=cc
def bC4:KT:=SS.rK Tryz.f276 276 0 []
def bC5:KT:=SS.jK 276 19 0 (cS Tryz.f276 7) bC4
def bC6:KT:=ak 0 bC5
def U9 (x0:bZZ) (x8:Int):R:=SS.LL (SS.ae 276 19) 0 [0,1,7,8] 0 (cS Tryz.f276 37) bC6 ⟨[(0,.sl false 5 x0),(1,.func (.func 214) [] []),(7,bZV (x0.length:Int)),(8,bZV x8)],[]⟩
theorem aL5 (x0:bZZ) (x8:Int):U9 x0 x8=aA (decide (x8<(x0.length:Int))) (aj lm x0 x8 fun u2=>G3 214 [oK u2] fun b7=>aA b7 (some (bZV x8,[])) (U9 x0 (i64.wrap (x8+1)))) (some (bZV (-1),[])):=ll
theorem bC7 (a0:bZZ):SS.CC 276 [.sl false 5 a0,.func (.func 214) [] []] []=U9 a0 0:=cc
end
theorem Bg {l:List EX} (hk:k<l.length) (K:Sh.V S1->R):aj S1 (lw l) (k:Int) K=K (ev l[k]):=by show bz (lw l) (k:Int) _=_;rw[nS (by omega) (by rw[a6A,pG,lL,jU hk]; rfl)];rfl
theorem uQ {a:EX} {l:List EX} (K:Sh.V S1->R):aj S1 (lw (a::l)) 0 K=K (ev a):=Bg (by simp) K
theorem zL (l:List EX):(lw l).length=l.length:=by rw[a6A,bF]
mutual
def fH:EX->EX->Bool
 | .node o v i l,.node o' v' i' l'=>o==o'&&(v==v'&&(i==i'&&zJ l l'))
def zJ:List EX->List EX->Bool
 | [],[]=>true
 | a::l,b::l'=>fH a b&&zJ l l'
 | _,_=>false
end
theorem TA (o v i:Int) (l:List EX) (o' v' i':Int) (l':List EX):fH (.node o v i l) (.node o' v' i' l')=(o==o'&&(v==v'&&(i==i'&&zJ l l'))):=by rw[fH]
theorem Ya (a b:EX) (l l':List EX):zJ (a::l) (b::l')=(fH a b&&zJ l l'):=by rw[zJ]
theorem Yb:∀ {l l':List EX},zJ l l'=true->l.length=l'.length
 | [],[],_=>rfl
 | [],_::_,h=>by cases h; all_goals simp
 | _::_,[],h=>by cases h; all_goals simp
 | a::l,b::l',h=>by rw[Ya,bI] at h; rw[bM,bM,Yb h.2]
theorem a5':∀ x y:EX,fH x y=true->x=y:=by
 intro x;induction x using EX.ind with
 | h o v i l ih =>
  intro y;obtain ⟨o',v',i',l'⟩:=y;intro h;rw[TA,bI,bI,bI] at h;obtain ⟨h1,h2,h3,h4⟩:=h;have hl:∀ (l:List EX),(∀ e,e∈l->∀ y,fH e y=true->e=y)->∀ l',zJ l l'=true->l=l':=by
   intro l;induction l with
   | nil=>intro _ l' h; cases l' with
    | nil=>rfl
    | cons b l'=>have:=Yb h; cases this
   | cons a l ihl =>
    intro hi l' h;cases l' with
    | nil=>have:=Yb h; cases this
    | cons b l' =>rw[Ya,bI] at h;rw[hi a (by simp) b h.1,ihl (fun e he=>hi e (by simp[he])) l' h.2]
  rw[hl l ih l' h4,show o=o' by grind,show v=v' by grind,show i=i' by grind]
theorem Hg:∀ x:EX,fH x x=true:=by
 intro x;induction x using EX.ind with
 | h o v i l ih =>
  have hl:∀ (l:List EX),(∀ e,e∈l->fH e e=true)->zJ l l=true:=by
   intro l;induction l with
   | nil=>intro _; rw[zJ]
   | cons a l ihl=>grind [Ya]
  rw[TA,beq_self_eq_true,beq_self_eq_true,beq_self_eq_true,hl l ih]; rfl
theorem drop_cons {α:Type} {l r:List α} {a:α} (h:l.drop k=a::r):∃ hk:k<l.length,l[k]=a/\l.drop (k+1)=r:=by grind [List.drop_eq_nil_of_le,List.drop_eq_getElem_cons]
theorem aHA (la lb:List EX) (hn:la.length<9223372036854775807) (hl:la.length=lb.length) (ih:∀ e,e∈la->∀ y,SS.CC 83 [A1 (ev e),A1 (ev y)] []=some (.bool (fH e y),[])) :
 ∀ (a b:List EX) (k:Nat),la.drop k=a->lb.drop k=b->k<=la.length->Z4 (lw lb) (lw la) (k:Int)=some (.bool (zJ a b),[])
 | [],b,k,ha,hb,hk=>by have h1:la.length<=k:=NC.1 ha;grind [aIC,zL,aC,zJ]
 | a::ta,b,k,ha,hb,hk=>by
  obtain ⟨h1,h2,h3⟩:=drop_cons ha;have hkb:k<lb.length:=by omega
  rw[D5 hkb] at hb;subst hb;rw[aIC,aN (by rw[zL]; omega),Bg h1,Bg hkb,h2,aZ (ih a (by rw[<- h2]; exact dY h1) _),Ya];cases fH a lb[k] with
  | false=>rfl
  | true =>rw[wrap64 (by omega) (by omega),show ((k:Int)+1)=((k+1:Nat):Int) by omega];exact aHA la lb hn hl ih ta _ (k+1) h3 rfl (by omega)
theorem di {x:EX} (h:x.Len):∀ y,SS.CC 83 [A1 (ev x),A1 (ev y)] []=some (.bool (fH x y),[]):=by
 induction h with
 | @mk o v i l hl _ _ _ _ ih =>
  intro y;obtain ⟨o',v',i',l'⟩:=y;rw[b9J,jP,jP,TA];cases o==o' with
  | false=>rfl
  | true =>
   cases v==v' with
   | false=>rfl
   | true =>
    cases i==i' with
    | false=>rfl
    | true =>
     rw[aI,aI,aI,N8,N8,N8];have:SS.CC 178 [.sl false 4 (lw l),.sl false 4 (lw l'),.func (.func 83) [] []] []=some (.bool (zJ l l'),[]):=by
      rw[b0Q,zL,zL];by_cases hll:l.length=l'.length
      .rw[show ((l.length:Int) !=(l'.length:Int))=false by simp[hll]];exact aHA l l' (by omega) hll ih l l' 0 rfl rfl (Ee _)
      .rw[show ((l.length:Int) !=(l'.length:Int))=true by simp; omega,aI];grind [Yb]
     rw[aZ this]
def yB (o:Int):Nat:=if o=0\/o=1 then 0 else if o=5\/o=10 then 1 else if o=13 then 3 else 2
inductive Fd (n:Int):EX->Prop
 | mk {o v i:Int} {l:List EX}:0<=o->o<=13->l.length=yB o->(o≠0->v=0)->(o≠1->i=0)->(o=0 -> -65536<=v/\v<=65536)->(o=1->0<=i/\i<n)->(∀ e,e∈l->Fd n e)->Fd n (.node o v i l)
mutual
def fU:EX->Nat
 | .node _ _ _ l=>uB l+1
def uB:List EX->Nat
 | []=>0
 | e::l=>fU e+uB l
end
mutual
def gJ:EX->Nat
 | .node _ _ _ l=>AP l+1
def AP:List EX->Nat
 | []=>0
 | e::l=>max (gJ e) (AP l)
end
theorem arc (o:Int):∃ a b,SS.CC 248 [bZV o] []=some (.tuple [bZV a,.bool b],[])/\(b=true->0<=o/\o<=13/\a=(yB o:Int)):=by
 rw[aK7];by_cases h:0<=o/\o<=13
 .have:o=0\/o=1\/o=2\/o=3\/o=4\/o=5\/o=6\/o=7\/o=8\/o=9\/o=10\/o=11\/o=12\/o=13:=by omega
  rcases this with rfl | rfl | rfl | rfl | rfl | rfl | rfl | rfl | rfl | rfl | rfl | rfl | rfl | rfl<;>exact ⟨_,true,rfl,fun _=>⟨by decide,by decide,rfl⟩⟩
 .have f:∀ k:Int,0<=k/\k<=13->(o==k)=false:=fun k hk=>by simp; omega
  refine ⟨0,false,?_,fun h=>by cases h⟩;rw[f 0 (by decide),f 1 (by decide),f 5 (by decide),f 10 (by decide),f 2 (by decide),f 3 (by decide),f 4 (by decide),f 6 (by decide),f 7 (by decide),f 8 (by decide),f 9 (by decide),f 11 (by decide),f 12 (by decide),f 13 (by decide)];rfl
theorem lgc (v:Int) (h : -9223372036854775808<=v/\v<=9223372036854775807):∃ b,SS.CC 242 [bZV v,bZV 65536] []=some (.bool b,[])/\(b=false -> -65536<=v/\v<=65536):=by
 rw[aK8];by_cases h1:(65536:Int)<v;simp_all
 .rw[aW h1,wrap64 (by decide) (by decide)];simp_all
def RN (n:Int) (x:EX) (d c:Int) (r:R):Prop:=∃ e c',r=some (bZV e,[kQ (c',())])/\0<=c'/\c'<=64/\(e=0->Fd n x/\d+(gJ x:Int)<=9/\c'=c+(fU x:Int))
theorem aG' {m:Nat}:∀ {l:List EX},(∀ e,e∈l->gJ e<=m)->AP l<=m
 | [],_=>by rw[AP]; omega
 | a::l,h=>by exact Nat.max_le.2 ⟨h a (by simp),aG' fun e he=>h e (by simp[he])⟩
theorem aHP {n d:Int} (hd:d<=8) (hd0:0<=d) (all:List EX) (hn:all.length<=3) (ih:∀ e,e∈all->∀ d c,0<=d->d<=9->0<=c->c<=64->RN n e d c (SS.CC 183 [A1 (ev e),bZV n,bZV d,bZX] [kQ (c,())])) :
 ∀ (l:List EX) (k:Nat) (c:Int),all.drop k=l->k<=all.length->0<=c->c<=64->∃ e c',TR n d (lw all) c (k:Int)=some (bZV e,[kQ (c',())])/\0<=c'/\c'<=64/\(e=0->(∀ e,e∈l->Fd n e/\d+1+(gJ e:Int)<=9)/\c'=c+(uB l:Int))
 | [],k,c,ha,hk,h0,h1=>by have h2:all.length<=k:=NC.1 ha;rw[Z7,aW (by rw[zL]; omega),aC];grind [uB]
 | a::l,k,c,ha,hk,h0,h1=>by
  obtain ⟨k1,k2,k3⟩:=drop_cons ha;rw[Z7,aN (by rw[zL]; omega),aI,Bg k1,k2,wrap64 (by omega) (by omega)];obtain ⟨e,c',r1,r2,r3,r4⟩:=ih a (by rw[<- k2]; simp) (d+1) c (by omega) (by omega) h0 h1;rw[XW r1];by_cases he:e=0
  .rw[DU he,aC,wrap64 (by omega) (by omega)];obtain ⟨e2,c2,s1,s2,s3,s4⟩:=aHP hd hd0 all hn ih l (k+1) c' k3 (by omega) r2 r3;grind [uB]
  grind [aI]
theorem a_U {n:Int} {x:EX} (hx:x.Len):∀ d c,0<=d->d<=9->0<=c->c<=64->RN n x d c (SS.CC 183 [A1 (ev x),bZV n,bZV d,bZX] [kQ (c,())]):=by
 induction hx with
 | @mk o v i l hl hv ho hi _ ih =>
  intro d c h0 h1 h2 h3;have bad:∀ (e c':Int),e≠0->0<=c'->c'<=64->RN n (.node o v i l) d c (some (bZV e,[kQ (c',())])):=fun e c' he k1 k2=>⟨e,c',rfl,k1,k2,fun h=>absurd h he⟩
  rw[aIG,jP];try dsimp only
  by_cases hc:c=64
  .simp_all
  rw[show (c==64)=false by grind,aC];by_cases hd:8<d
  .simp_all
  rw[aW hd,aC];obtain ⟨a,b,e1,e2⟩:=arc o;rw[aEE e1];have hw:i64.wrap (c+1)=c+1:=wrap64 (by omega) (by omega);have bad':∀ e:Int,e≠0->RN n (.node o v i l) d c (some (bZV e,[kQ (c+1,())])):=fun e he=>bad e _ he (by omega) (by omega)
  cases b with
  | false=>simp_all
  | true =>
   obtain ⟨o1,o2,rfl⟩:=e2 rfl;rw[Ed,aC,zL];by_cases hlen:l.length=yB o
   .have hl3:l.length<=3:=by grind [yB]
    rw[show ((l.length:Int) !=(yB o:Int))=false by simp[hlen],aC];have good:(o≠0->v=0)->(o≠1->i=0)->(o=0 -> -65536<=v/\v<=65536)->(o=1->0<=i/\i<n)->RN n (.node o v i l) d c (TQ n d (o,v,i,lw l,()) (c+1)):=fun g1 g2 g3 g4=>by
     rw[aIE];obtain ⟨e,c',r1,r2,r3,r4⟩:=aHP (by omega) h0 l hl3 ih l 0 (c+1) rfl (Ee _) (by omega) (by omega);refine ⟨e,c',r1,r2,r3,fun h => ?_⟩;obtain ⟨t1,t2⟩:=r4 h;refine ⟨.mk o1 o2 hlen g1 g2 g3 g4 fun e he=>(t1 e he).1,?_,?_⟩
     .rw[gJ];have:=aG' (m:=(8-d).toNat) fun e he=>by have:=(t1 e he).2; omega
      omega
     .rw[fU]; omega
    obtain ⟨bl,q1,q2⟩:=lgc v hv;rw[aZ q1];by_cases p0:o=0
    .subst p0;rw[show ((0:Int) != 0)=false from rfl,aC,show ((0:Int) != 1)=true from rfl];by_cases p2:i=0
     .cases bl with
      | true=>simp_all
      | false =>simp_all
     grind [aI]
    .by_cases p1:v=0;grind [aC,aI,aW]
     grind [aI]
   .rw[show ((l.length:Int) !=(yB o:Int))=true by simp; omega];simp_all
abbrev fA (l:List Int):bZZ:=l.map fun k => bZV k
theorem aOC (all:List Int) (hn:all.length<1000000000000) (a:Int):∀ (l:List Int) (k:Nat),all.drop k=l->∃ r,U4 (fA all) a (k:Int)=some (bZV r,[])
 | [],k,h=>by have h1:all.length<=k:=NC.1 h;rw[Zf,aW (by rw[bF]; omega),aC];simp
 | x::l,k,h=>by
  obtain ⟨h1,h2,h3⟩:=drop_cons h;rw[Zf,aN (by rw[bF]; omega),aI,nS (e := bZV x) (by omega) (by rw[pG,lL,jU h1,h2]; rfl),ui,aZ (aKB x a)];cases x != a with
  | true=>simp
  | false =>rw[aC,wrap64 (by omega) (by omega),show ((k:Int)+1)=((k+1:Nat):Int) by omega];exact aOC all hn a l (k+1) h3
theorem aXN (ks:List Int) (hn:ks.length<1000000000000) (a:Int):∃ b,SS.CC 249 [bZV a,bZX] [iw (fA ks,())]=some (.bool b,[iw (fA ks,())]):=by
 obtain ⟨r,hr⟩:=aOC ks hn a ks 0 rfl;have h1:SS.CC 292 [bZW (fA ks),.func (.func 251) [] [.cst (bZV a)]] []=some (bZV r,[]):=(aKV _ _).trans hr;have h2:SS.CC 250 [bZW (fA ks),.func (.func 251) [] [.cst (bZV a)]] []=some (.bool (decide (0<=r)),[]):=by rw[aKA,cZ h1]
 exact ⟨_,by rw[aK9,aZ h2]⟩
def Tot (r:R):Prop:=∃ k,r=some (bZV k,[])
theorem vP {b:Bool} {x y:R} (hx:Tot x) (hy:Tot y):Tot (aA b x y):=by cases b<;>assumption
theorem J6 (k:Int):Tot (some (bZV k,[])):=⟨k,rfl⟩
theorem bT' {ks:List Int} (hn:ks.length<1000000000000) {a p q:Int}:Tot (zA 249 [bZV a,bZX] [iw (fA ks,())] fun b _=>aA b (some (bZV p,[])) (some (bZV q,[]))):=by obtain ⟨b,hb⟩:=aXN ks hn a;rw[RZ hb];grind [vP,J6]
theorem aOZ {o v i:Int} {all:List EX} (hn:all.length<=3) (h13:o=13->all.length=3) (ho:0<=o/\o<=13) (ih:∀ e,e∈all->Tot (SS.CC 184 [A1 (ev e)] [])) :
 ∀ (l:List EX) (k:Nat) (ks:List Int),all.drop k=l->ks.length=k->k<=all.length->Tot (OY (o,v,i,lw all,()) (k:Int) (fA ks))
 | [],k,ks,h,hk,hk2=>by
  have h1:all.length<=k:=NC.1 h;have hks:ks.length<1000000000000:=by omega
  rw[Jw];try dsimp only
  rw[aW (by rw[zL]; omega),aC];have al:=fun a p q=>bT' hks (a:=a) (p:=p) (q:=q)
  refine vP (J6 _) (vP (J6 _) (vP (al _ _ _) (vP (al _ _ _) (vP (al _ _ _) (vP (al _ _ _) (vP (al _ _ _) (vP (al _ _ _) (vP (al _ _ _) (vP (al _ _ _) (vP (al _ _ _) (vP (al _ _ _) (vP (al _ _ _) ?_))))))))))));by_cases h3:o=13
  .rw[show (o==13)=true by simp[h3],aI];have hl:=h13 h3;match ks,hk with
   | [a,b,c],_ =>rw[show fA [a,b,c] = [PV.int .i64 a,bZV b,bZV c] from rfl,nS (e := bZV a) (by decide) rfl,ui];refine vP ?_ (J6 _);rw[nS (e := bZV b) (by decide) rfl,ui,nS (e := bZV c) (by decide) rfl,ui];refine vP ?_ (J6 _);exact J6 _
   | [],hk=>grind
   | [_],hk=>grind
   | [_,_],hk=>grind
   | _::_::_::_::_,hk=>grind
  grind [aC,J6]
 | a::l,k,ks,h,hk,hk2=>by
  obtain ⟨h1,h2,h3⟩:=drop_cons h;rw[Jw];try dsimp only
  rw[aN (by rw[zL]; omega),aI,Bg h1,h2];obtain ⟨n,hn1⟩:=ih a (by rw[<- h2]; simp);rw[cZ hn1];refine vP (J6 _) ?_;rw[aQ (aN (by rw[bF]; unfold aO; omega)),wrap64 (by omega) (by omega),show ((k:Int)+1)=((k+1:Nat):Int) by omega,show fA ks ++ ([bZV n]:bZZ)=fA (ks ++ [n]) by simp];exact aOZ hn h13 ho ih l (k+1) (ks ++ [n]) h3 (by simp[hk]) (by omega)
theorem bKZ {n:Int} {x:EX} (h:Fd n x):Tot (SS.CC 184 [A1 (ev x)] []):=by
 induction h with
 | @mk o v i l h1 h2 h3 _ _ _ _ _ ih =>
  rw[aIH,jP];have hl:l.length<=3:=by rw[h3]; grind [yB]
  exact aOZ hl (fun h=>by rw[h3,h]; rfl) ⟨h1,h2⟩ ih l 0 [] rfl rfl (Ee _)
theorem a5R {x:EX} (hx:x.Len) {n:Int} (h0:0<=n) (h1:n<=16):∃ k e,SS.CC 111 [A1 (ev x),bZV n] []=some (.tuple [bZV k,bZV e],[])/\(e=0->Fd n x/\gJ x<=8/\fU x<=64):=by
 rw[a7G,aW (by omega),aC,aW (by omega),aC];obtain ⟨e,c',r1,r2,r3,r4⟩:=a_U (n:=n) hx 1 0 (by decide) (by decide) (by decide) (by decide);rw[XW r1];try dsimp only
 by_cases he:e=0
 .obtain ⟨f1,f2,f3⟩:=r4 he;rw[DU he,aC];obtain ⟨k,hk⟩:=bKZ f1;rw[cZ hk];cases k==0 with
  | true=>exact ⟨_,_,rfl,fun h=>by cases h⟩
  | false=>exact ⟨_,_,rfl,fun _=>⟨f1,by omega,by omega⟩⟩
 .rw[SL he,aI];grind
def CJ (k n:Nat):Bool:=isLet n||(decide (k≠0)&&iG n)
def Ae:bZ'->Nat->Bool
 | [],_=>true
 | b::l,k=>CJ k b.toNat&&Ae l (k+1)
def nameB (l:bZ'):Bool:=Ae l 0&&(decide (0<l.length)&&decide (l.length<=32))
theorem bNH (h:((97<=n/\n<=122)\/(65<=n/\n<=90)\/n=95)\/(k≠0/\48<=n/\n<=57)):CJ k n=true:=by grind [CJ,isLet,iG]
theorem bNG (h:¬ (((97<=n/\n<=122)\/(65<=n/\n<=90)\/n=95)\/(k≠0/\48<=n/\n<=57))):CJ k n=false:=by rw[Bool.eq_false_iff];grind [CJ,isLet,iG]
theorem aRF (all:bZ') (hn:all.length<=1000):∀ (l:bZ') (k:Nat),all.drop k=l->k<=all.length->F9 (bs all) (k:Int)=some (.bool (Ae l k&&(decide (0<all.length)&&decide (all.length<=32))),[])
 | [],k,h,hk=>by have h1:all.length<=k:=NC.1 h;rw[aKX,aW (by rw[mf]; omega),aC,Ae,N8,mf];grind [aI,aW,aC]
 | b::l,k,h,hk=>by
  obtain ⟨h1,h2,h3⟩:=drop_cons h;have ih:F9 (bs all) (i64.wrap ((k:Int)+1))=some (.bool (Ae l (k+1)&&(decide (0<all.length)&&decide (all.length<=32))),[]):=by rw[wrap64 (by omega) (by omega),show ((k:Int)+1)=((k+1:Nat):Int) by omega];exact aRF all hn l (k+1) h3 (by omega)
  rw[aKX,aN (by rw[mf]; omega),aI,Ew (b:=b) (by omega) (by rw[pG,H9,jU h1,h2]),ih,Ae];generalize b.toNat=n;have hf:CJ k n=false->(some (PV.bool false,[]):R)=some (.bool (CJ k n&&Ae l (k+1)&&(decide (0<all.length)&&decide (all.length<=32))),[]):=fun h=>by rw[h]; rfl
  have ht:CJ k n=true->(some (PV.bool (Ae l (k+1)&&(decide (0<all.length)&&decide (all.length<=32))),[]):R)=some (.bool (CJ k n&&Ae l (k+1)&&(decide (0<all.length)&&decide (all.length<=32))),[]):=fun h=>by rw[h,N8]
  simp only[O5,ny,uH,BA,qc];repeat' split
  all_goals first
   | exact ht (bNH (by omega))
   | exact hf (bNG (by omega))
theorem LD (l:bZ') (hn:l.length<=1000):SS.CC 51 [.str (bs l)] []=some (.bool (nameB l),[]):=by rw[bAR]; exact aRF l hn l 0 rfl (Ee _)
theorem aT6 (l:bZ'):SS.CC 110 [.str (bs l)] []=some (.bool (l==nX||l==pV),[]):=by rw[b1B,HY,tlT,tlF];cases l==nX<;>rfl
abbrev vF (l:List (bZ')):List bZY:=l.map bs
theorem aA6 {l:List (bZ')} (hk:k<l.length):(rq (vF l))[(k:Int).toNat]? = some (.str (bs l[k])):=by grind [rq]
theorem bN0 (l:List (bZ')):(rq (vF l)).length=l.length:=by grind [rq]
theorem Gp {a:bZZ} {l1:bZZ} {K:RS.F (.tl false 5) R} (e:SS.CC g a []=some (.sl false 5 l1,[])):NR g a K=K l1:=uK e rfl
theorem aWE {a:bZZ} {l1:bZZ} {K:RS.F (.tl true 5) R} (e:SS.CC g a []=some (.sl true 5 l1,[])):G49 g a K=K l1:=uK e rfl
theorem aWR {a:bZZ} {h:aG} {l:bZZ} {K:RS.F (.o (.H 0 0 5)) (dm [.a])} (e:SS.CC g a h=some (.slh 0 0 n 5,[some l])):H50 g a h K=K (n,()) l:=fZ e rfl
def rU (ts:List Tok):List Tok:=ts.filter fun t=>t.kind != 4
def DV (t:Tok):bZZ := [bZV t.kind,.str (bs t.text),bZV t.value,bZV t.line,bZV t.uq]
def kJ (us:List Tok):bZZ:=us.flatMap DV
theorem OV (t:Tok) (us:List Tok):kJ (t::us)=DV t ++ kJ us:=rfl
theorem aH':∀ (us:List Tok),eu (us.map bK)=kJ us
 | []=>rfl
 | t::us=>by rw[OV,<- aH' us]; rfl
theorem TJ:∀ (us:List Tok),(kJ us).length=us.length*5
 | []=>rfl
 | t::us=>by rw[OV,aU,TJ us,bM]; show 5+_=_; omega
theorem b03 (a b:List Tok):kJ (a ++ b)=kJ a ++ kJ b:=List.flatMap_append
theorem Yq:∀ (us:List Tok) (j:Nat),(kJ us).drop (j*5)=kJ (us.drop j)
 | [],j=>by simp[kJ]
 | t::us,0=>rfl
 | t::us,j+1=>by rw[OV,List.drop_succ_cons,<- Yq us j];grind [DV]
theorem a6L:∀ (us:List Tok) (j:Nat),(kJ us).take (j*5)=kJ (us.take j)
 | [],j=>by simp[kJ]
 | t::us,0=>by simp[kJ]
 | t::us,j+1=>by rw[OV,List.take_succ_cons,OV,<- a6L us j];grind [DV]
theorem aI2 {us:List Tok} {j:Nat} {t:Tok} (h:us[j]? = some t):((kJ us).drop (j*5)).take 5=DV t:=by
 have hlt:=(iO.1 h).1;rw[Yq,D5 hlt];rw[jU hlt] at h; injection h with h
 rw[h]; rfl
theorem b05 {us:List Tok} (h:i<us.length) (t:Tok):(kJ us).take (i*5) ++ DV t ++ (kJ us).drop (i*5+5)=kJ (us.set i t):=by rw[show i*5+5=(i+1)*5 by omega,a6L,Yq,List.set_eq_take_append_cons_drop,aX h,b03,OV,nJ]
theorem b04 (us:List Tok):(kJ us).all uX=true:=by rw[jF];intro p hp;obtain ⟨t,_,ht⟩:=List.mem_flatMap.1 hp;simp only[DV,kG,yw,yz] at ht;rcases ht with rfl | rfl | rfl | rfl | rfl<;>rfl
theorem aI1 (us:List Tok):((kJ us).all fun p=>p.one&&p.flat)=true:=by rw[jF];intro p hp;obtain ⟨t,_,ht⟩:=List.mem_flatMap.1 hp;simp only[DV,kG,yw,yz] at ht;rcases ht with rfl | rfl | rfl | rfl | rfl<;>rfl
theorem bTY (us:List Tok):(us.map bK).all (yV 5)=true:=by rw[jF];intro p hp;obtain ⟨t,_,rfl⟩:=uG.1 hp;rfl
theorem aI0 {us:List Tok} (h:k<=us.length):lT 5 (kJ us) k=(us.take k).map bK:=by
 show (List.range k).map (fun j=>PV.agg ((((kJ us).drop (j*5)).take 5).map PV.un))=_;apply ND;intro j;by_cases hj:j<k
 .have h1:us[j]? = some us[j]:=jU (by omega);rw[lL,List.getElem?_range hj,lL,mV,aX hj,h1,XI,aI2 h1];rfl
 simp_all
theorem bWJ (m:Nat):((List.replicate m (([bZV 0,.str ⟨#[]⟩,bZV 0,bZV 0,bZV 0]:bZZ):bZZ)).flatten.map PV.un)=kJ (List.replicate m Tok.zero):=by
 induction m with
 | zero=>rfl
 | succ m ih=>rw[List.replicate_succ,List.flatten_cons,qZ,ih]; rfl
theorem Jv (us:List Tok):(kJ us).all pW=true:=aI1 us
theorem bU (h:k<1000000000000):i64.wrap ((k:Int)+1)=((k+1:Nat):Int):=by rw[wrap64 (by omega) (by omega)]; omega
theorem YX {a b:Int} (h:a=b):(a==b)=true:=by simp[h]
theorem a5Z {a b:Int} (h:a≠b):(a==b)=false:=by simp[h]
theorem V3 {ts:List Tok} (hk:k<ts.length) (K:Sh.V lm->R):aj lm (ts.map bK) (k:Int) K=K (tk ts[k]):=by show bz (ts.map bK) (k:Int) _=_;rw[nS (by omega) (by rw[pG,lL,jU hk]; rfl)];rfl
theorem gvT (t:Tok) (K:Sh.V lm->R):Dw lm (.agg ((DV t).map PV.un)) K=K (tk t):=rfl
theorem m65 (t:Tok):SS.CC 214 [oK (tk t)] []=some (.bool (t.kind==4),[]):=b9W _
theorem bM0 (ts:List Tok) (hl:ts.length<=1000000):∀ (m k:Nat),k+m=ts.length->(∀ t,t∈ts.take k->t.kind≠4) ->
 (U9 (ts.map bK) (k:Int)=some (bZV (-1),[])/\∀ t,t∈ts->t.kind≠4)\/∃ (p:Nat) (t:Tok),U9 (ts.map bK) (k:Int)=some (bZV (p:Int),[])/\ts[p]? = some t/\t.kind=4/\∀ t,t∈ts.take p->t.kind≠4:=by
 intro m;induction m with
 | zero =>grind [aL5,aC]
 | succ m ih =>
  intro k hk h;have h1:ts[k]? = some ts[k]:=jU (by omega);rw[aL5,aN (by rw[bF]; omega),V3 (by omega),aZ (m65 _),bU (by omega)];by_cases h4:ts[k].kind=4;grind [aI]
  .rw[a5Z h4];refine ih (k+1) (by omega) fun t ht => ?_
   rw[JL (by omega)] at ht;grind
theorem m82 (ts:List Tok) (hl:ts.length<=1000000):(SS.CC 276 [.sl false 5 (ts.map bK),.func (.func 214) [] []] []=some (bZV (-1),[])/\∀ t,t∈ts->t.kind≠4)\/∃ (p:Nat) (t:Tok),SS.CC 276 [.sl false 5 (ts.map bK),.func (.func 214) [] []] []=some (bZV (p:Int),[])/\ts[p]? = some t/\t.kind=4/\∀ t,t∈ts.take p->t.kind≠4:=by rw[bC7];exact bM0 ts hl ts.length 0 (by omega) (by simp)
theorem Je {ts:List Tok} (h:∀ t,t∈ts->t.kind≠4):rU ts=ts:=aDZ.2 fun t ht=>by simp_all
theorem a5H (a b:List Tok):rU (a ++ b)=rU a ++ rU b:=List.filter_append ..
theorem Y5 {t:Tok} (h:t.kind=4) (l:List Tok):rU (t::l)=rU l:=List.filter_cons_of_neg (by simp[h])
theorem aYA {t:Tok} (h:t.kind≠4) (l:List Tok):rU (t::l)=t::rU l:=List.filter_cons_of_pos (by simp_all)
theorem bLZ (ts:List Tok) (hl:ts.length<=1000000) (h0:0<ts.length):∀ (m i j:Nat) (us:List Tok),j+m=ts.length->i<=j->us.length=ts.length->us.drop j=ts.drop j ->
 ∃ k wW,Tz ts.length (i:Int) (kJ us) (j:Int)=some (.slh 0 0 k 5,[some (kJ wW)])/\wW.length=ts.length/\k<=ts.length/\wW.take k=us.take i ++ rU (ts.drop j):=by
 intro m;induction m with
 | zero =>
  intro i j us hj hij hul hd;rw[aKJ];simp only[Jv,JG,pG,qK,TJ];rw[aQ rfl,aW (by omega),aC,aQ rfl,aQ (by simp<;>omega)];by_cases hi:i<ts.length
  .have e1:(kJ us).take (i*5) ++ (List.replicate (ts.length-i) [PV.int .i64 0,.str ⟨#[]⟩,bZV 0,bZV 0,bZV 0]).flatten.map PV.un ++ (kJ us).drop (i*5+(ts.length-i)*5)=kJ (us.take i ++ List.replicate (ts.length-i) Tok.zero):=by rw[bWJ,a6L,show i*5+(ts.length-i)*5=ts.length*5 by omega,<- hul,Yq,JI (fK _)];simp[kJ]
   rw[aN (by omega),aI,e1,aQ (aN (by omega)),aQ (by simp<;>omega),Jv,aQ (b:=true&&true) rfl];grind [rU]
  .rw[aW (by omega),aC,aQ (by simp<;>omega),aQ rfl];grind [rU]
 | succ m ih =>
  intro i j us hj hij hul hd;have hjl:j<ts.length:=by omega
  have h2:us[j]? = some ts[j]:=by have:=congrArg (fun l=>l[0]?) hd;grind
  have hd1:us.drop (j+1)=ts.drop (j+1):=by have:=congrArg (fun l=>l.drop 1) hd;simpa using this
  rw[D5 hjl];rw[aKJ];simp only[Jv,JG,pG,qK,TJ,aI2 h2];rw[aQ rfl,aN (by omega),aI,aQ rfl,aQ (by simp<;>omega),aQ (aN (by omega)),gvT,aZ (m65 _)];by_cases h4:ts[j].kind=4
  .rw[YX h4,Ed,aC,aQ rfl,bU (by omega)];obtain ⟨k,wW,q1,q2,q3,q4⟩:=ih i (j+1) us (by omega) (by omega) hul hd1;grind [Y5]
  .have hil:i<us.length:=by omega
   have e1:=b05 hil ts[j];rw[a5Z h4,BB,aI,aQ (by simp<;>omega),aQ (aN (by omega)),show [PV.int .i64 ts[j].kind,.str (bs ts[j].text),bZV ts[j].value,bZV ts[j].line,bZV ts[j].uq]=DV ts[j] from rfl,e1,Jv,aQ (b:=true&&true) rfl,
    bU (by omega),bU (by omega)]
   obtain ⟨k,wW,q1,q2,q3,q4⟩:=ih (i+1) (j+1) (us.set i ts[j]) (by omega) (by omega) (by rw[JJ]; exact hul) (by rw[List.drop_set_of_lt (by omega)]; exact hd1);grind [List.take_succ_eq_append_getElem,List.take_set_of_le,aYA]
theorem m63 (ts:List Tok) (hl:ts.length<=1000000) (h0:0<ts.length):∃ k wW,SS.CC 212 [.slh 0 0 ts.length 5,.func (.func 214) [] []] [some (kJ ts)]=some (.slh 0 0 k 5,[some (kJ wW)])/\wW.length=ts.length/\k<=ts.length/\wW.take k=rU ts:=by
 rw[b9U];simp only[b04,Jv,TJ];rw[aQ (by simp),aI0 (fK _),Qw (fK _)];rcases m82 ts hl with ⟨e,h⟩ | ⟨p,t,e,h1,h2,h3⟩
 .rw[cZ e,YX rfl,aI,aQ (b:=true&&true) rfl];grind [Je]
 .have hp:=(iO.1 h1).1;rw[cZ e,bU (by omega)];obtain ⟨k,wW,q1,q2,q3,q4⟩:=bLZ ts hl h0 (ts.length-(p+1)) p (p+1) ts (by omega) (by omega) rfl rfl;refine ⟨k,wW,q1,q2,q3,?_⟩;rw[q4];have hsplit:ts=ts.take p ++ t::ts.drop (p+1):=by grind [List.take_append_drop,List.drop_eq_getElem_cons]
  conv=>rhs; rw[hsplit,a5H,Je h3,Y5 h2]
theorem bL':SS.CC 212 [.sl false 5 [],.func (.func 214) [] []] []=some (.sl false 5 [],[]):=XN dQ 60 (by kernel_rfl)
theorem m64 (ts:List Tok) (hl:ts.length<=1000000):SS.CC 213 [.sl false 5 (ts.map bK)] []=some (.sl true 5 (ts.map bK),[]):=by
 rw[b9V];refine aRB ?_ fun h => ?_
 grind [aC,aQ,aO]
 .rw[h]; rfl
theorem m32 (ts:List Tok) (hl:ts.length<=1000000):SS.CC 129 [.sl false 5 (ts.map bK)] []=some (.sl false 5 ((rU ts).map bK),[]):=by
 rw[b73,aWE (m64 ts hl),bF];by_cases h0:0<ts.length
 .obtain ⟨k,wW,q1,q2,q3,q4⟩:=m63 ts hl h0;rw[aN h0,aI,aQ (bTY ts),aH',Jv,aQ (b:=true&&true) rfl,aWR q1,Jv,aQ (b:=true&&true) rfl,aI1,TJ,aQ (by rw[aN (by omega)]; rfl),aI0 (by omega),q4]
 .have:ts = []:=lJ (by omega);subst this;rw[Gp bL']; rfl
abbrev tW (s:bZ'):Tok:=⟨1,s,0,0,0⟩
abbrev tS (s:bZ'):Tok:=⟨3,s,0,0,0⟩
abbrev tN (n:Nat):Tok:=⟨2,Lib.decDigits n,n,0,0⟩
def dO (v:Int):List Tok:=if v<0 then [tS [45],tN (-v).toNat] else [tN v.toNat]
def iJ (x:EX):Int:=if fH x tE=true then 7 else if fH x fE=true then 7 else match x with
 | .node o v _ _=>if o=0 then (if v<0 then 6 else 7) else if o=1 then 7 else if o=2 then 4 else if o=3 then 4 else if o=4 then 5 else if o=5 then 6 else if o=6 then 3 else if o=7 then 3 else if o=8 then 3 else if o=9 then 3 else if o=10 then 6 else if o=11 then 2 else if o=12 then 1 else 0
def wp (x:EX) (need:Int) (B:List Tok):List Tok:=if iJ x<need then tS [40]::(B ++ [tS [41]]) else B
inductive PB (ns:List (List UInt8)):EX->List Tok->Prop
 | tt:PB ns tE [tW nX]
 | ff:PB ns fE [tW pV]
 | num {v:Int} : -65536<=v->v<=65536->PB ns (nE v) (dO v)
 | var {i:Nat} {s:bZ'}:ns[i]? = some s->PB ns (vE (i:Int)) [tW s]
 | IU {v:Int}:0<=v->v<=65536->PB ns (nE v) (dO v)->PB ns (kN 5 (nE v)) (tS [45]::tS [40]::(dO v ++ [tS [41]]))
 | neg {o v i:Int} {l:List EX} {B:List Tok}:(o≠0\/v<0)->PB ns (.node o v i l) B->PB ns (kN 5 (.node o v i l)) (tS [45]::wp (.node o v i l) 6 B)
 | xR {a:EX} {B:List Tok}:PB ns a B->PB ns (kN 10 a) (tS [33]::wp a 6 B)
 | cmp {o:Int} {a b:EX} {A B:List Tok}:(o=6\/o=7\/o=8\/o=9)->fH (lS o a b) tE=false->fH (lS o a b) fE=false->PB ns a A->PB ns b B->PB ns (lS o a b) (wp a 4 A ++ tS (qA o)::wp b 4 B)
 | bin {o lv:Int} {a b:EX} {A B:List Tok}:(o=2/\lv=4\/o=3/\lv=4\/o=4/\lv=5\/o=11/\lv=2\/o=12/\lv=1)->PB ns a A->PB ns b B->PB ns (lS o a b) (wp a lv A ++ tS (qA o)::wp b (lv+1) B)
 | ite {c a b:EX} {C A B:List Tok}:PB ns c C->PB ns a A->PB ns b B->PB ns (.node 13 0 0 [c,a,b]) (wp c 1 C ++ tS [63]::(wp a 0 A ++ tS [58]::wp b 0 B))
theorem Gg (x:EX) (need:Int) (B:List Tok):(wp x need B).length<=B.length+2:=by grind [wp]
theorem aRU {l:List EX} (h:l.length=1):∃ a,l = [a]:=by
 match l,h with
 | [a],_=>simp
theorem aVM {l:List EX} (h:l.length=2):∃ a b,l = [a,b]:=by
 match l,h with
 | [a,b],_=>simp
theorem bTO {l:List EX} (h:l.length=3):∃ a b c,l = [a,b,c]:=by
 match l,h with
 | [a,b,c],_=>simp
theorem LC {l:List EX} (h:l.length=0):l = []:=lJ h
theorem bPJ (ns:List (bZ')) {x:EX} (h:Fd (ns.length:Int) x):∃ B,PB ns x B/\B.length<=8*fU x:=by
 induction h with
 | @mk o v i l h1 h2 h3 h4 h5 h6 h7 _ ih =>
  have hop:o=0\/o=1\/o=2\/o=3\/o=4\/o=5\/o=6\/o=7\/o=8\/o=9\/o=10\/o=11\/o=12\/o=13:=by omega
  by_cases ht:fH (.node o v i l) tE=true
  .rw[a5' _ _ ht]; exact ⟨_,.tt,by decide⟩
  by_cases hf:fH (.node o v i l) fE=true
  .rw[a5' _ _ hf]; exact ⟨_,.ff,by decide⟩
  have sz1:∀ a:EX,fU (.node o v i [a])=fU a+1:=fun a=>by rfl
  have sz2:∀ a b:EX,fU (.node o v i [a,b])=fU a+fU b+1:=fun a b=>by rfl
  have bi:∀ lv:Int,(o=2/\lv=4\/o=3/\lv=4\/o=4/\lv=5\/o=11/\lv=2\/o=12/\lv=1)->∃ B,PB ns (.node o v i l) B/\B.length<=8*fU (.node o v i l):=fun lv hlv=>by obtain ⟨a,b,rfl⟩:=aVM (show l.length=2 by rw[h3]; grind [yB]);obtain rfl:=h4 (by omega);obtain rfl:=h5 (by omega);obtain ⟨A,a1,a2⟩:=ih a (by simp);obtain ⟨B,b1,b2⟩:=ih b (by simp);have w1:=Gg a lv A;have w2:=Gg b (lv+1) B;exact ⟨_,.bin hlv a1 b1,by rw[sz2,aU,bM]; omega⟩
  have cm:(o=6\/o=7\/o=8\/o=9)->∃ B,PB ns (.node o v i l) B/\B.length<=8*fU (.node o v i l):=fun ho=>by obtain ⟨a,b,rfl⟩:=aVM (show l.length=2 by rw[h3]; grind [yB]);obtain rfl:=h4 (by omega);obtain rfl:=h5 (by omega);obtain ⟨A,a1,a2⟩:=ih a (by simp);obtain ⟨B,b1,b2⟩:=ih b (by simp);have w1:=Gg a 4 A;have w2:=Gg b 4 B;exact ⟨_,.cmp ho (by grind) (by grind) a1 b1,by rw[sz2,aU,bM]; omega⟩
  rcases hop with rfl | rfl | rfl | rfl | rfl | rfl | rfl | rfl | rfl | rfl | rfl | rfl | rfl | rfl
  .obtain rfl:=LC (show l.length=0 from h3);obtain rfl:=h5 (by decide);obtain ⟨v1,v2⟩:=h6 rfl;refine ⟨_,.num v1 v2,?_⟩;grind [dO,fU]
  .obtain rfl:=LC (show l.length=0 from h3);obtain rfl:=h4 (by decide);obtain ⟨i1,i2⟩:=h7 rfl;have hi:i.toNat<ns.length:=by omega
   have hv:(EX.node 1 0 i [])=vE (i.toNat:Int):=by rw[aDY i1]; rfl
   rw[hv];exact ⟨_,.var (jU hi),by simp[fU,uB,vE]⟩
  simp_all;simp_all;simp_all
  .obtain ⟨a,rfl⟩:=aRU (show l.length=1 from h3);obtain rfl:=h4 (by decide);obtain rfl:=h5 (by decide);obtain ⟨A,a1,a2⟩:=ih a (by simp);obtain ⟨ao,av,ai,al⟩:=a;by_cases hc:ao≠0\/av<0
   .have w1:=Gg (.node ao av ai al) 6 A;exact ⟨_,.neg hc a1,by rw[sz1,bM]; omega⟩
   .have h0:ao=0:=by omega
    subst h0;cases a1 with
    | num v1 v2 =>refine ⟨_,.IU (by omega) v2 (.num v1 v2),?_⟩;rw[sz1,bM,bM,aU,uF];omega
    | cmp ho=>omega
    | bin ho=>omega
  simp_all;simp_all;simp_all;simp_all
  .obtain ⟨a,rfl⟩:=aRU (show l.length=1 from h3);obtain rfl:=h4 (by decide);obtain rfl:=h5 (by decide);obtain ⟨A,a1,a2⟩:=ih a (by simp);have w1:=Gg a 6 A;exact ⟨_,.xR a1,by rw[sz1,bM]; omega⟩
  simp_all;simp_all
  .obtain ⟨c,a,b,rfl⟩:=bTO (show l.length=3 from h3);obtain rfl:=h4 (by decide);obtain rfl:=h5 (by decide);obtain ⟨C,c1,c2⟩:=ih c (by simp);obtain ⟨A,a1,a2⟩:=ih a (by simp);obtain ⟨B,b1,b2⟩:=ih b (by simp);have w0:=Gg c 1 C;have w1:=Gg a 0 A;have w2:=Gg b 0 B;refine ⟨_,.ite c1 a1 b1,?_⟩;rw[show fU (.node 13 0 0 [c,a,b])=fU c+fU a+fU b+1 by simp[fU,uB]; omega,aU,bM,aU,bM];omega
theorem Bl {x:EX} (hx:x.Len):∀ {o v i:Int} {l:List EX},x = .node o v i l->0<=o->o<=13->SS.CC 185 [A1 (ev x)] []=some (bZV (iJ x),[])/\SS.CC 274 [A1 (ev x)] []=some (bZV (iJ x),[]):=by
 intro o v i l e h1 h2;have hop:o=0\/o=1\/o=2\/o=3\/o=4\/o=5\/o=6\/o=7\/o=8\/o=9\/o=10\/o=11\/o=12\/o=13:=by omega
 rw[b8E,b1I,dN c116,dN c116,aZ (di hx tE),aZ (di hx tE)];unfold iJ;cases ct:fH x tE with
 | true=>simp
 | false =>
  rw[aC,aC,dN c117,dN c117,aZ (di hx fE),aZ (di hx fE)];cases cf:fH x fE with
  | true=>simp
  | false =>
   subst e;rw[aC,aC,jP,aV (by decide),aV (by decide)];try dsimp only
   rcases hop with rfl | rfl | rfl | rfl | rfl | rfl | rfl | rfl | rfl | rfl | rfl | rfl | rfl | rfl
   .by_cases hv:v<0;simp_all
    .rw[aW hv,aV hv]; exact ⟨rfl,rfl⟩
   all_goals exact ⟨rfl,rfl⟩
theorem RH {args:bZZ} {h:aG} {v:PV×aG} (e:CS g args h=some v):SS.CC g args h=some v:=by rw[JU dQ];show Fb (CS g args h) _=_;rw[e]; rfl
theorem is_other {A:RA} (h:A.ok) {s t:bZ'} (hs:s∈jS) (ht:t∈jS) (c:A.is s=true) (hne:s≠t):A.is t=false:=by grind [PG]
section
variable {A B:RA} {x:EX} {d:Int} {v:bZZ}
end
def mk0 (T:List Tok):RA:=⟨T,0,0,0⟩
theorem je {T:List Tok} (h:bD T):(mk0 T).ok:=fun _=>h
theorem yP {t:Tok} {T:List Tok} (h:t.kind≠4):(mk0 (t::T)).next=mk0 T:=by unfold RA.next;rw[aX ⟨rfl,h⟩]; rfl
theorem GV {t:Tok} {T:List Tok} (h:bD (t::T)) (hk:t.kind≠4):bD T:=by
 rcases h with ⟨h,_⟩ | h
 omega
 .exact h.2
def uy (s:bZ') (t:Tok):Prop:=t.kind=3/\t.text=s
theorem KY {s:bZ'} (hs:s∈jS) {t:Tok} {T:List Tok} (h:bD (t::T)) (ht:uy s t):(mk0 (t::T)).is s=true:=by rw[PG (je h) hs];show (t.kind==3&&t.text==s)=true;rw[ht.1,ht.2]; simp
theorem Dz {s:bZ'} {t:Tok} {T:List Tok} (ht:uy s t):(mk0 (t::T)).next=mk0 T:=yP (by rw[ht.1]; decide)
abbrev dh (l:List Tok):Sh.V gu:=(l.map bK,())
theorem kF (s:bZY) (acc:List Tok) (h:acc.length+1<=1000000):SS.CC 136 [bZX,bZW [.str s]] [aF (dh acc)]=some (.tuple [],[aF (dh (acc ++ [tS s.data.toList]))]):=by rw[aJD,TY,aN (by simp),aI,nS (e := .str s) (by decide) rfl,jT,aQ (aN (by rw[bF]; unfold aO; omega)),wrap64 (by decide) (by decide),TY,aW (by simp),aC];grind [bK,YE]
theorem sy2 (s r:bZY) (acc:List Tok) (h:acc.length+2<=1000000):SS.CC 136 [bZX,bZW [.str s,.str r]] [aF (dh acc)]=some (.tuple [],[aF (dh (acc ++ [tS s.data.toList,tS r.data.toList]))]):=by
 rw[aJD,TY,aN (by simp),aI,nS (e := .str s) (by decide) rfl,jT,aQ (aN (by rw[bF]; unfold aO; omega)),wrap64 (by decide) (by decide),
  TY,aN (by simp),aI,nS (e := .str r) (by decide) rfl,jT,aQ (aN (by rw[aU,bF]; grind [aO])),wrap64 (by decide) (by decide),TY,aW (by simp),aC]
 grind [bK,YE]
theorem xq (s:bZY) (acc:List Tok) (h:acc.length+1<=1000000):SS.CC 135 [bZX,bZW [.str s]] [aF (dh acc)]=some (.tuple [],[aF (dh (acc ++ [tW s.data.toList]))]):=by rw[a6V,ZO,aN (by simp),aI,nS (e := .str s) (by decide) rfl,jT,aQ (aN (by rw[bF]; unfold aO; omega)),wrap64 (by decide) (by decide),ZO,aW (by simp),aC];grind [bK,YE]
theorem bJK (m:Int):CS 123 [bZV m] []=(match decide (0<=m)&&decide (m<Rf) with | true=>some (PV.str ⟨(Lib.decDigits m.toNat).toArray⟩,([]:aG)) | false=>none):=rfl
theorem a0X (n:Nat) (h:n<=65536):SS.CC 123 [bZV (n:Int)] []=some (.str (bs (Lib.decDigits n)),[]):=by refine RH ?_;rw[bJK,aN (by omega),aN (by unfold Rf; omega),pG];rfl
theorem aRM (n:Nat) (h:n<=65536) (acc:List Tok) (h2:acc.length+1<=1000000):ZP (acc.map bK) (n:Int)=some (.tuple [],[aF (dh (acc ++ [tN n]))]):=by rw[b5E,pJ (a0X n h),aQ (aN (by rw[bF]; unfold aO; omega))];grind [bK]
theorem IZ {v:Int} (h0 : -65536<=v) (h1:v<=65536) (acc:List Tok) (h:acc.length+(dO v).length<=1000000):SS.CC 137 [bZX,bZV v] [aF (dh acc)]=some (.tuple [],[aF (dh (acc ++ dO v))]):=by
 rw[b5G];unfold dO at h ⊢;by_cases hv:v<0
 .rw[aX hv] at h ⊢;have h:acc.length+2<=1000000:=h;rw[aN hv,aI,bQ (kF ⟨#[45]⟩ acc (by omega))];grind [wrap64,aRM]
 grind [aC,aRM]
abbrev NS (ns:List (bZ')):bZZ:=rq (vF ns)
def WR (ns:List (bZ')) (x:EX) (need:Int) (T:List Tok):Prop:=∀ acc:List Tok,acc.length+T.length+1<=1000000 ->
 SS.CC 112 [bZX,bZW (NS ns),A1 (ev x),bZV need] [aF (dh acc)]=some (.tuple [],[aF (dh (acc ++ T))])
def GL (o:Int):bZY:=if o=2 then ⟨#[43]⟩ else if o=3 then ⟨#[45]⟩ else if o=4 then ⟨#[42]⟩ else if o=5 then ⟨#[45]⟩ else if o=6 then ⟨#[61,61]⟩ else if o=7 then ⟨#[33,61]⟩ else if o=8 then ⟨#[60]⟩ else if o=9 then ⟨#[60,61]⟩ else if o=10 then ⟨#[33]⟩ else if o=11 then ⟨#[38,38]⟩ else if o=12 then ⟨#[124,124]⟩ else if o=13 then ⟨#[63]⟩ else ⟨#[]⟩
def EX.op:EX->Int
 | .node o _ _ _=>o
def WB (ns:List (bZ')) (x:EX) (B:List Tok):Prop:=∀ acc:List Tok,acc.length+B.length+1<=1000000 ->
 tC (NS ns) (ev x) (iJ x) (acc.map bK) (GL x.op)=some (.tuple [],[aF (dh (acc ++ B))]) /\
 tH (NS ns) (ev x) (iJ x) (acc.map bK) (GL x.op)=some (.tuple [],[aF (dh (acc ++ B ++ [tS [41]]))])
theorem a_8 (x:EX):(ev x).1=x.op:=by obtain ⟨o,v,i,l⟩:=x; rw[jP]; rfl
theorem Gh {ns:List (bZ')} {x:EX} {B:List Tok} (hx:x.Len) (h1:0<=x.op) (h2:x.op<=13) (hb:WB ns x B) (need:Int):WR ns x need (wp x need B):=by
 intro acc hacc;have hop:x.op=0\/x.op=1\/x.op=2\/x.op=3\/x.op=4\/x.op=5\/x.op=6\/x.op=7\/x.op=8\/x.op=9\/x.op=10\/x.op=11\/x.op=12\/x.op=13:=by omega
 have lv:SS.CC 185 [A1 (ev x)] []=some (bZV (iJ x),[]):=by obtain ⟨o,v,i,l⟩:=x;exact (Bl hx rfl h1 h2).1
 rw[b1E,cZ lv,a_8];unfold wp at hacc ⊢;by_cases hn:iJ x<need
 .rw[aX hn] at hacc ⊢;rw[bM,aU,uF] at hacc;rw[aN hn,aI,bQ (kF ⟨#[40]⟩ acc (by omega))];try dsimp only
  have hb:=(hb (acc ++ [tS [40]]) (by rw[aU,uF]; omega)).2;rw[nJ,nJ] at hb;rw[aQ (by rw[aN (by omega),aN (by omega)]; rfl)];rcases hop with h | h | h | h | h | h | h | h | h | h | h | h | h | h<;>(rw[h] at hb ⊢; exact hb)
 .rw[aV hn] at hacc ⊢;have hb:=hb acc;rw[aW hn,aC,aQ (by rw[aN (by omega),aN (by omega)]; rfl)];have hb:=(hb hacc).1;rcases hop with h | h | h | h | h | h | h | h | h | h | h | h | h | h<;>(rw[h] at hb ⊢; exact hb)
theorem zq (acc:List Tok) (h:acc.length+1<=1000000):SS.CC 136 [bZX,bZW [.str ⟨#[41]⟩]] [aF (dh acc)]=some (.tuple [],[aF (dh (acc ++ [tS [41]]))]):=kF _ acc h
theorem syQ (acc:List Tok) (h:acc.length+1<=1000000):SS.CC 136 [bZX,bZW [.str ⟨#[63]⟩]] [aF (dh acc)]=some (.tuple [],[aF (dh (acc ++ [tS [63]]))]):=kF _ acc h
theorem syD (acc:List Tok) (h:acc.length+1<=1000000):SS.CC 136 [bZX,bZW [.str ⟨#[58]⟩]] [aF (dh acc)]=some (.tuple [],[aF (dh (acc ++ [tS [58]]))]):=kF _ acc h
theorem aV7 (acc:List Tok) (h:acc.length+2<=1000000):SS.CC 136 [bZX,bZW [.str ⟨#[45]⟩,.str ⟨#[40]⟩]] [aF (dh acc)]=some (.tuple [],[aF (dh (acc ++ [tS [45],tS [40]]))]):=sy2 _ _ acc h
theorem woT (acc:List Tok) (h:acc.length+1<=1000000):SS.CC 135 [bZX,bZW [.str ⟨#[116,114,117,101]⟩]] [aF (dh acc)]=some (.tuple [],[aF (dh (acc ++ [tW nX]))]):=xq _ acc h
theorem woF (acc:List Tok) (h:acc.length+1<=1000000):SS.CC 135 [bZX,bZW [.str ⟨#[102,97,108,115,101]⟩]] [aF (dh acc)]=some (.tuple [],[aF (dh (acc ++ [tW pV]))]):=xq _ acc h
theorem woB (s:bZ') (acc:List Tok) (h:acc.length+1<=1000000):SS.CC 135 [bZX,bZW [.str (bs s)]] [aF (dh acc)]=some (.tuple [],[aF (dh (acc ++ [tW s]))]):=xq _ acc h
def CY (o:Int):bZ':=if o=5 then [45] else if o=10 then [33] else qA o
theorem Ea {o:Int} (ho:o=2\/o=3\/o=4\/o=5\/o=6\/o=7\/o=8\/o=9\/o=10\/o=11\/o=12) (acc:List Tok) (h:acc.length+1<=1000000):SS.CC 136 [bZX,bZW [.str (GL o)]] [aF (dh acc)]=some (.tuple [],[aF (dh (acc ++ [tS (CY o)]))]):=by rw[kF _ acc h];rcases ho with rfl | rfl | rfl | rfl | rfl | rfl | rfl | rfl | rfl | rfl | rfl<;>rfl
theorem agc {ns:List (bZ')} {o v i:Int} {l:List EX} (hk:k<l.length) {need:Int} {T:List Tok} (hw:WR ns l[k] need T) (acc:List Tok) (h:acc.length+T.length+1<=1000000):
 SS.CC 186 [bZV (k:Int),bZV need,bZX,.cst (bZW (NS ns)),.cst (A1 (o,v,i,lw l,()))] [some [.ptr 1 0],aF (dh acc)]=some (.tuple [],[some [.ptr 1 0],aF (dh (acc ++ T))]):=by
 rw[b8F];rw[Bg hk,bQ (hw acc h)]
theorem y9 {ns:List (bZ')} {o v i:Int} {a:EX} {l:List EX} {need:Int} {T:List Tok} (hw:WR ns a need T) (acc:List Tok) (h:acc.length+T.length+1<=1000000) :
 SS.CC 186 [bZV 0,bZV need,bZX,.cst (bZW (NS ns)),.cst (A1 (o,v,i,lw (a::l),()))] [some [.ptr 1 0],aF (dh acc)]=some (.tuple [],[some [.ptr 1 0],aF (dh (acc ++ T))]):=agc (by simp) hw acc h
theorem Ny {ns:List (bZ')} {o v i:Int} {a b:EX} {l:List EX} {need:Int} {T:List Tok} (hw:WR ns b need T) (acc:List Tok) (h:acc.length+T.length+1<=1000000) :
 SS.CC 186 [bZV 1,bZV need,bZX,.cst (bZW (NS ns)),.cst (A1 (o,v,i,lw (a::b::l),()))] [some [.ptr 1 0],aF (dh acc)]=some (.tuple [],[some [.ptr 1 0],aF (dh (acc ++ T))]):=agc (by simp) hw acc h
theorem ag2 {ns:List (bZ')} {o v i:Int} {a b c:EX} {l:List EX} {need:Int} {T:List Tok} (hw:WR ns c need T) (acc:List Tok) (h:acc.length+T.length+1<=1000000) :
 SS.CC 186 [bZV 2,bZV need,bZX,.cst (bZW (NS ns)),.cst (A1 (o,v,i,lw (a::b::c::l),()))] [some [.ptr 1 0],aF (dh acc)]=some (.tuple [],[some [.ptr 1 0],aF (dh (acc ++ T))]):=agc (by simp) hw acc h
theorem Len.arg {o v i:Int} {l:List EX} (h:(EX.node o v i l).Len) {e:EX} (he:e∈l):e.Len:=by
 cases h with
 | mk _ _ _ _ h5=>grind
theorem yR {o v i:Int} {l:List EX} (h:o≠6):fH (.node o v i l) tE=false:=by grind [tE,TA]
theorem zg {o v i:Int} {l:List EX} (h:o≠7):fH (.node o v i l) fE=false:=by grind [fE,TA]
section
variable {ns:List (bZ')}
theorem bWA (hx:tE.Len):WB ns tE [tW nX]:=fun acc h=>by
 constructor
 .rw[Dl,dN c116,aZ (di hx tE),show fH tE tE=true from Hg _,aI,bQ (woT acc (by omega))]
 .rw[Dn,dN c116,aZ (di hx tE),show fH tE tE=true from Hg _,aI,bQ (woT acc (by omega)),bQ (zq _ (by rw[aU]; omega))]
theorem bW4 (hx:fE.Len):WB ns fE [tW pV]:=fun acc h=>by
 have ht:fH fE tE=false:=yR (by decide);constructor
 .rw[Dl,dN c116,aZ (di hx tE),ht,aC,dN c117,aZ (di hx fE),show fH fE fE=true from Hg _,aI,bQ (woF acc (by omega))]
 .rw[Dn,dN c116,aZ (di hx tE),ht,aC,dN c117,aZ (di hx fE),show fH fE fE=true from Hg _,aI,bQ (woF acc (by omega)),bQ (zq _ (by rw[aU]; omega))]
theorem bW9 {v:Int} (h0 : -65536<=v) (h1:v<=65536) (hx:(EX.node 0 v 0 []).Len):WB ns (nE v) (dO v):=fun acc h=>by
 have ht:fH (.node 0 v 0 []) tE=false:=yR (by decide);have hf:fH (.node 0 v 0 []) fE=false:=zg (by decide);unfold nE;constructor
 .rw[Dl,dN c116,aZ (di hx tE),ht,aC,dN c117,aZ (di hx fE),hf,aC,jP];rw[show ((0:Int)==0)=true from rfl,aI,bQ (IZ h0 h1 acc (by omega))]
 .rw[Dn,dN c116,aZ (di hx tE),ht,aC,dN c117,aZ (di hx fE),hf,aC,jP];rw[show ((0:Int)==0)=true from rfl,aI,bQ (IZ h0 h1 acc (by omega)),bQ (zq _ (by rw[aU]; omega))]
theorem bWB {s:bZ'} (hs:ns[i]? = some s) (hx:(EX.node 1 0 (i:Int) []).Len):WB ns (vE (i:Int)) [tW s]:=fun acc h=>by
 have ht:fH (.node 1 0 (i:Int) []) tE=false:=yR (by decide);have hf:fH (.node 1 0 (i:Int) []) fE=false:=zg (by decide);have hg:(NS ns)[(i:Int).toNat]? = some (.str (bs s)):=by grind [aA6]
 unfold vE;constructor
 .rw[Dl,dN c116,aZ (di hx tE),ht,aC,dN c117,aZ (di hx fE),hf,aC,jP];rw[show ((1:Int)==0)=false from rfl,aC,show ((1:Int)==1)=true from rfl,aI,nS (by omega) hg,jT,bQ (woB s acc (by omega))]
 .rw[Dn,dN c116,aZ (di hx tE),ht,aC,dN c117,aZ (di hx fE),hf,aC,jP];rw[show ((1:Int)==0)=false from rfl,aC,show ((1:Int)==1)=true from rfl,aI,nS (by omega) hg,jT,bQ (woB s acc (by omega)),bQ (zq _ (by rw[aU]; omega))]
theorem bW7 {v:Int} (h0:0<=v) (hw:WR ns (nE v) 0 (dO v)) (hx:(EX.node 5 0 0 [nE v]).Len):WB ns (kN 5 (nE v)) (tS [45]::tS [40]::(dO v ++ [tS [41]])):=fun acc h=>by
 have h:acc.length+((dO v ++ [tS [41]]).length+1+1)+1<=1000000:=h;rw[aU,uF] at h;have ht:fH (.node 5 0 0 [nE v]) tE=false:=yR (by decide);have hf:fH (.node 5 0 0 [nE v]) fE=false:=zg (by decide);have e:acc ++ tS [45]::tS [40]::(dO v ++ [tS [41]])=acc ++ [tS [45],tS [40]] ++ dO v ++ [tS [41]]:=by simp
 have l1:(acc ++ [tS [45],tS [40]]).length=acc.length+2:=by simp
 have l2:(acc ++ [tS [45],tS [40]] ++ dO v).length=acc.length+2+(dO v).length:=by rw[aU,l1]
 rw[e];constructor
 .rw[Dl,dN c116,aZ (di hx tE),ht,aC,dN c117,aZ (di hx fE),hf,aC,jP];rw[show ((5:Int)==0)=false from rfl,aC,show ((5:Int)==1)=false from rfl,aC,show ((5:Int)==5)=true from rfl,aI,uQ,uQ,Jo];rw[show ((0:Int)==0)=true from rfl,aI,aN h0,aI,bQ (aV7 acc (by omega)),oM (y9 hw _ (by omega)),bQ (zq _ (by omega))]
 .rw[Dn,dN c116,aZ (di hx tE),ht,aC,dN c117,aZ (di hx fE),hf,aC,jP];rw[show ((5:Int)==0)=false from rfl,aC,show ((5:Int)==1)=false from rfl,aC,show ((5:Int)==5)=true from rfl,aI,uQ,uQ,Jo];rw[show ((0:Int)==0)=true from rfl,aI,aN h0,aI,bQ (aV7 acc (by omega)),oM (y9 hw _ (by omega)),bQ (zq _ (by omega)),bQ (zq _ (by rw[aU,uF]; omega))]
theorem bW6 {o v i:Int} {l:List EX} {T:List Tok} (hc:o≠0\/v<0) (hw:WR ns (.node o v i l) 6 T) (hx:(EX.node 5 0 0 [.node o v i l]).Len):WB ns (kN 5 (.node o v i l)) (tS [45]::T):=fun acc h=>by
 have h:acc.length+(T.length+1)+1<=1000000:=h;have ht:fH (.node 5 0 0 [.node o v i l]) tE=false:=yR (by decide);have hf:fH (.node 5 0 0 [.node o v i l]) fE=false:=zg (by decide);have e:acc ++ tS [45]::T=acc ++ [tS [45]] ++ T:=by simp
 have l1:(acc ++ [tS [45]]).length=acc.length+1:=by simp
 rw[e];show tC _ _ _ _ (GL 5)=_/\tH _ _ _ _ (GL 5)=_;constructor
 .rw[Dl,dN c116,aZ (di hx tE),ht,aC,dN c117,aZ (di hx fE),hf,aC,jP];rw[show ((5:Int)==0)=false from rfl,aC,show ((5:Int)==1)=false from rfl,aC,show ((5:Int)==5)=true from rfl,aI,uQ,uQ,jP];try dsimp only
  by_cases h0:o=0
  .rw[show (o==0)=true by simp[h0],aI,aW (by omega),aC,aI,bQ (Ea (by simp) acc (by omega))];rw[show CY 5 = [45] from rfl,oM (y9 hw _ (by omega))]
  .rw[show (o==0)=false by grind,aC,aI,bQ (Ea (by simp) acc (by omega))];rw[show CY 5 = [45] from rfl,oM (y9 hw _ (by omega))]
 .rw[Dn,dN c116,aZ (di hx tE),ht,aC,dN c117,aZ (di hx fE),hf,aC,jP];rw[show ((5:Int)==0)=false from rfl,aC,show ((5:Int)==1)=false from rfl,aC,show ((5:Int)==5)=true from rfl,aI,uQ,uQ,jP];try dsimp only
  by_cases h0:o=0
  .rw[show (o==0)=true by simp[h0],aI,aW (by omega),aC,aI,bQ (Ea (by simp) acc (by omega))];rw[show CY 5 = [45] from rfl,oM (y9 hw _ (by omega)),bQ (zq _ (by rw[aU]; omega))]
  .rw[show (o==0)=false by grind,aC,aI,bQ (Ea (by simp) acc (by omega))];rw[show CY 5 = [45] from rfl,oM (y9 hw _ (by omega)),bQ (zq _ (by rw[aU]; omega))]
theorem bW8 {a:EX} {T:List Tok} (hw:WR ns a 6 T) (hx:(EX.node 10 0 0 [a]).Len):WB ns (kN 10 a) (tS [33]::T):=fun acc h=>by
 have h:acc.length+(T.length+1)+1<=1000000:=h;have ht:fH (.node 10 0 0 [a]) tE=false:=yR (by decide);have hf:fH (.node 10 0 0 [a]) fE=false:=zg (by decide);have e:acc ++ tS [33]::T=acc ++ [tS [33]] ++ T:=by simp
 have l1:(acc ++ [tS [33]]).length=acc.length+1:=by simp
 rw[e];show tC _ _ _ _ (GL 10)=_/\tH _ _ _ _ (GL 10)=_;constructor
 .rw[Dl,dN c116,aZ (di hx tE),ht,aC,dN c117,aZ (di hx fE),hf,aC,jP];rw[show ((10:Int)==0)=false from rfl,aC,show ((10:Int)==1)=false from rfl,aC,show ((10:Int)==5)=false from rfl,aC,aC,show ((10:Int)==10)=true from rfl,aI,bQ (Ea (by simp) acc (by omega)),show CY 10 = [33] from rfl,oM (y9 hw _ (by omega))]
 .rw[Dn,dN c116,aZ (di hx tE),ht,aC,dN c117,aZ (di hx fE),hf,aC,jP];rw[show ((10:Int)==0)=false from rfl,aC,show ((10:Int)==1)=false from rfl,aC,show ((10:Int)==5)=false from rfl,aC,aC,show ((10:Int)==10)=true from rfl,aI,bQ (Ea (by simp) acc (by omega)),show CY 10 = [33] from rfl,oM (y9 hw _ (by omega)),bQ (zq _ (by rw[aU]; omega))]
theorem bW5 {c a b:EX} {C A B:List Tok} (hc:WR ns c 1 C) (ha:WR ns a 0 A) (hb:WR ns b 0 B) (hx:(EX.node 13 0 0 [c,a,b]).Len):WB ns (.node 13 0 0 [c,a,b]) (C ++ tS [63]::(A ++ tS [58]::B)):=fun acc h=>by
 rw[aU,bM,aU,bM] at h;have ht:fH (.node 13 0 0 [c,a,b]) tE=false:=yR (by decide);have hf:fH (.node 13 0 0 [c,a,b]) fE=false:=zg (by decide);have e:acc ++ (C ++ tS [63]::(A ++ tS [58]::B))=acc ++ C ++ [tS [63]] ++ A ++ [tS [58]] ++ B:=by simp
 have l1:(acc ++ C).length=acc.length+C.length:=by simp
 have l2:(acc ++ C ++ [tS [63]]).length=acc.length+C.length+1:=by rw[aU,l1]; rfl
 have l3:(acc ++ C ++ [tS [63]] ++ A).length=acc.length+C.length+1+A.length:=by rw[aU,l2]
 have l4:(acc ++ C ++ [tS [63]] ++ A ++ [tS [58]]).length=acc.length+C.length+1+A.length+1:=by rw[aU,l3]; rfl
 rw[e];constructor
 .rw[Dl,dN c116,aZ (di hx tE),ht,aC,dN c117,aZ (di hx fE),hf,aC,jP];rw[show ((13:Int)==0)=false from rfl,aC,show ((13:Int)==1)=false from rfl,aC,show ((13:Int)==5)=false from rfl,aC,aC,show ((13:Int)==10)=false from rfl,aC,show ((13:Int)==13)=true from rfl,aI,
   oM (y9 hc acc (by omega)),bQ (syQ _ (by omega)),oM (Ny ha _ (by omega)),bQ (syD _ (by omega)),oM (ag2 hb _ (by omega))]
 .rw[Dn,dN c116,aZ (di hx tE),ht,aC,dN c117,aZ (di hx fE),hf,aC,jP];rw[show ((13:Int)==0)=false from rfl,aC,show ((13:Int)==1)=false from rfl,aC,show ((13:Int)==5)=false from rfl,aC,aC,show ((13:Int)==10)=false from rfl,aC,show ((13:Int)==13)=true from rfl,aI,
   oM (y9 hc acc (by omega)),bQ (syQ _ (by omega)),oM (Ny ha _ (by omega)),bQ (syD _ (by omega)),oM (ag2 hb _ (by omega)),bQ (zq _ (by rw[aU]; omega))]
theorem aVY {o lv:Int} {a b:EX} {A B:List Tok} {n1 n2:Int} (ho:o=2\/o=3\/o=4\/o=6\/o=7\/o=8\/o=9\/o=11\/o=12) (hlv:iJ (lS o a b)=lv) (hn:lv=3/\n1=4/\n2=4\/lv≠3/\0<=lv/\lv<=7/\n1=lv/\n2=lv+1)
 (ht:fH (.node o 0 0 [a,b]) tE=false) (hf:fH (.node o 0 0 [a,b]) fE=false) (ha:WR ns a n1 A) (hb:WR ns b n2 B) (hx:(EX.node o 0 0 [a,b]).Len):WB ns (lS o a b) (A ++ tS (qA o)::B):=fun acc h=>by
 rw[aU,bM] at h;have e:acc ++ (A ++ tS (qA o)::B)=acc ++ A ++ [tS (CY o)] ++ B:=by rw[show CY o=qA o by unfold CY; rw[aV (by omega),aV (by omega)]]; simp
 have l1:(acc ++ A).length=acc.length+A.length:=by simp
 have l2:(acc ++ A ++ [tS (CY o)]).length=acc.length+A.length+1:=by rw[aU,l1]; rfl
 have b0:(o==0)=false:=by simp; omega
 have b1:(o==1)=false:=by simp; omega
 have b5:(o==5)=false:=by simp; omega
 have b10:(o==10)=false:=by simp; omega
 have b13:(o==13)=false:=by simp; omega
 rw[e,hlv];show tC _ _ _ _ (GL o)=_/\tH _ _ _ _ (GL o)=_;rcases hn with ⟨rfl,rfl,rfl⟩ | ⟨h3,h4,h5,rfl,rfl⟩
 .constructor
  .rw[Dl,dN c116,aZ (di hx tE),ht,aC,dN c117,aZ (di hx fE),hf,aC,jP];rw[b0,aC,b1,aC,b5,aC,aC,b10,aC,b13,aC,show ((3:Int)==3)=true from rfl,aI,oM (y9 ha acc (by omega)),bQ (Ea (by omega) _ (by omega)),oM (Ny hb _ (by omega))]
  .rw[Dn,dN c116,aZ (di hx tE),ht,aC,dN c117,aZ (di hx fE),hf,aC,jP];rw[b0,aC,b1,aC,b5,aC,aC,b10,aC,b13,aC,show ((3:Int)==3)=true from rfl,aI,oM (y9 ha acc (by omega)),bQ (Ea (by omega) _ (by omega)),oM (Ny hb _ (by omega)),bQ (zq _ (by rw[aU]; omega))]
 .have b3:(n1==3)=false:=by grind
  constructor
  .rw[Dl,dN c116,aZ (di hx tE),ht,aC,dN c117,aZ (di hx fE),hf,aC,jP];rw[b0,aC,b1,aC,b5,aC,aC,b10,aC,b13,aC,b3,aC,oM (y9 ha acc (by omega)),bQ (Ea (by omega) _ (by omega)),wrap64 (by omega) (by omega),oM (Ny hb _ (by omega))]
  .rw[Dn,dN c116,aZ (di hx tE),ht,aC,dN c117,aZ (di hx fE),hf,aC,jP];rw[b0,aC,b1,aC,b5,aC,aC,b10,aC,b13,aC,b3,aC,oM (y9 ha acc (by omega)),bQ (Ea (by omega) _ (by omega)),wrap64 (by omega) (by omega),oM (Ny hb _ (by omega)),bQ (zq _ (by rw[aU]; omega))]
end
theorem a1U {o lv:Int} {a b:EX} (h:o=2/\lv=4\/o=3/\lv=4\/o=4/\lv=5\/o=11/\lv=2\/o=12/\lv=1):iJ (lS o a b)=lv:=by rcases h with ⟨rfl,rfl⟩ | ⟨rfl,rfl⟩ | ⟨rfl,rfl⟩ | ⟨rfl,rfl⟩ | ⟨rfl,rfl⟩<;>rfl
theorem a1V {o:Int} {a b:EX} (h:o=6\/o=7\/o=8\/o=9) (ht:fH (lS o a b) tE=false) (hf:fH (lS o a b) fE=false):iJ (lS o a b)=3:=by unfold iJ;grind
theorem bPM (ns:List (bZ')) {x:EX} {B:List Tok} (h:PB ns x B):x.Len->WB ns x B/\0<=x.op/\x.op<=13:=by
 induction h with
 | tt=>grind [bWA,EX.op,tE]
 | ff=>grind [bW4,EX.op,fE]
 | num h0 h1=>grind [bW9,EX.op,nE]
 | var hs=>grind [bWB,EX.op,vE]
 | @IU v h0 h1 _ ih =>intro hx;obtain ⟨k1,k2,k3⟩:=ih (Len.arg hx (by simp));have hw:=Gh (Len.arg hx (by simp)) k2 k3 k1 0;grind [wp,nE,iJ,bW7,EX.op]
 | neg hc _ ih =>grind [Len.arg,bW6,Gh,EX.op]
 | xR _ ih =>grind [Len.arg,bW8,Gh,EX.op]
 | cmp ho ht hf _ _ iha ihb =>
  intro hx;obtain ⟨k1,k2,k3⟩:=iha (Len.arg hx (by simp));obtain ⟨m1,m2,m3⟩:=ihb (Len.arg hx (by simp));refine ⟨aVY (by omega) (a1V ho ht hf) (.inl ⟨rfl,rfl,rfl⟩) ht hf (Gh (Len.arg hx (by simp)) k2 k3 k1 4) (Gh (Len.arg hx (by simp)) m2 m3 m1 4) hx,?_,?_⟩;grind [EX.op]
  grind [EX.op]
 | bin ho _ _ iha ihb =>
  intro hx;obtain ⟨k1,k2,k3⟩:=iha (Len.arg hx (by simp));obtain ⟨m1,m2,m3⟩:=ihb (Len.arg hx (by simp));refine ⟨aVY (by omega) (a1U ho) (.inr ⟨by omega,by omega,by omega,rfl,rfl⟩) (yR (by omega)) (zg (by omega)) (Gh (Len.arg hx (by simp)) k2 k3 k1 _) (Gh (Len.arg hx (by simp)) m2 m3 m1 _) hx,?_,?_⟩;grind [EX.op]
  grind [EX.op]
 | ite _ _ _ KU iha ihb =>grind [Len.arg,bW5,Gh,EX.op]
def bV (T:List Tok):bZZ:=T.map fun t => .str (bs t.text)
theorem mP (T:List Tok):(bV T).length=T.length:=by grind [bV]
theorem sG (a b:List Tok):bV (a ++ b)=bV a ++ bV b:=by grind [bV]
theorem WI (t:Tok) (a:List Tok):bV (t::a) = .str (bs t.text)::bV a:=rfl
def MW (ns:List (bZ')) (x:EX) (B:List Tok):Prop:=∀ need:Int,need<=7->B.length+2<=1000000->SS.CC 211 [bZW (NS ns),A1 (ev x),bZV need] []=some (.sl true 1 (bV (wp x need B)),[])
def MB (ns:List (bZ')) (x:EX) (B:List Tok):Prop:=B.length+2<=1000000->∀ need:Int,need<=iJ x->SS.CC 211 [bZW (NS ns),A1 (ev x),bZV need] []=some (.sl true 1 (bV B),[])
theorem V7 (x:EX):0<=iJ x:=by obtain ⟨o,v,i,l⟩:=x;unfold iJ;dsimp only;omega
section
variable {ns:List (bZ')}
theorem IR {x:EX} {B:List Tok} (hx:x.Len) (h1:0<=x.op) (h2:x.op<=13) (hb:MB ns x B):MW ns x B:=fun need _ hl=>by
 unfold wp;by_cases hn:iJ x<need
 .have lv:SS.CC 274 [A1 (ev x)] []=some (bZV (iJ x),[]):=by obtain ⟨o,v,i,l⟩:=x;exact (Bl hx rfl h1 h2).2
  rw[aX hn,Dq,cZ lv,aN hn,lN (hb hl 0 (V7 x)),aQ (aN (by rw[mP]; unfold aO; omega)),aQ (aN (by rw[aU,mP]; grind [aO])),WI,sG];rfl
 .rw[aV hn]; exact hb hl need (by omega)
theorem bMF (hx:tE.Len):MB ns tE [tW nX]:=fun _ need hn=>by rw[Dq,cZ (Bl hx rfl (by decide) (by decide)).2,aW (by omega),dN c116,aZ (di hx tE),Hg];rfl
theorem bM9 (hx:fE.Len):MB ns fE [tW pV]:=fun _ need hn=>by rw[Dq,cZ (Bl hx rfl (by decide) (by decide)).2,aW (by omega),dN c116,aZ (di hx tE),dN c117,aZ (di hx fE),Hg];rfl
theorem Py {v:Int} (h0 : -65536<=v) (h1:v<=65536):SS.CC 126 [bZV v] []=some (.sl true 1 (bV (dO v)),[]):=by
 rw[bEU];unfold dO;by_cases hv:v<0
 .rw[aN hv,aX hv,show i64.wrap (0-v)=((-v).toNat:Int) by rw[wrap64 (by omega) (by omega)]; omega,pJ (a0X _ (by omega))];rfl
 .rw[show v=(v.toNat:Int) by omega,pJ (a0X _ (by omega))];rfl
theorem bME {v:Int} (h0 : -65536<=v) (h1:v<=65536) (hx:(EX.node 0 v 0 []).Len):MB ns (nE v) (dO v):=fun _ need hn=>by have ht:fH (.node 0 v 0 []) tE=false:=yR (by decide);have hf:fH (.node 0 v 0 []) fE=false:=zg (by decide);have lv:=(Bl hx rfl (by decide) (by decide)).2;unfold nE at hn ⊢;rw[Dq,cZ lv,aW (by omega),aC,dN c116,aZ (di hx tE),ht,aC,dN c117,aZ (di hx fE),hf,aC,cZ lv,jP];rw[show ((0:Int)==0)=true from rfl,aI,lN (Py h0 h1)]
theorem bMG {s:bZ'} (hs:ns[i]? = some s) (hx:(EX.node 1 0 (i:Int) []).Len):MB ns (vE (i:Int)) [tW s]:=fun _ need hn=>by
 have lv:=(Bl hx rfl (by decide) (by decide)).2;have hg:(NS ns)[(i:Int).toNat]? = some (.str (bs s)):=by grind [aA6]
 unfold vE at hn ⊢;rw[Dq,cZ lv,aW (by omega),dN c116,aZ (di hx tE),dN c117,aZ (di hx fE),cZ lv,jP];rw[nS (by omega) hg];rfl
theorem bMD {a:EX} {A:List Tok} (ha:MW ns a A) (hx:(EX.node 10 0 0 [a]).Len):MB ns (kN 10 a) (tS [33]::wp a 6 A):=fun hl need hn=>by
 rw[bM] at hl;have lv:=(Bl hx rfl (by decide) (by decide)).2;have hA:A.length<=(wp a 6 A).length:=by grind [wp]
 unfold kN at hn ⊢;rw[Dq,cZ lv,aW (by omega),dN c116,aZ (di hx tE),dN c117,aZ (di hx fE),cZ lv,jP];rw[uQ,lN (ha 6 (by decide) (by omega)),aQ (aN (by rw[mP]; unfold aO; omega))];rfl
theorem bMC {v:Int} (h0:0<=v) (ha:MW ns (nE v) (dO v)) (hp:wp (nE v) 0 (dO v)=dO v) (hx:(EX.node 5 0 0 [nE v]).Len):MB ns (kN 5 (nE v)) (tS [45]::tS [40]::(dO v ++ [tS [41]])):=fun hl need hn=>by rw[bM,bM,aU] at hl;have ht:fH (.node 5 0 0 [nE v]) tE=false:=yR (by decide);have hf:fH (.node 5 0 0 [nE v]) fE=false:=zg (by decide);have lv:=(Bl hx rfl (by decide) (by decide)).2;have h29:=ha 0 (by decide) (by omega);rw[hp,Jo] at h29;unfold kN at hn ⊢;rw[Dq,cZ lv,aW (by omega),aC,dN c116,aZ (di hx tE),ht,aC,dN c117,aZ (di hx fE),hf,aC,cZ lv,jP];rw[show ((5:Int)==0)=false from rfl,aC,show ((5:Int)==1)=false from rfl,aC,show ((5:Int)==10)=false from rfl,aC,uQ,Jo];rw[aN h0,lN h29,aQ (aN (by rw[mP]; unfold aO; omega)),aQ (aN (by rw[aU,mP]; grind [aO])),WI,WI,sG];rfl
theorem bMB {o v i:Int} {l:List EX} {A:List Tok} (hc:o≠0\/v<0) (ha:MW ns (.node o v i l) A) (hx:(EX.node 5 0 0 [.node o v i l]).Len):MB ns (kN 5 (.node o v i l)) (tS [45]::wp (.node o v i l) 6 A):=fun hl need hn=>by
 rw[bM] at hl;have ht:fH (.node 5 0 0 [.node o v i l]) tE=false:=yR (by decide);have hf:fH (.node 5 0 0 [.node o v i l]) fE=false:=zg (by decide);have lv:=(Bl hx rfl (by decide) (by decide)).2;have hA:A.length<=(wp (.node o v i l) 6 A).length:=by grind [wp]
 have hJ:Zu (NS ns) (5,0,0,lw [.node o v i l],())=some (.sl true 1 (bV (tS [45]::wp (.node o v i l) 6 A)),[]):=by rw[bC8];rw[uQ,lN (ha 6 (by decide) (by omega)),aQ (aN (by rw[mP]; unfold aO; omega))];rfl
 unfold kN at hn ⊢;rw[Dq,cZ lv,aW (by omega),aC,dN c116,aZ (di hx tE),ht,aC,dN c117,aZ (di hx fE),hf,aC,cZ lv,jP];rw[show ((5:Int)==0)=false from rfl,aC,show ((5:Int)==1)=false from rfl,aC,show ((5:Int)==10)=false from rfl,aC,uQ,jP];grind [aI,aW,aC]
theorem bMA {c a b:EX} {C A B:List Tok} (hc:MW ns c C) (ha:MW ns a A) (hb:MW ns b B) (hx:(EX.node 13 0 0 [c,a,b]).Len):MB ns (.node 13 0 0 [c,a,b]) (wp c 1 C ++ tS [63]::(wp a 0 A ++ tS [58]::wp b 0 B)):=fun hl need hn=>by
 rw[aU,bM,aU,bM] at hl;have ht:fH (.node 13 0 0 [c,a,b]) tE=false:=yR (by decide);have hf:fH (.node 13 0 0 [c,a,b]) fE=false:=zg (by decide);have lv:=(Bl hx rfl (by decide) (by decide)).2;have hC:C.length<=(wp c 1 C).length:=by grind [wp]
 have hA:A.length<=(wp a 0 A).length:=by grind [wp]
 have hB:B.length<=(wp b 0 B).length:=by grind [wp]
 have x1:SS.CC 211 [bZW (NS ns),A1 (ev a),bZV 0] []=_:=ha 0 (by decide) (by omega);rw[Dq,cZ lv,aW (by omega),aC,dN c116,aZ (di hx tE),ht,aC,dN c117,aZ (di hx fE),hf,aC,cZ lv,jP];rw[show ((13:Int)==0)=false from rfl,aC,show ((13:Int)==1)=false from rfl,aC,show ((13:Int)==10)=false from rfl,aC,show ((13:Int)==5)=false from rfl,aC,uQ,lN (hc 1 (by decide) (by omega)),aQ (aN (by rw[mP]; unfold aO; omega)),show (1:Int)=((1:Nat):Int) from rfl,Bg (by simp)];rw[show [c,a,b][1]=a from rfl,lN x1,aQ (aN (by rw[aU,mP,mP]; grind [aO])),aQ (aN (by rw[aU,aU,mP,mP]; grind [aO])),show (2:Int)=((2:Nat):Int) from rfl,Bg (by simp)];rw[show [c,a,b][2]=b from rfl,lN (hb 0 (by decide) (by omega)),aQ (aN (by rw[aU,aU,aU,mP,mP,mP]; grind [aO])),sG,WI,sG];simp;exact ⟨rfl,rfl⟩
theorem aQS {o lv:Int} {a b:EX} {A B:List Tok} {n1 n2:Int} (ho:o=2\/o=3\/o=4\/o=6\/o=7\/o=8\/o=9\/o=11\/o=12) (hlv:iJ (lS o a b)=lv) (hn:(o=6\/o=7\/o=8\/o=9)/\n1=4/\n2=4\/(o=2\/o=3\/o=4\/o=11\/o=12)/\0<=lv/\lv<=6/\n1=lv/\n2=lv+1)
 (ht:fH (.node o 0 0 [a,b]) tE=false) (hf:fH (.node o 0 0 [a,b]) fE=false) (ha:MW ns a A) (hb:MW ns b B) (hx:(EX.node o 0 0 [a,b]).Len):MB ns (lS o a b) (wp a n1 A ++ tS (qA o)::wp b n2 B):=fun hl need hn2=>by
 rw[aU,bM] at hl;have hA:A.length<=(wp a n1 A).length:=by grind [wp]
 have hB:B.length<=(wp b n2 B).length:=by grind [wp]
 have lvv:=(Bl hx rfl (by omega) (by omega)).2;have bIV:iJ (.node o 0 0 [a,b])=lv:=hlv;have hd:bV (wp a n1 A ++ tS (qA o)::wp b n2 B)=bV (wp a n1 A) ++ [.str (bs (qA o))] ++ bV (wp b n2 B):=by rw[sG,WI]; simp
 have a29:=ha n1 (by omega) (by omega);have SK:=hb n2 (by omega) (by omega);have k1:∀ K,aj S1 (lw [a,b]) 1 K=K (ev b):=fun K=>Bg (by simp) K
 have c1:decide ((bV (wp a n1 A)).length+1<=aO)=true:=aN (by rw[mP]; unfold aO; omega);have c2:decide ((bV (wp a n1 A) ++ ([.str (bs (qA o))]:bZZ)).length+(bV (wp b n2 B)).length<=aO)=true:=aN (by rw[aU,mP,mP]; grind [aO]);rw[Dq,cZ lvv,aW (by omega),aC,dN c116,aZ (di hx tE),ht,aC,dN c117,aZ (di hx fE),hf,aC,cZ lvv,jP,hd,bIV];have b0:(o==0)=false:=by simp; omega
 have b1:(o==1)=false:=by simp; omega
 have b5:(o==5)=false:=by simp; omega
 have b10:(o==10)=false:=by simp; omega
 have b13:(o==13)=false:=by simp; omega
 rw[b0,aC,b1,aC,b10,aC,b5,aC,b13,aC];rcases hn with ⟨h,rfl,rfl⟩ | ⟨h,h0,h6,rfl,rfl⟩
 .rcases h with rfl | rfl | rfl | rfl
  .rw[show ((6:Int)==6)=true from rfl,aI,uQ,lN a29,pJ (Vm 6),aQ c1,k1,lN SK,aQ c2]
  .rw[show ((7:Int)==6)=false from rfl,aC,show ((7:Int)==7)=true from rfl,aI,uQ,lN a29,pJ (Vm 7),aQ c1,k1,lN SK,aQ c2]
  .rw[show ((8:Int)==6)=false from rfl,aC,show ((8:Int)==7)=false from rfl,aC,show ((8:Int)==8)=true from rfl,aI,uQ,lN a29,pJ (Vm 8),aQ c1,k1,lN SK,aQ c2]
  .rw[show ((9:Int)==6)=false from rfl,aC,show ((9:Int)==7)=false from rfl,aC,show ((9:Int)==8)=false from rfl,aC,show ((9:Int)==9)=true from rfl,aI,uQ,lN a29,pJ (Vm 9),aQ c1,k1,lN SK,aQ c2]
 .have b6:(o==6)=false:=by simp; omega
  have b7:(o==7)=false:=by simp; omega
  have b8:(o==8)=false:=by simp; omega
  have b9:(o==9)=false:=by simp; omega
  rw[b6,aC,b7,aC,b8,aC,b9,aC,uQ,lN a29,pJ (Vm o),aQ c1,k1,wrap64 (by omega) (by omega),lN SK,aQ c2]
end
theorem bPL (ns:List (bZ')) {x:EX} {B:List Tok} (h:PB ns x B):x.Len->MB ns x B/\0<=x.op/\x.op<=13:=by
 induction h with
 | tt=>grind [bMF,EX.op,tE]
 | ff=>grind [bM9,EX.op,fE]
 | num h0 h1=>grind [bME,EX.op,nE]
 | var hs=>grind [bMG,EX.op,vE]
 | @IU v h0 h1 _ ih =>grind [Len.arg,wp,nE,iJ,bMC,IR,EX.op]
 | neg hc _ ih =>grind [Len.arg,bMB,IR,EX.op]
 | xR _ ih =>grind [Len.arg,bMD,IR,EX.op]
 | cmp ho ht hf _ _ iha ihb =>
  intro hx;obtain ⟨k1,k2,k3⟩:=iha (Len.arg hx (by simp));obtain ⟨m1,m2,m3⟩:=ihb (Len.arg hx (by simp));refine ⟨aQS (by omega) (a1V ho ht hf) (.inl ⟨ho,rfl,rfl⟩) ht hf (IR (Len.arg hx (by simp)) k2 k3 k1) (IR (Len.arg hx (by simp)) m2 m3 m1) hx,?_,?_⟩;grind [EX.op]
  grind [EX.op]
 | bin ho _ _ iha ihb =>
  intro hx;obtain ⟨k1,k2,k3⟩:=iha (Len.arg hx (by simp));obtain ⟨m1,m2,m3⟩:=ihb (Len.arg hx (by simp));refine ⟨aQS (by omega) (a1U ho) (.inr ⟨by omega,by omega,by omega,rfl,rfl⟩) (yR (by omega)) (zg (by omega)) (IR (Len.arg hx (by simp)) k2 k3 k1) (IR (Len.arg hx (by simp)) m2 m3 m1) hx,?_,?_⟩;grind [EX.op]
  grind [EX.op]
 | ite _ _ _ KU iha ihb =>grind [Len.arg,bMA,IR,EX.op]
abbrev dB (t:Tok):Int×bZ'×Int:=(t.kind,t.text,t.value)
def Tv (t:Tok):Prop:=t.text ≠ []/\(bg t.text).2=0/\dB (bg t.text).1=dB t/\t.kind≠4
theorem bTF:∀ x∈jS,∀ c∈x.head?,yI c.toNat=false/\c≠47:=by decide
theorem a_X {b:UInt8} {r:bZ'} (h:(bg (b::r)).2=0):yI b.toNat=false/\b≠47:=by
 unfold bg at h;cases hd:iG b.toNat with
 | true =>simp only[iG,bI] at hd;refine ⟨?_,fun c=>by simp_all⟩;grind [yI]
 | false =>
  cases hl:isLet b.toNat with
  | true =>simp only[isLet,ny] at hl;refine ⟨?_,fun c=>by simp_all⟩;grind [yI]
  | false =>
   unfold Eb at h;cases hs:Ce (b::r) with
   | none=>simp_all
   | some x =>
    obtain ⟨m1,m2⟩:=aV8 hs;have hp:=(aCY x m1).1;match x,m1,m2,hp with
    | c::x,m1,m2,_ =>grind [bTF]
theorem a3G {b:UInt8} {r:bZ'} (h:(bg (b::r)).2=0) (u:bZ'):jD false (b::u)=0:=by obtain ⟨h1,h2⟩:=a_X h;grind [bSP]
def joinL:List Tok->bZ'
 | [] => []
 | [t]=>t.text
 | t::u::l=>t.text ++ 32::joinL (u::l)
theorem aTV:∀ (T:List Tok),T ≠ []->(∀ t,t∈T->Tv t)->∀ (i line start:Nat) (acc:List Tok),∃ T' e,xg false (joinL T) i line start acc = .ok (acc ++ T' ++ [e])/\T'.map dB=T.map dB/\e.kind=4
 | [],h,_,_,_,_,_=>absurd rfl h
 | [t],_,ht,i,line,start,acc=>by
  obtain ⟨h1,h2,h3,_⟩:=ht t (by simp);show ∃ T' e,xg false t.text i line start acc=_/\_;match hx:t.text,h1 with
  | b::r,_ =>
   rw[hx] at h2 h3;have e3:(bg (b::r)).1.text=b::r:=by simp_all
   have hS:xg false (b::r) i line start acc = .ok (acc ++ [(bg (b::r)).1.at (line:Nat) ((i-start+1:Nat):Int)] ++ [(⟨4,[],0,(line:Nat),((i+(b::r).length-start+1:Nat):Int)⟩:Tok)]):=by rw[a4L (a3G h2 r),aX h2,e3,List.drop_length,aEB]
   refine ⟨_,_,hS,?_,rfl⟩;show [dB (bg (b::r)).1] = [dB t];rw[h3]
 | t::u::l,_,ht,i,line,start,acc=>by
  obtain ⟨h1,h2,h3,_⟩:=ht t (by simp);show ∃ T' e,xg false (t.text ++ 32::joinL (u::l)) i line start acc=_/\_;match hx:t.text,h1 with
  | b::r,_ =>
   rw[hx] at h2 h3;have e3:(bg (b::r)).1.text=b::r:=by simp_all
   have hr:bg (b::(r ++ 32::joinL (u::l)))=bg (b::r):=bQQ (by decide) bTI _ b r;obtain ⟨T',e,k1,k2,k3⟩:=aTV (u::l) (by simp) (fun t h=>ht t (by simp[h])) (i+(b::r).length+1) line start (acc ++ [(bg (b::r)).1.at (line:Nat) ((i-start+1:Nat):Int)]);refine ⟨(bg (b::r)).1.at (line:Nat) ((i-start+1:Nat):Int)::T',e,?_,?_,k3⟩
   .have hdrop:(b::(r ++ 32::joinL (u::l))).drop (b::r).length=32::joinL (u::l):=by rw[<- lI,List.drop_left]
    rw[lI,a4L (by rw[a3G h2]),hr,aX h2,e3,hdrop,
     C_step (by rw[jD,aX (by decide)]),aV (by decide),aV (by decide),k1]
    simp
   .rw[sN,sN,k2,<- h3];rfl
theorem a5W:∀ (n:Nat) (b:UInt8),b∈Lib.decDigits n->iG b.toNat=true:=by
 intro n;induction n using Nat.strongRecOn with
 | _ n ih =>
  intro b hb;have dig:∀ d:Nat,d<10->iG (UInt8.ofNat (48+d)).toNat=true:=fun d hd=>by
   have:d=0\/d=1\/d=2\/d=3\/d=4\/d=5\/d=6\/d=7\/d=8\/d=9:=by omega
   rcases this with rfl | rfl | rfl | rfl | rfl | rfl | rfl | rfl | rfl | rfl<;>rfl
  rw[Lib.decDigits] at hb;grind
theorem aRN:∀ (l:bZ') (b:UInt8) (a m:Nat),uS l a=some m->10*m+(b.toNat-48)<=65536->uS (l ++ [b]) a=some (10*m+(b.toNat-48))
 | [],b,a,m,h,h2=>by grind [uS]
 | c::l,b,a,m,h,h2=>by
  rw[uS] at h;rw[lI,uS];split at h
  .cases h
  .rename_i hc;rw[aV hc];exact aRN l b _ m h h2
theorem a'J:∀ (n:Nat),n<=65536->uS (Lib.decDigits n) 0=some n:=by
 intro n;induction n using Nat.strongRecOn with
 | _ n ih =>
  intro hn;have dig:∀ d:Nat,d<10->(UInt8.ofNat (48+d)).toNat-48=d:=fun d hd=>by
   have:d=0\/d=1\/d=2\/d=3\/d=4\/d=5\/d=6\/d=7\/d=8\/d=9:=by omega
   rcases this with rfl | rfl | rfl | rfl | rfl | rfl | rfl | rfl | rfl | rfl<;>rfl
  rw[Lib.decDigits];split;grind [uS]
  .have hd:=dig (n % 10) (by omega);have:=aRN (Lib.decDigits (n / 10)) (UInt8.ofNat (48+n % 10)) 0 (n / 10) (ih (n / 10) (by omega) (by omega)) (by omega);grind
theorem a'I:∀ (n:Nat),0<n->∃ b r,Lib.decDigits n=b::r/\b≠48:=by
 intro n;induction n using Nat.strongRecOn with
 | _ n ih =>
  intro hn;rw[Lib.decDigits];split
  .refine ⟨_,[],rfl,?_⟩;have:n=1\/n=2\/n=3\/n=4\/n=5\/n=6\/n=7\/n=8\/n=9:=by omega
   rcases this with rfl | rfl | rfl | rfl | rfl | rfl | rfl | rfl | rfl<;>decide
  .obtain ⟨b,r,h1,h2⟩:=ih (n / 10) (by omega) (by omega);simp_all
theorem Lp {p:Nat->Bool}:∀ {l:bZ'},(∀ b,b∈l->p b.toNat=true)->gZ p l=l
 | [],_=>rfl
 | b::l,h=>by
  have:=Lp (l:=l) fun c hc=>h c (by simp[hc])
  grind [gZ,List.takeWhile_cons]
theorem a3T (h:n<=65536):Tv (tN n):=by
 have hne:Lib.decDigits n ≠ []:=by rw[Lib.decDigits]; split<;>simp
 have h1:gZ iG (Lib.decDigits n)=Lib.decDigits n:=Lp (a5W n);have h2:gZ o8 (Lib.decDigits n)=Lib.decDigits n:=Lp fun b hb=>by grind [o8,a5W]
 have hN:CG (Lib.decDigits n)=(⟨2,Lib.decDigits n,n,0,0⟩,0):=by
  unfold CG;rw[h1,h2,aV (by omega)];have hz:¬ (1<(Lib.decDigits n).length/\(Lib.decDigits n)[0]? = some 48):=by
   rcases Nat.eq_zero_or_pos n with rfl | hp
   grind [Lib.decDigits_one]
   grind [a'I]
  rw[aV hz,a'J n h]
 have hR:bg (Lib.decDigits n)=(⟨2,Lib.decDigits n,n,0,0⟩,0):=by
  unfold bg;match hd:Lib.decDigits n,hne with
  | b::r,_ =>grind [a5W]
 refine ⟨hne,?_,?_,show (2:Int)≠4 by decide⟩;simp_all;simp_all
theorem MJ:∀ s,s∈jS->Tv (tS s):=by
 have:∀ s,s∈jS->s ≠ []/\(bg s).2=0/\dB (bg s).1=(3,s,0):=by decide
 intro s hs;obtain ⟨h1,h2,h3⟩:=this s hs;exact ⟨h1,h2,h3,show (3:Int)≠4 by decide⟩
theorem a3U {s:bZ'} (h:nameB s=true):Tv (tW s):=by
 unfold nameB at h;simp only[bI] at h;obtain ⟨h1,h2,h3⟩:=h;have hall:∀ (l:bZ') (k:Nat),Ae l k=true->∀ b,b∈l->o8 b.toNat=true:=by
  intro l;induction l with
  | nil=>simp
  | cons c l ih =>grind [Ae,CJ,o8]
 match hs:s,h2 with
 | b::r,_ =>
  have hb:isLet b.toNat=true:=by rw[Ae] at h1;grind [CJ]
  have hdg:iG b.toNat=false:=by grind [iG,isLet]
  have hw:Ci (b::r)=(⟨1,b::r,0,0,0⟩,0):=by grind [Ci,Lp]
  have hR:bg (b::r)=(⟨1,b::r,0,0,0⟩,0):=by grind [bg]
  refine ⟨by simp,?_,?_,show (1:Int)≠4 by decide⟩;simp_all;simp_all
theorem xm {x:EX} {need:Int} {B:List Tok} (h:∀ t,t∈B->Tv t):∀ t,t∈wp x need B->Tv t:=by
 unfold wp;split
 .intro t ht;rcases kG.1 ht with rfl | ht
  .exact MJ _ (by decide)
  .rcases vX.1 ht with ht | ht
   simp_all
   .simp only[xx] at ht; rw[ht]; exact MJ _ (by decide)
 .exact h
theorem aVL {v:Int} (h0 : -65536<=v) (h1:v<=65536):∀ t,t∈dO v->Tv t:=by
 unfold dO;split
 .intro t ht;simp only[kG,yw,yz] at ht;rcases ht with rfl | rfl
  .exact MJ _ (by decide)
  grind [a3T]
 grind [a3T]
theorem vT {ns:List (bZ')} (hns:∀ s,s∈ns->nameB s=true) {x:EX} {B:List Tok} (h:PB ns x B):∀ t,t∈B->Tv t:=by
 have mid:∀ {A C:List Tok} {s:bZ'},s∈jS->(∀ t,t∈A->Tv t)->(∀ t,t∈C->Tv t)->∀ t,t∈A ++ tS s::C->Tv t:=fun hs ha hc t ht=>by grind [MJ]
 have pre:∀ {C:List Tok} {s:bZ'},s∈jS->(∀ t,t∈C->Tv t)->∀ t,t∈tS s::C->Tv t:=fun hs hc t ht=>by grind [MJ]
 induction h with
 | tt=>intro t ht; simp only[xx] at ht; rw[ht]; exact a3U (by decide)
 | ff=>intro t ht; simp only[xx] at ht; rw[ht]; exact a3U (by decide)
 | num h0 h1=>exact aVL h0 h1
 | var hs =>grind [a3U]
 | IU h0 h1 _ ih =>
  refine pre (by decide) (pre (by decide) fun t ht => ?_);rcases vX.1 ht with ht | ht
  simp_all
  .simp only[xx] at ht; rw[ht]; exact MJ _ (by decide)
 | neg _ _ ih=>exact pre (by decide) (xm ih)
 | xR _ ih=>exact pre (by decide) (xm ih)
 | cmp _ _ _ _ _ iha ihb=>grind [aU5,xm]
 | bin _ _ _ iha ihb=>grind [aU5,xm]
 | ite _ _ _ KU iha ihb=>exact mid (by decide) (xm KU) (mid (by decide) (xm iha) (xm ihb))
theorem aO3:∀ (T:List Tok),([32]:bZ').intercalate (T.map (·.text))=joinL T
 | []=>rfl
 | [t]=>by simp[List.intercalate,joinL]
 | t::u::l=>by have:=aO3 (u::l);rw[joinL,<- this];rfl
theorem aV1:∀ (l:List (bZ')),strsOf (l.map fun s=>PV.str (bs s))=some (l.map bs)
 | []=>rfl
 | s::l=>by rw[sN,strsOf,aV1 l]; rfl
theorem bJP (es:bZZ) (sep:bZY):CS 25 [bZW es,.str sep] []=(match strsOf es with
 | some xs=>(match Nat.ble (FN xs sep).length 140737488355328&&Nat.ble xs.length 140737488355328 with
  | true=>some (PV.str ⟨(FN xs sep).toArray⟩,([]:aG))
  | false=>none)
 | none=>none):=rfl
theorem bJN (T:List Tok):FN (T.map fun t=>bs t.text) ⟨#[32]⟩=joinL T:=by unfold FN Lib.join;rw[X9,<- aO3];rfl
theorem sjc (T:List Tok) (h1:T.length<=1000000) (h2:(joinL T).length<=1000000):SS.CC 25 [bZW (T.map fun t=>PV.str (bs t.text)),.str ⟨#[32]⟩] []=some (.str (bs (joinL T)),[]):=by
 refine RH ?_;have hs:strsOf (T.map fun t=>PV.str (bs t.text))=some (T.map fun t=>bs t.text):=by have:=aV1 (T.map (·.text));rw[X9,X9] at this;exact this
 rw[bJP,hs];dsimp only;rw[bJN,bF,XH (by omega),XH (by omega)];rfl
theorem a5V {T T':List Tok} (h:T'.map dB=T.map dB) (hk:∀ t,t∈T->t.kind≠4):∀ t,t∈T'->t.kind≠4:=by grind [List.mem_map_of_mem]
theorem aH9 (T T':List Tok) (hn:T.length<=1000000) (h:T'.map dB=T.map dB):∀ (m k:Nat),k+m=T.length->ZZ (T.map bK) (T'.map bK) (k:Int)=some (.bool true,[])
 | 0,k,hk=>by grind [aKC,List.length_map,aC]
 | m+1,k,hk=>by
  have hl:T'.length=T.length:=by have:=congrArg List.length h; grind
  have h1:k<T'.length:=by omega
  have h2:k<T.length:=by omega
  have e:dB T'[k]=dB T[k]:=by have:=congrArg (fun l=>l[k]?) h;grind
  have e1:T'[k].kind=T[k].kind:=congrArg (·.1) e;have e2:T'[k].text=T[k].text:=congrArg (·.2.1) e;have e3:T'[k].value=T[k].value:=congrArg (·.2.2) e;have bIH:SS.CC 189 [oK (tk T'[k]),oK (tk T[k])] []=some (.bool true,[]):=by rw[b8K];simp_all
  rw[aKC,aN (by rw[bF]; omega),aI,V3 h1,V3 h2,aZ bIH,Ed,aC,bU (by omega)];exact aH9 T T' hn h m (k+1) (by omega)
theorem a_4 (T T':List Tok) (hn:T.length<=1000000) (h:T'.map dB=T.map dB):SS.CC 188 [.sl false 5 (T'.map bK),.sl false 5 (T.map bK),.func (.func 189) [] []] []=some (.bool true,[]):=by
 have hl:T'.length=T.length:=by have:=congrArg List.length h; grind
 rw[b8J,bF,bF,show ((T'.length:Int) !=(T.length:Int))=false by simp[hl],aC];exact aH9 T T' hn h T.length 0 (by omega)
theorem aOE (T:List Tok) (hn:T.length<=1000000):∀ (m k:Nat),k+m=T.length->TS (T.map bK) ((T.take k).map fun t=>PV.str (bs t.text)) (k:Int)=TS (T.map bK) (T.map fun t=>PV.str (bs t.text)) (T.length:Int)
 | 0,k,hk=>by simp_all
 | m+1,k,hk=>by
  have h1:k<T.length:=by omega
  rw[aII,aN (by rw[bF]; omega),aI,V3 h1,aQ (aN (by rw[bF,wY]; unfold aO; omega)),bU (by omega)];have:=aOE T hn m (k+1) (by omega);rw[JL h1,qZ] at this;exact this
theorem aTU {T:List Tok} (hne:T ≠ []) (ht:∀ t,t∈T->Tv t) (hl:(joinL T).length<=65536):∃ T' e,tu (joinL T) = .ok (T' ++ [e])/\T'.map dB=T.map dB/\e.kind=4:=by obtain ⟨T',e,h1,h2,h3⟩:=aTV T hne ht 0 1 0 [];grind [tu,bSA]
theorem aGX:∀ (k n:Nat),n<10 ^ (k+1)->(Lib.decDigits n).length<=k+1
 | 0,n,h=>by rw[Lib.decDigits_one (by omega)]; simp
 | k+1,n,h=>by
  rw[Lib.decDigits];split
  .simp
  .rw[aU,uF];have:=aGX k (n / 10) (by rw[Nat.pow_succ] at h; omega);omega
theorem E5 {t:Tok} {s:bZ'} (h:dB t=dB (tS s)):uy s t:=⟨congrArg (·.1) h,congrArg (·.2.1) h⟩
theorem kU {T:List Tok} (h:T.map dB=([]:List Tok).map dB):T = []:=by simpa using h
theorem su {T B:List Tok} {b:Tok} (h:T.map dB=(b::B).map dB):∃ t T2,T=t::T2/\dB t=dB b/\T2.map dB=B.map dB:=by
 match T,h with
 | t::T2,h =>rw[sN,sN] at h;grind
theorem kT {T A B:List Tok} (h:T.map dB=(A ++ B).map dB):∃ T1 T2,T=T1 ++ T2/\T1.map dB=A.map dB/\T2.map dB=B.map dB:=by rw[qZ] at h;obtain ⟨T1,T2,h1,h2,h3⟩:=List.map_eq_append_iff.1 h;grind
theorem YT {T A C:List Tok} {s:bZ'} (h:T.map dB=(A ++ tS s::C).map dB):∃ T1 t T2,T=T1 ++ t::T2/\T1.map dB=A.map dB/\uy s t/\T2.map dB=C.map dB:=by obtain ⟨T1,T2,h1,h2,h3⟩:=kT h;obtain ⟨t,T3,h4,h5,h6⟩:=su h3;grind [E5]
def Nk (T:List Tok):Prop:=∀ t,t∈T->t.kind≠4
theorem C9 {T B:List Tok} (h:T.map dB=B.map dB) (hb:∀ t,t∈B->Tv t):Nk T:=a5V h fun t ht=>(hb t ht).2.2.2
theorem GU:∀ {T R:List Tok},Nk T->bD (T ++ R)->bD R
 | [],_,_,h=>h
 | t::T,R,hk,h=>GU (fun t ht=>hk t (by simp[ht])) (GV h (hk t (by simp)))
def Rh (R:List Tok) (n:Int):Prop:=∀ lv:Int,n<=lv->(mk0 R).Fa lv=false
section
variable {v:bZZ} {d:Int} {T:List Tok} {x:EX}
theorem LJ {s:bZ'} {t:Tok} {R:List Tok} {n:Int} (h:uy s t) (hs:(kW s).1<n):Rh (t::R) n:=fun lv hlv=>by unfold RA.Fa;show (t.kind==3&&(kW t.text).1==lv)=false;rw[h.2,show ((kW s).1==lv)=false by simp; omega,JF]
theorem a0V {s s2:bZ'} {t:Tok} {R:List Tok} (h:uy s t) (hs:s≠s2):(mk0 (t::R)).is s2=false:=by show ((t.kind==1||t.kind==3)&&t.text==s2)=false;rw[h.2,show (s==s2)=false by grind,JF]
end
section
variable {v:bZZ} {d:Int} {T:List Tok} {x:EX}
end
theorem Ba (x:EX):1<=gJ x:=by obtain ⟨o,v,i,l⟩:=x;rw[gJ]; omega
theorem bLW (v:Int):iJ (nE v)=if v<0 then 6 else 7:=by rfl
theorem bLY (i:Int):iJ (vE i)=7:=by rfl
theorem a9Z {o:Int} (h:o=5\/o=10) (a:EX):iJ (kN o a)=6:=by unfold iJ kN;rw[yR (by omega),zg (by omega)];rcases h with rfl | rfl<;>rfl
theorem aQJ (c a b:EX):iJ (.node 13 0 0 [c,a,b])=0:=by rfl
theorem bLX:iJ tE=7:=by rfl
theorem bLV:iJ fE=7:=by rfl
theorem dp1 (o:Int) (a:EX):gJ (kN o a)=gJ a+1:=by simp[gJ,AP]
theorem dp2 (o:Int) (a b:EX):gJ (lS o a b)=max (gJ a) (gJ b)+1:=by simp[gJ,AP]
theorem dp3 (c a b:EX):gJ (.node 13 0 0 [c,a,b])=max (gJ c) (max (gJ a) (gJ b))+1:=by simp[gJ,AP]
theorem aG7 {a b:bZ'} (h:bs a=bs b):a=b:=by have:=congrArg ByteArray.toList h;rwa [HY,HY] at this
theorem a8K:∀ (ns:List (bZ')) (i k:Nat) (s:bZ'),ns.Nodup->ns[i]? = some s->qU (bs s) (vF ns) k=((k+i:Nat):Int)
 | [],i,k,s,_,h=>by simp at h
 | a::ns,0,k,s,_,h=>by
  have:a=s:=by grind
  subst this;show (if bs a=bs a then (k:Int) else _)=_;rw[aX rfl]; simp
 | a::ns,i+1,k,s,hd,h=>by
  have h2:ns[i]? = some s:=by simpa using h
  have hne:bs s≠bs a:=fun e=>by have:=aG7 e;subst this;exact (a4F.1 hd).1 (nZ h2)
  show (if bs s=bs a then (k:Int) else qU (bs s) (vF ns) (k+1))=_;rw[aV hne,a8K ns i (k+1) s (a4F.1 hd).2 h2];omega
theorem a_W {ns:List (bZ')} {o v i:Int} {l:List EX} {A T:List Tok} (hc:o≠0\/v<0) (h:PB ns (.node o v i l) A) (hT:T.map dB=(wp (.node o v i l) 6 A).map dB):∃ t T1,T=t::T1/\t.kind≠2:=by
 have go:∀ {b:Tok} {B:List Tok},b.kind≠2->T.map dB=(b::B).map dB->∃ t T1,T=t::T1/\t.kind≠2:=fun hb h=>by grind [su]
 unfold wp at hT;by_cases hn:iJ (.node o v i l)<6;grind
 .rw[aV hn] at hT;generalize hx:EX.node o v i l=x at h hn;cases h with
  | tt=>grind
  | ff=>grind
  | num h0 h1 =>grind [nE,dO]
  | @var i s hs=>grind
  | IU h0 h1 _=>grind
  | neg _ _=>grind
  | xR _=>grind
  | cmp ho ht hf _ _=>grind [a1V]
  | bin ho _ _=>rw[a1U ho] at hn; omega
  | ite _ _ _=>rw[aQJ] at hn; omega
end Go.Proofs.YtilpiopkekkbiaaGreatDoor.W
end

/- A part of the proof. -/
import Derived.Test.YtmbehibpfkkjbaaGreatDoorPs4
import Derived.Test.YtmbehibpfkkjbaaGreatDoorPs3
import Derived.ProofKit
import Derived.SizedLaws
import Derived.ChangeArms
import Derived.OpenShut
import Derived.ChangeOld
import Derived.Deep.DeepHandedRow
import Derived.Lib.LaidTab
import Derived.Shelf.LaysM
import Derived.Test.YtmbehibpfkkjbaaGreatDoorRows
import Derived.Test.YtmbehibpfkkjbaaGreatDoorCards
import Derived.Test.YtmbehibpfkkjbaaGreatDoorTie
import Derived.Stop.LaidErr
import Derived.JoinedOf
set_option linter.unusedVariables false
set_option linter.defProp false
set_option linter.unusedSimpArgs false
set_option linter.unnecessarySimpa false
set_option linter.unusedSectionVars false
noncomputable section
open Go.IntKind (i64)
namespace Go.Proofs.YtmbehibpfkkjbaaGreatDoor.W
open Go.RowKit
variable {Q:l7} {g:FuncId} {b u:ai} {h:aH} {E:PV} {J:R} {o f i:Int} {p:Bool} {S:Sh.V iW} {w:Sh.V aC} {r:d_}
def dJ {F:PV->aH->R} {h':aH} (e:Q g b h=some (E,h')) (c:F E h'=J):Bo Q g b h F=J:=by unfold Bo; rw[e]; exact c
def vH {F:PV->R} (e:Q g b []=some (E,[])) (c:F E=J):kE Q g b F=J:=by unfold kE; rw[e]; exact c
def VQ {c:b_} {K:RS.F (.t [(false,[.S]),(false,[.I .i64])]) R} (e:SS.CC g b []=some (.tuple [.str c,aP o],[])):G0 g b K=K ((c,()),(o,()),()):=vH e rfl
def bn {K:RS.F (.ti .i64) R} (e:SS.CC g b []=some (aP o,[])):G1 g b K=K o:=vH e rfl
def a0C {K:RS.F (.t [(false,[.L false 5]),(false,[.I .i64]),(false,[.I .i64]),(false,[.I .i64])]) R} (e:SS.CC g b []=some (.tuple [.sl false 5 u,aP o,aP f,aP i],[])):G13 g b K=K ((u,()),(o,()),(f,()),(i,()),()):=vH e rfl
def nR {s1:b_} {K:RS.F (.ts) R} (e:SS.CC g b []=some (.str s1,[])):G2 g b K=K s1:=vH e rfl
def eG {c:Sh.V S1} {K:RS.F (.g S1) R} (e:SS.CC g b []=some (A1 c,[])):oM g b K=K c:=vH e rfl
def bC {K:RS.F (.tb) R} (e:SS.CC g b []=some (.bool p,[])):G3 g b K=K p:=vH e rfl
def aJZ {K:RS.F (.t [(false,[.I .i64]),(false,[.B])]) R} (e:SS.CC g b []=some (.tuple [aP o,.bool p],[])):G37 g b K=K ((o,()),(p,()),()):=vH e rfl
def vk {K:RS.F (.tl false 1) R} (e:SS.CC g b []=some (a_ u,[])):G4 g b K=K u:=vH e rfl
def aJ' {K:RS.F (.t [(false,[.I .i64]),(false,[.I .i64])]) R} (e:SS.CC g b []=some (.tuple [aP o,aP f],[])):G6 g b K=K ((o,()),(f,()),()):=vH e rfl
def nS {K:RS.F (.tl true 1) R} (e:SS.CC g b []=some (.sl true 1 u,[])):G7 g b K=K u:=vH e rfl
def bf {K:RS.F (.t []) (cZ [.c iW])} (e:SS.CC g b h=bi [aG S]):aj g b h K=K () S:=dJ e rfl
def aKC {K:RS.F (.z (.pt 0 0)) (cZ [.c aC])} (e:SS.CC g b h=some (ag,[aA w])):H14 g b h K=K w:=dJ e rfl
def bg {K:RS.F (.t []) (cZ [.c aC])} (e:SS.CC g b h=bi [aA w]):bP g b h K=K () w:=dJ e rfl
def Np {K:RS.F (.t [(false,[.I .i64]),(false,[.I .i64]),(false,[.I .i64])]) (cZ [.c aC])} (e:SS.CC g b h=some (.tuple [aP o,aP f,aP i],[aA w])):Qo g b h K=K ((o,()),(f,()),(i,()),()) w:=dJ e rfl
def K_ {d:Sh.V RH} {K:RS.F (.ti .i64) (cZ [.c RH])} (e:SS.CC g b h=some (aP o,[mP d])):H19 g b h K=K o d:=dJ e rfl
def eX {d:Sh.V o7} {K:RS.F (.g o7) (cZ [.c aC])} (e:SS.CC g b h=some (rU d,[aA w])):fU g b h K=K d w:=dJ e rfl
def lZ {s1:b_} {K:RS.F (.ts) (cZ [.c aC])} (e:SS.CC g b h=some (.str s1,[aA w])):lD g b h K=K s1 w:=dJ e rfl
def bY {K:RS.F (.tb) (cZ [.c aC])} (e:SS.CC g b h=some (.bool p,[aA w])):bW g b h K=K p w:=dJ e rfl
def VX {d:Sh.V xn} {K:RS.F (.tb) (cZ [.c xn])} (e:SS.CC g b h=some (.bool p,[ja d])):Ah g b h K=K p d:=dJ e rfl
def qJ {K:RS.F (.t []) (cZ [.z jV,.c iW])} (e:SS.CC g b h=bi [some [.ptr 1 0],aG S]):gV g b h K=K () S:=dJ e rfl
def b4H {K:RS.F (.t []) (cZ [.a])} (e:SS.CC g b h=bi [some u]):H53 g b h K=K () u:=dJ e rfl
def Qs {K:RS.F (.ti .i64) (cZ [.c aC])} (e:SS.CC g b h=some (aP o,[aA w])):FI g b h K=K o w:=dJ e rfl
set_option maxRecDepth 1000000
section
def bBF (a0:b_):SS.CC 26 [.str a0] []=G13 20 [.str a0] fun a=>some (ag,[aA (a.1.1,a.2.1.1,a.2.2.1.1,a.2.2.2.1.1,())]):=cc
def bBG (a:Sh.V aC):SS.CC 34 [ag] [aA a]=aB (a.2.2.2.1==0) (some (.tuple [aP 0,aP 0,aP 0],[aA a])) (some (.tuple [aP a.2.1,aP a.2.2.1,aP a.2.2.2.1],[aA a])):=cc
def bCP (a1:b_) (a:Sh.V aC):SS.CC 27 [ag,.str a1] [aA a]=bW 87 [ag,.str a1] [aA a] fun c b=>aB (!c) (bP 32 [ag,aP 14] [aA b] fun _ u8=>bi [aA u8]) (bi [aA b]):=cc
def bCQ (c:Sh.V aC):SS.CC 28 [ag] [aA c]=fU 30 [ag] [aA c] fun e d=>aB (e.1 != 1) (bP 32 [ag,aP 14] [aA d] fun _ a=>some (cEX [],[aA a])) (fU 88 [ag] [aA d] fun f b=>some (.str f.2.1,[aA b])):=cc
def bCS (a:Sh.V aC):SS.CC 30 [ag] [aA a]=aB (a.2.2.2.1 != 0) (some (rU (4,⟨#[]⟩,0,a.2.1,a.2.2.1,()),[aA a])) (ak o7 a.1 0 fun b=>some (rU b,[aA a])):=cc
def bCT (a1:Int) (a:Sh.V aC):SS.CC 32 [ag,aP a1] [aA a]=fV fun c=>aB (a.2.2.2.1 != 0) (bi [aA a]) (aB (a1==0) (bi [aA a]) (fU 30 [ag] [aA a] fun b d=>c 1 (bi [aA (d.1,b.2.2.2.1,b.2.2.2.2.1,a1,())]))):=pI cc
def bHN (a1:b_) (c:Sh.V aC):SS.CC 87 [ag,.str a1] [aA c]=bW 161 [ag,.str a1] [aA c] fun a d=>aB a (fU 88 [ag] [aA d] fun u8 b=>some (.bool a,[aA b])) (some (.bool a,[aA d])):=cc
def bIW (c:Sh.V aC):SS.CC 88 [ag] [aA c]=fU 30 [ag] [aA c] fun b a=>aB (a.2.2.2.1==0) (aB (b.1 != 4) (bJ (decide (0<=1)&&decide (1<=(a.1.length:Int))) (some (rU b,[aA ((a.1.drop (1:Int).toNat),a.2.1,a.2.2.1,a.2.2.2.1,())]))) (some (rU b,[aA a]))) (some (rU b,[aA a])):=cc
def bKK (a1:b_) (c:Sh.V aC):SS.CC 161 [ag,.str a1] [aA c]=fU 30 [ag] [aA c] fun a b=>aB (a.1==1) (some (.bool (a.2.1.toList==a1.toList),[aA b])) (aB (a.1==3) (some (.bool (a.2.1.toList==a1.toList),[aA b])) (some (.bool false,[aA b]))):=cc
def bMC:KT:=SS.rK Tryz.f192 192 1 []
def XU (a b:Int) (c:Sh.V aC) (d:Int):R:=bD (SS.xX 192 47 1) (cS Tryz.f192 15) bMC ⟨[(0,ag),(1,aP a),(2,aP b),(7,aP d)],[aA c]⟩
def bMB (g h:Int) (i:Sh.V aC) (a:Int):XU g h i a=fU 30 [ag] [aA i] fun b c=>aB (b.1 != 2) (bP 32 [ag,aP 14] [aA c] fun _ d=>some (aP 0,[aA d])) (aB (decide ((i64.wrap (a*b.2.2.1))<g)) (bP 32 [ag,aP 2] [aA c] fun _ j=>some (aP 0,[aA j])) (aB (decide (h<(i64.wrap (a*b.2.2.1)))) (bP 32 [ag,aP 2] [aA c] fun _ e=>some (aP 0,[aA e])) (fU 88 [ag] [aA c] fun l f=>some (aP (i64.wrap (a*b.2.2.1)),[aA f])))):=by kernel_rfl
def bMD (a1 a2:Int) (b:Sh.V aC):SS.CC 192 [ag,aP a1,aP a2] [aA b]=fU 30 [ag] [aA b] fun c a=>aB (c.1==3) (aB (c.2.1.toList==(⟨#[45]⟩:b_).toList) (fU 88 [ag] [aA a] fun d e=>XU a1 a2 e (-1)) (XU a1 a2 a 1)) (XU a1 a2 a 1):=cc
end
structure RA where
 toks:List Tok
 line:Int
 uS:Int
 e:Int
abbrev tk (t:Tok):Sh.V o7:=(t.kind,bs t.text,t.value,t.line,t.uS,())
abbrev RA.v (A:RA):Sh.V aC:=(A.toks.map bM,A.line,A.uS,A.e,())
def Vs (t:Tok):Prop:=(t.kind=1/\t.text∉lC)\/(t.kind=2/\0<=t.value/\t.value<=65536)\/(t.kind=3/\t.text∈lC)
def Nz:List Tok->Prop
 | []=>False
 | t::l=>(t.kind=4/\l = [])\/(Vs t/\Nz l)
def RA.ok (A:RA):Prop:=A.e=0->Nz A.toks
def RA.aMT (A:RA):Tok:=⟨4,[],0,A.line,A.uS⟩
def RA.pk (A:RA):Tok:=if A.e=0 then A.toks.headD A.aMT else A.aMT
variable {a:RA}
def RA.ok.ne (h:a.ok) (he:a.e=0):∃ t tl,a.toks=t::tl:=by
 have:=h he;match b:a.toks with
 | []=>rw[b] at this; exact this.elim
 | t::tl=>simp
def RX (h:o=0):(o != 0)=false:=by simp[h]
def WG (h:o≠0):(o != 0)=true:=by simp[h]
def b6R (h:o≠0):(o==0)=false:=by simp[h]
def gJ (h:a.ok):SS.CC 30 [ag] [aA a.v]=some (rU (tk a.pk),[aA a.v]):=by
 rw[bCS];dsimp only;unfold RA.pk;by_cases he:a.e=0
 .obtain ⟨t,tl,b⟩:=h.ne he;rw[RX he,ay he,b]; rfl
 .rw[WG he,aX he]; rfl
theorem pk4 (he:a.e≠0):a.pk.kind=4:=by unfold RA.pk; rw[aX he]; rfl
def RA.next (A:RA):RA:=if A.e=0/\A.pk.kind≠4 then { A with toks:=A.toks.drop 1 } else A
theorem next (h:a.ok):SS.CC 88 [ag] [aA a.v]=some (rU (tk a.pk),[aA a.next.v]):=by
 rw[bIW,eX (gJ h)];unfold RA.next;by_cases he:a.e=0
 .obtain ⟨t,tl,b⟩:=h.ne he;grind [aF,aI,aQ]
 grind [aF]
theorem RA.ok.next (h:a.ok):a.next.ok:=by
 unfold RA.next;split
 .rename_i c;intro he;obtain ⟨t,tl,b⟩:=h.ne c.1;have d:=h c.1;grind [RA.pk,Nz]
 .exact h
def RA.is (A:RA) (x:d_):Bool:=(A.pk.kind==1||A.pk.kind==3)&&A.pk.text==x
def uX (h:a.ok) (b:b_):SS.CC 161 [ag,.str b] [aA a.v]=some (.bool (a.is b.data.toList),[aA a.v]):=by rw[bKK,eX (gJ h)];rw[EH,NL b];unfold RA.is;cases a.pk.kind==1<;>cases a.pk.kind==3<;>rfl
def RA.take (A:RA) (x:d_):RA:=bif A.is x then A.next else A
def jL (h:a.ok) (b:b_):SS.CC 87 [ag,.str b] [aA a.v]=some (.bool (a.is b.data.toList),[aA (a.take b.data.toList).v]):=by
 rw[bHN,bY (uX h b)];unfold RA.take;cases a.is b.data.toList with
 | true=>rw[eX (next h)]; rfl
 | false=>rfl
def RA.ok.take (h:a.ok) (x:d_):(a.take x).ok:=by
 unfold RA.take;cases a.is x with
 | true=>exact h.next
 | false=>exact h
def RA.fail (A:RA) (n:Int):RA:=if A.e=0/\n≠0 then { A with line:=A.pk.line,uS:=A.pk.uS,e:=n } else A
theorem lu (h:a.ok) (n:Int):SS.CC 32 [ag,aP n] [aA a.v]=bi [aA (a.fail n).v]:=by
 rw[bCT];dsimp only[fV];unfold RA.fail;by_cases he:a.e=0
 .rw[RX he,aF];by_cases b:n=0;simp_all
  .rw[b6R b,aF,eX (gJ h),ay ⟨he,b⟩]
 grind [aI]
theorem qw (b:o≠0):(a.fail o).e≠0:=by grind [RA.fail]
theorem aZW (h:a.e≠0):a.ok:=fun e=>absurd e h
theorem RA.ok.fail (h:a.ok) (n:Int):(a.fail n).ok:=by grind [RA.fail,aZW]
theorem aF3 (h:a.e≠0):a.next=a:=by grind [RA.next]
theorem aBI (h:a.e≠0) (n:Int):a.fail n=a:=by grind [RA.fail]
theorem aDF (h:a.e≠0) (x:d_):a.is x=false:=by grind [RA.is,pk4]
theorem c89 (h:a.e≠0) (x:d_):a.take x=a:=by grind [RA.take,aDF]
def RA.exp (A:RA) (x:d_):RA:=bif A.is x then A.next else A.fail 14
def fA (h:a.ok) (b:b_):SS.CC 27 [ag,.str b] [aA a.v]=bi [aA (a.exp b.data.toList).v]:=by
 rw[bCP,bY (jL h b)];unfold RA.take RA.exp;cases a.is b.data.toList with
 | true=>rfl
 | false=>rw[FB,bg (lu h 14)]; rfl
def RA.ok.exp (h:a.ok) (x:d_):(a.exp x).ok:=by
 unfold RA.exp;cases a.is x with
 | true=>exact h.next
 | false=>exact h.fail 14
def RA.name (A:RA):RA:=if A.pk.kind=1 then A.next else A.fail 14
def RA.iI (A:RA):d_:=if A.pk.kind=1 then A.pk.text else []
def mG (h:a.ok):SS.CC 28 [ag] [aA a.v]=some (.str (bs a.iI),[aA a.name.v]):=by
 rw[bCQ,eX (gJ h)];unfold RA.name RA.iI;by_cases hk:a.pk.kind=1
 .rw[show (a.pk.kind != 1)=false by simp[hk],aF,eX (next h),ay hk,ay hk]
 .rw[show (a.pk.kind != 1)=true by simp[hk],bg (lu h 14),aX hk,aX hk]; rfl
def RA.ok.name (h:a.ok):a.name.ok:=by
 unfold RA.name; split
 .exact h.next
 .exact h.fail 14
def RA.num (A:RA) (a b c:Int):RA:=if A.pk.kind=2 then (if i64.wrap (a*A.pk.value)<b\/c<i64.wrap (a*A.pk.value) then A.fail 2 else A.next) else A.fail 14
def RA.PM (A:RA) (a b c:Int):Int:=if A.pk.kind=2 then (if i64.wrap (a*A.pk.value)<b\/c<i64.wrap (a*A.pk.value) then 0 else i64.wrap (a*A.pk.value)) else 0
def aF9 (h:a.ok) (b c d:Int):XU c d a.v b=some (aP (a.PM b c d),[aA (a.num b c d).v]):=by
 rw[bMB,eX (gJ h)];unfold RA.num RA.PM;by_cases hk:a.pk.kind=2
 .rw[show (a.pk.kind != 2)=false by simp[hk],aF,ay hk,ay hk];by_cases e:i64.wrap (b*a.pk.value)<c
  .rw[aK e,aI,bg (lu h 2),ay (.inl e),ay (.inl e)]
  .rw[aU e,aF];by_cases f:d<i64.wrap (b*a.pk.value)
   .rw[aK f,aI,bg (lu h 2),ay (.inr f),ay (.inr f)]
   .have:¬ (i64.wrap (b*a.pk.value)<c\/d<i64.wrap (b*a.pk.value)):=by omega
    rw[aU f,aF,eX (next h),aX this,aX this]
 .rw[show (a.pk.kind != 2)=true by simp[hk],aI,bg (lu h 14),aX hk,aX hk]
def RA.ok.num (h:a.ok) (b c d:Int):(a.num b c d).ok:=by
 unfold RA.num; split
 .split
  .exact h.fail 2
  .exact h.next
 .exact h.fail 14
def RA.mi (A:RA):Bool:=A.pk.kind==3&&A.pk.text == [45]
def RA.int (A:RA) (a b:Int):RA:=bif A.mi then A.next.num (-1) a b else A.num 1 a b
def RA.EO (A:RA) (a b:Int):Int:=bif A.mi then A.next.PM (-1) a b else A.PM 1 a b
def TY (h:a.ok) (b c:Int):SS.CC 192 [ag,aP b,aP c] [aA a.v]=some (aP (a.EO b c),[aA (a.int b c).v]):=by
 rw[bMD,eX (gJ h)];rw[EH,NL ⟨#[45]⟩];unfold RA.int RA.EO RA.mi;cases a.pk.kind==3 with
 | false=>rw[aF,DU,FB]; exact aF9 h 1 b c
 | true =>
  rw[aI,QT];cases a.pk.text == [45] with
  | false=>rw[aF,FB]; exact aF9 h 1 b c
  | true=>rw[aI,eX (next h)]; exact aF9 h.next (-1) b c
def RA.ok.int (h:a.ok) (b c:Int):(a.int b c).ok:=by
 unfold RA.int;cases a.mi with
 | true=>exact h.next.num _ _ _
 | false=>exact h.num _ _ _
theorem OO (A:RA):SS.CC 34 [ag] [aA A.v]=some (.tuple [aP (if A.e=0 then 0 else A.line),aP (if A.e=0 then 0 else A.uS),aP A.e],[aA A.v]):=by rw[bBG];grind [aI,aF]
theorem aZR:∀ {l:d_} {n m:Nat},sK l n=some m->n<=65536->m<=65536
 | [],n,m,h,a=>by grind [sK]
 | b::l,n,m,h,a=>by
  rw[sK] at h;split at h
  .cases h
  .exact aZR h (by omega)
theorem bZM {b:UInt8} (h:iU b.toNat=true):b::r∉lC:=by
 intro a;have:∀ x∈lC,∀ b r,x=b::r->iU b.toNat=false:=by
  intro x c b r e;subst e;revert c
  simp only[lC,jy,zW,zX];rintro (⟨rfl,_⟩|⟨rfl,_⟩|⟨rfl,_⟩|⟨rfl,_⟩|⟨rfl,_⟩|⟨rfl,_⟩|⟨rfl,_⟩|⟨rfl,_⟩|⟨rfl,_⟩|⟨rfl,_⟩|⟨rfl,_⟩|⟨rfl,_⟩|⟨rfl,_⟩|⟨rfl,_⟩|⟨rfl,_⟩|⟨rfl,_⟩|⟨rfl,_⟩|⟨rfl,_⟩|⟨rfl,_⟩|⟨rfl,_⟩|⟨rfl,_⟩|⟨rfl,_⟩|⟨rfl,_⟩|⟨rfl,_⟩|⟨rfl,_⟩|⟨rfl,_⟩)<;>decide
 rw[this _ a b r rfl] at h;cases h
theorem c3X (h:(dw r).2=0) (d f:Int):Vs ((dw r).1.at d f):=by
 unfold dw at h ⊢;match r,h with
 | [],h=>exact absurd h (by decide)
 | b::a,h =>
  dsimp only at h ⊢;cases e:gq b.toNat with
  | true =>
   rw[e,ay rfl] at h;unfold Cm at h ⊢;split at h
   .cases h
   .rename_i g;rw[aX g];split at h
    .cases h
    .rename_i i;rw[aX i];split at h
     .cases h
     .rename_i n j;have p:=aZR j (by omega);exact .inr (.inl ⟨rfl,by show (0:Int)<=(n:Int); omega,by show (n:Int)<=65536; omega⟩)
  | false =>
   rw[e] at h;simp only[V8,if_false] at h ⊢;cases m:iU b.toNat with
   | true =>
    rw[m] at h;simp only[FC] at h ⊢;unfold DN at h ⊢;split at h
    .cases h
    .rename_i c;rw[aX c];refine .inl ⟨rfl,?_⟩;show dQ iy (b::a)∉lC;grind [dQ,List.takeWhile_cons,iy,bZM]
   | false =>
    unfold Es at h ⊢;cases o:H9 (b::a) with
    | none=>simp_all
    | some x=>exact .inr (.inr ⟨rfl,(QH o).1⟩)
def b2E:∀ {a b:List Tok},(∀ t,t∈a->Vs t)->Nz b->Nz (a ++ b)
 | [],_,_,h=>h
 | t::a,b,c,h => .inr ⟨c t (by simp),b2E (fun x d=>c x (by simp[d])) h⟩
theorem uB:∀ (f:Nat) (a:d_) (i b start:Nat) (bZ e:List Tok),(∀ t,t∈bZ->Vs t)->uj f a i b start bZ = .ok e->Nz e
 | 0,_,_,_,_,_,_,_,h=>by cases h
 | f+1,a,i,b,start,bZ,e,g,h=>by
  rw[uj] at h;split at h
  .injection h with h
   rw[<- h];exact b2E g (.inl ⟨rfl,rfl⟩)
  .split at h
   .rename_i c;refine uB f _ _ _ _ _ e (fun t d => ?_) h;rcases DZ.1 d with d | d
    .exact g t d
    .simp only[F8] at d;rw[d];exact c3X c _ _
   .cases h
theorem c5' {a:List Tok} (h:vX r = .ok a):Nz a:=by grind [vX,uB]
def zA (l:d_):RA:=match vX l with | .ok c=>⟨c,0,0,0⟩ | .err a b e=>⟨[],a,b,e⟩
def aZA (l:d_):SS.CC 26 [.str (bs l)] []=some (ag,[aA (zA l).v]):=by
 have c:SS.CC 20 [.str (bs l)] []=some (H5 (vX l),[]):=by rw[Nb fG]; rfl
 rw[bBF];unfold zA;cases d:vX l with
 | ok f=>rw[d] at c; exact (a0C (show SS.CC 20 [.str (bs l)] []=some (.tuple [.sl false 5 (f.map bM),aP 0,aP 0,aP 0],[]) from c)).trans rfl
 | err a b e=>rw[d] at c; exact (a0C (show SS.CC 20 [.str (bs l)] []=some (.tuple [.sl false 5 [],aP a,aP b,aP e],[]) from c)).trans rfl
theorem b07:∀ (f:Nat) (d:d_) (i e start:Nat) (bZ:List Tok) (a b:Int),d.length<f->uj f d i e start bZ ≠ .err a b 0
 | 0,d,_,_,_,_,_,_,g=>by omega
 | f+1,d,i,e,start,bZ,a,b,g=>by
  rw[uj];split
  .intro h; cases h
  .rename_i j r l;have m:(d.drop (jJ false d)).length=(j::r).length:=by rw[l]
   rw[qH] at m;split
   .rename_i c;have:=Pg c;exact b07 f _ _ _ _ _ _ _ (by rw[qH]; omega)
   .rename_i c;intro h; injection h with _ _ h; exact c h
theorem b'Y (l:d_):(zA l).ok:=by
 unfold zA;cases c:vX l with
 | ok d=>exact fun _=>c5' c
 | err a b e =>grind [aZW,vX,b07]
section
def bKH:KT:=SS.rK Tryz.f233 233 1 [0]
def bKI:KT:=aS 0 bKH
def a3S (a:ai) (b c:Int):R:=SS.LL (SS.ae 233 28) 1 [0,2,3] 1 (cS Tryz.f233 9) bKI ⟨[(0,.slh 0 0 2 4),(2,aP b),(3,aP c)],[some a]⟩
def aQT (b:ai) (c a:Int):a3S b c a=bJ (b.all oP&&true) (aB (decide (c<a)) (bJ (b.all oP&&true) (bJ (decide (0<=a)&&decide (a<2)) (bJ (decide ((0+a.toNat*4)+4<=b.length)) (CE S1 (.agg (((b.drop (0+a.toNat*4)).take 4).map PV.un)) fun e=>bJ (decide (0<=c)&&decide (c<2)) (bJ (decide ((0+c.toNat*4)+4<=b.length)) (CE S1 (.agg (((b.drop (0+c.toNat*4)).take 4).map PV.un)) fun d=>bJ (decide (0<=c)&&decide (c<2)) (bJ (decide ((0+c.toNat*4)+4<=b.length)) (bJ (decide (0<=a)&&decide (a<2)) ((fun w=>bJ (decide ((0+a.toNat*4)+4<=w.length)) (bJ ((w.take (0+a.toNat*4) ++ (([aP d.1,aP d.2.1,aP d.2.2.1,.sl false 4 d.2.2.2.1]:ai):ai) ++ w.drop ((0+a.toNat*4)+4)).all oP&&true) (a3S (w.take (0+a.toNat*4) ++ (([aP d.1,aP d.2.1,aP d.2.2.1,.sl false 4 d.2.2.2.1]:ai):ai) ++ w.drop ((0+a.toNat*4)+4)) (i64.wrap (c+1)) (i64.wrap (a-1))))) (b.take (0+c.toNat*4) ++ (([aP e.1,aP e.2.1,aP e.2.2.1,.sl false 4 e.2.2.2.1]:ai):ai) ++ b.drop ((0+c.toNat*4)+4))))))))))) (bJ (b.all oP&&true) (bi [some b]))):=ll
def bKJ (a:ai):SS.CC 233 [.slh 0 0 2 4] [some a]=a3S a 0 1:=cc
def bOE:KT:=SS.rK Tryz.f271 271 2 []
def Zr (a:Int) (b:Sh.V Dt) (c:Sh.V aC):R:=bD (SS.xX 271 37 2) (cS Tryz.f271 15) bOE ⟨[(0,ag),(5,aP a)],[Vf b,aA c]⟩
def aCH (a:Int) (b:Sh.V Dt) (c:Sh.V aC):Zr a b c=lD 28 [ag] [aA c] fun s1 d=>some (aP (if (0:Int)>a then (0:Int) else a),[Vf b,aA d]):=by kernel_rfl
def bOF (a1:ai) (b:Sh.V Dt) (f:Sh.V aC):SS.CC 271 [ag,a_ a1] [Vf b,aA f]=fU 30 [ag] [aA f] fun g h=>G1 273 [a_ a1,.str g.2.1] fun a=>fU 30 [ag] [aA h] fun c d=>aB (c.1==1) (aB (decide (a<0)) (bP 32 [ag,aP 9] [aA d] fun _ e=>Zr a b e) (Zr a b d)) (Zr a b d):=cc
end
section
def bIL (a:Sh.V Ak) (b:Sh.V aC):SS.CC 48 [ag] [Hz a,aA b]=Qo 34 [ag] [aA b] fun c d=>some (.bool (c.2.2.1.1 != 0),[Hz a,aA d]):=cc
def bPL:KT:=SS.rK Tryz.f286 286 2 []
def a5C (a:ai) (b:Sh.V Ak) (c:Sh.V aC):R:=bD (SS.xX 286 33 2) (cS Tryz.f286 7) bPL ⟨[(0,ag),(1,a_ a)],[Hz b,aA c]⟩
def aCN (a:ai) (b:Sh.V Ak) (c:Sh.V aC):a5C a b c=lD 28 [ag] [aA c] fun s1 d=>G1 273 [a_ a,.str s1] fun e=>some (aP e,[Hz b,aA d]):=by kernel_rfl
def bPM (a1:ai) (a:Sh.V Ak) (e:Sh.V aC):SS.CC 286 [ag,a_ a1] [Hz a,aA e]=fU 30 [ag] [aA e] fun f b=>aB (f.1==1) (G3 207 [a_ a1,.str f.2.1] fun c=>aB (!c) (bP 32 [ag,aP 9] [aA b] fun _ d=>a5C a1 a d) (a5C a1 a b)) (a5C a1 a b):=cc
def bPN:KT:=SS.rK Tryz.f286 286 2 []
def a5D (a:ai) (b:Sh.V bF) (c:Sh.V aC):R:=bD (SS.xX 286 33 2) (cS Tryz.f286 7) bPN ⟨[(0,ag),(1,a_ a)],[aO b,aA c]⟩
def aCO (a:ai) (b:Sh.V bF) (c:Sh.V aC):a5D a b c=lD 28 [ag] [aA c] fun s1 d=>G1 273 [a_ a,.str s1] fun e=>some (aP e,[aO b,aA d]):=by kernel_rfl
def bPO (a1:ai) (a:Sh.V bF) (e:Sh.V aC):SS.CC 286 [ag,a_ a1] [aO a,aA e]=fU 30 [ag] [aA e] fun f b=>aB (f.1==1) (G3 207 [a_ a1,.str f.2.1] fun c=>aB (!c) (bP 32 [ag,aP 9] [aA b] fun _ d=>a5D a1 a d) (a5D a1 a b)) (a5D a1 a b):=cc
def bC2 (a0:Int):SS.CC 262 [aP a0] []=aB (a0==2) (some (cEX [43],[])) (aB (a0==3) (some (cEX [45],[])) (aB (a0==4) (some (cEX [42],[])) (aB (a0==6) (some (cEX [61,61],[])) (aB (a0==7) (some (cEX [33,61],[])) (aB (a0==8) (some (cEX [60],[])) (aB (a0==9) (some (cEX [60,61],[])) (aB (a0==11) (some (cEX [38,38],[])) (some (cEX [124,124],[]))))))))):=cc
end
section
def bJH (a0 a1:Sh.V S1):SS.CC 52 [A1 a0,A1 a1] []=aB (a0.1==a1.1) (aB (a0.2.1==a1.2.1) (aB (a0.2.2.1==a1.2.2.1) (G3 170 [.sl false 4 a0.2.2.2.1,.sl false 4 a1.2.2.2.1,eu 52] fun a=>some (.bool a,[])) iM) iM) iM:=cc
def bKT (a0:ai) (a1:b_):SS.CC 207 [a_ a0,.str a1] []=G1 273 [a_ a0,.str a1] fun a=>some (.bool (decide (0<=a)),[]):=cc
def bBH:KT:=SS.rK Tryz.f170 170 0 []
def bBI:KT:=SS.jK 170 32 0 (cS Tryz.f170 15) bBH
def bBJ:KT:=aS 0 bBI
def Zx (c a:ai) (b:Int):R:=SS.LL (SS.ae 170 32) 0 [1,2,15,16,17] 0 (cS Tryz.f170 75) bBJ ⟨[(1,.sl false 4 c),(2,eu 52),(15,.sl false 4 a),(16,aP (a.length:Int)),(17,aP b)],[]⟩
theorem aOH (c b:ai) (a:Int):Zx c b a=aB (decide (a<(b.length:Int))) (ak S1 b a fun e=>ak S1 c a fun f=>G3 52 [A1 e,A1 f] fun d=>aB (!d) iM (Zx c b (i64.wrap (a+1)))) rC:=ll
def bBK (a0 a1:ai):SS.CC 170 [.sl false 4 a0,.sl false 4 a1,eu 52] []=aB ((a0.length:Int) !=(a1.length:Int)) iM (Zx a1 a0 0):=cc
def bBL:KT:=SS.rK Tryz.f273 273 0 []
def bBM:KT:=SS.jK 273 19 0 (cS Tryz.f273 7) bBL
def bBN:KT:=aS 0 bBM
def a2K (a:ai) (b:b_) (c:Int):R:=SS.LL (SS.ae 273 19) 0 [0,1,7,8] 0 (cS Tryz.f273 37) bBN ⟨[(0,a_ a),(1,.str b),(7,aP (a.length:Int)),(8,aP c)],[]⟩
def aOI (b:ai) (c:b_) (a:Int):a2K b c a=aB (decide (a<(b.length:Int))) (dD b a fun d=>vS d fun e=>aB (c.toList==e.toList) (some (aP a,[])) (a2K b c (i64.wrap (a+1)))) (some (aP (-1),[])):=ll
def bBO (a0:ai) (a1:b_):SS.CC 273 [a_ a0,.str a1] []=a2K a0 a1 0:=cc
def bC0:SS.CC 85 [] []=some (A1 (6,0,0,[A1 (0,0,0,[],()),A1 (0,0,0,[],())],()),[]):=cc
def bC1:SS.CC 155 [] []=some (A1 (7,0,0,[A1 (0,0,0,[],()),A1 (0,0,0,[],())],()),[]):=cc
end
inductive EX where
 | node (op val idx:Int) (args:List EX)
theorem EX.ind {P:EX->Prop} (h:∀ o x i l,(∀ e,e∈l->P e)->P (.node o x i l)):∀ e,P e :=fun e=>EX.rec (fun o x i l b=>h o x i l b) (by simp) (fun a l c d e he=>by grind) e
inductive EX.Fit:EX->Prop
 | mk {o v i:Int} {l:List EX}:l.length<=3->(∀ e,e∈l->EX.Fit e)->EX.Fit (.node o v i l)
inductive EX.Len:EX->Prop
 | mk {o v i:Int} {l:List EX}:l.length<=70368744177664->(-9223372036854775808<=v/\v<=9223372036854775807)->(-9223372036854775808<=o/\o<=9223372036854775807)->(-9223372036854775808<=i/\i<=9223372036854775807)->(∀ e,e∈l->EX.Len e)->EX.Len (.node o v i l)
def Fv:(EX.node o f i []).Fit := .mk (by decide) (by simp)
variable {e y:EX}
theorem aNY (h:e.Fit):(EX.node o f i [e]).Fit := .mk (by simp) (by grind)
def IL (h:e.Fit) (c:y.Fit):(EX.node o f i [e,y]).Fit := .mk (by simp) (by simp[h,c])
theorem bAV {c:EX} (h:e.Fit) (d:y.Fit) (g:c.Fit):(EX.node o f i [e,y,c]).Fit := .mk (by simp) (by simp_all)
mutual
def ev:EX->Sh.V S1
 | .node o x i l=>(o,x,i,o8 l,())
def o8:List EX->ai
 | [] => []
 | e::l=>A1 (ev e)::o8 l
end
def aBD:∀ l:List EX,o8 l=l.map fun e=>A1 (ev e)
 | []=>rfl
 | e::l=>by rw[o8,aBD l]; rfl
theorem kH (o x i:Int) (l:List EX):ev (.node o x i l)=(o,x,i,o8 l,()):=by rw[ev]
abbrev kS (o:Int) (a:EX):EX := .node o 0 0 [a]
abbrev iQ (o:Int) (a b:EX):EX := .node o 0 0 [a,b]
theorem ev1 (o:Int) (a:EX):ev (kS o a)=(o,0,0,[A1 (ev a)],()):=by rfl
theorem uT (o:Int) (a b:EX):ev (iQ o a b)=(o,0,0,[A1 (ev a),A1 (ev b)],()):=by rfl
def ev3 (o:Int) (a b c:EX):ev (.node o 0 0 [a,b,c])=(o,0,0,[A1 (ev a),A1 (ev b),A1 (ev c)],()):=by rfl
def zE:EX := .node 0 0 0 []
def nE (n:Int):EX := .node 0 n 0 []
def vE (n:Int):EX := .node 1 0 n []
def tE:EX := .node 6 0 0 [zE,zE]
def fE:EX := .node 7 0 0 [zE,zE]
def KP (n:Int):ev (nE n)=(0,n,0,[],()):=rfl
def aN2 (n:Int):ev (vE n)=(1,0,n,[],()):=rfl
def g_:SS.CC 85 [] []=some (A1 (ev tE),[]):=bC0
def iV:SS.CC 155 [] []=some (A1 (ev fE),[]):=bC1
def dG (l:List b_):ai:=l.map .str
def kX (s:b_):List b_->Nat->Int
 | [],_ => -1
 | x::l,k=>if s=x then (k:Int) else kX s l (k+1)
theorem b6S (s x:b_):(s.toList==x.toList)=decide (s=x):=by
 rw[NL,NL];by_cases h:s=x
 .simp[h]
 .have:s.data≠x.data:=fun e=>h (ByteArray.ext e)
  simp_all
theorem aV4 (all:List b_) (a:all.length<1000000000000) (s:b_):∀ (l:List b_) (k:Nat),all.drop k=l->k<=all.length->a2K (dG all) s (k:Int)=some (aP (kX s l k),[])
 | [],k,h,hk=>by have:all.length<=k:=NM.1 h;rw[aOI,aU (by grind [dG])]; rfl
 | x::l,k,h,hk=>by
  have b:k<all.length:=by
   rcases F9 k all.length with h' | h'
   .exact h'
   .rw[NP h'] at h; cases h
  have c:all[k]? = some x:=by have:=congrArg (fun l=>l[0]?) h;simpa using this
  rw[aOI,aK (by unfold dG; rw[aZ]; omega),aI,nK (by omega) (by unfold dG; rw[nC,nP,c]; rfl),je,b6S];rw[kX];by_cases e:s=x
  .rw[aK e,aI,ay e]
  .rw[aU e,aX e,wrap64 (by omega) (by omega)];exact aV4 all a s l (k+1) (by rw[<- QW,h]; rfl) (by omega)
def Ig (l:List b_) (a:l.length<1000000000000) (s:b_):SS.CC 273 [a_ (dG l),.str s] []=some (aP (kX s l 0),[]):=by rw[bBO]; exact aV4 l a s l 0 rfl (Dc _)
def y_ (l:List b_) (a:l.length<1000000000000) (s:b_):SS.CC 207 [a_ (dG l),.str s] []=some (.bool (decide (0<=kX s l 0)),[]):=by rw[bKT,bn (Ig l a s)]
def iR (x:d_):Int×Int×Bool :=
 if x = [124,124] then (1,12,false) else if x = [38,38] then (2,11,false) else if x = [61,61] then (3,6,false) else if x = [33,61] then (3,7,false)
 else if x = [60] then (3,8,false) else if x = [60,61] then (3,9,false) else if x = [62] then (3,8,true) else if x = [62,61] then (3,9,true)
 else if x = [43] then (4,2,false) else if x = [45] then (4,3,false) else if x = [42] then (5,4,false) else (0,0,false)
theorem aG0 (h:a.ok):Vs a.pk\/a.pk.kind=4:=by
 by_cases he:a.e=0
 .obtain ⟨t,tl,c⟩:=h.ne he;have b:=h he;have d:a.pk=t:=by grind [RA.pk]
  rw[d]; rw[c] at b;rcases b with ⟨b,_⟩ | b
  omega;simp_all
 .exact .inr (pk4 he)
theorem MG (h:a.ok) (c:a.pk.kind=3):a.pk.text∈lC:=by
 rcases aG0 h with (⟨b,_⟩|⟨b,_⟩|⟨_,b⟩) | b
 .omega
 .omega
 .exact b
 .omega
theorem a6P (h:a.ok) (c:r∈lC):a.is r=(a.pk.kind==3&&a.pk.text==r):=by
 unfold RA.is;by_cases d:a.pk.kind=1
 .have e:a.pk.text≠r:=by
   rcases aG0 h with (⟨_,b⟩|⟨b,_⟩|⟨b,_⟩) | b
   grind
   all_goals omega
  rw[show (a.pk.text==r)=false by grind,Ez,Ez]
 grind
def RA.zC (A:RA) (a:Int):Bool:=A.pk.kind==3&&(iR A.pk.text).1==a
def opm:∀ x,x∈lC->∀ (a:Int) (K:Int->Int->Bool->R) (N:R),LW none [cEX [33,61],rV (3,7,false,()),cEX [38,38],rV (2,11,false,()),cEX [42],rV (5,4,false,()),cEX [43],rV (4,2,false,()),cEX [45],rV (4,3,false,()),cEX [60],rV (3,8,false,()),cEX [60,61],rV (3,9,false,()),cEX [61,61],rV (3,6,false,()),cEX [62],rV (3,8,true,()),cEX [62,61],rV (3,9,true,()),cEX [124,124],rV (1,12,false,())] (.str (bs x)) (fun e=>CE S60 e fun u=>K u.1 u.2.1 u.2.2.1) N=if (iR x).1=0 then N else K (iR x).1 (iR x).2.1 (iR x).2.2:=by
 intro x b a K N;revert b
 simp only[lC,jy,zW,zX];rintro (rfl|rfl|rfl|rfl|rfl|rfl|rfl|rfl|rfl|rfl|rfl|rfl|rfl|rfl|rfl|rfl|rfl|rfl|rfl|rfl|rfl|rfl|rfl|rfl|rfl|rfl)<;>kernel_rfl
end Go.Proofs.YtmbehibpfkkjbaaGreatDoor.W
namespace Go.Proofs.YtmbehibpfkkjbaaGreatDoor
open Go.RowKit Go.ChangeShapes Go.WideShapes Go.ChangeAt
set_option maxRecDepth 100000
def b_':ownKnob Tryz.prog.godebug=none:=by kernel_rfl
def aEF:laidOutB Tryz.prog=true:=by kernel_rfl
def b'N:Tryz.prog.follows .mixedOrders=true:=by kernel_rfl
variable {g:FuncId} {E:PV} {U:Mem} {X:aT} {K:List PV} {n:Nat}
def bAF {args:List PV} (h:W.SS.CC g args []=o6 E):Ev Tryz.prog g args [] E [] :=Qe b'N W.fG b3R g args [] E [] h
def c4B:bI U X [] []:=gZ.2 rfl
def aHO {u:Value} {a:List Value} (h:dC U X E u) (b:bI U X K a):bI U X (E::K) (u::a):=eP.2 ⟨u,a,rfl,h,b⟩
def agU:I7 Tryz.prog 5=false:=by kernel_rfl
def b0O (h:jW Tryz.prog n 5 K):∃ c:UInt8,K = [.int .u8 (c.toNat:Int)]:=by
 cases n with
 | zero=>exact h.elim
 | succ n =>
  simp only[jW,Tryz.underlying5] at h;obtain ⟨a,rfl,b⟩:=h;simp[Lit.wf,IntKind.min,IntKind.max,IntKind.signed,IntKind.bits] at b;refine ⟨UInt8.ofNat a.toNat,?_⟩;have:((UInt8.ofNat a.toNat).toNat:Int)=a:=by rw[UInt8.toNat_ofNat'];omega
  rw[this]
def aXZ {a:Type} {f:a->PV} {Q:a->Prop}:∀ {es:List PV},(∀ p,p∈es->∃ x,p=f x/\Q x)->∃ l:List a,es=l.map f/\∀ x,x∈l->Q x
 | [],_=>⟨[],rfl,by simp⟩
 | p::es,h=>by
  obtain ⟨x,d,hq⟩:=h p (by simp);obtain ⟨l,e,b⟩:=aXZ (es:=es) fun q hq=>h q (by simp[hq])
  exact ⟨x::l,by rw[d,e]; rfl,fun y c=>by
   rcases jy.1 c with rfl | c
   .exact hq
   .exact b y c⟩
theorem c6I (h:jW Tryz.prog n 5 K):∃ c:UInt8,zt Tryz.prog 5 K = .int .u8 (c.toNat:Int)/\True:=by obtain ⟨c,rfl⟩:=b0O h;exact ⟨c,by simp[zt,agU],trivial⟩
def aY0:DataW Unit->List Value
 | .lit (.int k n) => [Value.int k n]
 | _ => []
def bZT:DataW Unit->List Value
 | .agg l=>l.flatMap aY0
 | d=>aY0 d
def bZS:DataW Unit->Array Value
 | .agg l=>(l.flatMap bZT).toArray
 | _ => #[]
def aG4 (g:Nat) (d:DataW Unit) (h:Array Obj):Array Obj:=h.modify g fun
 | .cells _ t frozen => .cells (bZS d) t frozen
 | o=>o
noncomputable def laidWorld6 (a:Os):World :={ World.holding Tryz.prog a ⟨#[],#[],[]⟩ with heap:=aG4 2 Rows.laid_math_bits_deBruijn32tab (aG4 3 Rows.laid_math_bits_deBruijn64tab (aG4 1 Rows.laid_internal_strconv_uint64pow10 (World.holding Tryz.prog a ⟨#[],#[],[]⟩).heap)) }
def c3I {H:Type}:(Rows.laid_internal_strconv_uint64pow10:DataW H)=Lib.tabData .u64 Lib.pow10Tab:=by kernel_rfl
shelf_lay LaysM.n144 Nm 144 at Tryz as Tryz.laysM144
def bVV {W:World} {c:List (String×DataW Unit)} (d:laidMet Tryz.prog (("internal/strconv.uint64pow10",Rows.laid_internal_strconv_uint64pow10)::c) W) (l:W.ShapedOpen Tryz.prog):GW W:=by
 rw[c3I] at d;have p:=Lib.tabIs_of_head (g:=1) (t:=325) (e:=301) (n:=20) (by kernel_rfl) (by kernel_rfl) (by kernel_rfl) (by kernel_rfl) (by kernel_rfl) (by kernel_rfl) d;obtain ⟨m,h⟩:=Tryz.laysM144.s1_3 W l;have h:W.cell? ⟨0,0,none⟩=some (.int .i64 m):=by rw[show 0=Tryz.laysM144_ren.g 1 by kernel_rfl]; exact h
 refine ⟨m,fun b o v a => ?_⟩;unfold Dh at a;have e:aIK m = [(0,[Value.int .i64 m]),(1,Lib.pow10Tab.map (Value.int .u64))]:=rfl;rw[e] at a;by_cases i:b=0
 .subst i;have a:([Value.int .i64 m]:List Value)[o]? = some v:=a;match o,a with
  | 0,a =>cases a;exact aJD.2 ⟨h,rfl⟩
  | o+1,a=>cases a
 .by_cases f:b=1
  .subst f;have a:(Lib.pow10Tab.map (Value.int .u64))[o]? = some v:=a;rw[nP] at a;obtain ⟨z,j,rfl⟩:=NW.1 a;have q:o<Lib.pow10Tab.length:=(jr.1 j).1;have f:=p.cell (g:=1) (by kernel_rfl) o q;refine aJD.2 ⟨?_,rfl⟩;rw[f,aJM,j]; rfl
  .have d:(b==0)=false:=by simpa using i
   have r:(b==1)=false:=by simpa using f
   simp[List.lookup,d,r] at a
def bXB {P:Program} {a:Func} {s:ChangeSpec} {c:OpenClaim}
 (b:(c.wf (OpenSpec.ofChange s)&&laidOutB P&&mapsRowed P&&a.params.all (P.readableRec ·)&&namedTie P c.named s.vars&&(c.stops == [])&&(P.stops == [])&&(c.knobs == [])&&(P.stopKnobs == []))=true)
 (d:(c.inPlace==P.inPlace g)=true) (e:(c.unfollowed==P.unfollowed g)=true) (h:(c.recurses==P.recurses g)=true) (i:(c.named==P.varsNamed g)=true)
 (h6:((c.maps==(a.params.toList ++ s.plain.varTypes P).any (P.mapsRec ·))&&(c.ifaces==(a.params.toList ++ s.plain.varTypes P).any (P.ifacesRec ·))&&(c.mapsOut==P.mapsAmong a.resultTypes.toList) &&
  (c.loops==(a.params.toList ++ s.plain.varTypes P).any (P.loopsFrom ·))&&(c.wideKeys==(a.params.toList ++ s.plain.varTypes P ++ a.resultTypes.toList).any (P.wideKeysFrom ·)) &&
  s.vars.all (P.varReadable ·)&&a.resultTypes.all (fun t=>P.readableRec t&&decide (t<P.types.size))&&(c.ifacesOut==a.resultTypes.toList.any (P.ifacesRec ·))&&(c.loopsOut==a.resultTypes.toList.any (P.loopsFrom ·))&&(c.plainKeys==P.plainKeys)&&c.shortTexts.isNone&&P.stopsHeard&&P.mayEnter&&(c.lifted==P.liftsFinal)&&(P.make==some c.make)&&(c.kinds==(if c.domain.isEmpty then [] else a.params.toList.map fun t=>match P.underlying t with | some (.int k)=>some k | _=>none))&&(c.pinned==c.pinnedBy) &&
  (c.veiled==(a.params.toList ++ s.plain.varTypes P ++ a.resultTypes.toList).any (P.veiledRec ·))&&c.veiledFits P a.params.toList (a.params.toList ++ s.plain.varTypes P ++ a.resultTypes.toList))=true):joinedFacts P g a s c=true:=by
 unfold joinedFacts;simp only[bQ,and_assoc] at b h6 ⊢;exact ⟨b.1,b.2.1,b.2.2.1,b.2.2.2.1,b.2.2.2.2.1,b.2.2.2.2.2.1,b.2.2.2.2.2.2.1,b.2.2.2.2.2.2.2.1,b.2.2.2.2.2.2.2.2,d,e,h,i,h6⟩
end Go.Proofs.YtmbehibpfkkjbaaGreatDoor
namespace Go.Proofs.YtmbehibpfkkjbaaGreatDoor
open Go.RowKit
def MN (c:Bool) (f:Nat) (a:List UInt8) (i d start:Nat) (bZ:List Tok):Jw :=
 let g:=jJ c a
 let p:=vT (a.take g) i (d,start)
 match a.drop g with
 | [] => .ok (bZ ++ [(⟨4,[],0,(p.1:Nat),((i+g-p.2+1:Nat):Int)⟩:Tok)])
 | b::r =>
  if (dw (b::r)).2=0 then uj f ((b::r).drop (dw (b::r)).1.text.length) (i+g+(dw (b::r)).1.text.length) p.1 p.2 (bZ ++ [(dw (b::r)).1.at (p.1:Nat) ((i+g-p.2+1:Nat):Int)])
  else .err (p.1:Nat) ((i+g-p.2+1:Nat):Int) (dw (b::r)).2
variable {p Z:Bool} {t:UInt8} {H:List UInt8}
theorem zi (h:jJ p (t::H)=1+jJ Z H) (f i a start:Nat) (bZ:List Tok) :
 MN p f (t::H) i a start bZ=MN Z f H (i+1) (if t=10 then a+1 else a) (if t=10 then i+1 else start) bZ:=by
 grind [MN,vT]
def b3Z (c:Bool) (f i a start:Nat) (bZ:List Tok):MN c f [] i a start bZ = .ok (bZ ++ [(⟨4,[],0,(a:Nat),((i-start+1:Nat):Int)⟩:Tok)]):=by rfl
theorem aI9:∀ (f e:Nat) (a:List UInt8) (i c start:Nat) (bZ:List Tok),a.length<f->a.length<e->uj f a i c start bZ=uj e a i c start bZ
 | 0,_,_,_,_,_,_,h,_=>by omega
 | f+1,0,_,_,_,_,_,_,h=>by omega
 | f+1,e+1,a,i,c,start,bZ,l,m=>by
  unfold uj;simp only;split
  .rfl
  .rename_i b r d;split
   .rename_i g;obtain ⟨k4,k5⟩:=Pg g;have j:=congrArg List.length d;rw[qH] at j;exact aI9 f e _ _ _ _ _ (by rw[qH]; omega) (by rw[qH]; omega)
   .rfl
def AL (c:Bool) (a:List UInt8) (i b start:Nat) (bZ:List Tok):Jw:=MN c a.length a i b start bZ
theorem G_C {f:Nat} (h:H.length<=f) (i a start:Nat) (bZ:List Tok):MN p f H i a start bZ=AL p H i a start bZ:=by grind [AL,MN,Pg,aI9]
theorem c60 (l:List UInt8) (i a start:Nat) (bZ:List Tok):uj (l.length+1) l i a start bZ=AL false l i a start bZ:=rfl
def b3S (c:Bool) (i a start:Nat) (bZ:List Tok):AL c [] i a start bZ = .ok (bZ ++ [(⟨4,[],0,(a:Nat),((i-start+1:Nat):Int)⟩:Tok)]):=b3Z c 0 i a start bZ
def x9 (h:jJ p (t::H)=1+jJ Z H) (i a start:Nat) (bZ:List Tok) :
 AL p (t::H) i a start bZ=AL Z H (i+1) (if t=10 then a+1 else a) (if t=10 then i+1 else start) bZ:=by
 rw[AL,zi h,G_C (by simp)]
def aJX (h:jJ false (t::H)=0) (i a start:Nat) (bZ:List Tok) :
 AL false (t::H) i a start bZ=if (dw (t::H)).2=0 then AL false ((t::H).drop (dw (t::H)).1.text.length) (i+(dw (t::H)).1.text.length) a start (bZ ++ [(dw (t::H)).1.at (a:Nat) ((i-start+1:Nat):Int)])
  else .err (a:Nat) ((i-start+1:Nat):Int) (dw (t::H)).2:=by
 rw[AL,MN,h];simp only[List.take_zero,List.drop_zero,vT,VE];split
 .rename_i c;obtain ⟨k4,k5⟩:=Pg c;rw[aI9 _ (((t::H).drop (dw (t::H)).1.text.length).length+1) _ _ _ _ _ (by rw[qH]; omega) (by omega)];rfl
 .rfl
theorem c6S (c:Bool) (b:UInt8) (r:List UInt8):(∃ a,jJ c (b::r)=1+jJ a r/\((c=true/\b=10/\a=false)\/(c=true/\b≠10/\a=true)\/(c=false/\xC b.toNat=true/\a=false)\/(c=false/\xC b.toNat=false /\ [47,47].isPrefixOf (b::r)=true/\a=true))) \/
 (c=false/\xC b.toNat=false /\ [47,47].isPrefixOf (b::r)=false/\jJ c (b::r)=0):=by
 cases c with
 | true =>
  left;by_cases h:b=10
  .exact ⟨false,by rw[jJ,ay h],.inl ⟨rfl,h,rfl⟩⟩
  .exact ⟨true,by rw[jJ,aX h],.inr (.inl ⟨rfl,h,rfl⟩)⟩
 | false =>grind [jJ]
theorem a_Q {p:Nat->Bool} {x:UInt8} (a:p x.toNat=false) (u:List UInt8):∀ (l:List UInt8),dQ p (l ++ x::u)=dQ p l
 | []=>by unfold dQ; rw[List.nil_append,Ae,a]; rfl
 | b::l=>by have:=a_Q a u l;grind [dQ,List.takeWhile_cons]
theorem a'V {x:UInt8} (u:List UInt8):∀ (y l:List UInt8),(∀ c,c∈y->c≠x)->y.isPrefixOf (l ++ x::u)=y.isPrefixOf l
 | [],l,_=>by simp
 | a::y,[],h=>by have:=h a (by simp);grind
 | a::y,b::l,h=>by
  have:=a'V u y l fun c d=>h c (by simp[d])
  grind
theorem find_congr {b:Type} {p q:b->Bool}:∀ {l:List b},(∀ x,x∈l->p x=q x)->l.find? p=l.find? q
 | [],_=>rfl
 | a::l,h=>by
  have:=find_congr (l:=l) fun x c=>h x (by simp[c])
  rw[List.find?_cons,List.find?_cons,h a (by simp),this]
def c84:∀ x∈lC,∀ c∈x,c≠32:=by decide
theorem c83 (a:∀ y∈lC,∀ c∈y,c≠t) (u l:List UInt8):H9 (l ++ t::u)=H9 l:=by grind [H9,find_congr,a'V]
theorem c3W (a:iy t.toNat=false) (d:∀ y∈lC,∀ c∈y,c≠t) (u:List UInt8) (b:UInt8) (r:List UInt8):dw ((b::r) ++ t::u)=dw (b::r):=by grind [iy,a_Q,c83,dw,Cm,DN,Es]
end Go.Proofs.YtmbehibpfkkjbaaGreatDoor
namespace Go.Proofs.YtmbehibpfkkjbaaGreatDoor.W
open Go.RowKit
set_option maxRecDepth 1000000
def RA.N (A:RA):Nat:=if A.e=0 then A.toks.length else 0
variable {a L:RA} {o f i D:Int} {r:d_} {I:List b_} {e y:EX} {M:List Int} {m:List EX} {n a':Nat} {C:List (d_)} {g:FuncId} {b u:ai} {h:aH} {j:List Tok} {O:Tok} {t:UInt8}
theorem Ve (h:a.e≠0):a.N=0:=by grind [RA.N]
structure Le (A A':RA):Prop where
 ok:A'.ok
 bad:A.e≠0->A'=A
 le:A'.N<=A.N
def Le.refl (h:a.ok):Le a a:=⟨h,fun _=>rfl,dO _⟩
def Le.trans {C:RA} (h:Le a L) (k:Le L C):Le a C:=⟨k.ok,fun e=>by have b:=h.bad e;rw[b] at k;exact k.bad e,jO k.le h.le⟩
def Le.e0 (h:Le a L) (e:L.e=0):a.e=0:=by
 by_cases c:a.e=0
 .exact c
 .rw[h.bad c] at e; omega
theorem GV (hk:a.pk.kind≠4):a.e=0:=by grind [pk4]
theorem jl {A:RA} (h:A.ok) (hk:A.pk.kind≠4):A.next.e=0/\A.next.N<A.N:=by have he:=GV hk;obtain ⟨t,tl,a⟩:=h.ne he;grind [RA.next,RA.N]
theorem Le.next (h:a.ok):Le a a.next:=⟨h.next,fun e=>aF3 e,by grind [RA.next,jl]⟩
def Le.fail (h:a.ok) (b:o≠0):Le a (a.fail o):=⟨h.fail o,fun e=>aBI e o,by rw[Ve (qw b)]; omega⟩
def Le.exp (h:a.ok) (x:d_):Le a (a.exp x):=by
 unfold RA.exp;cases a.is x with
 | true=>exact .next h
 | false=>exact .fail h (by decide)
def Le.take (h:a.ok) (x:d_):Le a (a.take x):=by
 unfold RA.take;cases a.is x with
 | true=>exact .next h
 | false=>exact .refl h
def Le.name (h:a.ok):Le a a.name:=by
 unfold RA.name;split
 .exact .next h
 .exact .fail h (by decide)
theorem kY (h:a.is r=true):a.pk.kind≠4:=by grind [RA.is]
theorem qc (h:a.is r=true):a.take r=a.next:=by grind [RA.take]
theorem mY (h:a.is r=false):a.take r=a:=by grind [RA.take]
theorem aVQ (h:a.ok) {x:d_} (b:x∈lC) (c:a.is x=true):a.pk.kind=3/\a.pk.text=x:=by rw[a6P h b,bQ] at c;simp_all
theorem Tf (h:a.ok) {x:d_} (b:x∉lC):a.is x=(a.pk.kind==1&&a.pk.text==x):=by grind [RA.is,MG]
def RA.kp (A:RA) (l:List b_):RA:=if A.pk.kind=1/\kX (bs A.pk.text) l 0<0 then A.fail 9 else A
def RA.kn (A:RA) (l:List b_):RA:=(A.kp l).name
def RA.yA (A:RA) (l:List b_):Int:=if (0:Int)>kX (bs A.pk.text) l 0 then 0 else kX (bs A.pk.text) l 0
theorem a7C (hk:a.pk.kind=1) (b:kX (bs a.pk.text) I 0<0):a.kp I=a.fail 9:=by grind [RA.kp]
theorem L9 (c:¬ (a.pk.kind=1/\kX (bs a.pk.text) I 0<0)):a.kp I=a:=by grind [RA.kp]
def RA.ok.kp (h:a.ok) (l:List b_):(a.kp l).ok:=by
 unfold RA.kp; split
 .exact h.fail 9
 .exact h
def Le.kn (h:a.ok) (l:List b_):Le a (a.kn l):=by
 unfold RA.kn;refine Le.trans ?_ (Le.name (h.kp l));unfold RA.kp; split
 .exact .fail h (by decide)
 .exact .refl h
def Tn (h:a.ok) (q:Sh.V Dt) (l:List b_) (d:l.length<1000000000000):SS.CC 271 [ag,a_ (dG l)] [Vf q,aA a.v]=some (aP (a.yA l),[Vf q,aA (a.kn l).v]):=by
 rw[bOF,eX (gJ h)];rw[bn (Ig l d _),eX (gJ h)];unfold RA.kn RA.yA;by_cases hk:a.pk.kind=1
 .rw[show (a.pk.kind==1)=true by simp[hk],aI];by_cases b:kX (bs a.pk.text) l 0<0
  .rw[aK b,aI,bg (lu h 9),a7C hk b];rw[aCH,lZ (mG (h.fail 9))]
  .rw[aU b,aF,L9 (fun c=>b c.2),aCH,lZ (mG h)]
 .rw[show (a.pk.kind==1)=false by simp[hk],aF,L9 (fun c=>hk c.1),aCH,lZ (mG h)]
def Ry (h:a.ok) (q:Sh.V Ak) (l:List b_) (b:l.length<1000000000000):SS.CC 286 [ag,a_ (dG l)] [Hz q,aA a.v]=some (aP (kX (bs (a.kp l).iI) l 0),[Hz q,aA (a.kn l).v]):=by
 rw[bPM,eX (gJ h)];try dsimp only
 unfold RA.kn;by_cases hk:a.pk.kind=1
 .rw[show (a.pk.kind==1)=true by simp[hk],aI,bC (y_ l b _)];by_cases d:kX (bs a.pk.text) l 0<0
  .rw[aU (by omega),su,aI,bg (lu h 9),a7C hk d];try dsimp only
   rw[aCN,lZ (mG (h.fail 9)),bn (Ig l b _)]
  .rw[aK (by omega),ut,aF,L9 (fun c=>d c.2),aCN,lZ (mG h),bn (Ig l b _)]
 .rw[show (a.pk.kind==1)=false by simp[hk],aF,L9 (fun c=>hk c.1),aCN,lZ (mG h),bn (Ig l b _)]
theorem aZ5 (h:a.e≠0):a.name.e≠0:=by grind [RA.name,pk4,aBI]
theorem aDW (h:a.ok) (e:(a.kn I).e=0):a.kp I=a/\a.pk.kind=1/\0<=kX (bs a.pk.text) I 0/\a.kn I=a.next/\(a.kp I).iI=a.pk.text:=by grind [RA.kp,RA.kn,aZ5,qw,RA.name,RA.iI]
theorem aDX (h:a.ok) (e:(a.kn I).e=0):(if (0:Int)>kX (bs (a.kp I).iI) I 0 then 0 else kX (bs (a.kp I).iI) I 0)=a.yA I/\(a.kn I).N<a.N:=by obtain ⟨d,f,g,b,c⟩:=aDW h e;rw[c,b];exact ⟨rfl,(jl h (by omega)).2⟩
def wF (h:a.ok):SS.CC 161 [ag,cEX [33]] [aA a.v]=some (.bool (a.is [33]),[aA a.v]):=uX h _
def zx (h:a.ok):SS.CC 161 [ag,cEX [45]] [aA a.v]=some (.bool (a.is [45]),[aA a.v]):=uX h _
def Kz (h:a.ok):SS.CC 161 [ag,cEX [40]] [aA a.v]=some (.bool (a.is [40]),[aA a.v]):=uX h _
def a9E (h:a.ok):SS.CC 87 [ag,cEX [63]] [aA a.v]=some (.bool (a.is [63]),[aA (a.take [63]).v]):=jL h _
abbrev mM:d_ := [116,114,117,101]
abbrev pM:d_ := [102,97,108,115,101]
def tkT (h:a.ok):SS.CC 87 [ag,cEX [116,114,117,101]] [aA a.v]=some (.bool (a.is mM),[aA (a.take mM).v]):=jL h _
def tkF (h:a.ok):SS.CC 87 [ag,cEX [102,97,108,115,101]] [aA a.v]=some (.bool (a.is pM),[aA (a.take pM).v]):=jL h _
def aN6 (h:a.ok):SS.CC 27 [ag,cEX [58]] [aA a.v]=bi [aA (a.exp [58]).v]:=fA h _
def aN5 (h:a.ok):SS.CC 27 [ag,cEX [41]] [aA a.v]=bi [aA (a.exp [41]).v]:=fA h _
abbrev MF:=b_×ai×ai×ai×ai×ai×ai
structure Out (A A':RA) (x y:EX):Prop extends Le A A' where
 eq:A'.e=0->x=y
 lt:A'.e=0->A'.N<A.N
 fit:x.Fit
def Out.bad' (h:Le a L) (b:L.e≠0) (f:e.Fit):Out a L e y:=⟨h,fun c=>absurd c b,fun c=>absurd c b,f⟩
section
variable {F:MF} {v:ai} {d:Int} {A B:RA} {x:EX}
def aF1 (h:d<32):(d==32)=false:=by simp; omega
def wr1 (a:0<=d) (b:d<32):i64.wrap (d+1)=d+1:=wrap64 (by omega) (by omega)
theorem wr2 (a:0<=d) (b:d<32):i64.wrap (d+1-1)=d:=by rw[wrap64 (by omega) (by omega)]; omega
theorem aDG (hk:A.pk.kind=2) (t:d_):A.is t=false:=by grind [RA.is]
def PN (h:A.ok) (hk:A.pk.kind=2):0<=A.pk.value/\A.pk.value<=65536:=by
 rcases aG0 h with (⟨a,_⟩|⟨_,a⟩|⟨a,_⟩) | a
 .omega
 .exact a
 .omega
 .omega
theorem a6N (h:A.ok) (hk:A.pk.kind=2):A.EO 0 65536=A.pk.value/\A.int 0 65536=A.next:=by obtain ⟨a,b⟩:=PN h hk;grind [RA.mi,wrap64,RA.EO,RA.int,RA.PM,RA.num]
end
def tlT:(⟨#[116,114,117,101]⟩:b_).toList=mM:=NL _
def tlF:(⟨#[102,97,108,115,101]⟩:b_).toList=pM:=NL _
def lW (o:Int):d_:=if o=2 then [43] else if o=3 then [45] else if o=4 then [42] else if o=6 then [61,61] else if o=7 then [33,61] else if o=8 then [60] else if o=9 then [60,61] else if o=11 then [38,38] else [124,124]
def MO (o:Int):SS.CC 262 [aP o] []=some (.str (bs (lW o)),[]):=by
 rw[bC2];unfold lW;simp only[Rf,qi];repeat' split
 all_goals rfl
def uk (o:Int):lW o∈lC:=by
 unfold lW;repeat' split
 all_goals decide
def RA.ix (A:RA):List Int->Nat->Int
 | [],_ => -1
 | o::l,k=>bif A.is (lW o) then (k:Int) else A.ix l (k+1)
abbrev Lj (l:List Int):ai:=l.map fun o => aP o
def Y8 (t:d_):List Int->Nat->Int
 | [],_ => -1
 | o::l,k=>bif t==lW o then (k:Int) else Y8 t l (k+1)
theorem aDI {A:RA} (h:A.ok) (a:A.pk.kind=3):∀ (l:List Int) (k:Nat),A.ix l k=Y8 A.pk.text l k
 | [],_=>rfl
 | o::l,k=>by rw[RA.ix,Y8,a6P h (uk o),a,aDI h a l]; rfl
theorem aW1 {A:RA} (h:A.ok) (a:A.pk.kind≠3):∀ (l:List Int) (k:Nat),A.ix l k = -1
 | [],_=>rfl
 | o::l,k=>by rw[RA.ix,a6P h (uk o),show (A.pk.kind==3)=false by grind,DU,FB]; exact aW1 h a l _
def Be (b:Int) (a:List Int):Prop:=∀ t,t∈lC->((iR t).1=b->∃ k ∈ [0,1],Y8 t a 0=((k:Nat):Int)/\a[k]? = some (iR t).2.1/\(iR t).2.2=false)/\((iR t).1≠b->Y8 t a 0 = -1)
def b_X:Be 1 [12]:=by unfold Be; decide
def ops2:Be 2 [11]:=by unfold Be; decide
def ops4:Be 4 [2,3]:=by unfold Be; decide
def ops5:Be 5 [4]:=by unfold Be; decide
theorem b_Z (h:a.ok) (b:Be o M) (c:a.zC o=true):a.pk.kind≠4/\(∃ k:Nat,a.ix M 0=(k:Int)/\M[k]? = some (iR a.pk.text).2.1)/\(iR a.pk.text).2.2=false:=by
 unfold RA.zC at c;rw[bQ] at c;have d:a.pk.kind=3:=by simp_all
 obtain ⟨k,_,k1,k2,k3⟩:=(b _ (MG h d)).1 (by simp_all);grind [aDI]
theorem b_Y (h:a.ok) (d:Be o M) (c:a.zC o=false):a.ix M 0 = -1:=by
 by_cases b:a.pk.kind=3
 .rw[aDI h b];refine (d _ (MG h b)).2 fun e => ?_
  grind [RA.zC]
 grind [aW1]
def Bq (q:Sh.V Ak) (A:RA):SS.CC 48 [ag] [Hz q,aA A.v]=some (.bool (A.e != 0),[Hz q,aA A.v]):=by rw[bIL,Np (OO A)]
section
variable {F:MF} {l:List b_} {d:Int}
theorem b86 (a b:Sh.V S1):qM 4 ([aP a.1,aP a.2.1,aP a.2.2.1,.sl false 4 a.2.2.2.1,aP b.1,aP b.2.1,aP b.2.2.1,.sl false 4 b.2.2.2.1]:ai) 2 = [A1 a,A1 b]:=rfl
theorem b88 (a b:Sh.V S1):(decide (2*4<=([aP a.1,aP a.2.1,aP a.2.2.1,.sl false 4 a.2.2.2.1,aP b.1,aP b.2.1,aP b.2.2.1,.sl false 4 b.2.2.2.1]:ai).length)&&decide (0<4)&&([aP a.1,aP a.2.1,aP a.2.2.1,.sl false 4 a.2.2.2.1,aP b.1,aP b.2.1,aP b.2.2.1,.sl false 4 b.2.2.2.1]:ai).all fun p=>p.one&&p.flat)=true:=rfl
def c4N (a b:Sh.V S1):SS.CC 233 [.slh 0 0 2 4] [some [aP a.1,aP a.2.1,aP a.2.2.1,.sl false 4 a.2.2.2.1,aP b.1,aP b.2.1,aP b.2.2.1,.sl false 4 b.2.2.2.1]]=bi [some [aP b.1,aP b.2.1,aP b.2.2.1,.sl false 4 b.2.2.2.1,aP a.1,aP a.2.1,aP a.2.2.1,.sl false 4 a.2.2.2.1]]:=by rw[bKJ,aQT];refine Eq.trans (b:=a3S [aP b.1,aP b.2.1,aP b.2.2.1,.sl false 4 b.2.2.2.1,aP a.1,aP a.2.1,aP a.2.2.1,.sl false 4 a.2.2.2.1] 1 0) rfl ?_;rw[aQT];rfl
def bZN:∀ t,t∈lC->(iR t).1=3->t = [61,61]\/t = [33,61]\/t = [60,61]\/t = [60]\/t = [62,61]\/t = [62]:=by decide
end
section
def bLZ:KT:=SS.rK Tryz.f41 41 0 []
def bL':KT:=SS.jK 41 55 0 (cS Tryz.f41 7) bLZ
def bM0:KT:=aS 0 bL'
def IU (a:b_) (b:Int):R:=SS.LL (SS.ae 41 55) 0 [0,7,8] 0 (cS Tryz.f41 37) bM0 ⟨[(0,.str a),(7,aP (a.size:Int)),(8,aP b)],[]⟩
def aRB (a:b_) (b:Int):IU a b=aB (decide (b<(a.size:Int))) (xx a b fun c=>(fun w=>aB (decide (97<=c)) (aB (decide (c<=122)) (IU a (i64.wrap (b+1))) (aB (decide (65<=c)) (aB (decide (c<=90)) (IU a (i64.wrap (b+1))) w) w)) (aB (decide (65<=c)) (aB (decide (c<=90)) (IU a (i64.wrap (b+1))) w) w)) (aB (!(c==95)) (aB (b==0) iM (aB (decide (c<48)) iM (aB (decide (57<c)) iM (IU a (i64.wrap (b+1)))))) (IU a (i64.wrap (b+1))))) (aB (decide (0<(a.size:Int))) (some (.bool (decide ((a.size:Int)<=32)),[])) iM):=ll
def bM1 (a0:b_):SS.CC 41 [.str a0] []=IU a0 0:=cc
def aCA (a0:Sh.V S1) (a1:Int):SS.CC 43 [A1 a0,aP a1] []=aB (decide (a1<0)) (some (.tuple [aP 0,aP 2],[])) (aB (decide (16<a1)) (some (.tuple [aP 0,aP 2],[])) (H19 151 [A1 a0,aP a1,aP 1,ag] [mP (0,())] fun a c=>aB (a != 0) (some (.tuple [aP 0,aP a],[])) (G1 152 [A1 a0] fun b=>aB (b==0) (some (.tuple [aP 0,aP 16],[])) (some (.tuple [aP b,aP 0],[]))))):=cc
def bNW:KT:=SS.rK Tryz.f180 180 0 []
def bNX:KT:=SS.jK 180 157 0 (cS Tryz.f180 127) bNW
def bNY:KT:=aS 0 bNX
def a4Q (a:ai) (b:Sh.V S1):R:=bD (SS.xX 180 157 0) (cS Tryz.f180 229215) bNY ⟨[(0,a_ a),(4,.cst (A1 b))],[]⟩
def bNV (a:ai) (b:Sh.V S1):a4Q a b=ak S1 b.2.2.2.1 0 fun c=>G7 180 [a_ a,A1 c,aP 6] fun l6=>bJ (decide (1+l6.length<=aN)) (some (.sl true 1 (([cEX [45]]:ai) ++ l6),[])):=by kernel_rfl
def GI (a0:ai) (a1:Sh.V S1) (a2:Int):SS.CC 180 [a_ a0,A1 a1,aP a2] []=G1 261 [A1 a1] fun J=>aB (decide (J<a2)) (G7 180 [a_ a0,A1 a1,aP 0] fun t=>bJ (decide (1+t.length<=aN)) (bJ (decide ((([cEX [40]]:ai) ++ t).length+1<=aN)) (some (.sl true 1 ((([cEX [40]]:ai) ++ t) ++ ([cEX [41]]:ai)),[])))) (oM 85 [] fun K=>G3 52 [A1 a1,A1 K] fun u=>aB u (some (.sl true 1 [cEX [116,114,117,101]],[])) (oM 155 [] fun v=>G3 52 [A1 a1,A1 v] fun w=>aB w (some (.sl true 1 [cEX [102,97,108,115,101]],[])) (G1 261 [A1 a1] fun g=>aB (a1.1==0) (G7 78 [aP a1.2.1] fun x=>some (.sl true 1 x,[])) (aB (a1.1==1) (dD a0 a1.2.2.1 fun y=>vS y fun z=>some (.sl true 1 [.str z],[])) (aB (a1.1==10) (ak S1 a1.2.2.2.1 0 fun A=>G7 180 [a_ a0,A1 A,aP 6] fun h=>bJ (decide (1+h.length<=aN)) (some (.sl true 1 (([cEX [33]]:ai) ++ h),[]))) (aB (a1.1==5) (ak S1 a1.2.2.2.1 0 fun c=>aB (c.1==0) (aB (decide (0<=c.2.1)) (G7 180 [a_ a0,A1 c,aP 0] fun d=>bJ (decide (2+d.length<=aN)) (bJ (decide ((([cEX [45],cEX [40]]:ai) ++ d).length+1<=aN)) (some (.sl true 1 ((([cEX [45],cEX [40]]:ai) ++ d) ++ ([cEX [41]]:ai)),[])))) (a4Q a0 a1)) (a4Q a0 a1)) (aB (a1.1==13) (ak S1 a1.2.2.2.1 0 fun B=>G7 180 [a_ a0,A1 B,aP 1] fun a=>bJ (decide (a.length+1<=aN)) (ak S1 a1.2.2.2.1 1 fun L=>G7 180 [a_ a0,A1 L,aP 0] fun b=>bJ (decide ((a ++ ([cEX [63]]:ai)).length+b.length<=aN)) (bJ (decide (((a ++ ([cEX [63]]:ai)) ++ b).length+1<=aN)) (ak S1 a1.2.2.2.1 2 fun M=>G7 180 [a_ a0,A1 M,aP 0] fun i=>bJ (decide ((((a ++ ([cEX [63]]:ai)) ++ b) ++ ([cEX [58]]:ai)).length+i.length<=aN)) (some (.sl true 1 ((((a ++ ([cEX [63]]:ai)) ++ b) ++ ([cEX [58]]:ai)) ++ i),[])))))) (aB (a1.1==6) (ak S1 a1.2.2.2.1 0 fun C=>G7 180 [a_ a0,A1 C,aP 4] fun e=>G2 262 [aP a1.1] fun j=>bJ (decide (e.length+1<=aN)) (ak S1 a1.2.2.2.1 1 fun D=>G7 180 [a_ a0,A1 D,aP 4] fun l=>bJ (decide ((e ++ ([.str j]:ai)).length+l.length<=aN)) (some (.sl true 1 ((e ++ ([.str j]:ai)) ++ l),[])))) (aB (a1.1==7) (ak S1 a1.2.2.2.1 0 fun N=>G7 180 [a_ a0,A1 N,aP 4] fun Tu=>G2 262 [aP a1.1] fun m=>bJ (decide (Tu.length+1<=aN)) (ak S1 a1.2.2.2.1 1 fun E=>G7 180 [a_ a0,A1 E,aP 4] fun YK=>bJ (decide ((Tu ++ ([.str m]:ai)).length+YK.length<=aN)) (some (.sl true 1 ((Tu ++ ([.str m]:ai)) ++ YK),[])))) (aB (a1.1==8) (ak S1 a1.2.2.2.1 0 fun F=>G7 180 [a_ a0,A1 F,aP 4] fun f=>G2 262 [aP a1.1] fun n=>bJ (decide (f.length+1<=aN)) (ak S1 a1.2.2.2.1 1 fun O=>G7 180 [a_ a0,A1 O,aP 4] fun o=>bJ (decide ((f ++ ([.str n]:ai)).length+o.length<=aN)) (some (.sl true 1 ((f ++ ([.str n]:ai)) ++ o),[])))) (aB (a1.1==9) (ak S1 a1.2.2.2.1 0 fun G=>G7 180 [a_ a0,A1 G,aP 4] fun Oz=>G2 262 [aP a1.1] fun p=>bJ (decide (Oz.length+1<=aN)) (ak S1 a1.2.2.2.1 1 fun H=>G7 180 [a_ a0,A1 H,aP 4] fun q=>bJ (decide ((Oz ++ ([.str p]:ai)).length+q.length<=aN)) (some (.sl true 1 ((Oz ++ ([.str p]:ai)) ++ q),[])))) (ak S1 a1.2.2.2.1 0 fun Q=>G7 180 [a_ a0,A1 Q,aP g] fun LC=>G2 262 [aP a1.1] fun r=>bJ (decide (LC.length+1<=aN)) (ak S1 a1.2.2.2.1 1 fun I=>G7 180 [a_ a0,A1 I,aP (i64.wrap (g+1))] fun YF=>bJ (decide ((LC ++ ([.str r]:ai)).length+YF.length<=aN)) (some (.sl true 1 ((LC ++ ([.str r]:ai)) ++ YF),[]))))))))))))))):=cc
def bS9 (a0:Int):SS.CC 78 [aP a0] []=aB (decide (a0<0)) (G2 74 [aP (i64.wrap (0-a0))] fun s1=>some (.sl true 1 [cEX [45],.str s1],[])) (G2 74 [aP a0] fun a=>some (.sl true 1 [.str a],[])):=cc
def aOK:KT:=SS.rK Tryz.f151 151 1 []
def bBP:KT:=SS.jK 151 103 1 (cS Tryz.f151 127) aOK
def bBQ:KT:=aS 1 bBP
def Wv (a b:Int) (c:Sh.V S1) (d:Int):R:=bD (SS.xX 151 103 1) (cS Tryz.f151 63) aOK ⟨[(1,aP a),(2,aP b),(3,ag),(4,.cst (A1 c))],[mP (d,())]⟩
def Wx (c d:Int) (a:ai) (e b:Int):R:=SS.LL (SS.ae 151 103) 1 [1,2,3,87,88,89] 1 (cS Tryz.f151 607) bBQ ⟨[(1,aP c),(2,aP d),(3,ag),(87,.sl false 4 a),(88,aP (a.length:Int)),(89,aP b)],[mP (e,())]⟩
def aOJ (a b:Int) (c:Sh.V S1) (d:Int):Wv a b c d=Wx a b c.2.2.2.1 d 0:=by kernel_rfl
def a2L (c d:Int) (a:ai) (e b:Int):Wx c d a e b=aB (decide (b<(a.length:Int))) (ak S1 a b fun h=>H19 151 [A1 h,aP c,aP (i64.wrap (d+1)),ag] [mP (e,())] fun f g=>aB (f != 0) (some (aP f,[mP g])) (Wx c d a g.1 (i64.wrap (b+1)))) (some (aP 0,[mP (e,())])):=ll
def aOL (a0:Sh.V S1) (a1 a2 a:Int):SS.CC 151 [A1 a0,aP a1,aP a2,ag] [mP (a,())]=aB (a==64) (some (aP 3,[mP (a,())])) (aB (decide (8<a2)) (some (aP 3,[mP (a,())])) (G37 234 [aP a0.1] fun c=>aB (!c.2.1.1) (some (aP 11,[mP (i64.wrap (a+1),())])) (aB ((a0.2.2.2.1.length:Int) != c.1.1) (some (aP 4,[mP (i64.wrap (a+1),())])) ((fun w=>aB (a0.1 != 0) (aB (a0.2.1 != 0) (some (aP 6,[mP (i64.wrap (a+1),())])) (aB (a0.1 != 1) (aB (a0.2.2.1 != 0) (some (aP 6,[mP (i64.wrap (a+1),())])) (aB (a0.1==0) (G3 235 [aP a0.2.1,aP 65536] fun d=>aB d (some (aP 2,[mP (i64.wrap (a+1),())])) w) w)) (aB (a0.1==0) (G3 235 [aP a0.2.1,aP 65536] fun e=>aB e (some (aP 2,[mP (i64.wrap (a+1),())])) w) w))) (aB (a0.1 != 1) (aB (a0.2.2.1 != 0) (some (aP 6,[mP (i64.wrap (a+1),())])) (aB (a0.1==0) (G3 235 [aP a0.2.1,aP 65536] fun f=>aB f (some (aP 2,[mP (i64.wrap (a+1),())])) w) w)) (aB (a0.1==0) (G3 235 [aP a0.2.1,aP 65536] fun b=>aB b (some (aP 2,[mP (i64.wrap (a+1),())])) w) w))) (aB (a0.1==1) (aB (decide (a0.2.2.1<0)) (some (aP 2,[mP (i64.wrap (a+1),())])) (aB (decide (a1<=a0.2.2.1)) (some (aP 2,[mP (i64.wrap (a+1),())])) (Wv a1 a2 a0 (i64.wrap (a+1))))) (Wv a1 a2 a0 (i64.wrap (a+1)))))))):=cc
def bBR:KT:=SS.rK Tryz.f152 152 0 []
def bBS:KT:=SS.jK 152 68 0 (cS Tryz.f152 15) bBR
def bBT:KT:=aS 0 bBS
def SG (a:Sh.V S1) (b:Int) (c:ai):R:=SS.LL (SS.ae 152 68) 0 [1,3,9,10,11] 1 (cS Tryz.f152 75) bBT ⟨[(1,.cst (A1 a)),(3,ag),(9,.sl false 4 a.2.2.2.1),(10,aP (a.2.2.2.1.length:Int)),(11,aP b)],[ja (c,())]⟩
def Oa (a:Sh.V S1) (c:Int) (b:ai):SG a c b=aB (decide (c<(a.2.2.2.1.length:Int))) (ak S1 a.2.2.2.1 c fun w=>G1 152 [A1 w] fun v=>aB (v==0) (some (aP 0,[])) (bJ (decide (b.length+1<=aN)) (SG a (i64.wrap (c+1)) (b ++ ([aP v]:ai))))) (aB (a.1==0) (some (aP 1,[])) (aB (a.1==1) (some (aP 1,[])) (aB (a.1==2) (Ah 236 [aP 1,ag] [ja (b,())] fun x I=>aB x (some (aP 1,[])) (some (aP 0,[]))) (aB (a.1==3) (Ah 236 [aP 1,ag] [ja (b,())] fun d y=>aB d (some (aP 1,[])) (some (aP 0,[]))) (aB (a.1==4) (Ah 236 [aP 1,ag] [ja (b,())] fun e J=>aB e (some (aP 1,[])) (some (aP 0,[]))) (aB (a.1==5) (Ah 236 [aP 1,ag] [ja (b,())] fun f z=>aB f (some (aP 1,[])) (some (aP 0,[]))) (aB (a.1==6) (Ah 236 [aP 1,ag] [ja (b,())] fun A B=>aB A (some (aP 2,[])) (some (aP 0,[]))) (aB (a.1==7) (Ah 236 [aP 1,ag] [ja (b,())] fun g C=>aB g (some (aP 2,[])) (some (aP 0,[]))) (aB (a.1==8) (Ah 236 [aP 1,ag] [ja (b,())] fun h D=>aB h (some (aP 2,[])) (some (aP 0,[]))) (aB (a.1==9) (Ah 236 [aP 1,ag] [ja (b,())] fun i E=>aB i (some (aP 2,[])) (some (aP 0,[]))) (aB (a.1==10) (Ah 236 [aP 2,ag] [ja (b,())] fun F K=>aB F (some (aP 2,[])) (some (aP 0,[]))) (aB (a.1==11) (Ah 236 [aP 2,ag] [ja (b,())] fun j G=>aB j (some (aP 2,[])) (some (aP 0,[]))) (aB (a.1==12) (Ah 236 [aP 2,ag] [ja (b,())] fun l H=>aB l (some (aP 2,[])) (some (aP 0,[]))) (aB (a.1==13) (dD b 0 fun m=>vI .i64 m fun n=>aB (n==2) (dD b 1 fun o=>vI .i64 o fun p=>dD b 2 fun q=>vI .i64 q fun r=>aB (p==r) (dD b 1 fun t=>vI .i64 t fun u=>some (aP u,[])) (some (aP 0,[]))) (some (aP 0,[]))) (some (aP 0,[])))))))))))))))):=ll
def aOM (a0:Sh.V S1):SS.CC 152 [A1 a0] []=SG a0 0 []:=cc
def aON (a0:b_):SS.CC 42 [.str a0] []=aB (a0.toList==(⟨#[116,114,117,101]⟩:b_).toList) rC (some (.bool (a0.toList==(⟨#[102,97,108,115,101]⟩:b_).toList),[])):=cc
def bBU:KT:=SS.Z7 SS.CC SS.LL (SS.ae 44 141) Tryz.f44.results.toList (SS.jG 44).ro 1 [] 1 142 [ag,a_ [cEX [41]]]
def bBV:KT:=SS.rK Tryz.f44 44 1 []
def vN (b:ai) (c:Sh.V S1) (d:Int) (e:ai) (a:b_):R:=bD (SS.xX 44 141 1) (cS Tryz.f44 63) bBU ⟨[(4,.ptr 1 0),(5,.cst (a_ b)),(6,.cst (A1 c)),(8,aP d),(9,dm 154 [.ptr 1 0,.cst (a_ b),.cst (A1 c)]),(10,.str a)],[aG (e,()),some [ag]]⟩
def vM (b:ai) (c:Sh.V S1) (d:Int) (e:ai) (a:b_):R:=bD (SS.xX 44 141 1) (cS Tryz.f44 63) bBV ⟨[(4,.ptr 1 0),(5,.cst (a_ b)),(6,.cst (A1 c)),(8,aP d),(9,dm 154 [.ptr 1 0,.cst (a_ b),.cst (A1 c)]),(10,.str a)],[aG (e,()),some [ag]]⟩
def GG (b:ai) (a:Sh.V S1) (e:Int) (d:ai) (c:b_):vN b a e d c=oM 85 [] fun u1=>G3 52 [A1 a,A1 u1] fun b6=>aB b6 (aj 141 [ag,a_ [cEX [116,114,117,101]]] [aG (d,())] fun _ u8=>aj 142 [ag,a_ [cEX [41]]] [aG u8] fun _ n=>bi [aG n]) (oM 155 [] fun o=>G3 52 [A1 a,A1 o] fun p=>aB p (aj 141 [ag,a_ [cEX [102,97,108,115,101]]] [aG (d,())] fun _ q=>aj 142 [ag,a_ [cEX [41]]] [aG q] fun _ r=>bi [aG r]) (aB (a.1==0) (aj 143 [ag,aP a.2.1] [aG (d,())] fun _ t=>aj 142 [ag,a_ [cEX [41]]] [aG t] fun _ u=>bi [aG u]) (aB (a.1==1) (dD b a.2.2.1 fun v=>vS v fun w=>aj 141 [ag,a_ [.str w]] [aG (d,())] fun _ x=>aj 142 [ag,a_ [cEX [41]]] [aG x] fun _ y=>bi [aG y]) (aB (a.1==5) (ak S1 a.2.2.2.1 0 fun z=>aB (z.1==0) (ak S1 a.2.2.2.1 0 fun zL=>aB (decide (0<=zL.2.1)) (aj 142 [ag,a_ [cEX [45],cEX [40]]] [aG (d,())] fun _ A=>gV 154 [aP 0,aP 0,ag,.cst (a_ b),.cst (A1 a)] [some [.ptr 1 0],aG A] fun _ zM=>aj 142 [ag,a_ [cEX [41]]] [aG zM] fun _ QG=>aj 142 [ag,a_ [cEX [41]]] [aG QG] fun _ B=>bi [aG B]) (aB (a.1==5) (aj 142 [ag,a_ [.str c]] [aG (d,())] fun _ C=>gV 154 [aP 0,aP 6,ag,.cst (a_ b),.cst (A1 a)] [some [.ptr 1 0],aG C] fun _ D=>aj 142 [ag,a_ [cEX [41]]] [aG D] fun _ E=>bi [aG E]) (aB (a.1==10) (aj 142 [ag,a_ [.str c]] [aG (d,())] fun _ F=>gV 154 [aP 0,aP 6,ag,.cst (a_ b),.cst (A1 a)] [some [.ptr 1 0],aG F] fun _ G=>aj 142 [ag,a_ [cEX [41]]] [aG G] fun _ Ha=>bi [aG Ha]) (aB (a.1==13) (gV 154 [aP 0,aP 1,ag,.cst (a_ b),.cst (A1 a)] [some [.ptr 1 0],aG (d,())] fun _ N8=>aj 142 [ag,a_ [cEX [63]]] [aG N8] fun _ wV=>gV 154 [aP 1,aP 0,ag,.cst (a_ b),.cst (A1 a)] [some [.ptr 1 0],aG wV] fun _ eQ=>aj 142 [ag,a_ [cEX [58]]] [aG eQ] fun _ Zh=>gV 154 [aP 2,aP 0,ag,.cst (a_ b),.cst (A1 a)] [some [.ptr 1 0],aG Zh] fun _ H=>aj 142 [ag,a_ [cEX [41]]] [aG H] fun _ yN=>bi [aG yN]) (aB (e==3) (gV 154 [aP 0,aP 4,ag,.cst (a_ b),.cst (A1 a)] [some [.ptr 1 0],aG (d,())] fun _ I=>aj 142 [ag,a_ [.str c]] [aG I] fun _ Md=>gV 154 [aP 1,aP 4,ag,.cst (a_ b),.cst (A1 a)] [some [.ptr 1 0],aG Md] fun _ f=>aj 142 [ag,a_ [cEX [41]]] [aG f] fun _ QE=>bi [aG QE]) (gV 154 [aP 0,aP e,ag,.cst (a_ b),.cst (A1 a)] [some [.ptr 1 0],aG (d,())] fun _ ZV=>aj 142 [ag,a_ [.str c]] [aG ZV] fun _ J=>gV 154 [aP 1,aP (i64.wrap (e+1)),ag,.cst (a_ b),.cst (A1 a)] [some [.ptr 1 0],aG J] fun _ JV=>aj 142 [ag,a_ [cEX [41]]] [aG JV] fun _ ZW=>bi [aG ZW])))))) (aB (a.1==5) (aj 142 [ag,a_ [.str c]] [aG (d,())] fun _ JW=>gV 154 [aP 0,aP 6,ag,.cst (a_ b),.cst (A1 a)] [some [.ptr 1 0],aG JW] fun _ K=>aj 142 [ag,a_ [cEX [41]]] [aG K] fun _ QF=>bi [aG QF]) (aB (a.1==10) (aj 142 [ag,a_ [.str c]] [aG (d,())] fun _ ZX=>gV 154 [aP 0,aP 6,ag,.cst (a_ b),.cst (A1 a)] [some [.ptr 1 0],aG ZX] fun _ L=>aj 142 [ag,a_ [cEX [41]]] [aG L] fun _ g=>bi [aG g]) (aB (a.1==13) (gV 154 [aP 0,aP 1,ag,.cst (a_ b),.cst (A1 a)] [some [.ptr 1 0],aG (d,())] fun _ ZY=>aj 142 [ag,a_ [cEX [63]]] [aG ZY] fun _ N7=>gV 154 [aP 1,aP 0,ag,.cst (a_ b),.cst (A1 a)] [some [.ptr 1 0],aG N7] fun _ ZZ=>aj 142 [ag,a_ [cEX [58]]] [aG ZZ] fun _ M=>gV 154 [aP 2,aP 0,ag,.cst (a_ b),.cst (A1 a)] [some [.ptr 1 0],aG M] fun _ N=>aj 142 [ag,a_ [cEX [41]]] [aG N] fun _ Za=>bi [aG Za]) (aB (e==3) (gV 154 [aP 0,aP 4,ag,.cst (a_ b),.cst (A1 a)] [some [.ptr 1 0],aG (d,())] fun _ O=>aj 142 [ag,a_ [.str c]] [aG O] fun _ h=>gV 154 [aP 1,aP 4,ag,.cst (a_ b),.cst (A1 a)] [some [.ptr 1 0],aG h] fun _ Zb=>aj 142 [ag,a_ [cEX [41]]] [aG Zb] fun _ Ur=>bi [aG Ur]) (gV 154 [aP 0,aP e,ag,.cst (a_ b),.cst (A1 a)] [some [.ptr 1 0],aG (d,())] fun _ Q=>aj 142 [ag,a_ [.str c]] [aG Q] fun _ Zc=>gV 154 [aP 1,aP (i64.wrap (e+1)),ag,.cst (a_ b),.cst (A1 a)] [some [.ptr 1 0],aG Zc] fun _ S=>aj 142 [ag,a_ [cEX [41]]] [aG S] fun _ Us=>bi [aG Us])))))) (aB (a.1==5) (aj 142 [ag,a_ [.str c]] [aG (d,())] fun _ T=>gV 154 [aP 0,aP 6,ag,.cst (a_ b),.cst (A1 a)] [some [.ptr 1 0],aG T] fun _ U=>aj 142 [ag,a_ [cEX [41]]] [aG U] fun _ X=>bi [aG X]) (aB (a.1==10) (aj 142 [ag,a_ [.str c]] [aG (d,())] fun _ Y=>gV 154 [aP 0,aP 6,ag,.cst (a_ b),.cst (A1 a)] [some [.ptr 1 0],aG Y] fun _ Z=>aj 142 [ag,a_ [cEX [41]]] [aG Z] fun _ i=>bi [aG i]) (aB (a.1==13) (gV 154 [aP 0,aP 1,ag,.cst (a_ b),.cst (A1 a)] [some [.ptr 1 0],aG (d,())] fun _ j=>aj 142 [ag,a_ [cEX [63]]] [aG j] fun _ a'=>gV 154 [aP 1,aP 0,ag,.cst (a_ b),.cst (A1 a)] [some [.ptr 1 0],aG a'] fun _ b0=>aj 142 [ag,a_ [cEX [58]]] [aG b0] fun _ l=>gV 154 [aP 2,aP 0,ag,.cst (a_ b),.cst (A1 a)] [some [.ptr 1 0],aG l] fun _ b1=>aj 142 [ag,a_ [cEX [41]]] [aG b1] fun _ b2=>bi [aG b2]) (aB (e==3) (gV 154 [aP 0,aP 4,ag,.cst (a_ b),.cst (A1 a)] [some [.ptr 1 0],aG (d,())] fun _ b3=>aj 142 [ag,a_ [.str c]] [aG b3] fun _ b4=>gV 154 [aP 1,aP 4,ag,.cst (a_ b),.cst (A1 a)] [some [.ptr 1 0],aG b4] fun _ b5=>aj 142 [ag,a_ [cEX [41]]] [aG b5] fun _ b7=>bi [aG b7]) (gV 154 [aP 0,aP e,ag,.cst (a_ b),.cst (A1 a)] [some [.ptr 1 0],aG (d,())] fun _ b8=>aj 142 [ag,a_ [.str c]] [aG b8] fun _ m=>gV 154 [aP 1,aP (i64.wrap (e+1)),ag,.cst (a_ b),.cst (A1 a)] [some [.ptr 1 0],aG m] fun _ b9=>aj 142 [ag,a_ [cEX [41]]] [aG b9] fun _ b'=>bi [aG b']))))))))):=by kernel_rfl
def G5 (b:ai) (a:Sh.V S1) (e:Int) (d:ai) (c:b_):vM b a e d c=oM 85 [] fun M=>G3 52 [A1 a,A1 M] fun N=>aB N (aj 141 [ag,a_ [cEX [116,114,117,101]]] [aG (d,())] fun _ u8=>bi [aG u8]) (oM 155 [] fun i=>G3 52 [A1 a,A1 i] fun j=>aB j (aj 141 [ag,a_ [cEX [102,97,108,115,101]]] [aG (d,())] fun _ O=>bi [aG O]) (aB (a.1==0) (aj 143 [ag,aP a.2.1] [aG (d,())] fun _ l=>bi [aG l]) (aB (a.1==1) (dD b a.2.2.1 fun m=>vS m fun n=>aj 141 [ag,a_ [.str n]] [aG (d,())] fun _ o=>bi [aG o]) (aB (a.1==5) (ak S1 a.2.2.2.1 0 fun p=>aB (p.1==0) (ak S1 a.2.2.2.1 0 fun q=>aB (decide (0<=q.2.1)) (aj 142 [ag,a_ [cEX [45],cEX [40]]] [aG (d,())] fun _ Q=>gV 154 [aP 0,aP 0,ag,.cst (a_ b),.cst (A1 a)] [some [.ptr 1 0],aG Q] fun _ r=>aj 142 [ag,a_ [cEX [41]]] [aG r] fun _ t=>bi [aG t]) (aB (a.1==5) (aj 142 [ag,a_ [.str c]] [aG (d,())] fun _ u=>gV 154 [aP 0,aP 6,ag,.cst (a_ b),.cst (A1 a)] [some [.ptr 1 0],aG u] fun _ v=>bi [aG v]) (aB (a.1==10) (aj 142 [ag,a_ [.str c]] [aG (d,())] fun _ S=>gV 154 [aP 0,aP 6,ag,.cst (a_ b),.cst (A1 a)] [some [.ptr 1 0],aG S] fun _ T=>bi [aG T]) (aB (a.1==13) (gV 154 [aP 0,aP 1,ag,.cst (a_ b),.cst (A1 a)] [some [.ptr 1 0],aG (d,())] fun _ w=>aj 142 [ag,a_ [cEX [63]]] [aG w] fun _ x=>gV 154 [aP 1,aP 0,ag,.cst (a_ b),.cst (A1 a)] [some [.ptr 1 0],aG x] fun _ y=>aj 142 [ag,a_ [cEX [58]]] [aG y] fun _ z=>gV 154 [aP 2,aP 0,ag,.cst (a_ b),.cst (A1 a)] [some [.ptr 1 0],aG z] fun _ A=>bi [aG A]) (aB (e==3) (gV 154 [aP 0,aP 4,ag,.cst (a_ b),.cst (A1 a)] [some [.ptr 1 0],aG (d,())] fun _ B=>aj 142 [ag,a_ [.str c]] [aG B] fun _ U=>gV 154 [aP 1,aP 4,ag,.cst (a_ b),.cst (A1 a)] [some [.ptr 1 0],aG U] fun _ X=>bi [aG X]) (gV 154 [aP 0,aP e,ag,.cst (a_ b),.cst (A1 a)] [some [.ptr 1 0],aG (d,())] fun _ Y=>aj 142 [ag,a_ [.str c]] [aG Y] fun _ Z=>gV 154 [aP 1,aP (i64.wrap (e+1)),ag,.cst (a_ b),.cst (A1 a)] [some [.ptr 1 0],aG Z] fun _ Zh=>bi [aG Zh])))))) (aB (a.1==5) (aj 142 [ag,a_ [.str c]] [aG (d,())] fun _ C=>gV 154 [aP 0,aP 6,ag,.cst (a_ b),.cst (A1 a)] [some [.ptr 1 0],aG C] fun _ yN=>bi [aG yN]) (aB (a.1==10) (aj 142 [ag,a_ [.str c]] [aG (d,())] fun _ D=>gV 154 [aP 0,aP 6,ag,.cst (a_ b),.cst (A1 a)] [some [.ptr 1 0],aG D] fun _ Md=>bi [aG Md]) (aB (a.1==13) (gV 154 [aP 0,aP 1,ag,.cst (a_ b),.cst (A1 a)] [some [.ptr 1 0],aG (d,())] fun _ f=>aj 142 [ag,a_ [cEX [63]]] [aG f] fun _ QE=>gV 154 [aP 1,aP 0,ag,.cst (a_ b),.cst (A1 a)] [some [.ptr 1 0],aG QE] fun _ ZV=>aj 142 [ag,a_ [cEX [58]]] [aG ZV] fun _ E=>gV 154 [aP 2,aP 0,ag,.cst (a_ b),.cst (A1 a)] [some [.ptr 1 0],aG E] fun _ JV=>bi [aG JV]) (aB (e==3) (gV 154 [aP 0,aP 4,ag,.cst (a_ b),.cst (A1 a)] [some [.ptr 1 0],aG (d,())] fun _ ZW=>aj 142 [ag,a_ [.str c]] [aG ZW] fun _ JW=>gV 154 [aP 1,aP 4,ag,.cst (a_ b),.cst (A1 a)] [some [.ptr 1 0],aG JW] fun _ F=>bi [aG F]) (gV 154 [aP 0,aP e,ag,.cst (a_ b),.cst (A1 a)] [some [.ptr 1 0],aG (d,())] fun _ QF=>aj 142 [ag,a_ [.str c]] [aG QF] fun _ ZX=>gV 154 [aP 1,aP (i64.wrap (e+1)),ag,.cst (a_ b),.cst (A1 a)] [some [.ptr 1 0],aG ZX] fun _ G=>bi [aG G])))))) (aB (a.1==5) (aj 142 [ag,a_ [.str c]] [aG (d,())] fun _ g=>gV 154 [aP 0,aP 6,ag,.cst (a_ b),.cst (A1 a)] [some [.ptr 1 0],aG g] fun _ ZY=>bi [aG ZY]) (aB (a.1==10) (aj 142 [ag,a_ [.str c]] [aG (d,())] fun _ N7=>gV 154 [aP 0,aP 6,ag,.cst (a_ b),.cst (A1 a)] [some [.ptr 1 0],aG N7] fun _ ZZ=>bi [aG ZZ]) (aB (a.1==13) (gV 154 [aP 0,aP 1,ag,.cst (a_ b),.cst (A1 a)] [some [.ptr 1 0],aG (d,())] fun _ H=>aj 142 [ag,a_ [cEX [63]]] [aG H] fun _ I=>gV 154 [aP 1,aP 0,ag,.cst (a_ b),.cst (A1 a)] [some [.ptr 1 0],aG I] fun _ Za=>aj 142 [ag,a_ [cEX [58]]] [aG Za] fun _ J=>gV 154 [aP 2,aP 0,ag,.cst (a_ b),.cst (A1 a)] [some [.ptr 1 0],aG J] fun _ h=>bi [aG h]) (aB (e==3) (gV 154 [aP 0,aP 4,ag,.cst (a_ b),.cst (A1 a)] [some [.ptr 1 0],aG (d,())] fun _ Zb=>aj 142 [ag,a_ [.str c]] [aG Zb] fun _ Ur=>gV 154 [aP 1,aP 4,ag,.cst (a_ b),.cst (A1 a)] [some [.ptr 1 0],aG Ur] fun _ K=>bi [aG K]) (gV 154 [aP 0,aP e,ag,.cst (a_ b),.cst (A1 a)] [some [.ptr 1 0],aG (d,())] fun _ Zc=>aj 142 [ag,a_ [.str c]] [aG Zc] fun _ L=>gV 154 [aP 1,aP (i64.wrap (e+1)),ag,.cst (a_ b),.cst (A1 a)] [some [.ptr 1 0],aG L] fun _ Us=>bi [aG Us]))))))))):=by kernel_rfl
def bBW (a1:ai) (a2:Sh.V S1) (a3:Int) (b:ai):SS.CC 44 [ag,a_ a1,A1 a2,aP a3] [aG (b,())]=G1 153 [A1 a2] fun a=>aB (decide (a<a3)) (aj 142 [ag,a_ [cEX [40]]] [aG (b,())] fun _ c=>bJ (decide (0<=a2.1)&&decide (a2.1<(14:Int))) (aB (a2.1==0) (vN a1 a2 a c.1 ⟨#[]⟩) (aB (a2.1==1) (vN a1 a2 a c.1 ⟨#[]⟩) (aB (a2.1==2) (vN a1 a2 a c.1 ⟨#[43]⟩) (aB (a2.1==3) (vN a1 a2 a c.1 ⟨#[45]⟩) (aB (a2.1==4) (vN a1 a2 a c.1 ⟨#[42]⟩) (aB (a2.1==5) (vN a1 a2 a c.1 ⟨#[45]⟩) (aB (a2.1==6) (vN a1 a2 a c.1 ⟨#[61,61]⟩) (aB (a2.1==7) (vN a1 a2 a c.1 ⟨#[33,61]⟩) (aB (a2.1==8) (vN a1 a2 a c.1 ⟨#[60]⟩) (aB (a2.1==9) (vN a1 a2 a c.1 ⟨#[60,61]⟩) (aB (a2.1==10) (vN a1 a2 a c.1 ⟨#[33]⟩) (aB (a2.1==11) (vN a1 a2 a c.1 ⟨#[38,38]⟩) (aB (a2.1==12) (vN a1 a2 a c.1 ⟨#[124,124]⟩) (aB (a2.1==13) (vN a1 a2 a c.1 ⟨#[63]⟩) (none)))))))))))))))) (bJ (decide (0<=a2.1)&&decide (a2.1<(14:Int))) (aB (a2.1==0) (vM a1 a2 a b ⟨#[]⟩) (aB (a2.1==1) (vM a1 a2 a b ⟨#[]⟩) (aB (a2.1==2) (vM a1 a2 a b ⟨#[43]⟩) (aB (a2.1==3) (vM a1 a2 a b ⟨#[45]⟩) (aB (a2.1==4) (vM a1 a2 a b ⟨#[42]⟩) (aB (a2.1==5) (vM a1 a2 a b ⟨#[45]⟩) (aB (a2.1==6) (vM a1 a2 a b ⟨#[61,61]⟩) (aB (a2.1==7) (vM a1 a2 a b ⟨#[33,61]⟩) (aB (a2.1==8) (vM a1 a2 a b ⟨#[60]⟩) (aB (a2.1==9) (vM a1 a2 a b ⟨#[60,61]⟩) (aB (a2.1==10) (vM a1 a2 a b ⟨#[33]⟩) (aB (a2.1==11) (vM a1 a2 a b ⟨#[38,38]⟩) (aB (a2.1==12) (vM a1 a2 a b ⟨#[124,124]⟩) (aB (a2.1==13) (vM a1 a2 a b ⟨#[63]⟩) (none)))))))))))))))):=cc
def bBX:KT:=SS.rK Tryz.f45 45 0 []
def bBY:KT:=SS.jK 45 45 0 (cS Tryz.f45 31) bBX
def bBZ:KT:=aS 0 bBY
def Wy (a c:ai) (b:Int):R:=SS.LL (SS.ae 45 45) 0 [0,4,14,15,16] 0 (cS Tryz.f45 151) bBZ ⟨[(0,.sl false 5 a),(4,.sl true 1 c),(14,.sl false 5 a),(15,aP (a.length:Int)),(16,aP b)],[]⟩
def aOO (b c:ai) (a:Int):Wy b c a=aB (decide (a<(b.length:Int))) (ak o7 b a fun h=>bJ (decide (c.length+1<=aN)) (Wy b (c ++ ([.str h.2.1]:ai)) (i64.wrap (a+1)))) (G2 21 [a_ c,cEX [32]] fun f=>G13 20 [.str f] fun g=>aB (g.2.2.2.1.1 != 0) (some (.tuple [cEX [],aP 6],[])) (Qi 81 [.sl false 5 g.1.1] fun d=>G3 156 [.sl false 5 d,.sl false 5 b,eu 157] fun e=>aB (!e) (some (.tuple [cEX [],aP 6],[])) (some (.tuple [.str f,aP 0],[])))):=ll
def aBQ (a0:ai):SS.CC 45 [.sl false 5 a0] []=Qi 81 [.sl false 5 a0] fun a=>Wy a [] 0:=cc
def bB' (a0:Sh.V S1):SS.CC 261 [A1 a0] []=oM 85 [] fun b=>G3 52 [A1 a0,A1 b] fun c=>aB c (some (aP 7,[])) (oM 155 [] fun u8=>G3 52 [A1 a0,A1 u8] fun a=>aB a (some (aP 7,[])) (aB (a0.1==0) (aB (decide (a0.2.1<0)) (some (aP 6,[])) (some (aP 7,[]))) (aB (a0.1==13) (some (aP 0,[])) (aB (a0.1==12) (some (aP 1,[])) (aB (a0.1==11) (some (aP 2,[])) (aB (a0.1==6) (some (aP 3,[])) (aB (a0.1==7) (some (aP 3,[])) (aB (a0.1==8) (some (aP 3,[])) (aB (a0.1==9) (some (aP 3,[])) (aB (a0.1==2) (some (aP 4,[])) (aB (a0.1==3) (some (aP 4,[])) (aB (a0.1==4) (some (aP 5,[])) (aB (a0.1==10) (some (aP 6,[])) (aB (a0.1==5) (some (aP 6,[])) (some (aP 7,[])))))))))))))))):=cc
def bER:KT:=SS.rK Tryz.f141 141 1 []
def bES:KT:=aS 0 bER
def SI (a b:ai) (c:Int):R:=SS.LL (SS.ae 141 24) 1 [0,6,7,8] 1 (cS Tryz.f141 9) bES ⟨[(0,ag),(6,a_ a),(7,aP (a.length:Int)),(8,aP c)],[aG (b,())]⟩
def a3A (a b:ai) (c:Int):SI a b c=aB (decide (c<(a.length:Int))) (dD a c fun d=>vS d fun e=>bJ (decide (b.length+1<=aN)) (SI a (b ++ ([rU (1,e,0,0,0,())]:ai)) (i64.wrap (c+1)))) (bi [aG (b,())]):=ll
def aBT (a1 a:ai):SS.CC 141 [ag,a_ a1] [aG (a,())]=SI a1 a 0:=cc
def bET:KT:=SS.rK Tryz.f142 142 1 []
def bEU:KT:=aS 0 bET
def aBU (a b:ai) (c:Int):R:=SS.LL (SS.ae 142 24) 1 [0,6,7,8] 1 (cS Tryz.f142 9) bEU ⟨[(0,ag),(6,a_ a),(7,aP (a.length:Int)),(8,aP c)],[aG (b,())]⟩
def X9 (a b:ai) (c:Int):aBU a b c=aB (decide (c<(a.length:Int))) (dD a c fun d=>vS d fun e=>bJ (decide (b.length+1<=aN)) (aBU a (b ++ ([rU (3,e,0,0,0,())]:ai)) (i64.wrap (c+1)))) (bi [aG (b,())]):=ll
def aPD (a1 a:ai):SS.CC 142 [ag,a_ a1] [aG (a,())]=aBU a1 a 0:=cc
def bEW:KT:=SS.rK Tryz.f143 143 1 []
def Ye (a:ai) (b:Int):R:=bD (SS.xX 143 24 1) (cS Tryz.f143 3) bEW ⟨[(0,ag),(1,aP b)],[aG (a,())]⟩
def bEV (a:ai) (b:Int):Ye a b=G2 74 [aP b] fun s1=>bJ (decide (a.length+1<=aN)) (bi [aG ((a ++ ([rU (2,s1,b,0,0,())]:ai)),())]):=by kernel_rfl
def bEX (a1:Int) (a:ai):SS.CC 143 [ag,aP a1] [aG (a,())]=aB (decide (a1<0)) (aj 142 [ag,a_ [cEX [45]]] [aG (a,())] fun _ b=>Ye b.1 (i64.wrap (0-a1))) (Ye a a1):=cc
def bGG (a0:ai):SS.CC 81 [.sl false 5 a0] []=G49 182 [.sl false 5 a0] fun a=>aB (decide (0<a.length)) (bJ (a.all (AC 5)) (bJ ((nG a).all oP&&true) (H50 181 [.slh 0 0 a.length 5,eu 183] [some (nG a)] fun c b=>bJ (b.all oP&&true) (bJ (decide (c.1*5<=b.length)&&decide (0<5)&&b.all fun p=>p.one&&p.flat) (some (.sl false 5 (qM 5 b c.1),[])))))) (Qi 181 [.sl false 5 [],eu 183] fun d=>some (.sl false 5 d,[])):=cc
def aQ6 (a0:Int):SS.CC 234 [aP a0] []=aB (a0==0) (some (.tuple [aP 0,.bool true],[])) (aB (a0==1) (some (.tuple [aP 0,.bool true],[])) (aB (a0==5) (some (.tuple [aP 1,.bool true],[])) (aB (a0==10) (some (.tuple [aP 1,.bool true],[])) (aB (a0==2) (some (.tuple [aP 2,.bool true],[])) (aB (a0==3) (some (.tuple [aP 2,.bool true],[])) (aB (a0==4) (some (.tuple [aP 2,.bool true],[])) (aB (a0==6) (some (.tuple [aP 2,.bool true],[])) (aB (a0==7) (some (.tuple [aP 2,.bool true],[])) (aB (a0==8) (some (.tuple [aP 2,.bool true],[])) (aB (a0==9) (some (.tuple [aP 2,.bool true],[])) (aB (a0==11) (some (.tuple [aP 2,.bool true],[])) (aB (a0==12) (some (.tuple [aP 2,.bool true],[])) (aB (a0==13) (some (.tuple [aP 3,.bool true],[])) (some (.tuple [aP 0,.bool false],[]))))))))))))))):=cc
def aQ7 (a0 a1:Int):SS.CC 235 [aP a0,aP a1] []=aB (decide (a1<a0)) rC (some (.bool (decide (a0<(i64.wrap (0-a1)))),[])):=cc
def aQ8 (a0:Int) (a:ai):SS.CC 236 [aP a0,ag] [ja (a,())]=G3 237 [a_ a,dm 238 [.cst (aP a0)]] fun b=>some (.bool (!b),[ja (a,())]):=cc
def aQ9 (a0:ai) (a1:Int):SS.CC 237 [a_ a0,dm 238 [.cst (aP a1)]] []=G1 283 [a_ a0,dm 238 [.cst (aP a1)]] fun a=>some (.bool (decide (0<=a)),[]):=cc
def aQA (a0 a1:Int):SS.CC 238 [aP a0,.cst (aP a1)] []=some (.bool (a0 != a1),[]):=cc
def bID (a0:Sh.V S1):SS.CC 153 [A1 a0] []=oM 85 [] fun b=>G3 52 [A1 a0,A1 b] fun c=>aB c (some (aP 7,[])) (oM 155 [] fun u8=>G3 52 [A1 a0,A1 u8] fun a=>aB a (some (aP 7,[])) ((fun w=>aB (a0.1==0) (aB (decide (a0.2.1<0)) (some (aP 6,[])) w) w) (bJ (decide (0<=a0.1)&&decide (a0.1<(14:Int))) (aB (a0.1==0) (some (aP 7,[])) (aB (a0.1==1) (some (aP 7,[])) (aB (a0.1==2) (some (aP 4,[])) (aB (a0.1==3) (some (aP 4,[])) (aB (a0.1==4) (some (aP 5,[])) (aB (a0.1==5) (some (aP 6,[])) (aB (a0.1==6) (some (aP 3,[])) (aB (a0.1==7) (some (aP 3,[])) (aB (a0.1==8) (some (aP 3,[])) (aB (a0.1==9) (some (aP 3,[])) (aB (a0.1==10) (some (aP 6,[])) (aB (a0.1==11) (some (aP 2,[])) (aB (a0.1==12) (some (aP 1,[])) (aB (a0.1==13) (some (aP 0,[])) (none)))))))))))))))))):=cc
def bIE (a0 a1:Int) (a3:ai) (a4:Sh.V S1) (a:ai):SS.CC 154 [aP a0,aP a1,ag,.cst (a_ a3),.cst (A1 a4)] [some [.ptr 1 0],aG (a,())]=ak S1 a4.2.2.2.1 a0 fun b=>aj 44 [ag,a_ a3,A1 b,aP a1] [aG (a,())] fun _ c=>bi [some [.ptr 1 0],aG c]:=cc
def bIF:KT:=SS.rK Tryz.f156 156 0 []
def bIG:KT:=SS.jK 156 32 0 (cS Tryz.f156 15) bIF
def bIH:KT:=aS 0 bIG
def a3M (c a:ai) (b:Int):R:=SS.LL (SS.ae 156 32) 0 [1,2,15,16,17] 0 (cS Tryz.f156 75) bIH ⟨[(1,.sl false 5 c),(2,eu 157),(15,.sl false 5 a),(16,aP (a.length:Int)),(17,aP b)],[]⟩
theorem aQB (c b:ai) (a:Int):a3M c b a=aB (decide (a<(b.length:Int))) (ak o7 b a fun e=>ak o7 c a fun u8=>G3 157 [rU e,rU u8] fun d=>aB (!d) iM (a3M c b (i64.wrap (a+1)))) rC:=ll
def bII (a0 a1:ai):SS.CC 156 [.sl false 5 a0,.sl false 5 a1,eu 157] []=aB ((a0.length:Int) !=(a1.length:Int)) iM (a3M a1 a0 0):=cc
def bIJ (a0 a1:Sh.V o7):SS.CC 157 [rU a0,rU a1] []=aB (a0.1==a1.1) (aB (a0.2.1.toList==a1.2.1.toList) (some (.bool (a0.2.2.1==a1.2.2.1),[])) iM) iM:=cc
def bJP:KT:=SS.rK Tryz.f181 181 1 [0]
def bJQ:KT:=SS.jK 181 42 1 (cS Tryz.f181 31) bJP
def bJR:KT:=aS 0 bJQ
def XL (a:Nat) (b:Int) (c:ai) (d:Int):R:=SS.LL (SS.ae 181 42) 1 [0,1,5,6] 1 (cS Tryz.f181 151) bJR ⟨[(0,.slh 0 0 a 5),(1,eu 183),(5,aP b),(6,aP d)],[some c]⟩
def aQH (c:Nat) (a:Int) (b:ai) (e:Int):XL c a b e=bJ (b.all oP&&true) (aB (decide (e<(c:Int))) (bJ (b.all oP&&true) (bJ (decide (0<=e)&&decide (e<(c:Int))) (bJ (decide ((0+e.toNat*5)+5<=b.length)) (CE o7 (.agg (((b.drop (0+e.toNat*5)).take 5).map PV.un)) fun d=>G3 183 [rU d] fun f=>aB (!f) (bJ (decide (0<=a)&&decide (a<(c:Int))) (bJ (decide ((0+a.toNat*5)+5<=b.length)) (bJ ((b.take (0+a.toNat*5) ++ (([aP d.1,.str d.2.1,aP d.2.2.1,aP d.2.2.2.1,aP d.2.2.2.2.1]:ai):ai) ++ b.drop ((0+a.toNat*5)+5)).all oP&&true) (XL c (i64.wrap (a+1)) (b.take (0+a.toNat*5) ++ (([aP d.1,.str d.2.1,aP d.2.2.1,aP d.2.2.2.1,aP d.2.2.2.2.1]:ai):ai) ++ b.drop ((0+a.toNat*5)+5)) (i64.wrap (e+1)))))) (bJ (b.all oP&&true) (XL c a b (i64.wrap (e+1)))))))) (bJ (b.all oP&&true) (bJ (decide (0<=a)&&decide (a<=(c:Int))) (aB (decide (a<(c:Int))) (bJ (decide ((0+a.toNat*5)+(c-a.toNat)*5<=b.length)) (bJ (decide (0<=a)&&decide (a<=(c:Int))&&decide (0<c)) (bJ ((b.take (0+a.toNat*5) ++ ((List.replicate (c-a.toNat) (([aP 0,cEX [],aP 0,aP 0,aP 0]:ai):ai)).flatten.map PV.un) ++ b.drop ((0+a.toNat*5)+(c-a.toNat)*5)).all oP&&true) (some (.slh 0 0 a.toNat 5,[some (b.take (0+a.toNat*5) ++ ((List.replicate (c-a.toNat) (([aP 0,cEX [],aP 0,aP 0,aP 0]:ai):ai)).flatten.map PV.un) ++ b.drop ((0+a.toNat*5)+(c-a.toNat)*5))]))))) (bJ (decide (0<=a)&&decide (a<=(c:Int))&&decide (0<c)) (bJ (b.all oP&&true) (some (.slh 0 0 a.toNat 5,[some b])))))))):=ll
def bJS (a0:Nat) (a:ai):SS.CC 181 [.slh 0 0 a0 5,eu 183] [some a]=bJ ((decide (a0*5<=a.length)&&decide (0<5)&&a.all wP)&&true) (G1 263 [.sl false 5 (qM 5 a a0),eu 183] fun b=>aB (b==(-1)) (bJ (a.all oP&&true) (some (.slh 0 0 a0 5,[some a]))) (bJ (a.all oP&&true) (XL a0 b a (i64.wrap (b+1))))):=cc
def bJT (a0:ai):SS.CC 182 [.sl false 5 a0] []=LZ a0 fun a=>aB (a==true) (some (.sl true 5 [],[])) (bJ (decide (0+a0.length<=aN)) (some (.sl true 5 a0,[]))):=cc
def bJU (a0:Sh.V o7):SS.CC 183 [rU a0] []=some (.bool (a0.1==4),[]):=cc
def bKL:KT:=SS.rK Tryz.f283 283 0 []
def bKM:KT:=SS.jK 283 19 0 (cS Tryz.f283 7) bKL
def bKN:KT:=aS 0 bKM
def XP (a:ai) (b c:Int):R:=SS.LL (SS.ae 283 19) 0 [0,1,7,8] 0 (cS Tryz.f283 37) bKN ⟨[(0,a_ a),(1,dm 238 [.cst (aP b)]),(7,aP (a.length:Int)),(8,aP c)],[]⟩
theorem a3T (b:ai) (c a:Int):XP b c a=aB (decide (a<(b.length:Int))) (dD b a fun d=>vI .i64 d fun e=>G3 238 [aP e,.cst (aP c)] fun f=>aB f (some (aP a,[])) (XP b c (i64.wrap (a+1)))) (some (aP (-1),[])):=ll
def aQU (a0:ai) (a1:Int):SS.CC 283 [a_ a0,dm 238 [.cst (aP a1)]] []=XP a0 a1 0:=cc
def bNR:KT:=SS.rK Tryz.f263 263 0 []
def bNS:KT:=SS.jK 263 19 0 (cS Tryz.f263 7) bNR
def bNT:KT:=aS 0 bNS
def XY (a:ai) (b:Int):R:=SS.LL (SS.ae 263 19) 0 [0,1,7,8] 0 (cS Tryz.f263 37) bNT ⟨[(0,.sl false 5 a),(1,eu 183),(7,aP (a.length:Int)),(8,aP b)],[]⟩
theorem aRU (b:ai) (a:Int):XY b a=aB (decide (a<(b.length:Int))) (ak o7 b a fun c=>G3 183 [rU c] fun d=>aB d (some (aP a,[])) (XY b (i64.wrap (a+1)))) (some (aP (-1),[])):=ll
def bNU (a0:ai):SS.CC 263 [.sl false 5 a0,eu 183] []=XY a0 0:=cc
end
def ET (hk:n<m.length) (K:Sh.V S1->R):ak S1 (o8 m) (n:Int) K=K (ev m[n]):=by show dD (o8 m) (n:Int) _=_;rw[nK (by omega) (by rw[aBD,nC,nP,kV hk]; rfl)];rfl
def wH (K:Sh.V S1->R):ak S1 (o8 (e::m)) 0 K=K (ev e):=ET (by simp) K
theorem Au (l:List EX):(o8 l).length=l.length:=by rw[aBD,aZ]
mutual
def gX:EX->EX->Bool
 | .node o v i l,.node a b c d=>o==a&&(v==b&&(i==c&&Aq l d))
def Aq:List EX->List EX->Bool
 | [],[]=>true
 | a::l,b::c=>gX a b&&Aq l c
 | _,_=>false
end
theorem WQ (o v i:Int) (l:List EX) (a b c:Int) (d:List EX):gX (.node o v i l) (.node a b c d)=(o==a&&(v==b&&(i==c&&Aq l d))):=by rw[gX]
theorem a1U (a b:EX) (l c:List EX):Aq (a::l) (b::c)=(gX a b&&Aq l c):=by rw[Aq]
theorem U_:∀ {l c:List EX},Aq l c=true->l.length=c.length
 | [],[],_=>rfl
 | [],_::_,h=>by cases h
 | _::_,[],h=>by cases h
 | a::l,b::c,h=>by rw[a1U,bQ] at h; rw[bT,bT,U_ h.2]
theorem aMV:∀ x y:EX,gX x y=true->x=y:=by
 intro x;induction x using EX.ind with
 | h o v i l g =>
  intro y;obtain ⟨j,m,n,c⟩:=y;intro h;rw[WQ,bQ,bQ,bQ] at h;obtain ⟨r,t,u,p⟩:=h;have q:∀ (l:List EX),(∀ e,e∈l->∀ y,gX e y=true->e=y)->∀ c,Aq l c=true->l=c:=by
   intro l;induction l with
   | nil=>intro _ c h; cases c with
    | nil=>rfl
    | cons b c=>have:=U_ h; cases this
   | cons a l d =>
    intro f c h;cases c with
    | nil=>have:=U_ h; cases this
    | cons b c =>rw[a1U,bQ] at h;rw[f a (by simp) b h.1,d (fun e he=>f e (by simp[he])) c h.2]
  rw[q l g c p,show o=j by grind,show v=m by grind,show i=n by grind]
theorem EJ:∀ x:EX,gX x x=true:=by
 intro x;induction x using EX.ind with
 | h o v i l b =>
  have c:∀ (l:List EX),(∀ e,e∈l->gX e e=true)->Aq l l=true:=by
   intro l;induction l with
   | nil=>intro _; rw[Aq]
   | cons a l d=>grind [a1U]
  rw[WQ,D5,D5,D5,c l b]; rfl
theorem drop_cons {b:Type} {l r:List b} {a:b} (h:l.drop n=a::r):∃ hk:n<l.length,l[n]=a/\l.drop (n+1)=r:=by grind [List.drop_eq_nil_of_le,List.drop_eq_getElem_cons]
theorem aM' (c d:List EX) (m:c.length<9223372036854775807) (n:c.length=d.length) (j:∀ e,e∈c->∀ y,SS.CC 52 [A1 (ev e),A1 (ev y)] []=some (.bool (gX e y),[])) :
 ∀ (a b:List EX) (k:Nat),c.drop k=a->d.drop k=b->k<=c.length->Zx (o8 d) (o8 c) (k:Int)=some (.bool (Aq a b),[])
 | [],b,k,g,h,hk=>by have i:c.length<=k:=NM.1 g;grind [aOH,Au,aF,Aq]
 | a::o,b,k,g,h,hk=>by
  obtain ⟨i,l,p⟩:=drop_cons g;have f:k<d.length:=by omega
  rw[F7 f] at h;subst h;rw[aOH,aK (by rw[Au]; omega),ET i,ET f,l,bC (j a (by rw[<- l]; exact dZ i) _),a1U];cases gX a d[k] with
  | false=>rfl
  | true =>rw[wrap64 (by omega) (by omega)];exact aM' c d m n j o _ (k+1) p rfl (by omega)
theorem fZ (h:e.Len):∀ y,SS.CC 52 [A1 (ev e),A1 (ev y)] []=some (.bool (gX e y),[]):=by
 induction h with
 | @mk o v i l j _ _ _ _ c =>
  intro y;obtain ⟨d,f,g,a⟩:=y;rw[bJH,kH,kH,WQ];cases o==d with
  | false=>rfl
  | true =>
   cases v==f with
   | false=>rfl
   | true =>
    cases i==g with
    | false=>rfl
    | true =>
     rw[aI,aI,aI,QT,QT,QT];have:SS.CC 170 [.sl false 4 (o8 l),.sl false 4 (o8 a),eu 52] []=some (.bool (Aq l a),[]):=by
      rw[bBK,Au,Au];by_cases b:l.length=a.length
      .rw[show ((l.length:Int) !=(a.length:Int))=false by simp[b]];exact aM' l a (by omega) b c l a 0 rfl rfl (Dc _)
      .rw[show ((l.length:Int) !=(a.length:Int))=true by simp; omega,aI];grind [U_]
     rw[bC this]
def zn (o:Int):Nat:=if o=0\/o=1 then 0 else if o=5\/o=10 then 1 else if o=13 then 3 else 2
inductive Fd (n:Int):EX->Prop
 | mk {o v i:Int} {l:List EX}:0<=o->o<=13->l.length=zn o->(o≠0->v=0)->(o≠1->i=0)->(o=0 -> -65536<=v/\v<=65536)->(o=1->0<=i/\i<n)->(∀ e,e∈l->Fd n e)->Fd n (.node o v i l)
mutual
def gB:EX->Nat
 | .node _ _ _ l=>qZ l+1
def qZ:List EX->Nat
 | []=>0
 | e::l=>gB e+qZ l
end
mutual
def oO:EX->Nat
 | .node _ _ _ l=>II l+1
def II:List EX->Nat
 | []=>0
 | e::l=>max (oO e) (II l)
end
def arc (o:Int):∃ a b,SS.CC 234 [aP o] []=some (.tuple [aP a,.bool b],[])/\(b=true->0<=o/\o<=13/\a=(zn o:Int)):=by
 rw[aQ6];by_cases h:0<=o/\o<=13
 .have:o=0\/o=1\/o=2\/o=3\/o=4\/o=5\/o=6\/o=7\/o=8\/o=9\/o=10\/o=11\/o=12\/o=13:=by omega
  rcases this with rfl|rfl|rfl|rfl|rfl|rfl|rfl|rfl|rfl|rfl|rfl|rfl|rfl|rfl<;>exact ⟨_,true,rfl,fun _=>⟨by decide,by decide,rfl⟩⟩
 .have f:∀ k:Int,0<=k/\k<=13->(o==k)=false:=fun k hk=>by simp; omega
  refine ⟨0,false,?_,fun h=>by cases h⟩;rw[f 0 (by decide),f 1 (by decide),f 5 (by decide),f 10 (by decide),f 2 (by decide),f 3 (by decide),f 4 (by decide),f 6 (by decide),f 7 (by decide),f 8 (by decide),f 9 (by decide),f 11 (by decide),f 12 (by decide),f 13 (by decide)];rfl
theorem lgc (v:Int) (h : -9223372036854775808<=v/\v<=9223372036854775807):∃ b,SS.CC 235 [aP v,aP 65536] []=some (.bool b,[])/\(b=false -> -65536<=v/\v<=65536):=by
 rw[aQ7];by_cases a:(65536:Int)<v;simp_all
 .rw[aU a,wrap64 (by decide) (by decide)];simp_all
def VP (n:Int) (x:EX) (d c:Int) (r:R):Prop:=∃ e a,r=some (aP e,[mP (a,())])/\0<=a/\a<=64/\(e=0->Fd n x/\d+(oO x:Int)<=9/\a=c+(gB x:Int))
def aMP {m:Nat}:∀ {l:List EX},(∀ e,e∈l->oO e<=m)->II l<=m
 | [],_=>by rw[II]; omega
 | a::l,h=>by exact Nat.max_le.2 ⟨h a (by simp),aMP fun e he=>h e (by simp[he])⟩
theorem aNL {n d:Int} (m:d<=8) (f:0<=d) (all:List EX) (o:all.length<=3) (h:∀ e,e∈all->∀ d c,0<=d->d<=9->0<=c->c<=64->VP n e d c (SS.CC 151 [A1 (ev e),aP n,aP d,ag] [mP (c,())])) :
 ∀ (l:List EX) (k:Nat) (c:Int),all.drop k=l->k<=all.length->0<=c->c<=64->∃ e b,Wx n d (o8 all) c (k:Int)=some (aP e,[mP (b,())])/\0<=b/\b<=64/\(e=0->(∀ e,e∈l->Fd n e/\d+1+(oO e:Int)<=9)/\b=c+(qZ l:Int))
 | [],k,c,g,hk,i,j=>by have t:all.length<=k:=NM.1 g;rw[a2L,aU (by rw[Au]; omega),aF];grind [qZ]
 | a::l,k,c,g,hk,i,j=>by
  obtain ⟨k1,k2,k3⟩:=drop_cons g;rw[a2L,aK (by rw[Au]; omega),aI,ET k1,k2,wrap64 (by omega) (by omega)];obtain ⟨e,b,p,q,r,u⟩:=h a (by rw[<- k2]; simp) (d+1) c (by omega) (by omega) i j;rw[K_ p];by_cases he:e=0
  .rw[RX he,aF,wrap64 (by omega) (by omega)];obtain ⟨v,w,s1,x,y,z⟩:=aNL m f all o h l (k+1) b k3 (by omega) q r;grind [qZ]
  grind [aI]
theorem bAQ (y:e.Len):∀ d c,0<=d->d<=9->0<=c->c<=64->VP o e d c (SS.CC 151 [A1 (ev e),aP o,aP d,ag] [mP (c,())]):=by
 induction y with
 | @mk f v i l S hv T U _ z =>
  intro d c A V X Y;have q:∀ (g p:Int),g≠0->0<=p->p<=64->VP o (.node f v i l) d c (some (aP g,[mP (p,())])):=fun g p he k1 k2=>⟨g,p,rfl,k1,k2,fun h=>absurd h he⟩
  rw[aOL,kH];try dsimp only
  by_cases Z:c=64
  .simp_all
  rw[show (c==64)=false by grind,aF];by_cases B:8<d
  .simp_all
  rw[aU B,aF];obtain ⟨a,b,C,D⟩:=arc f;rw[aJZ C];have hw:i64.wrap (c+1)=c+1:=wrap64 (by omega) (by omega);have t:∀ g:Int,g≠0->VP o (.node f v i l) d c (some (aP g,[mP (c+1,())])):=fun g he=>q g _ he (by omega) (by omega)
  cases b with
  | false=>simp_all
  | true =>
   obtain ⟨o1,E,rfl⟩:=D rfl;rw[ut,aF,Au];by_cases j:l.length=zn f
   .have r:l.length<=3:=by grind [zn]
    rw[show ((l.length:Int) !=(zn f:Int))=false by simp[j],aF];have u:(f≠0->v=0)->(f≠1->i=0)->(f=0 -> -65536<=v/\v<=65536)->(f=1->0<=i/\i<o)->VP o (.node f v i l) d c (Wv o d (f,v,i,o8 l,()) (c+1)):=fun F G H I=>by
     rw[aOJ];obtain ⟨g,p,J,K,L,M⟩:=aNL (by omega) A l r z l 0 (c+1) rfl (Dc _) (by omega) (by omega);refine ⟨g,p,J,K,L,fun h => ?_⟩;obtain ⟨w,t2⟩:=M h;refine ⟨.mk o1 E j F G H I fun g he=>(w g he).1,?_,?_⟩
     .rw[oO];have:=aMP (m:=(8-d).toNat) fun g he=>by have:=(w g he).2; omega
      omega
     .rw[gB]; omega
    obtain ⟨N,O,q2⟩:=lgc v hv;rw[bC O];by_cases Q:f=0
    .subst Q;rw[show ((0:Int) != 0)=false from rfl,aF];by_cases p2:i=0
     .cases N with
      | true=>simp_all
      | false =>simp_all
     grind [aI]
    .by_cases p1:v=0;grind [aF,aI,aU]
     grind [aI]
   .rw[show ((l.length:Int) !=(zn f:Int))=true by simp; omega];simp_all
abbrev fP (l:List Int):ai:=l.map fun k => aP k
def aVZ (all:List Int) (c:all.length<1000000000000) (a:Int):∀ (l:List Int) (k:Nat),all.drop k=l->∃ r,XP (fP all) a (k:Int)=some (aP r,[])
 | [],k,h=>by have b:all.length<=k:=NM.1 h;rw[a3T,aU (by rw[aZ]; omega)];simp
 | x::l,k,h=>by
  obtain ⟨b,d,e⟩:=drop_cons h;rw[a3T,aK (by rw[aZ]; omega),nK (by omega) (by rw[nC,nP,kV b,d]; rfl),vZ,bC (aQA x a)];cases x != a with
  | true=>simp
  | false =>rw[wrap64 (by omega) (by omega)];exact aVZ all c a l (k+1) e
def b5N (c:List Int) (d:c.length<1000000000000) (a:Int):∃ b,SS.CC 236 [aP a,ag] [ja (fP c,())]=some (.bool b,[ja (fP c,())]):=by
 obtain ⟨r,e⟩:=aVZ c d a c 0 rfl;have f:SS.CC 283 [a_ (fP c),dm 238 [.cst (aP a)]] []=some (aP r,[]):=(aQU _ _).trans e;have g:SS.CC 237 [a_ (fP c),dm 238 [.cst (aP a)]] []=some (.bool (decide (0<=r)),[]):=by rw[aQ9,bn f]
 exact ⟨_,by rw[aQ8,bC g]⟩
def wW (r:R):Prop:=∃ k,r=some (aP k,[])
theorem xW {b:Bool} {x y:R} (a:wW x) (c:wW y):wW (aB b x y):=by cases b<;>assumption
theorem MX (k:Int):wW (some (aP k,[])):=⟨k,rfl⟩
theorem c8R (c:M.length<1000000000000) {a p q:Int}:wW (Ah 236 [aP a,ag] [ja (fP M,())] fun b _=>aB b (some (aP p,[])) (some (aP q,[]))):=by obtain ⟨b,d⟩:=b5N M c a;rw[VX d];grind [xW,MX]
theorem aWN {o v i:Int} {all:List EX} (y:all.length<=3) (g:o=13->all.length=3) (z:0<=o/\o<=13) (u:∀ e,e∈all->wW (SS.CC 152 [A1 (ev e)] [])) :
 ∀ (l:List EX) (k:Nat) (f:List Int),all.drop k=l->f.length=k->k<=all.length->wW (SG (o,v,i,o8 all,()) (k:Int) (fP f))
 | [],k,f,h,hk,j=>by
  have w:all.length<=k:=NM.1 h;have m:f.length<1000000000000:=by omega
  rw[Oa];rw[aU (by rw[Au]; omega),aF];have d:=fun a p q=>c8R m (a:=a) (p:=p) (q:=q)
  refine xW (MX _) (xW (MX _) (xW (d _ _ _) (xW (d _ _ _) (xW (d _ _ _) (xW (d _ _ _) (xW (d _ _ _) (xW (d _ _ _) (xW (d _ _ _) (xW (d _ _ _) (xW (d _ _ _) (xW (d _ _ _) (xW (d _ _ _) ?_))))))))))));by_cases r:o=13
  .rw[show (o==13)=true by simp[r],aI];match f,hk with
   | [a,b,c],_ =>refine xW ?_ (MX _);refine xW ?_ (MX _);exact MX _
   | [],hk=>grind
   | [_],hk=>grind
   | [_,_],hk=>grind
   | _::_::_::_::_,hk=>grind
  grind [aF,MX]
 | a::l,k,f,h,hk,j=>by obtain ⟨w,x,r⟩:=drop_cons h;rw[Oa];rw[aK (by rw[Au]; omega),aI,ET w,x];obtain ⟨n,t⟩:=u a (by rw[<- x]; simp);rw[bn t];refine xW (MX _) ?_;rw[aQ (aK (by rw[aZ]; unfold aN; omega)),wrap64 (by omega) (by omega),show fP f ++ ([aP n]:ai)=fP (f ++ [n]) by simp];exact aWN y g z u l (k+1) (f ++ [n]) r (by simp[hk]) (by omega)
theorem bYI (h:Fd o e):wW (SS.CC 152 [A1 (ev e)] []):=by
 induction h with
 | @mk a v i l b c d _ _ _ _ _ f =>
  rw[aOM];have g:l.length<=3:=by grind [zn]
  exact aWN g (fun h=>by rw[d,h]; rfl) ⟨b,c⟩ f l 0 [] rfl rfl (Dc _)
theorem aM7 (c:e.Len) (g:0<=o) (i:o<=16):∃ k a,SS.CC 43 [A1 (ev e),aP o] []=some (.tuple [aP k,aP a],[])/\(a=0->Fd o e/\oO e<=8/\gB e<=64):=by
 rw[aCA,aU (by omega),aF,aU (by omega),aF];obtain ⟨a,j,d,l,m,f⟩:=bAQ c 1 0 (by decide) (by decide) (by decide) (by decide);rw[K_ d];by_cases he:a=0
 .obtain ⟨b,p,q⟩:=f he;rw[RX he];obtain ⟨k,hk⟩:=bYI b;rw[bn hk];cases k==0 with
  | true=>exact ⟨_,_,rfl,fun h=>by cases h⟩
  | false=>exact ⟨_,_,rfl,fun _=>⟨b,by omega,by omega⟩⟩
 .rw[WG he,aI];grind
def Eg (k n:Nat):Bool:=iU n||(decide (k≠0)&&gq n)
def Ci:d_->Nat->Bool
 | [],_=>true
 | b::l,k=>Eg k b.toNat&&Ci l (k+1)
def f_ (l:d_):Bool:=Ci l 0&&(decide (0<l.length)&&decide (l.length<=32))
theorem b_O (h:((97<=a'/\a'<=122)\/(65<=a'/\a'<=90)\/a'=95)\/(n≠0/\48<=a'/\a'<=57)):Eg n a'=true:=by grind [Eg,iU,gq]
theorem b_N (h:¬ (((97<=a'/\a'<=122)\/(65<=a'/\a'<=90)\/a'=95)\/(n≠0/\48<=a'/\a'<=57))):Eg n a'=false:=by grind [Eg,iU,gq]
theorem aZI (all:d_) (c:all.length<=20000):∀ (l:d_) (k:Nat),all.drop k=l->k<=all.length->IU (bs all) (k:Int)=some (.bool (Ci l k&&(decide (0<all.length)&&decide (all.length<=32))),[])
 | [],k,h,hk=>by have a:all.length<=k:=NM.1 h;rw[aRB,Ci,lH];grind [aI,aU,aF]
 | b::l,k,h,hk=>by
  obtain ⟨a,d,e⟩:=drop_cons h;have f:IU (bs all) (i64.wrap ((k:Int)+1))=some (.bool (Ci l (k+1)&&(decide (0<all.length)&&decide (all.length<=32))),[]):=by rw[wrap64 (by omega) (by omega)];exact aZI all c l (k+1) e (by omega)
  rw[aRB,aK (by rw[lH]; omega),aI,IC (by omega) (by rw[nC,KJ,kV a,d]),f,Ci];generalize b.toNat=n;have g:Eg k n=false->(some (PV.bool false,[]):R)=some (.bool (Eg k n&&Ci l (k+1)&&(decide (0<all.length)&&decide (all.length<=32))),[]):=fun h=>by rw[h]; rfl
  have i:Eg k n=true->(some (PV.bool (Ci l (k+1)&&(decide (0<all.length)&&decide (all.length<=32))),[]):R)=some (.bool (Eg k n&&Ci l (k+1)&&(decide (0<all.length)&&decide (all.length<=32))),[]):=fun h=>by rw[h,QT]
  simp only[Rf,tJ,qi,F6,tH];repeat' split
  all_goals first
   | exact i (b_O (by omega))
   | exact g (b_N (by omega))
def BK (l:d_) (a:l.length<=20000):SS.CC 41 [.str (bs l)] []=some (.bool (f_ l),[]):=by rw[bM1]; exact aZI l a l 0 rfl (Dc _)
def c4I (l:d_):SS.CC 42 [.str (bs l)] []=some (.bool (l==mM||l==pM),[]):=by rw[aON,EH,tlT,tlF];cases l==mM<;>rfl
abbrev dB (l:List (d_)):List b_:=l.map bs
theorem aF6 (hk:n<C.length):(dG (dB C))[(n:Int).toNat]? = some (.str (bs C[n])):=by grind [dG]
theorem b_5 (l:List (d_)):(dG (dB l)).length=l.length:=by grind [dG]
def Jl {K:RS.F (.tl false 5) R} (e:SS.CC g b []=some (.sl false 5 u,[])):Qi g b K=K u:=vH e rfl
def b3X {K:RS.F (.tl true 5) R} (e:SS.CC g b []=some (.sl true 5 u,[])):G49 g b K=K u:=vH e rfl
def b4G {K:RS.F (.o (.H 0 0 5)) (cZ [.a])} (e:SS.CC g b h=some (.slh 0 0 n 5,[some u])):H50 g b h K=K (n,()) u:=dJ e rfl
def uQ (a:List Tok):List Tok:=a.filter fun t=>t.kind != 4
def Fe (t:Tok):ai := [aP t.kind,.str (bs t.text),aP t.value,aP t.line,aP t.uS]
def mD (a:List Tok):ai:=a.flatMap Fe
def SA (t:Tok) (a:List Tok):mD (t::a)=Fe t ++ mD a:=rfl
def aN':∀ (a:List Tok),nG (a.map bM)=mD a
 | []=>rfl
 | t::a=>by rw[SA,<- aN' a]; rfl
def We:∀ (a:List Tok),(mD a).length=a.length*5
 | []=>rfl
 | t::a=>by rw[SA,aY,We a,bT]; show 5+_=_; omega
def bAZ (a b:List Tok):mD (a ++ b)=mD a ++ mD b:=List.flatMap_append
theorem a2F:∀ (a:List Tok) (j:Nat),(mD a).drop (j*5)=mD (a.drop j)
 | [],j=>by simp[mD]
 | t::a,0=>rfl
 | t::a,j+1=>by rw[SA,List.drop_succ_cons,<- a2F a j];grind [Fe]
theorem aBM:∀ (a:List Tok) (j:Nat),(mD a).take (j*5)=mD (a.take j)
 | [],j=>by simp[mD]
 | t::a,0=>by simp[mD]
 | t::a,j+1=>by rw[SA,List.take_succ_cons,SA,<- aBM a j];grind [Fe]
def aO2 (h:j[n]? = some O):((mD j).drop (n*5)).take 5=Fe O:=by
 have a:=(jr.1 h).1;rw[a2F,F7 a];rw[kV a] at h; injection h with h
 rw[h]; rfl
def bB0 (h:n<j.length) (t:Tok):(mD j).take (n*5) ++ Fe t ++ (mD j).drop (n*5+5)=mD (j.set n t):=by rw[show n*5+5=(n+1)*5 by omega,aBM,a2F,List.set_eq_take_append_cons_drop,ay h,bAZ,SA,zU]
def bA' (b:List Tok):(mD b).all wP=true:=by rw[jq];intro p c;obtain ⟨t,_,a⟩:=List.mem_flatMap.1 c;simp only[Fe,jy,zW,zX] at a;rcases a with rfl|rfl|rfl|rfl|rfl<;>rfl
def aO1 (b:List Tok):((mD b).all fun p=>p.one&&p.flat)=true:=by rw[jq];intro p c;obtain ⟨t,_,a⟩:=List.mem_flatMap.1 c;simp only[Fe,jy,zW,zX] at a;rcases a with rfl|rfl|rfl|rfl|rfl<;>rfl
def c8O (a:List Tok):(a.map bM).all (AC 5)=true:=by rw[jq];intro p b;obtain ⟨t,_,rfl⟩:=uu.1 b;rfl
theorem aO0 (h:n<=j.length):qM 5 (mD j) n=(j.take n).map bM:=by
 show (List.range n).map (fun a=>PV.agg ((((mD j).drop (a*5)).take 5).map PV.un))=_;apply QX;intro a;by_cases b:a<n
 .have c:j[a]? = some j[a]:=kV (by omega);rw[nP,List.getElem?_range b,nP,qh,ay b,c,A_,aO2 c];rfl
 simp_all
def cB8 (m:Nat):((List.replicate m (([aP 0,cEX [],aP 0,aP 0,aP 0]:ai):ai)).flatten.map PV.un)=mD (List.replicate m Tok.zero):=by
 induction m with
 | zero=>rfl
 | succ m a=>rw[List.replicate_succ,List.flatten_cons,pq,a]; rfl
def OZ (a:List Tok):(mD a).all oP=true:=aO1 a
theorem bK {k:Nat} (h:k<1000000000000):i64.wrap ((k:Int)+1)=((k+1:Nat):Int):=by rw[wrap64 (by omega) (by omega)]; omega
def a1S (h:o=f):(o==f)=true:=by simp[h]
def aBB (h:o≠f):(o==f)=false:=by simp[h]
def YQ (hk:n<j.length) (K:Sh.V o7->R):ak o7 (j.map bM) (n:Int) K=K (tk j[n]):=by show dD (j.map bM) (n:Int) _=_;rw[nK (by omega) (by rw[nC,nP,kV hk]; rfl)];rfl
def gvT (t:Tok) (K:Sh.V o7->R):CE o7 (.agg ((Fe t).map PV.un)) K=K (tk t):=rfl
def m65 (t:Tok):SS.CC 183 [rU (tk t)] []=some (.bool (t.kind==4),[]):=bJU _
theorem b'7 (a:List Tok) (e:a.length<=1000000):∀ (m k:Nat),k+m=a.length->(∀ t,t∈a.take k->t.kind≠4) ->
 (XY (a.map bM) (k:Int)=some (aP (-1),[])/\∀ t,t∈a->t.kind≠4)\/∃ (p:Nat) (t:Tok),XY (a.map bM) (k:Int)=some (aP (p:Int),[])/\a[p]? = some t/\t.kind=4/\∀ t,t∈a.take p->t.kind≠4:=by
 intro m;induction m with
 | zero =>grind [aRU,aF]
 | succ m b =>
  intro k hk h;have f:a[k]? = some a[k]:=kV (by omega);rw[aRU,aK (by rw[aZ]; omega),YQ (by omega),bC (m65 _),bK (by omega)];by_cases c:a[k].kind=4;grind [aI]
  .rw[aBB c];refine b (k+1) (by omega) fun t d => ?_
   rw[NT (by omega)] at d;grind
def m82 (a:List Tok) (b:a.length<=1000000):(SS.CC 263 [.sl false 5 (a.map bM),eu 183] []=some (aP (-1),[])/\∀ t,t∈a->t.kind≠4)\/∃ (p:Nat) (t:Tok),SS.CC 263 [.sl false 5 (a.map bM),eu 183] []=some (aP (p:Int),[])/\a[p]? = some t/\t.kind=4/\∀ t,t∈a.take p->t.kind≠4:=by rw[bNU];exact b'7 a b a.length 0 (by omega) (by simp)
theorem OB (h:∀ t,t∈j->t.kind≠4):uQ j=j:=List.filter_eq_self.2 fun t a=>by simp_all
def aAV (a b:List Tok):uQ (a ++ b)=uQ a ++ uQ b:=List.filter_append ..
theorem a1C (h:O.kind=4) (l:List Tok):uQ (O::l)=uQ l:=List.filter_cons_of_neg (by simp[h])
theorem b6P (h:O.kind≠4) (l:List Tok):uQ (O::l)=O::uQ l:=List.filter_cons_of_pos (by simp_all)
theorem b'5 (a:List Tok) (z:a.length<=1000000) (A:0<a.length):∀ (m i j:Nat) (c:List Tok),j+m=a.length->i<=j->c.length=a.length->c.drop j=a.drop j ->
 ∃ k e,XL a.length (i:Int) (mD c) (j:Int)=some (.slh 0 0 k 5,[some (mD e)])/\e.length=a.length/\k<=a.length/\e.take k=c.take i ++ uQ (a.drop j):=by
 intro m;induction m with
 | zero =>
  intro i j c t g d h;rw[aQH];simp only[OZ,NK,nC,xh,We];rw[aQ rfl,aU (by omega),aF,aQ rfl,aQ (by simp<;>omega)];by_cases B:i<a.length
  .have n:(mD c).take (i*5) ++ (List.replicate (a.length-i) [PV.int .i64 0,cEX [],aP 0,aP 0,aP 0]).flatten.map PV.un ++ (mD c).drop (i*5+(a.length-i)*5)=mD (c.take i ++ List.replicate (a.length-i) Tok.zero):=by rw[cB8,aBM,show i*5+(a.length-i)*5=a.length*5 by omega,<- d,a2F];simp[mD]
   rw[aK (by omega),aI,n,aQ (aK (by omega)),aQ (by simp<;>omega),OZ,aQ (b:=true&&true) rfl];grind [uQ]
  .rw[aU (by omega),aF,aQ (by simp<;>omega),aQ rfl];grind [uQ]
 | succ m q =>
  intro i j c t g d h;have o:j<a.length:=by omega
  have u:c[j]? = some a[j]:=by have:=congrArg (fun l=>l[0]?) h;grind
  have f:c.drop (j+1)=a.drop (j+1):=by have:=congrArg (fun l=>l.drop 1) h;simpa using this
  rw[F7 o];rw[aQH];simp only[OZ,NK,nC,xh,We,aO2 u];rw[aQ rfl,aK (by omega),aI,aQ rfl,aQ (by simp<;>omega),aQ (aK (by omega)),gvT,bC (m65 _)];by_cases r:a[j].kind=4
  .rw[a1S r,ut,aF,aQ rfl,bK (by omega)];obtain ⟨k,e,v,w,x,y⟩:=q i (j+1) c (by omega) (by omega) d f;grind [a1C]
  .have p:i<c.length:=by omega
   have n:=bB0 p a[j];rw[aBB r,su,aI,aQ (by simp<;>omega),aQ (aK (by omega)),show [PV.int .i64 a[j].kind,.str (bs a[j].text),aP a[j].value,aP a[j].line,aP a[j].uS]=Fe a[j] from rfl,n,OZ,aQ (b:=true&&true) rfl,
    bK (by omega),bK (by omega)]
   obtain ⟨k,e,v,w,x,y⟩:=q (i+1) (j+1) (c.set i a[j]) (by omega) (by omega) (by rw[List.length_set]; exact d) (by rw[List.drop_set_of_lt (by omega)]; exact f);grind [List.take_succ_eq_append_getElem,List.take_set_of_le,b6P]
theorem m63 (a:List Tok) (f:a.length<=1000000) (g:0<a.length):∃ k d,SS.CC 181 [.slh 0 0 a.length 5,eu 183] [some (mD a)]=some (.slh 0 0 k 5,[some (mD d)])/\d.length=a.length/\k<=a.length/\d.take k=uQ a:=by
 rw[bJS];simp only[bA',OZ,We];rw[aQ (by simp),aO0 (dO _),VD (dO _)];rcases m82 a f with ⟨e,h⟩|⟨p,t,e,i,j,l⟩
 .rw[bn e,a1S rfl,aI,aQ (b:=true&&true) rfl];grind [OB]
 .have r:=(jr.1 i).1;rw[bn e,bK (by omega)];obtain ⟨k,d,m,n,o,q⟩:=b'5 a f g (a.length-(p+1)) p (p+1) a (by omega) (by omega) rfl rfl;refine ⟨k,d,m,n,o,?_⟩;rw[q];have c:a=a.take p ++ t::a.drop (p+1):=by grind [List.take_append_drop,List.drop_eq_getElem_cons]
  conv=>rhs; rw[c,aAV,OB l,a1C j]
def b'6:SS.CC 181 [.sl false 5 [],eu 183] []=some (.sl false 5 [],[]):=a09 fG 60 (by kernel_rfl)
theorem m64 (a:List Tok) (b:a.length<=1000000):SS.CC 182 [.sl false 5 (a.map bM)] []=some (.sl true 5 (a.map bM),[]):=by
 rw[bJT];refine aZD ?_ fun h => ?_
 grind [aF,aQ,aN]
 .rw[h]; rfl
def DR (a:List Tok) (c:a.length<=1000000):SS.CC 81 [.sl false 5 (a.map bM)] []=some (.sl false 5 ((uQ a).map bM),[]):=by
 rw[bGG,b3X (m64 a c),aZ];by_cases d:0<a.length
 .obtain ⟨k,g,e,h,i,f⟩:=m63 a c d;rw[aK d,aI,aQ (c8O a),aN',OZ,aQ (b:=true&&true) rfl,b4G e,OZ,aQ (b:=true&&true) rfl,aO1,We,aQ (by rw[aK (by omega)]; rfl),aO0 (by omega),f]
 .have:a = []:=oK (by omega);subst this;rw[Jl b'6]; rfl
abbrev tW (s:d_):Tok:=⟨1,s,0,0,0⟩
abbrev tS (s:d_):Tok:=⟨3,s,0,0,0⟩
abbrev tN (n:Nat):Tok:=⟨2,Lib.decDigits n,n,0,0⟩
def gU (v:Int):List Tok:=if v<0 then [tS [45],tN (-v).toNat] else [tN v.toNat]
def mF (x:EX):Int:=if gX x tE=true then 7 else if gX x fE=true then 7 else match x with
 | .node o v _ _=>if o=0 then (if v<0 then 6 else 7) else if o=1 then 7 else if o=2 then 4 else if o=3 then 4 else if o=4 then 5 else if o=5 then 6 else if o=6 then 3 else if o=7 then 3 else if o=8 then 3 else if o=9 then 3 else if o=10 then 6 else if o=11 then 2 else if o=12 then 1 else 0
def wp (x:EX) (a:Int) (B:List Tok):List Tok:=if mF x<a then tS [40]::(B ++ [tS [41]]) else B
inductive PB (ns:List (List UInt8)):EX->List Tok->Prop
 | tt:PB ns tE [tW mM]
 | ff:PB ns fE [tW pM]
 | num {v:Int} : -65536<=v->v<=65536->PB ns (nE v) (gU v)
 | var {i:Nat} {s:d_}:ns[i]? = some s->PB ns (vE (i:Int)) [tW s]
 | UB {v:Int}:0<=v->v<=65536->PB ns (nE v) (gU v)->PB ns (kS 5 (nE v)) (tS [45]::tS [40]::(gU v ++ [tS [41]]))
 | neg {o v i:Int} {l:List EX} {B:List Tok}:(o≠0\/v<0)->PB ns (.node o v i l) B->PB ns (kS 5 (.node o v i l)) (tS [45]::wp (.node o v i l) 6 B)
 | sJ {a:EX} {B:List Tok}:PB ns a B->PB ns (kS 10 a) (tS [33]::wp a 6 B)
 | cmp {o:Int} {a b:EX} {A B:List Tok}:(o=6\/o=7\/o=8\/o=9)->gX (iQ o a b) tE=false->gX (iQ o a b) fE=false->PB ns a A->PB ns b B->PB ns (iQ o a b) (wp a 4 A ++ tS (lW o)::wp b 4 B)
 | bin {o lv:Int} {a b:EX} {A B:List Tok}:(o=2/\lv=4\/o=3/\lv=4\/o=4/\lv=5\/o=11/\lv=2\/o=12/\lv=1)->PB ns a A->PB ns b B->PB ns (iQ o a b) (wp a lv A ++ tS (lW o)::wp b (lv+1) B)
 | ite {c a b:EX} {C A B:List Tok}:PB ns c C->PB ns a A->PB ns b B->PB ns (.node 13 0 0 [c,a,b]) (wp c 1 C ++ tS [63]::(wp a 0 A ++ tS [58]::wp b 0 B))
theorem Jd (x:EX) (a:Int) (B:List Tok):(wp x a B).length<=B.length+2:=by grind [wp]
def a'2 (h:m.length=1):∃ a,m = [a]:=by
 match m,h with
 | [a],_=>simp
def b2J (h:m.length=2):∃ a b,m = [a,b]:=by
 match m,h with
 | [a,b],_=>simp
def c8E (h:m.length=3):∃ a b c,m = [a,b,c]:=by
 match m,h with
 | [a,b,c],_=>simp
theorem PI (h:m.length=0):m = []:=oK h
theorem c2P (n:List (d_)) (h:Fd (n.length:Int) e):∃ B,PB n e B/\B.length<=8*gB e:=by
 induction h with
 | @mk o v i l S T p j m h6 G _ d =>
  have u:o=0\/o=1\/o=2\/o=3\/o=4\/o=5\/o=6\/o=7\/o=8\/o=9\/o=10\/o=11\/o=12\/o=13:=by omega
  by_cases H:gX (.node o v i l) tE=true
  .rw[aMV _ _ H]; exact ⟨_,.tt,by decide⟩
  by_cases I:gX (.node o v i l) fE=true
  .rw[aMV _ _ I]; exact ⟨_,.ff,by decide⟩
  have g:∀ a:EX,gB (.node o v i [a])=gB a+1:=fun a=>by rfl
  have q:∀ a b:EX,gB (.node o v i [a,b])=gB a+gB b+1:=fun a b=>by rfl
  have U:∀ f:Int,(o=2/\f=4\/o=3/\f=4\/o=4/\f=5\/o=11/\f=2\/o=12/\f=1)->∃ B,PB n (.node o v i l) B/\B.length<=8*gB (.node o v i l):=fun f w=>by obtain ⟨a,b,rfl⟩:=b2J (show l.length=2 by grind [zn]);obtain rfl:=j (by omega);obtain rfl:=m (by omega);obtain ⟨A,a1,a2⟩:=d a (by simp);obtain ⟨B,r,E⟩:=d b (by simp);have w1:=Jd a f A;have w2:=Jd b (f+1) B;exact ⟨_,.bin w a1 r,by rw[q,aY,bT]; omega⟩
  have V:(o=6\/o=7\/o=8\/o=9)->∃ B,PB n (.node o v i l) B/\B.length<=8*gB (.node o v i l):=fun y=>by obtain ⟨a,b,rfl⟩:=b2J (show l.length=2 by grind [zn]);obtain rfl:=j (by omega);obtain rfl:=m (by omega);obtain ⟨A,a1,a2⟩:=d a (by simp);obtain ⟨B,r,E⟩:=d b (by simp);have w1:=Jd a 4 A;have w2:=Jd b 4 B;exact ⟨_,.cmp y (by grind) (by grind) a1 r,by rw[q,aY,bT]; omega⟩
  rcases u with rfl|rfl|rfl|rfl|rfl|rfl|rfl|rfl|rfl|rfl|rfl|rfl|rfl|rfl
  .obtain rfl:=PI (show l.length=0 from p);obtain rfl:=m (by decide);obtain ⟨z,t⟩:=h6 rfl;refine ⟨_,.num z t,?_⟩;grind [gU,gB]
  .obtain rfl:=PI (show l.length=0 from p);obtain rfl:=j (by decide);obtain ⟨J,X⟩:=G rfl;have K:i.toNat<n.length:=by omega
   have hv:(EX.node 1 0 i [])=vE (i.toNat:Int):=by rw[aJL J]; rfl
   rw[hv];exact ⟨_,.var (kV K),by simp[gB,qZ,vE]⟩
  simp_all;simp_all;simp_all
  .obtain ⟨a,rfl⟩:=a'2 (show l.length=1 from p);obtain rfl:=j (by decide);obtain rfl:=m (by decide);obtain ⟨A,a1,a2⟩:=d a (by simp);obtain ⟨D,F,L,M⟩:=a;by_cases N:D≠0\/F<0
   .have w1:=Jd (.node D F L M) 6 A;exact ⟨_,.neg N a1,by rw[g,bT]; omega⟩
   .have O:D=0:=by omega
    subst O;cases a1 with
    | num z t =>refine ⟨_,.UB (by omega) t (.num z t),?_⟩;rw[g,bT,bT,aY,xg];omega
    | cmp y=>omega
    | bin y=>omega
  simp_all;simp_all;simp_all;simp_all
  .obtain ⟨a,rfl⟩:=a'2 (show l.length=1 from p);obtain rfl:=j (by decide);obtain rfl:=m (by decide);obtain ⟨A,a1,a2⟩:=d a (by simp);have w1:=Jd a 6 A;exact ⟨_,.sJ a1,by rw[g,bT]; omega⟩
  simp_all;simp_all
  .obtain ⟨c,a,b,rfl⟩:=c8E (show l.length=3 from p);obtain rfl:=j (by decide);obtain rfl:=m (by decide);obtain ⟨C,Q,Y⟩:=d c (by simp);obtain ⟨A,a1,a2⟩:=d a (by simp);obtain ⟨B,r,E⟩:=d b (by simp);have w0:=Jd c 1 C;have w1:=Jd a 0 A;have w2:=Jd b 0 B;refine ⟨_,.ite Q a1 r,?_⟩;rw[show gB (.node 13 0 0 [c,a,b])=gB c+gB a+gB b+1 by simp[gB,qZ]; omega,aY,bT,aY,bT];omega
theorem Ea (b:e.Len):∀ {o v i:Int} {l:List EX},e = .node o v i l->0<=o->o<=13->SS.CC 153 [A1 (ev e)] []=some (aP (mF e),[])/\SS.CC 261 [A1 (ev e)] []=some (aP (mF e),[]):=by
 intro o v i l a d f;have c:o=0\/o=1\/o=2\/o=3\/o=4\/o=5\/o=6\/o=7\/o=8\/o=9\/o=10\/o=11\/o=12\/o=13:=by omega
 rw[bID,bB',eG g_,eG g_,bC (fZ b tE),bC (fZ b tE)];unfold mF;cases g:gX e tE with
 | true=>simp
 | false =>
  rw[eG iV,eG iV,bC (fZ b fE),bC (fZ b fE)];cases h:gX e fE with
  | true=>simp
  | false =>
   subst a;rw[kH,aX (by decide)];try dsimp only
   rcases c with rfl|rfl|rfl|rfl|rfl|rfl|rfl|rfl|rfl|rfl|rfl|rfl|rfl|rfl
   .by_cases hv:v<0;simp_all
    .rw[aU hv,aX hv]; exact ⟨rfl,rfl⟩
   all_goals exact ⟨rfl,rfl⟩
def VM {args:ai} {v:PV×aH} (e:CS g args h=some v):SS.CC g args h=some v:=by rw[Nb fG];show J7 (CS g args h) _=_;rw[e]; rfl
section
variable {A B:RA} {x:EX} {d:Int} {v:ai}
end
abbrev fK (l:List Tok):Sh.V iW:=(l.map bM,())
theorem lX (s:b_) (bZ:List Tok) (h:bZ.length+1<=1000000):SS.CC 142 [ag,a_ [.str s]] [aG (fK bZ)]=bi [aG (fK (bZ ++ [tS s.data.toList]))]:=by rw[aPD,X9,aK (by simp),aI,nK (e := .str s) (by decide) rfl,je,aQ (aK (by rw[aZ]; unfold aN; omega)),wrap64 (by decide) (by decide),X9,aU (by simp),aF];grind [bM,a1G]
theorem sy2 (s r:b_) (bZ:List Tok) (h:bZ.length+2<=1000000):SS.CC 142 [ag,a_ [.str s,.str r]] [aG (fK bZ)]=bi [aG (fK (bZ ++ [tS s.data.toList,tS r.data.toList]))]:=by
 rw[aPD,X9,aK (by simp),aI,nK (e := .str s) (by decide) rfl,je,aQ (aK (by rw[aZ]; unfold aN; omega)),wrap64 (by decide) (by decide),
  X9,aK (by simp),aI,nK (e := .str r) (by decide) rfl,je,aQ (aK (by rw[aY,aZ]; grind [aN])),wrap64 (by decide) (by decide),X9,aU (by simp),aF]
 grind [bM,a1G]
theorem zO (s:b_) (bZ:List Tok) (h:bZ.length+1<=1000000):SS.CC 141 [ag,a_ [.str s]] [aG (fK bZ)]=bi [aG (fK (bZ ++ [tW s.data.toList]))]:=by rw[aBT,a3A,aK (by simp),aI,nK (e := .str s) (by decide) rfl,je,aQ (aK (by rw[aZ]; unfold aN; omega)),wrap64 (by decide) (by decide),a3A,aU (by simp),aF];grind [bM,a1G]
def bX3 (m:Int):CS 74 [aP m] []=(match decide (0<=m)&&decide (m<Vb) with | true=>some (PV.str ⟨(Lib.decDigits m.toNat).toArray⟩,([]:aH)) | false=>none):=rfl
def a6Q (n:Nat) (h:n<=65536):SS.CC 74 [aP (n:Int)] []=some (.str (bs (Lib.decDigits n)),[]):=by refine VM ?_;rw[bX3,aK (by omega),aK (by unfold Vb; omega),nC];rfl
theorem aZN (n:Nat) (h:n<=65536) (bZ:List Tok) (a:bZ.length+1<=1000000):Ye (bZ.map bM) (n:Int)=bi [aG (fK (bZ ++ [tN n]))]:=by rw[bEV,nR (a6Q n h),aQ (aK (by rw[aZ]; unfold aN; omega))];grind [bM]
theorem Lc (a : -65536<=o) (b:o<=65536) (bZ:List Tok) (h:bZ.length+(gU o).length<=1000000):SS.CC 143 [ag,aP o] [aG (fK bZ)]=bi [aG (fK (bZ ++ gU o))]:=by
 rw[bEX];unfold gU at h ⊢;by_cases hv:o<0
 .rw[ay hv] at h ⊢;have h:bZ.length+2<=1000000:=h;rw[aK hv,aI,bf (lX ⟨#[45]⟩ bZ (by omega))];grind [wrap64,aZN]
 grind [aF,aZN]
abbrev NS (ns:List (d_)):ai:=dG (dB ns)
def WR (b:List (d_)) (x:EX) (a:Int) (T:List Tok):Prop:=∀ bZ:List Tok,bZ.length+T.length+1<=1000000 ->
 SS.CC 44 [ag,a_ (NS b),A1 (ev x),aP a] [aG (fK bZ)]=bi [aG (fK (bZ ++ T))]
def JQ (o:Int):b_:=if o=2 then ⟨#[43]⟩ else if o=3 then ⟨#[45]⟩ else if o=4 then ⟨#[42]⟩ else if o=5 then ⟨#[45]⟩ else if o=6 then ⟨#[61,61]⟩ else if o=7 then ⟨#[33,61]⟩ else if o=8 then ⟨#[60]⟩ else if o=9 then ⟨#[60,61]⟩ else if o=10 then ⟨#[33]⟩ else if o=11 then ⟨#[38,38]⟩ else if o=12 then ⟨#[124,124]⟩ else if o=13 then ⟨#[63]⟩ else ⟨#[]⟩
def EX.op:EX->Int
 | .node o _ _ _=>o
def WB (a:List (d_)) (x:EX) (B:List Tok):Prop:=∀ bZ:List Tok,bZ.length+B.length+1<=1000000 ->
 vM (NS a) (ev x) (mF x) (bZ.map bM) (JQ x.op)=bi [aG (fK (bZ ++ B))] /\
 vN (NS a) (ev x) (mF x) (bZ.map bM) (JQ x.op)=bi [aG (fK (bZ ++ B ++ [tS [41]]))]
def bA5 (x:EX):(ev x).1=x.op:=by obtain ⟨o,v,i,l⟩:=x; rw[kH]; rfl
theorem Je (g:e.Len) (m:0<=e.op) (n:e.op<=13) (b:WB C e j) (c:Int):WR C e c (wp e c j):=by
 intro bZ a;have d:e.op=0\/e.op=1\/e.op=2\/e.op=3\/e.op=4\/e.op=5\/e.op=6\/e.op=7\/e.op=8\/e.op=9\/e.op=10\/e.op=11\/e.op=12\/e.op=13:=by omega
 have p:SS.CC 153 [A1 (ev e)] []=some (aP (mF e),[]):=by obtain ⟨o,v,i,l⟩:=e;exact (Ea g rfl m n).1
 rw[bBW,bn p,bA5];unfold wp at a ⊢;by_cases f:mF e<c
 .rw[ay f] at a ⊢;rw[bT,aY,xg] at a;rw[aK f,aI,bf (lX ⟨#[40]⟩ bZ (by omega))];try dsimp only
  have b:=(b (bZ ++ [tS [40]]) (by rw[aY,xg]; omega)).2;rw[zU,zU] at b;rw[aQ (by rw[aK (by omega),aK (by omega)]; rfl)];rcases d with h | h | h | h | h | h | h | h | h | h | h | h | h | h<;>(rw[h] at b ⊢; exact b)
 .rw[aX f] at a ⊢;have b:=b bZ;rw[aU f,aF,aQ (by rw[aK (by omega),aK (by omega)]; rfl)];have b:=(b a).1;rcases d with h | h | h | h | h | h | h | h | h | h | h | h | h | h<;>(rw[h] at b ⊢; exact b)
def BR (bZ:List Tok) (h:bZ.length+1<=1000000):SS.CC 142 [ag,a_ [cEX [41]]] [aG (fK bZ)]=bi [aG (fK (bZ ++ [tS [41]]))]:=lX _ bZ h
def syQ (bZ:List Tok) (h:bZ.length+1<=1000000):SS.CC 142 [ag,a_ [cEX [63]]] [aG (fK bZ)]=bi [aG (fK (bZ ++ [tS [63]]))]:=lX _ bZ h
def syD (bZ:List Tok) (h:bZ.length+1<=1000000):SS.CC 142 [ag,a_ [cEX [58]]] [aG (fK bZ)]=bi [aG (fK (bZ ++ [tS [58]]))]:=lX _ bZ h
def b1U (bZ:List Tok) (h:bZ.length+2<=1000000):SS.CC 142 [ag,a_ [cEX [45],cEX [40]]] [aG (fK bZ)]=bi [aG (fK (bZ ++ [tS [45],tS [40]]))]:=sy2 _ _ bZ h
def woT (bZ:List Tok) (h:bZ.length+1<=1000000):SS.CC 141 [ag,a_ [cEX [116,114,117,101]]] [aG (fK bZ)]=bi [aG (fK (bZ ++ [tW mM]))]:=zO _ bZ h
def woF (bZ:List Tok) (h:bZ.length+1<=1000000):SS.CC 141 [ag,a_ [cEX [102,97,108,115,101]]] [aG (fK bZ)]=bi [aG (fK (bZ ++ [tW pM]))]:=zO _ bZ h
def woB (s:d_) (bZ:List Tok) (h:bZ.length+1<=1000000):SS.CC 141 [ag,a_ [.str (bs s)]] [aG (fK bZ)]=bi [aG (fK (bZ ++ [tW s]))]:=zO _ bZ h
def Eo (o:Int):d_:=if o=5 then [45] else if o=10 then [33] else lW o
def H8 (a:o=2\/o=3\/o=4\/o=5\/o=6\/o=7\/o=8\/o=9\/o=10\/o=11\/o=12) (bZ:List Tok) (h:bZ.length+1<=1000000):SS.CC 142 [ag,a_ [.str (JQ o)]] [aG (fK bZ)]=bi [aG (fK (bZ ++ [tS (Eo o)]))]:=by rw[lX _ bZ h];rcases a with rfl|rfl|rfl|rfl|rfl|rfl|rfl|rfl|rfl|rfl|rfl<;>rfl
def agc (hk:n<m.length) (a:WR C m[n] D j) (bZ:List Tok) (h:bZ.length+j.length+1<=1000000) :
 SS.CC 154 [aP (n:Int),aP D,ag,.cst (a_ (NS C)),.cst (A1 (o,f,i,o8 m,()))] [some [.ptr 1 0],aG (fK bZ)]=bi [some [.ptr 1 0],aG (fK (bZ ++ j))]:=by
 rw[bIE];rw[ET hk,bf (a bZ h)]
def zk (b:WR C e D j) (bZ:List Tok) (h:bZ.length+j.length+1<=1000000) :
 SS.CC 154 [aP 0,aP D,ag,.cst (a_ (NS C)),.cst (A1 (o,f,i,o8 (e::m),()))] [some [.ptr 1 0],aG (fK bZ)]=bi [some [.ptr 1 0],aG (fK (bZ ++ j))]:=agc (by simp) b bZ h
def RQ (c:WR C y D j) (bZ:List Tok) (h:bZ.length+j.length+1<=1000000) :
 SS.CC 154 [aP 1,aP D,ag,.cst (a_ (NS C)),.cst (A1 (o,f,i,o8 (e::y::m),()))] [some [.ptr 1 0],aG (fK bZ)]=bi [some [.ptr 1 0],aG (fK (bZ ++ j))]:=agc (by simp) c bZ h
def ag2 {c:EX} (d:WR C c D j) (bZ:List Tok) (h:bZ.length+j.length+1<=1000000) :
 SS.CC 154 [aP 2,aP D,ag,.cst (a_ (NS C)),.cst (A1 (o,f,i,o8 (e::y::c::m),()))] [some [.ptr 1 0],aG (fK bZ)]=bi [some [.ptr 1 0],aG (fK (bZ ++ j))]:=agc (by simp) d bZ h
theorem Len.arg (h:(EX.node o f i m).Len) (he:e∈m):e.Len:=by
 cases h with
 | mk _ _ _ _ a=>grind
theorem BI (h:o≠6):gX (.node o f i m) tE=false:=by grind [tE,WQ]
theorem Cf (h:o≠7):gX (.node o f i m) fE=false:=by grind [fE,WQ]
section
variable {ns:List (d_)}
theorem cAW (a:tE.Len):WB ns tE [tW mM]:=fun bZ h=>by
 constructor
 .rw[G5,eG g_,bC (fZ a tE),show gX tE tE=true from EJ _,aI,bf (woT bZ (by omega))]
 .rw[GG,eG g_,bC (fZ a tE),show gX tE tE=true from EJ _,aI,bf (woT bZ (by omega)),bf (BR _ (by rw[aY]; omega))]
theorem cAQ (a:fE.Len):WB ns fE [tW pM]:=fun bZ h=>by
 have b:gX fE tE=false:=BI (by decide);constructor
 .rw[G5,eG g_,bC (fZ a tE),b,aF,eG iV,bC (fZ a fE),show gX fE fE=true from EJ _,aI,bf (woF bZ (by omega))]
 .rw[GG,eG g_,bC (fZ a tE),b,aF,eG iV,bC (fZ a fE),show gX fE fE=true from EJ _,aI,bf (woF bZ (by omega)),bf (BR _ (by rw[aY]; omega))]
theorem cAV (b : -65536<=o) (c:o<=65536) (a:(EX.node 0 o 0 []).Len):WB ns (nE o) (gU o):=fun bZ h=>by
 have d:gX (.node 0 o 0 []) tE=false:=BI (by decide);have e:gX (.node 0 o 0 []) fE=false:=Cf (by decide);unfold nE;constructor
 .rw[G5,eG g_,bC (fZ a tE),d,aF,eG iV,bC (fZ a fE),e,aF,kH];rw[show ((0:Int)==0)=true from rfl,aI,bf (Lc b c bZ (by omega))]
 .rw[GG,eG g_,bC (fZ a tE),d,aF,eG iV,bC (fZ a fE),e,aF,kH];rw[show ((0:Int)==0)=true from rfl,aI,bf (Lc b c bZ (by omega)),bf (BR _ (by rw[aY]; omega))]
theorem cAX {s:d_} (e:ns[n]? = some s) (a:(EX.node 1 0 (n:Int) []).Len):WB ns (vE (n:Int)) [tW s]:=fun bZ h=>by
 have b:gX (.node 1 0 (n:Int) []) tE=false:=BI (by decide);have c:gX (.node 1 0 (n:Int) []) fE=false:=Cf (by decide);have d:(NS ns)[(n:Int).toNat]? = some (.str (bs s)):=by grind [aF6]
 unfold vE;constructor
 .rw[G5,eG g_,bC (fZ a tE),b,aF,eG iV,bC (fZ a fE),c,aF,kH];rw[show ((1:Int)==0)=false from rfl,aF,show ((1:Int)==1)=true from rfl,aI,nK (by omega) d,je,bf (woB s bZ (by omega))]
 .rw[GG,eG g_,bC (fZ a tE),b,aF,eG iV,bC (fZ a fE),c,aF,kH];rw[show ((1:Int)==0)=false from rfl,aF,show ((1:Int)==1)=true from rfl,aI,nK (by omega) d,je,bf (woB s bZ (by omega)),bf (BR _ (by rw[aY]; omega))]
theorem cAT (b:0<=o) (c:WR ns (nE o) 0 (gU o)) (a:(EX.node 5 0 0 [nE o]).Len):WB ns (kS 5 (nE o)) (tS [45]::tS [40]::(gU o ++ [tS [41]])):=fun bZ h=>by
 have h:bZ.length+((gU o ++ [tS [41]]).length+1+1)+1<=1000000:=h;rw[aY,xg] at h;have d:gX (.node 5 0 0 [nE o]) tE=false:=BI (by decide);have f:gX (.node 5 0 0 [nE o]) fE=false:=Cf (by decide);have e:bZ ++ tS [45]::tS [40]::(gU o ++ [tS [41]])=bZ ++ [tS [45],tS [40]] ++ gU o ++ [tS [41]]:=by simp
 have g:(bZ ++ [tS [45],tS [40]]).length=bZ.length+2:=by simp
 have i:(bZ ++ [tS [45],tS [40]] ++ gU o).length=bZ.length+2+(gU o).length:=by rw[aY,g]
 rw[e];constructor
 .rw[G5,eG g_,bC (fZ a tE),d,aF,eG iV,bC (fZ a fE),f,aF,kH];rw[show ((5:Int)==0)=false from rfl,aF,show ((5:Int)==1)=false from rfl,aF,show ((5:Int)==5)=true from rfl,aI,wH,wH,KP];rw[show ((0:Int)==0)=true from rfl,aI,aK b,aI,bf (b1U bZ (by omega)),qJ (zk c _ (by omega)),bf (BR _ (by omega))]
 .rw[GG,eG g_,bC (fZ a tE),d,aF,eG iV,bC (fZ a fE),f,aF,kH];rw[show ((5:Int)==0)=false from rfl,aF,show ((5:Int)==1)=false from rfl,aF,show ((5:Int)==5)=true from rfl,aI,wH,wH,KP];rw[show ((0:Int)==0)=true from rfl,aI,aK b,aI,bf (b1U bZ (by omega)),qJ (zk c _ (by omega)),bf (BR _ (by omega)),bf (BR _ (by rw[aY,xg]; omega))]
theorem cAS {l:List EX} {T:List Tok} (j:o≠0\/f<0) (a:WR ns (.node o f i l) 6 T) (b:(EX.node 5 0 0 [.node o f i l]).Len):WB ns (kS 5 (.node o f i l)) (tS [45]::T):=fun bZ h=>by
 have h:bZ.length+(T.length+1)+1<=1000000:=h;have d:gX (.node 5 0 0 [.node o f i l]) tE=false:=BI (by decide);have g:gX (.node 5 0 0 [.node o f i l]) fE=false:=Cf (by decide);have e:bZ ++ tS [45]::T=bZ ++ [tS [45]] ++ T:=by simp
 have m:(bZ ++ [tS [45]]).length=bZ.length+1:=by simp
 rw[e];show vM _ _ _ _ (JQ 5)=_/\vN _ _ _ _ (JQ 5)=_;constructor
 .rw[G5,eG g_,bC (fZ b tE),d,aF,eG iV,bC (fZ b fE),g,aF,kH];rw[show ((5:Int)==0)=false from rfl,aF,show ((5:Int)==1)=false from rfl,aF,show ((5:Int)==5)=true from rfl,aI,wH,wH,kH];try dsimp only
  by_cases c:o=0
  .rw[show (o==0)=true by simp[c],aI,aU (by omega),aF,aI,bf (H8 (by simp) bZ (by omega))];rw[show Eo 5 = [45] from rfl,qJ (zk a _ (by omega))]
  .rw[show (o==0)=false by grind,aF,aI,bf (H8 (by simp) bZ (by omega))];rw[show Eo 5 = [45] from rfl,qJ (zk a _ (by omega))]
 .rw[GG,eG g_,bC (fZ b tE),d,aF,eG iV,bC (fZ b fE),g,aF,kH];rw[show ((5:Int)==0)=false from rfl,aF,show ((5:Int)==1)=false from rfl,aF,show ((5:Int)==5)=true from rfl,aI,wH,wH,kH];try dsimp only
  by_cases c:o=0
  .rw[show (o==0)=true by simp[c],aI,aU (by omega),aF,aI,bf (H8 (by simp) bZ (by omega))];rw[show Eo 5 = [45] from rfl,qJ (zk a _ (by omega)),bf (BR _ (by rw[aY]; omega))]
  .rw[show (o==0)=false by grind,aF,aI,bf (H8 (by simp) bZ (by omega))];rw[show Eo 5 = [45] from rfl,qJ (zk a _ (by omega)),bf (BR _ (by rw[aY]; omega))]
theorem cAU {T:List Tok} (d:WR ns e 6 T) (c:(EX.node 10 0 0 [e]).Len):WB ns (kS 10 e) (tS [33]::T):=fun bZ h=>by
 have h:bZ.length+(T.length+1)+1<=1000000:=h;have f:gX (.node 10 0 0 [e]) tE=false:=BI (by decide);have g:gX (.node 10 0 0 [e]) fE=false:=Cf (by decide);have b:bZ ++ tS [33]::T=bZ ++ [tS [33]] ++ T:=by simp
 have i:(bZ ++ [tS [33]]).length=bZ.length+1:=by simp
 rw[b];show vM _ _ _ _ (JQ 10)=_/\vN _ _ _ _ (JQ 10)=_;constructor
 .rw[G5,eG g_,bC (fZ c tE),f,aF,eG iV,bC (fZ c fE),g,aF,kH];rw[show ((10:Int)==0)=false from rfl,aF,show ((10:Int)==1)=false from rfl,aF,show ((10:Int)==5)=false from rfl,aF,aF,show ((10:Int)==10)=true from rfl,aI,bf (H8 (by simp) bZ (by omega)),show Eo 10 = [33] from rfl,qJ (zk d _ (by omega))]
 .rw[GG,eG g_,bC (fZ c tE),f,aF,eG iV,bC (fZ c fE),g,aF,kH];rw[show ((10:Int)==0)=false from rfl,aF,show ((10:Int)==1)=false from rfl,aF,show ((10:Int)==5)=false from rfl,aF,aF,show ((10:Int)==10)=true from rfl,aI,bf (H8 (by simp) bZ (by omega)),show Eo 10 = [33] from rfl,qJ (zk d _ (by omega)),bf (BR _ (by rw[aY]; omega))]
theorem cAR {b:EX} {C A B:List Tok} (g:WR ns e 1 C) (i:WR ns y 0 A) (j:WR ns b 0 B) (f:(EX.node 13 0 0 [e,y,b]).Len):WB ns (.node 13 0 0 [e,y,b]) (C ++ tS [63]::(A ++ tS [58]::B)):=fun bZ h=>by
 rw[aY,bT,aY,bT] at h;have l:gX (.node 13 0 0 [e,y,b]) tE=false:=BI (by decide);have m:gX (.node 13 0 0 [e,y,b]) fE=false:=Cf (by decide);have d:bZ ++ (C ++ tS [63]::(A ++ tS [58]::B))=bZ ++ C ++ [tS [63]] ++ A ++ [tS [58]] ++ B:=by simp
 have n:(bZ ++ C).length=bZ.length+C.length:=by simp
 have o:(bZ ++ C ++ [tS [63]]).length=bZ.length+C.length+1:=by rw[aY,n]; rfl
 have p:(bZ ++ C ++ [tS [63]] ++ A).length=bZ.length+C.length+1+A.length:=by rw[aY,o]
 have q:(bZ ++ C ++ [tS [63]] ++ A ++ [tS [58]]).length=bZ.length+C.length+1+A.length+1:=by rw[aY,p]; rfl
 rw[d];constructor
 .rw[G5,eG g_,bC (fZ f tE),l,aF,eG iV,bC (fZ f fE),m,aF,kH];rw[show ((13:Int)==0)=false from rfl,aF,show ((13:Int)==1)=false from rfl,aF,show ((13:Int)==5)=false from rfl,aF,aF,show ((13:Int)==10)=false from rfl,aF,show ((13:Int)==13)=true from rfl,aI,
   qJ (zk g bZ (by omega)),bf (syQ _ (by omega)),qJ (RQ i _ (by omega)),bf (syD _ (by omega)),qJ (ag2 j _ (by omega))]
 .rw[GG,eG g_,bC (fZ f tE),l,aF,eG iV,bC (fZ f fE),m,aF,kH];rw[show ((13:Int)==0)=false from rfl,aF,show ((13:Int)==1)=false from rfl,aF,show ((13:Int)==5)=false from rfl,aF,aF,show ((13:Int)==10)=false from rfl,aF,show ((13:Int)==13)=true from rfl,aI,
   qJ (zk g bZ (by omega)),bf (syQ _ (by omega)),qJ (RQ i _ (by omega)),bf (syD _ (by omega)),qJ (ag2 j _ (by omega)),bf (BR _ (by rw[aY]; omega))]
theorem b3B {A B:List Tok} (z:o=2\/o=3\/o=4\/o=6\/o=7\/o=8\/o=9\/o=11\/o=12) (u:mF (iQ o e y)=f) (w:f=3/\i=4/\D=4\/f≠3/\0<=f/\f<=7/\i=f/\D=f+1)
 (l:gX (.node o 0 0 [e,y]) tE=false) (m:gX (.node o 0 0 [e,y]) fE=false) (n:WR ns e i A) (p:WR ns y D B) (j:(EX.node o 0 0 [e,y]).Len):WB ns (iQ o e y) (A ++ tS (lW o)::B):=fun bZ h=>by
 rw[aY,bT] at h;have c:bZ ++ (A ++ tS (lW o)::B)=bZ ++ A ++ [tS (Eo o)] ++ B:=by rw[show Eo o=lW o by unfold Eo; rw[aX (by omega),aX (by omega)]]; simp
 have x:(bZ ++ A).length=bZ.length+A.length:=by simp
 have C:(bZ ++ A ++ [tS (Eo o)]).length=bZ.length+A.length+1:=by rw[aY,x]; rfl
 have q:(o==0)=false:=by simp; omega
 have r:(o==1)=false:=by simp; omega
 have t:(o==5)=false:=by simp; omega
 have d:(o==10)=false:=by simp; omega
 have g:(o==13)=false:=by simp; omega
 rw[c,u];show vM _ _ _ _ (JQ o)=_/\vN _ _ _ _ (JQ o)=_;rcases w with ⟨rfl,rfl,rfl⟩|⟨E,F,G,rfl,rfl⟩
 .constructor
  .rw[G5,eG g_,bC (fZ j tE),l,aF,eG iV,bC (fZ j fE),m,aF,kH];rw[q,aF,r,aF,t,aF,aF,d,aF,g,aF,show ((3:Int)==3)=true from rfl,aI,qJ (zk n bZ (by omega)),bf (H8 (by omega) _ (by omega)),qJ (RQ p _ (by omega))]
  .rw[GG,eG g_,bC (fZ j tE),l,aF,eG iV,bC (fZ j fE),m,aF,kH];rw[q,aF,r,aF,t,aF,aF,d,aF,g,aF,show ((3:Int)==3)=true from rfl,aI,qJ (zk n bZ (by omega)),bf (H8 (by omega) _ (by omega)),qJ (RQ p _ (by omega)),bf (BR _ (by rw[aY]; omega))]
 .have v:(i==3)=false:=by grind
  constructor
  .rw[G5,eG g_,bC (fZ j tE),l,aF,eG iV,bC (fZ j fE),m,aF,kH];rw[q,aF,r,aF,t,aF,aF,d,aF,g,aF,v,aF,qJ (zk n bZ (by omega)),bf (H8 (by omega) _ (by omega)),wrap64 (by omega) (by omega),qJ (RQ p _ (by omega))]
  .rw[GG,eG g_,bC (fZ j tE),l,aF,eG iV,bC (fZ j fE),m,aF,kH];rw[q,aF,r,aF,t,aF,aF,d,aF,g,aF,v,aF,qJ (zk n bZ (by omega)),bf (H8 (by omega) _ (by omega)),wrap64 (by omega) (by omega),qJ (RQ p _ (by omega)),bf (BR _ (by rw[aY]; omega))]
end
def aYC (h:o=2/\f=4\/o=3/\f=4\/o=4/\f=5\/o=11/\f=2\/o=12/\f=1):mF (iQ o e y)=f:=by rcases h with ⟨rfl,rfl⟩|⟨rfl,rfl⟩|⟨rfl,rfl⟩|⟨rfl,rfl⟩|⟨rfl,rfl⟩<;>rfl
theorem aYE (h:o=6\/o=7\/o=8\/o=9) (c:gX (iQ o e y) tE=false) (d:gX (iQ o e y) fE=false):mF (iQ o e y)=3:=by unfold mF;grind
theorem c30 (m:List (d_)) (h:PB m e j):e.Len->WB m e j/\0<=e.op/\e.op<=13:=by
 induction h with
 | tt=>grind [cAW,EX.op,tE]
 | ff=>grind [cAQ,EX.op,fE]
 | num p q=>grind [cAV,EX.op,nE]
 | var t=>grind [cAX,EX.op,vE]
 | @UB v p q _ d =>intro a;obtain ⟨k1,k2,k3⟩:=d (Len.arg a (by simp));have u:=Je (Len.arg a (by simp)) k2 k3 k1 0;grind [wp,nE,mF,cAT,EX.op]
 | neg w _ d =>grind [Len.arg,cAS,Je,EX.op]
 | sJ _ d =>grind [Len.arg,cAU,Je,EX.op]
 | cmp f n o _ _ b c =>
  intro a;obtain ⟨k1,k2,k3⟩:=b (Len.arg a (by simp));obtain ⟨g,i,l⟩:=c (Len.arg a (by simp));refine ⟨b3B (by omega) (aYE f n o) (.inl ⟨rfl,rfl,rfl⟩) n o (Je (Len.arg a (by simp)) k2 k3 k1 4) (Je (Len.arg a (by simp)) i l g 4) a,?_,?_⟩;grind [EX.op]
  grind [EX.op]
 | bin f _ _ b c =>
  intro a;obtain ⟨k1,k2,k3⟩:=b (Len.arg a (by simp));obtain ⟨g,i,l⟩:=c (Len.arg a (by simp));refine ⟨b3B (by omega) (aYC f) (.inr ⟨by omega,by omega,by omega,rfl,rfl⟩) (BI (by omega)) (Cf (by omega)) (Je (Len.arg a (by simp)) k2 k3 k1 _) (Je (Len.arg a (by simp)) i l g _) a,?_,?_⟩;grind [EX.op]
  grind [EX.op]
 | ite _ _ _ r b c =>grind [Len.arg,cAR,Je,EX.op]
def bu (T:List Tok):ai:=T.map fun t => .str (bs t.text)
theorem oI (T:List Tok):(bu T).length=T.length:=by grind [bu]
theorem ul (a b:List Tok):bu (a ++ b)=bu a ++ bu b:=by grind [bu]
def ZT (t:Tok) (a:List Tok):bu (t::a) = .str (bs t.text)::bu a:=rfl
def MW (b:List (d_)) (x:EX) (B:List Tok):Prop:=∀ a:Int,a<=7->B.length+2<=1000000->SS.CC 180 [a_ (NS b),A1 (ev x),aP a] []=some (.sl true 1 (bu (wp x a B)),[])
def MB (b:List (d_)) (x:EX) (B:List Tok):Prop:=B.length+2<=1000000->∀ a:Int,a<=mF x->SS.CC 180 [a_ (NS b),A1 (ev x),aP a] []=some (.sl true 1 (bu B),[])
theorem U4 (x:EX):0<=mF x:=by obtain ⟨o,v,i,l⟩:=x;unfold mF;dsimp only;omega
section
variable {ns:List (d_)}
theorem LY {B:List Tok} (f:e.Len) (g:0<=e.op) (h:e.op<=13) (c:MB ns e B):MW ns e B:=fun a _ d=>by
 unfold wp;by_cases b:mF e<a
 .have j:SS.CC 261 [A1 (ev e)] []=some (aP (mF e),[]):=by obtain ⟨o,v,i,l⟩:=e;exact (Ea f rfl g h).2
  rw[ay b,GI,bn j,aK b,nS (c d 0 (U4 e)),aQ (aK (by rw[oI]; unfold aN; omega)),aQ (aK (by rw[aY,oI]; grind [aN])),ZT,ul];rfl
 .rw[aX b]; exact c d a (by omega)
theorem b'J (a:tE.Len):MB ns tE [tW mM]:=fun _ b c=>by rw[GI,bn (Ea a rfl (by decide) (by decide)).2,aU (by omega),eG g_,bC (fZ a tE),EJ];rfl
theorem b'D (a:fE.Len):MB ns fE [tW pM]:=fun _ b c=>by rw[GI,bn (Ea a rfl (by decide) (by decide)).2,aU (by omega),eG g_,bC (fZ a tE),eG iV,bC (fZ a fE),EJ];rfl
def UG (a : -65536<=o) (b:o<=65536):SS.CC 78 [aP o] []=some (.sl true 1 (bu (gU o)),[]):=by
 rw[bS9];unfold gU;by_cases hv:o<0
 .rw[aK hv,ay hv,show i64.wrap (0-o)=((-o).toNat:Int) by rw[wrap64 (by omega) (by omega)]; omega,nR (a6Q _ (by omega))];rfl
 .rw[show o=(o.toNat:Int) by omega,nR (a6Q _ (by omega))];rfl
theorem b'I (d : -65536<=o) (e:o<=65536) (a:(EX.node 0 o 0 []).Len):MB ns (nE o) (gU o):=fun _ b f=>by have g:gX (.node 0 o 0 []) tE=false:=BI (by decide);have h:gX (.node 0 o 0 []) fE=false:=Cf (by decide);have c:=(Ea a rfl (by decide) (by decide)).2;unfold nE at f ⊢;rw[GI,bn c,aU (by omega),aF,eG g_,bC (fZ a tE),g,aF,eG iV,bC (fZ a fE),h,aF,bn c,kH];rw[show ((0:Int)==0)=true from rfl,aI,nS (UG d e)]
theorem b'K {s:d_} (f:ns[n]? = some s) (a:(EX.node 1 0 (n:Int) []).Len):MB ns (vE (n:Int)) [tW s]:=fun _ b d=>by
 have c:=(Ea a rfl (by decide) (by decide)).2;have e:(NS ns)[(n:Int).toNat]? = some (.str (bs s)):=by grind [aF6]
 unfold vE at d ⊢;rw[GI,bn c,aU (by omega),eG g_,bC (fZ a tE),eG iV,bC (fZ a fE),bn c,kH];rw[nK (by omega) e];rfl
theorem b'H {A:List Tok} (f:MW ns e A) (b:(EX.node 10 0 0 [e]).Len):MB ns (kS 10 e) (tS [33]::wp e 6 A):=fun g c h=>by
 rw[bT] at g;have d:=(Ea b rfl (by decide) (by decide)).2;have i:A.length<=(wp e 6 A).length:=by grind [wp]
 unfold kS at h ⊢;rw[GI,bn d,aU (by omega),eG g_,bC (fZ b tE),eG iV,bC (fZ b fE),bn d,kH];rw[wH,nS (f 6 (by decide) (by omega)),aQ (aK (by rw[oI]; unfold aN; omega))];rfl
theorem b'G (e:0<=o) (f:MW ns (nE o) (gU o)) (g:wp (nE o) 0 (gU o)=gU o) (b:(EX.node 5 0 0 [nE o]).Len):MB ns (kS 5 (nE o)) (tS [45]::tS [40]::(gU o ++ [tS [41]])):=fun h c i=>by rw[bT,bT,aY] at h;have j:gX (.node 5 0 0 [nE o]) tE=false:=BI (by decide);have l:gX (.node 5 0 0 [nE o]) fE=false:=Cf (by decide);have d:=(Ea b rfl (by decide) (by decide)).2;have a:=f 0 (by decide) (by omega);rw[g,KP] at a;unfold kS at i ⊢;rw[GI,bn d,aU (by omega),aF,eG g_,bC (fZ b tE),j,aF,eG iV,bC (fZ b fE),l,aF,bn d,kH];rw[show ((5:Int)==0)=false from rfl,aF,show ((5:Int)==1)=false from rfl,aF,show ((5:Int)==10)=false from rfl,aF,wH,KP];rw[aK e,nS a,aQ (aK (by rw[oI]; unfold aN; omega)),aQ (aK (by rw[aY,oI]; grind [aN])),ZT,ZT,ul];rfl
theorem b'F {l:List EX} {A:List Tok} (m:o≠0\/f<0) (d:MW ns (.node o f i l) A) (a:(EX.node 5 0 0 [.node o f i l]).Len):MB ns (kS 5 (.node o f i l)) (tS [45]::wp (.node o f i l) 6 A):=fun e b g=>by
 rw[bT] at e;have h:gX (.node 5 0 0 [.node o f i l]) tE=false:=BI (by decide);have j:gX (.node 5 0 0 [.node o f i l]) fE=false:=Cf (by decide);have c:=(Ea a rfl (by decide) (by decide)).2;have n:A.length<=(wp (.node o f i l) 6 A).length:=by grind [wp]
 have p:a4Q (NS ns) (5,0,0,o8 [.node o f i l],())=some (.sl true 1 (bu (tS [45]::wp (.node o f i l) 6 A)),[]):=by rw[bNV];rw[wH,nS (d 6 (by decide) (by omega)),aQ (aK (by rw[oI]; unfold aN; omega))];rfl
 unfold kS at g ⊢;rw[GI,bn c,aU (by omega),aF,eG g_,bC (fZ a tE),h,aF,eG iV,bC (fZ a fE),j,aF,bn c,kH];rw[show ((5:Int)==0)=false from rfl,aF,show ((5:Int)==1)=false from rfl,aF,show ((5:Int)==10)=false from rfl,aF,wH,kH];grind [aI,aU,aF]
theorem b'E {b:EX} {C A B:List Tok} (h:MW ns e C) (i:MW ns y A) (j:MW ns b B) (d:(EX.node 13 0 0 [e,y,b]).Len):MB ns (.node 13 0 0 [e,y,b]) (wp e 1 C ++ tS [63]::(wp y 0 A ++ tS [58]::wp b 0 B)):=fun l f p=>by
 rw[aY,bT,aY,bT] at l;have m:gX (.node 13 0 0 [e,y,b]) tE=false:=BI (by decide);have n:gX (.node 13 0 0 [e,y,b]) fE=false:=Cf (by decide);have g:=(Ea d rfl (by decide) (by decide)).2;have q:C.length<=(wp e 1 C).length:=by grind [wp]
 have r:A.length<=(wp y 0 A).length:=by grind [wp]
 have t:B.length<=(wp b 0 B).length:=by grind [wp]
 have o:SS.CC 180 [a_ (NS ns),A1 (ev y),aP 0] []=_:=i 0 (by decide) (by omega);rw[GI,bn g,aU (by omega),aF,eG g_,bC (fZ d tE),m,aF,eG iV,bC (fZ d fE),n,aF,bn g,kH];rw[show ((13:Int)==0)=false from rfl,aF,show ((13:Int)==1)=false from rfl,aF,show ((13:Int)==10)=false from rfl,aF,show ((13:Int)==5)=false from rfl,aF,wH,nS (h 1 (by decide) (by omega)),aQ (aK (by rw[oI]; unfold aN; omega)),show (1:Int)=((1:Nat):Int) from rfl,ET (by simp)];rw[show [e,y,b][1]=y from rfl,nS o,aQ (aK (by rw[aY,oI,oI]; grind [aN])),aQ (aK (by rw[aY,aY,oI,oI]; grind [aN])),show (2:Int)=((2:Nat):Int) from rfl,ET (by simp)];rw[show [e,y,b][2]=b from rfl,nS (j 0 (by decide) (by omega)),aQ (aK (by rw[aY,aY,aY,oI,oI,oI]; grind [aN])),ul,ZT,ul];simp;exact ⟨rfl,rfl⟩
theorem aYP {A B:List Tok} (N:o=2\/o=3\/o=4\/o=6\/o=7\/o=8\/o=9\/o=11\/o=12) (l:mF (iQ o e y)=f) (t:(o=6\/o=7\/o=8\/o=9)/\i=4/\D=4\/(o=2\/o=3\/o=4\/o=11\/o=12)/\0<=f/\f<=6/\i=f/\D=f+1)
 (u:gX (.node o 0 0 [e,y]) tE=false) (v:gX (.node o 0 0 [e,y]) fE=false) (w:MW ns e A) (x:MW ns y B) (m:(EX.node o 0 0 [e,y]).Len):MB ns (iQ o e y) (wp e i A ++ tS (lW o)::wp y D B):=fun z r C=>by
 rw[aY,bT] at z;have O:A.length<=(wp e i A).length:=by grind [wp]
 have Q:B.length<=(wp y D B).length:=by grind [wp]
 have c:=(Ea m rfl (by omega) (by omega)).2;have n:mF (.node o 0 0 [e,y])=f:=l;have E:bu (wp e i A ++ tS (lW o)::wp y D B)=bu (wp e i A) ++ [.str (bs (lW o))] ++ bu (wp y D B):=by rw[ul,ZT]; simp
 have x8:=w i (by omega) (by omega);have d:=x D (by omega) (by omega);have k1:∀ K,ak S1 (o8 [e,y]) 1 K=K (ev y):=fun K=>ET (by simp) K
 have g:decide ((bu (wp e i A)).length+1<=aN)=true:=aK (by rw[oI]; unfold aN; omega);have j:decide ((bu (wp e i A) ++ ([.str (bs (lW o))]:ai)).length+(bu (wp y D B)).length<=aN)=true:=aK (by rw[aY,oI,oI]; grind [aN]);rw[GI,bn c,aU (by omega),aF,eG g_,bC (fZ m tE),u,aF,eG iV,bC (fZ m fE),v,aF,bn c,kH,E,n];have F:(o==0)=false:=by simp; omega
 have G:(o==1)=false:=by simp; omega
 have H:(o==5)=false:=by simp; omega
 have p:(o==10)=false:=by simp; omega
 have q:(o==13)=false:=by simp; omega
 rw[F,aF,G,aF,p,aF,H,aF,q,aF];rcases t with ⟨h,rfl,rfl⟩|⟨h,S,h6,rfl,rfl⟩
 .rcases h with rfl|rfl|rfl|rfl
  .rw[show ((6:Int)==6)=true from rfl,aI,wH,nS x8,nR (MO 6),aQ g,k1,nS d,aQ j]
  .rw[show ((7:Int)==6)=false from rfl,aF,show ((7:Int)==7)=true from rfl,aI,wH,nS x8,nR (MO 7),aQ g,k1,nS d,aQ j]
  .rw[show ((8:Int)==6)=false from rfl,aF,show ((8:Int)==7)=false from rfl,aF,show ((8:Int)==8)=true from rfl,aI,wH,nS x8,nR (MO 8),aQ g,k1,nS d,aQ j]
  .rw[show ((9:Int)==6)=false from rfl,aF,show ((9:Int)==7)=false from rfl,aF,show ((9:Int)==8)=false from rfl,aF,show ((9:Int)==9)=true from rfl,aI,wH,nS x8,nR (MO 9),aQ g,k1,nS d,aQ j]
 .have I:(o==6)=false:=by simp; omega
  have J:(o==7)=false:=by simp; omega
  have L:(o==8)=false:=by simp; omega
  have M:(o==9)=false:=by simp; omega
  rw[I,aF,J,aF,L,aF,M,aF,wH,nS x8,nR (MO o),aQ g,k1,wrap64 (by omega) (by omega),nS d,aQ j]
end
theorem c2V (l:List (d_)) (h:PB l e j):e.Len->MB l e j/\0<=e.op/\e.op<=13:=by
 induction h with
 | tt=>grind [b'J,EX.op,tE]
 | ff=>grind [b'D,EX.op,fE]
 | num p q=>grind [b'I,EX.op,nE]
 | var t=>grind [b'K,EX.op,vE]
 | @UB v p q _ m =>grind [Len.arg,wp,nE,mF,b'G,LY,EX.op]
 | neg u _ m =>grind [Len.arg,b'F,LY,EX.op]
 | sJ _ m =>grind [Len.arg,b'H,LY,EX.op]
 | cmp d n o _ _ b c =>
  intro a;obtain ⟨k1,k2,k3⟩:=b (Len.arg a (by simp));obtain ⟨f,g,i⟩:=c (Len.arg a (by simp));refine ⟨aYP (by omega) (aYE d n o) (.inl ⟨d,rfl,rfl⟩) n o (LY (Len.arg a (by simp)) k2 k3 k1) (LY (Len.arg a (by simp)) g i f) a,?_,?_⟩;grind [EX.op]
  grind [EX.op]
 | bin d _ _ b c =>
  intro a;obtain ⟨k1,k2,k3⟩:=b (Len.arg a (by simp));obtain ⟨f,g,i⟩:=c (Len.arg a (by simp));refine ⟨aYP (by omega) (aYC d) (.inr ⟨by omega,by omega,by omega,rfl,rfl⟩) (BI (by omega)) (Cf (by omega)) (LY (Len.arg a (by simp)) k2 k3 k1) (LY (Len.arg a (by simp)) g i f) a,?_,?_⟩;grind [EX.op]
  grind [EX.op]
 | ite _ _ _ r b c =>grind [Len.arg,b'E,LY,EX.op]
abbrev pK (t:Tok):Int×d_×Int:=(t.kind,t.text,t.value)
def Tv (t:Tok):Prop:=t.text ≠ []/\(dw t.text).2=0/\pK (dw t.text).1=pK t/\t.kind≠4
theorem c7':∀ x∈lC,∀ c∈x.head?,xC c.toNat=false/\c≠47:=by decide
theorem bAU (h:(dw (t::r)).2=0):xC t.toNat=false/\t≠47:=by
 unfold dw at h;cases e:gq t.toNat with
 | true =>simp only[gq] at e;refine ⟨?_,fun c=>by simp_all⟩;grind [xC]
 | false =>
  cases f:iU t.toNat with
  | true =>simp only[iU] at f;refine ⟨?_,fun c=>by simp_all⟩;grind [xC]
  | false =>
   unfold Es at h;cases g:H9 (t::r) with
   | none=>simp_all
   | some x =>
    obtain ⟨a,d⟩:=QH g;have i:=(aIJ x a).1;match x,a,d,i with
    | c::x,a,d,_ =>grind [c7']
theorem b0R (h:(dw (t::r)).2=0) (u:d_):jJ false (t::u)=0:=by obtain ⟨a,c⟩:=bAU h;grind [c6S]
def eH:List Tok->d_
 | [] => []
 | [t]=>t.text
 | t::u::l=>t.text ++ 32::eH (u::l)
theorem b08:∀ (T:List Tok),T ≠ []->(∀ t,t∈T->Tv t)->∀ (i a start:Nat) (bZ:List Tok),∃ f e,AL false (eH T) i a start bZ = .ok (bZ ++ f ++ [e])/\f.map pK=T.map pK/\e.kind=4
 | [],h,_,_,_,_,_=>absurd rfl h
 | [t],_,j,i,a,start,bZ=>by
  obtain ⟨m,c,g,_⟩:=j t (by simp);show ∃ f e,AL false t.text i a start bZ=_/\_;match n:t.text,m with
  | b::r,_ =>
   rw[n] at c g;have o:(dw (b::r)).1.text=b::r:=by simp_all
   have p:AL false (b::r) i a start bZ = .ok (bZ ++ [(dw (b::r)).1.at (a:Nat) ((i-start+1:Nat):Int)] ++ [(⟨4,[],0,(a:Nat),((i+(b::r).length-start+1:Nat):Int)⟩:Tok)]):=by rw[aJX (b0R c r),ay c,o,List.drop_length,b3S]
   refine ⟨_,_,p,?_,rfl⟩;show [pK (dw (b::r)).1] = [pK t];rw[g]
 | t::u::l,_,j,i,a,start,bZ=>by
  obtain ⟨m,c,g,_⟩:=j t (by simp);show ∃ f e,AL false (t.text ++ 32::eH (u::l)) i a start bZ=_/\_;match n:t.text,m with
  | b::r,_ =>
   rw[n] at c g;have o:(dw (b::r)).1.text=b::r:=by simp_all
   have q:dw (b::(r ++ 32::eH (u::l)))=dw (b::r):=c3W (by decide) c84 _ b r;obtain ⟨f,e,k1,k2,k3⟩:=b08 (u::l) (by simp) (fun t h=>j t (by simp[h])) (i+(b::r).length+1) a start (bZ ++ [(dw (b::r)).1.at (a:Nat) ((i-start+1:Nat):Int)]);refine ⟨(dw (b::r)).1.at (a:Nat) ((i-start+1:Nat):Int)::f,e,?_,?_,k3⟩
   .have d:(b::(r ++ 32::eH (u::l))).drop (b::r).length=32::eH (u::l):=by rw[<- pF,List.drop_left]
    rw[pF,aJX (by rw[b0R c]),q,ay c,o,d,
     x9 (by rw[jJ,ay (by decide)]),aX (by decide),aX (by decide),k1]
    simp
   .rw[zV,zV,k2,<- g];rfl
theorem aB8:∀ (n:Nat) (b:UInt8),b∈Lib.decDigits n->gq b.toNat=true:=by
 intro n;induction n using Nat.strongRecOn with
 | _ n e =>
  intro b a;have c:∀ d:Nat,d<10->gq (UInt8.ofNat (48+d)).toNat=true:=fun d f=>by
   have:d=0\/d=1\/d=2\/d=3\/d=4\/d=5\/d=6\/d=7\/d=8\/d=9:=by omega
   rcases this with rfl|rfl|rfl|rfl|rfl|rfl|rfl|rfl|rfl|rfl<;>rfl
  rw[Lib.decDigits] at a;grind
theorem aZO:∀ (l:d_) (b:UInt8) (a m:Nat),sK l a=some m->10*m+(b.toNat-48)<=65536->sK (l ++ [b]) a=some (10*m+(b.toNat-48))
 | [],b,a,m,h,d=>by grind [sK]
 | c::l,b,a,m,h,d=>by
  rw[sK] at h;rw[pF,sK];split at h
  .cases h
  .rename_i e;rw[aX e];exact aZO l b _ m h d
theorem b9D:∀ (n:Nat),n<=65536->sK (Lib.decDigits n) 0=some n:=by
 intro n;induction n using Nat.strongRecOn with
 | _ n b =>
  intro e;have a:∀ d:Nat,d<10->(UInt8.ofNat (48+d)).toNat-48=d:=fun d c=>by
   have:d=0\/d=1\/d=2\/d=3\/d=4\/d=5\/d=6\/d=7\/d=8\/d=9:=by omega
   rcases this with rfl|rfl|rfl|rfl|rfl|rfl|rfl|rfl|rfl|rfl<;>rfl
  rw[Lib.decDigits];split;grind [sK]
  .have c:=a (n % 10) (by omega);have:=aZO (Lib.decDigits (n / 10)) (UInt8.ofNat (48+n % 10)) 0 (n / 10) (b (n / 10) (by omega) (by omega)) (by omega);grind
theorem b9C:∀ (n:Nat),0<n->∃ b r,Lib.decDigits n=b::r/\b≠48:=by
 intro n;induction n using Nat.strongRecOn with
 | _ n a =>
  intro c;rw[Lib.decDigits];split
  .refine ⟨_,[],rfl,?_⟩;have:n=1\/n=2\/n=3\/n=4\/n=5\/n=6\/n=7\/n=8\/n=9:=by omega
   rcases this with rfl|rfl|rfl|rfl|rfl|rfl|rfl|rfl|rfl<;>decide
  .obtain ⟨b,r,d,e⟩:=a (n / 10) (by omega) (by omega);simp_all
theorem Py {p:Nat->Bool}:∀ {l:d_},(∀ b,b∈l->p b.toNat=true)->dQ p l=l
 | [],_=>rfl
 | b::l,h=>by
  have:=Py (l:=l) fun c a=>h c (by simp[a])
  grind [dQ,List.takeWhile_cons]
theorem b2H (h:n<=65536):Tv (tN n):=by
 have a:Lib.decDigits n ≠ []:=by rw[Lib.decDigits]; split<;>simp
 have c:dQ gq (Lib.decDigits n)=Lib.decDigits n:=Py (aB8 n);have d:dQ iy (Lib.decDigits n)=Lib.decDigits n:=Py fun b f=>by grind [iy,aB8]
 have g:Cm (Lib.decDigits n)=(⟨2,Lib.decDigits n,n,0,0⟩,0):=by
  unfold Cm;rw[c,d,aX (by omega)];have e:¬ (1<(Lib.decDigits n).length/\(Lib.decDigits n)[0]? = some 48):=by
   rcases Nat.eq_zero_or_pos n with rfl | i
   grind [Lib.decDigits_one]
   grind [b9C]
  rw[aX e,b9D n h]
 have j:dw (Lib.decDigits n)=(⟨2,Lib.decDigits n,n,0,0⟩,0):=by
  unfold dw;match l:Lib.decDigits n,a with
  | b::r,_ =>grind [aB8]
 refine ⟨a,?_,?_,show (2:Int)≠4 by decide⟩;simp_all;simp_all
theorem c8W:∀ s,s∈lC->Tv (tS s):=by
 have:∀ s,s∈lC->s ≠ []/\(dw s).2=0/\pK (dw s).1=(3,s,0):=by decide
 intro s a;obtain ⟨b,c,d⟩:=this s a;exact ⟨b,c,d,show (3:Int)≠4 by decide⟩
theorem c8X (h:f_ r=true):Tv (tW r):=by
 unfold f_ at h;simp only[bQ] at h;obtain ⟨e,f,i⟩:=h;have d:∀ (l:d_) (k:Nat),Ci l k=true->∀ b,b∈l->iy b.toNat=true:=by
  intro l;induction l with
  | nil=>simp
  | cons c l j =>grind [Ci,Eg,iy]
 match m:r,f with
 | b::a,_ =>
  have n:iU b.toNat=true:=by rw[Ci] at e;grind [Eg]
  have g:gq b.toNat=false:=by grind [gq,iU]
  have o:DN (b::a)=(⟨1,b::a,0,0,0⟩,0):=by grind [DN,Py]
  have p:dw (b::a)=(⟨1,b::a,0,0,0⟩,0):=by grind [dw]
  refine ⟨by simp,?_,?_,show (1:Int)≠4 by decide⟩;simp_all;simp_all
def aVK:∀ (T:List Tok),([32]:d_).intercalate (T.map (·.text))=eH T
 | []=>rfl
 | [t]=>by simp[List.intercalate,eH]
 | t::u::l=>by have:=aVK (u::l);rw[eH,<- this];rfl
def b1O:∀ (l:List (d_)),kT (l.map fun s=>PV.str (bs s))=some (l.map bs)
 | []=>rfl
 | s::l=>by rw[zV,kT,b1O l]; rfl
def bX8 (c:ai) (a:b_):CS 21 [a_ c,.str a] []=(match kT c with
 | some b=>(match Nat.ble (Ii b a).length 140737488355328&&Nat.ble b.length 140737488355328 with
  | true=>some (PV.str ⟨(Ii b a).toArray⟩,([]:aH))
  | false=>none)
 | none=>none):=rfl
def bX6 (T:List Tok):Ii (T.map fun t=>bs t.text) ⟨#[32]⟩=eH T:=by unfold Ii Lib.join;rw[AQ,<- aVK];rfl
def sjc (T:List Tok) (b:T.length<=1000000) (c:(eH T).length<=1000000):SS.CC 21 [a_ (T.map fun t=>PV.str (bs t.text)),cEX [32]] []=some (.str (bs (eH T)),[]):=by
 refine VM ?_;have a:kT (T.map fun t=>PV.str (bs t.text))=some (T.map fun t=>bs t.text):=by have:=b1O (T.map (·.text));rw[AQ,AQ] at this;exact this
 rw[bX8,a];dsimp only;rw[bX6,aZ,aJT (by omega),aJT (by omega)];rfl
theorem aMJ {a:List Tok} (h:a.map pK=j.map pK) (hk:∀ t,t∈j->t.kind≠4):∀ t,t∈a->t.kind≠4:=by grind [List.mem_map_of_mem]
theorem aMZ (T a:List Tok) (c:T.length<=1000000) (h:a.map pK=T.map pK):∀ (m k:Nat),k+m=T.length->a3M (T.map bM) (a.map bM) (k:Int)=rC
 | 0,k,hk=>by grind [aQB,List.length_map,aF]
 | m+1,k,hk=>by
  have g:a.length=T.length:=by have:=congrArg List.length h; grind
  have d:k<a.length:=by omega
  have f:k<T.length:=by omega
  have e:pK a[k]=pK T[k]:=by have:=congrArg (fun l=>l[k]?) h;grind
  have i:a[k].kind=T[k].kind:=congrArg (·.1) e;have j:a[k].text=T[k].text:=congrArg (·.2.1) e;have n:a[k].value=T[k].value:=congrArg (·.2.2) e;have b:SS.CC 157 [rU (tk a[k]),rU (tk T[k])] []=rC:=by rw[bIJ];simp_all
  rw[aQB,aK (by rw[aZ]; omega),aI,YQ d,YQ f,bC b,ut,aF,bK (by omega)];exact aMZ T a c h m (k+1) (by omega)
theorem bA2 (T a:List Tok) (b:T.length<=1000000) (h:a.map pK=T.map pK):SS.CC 156 [.sl false 5 (a.map bM),.sl false 5 (T.map bM),eu 157] []=rC:=by
 have c:a.length=T.length:=by have:=congrArg List.length h; grind
 rw[bII,aZ,aZ,show ((a.length:Int) !=(T.length:Int))=false by simp[c],aF];exact aMZ T a b h T.length 0 (by omega)
theorem aW2 (T:List Tok) (b:T.length<=1000000):∀ (m k:Nat),k+m=T.length->Wy (T.map bM) ((T.take k).map fun t=>PV.str (bs t.text)) (k:Int)=Wy (T.map bM) (T.map fun t=>PV.str (bs t.text)) (T.length:Int)
 | 0,k,hk=>by simp_all
 | m+1,k,hk=>by
  have a:k<T.length:=by omega
  rw[aOO,aK (by rw[aZ]; omega),aI,YQ a,aQ (aK (by rw[aZ,ve]; unfold aN; omega)),bK (by omega)];have:=aW2 T b m (k+1) (by omega);rw[NT a,pq] at this;exact this
theorem b06 (a:j ≠ []) (c:∀ t,t∈j->Tv t) (d:(eH j).length<=65536):∃ b e,vX (eH j) = .ok (b ++ [e])/\b.map pK=j.map pK/\e.kind=4:=by obtain ⟨b,e,f,g,h⟩:=b08 j a c 0 1 0 [];grind [vX,c60]
def aMK:∀ (k n:Nat),n<10 ^ (k+1)->(Lib.decDigits n).length<=k+1
 | 0,n,h=>by rw[Lib.decDigits_one (by omega)]; simp
 | k+1,n,h=>by
  rw[Lib.decDigits];split
  .simp
  .rw[aY,xg];have:=aMK k (n / 10) (by rw[Nat.pow_succ] at h; omega);omega
section
variable {v:ai} {d:Int} {T:List Tok} {x:EX}
end
section
variable {v:ai} {d:Int} {T:List Tok} {x:EX}
end
def b70 {b:d_} (h:bs r=bs b):r=b:=by have:=congrArg ByteArray.toList h;rwa [EH,EH] at this
end Go.Proofs.YtmbehibpfkkjbaaGreatDoor.W
end

/- A part of the proof. -/
import Derived.Test.YtagkcbgkhgccmaaGreatDoorPq4
import Derived.Test.YtagkcbgkhgccmaaGreatDoorPq3
import Derived.ProofKit
import Derived.SizedLaws
import Derived.ChangeArms
import Derived.OpenShut
import Derived.ChangeOld
import Derived.Deep.DeepHandedRow
import Derived.Lib.LaidTab
import Derived.Shelf.LaysM
import Derived.Test.YtagkcbgkhgccmaaGreatDoorRows
import Derived.Test.YtagkcbgkhgccmaaGreatDoorCards
import Derived.Test.YtagkcbgkhgccmaaGreatDoorTie
import Derived.Stop.LaidErr
import Derived.JoinedOf
set_option linter.unusedVariables false
set_option linter.unusedSimpArgs false
set_option linter.unnecessarySimpa false
set_option linter.unusedSectionVars false
noncomputable section
open Go.IntKind (i64)
namespace Go.Proofs.YtagkcbgkhgccmaaGreatDoor.W
open Go.RowKit
variable {b9:oW} {g:FuncId} {a:ai} {h:aH} {S:PV}
theorem dH {F:PV->aH->R} {h':aH} {v:R} (e:b9 g a h=some (S,h')) (b:F S h'=v):BL b9 g a h F=v:=by unfold BL; rw[e]; exact b
theorem wX {F:PV->R} {v:R} (e:b9 g a []=some (S,[])) (b:F S=v):jk b9 g a F=v:=by unfold jk; rw[e]; exact b
variable {o:Int}
theorem TW {b:fQ} {K:RS.F (.t [(false,[.S]),(false,[.I .i64])]) R} (e:SS.CC g a []=some (.tuple [.str b,af o],[])):G0 g a K=K ((b,()),(o,()),()):=wX e rfl
theorem bu {K:RS.F (.ti .i64) R} (e:SS.CC g a []=some (af o,[])):G1 g a K=K o:=wX e rfl
variable {t:ai} {f i:Int}
theorem Xx {K:RS.F (.t [(false,[.L false 5]),(false,[.I .i64]),(false,[.I .i64]),(false,[.I .i64])]) R} (e:SS.CC g a []=some (.tuple [.sl false 5 t,af o,af f,af i],[])):Xw g a K=K ((t,()),(o,()),(f,()),(i,()),()):=wX e rfl
theorem o6 {s1:fQ} {K:RS.F (.ts) R} (e:SS.CC g a []=some (.str s1,[])):G2 g a K=K s1:=wX e rfl
theorem eX {b:Sh.V S1} {K:RS.F (.g S1) R} (e:SS.CC g a []=some (A1 b,[])):qH g a K=K b:=wX e rfl
variable {j:Bool}
theorem aj {K:RS.F (.tb) R} (e:SS.CC g a []=some (.bool j,[])):G3 g a K=K j:=wX e rfl
theorem aZG {K:RS.F (.t [(false,[.I .i64]),(false,[.B])]) R} (e:SS.CC g a []=some (.tuple [af o,.bool j],[])):G37 g a K=K ((o,()),(j,()),()):=wX e rfl
theorem wP {K:RS.F (.tl false 1) R} (e:SS.CC g a []=some (a_ t,[])):G4 g a K=K t:=wX e rfl
theorem aG7 {K:RS.F (.t [(false,[.I .i64]),(false,[.I .i64])]) R} (e:SS.CC g a []=some (.tuple [af o,af f],[])):G6 g a K=K ((o,()),(f,()),()):=wX e rfl
theorem mQ {K:RS.F (.tl true 1) R} (e:SS.CC g a []=some (.sl true 1 t,[])):G7 g a K=K t:=wX e rfl
variable {c0:Sh.V iL}
theorem bV {K:RS.F (.t []) (dA [.c iL])} (e:SS.CC g a h=d_ [aG c0]):aY g a h K=K () c0:=dH e rfl
variable {e:Sh.V aC}
theorem aGI {K:RS.F (.z (.pt 0 0)) (dA [.c aC])} (b:SS.CC g a h=some (ag,[aA e])):H14 g a h K=K e:=dH b rfl
theorem bW {K:RS.F (.t []) (dA [.c aC])} (b:SS.CC g a h=d_ [aA e]):bJ g a h K=K () e:=dH b rfl
theorem Lj {K:RS.F (.t [(false,[.I .i64]),(false,[.I .i64]),(false,[.I .i64])]) (dA [.c aC])} (b:SS.CC g a h=some (.tuple [af o,af f,af i],[aA e])):P9 g a h K=K ((o,()),(f,()),(i,()),()) e:=dH b rfl
theorem aGJ {b:Sh.V PR} {K:RS.F (.ti .i64) (dA [.c PR])} (e:SS.CC g a h=some (af o,[nP b])):H19 g a h K=K o b:=dH e rfl
theorem eP {d:Sh.V mg} {K:RS.F (.g mg) (dA [.c aC])} (b:SS.CC g a h=some (qj d,[aA e])):fJ g a h K=K d e:=dH b rfl
theorem lF {s1:fQ} {K:RS.F (.ts) (dA [.c aC])} (b:SS.CC g a h=some (.str s1,[aA e])):kN g a h K=K s1 e:=dH b rfl
theorem bQ {K:RS.F (.tb) (dA [.c aC])} (b:SS.CC g a h=some (.bool j,[aA e])):bP g a h K=K j e:=dH b rfl
theorem aZR {b:Sh.V wS} {K:RS.F (.tb) (dA [.c wS])} (e:SS.CC g a h=some (.bool j,[jg b])):zo g a h K=K j b:=dH e rfl
theorem pM {K:RS.F (.t []) (dA [.z jQ,.c iL])} (e:SS.CC g a h=d_ [some [.ptr 1 0],aG c0]):gB g a h K=K () c0:=dH e rfl
theorem aZV {K:RS.F (.t []) (dA [.a])} (e:SS.CC g a h=d_ [some t]):H53 g a h K=K () t:=dH e rfl
theorem PH {K:RS.F (.ti .i64) (dA [.c aC])} (b:SS.CC g a h=some (af o,[aA e])):ES g a h K=K o e:=dH b rfl
set_option maxRecDepth 1000000
section
theorem b56 (a0:fQ):SS.CC 15 [.str a0] []=Xw 59 [.str a0] fun a=>some (ag,[aA (a.1.1,a.2.1.1,a.2.2.1.1,a.2.2.2.1.1,())]):=cc
theorem b58 (a:Sh.V aC):SS.CC 23 [ag] [aA a]=aB (a.2.2.2.1==0) (some (.tuple [af 0,af 0,af 0],[aA a])) (some (.tuple [af a.2.1,af a.2.2.1,af a.2.2.2.1],[aA a])):=cc
theorem b6A (a1:fQ) (a:Sh.V aC):SS.CC 16 [ag,.str a1] [aA a]=bP 62 [ag,.str a1] [aA a] fun c b=>aB (!c) (bJ 21 [ag,af 14] [aA b] fun _ u8=>d_ [aA u8]) (d_ [aA b]):=cc
theorem b6B (c:Sh.V aC):SS.CC 17 [ag] [aA c]=fJ 19 [ag] [aA c] fun e d=>aB (e.1 != 1) (bJ 21 [ag,af 14] [aA d] fun _ a=>some (c5V [],[aA a])) (fJ 63 [ag] [aA d] fun f b=>some (.str f.2.1,[aA b])):=cc
theorem b6D (a:Sh.V aC):SS.CC 19 [ag] [aA a]=aB (a.2.2.2.1 != 0) (some (qj (4,⟨#[]⟩,0,a.2.1,a.2.2.1,()),[aA a])) (ak mg a.1 0 fun b=>some (qj b,[aA a])):=cc
theorem b6E (a1:Int) (a:Sh.V aC):SS.CC 21 [ag,af a1] [aA a]=gQ fun c=>aB (a.2.2.2.1 != 0) (d_ [aA a]) (aB (a1==0) (d_ [aA a]) (fJ 19 [ag] [aA a] fun b d=>c 1 (d_ [aA (d.1,b.2.2.2.1,b.2.2.2.2.1,a1,())]))):=pR cc
theorem bBE (a1:fQ) (c:Sh.V aC):SS.CC 62 [ag,.str a1] [aA c]=bP 144 [ag,.str a1] [aA c] fun a d=>aB a (fJ 63 [ag] [aA d] fun u8 b=>some (.bool a,[aA b])) (some (.bool a,[aA d])):=cc
theorem bCI (c:Sh.V aC):SS.CC 63 [ag] [aA c]=fJ 19 [ag] [aA c] fun b a=>aB (a.2.2.2.1==0) (aB (b.1 != 4) (b_ (decide (0<=1)&&decide (1<=(a.1.length:Int))) (some (qj b,[aA ((a.1.drop (1:Int).toNat),a.2.1,a.2.2.1,a.2.2.2.1,())]))) (some (qj b,[aA a]))) (some (qj b,[aA a])):=cc
theorem bE6 (a1:fQ) (c:Sh.V aC):SS.CC 144 [ag,.str a1] [aA c]=fJ 19 [ag] [aA c] fun a b=>aB (a.1==1) (some (.bool (a.2.1.toList==a1.toList),[aA b])) (aB (a.1==3) (some (.bool (a.2.1.toList==a1.toList),[aA b])) (some (.bool false,[aA b]))):=cc
def bF':KT:=SS.rK Tryz.f164 164 1 []
def VE (a b:Int) (c:Sh.V aC) (d:Int):R:=bC (SS.xX 164 47 1) (cS Tryz.f164 15) bF' ⟨[(0,ag),(1,af a),(2,af b),(7,af d)],[aA c]⟩
theorem bFZ (g h:Int) (i:Sh.V aC) (a:Int):VE g h i a=fJ 19 [ag] [aA i] fun b c=>aB (b.1 != 2) (bJ 21 [ag,af 14] [aA c] fun _ d=>some (af 0,[aA d])) (aB (decide ((i64.wrap (a*b.2.2.1))<g)) (bJ 21 [ag,af 2] [aA c] fun _ j=>some (af 0,[aA j])) (aB (decide (h<(i64.wrap (a*b.2.2.1)))) (bJ 21 [ag,af 2] [aA c] fun _ e=>some (af 0,[aA e])) (fJ 63 [ag] [aA c] fun l f=>some (af (i64.wrap (a*b.2.2.1)),[aA f])))):=by kernel_rfl
theorem bG0 (a1 a2:Int) (b:Sh.V aC):SS.CC 164 [ag,af a1,af a2] [aA b]=fJ 19 [ag] [aA b] fun c a=>aB (c.1==3) (aB (c.2.1.toList==(⟨#[45]⟩:fQ).toList) (fJ 63 [ag] [aA a] fun d e=>VE a1 a2 e (-1)) (VE a1 a2 a 1)) (VE a1 a2 a 1):=cc
end
structure RA where
 toks:List Tok
 line:Int
 sN:Int
 e:Int
abbrev tk (t:Tok):Sh.V mg:=(t.kind,bs t.text,t.value,t.line,t.sN,())
abbrev RA.v (A:RA):Sh.V aC:=(A.toks.map bI,A.line,A.sN,A.e,())
def U5 (t:Tok):Prop:=(t.kind=1/\t.text∉kM)\/(t.kind=2/\0<=t.value/\t.value<=65536)\/(t.kind=3/\t.text∈kM)
def Lt:List Tok->Prop
 | []=>False
 | t::l=>(t.kind=4/\l = [])\/(U5 t/\Lt l)
def RA.ok (A:RA):Prop:=A.e=0->Lt A.toks
def RA.aIT (A:RA):Tok:=⟨4,[],0,A.line,A.sN⟩
def RA.pk (A:RA):Tok:=if A.e=0 then A.toks.headD A.aIT else A.aIT
variable {b:RA}
theorem RA.ok.ne (h:b.ok) (he:b.e=0):∃ t tl,b.toks=t::tl:=by
 have:=h he;match a:b.toks with
 | []=>rw[a] at this; exact this.elim
 | t::tl=>simp
theorem Ei (h:o=0):(o != 0)=false:=by simp[h]
theorem UH (h:o≠0):(o != 0)=true:=by simp[h]
theorem a_T (h:o≠0):(o==0)=false:=by simp[h]
theorem iW (h:b.ok):SS.CC 19 [ag] [aA b.v]=some (qj (tk b.pk),[aA b.v]):=by
 rw[b6D];dsimp only;unfold RA.pk;by_cases he:b.e=0
 .obtain ⟨t,tl,a⟩:=h.ne he;rw[Ei he,ah he,a]; rfl
 .rw[UH he,aV he]; rfl
theorem Xi (he:b.e≠0):b.pk.kind=4:=by unfold RA.pk; rw[aV he]; rfl
def RA.next (A:RA):RA:=if A.e=0/\A.pk.kind≠4 then { A with toks:=A.toks.drop 1 } else A
theorem next (h:b.ok):SS.CC 63 [ag] [aA b.v]=some (qj (tk b.pk),[aA b.next.v]):=by
 rw[bCI,eP (iW h)];unfold RA.next;by_cases he:b.e=0
 .obtain ⟨t,tl,a⟩:=h.ne he;grind [aF,aI,aQ]
 grind [aF]
theorem RA.ok.next (h:b.ok):b.next.ok:=by
 unfold RA.next;split
 .rename_i c;intro he;obtain ⟨t,tl,a⟩:=h.ne c.1;have d:=h c.1;grind [RA.pk,Lt]
 .exact h
def RA.is (A:RA) (x:f_):Bool:=(A.pk.kind==1||A.pk.kind==3)&&A.pk.text==x
theorem sU (h:b.ok) (a:fQ):SS.CC 144 [ag,.str a] [aA b.v]=some (.bool (b.is a.data.toList),[aA b.v]):=by rw[bE6,eP (iW h)];rw[DJ,LH a];unfold RA.is;cases b.pk.kind==1<;>cases b.pk.kind==3<;>rfl
def RA.take (A:RA) (x:f_):RA:=bif A.is x then A.next else A
theorem jH (h:b.ok) (a:fQ):SS.CC 62 [ag,.str a] [aA b.v]=some (.bool (b.is a.data.toList),[aA (b.take a.data.toList).v]):=by
 rw[bBE,bQ (sU h a)];unfold RA.take;cases b.is a.data.toList with
 | true=>rw[eP (next h)]; rfl
 | false=>rfl
theorem RA.ok.take {A:RA} (h:A.ok) (x:f_):(A.take x).ok:=by
 unfold RA.take;cases A.is x with
 | true=>exact h.next
 | false=>exact h
def RA.fail (A:RA) (n:Int):RA:=if A.e=0/\n≠0 then { A with line:=A.pk.line,sN:=A.pk.sN,e:=n } else A
theorem lG (h:b.ok) (n:Int):SS.CC 21 [ag,af n] [aA b.v]=d_ [aA (b.fail n).v]:=by
 rw[b6E];dsimp only[gQ];unfold RA.fail;by_cases he:b.e=0
 .rw[Ei he,aF];by_cases a:n=0;simp_all
  .rw[a_T a,aF,eP (iW h),ah ⟨he,a⟩]
 grind [aI]
theorem qM (a:o≠0):(b.fail o).e≠0:=by grind [RA.fail]
theorem aUL (h:b.e≠0):b.ok:=fun e=>absurd e h
theorem RA.ok.fail (h:b.ok) (n:Int):(b.fail n).ok:=by grind [RA.fail,aUL]
theorem aBN (h:b.e≠0):b.next=b:=by grind [RA.next]
theorem a7' (h:b.e≠0) (n:Int):b.fail n=b:=by grind [RA.fail]
theorem aA7 (h:b.e≠0) (x:f_):b.is x=false:=by grind [RA.is,Xi]
theorem b'H (h:b.e≠0) (x:f_):b.take x=b:=by grind [RA.take,aA7]
def RA.exp (A:RA) (x:f_):RA:=bif A.is x then A.next else A.fail 14
theorem eY (h:b.ok) (a:fQ):SS.CC 16 [ag,.str a] [aA b.v]=d_ [aA (b.exp a.data.toList).v]:=by
 rw[b6A,bQ (jH h a)];unfold RA.take RA.exp;cases b.is a.data.toList with
 | true=>rfl
 | false=>rw[yV,bW (lG h 14)]; rfl
theorem RA.ok.exp (h:b.ok) (x:f_):(b.exp x).ok:=by
 unfold RA.exp;cases b.is x with
 | true=>exact h.next
 | false=>exact h.fail 14
def RA.name (A:RA):RA:=if A.pk.kind=1 then A.next else A.fail 14
def RA.gz (A:RA):f_:=if A.pk.kind=1 then A.pk.text else []
theorem lJ (h:b.ok):SS.CC 17 [ag] [aA b.v]=some (.str (bs b.gz),[aA b.name.v]):=by
 rw[b6B,eP (iW h)];unfold RA.name RA.gz;by_cases hk:b.pk.kind=1
 .rw[show (b.pk.kind != 1)=false by simp[hk],aF,eP (next h),ah hk,ah hk]
 .rw[show (b.pk.kind != 1)=true by simp[hk],bW (lG h 14),aV hk,aV hk]; rfl
theorem RA.ok.name (h:b.ok):b.name.ok:=by
 unfold RA.name; split
 .exact h.next
 .exact h.fail 14
def RA.num (A:RA) (a b c:Int):RA:=if A.pk.kind=2 then (if i64.wrap (a*A.pk.value)<b\/c<i64.wrap (a*A.pk.value) then A.fail 2 else A.next) else A.fail 14
def RA.Nh (A:RA) (a b c:Int):Int:=if A.pk.kind=2 then (if i64.wrap (a*A.pk.value)<b\/c<i64.wrap (a*A.pk.value) then 0 else i64.wrap (a*A.pk.value)) else 0
theorem aBR (h:b.ok) (a c d:Int):VE c d b.v a=some (af (b.Nh a c d),[aA (b.num a c d).v]):=by
 rw[bFZ,eP (iW h)];unfold RA.num RA.Nh;by_cases hk:b.pk.kind=2
 .rw[show (b.pk.kind != 2)=false by simp[hk],aF,ah hk,ah hk];by_cases e:i64.wrap (a*b.pk.value)<c
  .rw[aP e,aI,bW (lG h 2),ah (.inl e),ah (.inl e)]
  .rw[bG e,aF];by_cases f:d<i64.wrap (a*b.pk.value)
   .rw[aP f,aI,bW (lG h 2),ah (.inr f),ah (.inr f)]
   .have:¬ (i64.wrap (a*b.pk.value)<c\/d<i64.wrap (a*b.pk.value)):=by omega
    rw[bG f,aF,eP (next h),aV this,aV this]
 .rw[show (b.pk.kind != 2)=true by simp[hk],aI,bW (lG h 14),aV hk,aV hk]
theorem RA.ok.num (h:b.ok) (a c d:Int):(b.num a c d).ok:=by
 unfold RA.num; split
 .split
  .exact h.fail 2
  .exact h.next
 .exact h.fail 14
def RA.mi (A:RA):Bool:=A.pk.kind==3&&A.pk.text == [45]
def RA.int (A:RA) (a b:Int):RA:=bif A.mi then A.next.num (-1) a b else A.num 1 a b
def RA.DR (A:RA) (a b:Int):Int:=bif A.mi then A.next.Nh (-1) a b else A.Nh 1 a b
theorem Qk (h:b.ok) (a c:Int):SS.CC 164 [ag,af a,af c] [aA b.v]=some (af (b.DR a c),[aA (b.int a c).v]):=by
 rw[bG0,eP (iW h)];rw[DJ,LH ⟨#[45]⟩];unfold RA.int RA.DR RA.mi;cases b.pk.kind==3 with
 | false=>rw[aF,Xn,yV]; exact aBR h 1 a c
 | true =>
  rw[aI,LG];cases b.pk.text == [45] with
  | false=>rw[aF,yV]; exact aBR h 1 a c
  | true=>rw[aI,eP (next h)]; exact aBR h.next (-1) a c
theorem RA.ok.int (h:b.ok) (a c:Int):(b.int a c).ok:=by
 unfold RA.int;cases b.mi with
 | true=>exact h.next.num _ _ _
 | false=>exact h.num _ _ _
theorem MQ (A:RA):SS.CC 23 [ag] [aA A.v]=some (.tuple [af (if A.e=0 then 0 else A.line),af (if A.e=0 then 0 else A.sN),af A.e],[aA A.v]):=by rw[b58];grind [aI,aF]
theorem aUH:∀ {l:f_} {n m:Nat},rF l n=some m->n<=65536->m<=65536
 | [],n,m,h,a=>by grind [rF]
 | b::l,n,m,h,a=>by
  rw[rF] at h;split at h
  .cases h
  .exact aUH h (by omega)
variable {D:f_}
theorem bSK {b:UInt8} (h:kJ b.toNat=true):b::D∉kM:=by
 intro a;have:∀ x∈kM,∀ b D,x=b::D->kJ b.toNat=false:=by
  intro x c b D e;subst e;revert c
  simp only[kM,jr,yU,yX];rintro (⟨rfl,_⟩|⟨rfl,_⟩|⟨rfl,_⟩|⟨rfl,_⟩|⟨rfl,_⟩|⟨rfl,_⟩|⟨rfl,_⟩|⟨rfl,_⟩|⟨rfl,_⟩|⟨rfl,_⟩|⟨rfl,_⟩|⟨rfl,_⟩|⟨rfl,_⟩|⟨rfl,_⟩|⟨rfl,_⟩|⟨rfl,_⟩|⟨rfl,_⟩|⟨rfl,_⟩|⟨rfl,_⟩|⟨rfl,_⟩|⟨rfl,_⟩|⟨rfl,_⟩|⟨rfl,_⟩|⟨rfl,_⟩|⟨rfl,_⟩|⟨rfl,_⟩)<;>decide
 rw[this _ a b D rfl] at h;cases h
theorem bXP (h:(dh D).2=0) (a e:Int):U5 ((dh D).1.at a e):=by
 unfold dh at h ⊢;match D,h with
 | [],h=>exact absurd h (by decide)
 | b::r,h =>
  dsimp only at h ⊢;cases d:gm b.toNat with
  | true =>
   rw[d,ah rfl] at h;unfold Be at h ⊢;split at h
   .cases h
   .rename_i f;rw[aV f];split at h
    .cases h
    .rename_i g;rw[aV g];split at h
     .cases h
     .rename_i n i;have o:=aUH i (by omega);exact .inr (.inl ⟨rfl,by show (0:Int)<=(n:Int); omega,by show (n:Int)<=65536; omega⟩)
  | false =>
   rw[d] at h;simp only[TA,if_false] at h ⊢;cases j:kJ b.toNat with
   | true =>
    rw[j] at h;simp only[CQ] at h ⊢;unfold CB at h ⊢;split at h
    .cases h
    .rename_i c;rw[aV c];refine .inl ⟨rfl,?_⟩;show dJ jB (b::r)∉kM;grind [dJ,List.takeWhile_cons,jB,bSK]
   | false =>
    unfold EH at h ⊢;cases m:Fv (b::r) with
    | none=>simp_all
    | some x=>exact .inr (.inr ⟨rfl,(a5F m).1⟩)
theorem aY9:∀ {a b:List Tok},(∀ t,t∈a->U5 t)->Lt b->Lt (a ++ b)
 | [],_,_,h=>h
 | t::a,b,c,h => .inr ⟨c t (by simp),aY9 (fun x d=>c x (by simp[d])) h⟩
theorem y_:∀ (f:Nat) (a:f_) (i b start:Nat) (dC e:List Tok),(∀ t,t∈dC->U5 t)->tJ f a i b start dC = .ok e->Lt e
 | 0,_,_,_,_,_,_,_,h=>by cases h
 | f+1,a,i,b,start,dC,e,g,h=>by
  rw[tJ] at h;split at h
  .injection h with h
   rw[<- h];exact aY9 g (.inl ⟨rfl,rfl⟩)
  .split at h
   .rename_i c;refine y_ f _ _ _ _ _ e (fun t d => ?_) h;rcases LK.1 d with d | d
    .exact g t d
    .simp only[TE] at d;rw[d];exact bXP c _ _
   .cases h
theorem bZ9 {a:List Tok} (h:uV D = .ok a):Lt a:=by grind [uV,y_]
def yC (l:f_):RA:=match uV l with | .ok c=>⟨c,0,0,0⟩ | .err a b e=>⟨[],a,b,e⟩
theorem aU3 (l:f_):SS.CC 15 [.str (bs l)] []=some (ag,[aA (yC l).v]):=by
 have c:SS.CC 59 [.str (bs l)] []=some (Fh (uV l),[]):=by rw[LZ fD]; rfl
 rw[b56];unfold yC;cases d:uV l with
 | ok f=>rw[d] at c; exact (Xx (show SS.CC 59 [.str (bs l)] []=some (.tuple [.sl false 5 (f.map bI),af 0,af 0,af 0],[]) from c)).trans rfl
 | err a b e=>rw[d] at c; exact (Xx (show SS.CC 59 [.str (bs l)] []=some (.tuple [.sl false 5 [],af a,af b,af e],[]) from c)).trans rfl
theorem aWV:∀ (f:Nat) (d:f_) (i e start:Nat) (dC:List Tok) (a b:Int),d.length<f->tJ f d i e start dC ≠ .err a b 0
 | 0,d,_,_,_,_,_,_,g=>by omega
 | f+1,d,i,e,start,dC,a,b,g=>by
  rw[tJ];split
  .intro h; cases h
  .rename_i j r l;have m:(d.drop (jF false d)).length=(j::r).length:=by rw[l]
   rw[xR] at m;split
   .rename_i c;have:=Ny c;exact aWV f _ _ _ _ _ _ _ (by rw[xR]; omega)
   .rename_i c;intro h; injection h with _ _ h; exact c h
theorem bTV (l:f_):(yC l).ok:=by
 unfold yC;cases c:uV l with
 | ok d=>exact fun _=>bZ9 c
 | err a b e =>grind [aUL,uV,aWV]
section
def bE3:KT:=SS.rK Tryz.f213 213 1 [0]
def bE4:KT:=aW 0 bE3
def a00 (a:ai) (b c:Int):R:=SS.LL (SS.ae 213 28) 1 [0,2,3] 1 (cS Tryz.f213 9) bE4 ⟨[(0,.slh 0 0 2 4),(2,af b),(3,af c)],[some a]⟩
theorem aM6 (b:ai) (c a:Int):a00 b c a=b_ (b.all nT&&true) (aB (decide (c<a)) (b_ (b.all nT&&true) (b_ (decide (0<=a)&&decide (a<2)) (b_ (decide ((0+a.toNat*4)+4<=b.length)) (BR S1 (.agg (((b.drop (0+a.toNat*4)).take 4).map PV.un)) fun e=>b_ (decide (0<=c)&&decide (c<2)) (b_ (decide ((0+c.toNat*4)+4<=b.length)) (BR S1 (.agg (((b.drop (0+c.toNat*4)).take 4).map PV.un)) fun d=>b_ (decide (0<=c)&&decide (c<2)) (b_ (decide ((0+c.toNat*4)+4<=b.length)) (b_ (decide (0<=a)&&decide (a<2)) ((fun w=>b_ (decide ((0+a.toNat*4)+4<=w.length)) (b_ ((w.take (0+a.toNat*4) ++ (([af d.1,af d.2.1,af d.2.2.1,.sl false 4 d.2.2.2.1]:ai):ai) ++ w.drop ((0+a.toNat*4)+4)).all nT&&true) (a00 (w.take (0+a.toNat*4) ++ (([af d.1,af d.2.1,af d.2.2.1,.sl false 4 d.2.2.2.1]:ai):ai) ++ w.drop ((0+a.toNat*4)+4)) (i64.wrap (c+1)) (i64.wrap (a-1))))) (b.take (0+c.toNat*4) ++ (([af e.1,af e.2.1,af e.2.2.1,.sl false 4 e.2.2.2.1]:ai):ai) ++ b.drop ((0+c.toNat*4)+4))))))))))) (b_ (b.all nT&&true) (d_ [some b]))):=ll
theorem bE5 (a:ai):SS.CC 213 [.slh 0 0 2 4] [some a]=a00 a 0 1:=cc
def bI1:KT:=SS.rK Tryz.f240 240 2 []
def Vg (a:Int) (b:Sh.V Cj) (c:Sh.V aC):R:=bC (SS.xX 240 37 2) (cS Tryz.f240 15) bI1 ⟨[(0,ag),(5,af a)],[U0 b,aA c]⟩
theorem a9B (a:Int) (b:Sh.V Cj) (c:Sh.V aC):Vg a b c=kN 17 [ag] [aA c] fun s1 d=>some (af (if (0:Int)>a then (0:Int) else a),[U0 b,aA d]):=by kernel_rfl
theorem bI2 (a1:ai) (b:Sh.V Cj) (f:Sh.V aC):SS.CC 240 [ag,a_ a1] [U0 b,aA f]=fJ 19 [ag] [aA f] fun g h=>G1 242 [a_ a1,.str g.2.1] fun a=>fJ 19 [ag] [aA h] fun c d=>aB (c.1==1) (aB (decide (a<0)) (bJ 21 [ag,af 9] [aA d] fun _ e=>Vg a b e) (Vg a b d)) (Vg a b d):=cc
end
section
theorem bCG (a:Sh.V zu) (b:Sh.V aC):SS.CC 37 [ag] [GY a,aA b]=P9 23 [ag] [aA b] fun c d=>some (.bool (c.2.2.1.1 != 0),[GY a,aA d]):=cc
def bJ4:KT:=SS.rK Tryz.f261 261 2 []
def a1A (a:ai) (b:Sh.V zu) (c:Sh.V aC):R:=bC (SS.xX 261 33 2) (cS Tryz.f261 7) bJ4 ⟨[(0,ag),(1,a_ a)],[GY b,aA c]⟩
theorem a9G (a:ai) (b:Sh.V zu) (c:Sh.V aC):a1A a b c=kN 17 [ag] [aA c] fun s1 d=>G1 242 [a_ a,.str s1] fun e=>some (af e,[GY b,aA d]):=by kernel_rfl
theorem bJ5 (a1:ai) (a:Sh.V zu) (e:Sh.V aC):SS.CC 261 [ag,a_ a1] [GY a,aA e]=fJ 19 [ag] [aA e] fun f b=>aB (f.1==1) (G3 179 [a_ a1,.str f.2.1] fun c=>aB (!c) (bJ 21 [ag,af 9] [aA b] fun _ d=>a1A a1 a d) (a1A a1 a b)) (a1A a1 a b):=cc
def bJ6:KT:=SS.rK Tryz.f261 261 2 []
def Sm (a:ai) (b:Sh.V ay) (c:Sh.V aC):R:=bC (SS.xX 261 33 2) (cS Tryz.f261 7) bJ6 ⟨[(0,ag),(1,a_ a)],[aK b,aA c]⟩
theorem a9H (a:ai) (b:Sh.V ay) (c:Sh.V aC):Sm a b c=kN 17 [ag] [aA c] fun s1 d=>G1 242 [a_ a,.str s1] fun e=>some (af e,[aK b,aA d]):=by kernel_rfl
theorem bJ7 (a1:ai) (a:Sh.V ay) (e:Sh.V aC):SS.CC 261 [ag,a_ a1] [aK a,aA e]=fJ 19 [ag] [aA e] fun f b=>aB (f.1==1) (G3 179 [a_ a1,.str f.2.1] fun c=>aB (!c) (bJ 21 [ag,af 9] [aA b] fun _ d=>Sm a1 a d) (Sm a1 a b)) (Sm a1 a b):=cc
theorem b5Y (a0:Int):SS.CC 274 [af a0] []=aB (a0==2) (some (c5V [43],[])) (aB (a0==3) (some (c5V [45],[])) (aB (a0==4) (some (c5V [42],[])) (aB (a0==6) (some (c5V [61,61],[])) (aB (a0==7) (some (c5V [33,61],[])) (aB (a0==8) (some (c5V [60],[])) (aB (a0==9) (some (c5V [60,61],[])) (aB (a0==11) (some (c5V [38,38],[])) (some (c5V [124,124],[]))))))))):=cc
end
section
theorem bD3 (a0 a1:Sh.V S1):SS.CC 41 [A1 a0,A1 a1] []=aB (a0.1==a1.1) (aB (a0.2.1==a1.2.1) (aB (a0.2.2.1==a1.2.2.1) (G3 153 [.sl false 4 a0.2.2.2.1,.sl false 4 a1.2.2.2.1,h_ 41] fun a=>some (.bool a,[])) l7) l7) l7:=cc
theorem bEG (a0:ai) (a1:fQ):SS.CC 179 [a_ a0,.str a1] []=G1 242 [a_ a0,.str a1] fun a=>some (.bool (decide (0<=a)),[]):=cc
def b59:KT:=SS.rK Tryz.f153 153 0 []
def b5A:KT:=SS.jK 153 32 0 (cS Tryz.f153 15) b59
def b5B:KT:=aW 0 b5A
def ZN (c a:ai) (b:Int):R:=SS.LL (SS.ae 153 32) 0 [1,2,15,16,17] 0 (cS Tryz.f153 75) b5B ⟨[(1,.sl false 4 c),(2,h_ 41),(15,.sl false 4 a),(16,af (a.length:Int)),(17,af b)],[]⟩
theorem aK8 (c b:ai) (a:Int):ZN c b a=aB (decide (a<(b.length:Int))) (ak S1 b a fun e=>ak S1 c a fun f=>G3 41 [A1 e,A1 f] fun d=>aB (!d) l7 (ZN c b (i64.wrap (a+1)))) vG:=ll
theorem b5C (a0 a1:ai):SS.CC 153 [.sl false 4 a0,.sl false 4 a1,h_ 41] []=aB ((a0.length:Int) !=(a1.length:Int)) l7 (ZN a1 a0 0):=cc
def b5D:KT:=SS.rK Tryz.f242 242 0 []
def b5E:KT:=SS.jK 242 19 0 (cS Tryz.f242 7) b5D
def b5F:KT:=aW 0 b5E
def ZO (a:ai) (b:fQ) (c:Int):R:=SS.LL (SS.ae 242 19) 0 [0,1,7,8] 0 (cS Tryz.f242 37) b5F ⟨[(0,a_ a),(1,.str b),(7,af (a.length:Int)),(8,af c)],[]⟩
theorem aK9 (b:ai) (c:fQ) (a:Int):ZO b c a=aB (decide (a<(b.length:Int))) (di b a fun d=>vS d fun e=>aB (c.toList==e.toList) (some (af a,[])) (ZO b c (i64.wrap (a+1)))) (some (af (-1),[])):=ll
theorem b5G (a0:ai) (a1:fQ):SS.CC 242 [a_ a0,.str a1] []=ZO a0 a1 0:=cc
theorem b5W:SS.CC 137 [] []=some (A1 (6,0,0,[A1 (0,0,0,[],()),A1 (0,0,0,[],())],()),[]):=cc
theorem b5X:SS.CC 138 [] []=some (A1 (7,0,0,[A1 (0,0,0,[],()),A1 (0,0,0,[],())],()),[]):=cc
end
inductive EX where
 | node (op val idx:Int) (args:List EX)
theorem EX.ind {P:EX->Prop} (h:∀ o x i l,(∀ e,e∈l->P e)->P (.node o x i l)):∀ e,P e :=fun e=>EX.rec (motive_1:=P) (motive_2:=fun l=>∀ e,e∈l->P e) (fun o x i l b=>h o x i l b) (by simp) (fun a l c d e he=>by grind) e
inductive EX.Fit:EX->Prop
 | mk {o v i:Int} {l:List EX}:l.length<=3->(∀ e,e∈l->EX.Fit e)->EX.Fit (.node o v i l)
inductive EX.Len:EX->Prop
 | mk {o v i:Int} {l:List EX}:l.length<=70368744177664->(-9223372036854775808<=v/\v<=9223372036854775807)->(-9223372036854775808<=o/\o<=9223372036854775807)->(-9223372036854775808<=i/\i<=9223372036854775807)->(∀ e,e∈l->EX.Len e)->EX.Len (.node o v i l)
theorem Ew:(EX.node o f i []).Fit := .mk (by decide) (by simp)
variable {y:EX}
theorem aJT (h:y.Fit):(EX.node o f i [y]).Fit := .mk (by simp) (by grind)
variable {p:EX}
theorem Gv (h:y.Fit) (c:p.Fit):(EX.node o f i [y,p]).Fit := .mk (by simp) (by simp[h,c])
theorem b4M {c:EX} (h:y.Fit) (d:p.Fit) (e:c.Fit):(EX.node o f i [y,p,c]).Fit := .mk (by simp) (by simp_all)
mutual
def ev:EX->Sh.V S1
 | .node o x i l=>(o,x,i,qx l,())
def qx:List EX->ai
 | [] => []
 | e::l=>A1 (ev e)::qx l
end
theorem a7T:∀ l:List EX,qx l=l.map fun e=>A1 (ev e)
 | []=>rfl
 | e::l=>by rw[qx,a7T l]; rfl
theorem lW (o x i:Int) (l:List EX):ev (.node o x i l)=(o,x,i,qx l,()):=by rw[ev]
abbrev nY (o:Int) (a:EX):EX := .node o 0 0 [a]
abbrev jU (o:Int) (a b:EX):EX := .node o 0 0 [a,b]
theorem ev1 (o:Int) (a:EX):ev (nY o a)=(o,0,0,[A1 (ev a)],()):=by rw[ev]; rfl
theorem vU (o:Int) (a b:EX):ev (jU o a b)=(o,0,0,[A1 (ev a),A1 (ev b)],()):=by rw[ev]; rfl
theorem ev3 (o:Int) (a b c:EX):ev (.node o 0 0 [a,b,c])=(o,0,0,[A1 (ev a),A1 (ev b),A1 (ev c)],()):=by rw[ev]; rfl
def zE:EX := .node 0 0 0 []
def nE (n:Int):EX := .node 0 n 0 []
def vE (n:Int):EX := .node 1 0 n []
def tE:EX := .node 6 0 0 [zE,zE]
def fE:EX := .node 7 0 0 [zE,zE]
theorem MR (n:Int):ev (nE n)=(0,n,0,[],()):=rfl
theorem aJ0 (n:Int):ev (vE n)=(1,0,n,[],()):=rfl
theorem kF:SS.CC 137 [] []=some (A1 (ev tE),[]):=b5W
theorem kY:SS.CC 138 [] []=some (A1 (ev fE),[]):=b5X
def dD (l:List fQ):ai:=l.map .str
def kK (s:fQ):List fQ->Nat->Int
 | [],_ => -1
 | x::l,k=>if s=x then (k:Int) else kK s l (k+1)
theorem a_U (s x:fQ):(s.toList==x.toList)=decide (s=x):=by
 rw[LH,LH];by_cases h:s=x
 .simp[h]
 .have:s.data≠x.data:=fun e=>h (ByteArray.ext e)
  rw[bG h];simp_all
theorem aQ2 (all:List fQ) (a:all.length<1000000000000) (s:fQ):∀ (l:List fQ) (k:Nat),all.drop k=l->k<=all.length->ZO (dD all) s (k:Int)=some (af (kK s l k),[])
 | [],k,h,hk=>by have:all.length<=k:=Oj.1 h;rw[aK9,bG (by grind [dD]),aF]; rfl
 | x::l,k,h,hk=>by
  have b:k<all.length:=by
   rcases zk k all.length with h' | h'
   .exact h'
   .rw[Ik h'] at h; cases h
  have c:all[k]? = some x:=by have:=congrArg (fun l=>l[0]?) h;simpa using this
  rw[aK9,aP (by unfold dD; rw[bM]; omega),aI,nD (e := .str x) (by omega) (by unfold dD; rw[qf,lN,c]; rfl),kG,a_U];rw[kK];by_cases e:s=x
  .rw[aP e,aI,ah e]
  .rw[bG e,aF,aV e,wrap64 (by omega) (by omega),show ((k:Int)+1)=((k+1:Nat):Int) by omega];exact aQ2 all a s l (k+1) (by rw[<- Oi,h]; rfl) (by omega)
theorem He (l:List fQ) (a:l.length<1000000000000) (s:fQ):SS.CC 242 [a_ (dD l),.str s] []=some (af (kK s l 0),[]):=by rw[b5G]; exact aQ2 l a s l 0 rfl (Io _)
theorem D7 (l:List fQ) (a:l.length<1000000000000) (s:fQ):SS.CC 179 [a_ (dD l),.str s] []=some (.bool (decide (0<=kK s l 0)),[]):=by rw[bEG,bu (He l a s)]
def iK (x:f_):Int×Int×Bool :=
 if x = [124,124] then (1,12,false) else if x = [38,38] then (2,11,false) else if x = [61,61] then (3,6,false) else if x = [33,61] then (3,7,false)
 else if x = [60] then (3,8,false) else if x = [60,61] then (3,9,false) else if x = [62] then (3,8,true) else if x = [62,61] then (3,9,true)
 else if x = [43] then (4,2,false) else if x = [45] then (4,3,false) else if x = [42] then (5,4,false) else (0,0,false)
theorem aCF (h:b.ok):U5 b.pk\/b.pk.kind=4:=by
 by_cases he:b.e=0
 .obtain ⟨t,tl,c⟩:=h.ne he;have a:=h he;have d:b.pk=t:=by grind [RA.pk]
  rw[d]; rw[c] at a;rcases a with ⟨a,_⟩ | a
  omega;simp_all
 .exact .inr (Xi he)
theorem Jy (h:b.ok) (c:b.pk.kind=3):b.pk.text∈kM:=by
 rcases aCF h with (⟨a,_⟩|⟨a,_⟩|⟨_,a⟩) | a
 .omega
 .omega
 .exact a
 .omega
theorem a2H (h:b.ok) (c:D∈kM):b.is D=(b.pk.kind==3&&b.pk.text==D):=by
 unfold RA.is;by_cases d:b.pk.kind=1
 .have e:b.pk.text≠D:=by
   rcases aCF h with (⟨_,a⟩|⟨a,_⟩|⟨a,_⟩) | a
   grind
   all_goals omega
  rw[show (b.pk.text==D)=false by grind,Bool.and_false,Bool.and_false]
 grind
def RA.yE (A:RA) (a:Int):Bool:=A.pk.kind==3&&(iK A.pk.text).1==a
theorem opm:∀ x,x∈kM->∀ (a:Int) (K:Int->Int->Bool->R) (N:R),Jj none [c5V [33,61],ql (3,7,false,()),c5V [38,38],ql (2,11,false,()),c5V [42],ql (5,4,false,()),c5V [43],ql (4,2,false,()),c5V [45],ql (4,3,false,()),c5V [60],ql (3,8,false,()),c5V [60,61],ql (3,9,false,()),c5V [61,61],ql (3,6,false,()),c5V [62],ql (3,8,true,()),c5V [62,61],ql (3,9,true,()),c5V [124,124],ql (1,12,false,())] (.str (bs x)) (fun e=>BR Y6 e fun u=>K u.1 u.2.1 u.2.2.1) N=if (iK x).1=0 then N else K (iK x).1 (iK x).2.1 (iK x).2.2:=by
 intro x b a K N;revert b
 simp only[kM,jr,yU,yX];rintro (rfl|rfl|rfl|rfl|rfl|rfl|rfl|rfl|rfl|rfl|rfl|rfl|rfl|rfl|rfl|rfl|rfl|rfl|rfl|rfl|rfl|rfl|rfl|rfl|rfl|rfl)<;>kernel_rfl
end Go.Proofs.YtagkcbgkhgccmaaGreatDoor.W
namespace Go.Proofs.YtagkcbgkhgccmaaGreatDoor
open Go.RowKit Go.ChangeShapes Go.WideShapes Go.ChangeAt
set_option maxRecDepth 100000
theorem bUO:ownKnob Tryz.prog.godebug=none:=by kernel_rfl
theorem bRH:laidOutB Tryz.prog=true:=by kernel_rfl
theorem bTO:Tryz.prog.follows .mixedOrders=true:=by kernel_rfl
variable {g:FuncId} {S:PV}
theorem b43 {args:List PV} (h:W.SS.CC g args []=lm S):Ev Tryz.prog g args [] S [] :=Ox bTO W.fD aZC g args [] S [] h
variable {c1:Mem} {c2:aS}
theorem bXZ:au c1 c2 [] []:=fA.2 rfl
variable {b2:List PV}
theorem bX' {u:Value} {a:List Value} (h:eU c1 c2 S u) (b:au c1 c2 b2 a):au c1 c2 (S::b2) (u::a):=dO.2 ⟨u,a,rfl,h,b⟩
def b2M:List TypeId := [3,5,9,38,36,41]
theorem b2N:a7M Tryz.prog b2M=true:=by kernel_rfl
theorem agS:JB Tryz.prog 9=false:=by kernel_rfl
variable {n:Nat}
theorem bZD (h:yh Tryz.prog n 9 b2):∃ s:ByteArray,b2 = [.str s]/\s.size<=reachBytes:=by
 cases n with
 | zero=>exact h.elim
 | succ n =>simp only[yh,Tryz.underlying9] at h;exact h
theorem bZE (h:yh Tryz.prog n 9 b2):∃ s:ByteArray,Gq Tryz.prog 9 b2 = .str s/\s.size<=reachBytes:=by obtain ⟨s,rfl,a⟩:=bZD h;exact ⟨s,by simp[Gq,agS],a⟩
def aSV:DataW Unit->List Value
 | .lit (.int k n) => [Value.int k n]
 | _ => []
def bSR:DataW Unit->List Value
 | .agg l=>l.flatMap aSV
 | d=>aSV d
def bSQ:DataW Unit->Array Value
 | .agg l=>(l.flatMap bSR).toArray
 | _ => #[]
def aCJ (g:Nat) (d:DataW Unit) (h:Array Obj):Array Obj:=h.modify g fun
 | .cells _ t frozen => .cells (bSQ d) t frozen
 | o=>o
noncomputable def t_ (a:Os):World :={ World.holding Tryz.prog a ⟨#[],#[],[]⟩ with heap:=aCJ 2 Rows.laid_math_bits_deBruijn32tab (aCJ 3 Rows.laid_math_bits_deBruijn64tab (aCJ 1 Rows.laid_internal_strconv_uint64pow10 (World.holding Tryz.prog a ⟨#[],#[],[]⟩).heap)) }
theorem bXB {H:Type}:(Rows.laid_internal_strconv_uint64pow10:DataW H)=Lib.tabData .u64 Lib.pow10Tab:=by kernel_rfl
shelf_lay LaysM.n144 Nm 144 at Tryz as Tryz.laysM144
theorem bOP {W:World} {c:List (String×DataW Unit)} (d:laidMet Tryz.prog (("internal/strconv.uint64pow10",Rows.laid_internal_strconv_uint64pow10)::c) W) (l:W.ShapedOpen Tryz.prog):GW W:=by
 rw[bXB] at d;have p:=Lib.tabIs_of_head (g:=1) (t:=289) (e:=269) (n:=20) (by kernel_rfl) (by kernel_rfl) (by kernel_rfl) (by kernel_rfl) (by kernel_rfl) (by kernel_rfl) d;obtain ⟨m,h⟩:=Tryz.laysM144.s1_3 W l;have h:W.cell? ⟨0,0,none⟩=some (.int .i64 m):=by rw[show 0=Tryz.laysM144_ren.g 1 by kernel_rfl]; exact h
 refine ⟨m,fun b o v a => ?_⟩;unfold CW at a;have e:aEM m = [(0,[Value.int .i64 m]),(1,Lib.pow10Tab.map (Value.int .u64))]:=rfl;rw[e] at a;by_cases i:b=0
 .subst i;have a:([Value.int .i64 m]:List Value)[o]? = some v:=a;match o,a with
  | 0,a =>cases a;exact aFL.2 ⟨h,rfl⟩
  | o+1,a=>cases a
 .by_cases f:b=1
  .subst f;have a:(Lib.pow10Tab.map (Value.int .u64))[o]? = some v:=a;rw[lN] at a;obtain ⟨z,j,rfl⟩:=LU.1 a;have q:o<Lib.pow10Tab.length:=(iY.1 j).1;have f:=p.cell (g:=1) (by kernel_rfl) o q;refine aFL.2 ⟨?_,rfl⟩;rw[f,aFV,j]; rfl
  .have d:(b==0)=false:=by simpa using i
   have r:(b==1)=false:=by simpa using f
   simp[List.lookup,d,r] at a
theorem bQ4 {P:Program} {a:Func} {s:ChangeSpec} {c:OpenClaim}
 (b:(c.wf (OpenSpec.ofChange s)&&laidOutB P&&mapsRowed P&&a.params.all (P.readableRec ·)&&namedTie P c.named s.vars&&(c.stops == [])&&(P.stops == [])&&(c.knobs == [])&&(P.stopKnobs == []))=true)
 (d:(c.inPlace==P.inPlace g)=true) (e:(c.unfollowed==P.unfollowed g)=true) (h:(c.recurses==P.recurses g)=true) (i:(c.named==P.varsNamed g)=true)
 (h6:((c.maps==(a.params.toList ++ s.plain.varTypes P).any (P.mapsRec ·))&&(c.ifaces==(a.params.toList ++ s.plain.varTypes P).any (P.ifacesRec ·))&&(c.mapsOut==P.mapsAmong a.resultTypes.toList) &&
  (c.loops==(a.params.toList ++ s.plain.varTypes P).any (P.loopsFrom ·))&&(c.wideKeys==(a.params.toList ++ s.plain.varTypes P ++ a.resultTypes.toList).any (P.wideKeysFrom ·)) &&
  s.vars.all (P.varReadable ·)&&a.resultTypes.all (fun t=>P.readableRec t&&decide (t<P.types.size))&&(c.ifacesOut==a.resultTypes.toList.any (P.ifacesRec ·))&&(c.loopsOut==a.resultTypes.toList.any (P.loopsFrom ·))&&(c.plainKeys==P.plainKeys)&&c.shortTexts.isNone&&P.stopsHeard&&P.mayEnter&&(c.lifted==P.liftsFinal)&&(P.make==some c.make)&&(c.kinds==(if c.domain.isEmpty then [] else a.params.toList.map fun t=>match P.underlying t with | some (.int k)=>some k | _=>none))&&(c.pinned==c.pinnedBy) &&
  (c.veiled==(a.params.toList ++ s.plain.varTypes P ++ a.resultTypes.toList).any (P.veiledRec ·))&&c.veiledFits P a.params.toList (a.params.toList ++ s.plain.varTypes P ++ a.resultTypes.toList))=true):joinedFacts P g a s c=true:=by
 unfold joinedFacts;simp only[bH,and_assoc] at b h6 ⊢;exact ⟨b.1,b.2.1,b.2.2.1,b.2.2.2.1,b.2.2.2.2.1,b.2.2.2.2.2.1,b.2.2.2.2.2.2.1,b.2.2.2.2.2.2.2.1,b.2.2.2.2.2.2.2.2,d,e,h,i,h6⟩
end Go.Proofs.YtagkcbgkhgccmaaGreatDoor
namespace Go.Proofs.YtagkcbgkhgccmaaGreatDoor.W
open Go.RowKit
set_option maxRecDepth 1000000
def RA.N (A:RA):Nat:=if A.e=0 then A.toks.length else 0
variable {b:RA}
theorem Tz (h:b.e≠0):b.N=0:=by grind [RA.N]
structure Le (A A':RA):Prop where
 ok:A'.ok
 bad:A.e≠0->A'=A
 le:A'.N<=A.N
theorem Le.refl (h:b.ok):Le b b:=⟨h,fun _=>rfl,dG _⟩
variable {C:RA}
theorem Le.trans {a:RA} (h:Le b C) (k:Le C a):Le b a:=⟨k.ok,fun e=>by have c:=h.bad e;rw[c] at k;exact k.bad e,lD k.le h.le⟩
theorem Le.e0 (h:Le b C) (e:C.e=0):b.e=0:=by
 by_cases c:b.e=0
 .exact c
 .rw[h.bad c] at e; omega
theorem FH (hk:b.pk.kind≠4):b.e=0:=by grind [Xi]
theorem jY {A:RA} (h:A.ok) (hk:A.pk.kind≠4):A.next.e=0/\A.next.N<A.N:=by have he:=FH hk;obtain ⟨t,tl,a⟩:=h.ne he;grind [RA.next,RA.N]
theorem Le.next (h:b.ok):Le b b.next:=⟨h.next,fun e=>aBN e,by grind [RA.next,jY]⟩
variable {o:Int}
theorem Le.fail (h:b.ok) (a:o≠0):Le b (b.fail o):=⟨h.fail o,fun e=>a7' e o,by rw[Tz (qM a)]; omega⟩
theorem Le.exp (h:b.ok) (x:f_):Le b (b.exp x):=by
 unfold RA.exp;cases b.is x with
 | true=>exact .next h
 | false=>exact .fail h (by decide)
theorem Le.take {A:RA} (h:A.ok) (x:f_):Le A (A.take x):=by
 unfold RA.take;cases A.is x with
 | true=>exact .next h
 | false=>exact .refl h
theorem Le.name (h:b.ok):Le b b.name:=by
 unfold RA.name;split
 .exact .next h
 .exact .fail h (by decide)
variable {D:f_}
theorem kD (h:b.is D=true):b.pk.kind≠4:=by grind [RA.is]
theorem qC (h:b.is D=true):b.take D=b.next:=by grind [RA.take]
theorem lZ (h:b.is D=false):b.take D=b:=by grind [RA.take]
theorem aQL (h:b.ok) {x:f_} (a:x∈kM) (c:b.is x=true):b.pk.kind=3/\b.pk.text=x:=by rw[a2H h a,bH] at c;simp_all
theorem Qo (h:b.ok) {x:f_} (a:x∉kM):b.is x=(b.pk.kind==1&&b.pk.text==x):=by grind [RA.is,Jy]
def RA.kp (A:RA) (l:List fQ):RA:=if A.pk.kind=1/\kK (bs A.pk.text) l 0<0 then A.fail 9 else A
def RA.kn (A:RA) (l:List fQ):RA:=(A.kp l).name
def RA.wz (A:RA) (l:List fQ):Int:=if (0:Int)>kK (bs A.pk.text) l 0 then 0 else kK (bs A.pk.text) l 0
variable {K:List fQ}
theorem Ob (hk:b.pk.kind=1) (a:kK (bs b.pk.text) K 0<0):b.kp K=b.fail 9:=by grind [RA.kp]
theorem JY (c:¬ (b.pk.kind=1/\kK (bs b.pk.text) K 0<0)):b.kp K=b:=by grind [RA.kp]
theorem RA.ok.kp (h:b.ok) (l:List fQ):(b.kp l).ok:=by
 unfold RA.kp; split
 .exact h.fail 9
 .exact h
theorem Le.kn (h:b.ok) (l:List fQ):Le b (b.kn l):=by
 unfold RA.kn;refine Le.trans ?_ (Le.name (h.kp l));unfold RA.kp; split
 .exact .fail h (by decide)
 .exact .refl h
theorem Qu (h:b.ok) (q:Sh.V Cj) (l:List fQ) (d:l.length<1000000000000):SS.CC 240 [ag,a_ (dD l)] [U0 q,aA b.v]=some (af (b.wz l),[U0 q,aA (b.kn l).v]):=by
 rw[bI2,eP (iW h)];try dsimp only
 rw[bu (He l d _),eP (iW h)];try dsimp only
 unfold RA.kn RA.wz;by_cases hk:b.pk.kind=1
 .rw[show (b.pk.kind==1)=true by simp[hk],aI];by_cases a:kK (bs b.pk.text) l 0<0
  .rw[aP a,aI,bW (lG h 9),Ob hk a];try dsimp only
   rw[a9B,lF (lJ (h.fail 9))]
  .rw[bG a,aF,JY (fun c=>a c.2),a9B,lF (lJ h)]
 .rw[show (b.pk.kind==1)=false by simp[hk],aF,JY (fun c=>hk c.1),a9B,lF (lJ h)]
theorem Q4 (h:b.ok) (q:Sh.V zu) (l:List fQ) (a:l.length<1000000000000):SS.CC 261 [ag,a_ (dD l)] [GY q,aA b.v]=some (af (kK (bs (b.kp l).gz) l 0),[GY q,aA (b.kn l).v]):=by
 rw[bJ5,eP (iW h)];try dsimp only
 unfold RA.kn;by_cases hk:b.pk.kind=1
 .rw[show (b.pk.kind==1)=true by simp[hk],aI,aj (D7 l a _)];by_cases d:kK (bs b.pk.text) l 0<0
  .rw[bG (by omega),pG,aI,bW (lG h 9),Ob hk d];try dsimp only
   rw[a9G,lF (lJ (h.fail 9)),bu (He l a _)]
  .rw[aP (by omega),uY,aF,JY (fun c=>d c.2),a9G,lF (lJ h),bu (He l a _)]
 .rw[show (b.pk.kind==1)=false by simp[hk],aF,JY (fun c=>hk c.1),a9G,lF (lJ h),bu (He l a _)]
theorem aTX (h:b.e≠0):b.name.e≠0:=by grind [RA.name,Xi,a7']
theorem aAL (h:b.ok) (e:(b.kn K).e=0):b.kp K=b/\b.pk.kind=1/\0<=kK (bs b.pk.text) K 0/\b.kn K=b.next/\(b.kp K).gz=b.pk.text:=by grind [RA.kp,RA.kn,aTX,qM,RA.name,RA.gz]
theorem aAM (h:b.ok) (e:(b.kn K).e=0):(if (0:Int)>kK (bs (b.kp K).gz) K 0 then 0 else kK (bs (b.kp K).gz) K 0)=b.wz K/\(b.kn K).N<b.N:=by obtain ⟨d,f,g,a,c⟩:=aAL h e;rw[c,a];exact ⟨rfl,(jY h (by omega)).2⟩
theorem uj (h:b.ok):SS.CC 144 [ag,c5V [33]] [aA b.v]=some (.bool (b.is [33]),[aA b.v]):=sU h _
theorem zB (h:b.ok):SS.CC 144 [ag,c5V [45]] [aA b.v]=some (.bool (b.is [45]),[aA b.v]):=sU h _
theorem JW (h:b.ok):SS.CC 144 [ag,c5V [40]] [aA b.v]=some (.bool (b.is [40]),[aA b.v]):=sU h _
theorem UG (h:b.ok):SS.CC 62 [ag,c5V [63]] [aA b.v]=some (.bool (b.is [63]),[aA (b.take [63]).v]):=jH h _
abbrev lM:f_ := [116,114,117,101]
abbrev o9:f_ := [102,97,108,115,101]
theorem tkT (h:b.ok):SS.CC 62 [ag,c5V [116,114,117,101]] [aA b.v]=some (.bool (b.is lM),[aA (b.take lM).v]):=jH h _
theorem tkF (h:b.ok):SS.CC 62 [ag,c5V [102,97,108,115,101]] [aA b.v]=some (.bool (b.is o9),[aA (b.take o9).v]):=jH h _
theorem aJ4 (h:b.ok):SS.CC 16 [ag,c5V [58]] [aA b.v]=d_ [aA (b.exp [58]).v]:=eY h _
theorem aJ3 (h:b.ok):SS.CC 16 [ag,c5V [41]] [aA b.v]=d_ [aA (b.exp [41]).v]:=eY h _
variable {g:FuncId} {a:ai} {f i:Int}
theorem Oz {b:Sh.V S0} {K:RS.F (.t [(true,S0),(false,[.I .i64]),(false,[.I .i64]),(false,[.I .i64])]) R} (e:SS.CC g a []=some (.tuple [A0 b,af o,af f,af i],[])):G9 g a K=K (b,(o,()),(f,()),(i,()),()):=wX e rfl
theorem aG6 {b:fQ} {K:RS.F (.t [(false,[.S]),(false,[.I .i64]),(false,[.I .i64]),(false,[.I .i64])]) R} (e:SS.CC g a []=some (.tuple [.str b,af o,af f,af i],[])):G10 g a K=K ((b,()),(o,()),(f,()),(i,()),()):=wX e rfl
variable {h:aH} {j:Bool} {L:Sh.V eQ} {e:Sh.V aC}
theorem Iq {K:RS.F (.tb) (dA [.c eQ,.c aC])} (b:SS.CC g a h=some (.bool j,[bF L,aA e])):Tf g a h K=K j L e:=dH b rfl
variable {E:Sh.V dF} {c4:Sh.V jO}
theorem Ll {K:RS.F (.t []) (dA [.c dF,.c jO,.c aC])} (b:SS.CC g a h=d_ [aX E,bZ c4,aA e]):Ir g a h K=K () E c4 e:=dH b rfl
theorem aGK {K:RS.F (.tb) (dA [.z Y5])} (e:SS.CC g a h=some (.bool j,[some [h_ 40]])):H27 g a h K=K j:=dH e rfl
variable {r:Sh.V ay}
theorem CY {K:RS.F (.tb) (dA [.c ay,.c aC])} (b:SS.CC g a h=some (.bool j,[aK r,aA e])):CX g a h K=K j r e:=dH b rfl
theorem Tj {K:RS.F (.t []) (dA [.c ay,.c aC])} (b:SS.CC g a h=d_ [aK r,aA e]):PE g a h K=K () r e:=dH b rfl
theorem PG {d:Sh.V BH} {K:RS.F (.t []) (dA [.z gK,.z iM,.c BH,.c jO,.c aC])} (b:SS.CC g a h=d_ [some [.ptr 2 0],some [.ptr 3 0],lU d,bZ c4,aA e]):Lm g a h K=K () d c4 e:=dH b rfl
variable {U:Sh.V jh}
theorem CZ {K:RS.F (.tb) (dA [.z jQ,.c jh,.c aC])} (b:SS.CC g a h=some (.bool j,[some [.ptr 1 0],dQ U,aA e])):Lp g a h K=K j U e:=dH b rfl
variable {b3:Sh.V S8} {c5:Sh.V ru}
theorem aZW {K:RS.F (.g S8) (dA [.c ru,.c aC])} (b:SS.CC g a h=some (A8 b3,[vO c5,aA e])):lQ g a h K=K b3 c5 e:=dH b rfl
theorem Xz {K:RS.F (.g S8) (dA [.c ay,.c aC])} (b:SS.CC g a h=some (A8 b3,[aK r,aA e])):GN g a h K=K b3 r e:=dH b rfl
variable {c6:Sh.V ry}
theorem aZX {K:RS.F (.g S8) (dA [.c ry,.c aC])} (b:SS.CC g a h=some (A8 b3,[vP c6,aA e])):H60 g a h K=K b3 c6 e:=dH b rfl
theorem Iu {s1:fQ} {K:RS.F (.ts) (dA [.c ay,.c aC])} (b:SS.CC g a h=some (.str s1,[aK r,aA e])):ET g a h K=K s1 r e:=dH b rfl
variable {G:Sh.V dP} {X:Sh.V jb}
theorem aZZ {K:RS.F (.t []) (dA [.c aC,.c dP,.z iM,.c jb])} (b:SS.CC g a h=d_ [aA e,dW G,some [.ptr 3 0],jy X]):H70 g a h K=K () e G X:=dH b rfl
theorem EU {K:RS.F (.ti .i64) (dA [.c ay,.c aC])} (b:SS.CC g a h=some (af o,[aK r,aA e])):Cb g a h K=K o r e:=dH b rfl
theorem a'0 {s1:fQ} {K:RS.F (.ts) (dA [.c ru,.c aC])} (b:SS.CC g a h=some (.str s1,[vO c5,aA e])):H73 g a h K=K s1 c5 e:=dH b rfl
variable {w:Sh.V dY}
theorem a'1 {d:Sh.V Cm} {K:RS.F (.t []) (dA [.c aC,.c dY,.z iM,.c Cm])} (b:SS.CC g a h=d_ [aA e,dB w,some [.ptr 3 0],Eb d]):H74 g a h K=K () e w d:=dH b rfl
theorem a'2 {K:RS.F (.t []) (dA [.c aC,.c dY,.z iM,.c jb])} (b:SS.CC g a h=d_ [aA e,dB w,some [.ptr 3 0],jy X]):H75 g a h K=K () e w X:=dH b rfl
theorem a'3 {s1:fQ} {K:RS.F (.ts) (dA [.c ry,.c aC])} (b:SS.CC g a h=some (.str s1,[vP c6,aA e])):H76 g a h K=K s1 c6 e:=dH b rfl
theorem a'4 {d:Sh.V D5} {K:RS.F (.t []) (dA [.c aC,.c dY,.z iM,.c D5])} (b:SS.CC g a h=d_ [aA e,dB w,some [.ptr 3 0],Ec d]):H77 g a h K=K () e w d:=dH b rfl
variable {Y:Sh.V lq}
theorem a'5 {K:RS.F (.t []) (dA [.c aC,.z iM,.c lq,.c jb])} (b:SS.CC g a h=d_ [aA e,some [.ptr 3 0],lT Y,jy X]):H78 g a h K=K () e Y X:=dH b rfl
theorem GR {s1:fQ} {K:RS.F (.ts) (dA [.c eQ,.c aC])} (b:SS.CC g a h=some (.str s1,[bF L,aA e])):EW g a h K=K s1 L e:=dH b rfl
variable {H:Sh.V iH}
theorem a'7 {K:RS.F (.t []) (dA [.c iH,.c dP,.z jP,.c aC])} (b:SS.CC g a h=d_ [gY H,dW G,some [ag],aA e]):H83 g a h K=K () H G e:=dH b rfl
theorem aGT {K:RS.F (.t []) (dA [.c iH,.c dY,.z jP,.c aC])} (b:SS.CC g a h=d_ [gY H,dB w,some [ag],aA e]):H84 g a h K=K () H w e:=dH b rfl
theorem EY {K:RS.F (.ti .i64) (dA [.c eQ,.c aC])} (b:SS.CC g a h=some (af o,[bF L,aA e])):Cc g a h K=K o L e:=dH b rfl
variable {Z:Sh.V jc}
theorem a'8 {K:RS.F (.t []) (dA [.c aC,.z iM,.c lq,.c jc])} (b:SS.CC g a h=d_ [aA e,some [.ptr 3 0],lT Y,kX Z]):H86 g a h K=K () e Y Z:=dH b rfl
variable {M:Sh.V jW}
theorem aGY {K:RS.F (.t []) (dA [.z gK,.c lq,.c jW,.c aC])} (b:SS.CC g a h=d_ [some [.ptr 2 0],lT Y,iZ M,aA e]):H96 g a h K=K () Y M e:=dH b rfl
theorem aG9 {K:RS.F (.t []) (dA [.z gK,.c lq,.c iH,.c aC])} (b:SS.CC g a h=d_ [some [.ptr 2 0],lT Y,gY H,aA e]):a6B g a h K=K () Y H e:=dH b rfl
theorem aZ' {d:Sh.V S9} {K:RS.F (.g S9) (dA [.c ay,.c aC])} (b:SS.CC g a h=some (A9 d,[aK r,aA e])):H71 g a h K=K d r e:=dH b rfl
variable {b4:Sh.V oP}
theorem a'6 {K:RS.F (.t []) (dA [.c iH,.c dP,.c oP,.c aC])} (b:SS.CC g a h=d_ [gY H,dW G,jM b4,aA e]):H80 g a h K=K () H G b4 e:=dH b rfl
theorem aGS {K:RS.F (.t []) (dA [.c dF,.c dP,.c aC])} (b:SS.CC g a h=d_ [aX E,dW G,aA e]):Tn g a h K=K () E G e:=dH b rfl
variable {t:ai}
theorem a'9 {K:RS.F (.tl false 1) (dA [.c eQ,.c aC])} (b:SS.CC g a h=some (a_ t,[bF L,aA e])):H87 g a h K=K t L e:=dH b rfl
theorem aGU {K:RS.F (.t []) (dA [.c dP,.z gK,.c jW,.c aC])} (b:SS.CC g a h=d_ [dW G,some [.ptr 2 0],iZ M,aA e]):H90 g a h K=K () G M e:=dH b rfl
variable {a':Sh.V kC}
theorem a'A {K:RS.F (.t []) (dA [.c aC,.z iM,.c kC,.c jb])} (b:SS.CC g a h=d_ [aA e,some [.ptr 3 0],jv a',jy X]):H91 g a h K=K () e a' X:=dH b rfl
variable {u:Sh.V S1}
theorem yY {K:RS.F (.g S1) (dA [.c ay,.c aC])} (b:SS.CC g a h=some (A1 u,[aK r,aA e])):pO g a h K=K u r e:=dH b rfl
theorem aGV {d:Sh.V J5} {K:RS.F (.t []) (dA [.c dY,.z gK,.c J5,.c aC])} (b:SS.CC g a h=d_ [dB w,some [.ptr 2 0],Iy d,aA e]):H93 g a h K=K () w d e:=dH b rfl
theorem aGW {K:RS.F (.t []) (dA [.c dY,.z gK,.c jW,.c aC])} (b:SS.CC g a h=d_ [dB w,some [.ptr 2 0],iZ M,aA e]):H94 g a h K=K () w M e:=dH b rfl
theorem aGX {d:Sh.V Gf} {K:RS.F (.t []) (dA [.c dY,.z gK,.c Gf,.c aC])} (b:SS.CC g a h=d_ [dB w,some [.ptr 2 0],Ci d,aA e]):H95 g a h K=K () w d e:=dH b rfl
theorem a'B {K:RS.F (.t []) (dA [.c aC,.c dP,.z iM,.c jc])} (b:SS.CC g a h=d_ [aA e,dW G,some [.ptr 3 0],kX Z]):H97 g a h K=K () e G Z:=dH b rfl
theorem a'C {K:RS.F (.t []) (dA [.c aC,.z iM,.c kC,.c jc])} (b:SS.CC g a h=d_ [aA e,some [.ptr 3 0],jv a',kX Z]):H98 g a h K=K () e a' Z:=dH b rfl
theorem yc {K:RS.F (.g S1) (dA [.c eQ,.c aC])} (b:SS.CC g a h=some (A1 u,[bF L,aA e])):yZ g a h K=K u L e:=dH b rfl
theorem aZJ {K:RS.F (.t []) (dA [.c aC,.c dY,.z iM,.c jc])} (b:SS.CC g a h=d_ [aA e,dB w,some [.ptr 3 0],kX Z]):aG8 g a h K=K () e w Z:=dH b rfl
theorem aZK {K:RS.F (.tl false 1) (dA [.z jQ,.c dF,.c aC])} (b:SS.CC g a h=some (a_ t,[some [.ptr 1 0],aX E,aA e])):aGA g a h K=K t E e:=dH b rfl
theorem Tc {K:RS.F (.g S1) (dA [.c jh,.z jP,.c aC])} (b:SS.CC g a h=some (A1 u,[dQ U,some [ag],aA e])):Xy g a h K=K u U e:=dH b rfl
theorem aGB {K:RS.F (.t []) (dA [.z gK,.c kC,.c jW,.c aC])} (b:SS.CC g a h=d_ [some [.ptr 2 0],jv a',iZ M,aA e]):a6C g a h K=K () a' M e:=dH b rfl
theorem aGC {K:RS.F (.t []) (dA [.c dP,.z gK,.c iH,.c aC])} (b:SS.CC g a h=d_ [dW G,some [.ptr 2 0],gY H,aA e]):a6D g a h K=K () G H e:=dH b rfl
theorem aGD {K:RS.F (.t []) (dA [.z gK,.c kC,.c iH,.c aC])} (b:SS.CC g a h=d_ [some [.ptr 2 0],jv a',gY H,aA e]):a6E g a h K=K () a' H e:=dH b rfl
theorem aGE {K:RS.F (.t []) (dA [.c dY,.z gK,.c iH,.c aC])} (b:SS.CC g a h=d_ [dB w,some [.ptr 2 0],gY H,aA e]):a6F g a h K=K () w H e:=dH b rfl
theorem a6G {K:RS.F (.tb) (dA [.z jQ,.c dF,.c aC])} (b:SS.CC g a h=some (.bool j,[some [.ptr 1 0],aX E,aA e])):Td g a h K=K j E e:=dH b rfl
theorem aGF {K:RS.F (.ti .i64) (dA [.z jQ,.c jh,.c aC])} (b:SS.CC g a h=some (af o,[some [.ptr 1 0],dQ U,aA e])):Ld g a h K=K o U e:=dH b rfl
theorem a6H {K:RS.F (.g S1) (dA [.z jQ,.c jh,.c aC])} (b:SS.CC g a h=some (A1 u,[some [.ptr 1 0],dQ U,aA e])):GM g a h K=K u U e:=dH b rfl
theorem a6I {d:Bool} {K:RS.F (.t [(false,[.I .i64]),(false,[.B]),(false,[.B])]) (dA [.c eQ,.c aC])} (b:SS.CC g a h=some (.tuple [af o,.bool j,.bool d],[bF L,aA e])):aGG g a h K=K ((o,()),(j,()),(d,()),()) L e:=dH b rfl
theorem Lh {K:RS.F (.g S1) (dA [.c dF,.z jP,.c aC])} (b:SS.CC g a h=some (A1 u,[aX E,some [ag],aA e])):P6 g a h K=K u E e:=dH b rfl
theorem aZL {K:RS.F (.g S1) (dA [.z jQ,.c dF,.c aC])} (b:SS.CC g a h=some (A1 u,[some [.ptr 1 0],aX E,aA e])):P7 g a h K=K u E e:=dH b rfl
theorem aZM {K:RS.F (.t []) (dA [.z jQ,.c dF,.c aC])} (b:SS.CC g a h=d_ [some [.ptr 1 0],aX E,aA e]):P8 g a h K=K () E e:=dH b rfl
theorem a6J {K:RS.F (.g S1) (dA [.c jW,.z jP,.c oP,.c aC])} (b:SS.CC g a h=some (A1 u,[iZ M,some [ag],jM b4,aA e])):aGH g a h K=K u M b4 e:=dH b rfl
theorem aZN {K:RS.F (.g S1) (dA [.z gK,.c oP,.c jW,.c aC])} (b:SS.CC g a h=some (A1 u,[some [.ptr 2 0],jM b4,iZ M,aA e])):a6K g a h K=K u b4 M e:=dH b rfl
section
theorem aK6 (i:Sh.V eQ) (j:Sh.V aC):SS.CC 27 [ag] [bF i,aA j]=yZ 131 [ag,af 1] [bF i,aA j] fun l m n=>bP 62 [ag,c5V [63]] [aA n] fun b a=>aB (!b) (some (A1 l,[bF m,aA a])) (yZ 27 [ag] [bF m,aA a] fun c d e=>bJ 16 [ag,c5V [58]] [aA e] fun _ u32=>yZ 27 [ag] [bF d,aA u32] fun f g h=>some (A1 (13,0,0,[A1 l,A1 c,A1 f],()),[bF g,aA h])):=cc
def bBB:KT:=SS.rK Tryz.f131 131 2 []
def aLP:KT:=aW 0 bBB
def bBC:KT:=SS.lK 131 48 2 [0,1,4,5] 4 (cS Tryz.f131 39) aLP
def bBD:KT:=aW 1 bBC
def Gx (a:Int) (b:Sh.V eQ) (c:Sh.V aC) (d:Sh.V S1):R:=SS.LL (SS.ae 131 48) 2 [0,1,4,5] 4 (cS Tryz.f131 39) aLP ⟨[(0,ag),(1,af a),(4,.ptr 2 0),(5,.ptr 3 0)],[bF b,aA c,GZ (0,0,0,[],()),O1 d]⟩
def a8O (a b:Int) (c:Sh.V eQ) (d:Sh.V aC) (e:Sh.V S1) (f:ai):R:=bC (SS.xX 131 48 2) (cS Tryz.f131 4039) bBD ⟨[(0,ag),(1,af a),(4,.ptr 2 0),(5,.ptr 3 0),(6,af b),(9,.sl false 4 f)],[bF c,aA d,GZ (0,0,0,[],()),O1 e]⟩
theorem a8P (d:Int) (h:Sh.V eQ) (i:Sh.V aC) (b:Sh.V S1):Gx d h i b=aGG 212 [ag,af d] [bF h,aA i] fun g j l=>aB (!g.2.2.1.1) (some (A1 b,[bF j,aA l])) (fJ 63 [ag] [aA l] fun m n=>yZ 131 [ag,af (i64.wrap (d+1))] [bF j,aA n] fun a e f=>aB g.2.1.1 (b_ (([af b.1,af b.2.1,af b.2.2.1,.sl false 4 b.2.2.2.1,af a.1,af a.2.1,af a.2.2.1,.sl false 4 a.2.2.2.1]:ai).all nT&&true) (H53 213 [.slh 0 0 2 4] [some [af b.1,af b.2.1,af b.2.2.1,.sl false 4 b.2.2.2.1,af a.1,af a.2.1,af a.2.2.1,.sl false 4 a.2.2.2.1]] fun _ c=>b_ (c.all nT&&true) (b_ (decide (2*4<=c.length)&&decide (0<4)&&c.all fun p=>p.one&&p.flat) (a8O d g.1.1 e f b (mX 4 c 2))))) (b_ (decide (2*4<=([af b.1,af b.2.1,af b.2.2.1,.sl false 4 b.2.2.2.1,af a.1,af a.2.1,af a.2.2.1,.sl false 4 a.2.2.2.1]:ai).length)&&decide (0<4)&&([af b.1,af b.2.1,af b.2.2.1,.sl false 4 b.2.2.2.1,af a.1,af a.2.1,af a.2.2.1,.sl false 4 a.2.2.2.1]:ai).all fun p=>p.one&&p.flat) (a8O d g.1.1 e f b (mX 4 ([af b.1,af b.2.1,af b.2.2.1,.sl false 4 b.2.2.2.1,af a.1,af a.2.1,af a.2.2.1,.sl false 4 a.2.2.2.1]:ai) 2)))):=ll
theorem aLO (a b:Int) (c:Sh.V eQ) (d:Sh.V aC) (f:Sh.V S1) (e:ai):a8O a b c d f e=aB (a==3) (some (A1 (b,0,0,e,()),[bF c,aA d])) (Gx a c d (b,0,0,e,())):=by kernel_rfl
theorem a8Q (a1:Int) (a:Sh.V eQ) (b:Sh.V aC):SS.CC 131 [ag,af a1] [bF a,aA b]=aB (a1==6) (yZ 211 [ag] [bF a,aA b] fun d e f=>some (A1 d,[bF e,aA f])) (yZ 131 [ag,af (i64.wrap (a1+1))] [bF a,aA b] fun c g h=>Gx a1 g h c):=cc
def bE1:KT:=SS.rK Tryz.f211 211 2 []
def Zz (a:Sh.V eQ) (b:Sh.V aC):R:=bC (SS.xX 211 74 2) (cS Tryz.f211 7) bE1 ⟨[(1,.ptr 2 0),(2,.ptr 3 0)],[bF a,aA b,some [ag],GZ (0,0,0,[],())]⟩
theorem bE0 (a:Sh.V eQ) (b:Sh.V aC):Zz a b=Cc 240 [ag,a_ a.2.1] [bF a,aA b] fun c d e=>some (A1 (1,0,c,[],()),[bF d,aA e]):=by kernel_rfl
theorem Gy (a:Sh.V eQ) (I:Sh.V aC):SS.CC 211 [ag] [bF a,aA I]=bP 144 [ag,c5V [33]] [aA I] fun O J=>aB O (fJ 19 [ag] [aA J] fun u8 d=>aB (u8.1==3) (P6 254 [ag,fU 255 [.ptr 1 0]] [aX a,some [ag],aA d] fun Q j l=>some (A1 Q,[bF j,aA l])) (bP 144 [ag,c5V [45]] [aA d] fun m u32=>aB m (P6 254 [ag,fU 256 [.ptr 1 0]] [aX a,some [ag],aA u32] fun n o p=>some (A1 n,[bF o,aA p])) (bP 144 [ag,c5V [40]] [aA u32] fun q e=>aB q (P6 254 [ag,fU 257 [.ptr 1 0]] [aX a,some [ag],aA e] fun S r t=>some (A1 S,[bF r,aA t])) (fJ 19 [ag] [aA e] fun u K=>aB (u.1==2) (ES 164 [ag,af 0,af 65536] [aA K] fun v T=>some (A1 (0,v,0,[],()),[bF a,aA T])) (bP 62 [ag,c5V [116,114,117,101]] [aA K] fun w f=>aB w (qH 137 [] fun U=>some (A1 U,[bF a,aA f])) (bP 62 [ag,c5V [102,97,108,115,101]] [aA f] fun x L=>aB x (qH 138 [] fun X=>some (A1 X,[bF a,aA L])) (Zz a L))))))) (bP 144 [ag,c5V [45]] [aA J] fun y g=>aB y (P6 254 [ag,fU 256 [.ptr 1 0]] [aX a,some [ag],aA g] fun z A h=>some (A1 z,[bF A,aA h])) (bP 144 [ag,c5V [40]] [aA g] fun B b=>aB B (P6 254 [ag,fU 257 [.ptr 1 0]] [aX a,some [ag],aA b] fun Y Z C=>some (A1 Y,[bF Z,aA C])) (fJ 19 [ag] [aA b] fun D c=>aB (D.1==2) (ES 164 [ag,af 0,af 65536] [aA c] fun i E=>some (A1 (0,i,0,[],()),[bF a,aA E])) (bP 62 [ag,c5V [116,114,117,101]] [aA c] fun F M=>aB F (qH 137 [] fun XY=>some (A1 XY,[bF a,aA M])) (bP 62 [ag,c5V [102,97,108,115,101]] [aA M] fun G N=>aB G (qH 138 [] fun H=>some (A1 H,[bF a,aA N])) (Zz a N)))))):=cc
theorem bE2 (a1:Int) (b:Sh.V eQ) (e:Sh.V aC):SS.CC 212 [ag,af a1] [bF b,aA e]=fJ 19 [ag] [aA e] fun f c=>aB (f.1 != 3) (some (.tuple [af 0,.bool false,.bool false],[bF b,aA c])) (Jj none [c5V [33,61],ql (3,7,false,()),c5V [38,38],ql (2,11,false,()),c5V [42],ql (5,4,false,()),c5V [43],ql (4,2,false,()),c5V [45],ql (4,3,false,()),c5V [60],ql (3,8,false,()),c5V [60,61],ql (3,9,false,()),c5V [61,61],ql (3,6,false,()),c5V [62],ql (3,8,true,()),c5V [62,61],ql (3,9,true,()),c5V [124,124],ql (1,12,false,())] (.str f.2.1) (fun d=>BR Y6 d fun a=>some (.tuple [af a.2.1,.bool a.2.2.1,.bool (a.1==a1)],[bF b,aA c])) (some (.tuple [af 0,.bool false,.bool false],[bF b,aA c]))):=cc
theorem aNB (a:Sh.V dF) (b:Sh.V aC):SS.CC 254 [ag,fU 255 [.ptr 1 0]] [aX a,some [ag],aA b]=aB (a.1==32) (bJ 21 [ag,af 3] [aA b] fun _ g=>some (A1 (0,0,0,[],()),[aX a,some [ag],aA g])) (fJ 63 [ag] [aA b] fun i c=>P7 255 [ag] [some [.ptr 1 0],aX (i64.wrap (a.1+1),a.2.1,()),aA c] fun h d e=>P8 275 [ag] [some [.ptr 1 0],aX d,aA e] fun _ f u32=>some (A1 h,[aX f,some [ag],aA u32])):=cc
theorem a99 (a:Sh.V dF) (b:Sh.V aC):SS.CC 254 [ag,fU 256 [.ptr 1 0]] [aX a,some [ag],aA b]=aB (a.1==32) (bJ 21 [ag,af 3] [aA b] fun _ g=>some (A1 (0,0,0,[],()),[aX a,some [ag],aA g])) (fJ 63 [ag] [aA b] fun i c=>P7 256 [ag] [some [.ptr 1 0],aX (i64.wrap (a.1+1),a.2.1,()),aA c] fun h d e=>P8 275 [ag] [some [.ptr 1 0],aX d,aA e] fun _ f u32=>some (A1 h,[aX f,some [ag],aA u32])):=cc
theorem aNC (a:Sh.V dF) (b:Sh.V aC):SS.CC 254 [ag,fU 257 [.ptr 1 0]] [aX a,some [ag],aA b]=aB (a.1==32) (bJ 21 [ag,af 3] [aA b] fun _ g=>some (A1 (0,0,0,[],()),[aX a,some [ag],aA g])) (fJ 63 [ag] [aA b] fun i c=>P7 257 [ag] [some [.ptr 1 0],aX (i64.wrap (a.1+1),a.2.1,()),aA c] fun h d e=>P8 275 [ag] [some [.ptr 1 0],aX d,aA e] fun _ f u32=>some (A1 h,[aX f,some [ag],aA u32])):=cc
theorem bHY (a:Sh.V dF) (b:Sh.V aC):SS.CC 255 [ag] [some [.ptr 1 0],aX a,aA b]=yZ 211 [ag] [bF a,aA b] fun c d e=>some (A1 (10,0,0,[A1 c],()),[some [.ptr 1 0],aX d,aA e]):=cc
theorem aND (a:Sh.V dF) (f:Sh.V aC):SS.CC 256 [ag] [some [.ptr 1 0],aX a,aA f]=fJ 19 [ag] [aA f] fun h g=>aB (h.1==2) (ES 164 [ag,af 0,af 65536] [aA g] fun b c=>some (A1 (0,i64.wrap (0-b),0,[],()),[some [.ptr 1 0],aX a,aA c])) (yZ 211 [ag] [bF a,aA g] fun i d e=>some (A1 (5,0,0,[A1 i],()),[some [.ptr 1 0],aX d,aA e])):=cc
theorem bHZ (b:Sh.V dF) (c:Sh.V aC):SS.CC 257 [ag] [some [.ptr 1 0],aX b,aA c]=yZ 27 [ag] [bF b,aA c] fun d e f=>bJ 16 [ag,c5V [41]] [aA f] fun _ a=>some (A1 d,[some [.ptr 1 0],aX e,aA a]):=cc
def bH':KT:=SS.rK Tryz.f240 240 2 []
def a0R (a:Int) (b:Sh.V eQ) (c:Sh.V aC):R:=bC (SS.xX 240 37 2) (cS Tryz.f240 15) bH' ⟨[(0,ag),(5,af a)],[bF b,aA c]⟩
theorem a9A (a:Int) (b:Sh.V eQ) (c:Sh.V aC):a0R a b c=kN 17 [ag] [aA c] fun s1 d=>some (af (if (0:Int)>a then (0:Int) else a),[bF b,aA d]):=by kernel_rfl
theorem bI0 (a1:ai) (b:Sh.V eQ) (f:Sh.V aC):SS.CC 240 [ag,a_ a1] [bF b,aA f]=fJ 19 [ag] [aA f] fun g h=>G1 242 [a_ a1,.str g.2.1] fun a=>fJ 19 [ag] [aA h] fun c d=>aB (c.1==1) (aB (decide (a<0)) (bJ 21 [ag,af 9] [aA d] fun _ e=>a0R a b e) (a0R a b d)) (a0R a b d):=cc
theorem bJ1 (a:Sh.V dF) (b:Sh.V aC):SS.CC 275 [ag] [some [.ptr 1 0],aX a,aA b]=d_ [some [.ptr 1 0],aX (i64.wrap (a.1-1),a.2.1,()),aA b]:=cc
def bCL:KT:=SS.rK Tryz.f65 65 3 []
def Zx (a:Sh.V dF) (b:Sh.V jO) (c:Sh.V aC) (d:Sh.V S4):R:=bC (SS.xX 65 55 3) (cS Tryz.f65 31) bCL ⟨[(0,ag),(1,.ptr 1 0),(4,.ptr 3 0)],[aX a,bZ b,aA c,O4 d]⟩
theorem bCK (b:Sh.V dF) (a:Sh.V jO) (c:Sh.V aC) (d:Sh.V S4):Zx b a c d=bJ 16 [ag,c5V [59]] [aA c] fun _ e=>b_ (decide (a.2.1.length+1<=aO)) (d_ [aX b,bZ (a.1,(a.2.1 ++ ([A4 d]:ai)),a.2.2.1,a.2.2.2.1,a.2.2.2.2.1,a.2.2.2.2.2.1,a.2.2.2.2.2.2.1,()),aA e]):=by kernel_rfl
theorem bCM (o:Sh.V dF) (f:Sh.V jO) (p:Sh.V aC):SS.CC 65 [ag,.ptr 1 0] [aX o,bZ f,aA p]=G4 161 [.sl false 5 f.2.1,h_ 162] fun t=>EW 160 [ag,a_ t] [bF o,aA p] fun q u v=>H87 163 [ag,a_ [c5V [99,111,110,116,114,111,108,108,97,98,108,101],c5V [111,98,115,101,114,118,97,98,108,101],c5V [102,111,114,99,105,98,108,101]]] [bF u,aA v] fun a b g=>di a 0 fun h=>vB h fun c=>di a 1 fun i=>vB i fun r=>di a 2 fun j=>vB j fun d=>bP 62 [ag,c5V [102,97,117,108,116]] [aA g] fun l e=>aB l (ES 164 [ag,af 1,af 4] [aA e] fun m n=>Zx b f n (q,c,r,d,m,())) (Zx b f e (q,c,r,d,0,())):=cc
def aMB:KT:=SS.rK Tryz.f143 143 2 []
def bEK:KT:=SS.jK 143 72 2 (cS Tryz.f143 7) aMB
def bEL:KT:=aW 0 bEK
def QF (a:Sh.V ay) (c:Sh.V aC) (d:ai) (b:Int):R:=SS.LL (SS.ae 143 72) 2 [0,2,10,11,12] 2 (cS Tryz.f143 37) bEL ⟨[(0,ag),(2,.sl true 1 d),(10,.sl false 5 a.2.1),(11,af (a.2.1.length:Int)),(12,af b)],[aK a,aA c]⟩
def a03 (a:Sh.V ay) (b:Sh.V aC) (c:Sh.V S4):R:=bC (SS.xX 143 72 2) (cS Tryz.f143 255) aMB ⟨[(0,ag),(5,.ptr 2 0)],[aK a,aA b,O4 c]⟩
theorem aMC (b:Sh.V ay) (f:Sh.V aC) (e:ai) (a:Int):QF b f e a=aB (decide (a<(b.2.1.length:Int))) (ak S4 b.2.1 a fun q=>b_ (decide (e.length+1<=aO)) (QF b f (e ++ ([.str q.1]:ai)) (i64.wrap (a+1)))) (ET 223 [ag,a_ e] [aK b,aA f] fun n u8 r=>bP 62 [ag,c5V [99,111,110,116,114,111,108,108,97,98,108,101]] [aA r] fun o g=>bP 62 [ag,c5V [111,98,115,101,114,118,97,98,108,101]] [aA g] fun p h=>bP 62 [ag,c5V [102,111,114,99,105,98,108,101]] [aA h] fun c i=>bP 62 [ag,c5V [102,97,117,108,116]] [aA i] fun j d=>aB j (ES 164 [ag,af 1,af 4] [aA d] fun l m=>a03 u8 m (n,o,p,c,l,())) (a03 u8 d (n,o,p,c,0,()))):=ll
theorem bEJ (a:Sh.V ay) (b:Sh.V aC) (c:Sh.V S4):a03 a b c=bJ 16 [ag,c5V [59]] [aA b] fun _ d=>b_ (decide (a.2.1.length+1<=aO)) (d_ [aK (a.1,(a.2.1 ++ ([A4 c]:ai)),a.2.2.1,a.2.2.2.1,a.2.2.2.2.1,a.2.2.2.2.2.1,a.2.2.2.2.2.2.1,a.2.2.2.2.2.2.2.1,a.2.2.2.2.2.2.2.2.1,()),aA d]):=by kernel_rfl
theorem bEM (a:Sh.V ay) (b:Sh.V aC):SS.CC 143 [ag] [aK a,aA b]=QF a b [] 0:=cc
def bFT:KT:=SS.rK Tryz.f161 161 0 []
def bFU:KT:=SS.jK 161 22 0 (cS Tryz.f161 15) bFT
def bFV:KT:=aW 0 bFU
def a0B (b c:ai) (a:Int):R:=SS.LL (SS.ae 161 22) 0 [1,5,8,9,10] 0 (cS Tryz.f161 75) bFV ⟨[(1,h_ 162),(5,.sl true 1 c),(8,.sl false 5 b),(9,af (b.length:Int)),(10,af a)],[]⟩
theorem aMP (b c:ai) (a:Int):a0B b c a=aB (decide (a<(b.length:Int))) (ak S4 b a fun d=>G2 162 [A4 d] fun e=>b_ (decide (c.length+1<=aO)) (a0B b (c ++ ([.str e]:ai)) (i64.wrap (a+1)))) (some (a_ c,[])):=ll
theorem bFW (a0:ai):SS.CC 161 [.sl false 5 a0,h_ 162] []=a0B a0 [] 0:=cc
theorem bFX (a0:Sh.V S4):SS.CC 162 [A4 a0] []=some (.str a0.1,[]):=cc
theorem bFY (a1:ai) (a:Sh.V eQ) (b:Sh.V aC):SS.CC 163 [ag,a_ a1] [bF a,aA b]=aGA 238 [a_ a1,fU 239 [ag]] [some [.ptr 1 0],aX a,aA b] fun c d e=>some (a_ c,[bF d,aA e]):=cc
theorem bG2 (a:Sh.V dP) (c:Sh.V iH) (d:Sh.V aC):SS.CC 167 [ag,.ptr 1 0] [dW a,some [.ptr 2 0],gY c,aA d]=gQ fun f=>(fun w=>(fun b e=>bf b (bf (bf b e) (bf b e))) w (f 1 w)) (EW 160 [ag,a_ a.2.2.1] [bF c,aA d] fun s1 g h=>b_ (decide (a.2.2.1.length+1<=aO)) (d_ [dW (a.1,a.2.1,(a.2.2.1 ++ ([.str s1]:ai)),a.2.2.2.1,a.2.2.2.2.1,a.2.2.2.2.2.1,a.2.2.2.2.2.2.1,a.2.2.2.2.2.2.2.1,a.2.2.2.2.2.2.2.2.1,()),some [.ptr 2 0],gY g,aA h])):=pR cc
def aMT:KT:=SS.rK Tryz.f168 168 4 []
def VF (a:Sh.V iH) (b:Sh.V dP) (c:Bool) (d:Sh.V aC) (e:Int):R:=bC (SS.xX 168 77 4) (cS Tryz.f168 15) aMT ⟨[(0,ag),(1,.ptr 1 0),(2,.ptr 2 0),(6,af e)],[gY a,dW b,jM (c,()),aA d]⟩
def VG (a:Int) (b:Sh.V iH) (c:Sh.V dP) (d:Sh.V aC) (e:Bool):R:=bC (SS.xX 168 77 4) (cS Tryz.f168 31) aMT ⟨[(0,ag),(1,.ptr 1 0),(6,af a)],[gY b,dW c,jM (e,()),aA d]⟩
theorem bG3 (c:Sh.V iH) (a:Sh.V dP) (d:Bool) (e:Sh.V aC) (b:Int):VF c a d e b=bP 62 [ag,c5V [105,110,105,116,105,97,108]] [aA e] fun g f=>aB g (VG b c (a.1,a.2.1,a.2.2.1,a.2.2.2.1,a.2.2.2.2.1,b,a.2.2.2.2.2.2.1,a.2.2.2.2.2.2.2.1,a.2.2.2.2.2.2.2.2.1,()) f true) (VG b c a f d):=by kernel_rfl
theorem bG4 (e:Int) (b:Sh.V iH) (a:Sh.V dP) (f:Sh.V aC) (c:Bool):VG e b a f c=bP 62 [ag,c5V [109,97,114,107,101,100]] [aA f] fun h g=>aB h (b_ (decide (a.2.2.2.2.2.2.1.length+1<=aO)) (bJ 16 [ag,c5V [59]] [aA g] fun _ u8=>d_ [gY b,dW (a.1,a.2.1,a.2.2.1,a.2.2.2.1,a.2.2.2.2.1,a.2.2.2.2.2.1,(a.2.2.2.2.2.2.1 ++ ([af e]:ai)),a.2.2.2.2.2.2.2.1,a.2.2.2.2.2.2.2.2.1,()),jM (c,()),aA u8])) (bJ 16 [ag,c5V [59]] [aA g] fun _ d=>d_ [gY b,dW a,jM (c,()),aA d]):=by kernel_rfl
theorem bG5 (f:Sh.V iH) (a:Sh.V dP) (c:Bool) (g:Sh.V aC):SS.CC 168 [ag,.ptr 1 0,.ptr 2 0] [gY f,dW a,jM (c,()),aA g]=gQ fun h=>(fun w=>bf w (h 1 w)) (EW 160 [ag,a_ a.2.1] [bF f,aA g] fun s1 d i=>b_ (decide (a.2.1.length+1<=aO)) (bP 144 [ag,c5V [105,110,105,116,105,97,108]] [aA i] fun e b=>aB e (aB c (bJ 21 [ag,af 8] [aA b] fun _ j=>VF d (a.1,(a.2.1 ++ ([.str s1]:ai)),a.2.2.1,a.2.2.2.1,a.2.2.2.2.1,a.2.2.2.2.2.1,a.2.2.2.2.2.2.1,a.2.2.2.2.2.2.2.1,a.2.2.2.2.2.2.2.2.1,()) c j (i64.wrap (((a.2.1 ++ ([.str s1]:ai)).length:Int)-1))) (VF d (a.1,(a.2.1 ++ ([.str s1]:ai)),a.2.2.1,a.2.2.2.1,a.2.2.2.2.1,a.2.2.2.2.2.1,a.2.2.2.2.2.2.1,a.2.2.2.2.2.2.2.1,a.2.2.2.2.2.2.2.2.1,()) c b (i64.wrap (((a.2.1 ++ ([.str s1]:ai)).length:Int)-1)))) (VF d (a.1,(a.2.1 ++ ([.str s1]:ai)),a.2.2.1,a.2.2.2.1,a.2.2.2.2.1,a.2.2.2.2.2.1,a.2.2.2.2.2.2.1,a.2.2.2.2.2.2.2.1,a.2.2.2.2.2.2.2.2.1,()) c b (i64.wrap (((a.2.1 ++ ([.str s1]:ai)).length:Int)-1))))):=pR cc
def bG7:KT:=SS.rK Tryz.f169 169 3 []
def VH (a:Sh.V dF) (b:Sh.V dP) (c:Sh.V aC):R:=bC (SS.xX 169 74 3) (cS Tryz.f169 3) bG7 ⟨[(0,ag),(1,.ptr 1 0)],[aX a,dW b,aA c]⟩
theorem bG6 (n:Sh.V dF) (a:Sh.V dP) (o:Sh.V aC):VH n a o=G7 200 [.sl false 4 a.2.2.2.2.2.2.2.1] fun p=>EW 160 [ag,a_ p] [bF n,aA o] fun q r t=>bJ 16 [ag,c5V [58]] [aA t] fun _ b=>Cc 178 [ag] [bF r,aA b] fun c u d=>bJ 16 [ag,c5V [46,46]] [aA d] fun _ e=>Cc 178 [ag] [bF u,aA e] fun f g h=>bJ 16 [ag,c5V [61]] [aA h] fun _ i=>Cc 178 [ag] [bF g,aA i] fun j l m=>bJ 16 [ag,c5V [59]] [aA m] fun _ v=>b_ (decide (a.2.2.2.2.2.2.2.1.length+1<=aO)) (d_ [aX l,dW (a.1,a.2.1,a.2.2.1,a.2.2.2.1,a.2.2.2.2.1,a.2.2.2.2.2.1,a.2.2.2.2.2.2.1,(a.2.2.2.2.2.2.2.1 ++ ([A7 (q,c,f,j,())]:ai)),a.2.2.2.2.2.2.2.2.1,()),aA v]):=by kernel_rfl
theorem bG8 (a:Sh.V dF) (b:Sh.V dP) (f:Sh.V aC):SS.CC 169 [ag,.ptr 1 0] [aX a,dW b,aA f]=fJ 19 [ag] [aA f] fun g c=>aB (g.1==1) (G3 32 [.str g.2.1] fun d=>aB d (bJ 21 [ag,af 7] [aA c] fun _ e=>VH a b e) (VH a b c)) (VH a b c):=cc
def aMW:KT:=SS.rK Tryz.f170 170 3 []
def a0C (a:Sh.V dF) (b:Sh.V dP) (c:Sh.V aC) (d e f g h i:Int) (j:ai):R:=bC (SS.xX 170 73 3) (cS Tryz.f170 63) aMW ⟨[(1,.ptr 1 0),(2,.ptr 3 0),(4,.ptr 4 0)],[aX a,dW b,aA c,some [ag],jv (d,e,f,g,h,i,j,[],())]⟩
def a95 (a:Sh.V dF) (b:Sh.V dP) (c:Sh.V aC) (d:Sh.V kC):R:=bC (SS.xX 170 73 3) (cS Tryz.f170 127) aMW ⟨[(1,.ptr 1 0),(2,.ptr 3 0),(4,.ptr 4 0)],[aX a,dW b,aA c,some [ag],jv d]⟩
theorem aMU (a:Sh.V dF) (b:Sh.V dP) (m:Sh.V aC) (c d e f g h:Int) (i:ai):a0C a b m c d e f g h i=bP 62 [ag,c5V [100,111]] [aA m] fun o n=>aB o (H98 175 [ag,fU 241 [.ptr 1 0,.ptr 2 0]] [aA n,some [.ptr 3 0],jv (c,d,e,f,g,h,i,[],()),kX a] fun _ u8 j l=>a95 l b u8 j) (a95 a b n (c,d,e,f,g,h,i,[],())):=by kernel_rfl
theorem aMV (b:Sh.V dF) (a:Sh.V dP) (c:Sh.V aC) (d:Sh.V kC):a95 b a c d=bJ 16 [ag,c5V [59]] [aA c] fun _ e=>b_ (decide (a.2.2.2.2.2.2.2.2.1.length+1<=aO)) (d_ [aX b,dW (a.1,a.2.1,a.2.2.1,a.2.2.2.1,a.2.2.2.2.1,a.2.2.2.2.2.1,a.2.2.2.2.2.2.1,a.2.2.2.2.2.2.2.1,(a.2.2.2.2.2.2.2.2.1 ++ ([A9 d]:ai)),()),aA e]):=by kernel_rfl
theorem bG9 (n:Sh.V dF) (b:Sh.V dP) (o:Sh.V aC):SS.CC 170 [ag,.ptr 1 0] [aX n,dW b,aA o]=qH 137 [] fun h=>Cc 240 [ag,a_ b.2.1] [bF n,aA o] fun p q r=>Cc 240 [ag,a_ b.2.2.1] [bF q,aA r] fun c u16 t=>Cc 240 [ag,a_ b.2.1] [bF u16,aA t] fun d e i=>G7 200 [.sl false 4 b.2.2.2.2.2.2.2.1] fun f=>bP 62 [ag,c5V [119,104,101,110]] [aA i] fun j g=>aB j (yZ 27 [ag] [bF (e.1,f,()),aA g] fun a l m=>a0C l b m p c d a.1 a.2.1 a.2.2.1 a.2.2.2.1) (a0C (e.1,f,()) b g p c d h.1 h.2.1 h.2.2.1 h.2.2.2.1):=cc
theorem bIF (a:Sh.V dP) (d:Sh.V jW) (e:Sh.V aC):SS.CC 224 [ag,.ptr 1 0] [dW a,some [.ptr 2 0],iZ d,aA e]=gQ fun g=>(fun w=>(fun b f=>bf b (bf (bf b f) (bf b f))) w (g 1 w)) (ET 223 [ag,a_ a.2.2.1] [aK d,aA e] fun s1 h c=>b_ (decide (a.2.2.1.length+1<=aO)) (d_ [dW (a.1,a.2.1,(a.2.2.1 ++ ([.str s1]:ai)),a.2.2.2.1,a.2.2.2.2.1,a.2.2.2.2.2.1,a.2.2.2.2.2.2.1,a.2.2.2.2.2.2.2.1,a.2.2.2.2.2.2.2.2.1,()),some [.ptr 2 0],iZ h,aA c])):=pR cc
def aNG:KT:=SS.rK Tryz.f226 226 2 []
def MG (a:Sh.V ay) (b:Sh.V aC) (c d e f g h:Int) (i:ai):R:=bC (SS.xX 226 48 2) (cS Tryz.f226 127) aNG ⟨[(2,.ptr 2 0),(4,.ptr 3 0),(5,.ptr 4 0)],[aK a,aA b,some [ag],O68 (0,0,0,0,0,0,[],[],()),jv (c,d,e,f,g,h,i,[],())]⟩
def a9C (a:Sh.V ay) (b:Sh.V aC) (c:Sh.V kC):R:=bC (SS.xX 226 48 2) (cS Tryz.f226 255) aNG ⟨[(2,.ptr 2 0),(4,.ptr 3 0),(5,.ptr 4 0)],[aK a,aA b,some [ag],O68 (0,0,0,0,0,0,[],[],()),jv c]⟩
theorem aNF (a:Sh.V ay) (l:Sh.V aC) (b c d e f g:Int) (h:ai):MG a l b c d e f g h=bP 62 [ag,c5V [100,111]] [aA l] fun n m=>aB n (H91 175 [ag,fU 263 [.ptr 1 0,.ptr 2 0]] [aA m,some [.ptr 3 0],jv (b,c,d,e,f,g,h,[],()),jy a] fun _ u8 i j=>a9C j u8 i) (a9C a m (b,c,d,e,f,g,h,[],())):=by kernel_rfl
theorem aNE (a:Sh.V ay) (b:Sh.V aC) (c:Sh.V kC):a9C a b c=bJ 16 [ag,c5V [59]] [aA b] fun _ d=>some (A9 c,[aK a,aA d]):=by kernel_rfl
theorem bIH (a1:Sh.V S5) (i:Sh.V ay) (j:Sh.V aC):SS.CC 226 [ag,A5 a1] [aK i,aA j]=qH 137 [] fun e=>Cb 261 [ag,a_ a1.2.1] [aK i,aA j] fun l n u16=>Cb 261 [ag,a_ a1.2.2.1] [aK n,aA u16] fun b f u32=>Cb 261 [ag,a_ a1.2.1] [aK f,aA u32] fun c m g=>bP 62 [ag,c5V [119,104,101,110]] [aA g] fun h d=>aB h (pO 262 [ag] [aK m,aA d] fun a o p=>MG o p l b c a.1 a.2.1 a.2.2.1 a.2.2.2.1) (MG m d l b c e.1 e.2.1 e.2.2.1 e.2.2.2.1):=cc
def bIL:KT:=SS.rK Tryz.f238 238 3 []
def bIM:KT:=SS.jK 238 22 3 (cS Tryz.f238 15) bIL
def bIN:KT:=aW 0 bIM
def a9D (b:ai) (c:Sh.V dF) (d:Sh.V aC) (e:ai) (a:Int):R:=SS.LL (SS.ae 238 22) 3 [1,5,8,9,10] 3 (cS Tryz.f238 75) bIN ⟨[(1,fU 239 [ag]),(5,.sl true 1 e),(8,a_ b),(9,af (b.length:Int)),(10,af a)],[some [.ptr 1 0],aX c,aA d]⟩
theorem a0X (b:ai) (d:Sh.V dF) (e:Sh.V aC) (c:ai) (a:Int):a9D b d e c a=aB (decide (a<(b.length:Int))) (di b a fun f=>vS f fun g=>Td 239 [.str g,ag] [some [.ptr 1 0],aX d,aA e] fun h i j=>b_ (decide (c.length+1<=aO)) (a9D b i j (c ++ ([.bool h]:ai)) (i64.wrap (a+1)))) (some (a_ c,[some [.ptr 1 0],aX d,aA e])):=ll
theorem bIO (a0:ai) (a:Sh.V dF) (b:Sh.V aC):SS.CC 238 [a_ a0,fU 239 [ag]] [some [.ptr 1 0],aX a,aA b]=a9D a0 a b [] 0:=cc
theorem bIP (a0:fQ) (a:Sh.V dF) (b:Sh.V aC):SS.CC 239 [.str a0,ag] [some [.ptr 1 0],aX a,aA b]=bP 62 [ag,.str a0] [aA b] fun c d=>some (.bool c,[some [.ptr 1 0],aX a,aA d]):=cc
theorem bIQ (a:Sh.V kC) (b:Sh.V iH) (f:Sh.V aC):SS.CC 241 [ag,.ptr 1 0] [some [.ptr 2 0],jv a,gY b,aA f]=gQ fun g=>(fun w=>bf (g 1 w) w) (Cc 240 [ag,a_ b.2.1] [bF b,aA f] fun h i j=>bJ 16 [ag,c5V [58,61]] [aA j] fun _ c=>yZ 27 [ag] [bF i,aA c] fun u16 d e=>b_ (decide (a.2.2.2.2.2.2.2.1.length+1<=aO)) (d_ [some [.ptr 2 0],jv (a.1,a.2.1,a.2.2.1,a.2.2.2.1,a.2.2.2.2.1,a.2.2.2.2.2.1,a.2.2.2.2.2.2.1,(a.2.2.2.2.2.2.2.1 ++ ([LW (h,u16.1,u16.2.1,u16.2.2.1,u16.2.2.2.1,())]:ai)),()),gY d,aA e])):=pR cc
theorem aK7 (j:Sh.V ay) (l:Sh.V aC):SS.CC 262 [ag] [aK j,aA l]=Xy 276 [ag,a_ [af 12],fU 277 [.ptr 1 0]] [dQ j,some [ag],aA l] fun m n b=>bP 62 [ag,c5V [63]] [aA b] fun c a=>aB (!c) (some (A1 m,[aK n,aA a])) (pO 262 [ag] [aK n,aA a] fun d e f=>bJ 16 [ag,c5V [58]] [aA f] fun _ g=>pO 262 [ag] [aK e,aA g] fun h i o=>some (A1 (13,0,0,[A1 m,A1 d,A1 h],()),[aK i,aA o])):=cc
def bBF:KT:=SS.rK Tryz.f276 276 3 []
def bBG:KT:=SS.jK 276 34 3 (cS Tryz.f276 15) bBF
def bBH:KT:=aW 0 bBG
def Zu (a:ai) (b:Sh.V jh) (c:Sh.V aC) (d:Sh.V S1):R:=SS.LL (SS.ae 276 34) 3 [1,2,3,6,7] 6 (cS Tryz.f276 35) bBH ⟨[(1,a_ a),(2,fU 277 [.ptr 1 0]),(3,.ptr 3 0),(6,.ptr 4 0),(7,.ptr 5 0)],[dQ b,some [ag],aA c,some [ag],GZ (0,0,0,[],()),O1 d]⟩
theorem bBI (d:ai) (l:Sh.V jh) (m:Sh.V aC) (e:Sh.V S1):Zu d l m e=gQ fun p=>CX 37 [ag] [aK l,aA m] fun q n a=>aB (!q) (Ld 258 [a_ d,fU 285 [ag]] [some [.ptr 1 0],dQ n,aA a] fun b o c=>aB (decide (b<0)) (some (A1 e,[dQ o,some [ag],aA c])) (fJ 63 [ag] [aA c] fun r f=>di d b fun g=>vI .i64 g fun h=>p 1 (GM 277 [ag] [some [.ptr 1 0],dQ o,aA f] fun i t j=>Zu d t j (h,0,0,[A1 e,A1 i],())))) (some (A1 e,[dQ n,some [ag],aA a])):=pR ll
theorem bBJ (a1:ai) (b:Sh.V jh) (c:Sh.V aC):SS.CC 276 [ag,a_ a1,fU 277 [.ptr 1 0]] [dQ b,some [ag],aA c]=GM 277 [ag] [some [.ptr 1 0],dQ b,aA c] fun d e a=>Zu a1 e a d:=cc
def bBK:KT:=SS.rK Tryz.f276 276 2 []
def bBL:KT:=SS.jK 276 34 2 (cS Tryz.f276 15) bBK
def bBM:KT:=aW 0 bBL
def Zv (a:ai) (b:Sh.V ay) (c:Sh.V aC) (d:Sh.V S1):R:=SS.LL (SS.ae 276 34) 2 [1,2,3,6,7] 5 (cS Tryz.f276 35) bBM ⟨[(1,a_ a),(2,.func (.func 278) [ag] []),(3,.ptr 2 0),(6,.ptr 3 0),(7,.ptr 4 0)],[aK b,aA c,some [ag],GZ (0,0,0,[],()),O1 d]⟩
theorem bBN (d:ai) (l:Sh.V ay) (m:Sh.V aC) (e:Sh.V S1):Zv d l m e=gQ fun p=>CX 37 [ag] [aK l,aA m] fun q n a=>aB (!q) (Ld 258 [a_ d,fU 285 [ag]] [some [.ptr 1 0],dQ n,aA a] fun b o c=>aB (decide (b<0)) (some (A1 e,[aK o,aA c])) (fJ 63 [ag] [aA c] fun r f=>di d b fun g=>vI .i64 g fun h=>p 1 (pO 278 [ag] [aK o,aA f] fun i t j=>Zv d t j (h,0,0,[A1 e,A1 i],())))) (some (A1 e,[aK n,aA a])):=pR ll
theorem bBO (a1:ai) (b:Sh.V ay) (c:Sh.V aC):SS.CC 276 [ag,a_ a1,.func (.func 278) [ag] []] [aK b,aA c]=pO 278 [ag] [aK b,aA c] fun d e a=>Zv a1 e a d:=cc
def bBP:KT:=SS.rK Tryz.f276 276 3 []
def bBQ:KT:=SS.jK 276 34 3 (cS Tryz.f276 15) bBP
def bBR:KT:=aW 0 bBQ
def a8R (a:ai) (b:Sh.V jh) (c:Sh.V aC) (d:Sh.V S1):R:=SS.LL (SS.ae 276 34) 3 [1,2,3,6,7] 6 (cS Tryz.f276 35) bBR ⟨[(1,a_ a),(2,fU 292 [.ptr 1 0]),(3,.ptr 3 0),(6,.ptr 4 0),(7,.ptr 5 0)],[dQ b,some [ag],aA c,some [ag],GZ (0,0,0,[],()),O1 d]⟩
theorem bBS (d:ai) (l:Sh.V jh) (m:Sh.V aC) (e:Sh.V S1):a8R d l m e=gQ fun p=>CX 37 [ag] [aK l,aA m] fun q n a=>aB (!q) (Ld 258 [a_ d,fU 285 [ag]] [some [.ptr 1 0],dQ n,aA a] fun b o c=>aB (decide (b<0)) (some (A1 e,[dQ o,some [ag],aA c])) (fJ 63 [ag] [aA c] fun r f=>di d b fun g=>vI .i64 g fun h=>p 1 (GM 292 [ag] [some [.ptr 1 0],dQ o,aA f] fun i t j=>a8R d t j (h,0,0,[A1 e,A1 i],())))) (some (A1 e,[dQ n,some [ag],aA a])):=pR ll
theorem bBT (a1:ai) (b:Sh.V jh) (c:Sh.V aC):SS.CC 276 [ag,a_ a1,fU 292 [.ptr 1 0]] [dQ b,some [ag],aA c]=GM 292 [ag] [some [.ptr 1 0],dQ b,aA c] fun d e a=>a8R a1 e a d:=cc
def bBU:KT:=SS.rK Tryz.f276 276 2 []
def bBV:KT:=SS.jK 276 34 2 (cS Tryz.f276 15) bBU
def bBW:KT:=aW 0 bBV
def a8S (a:ai) (b:Sh.V ay) (c:Sh.V aC) (d:Sh.V S1):R:=SS.LL (SS.ae 276 34) 2 [1,2,3,6,7] 5 (cS Tryz.f276 35) bBW ⟨[(1,a_ a),(2,.func (.func 293) [ag] []),(3,.ptr 2 0),(6,.ptr 3 0),(7,.ptr 4 0)],[aK b,aA c,some [ag],GZ (0,0,0,[],()),O1 d]⟩
theorem bBX (d:ai) (l:Sh.V ay) (m:Sh.V aC) (e:Sh.V S1):a8S d l m e=gQ fun p=>CX 37 [ag] [aK l,aA m] fun q n a=>aB (!q) (Ld 258 [a_ d,fU 285 [ag]] [some [.ptr 1 0],dQ n,aA a] fun b o c=>aB (decide (b<0)) (some (A1 e,[aK o,aA c])) (fJ 63 [ag] [aA c] fun r f=>di d b fun g=>vI .i64 g fun h=>p 1 (pO 293 [ag] [aK o,aA f] fun i t j=>a8S d t j (h,0,0,[A1 e,A1 i],())))) (some (A1 e,[aK n,aA a])):=pR ll
theorem bBY (a1:ai) (b:Sh.V ay) (c:Sh.V aC):SS.CC 276 [ag,a_ a1,.func (.func 293) [ag] []] [aK b,aA c]=pO 293 [ag] [aK b,aA c] fun d e a=>a8S a1 e a d:=cc
theorem bBZ (b:Sh.V jh) (c:Sh.V aC):SS.CC 277 [ag] [some [.ptr 1 0],dQ b,aA c]=pO 276 [ag,a_ [af 11],.func (.func 278) [ag] []] [aK b,aA c] fun d e a=>some (A1 d,[some [.ptr 1 0],dQ e,aA a]):=cc
def bC0:KT:=SS.rK Tryz.f278 278 2 []
def bC1:KT:=SS.jK 278 49 2 (cS Tryz.f278 15) bC0
def bC2:KT:=aW 0 bC1
def JR (b:Sh.V ay) (c:Sh.V aC) (d:Sh.V S1) (a:Int):R:=SS.LL (SS.ae 278 49) 2 [0,2,3,8,9,10] 4 (cS Tryz.f278 75) bC2 ⟨[(0,ag),(2,.ptr 2 0),(3,.ptr 3 0),(8,.sl true 1 [af 6,af 7,af 9,af 8]),(9,af 4),(10,af a)],[aK b,aA c,GZ (0,0,0,[],()),O1 d]⟩
theorem a8T (b:Sh.V ay) (e:Sh.V aC) (c:Sh.V S1) (a:Int):JR b e c a=aB (decide (a<4)) (di [af 6,af 7,af 9,af 8] a fun q=>vI .i64 q fun o=>G2 274 [af o] fun r=>bP 62 [ag,.str r] [aA e] fun t p=>aB t (pO 286 [ag] [aK b,aA p] fun f u16 g=>some (A1 (o,0,0,[A1 c,A1 f],()),[aK u16,aA g])) (JR b p c (i64.wrap (a+1)))) (bP 62 [ag,c5V [62,61]] [aA e] fun h u32=>aB h (pO 286 [ag] [aK b,aA u32] fun i j l=>some (A1 (9,0,0,[A1 i,A1 c],()),[aK j,aA l])) (bP 62 [ag,c5V [62]] [aA u32] fun m d=>aB m (pO 286 [ag] [aK b,aA d] fun u64 n u=>some (A1 (8,0,0,[A1 u64,A1 c],()),[aK n,aA u])) (some (A1 c,[aK b,aA d])))):=ll
theorem bC3 (b:Sh.V ay) (c:Sh.V aC):SS.CC 278 [ag] [aK b,aA c]=pO 286 [ag] [aK b,aA c] fun d e a=>JR e a d 0:=cc
def bEB:KT:=SS.rK Tryz.f258 258 3 []
def bEC:KT:=SS.jK 258 19 3 (cS Tryz.f258 7) bEB
def bED:KT:=aW 0 bEC
def a02 (a:ai) (b:Sh.V jh) (c:Sh.V aC) (d:Int):R:=SS.LL (SS.ae 258 19) 3 [0,1,7,8] 3 (cS Tryz.f258 37) bED ⟨[(0,a_ a),(1,fU 285 [ag]),(7,af (a.length:Int)),(8,af d)],[some [.ptr 1 0],dQ b,aA c]⟩
theorem aM8 (c:ai) (d:Sh.V jh) (e:Sh.V aC) (a:Int):a02 c d e a=aB (decide (a<(c.length:Int))) (di c a fun g=>vI .i64 g fun h=>Lp 285 [af h,ag] [some [.ptr 1 0],dQ d,aA e] fun i f b=>aB i (some (af a,[some [.ptr 1 0],dQ f,aA b])) (a02 c f b (i64.wrap (a+1)))) (some (af (-1),[some [.ptr 1 0],dQ d,aA e])):=ll
theorem bEE (a0:ai) (a:Sh.V jh) (b:Sh.V aC):SS.CC 258 [a_ a0,fU 285 [ag]] [some [.ptr 1 0],dQ a,aA b]=a02 a0 a b 0:=cc
theorem bEF (a0:Int) (a:Sh.V jh) (b:Sh.V aC):SS.CC 285 [af a0,ag] [some [.ptr 1 0],dQ a,aA b]=G2 274 [af a0] fun s1=>bP 144 [ag,.str s1] [aA b] fun c d=>some (.bool c,[some [.ptr 1 0],dQ a,aA d]):=cc
theorem bEH (b:Sh.V ay) (c:Sh.V aC):SS.CC 286 [ag] [aK b,aA c]=Xy 276 [ag,a_ [af 2,af 3],fU 292 [.ptr 1 0]] [dQ b,some [ag],aA c] fun d e a=>some (A1 d,[aK e,aA a]):=cc
theorem bI3 (b:Sh.V jh) (c:Sh.V aC):SS.CC 292 [ag] [some [.ptr 1 0],dQ b,aA c]=pO 276 [ag,a_ [af 4],.func (.func 293) [ag] []] [aK b,aA c] fun d e a=>some (A1 d,[some [.ptr 1 0],dQ e,aA a]):=cc
def bI5:KT:=SS.rK Tryz.f293 293 2 []
def QP (a:Sh.V ay) (b:Sh.V aC):R:=bC (SS.xX 293 99 2) (cS Tryz.f293 7) bI5 ⟨[(1,.ptr 2 0),(2,.ptr 3 0)],[aK a,aA b,some [ag],GZ (0,0,0,[],())]⟩
theorem bI4 (a:Sh.V ay) (c:Sh.V aC):QP a c=Cb 261 [ag,a_ a.2.2.2.2.2.2.2.1] [aK a,aA c] fun d e b=>some (A1 (1,0,(if (0:Int)>d then (0:Int) else d),[],()),[aK e,aA b]):=by kernel_rfl
theorem H5 (b:Sh.V ay) (v:Sh.V aC):SS.CC 293 [ag] [aK b,aA v]=fJ 19 [ag] [aA v] fun c x=>bP 144 [ag,c5V [33]] [aA x] fun i d=>aB i (pO 296 [ag,.func (.func 293) [ag] []] [aK b,aA d] fun y j u32=>some (A1 (10,0,0,[A1 y],()),[aK j,aA u32])) (bP 144 [ag,c5V [45]] [aA d] fun l w=>aB l (aGH 296 [ag,fU 297 [.ptr 1 0,.ptr 2 0]] [iZ b,some [ag],jM (false,()),aA w] fun e f m g=>aB m.1 (some (A1 (0,i64.wrap (0-e.2.1),0,[],()),[aK f,aA g])) (some (A1 (5,0,0,[A1 e],()),[aK f,aA g]))) (bP 144 [ag,c5V [40]] [aA w] fun n a=>aB n (Xy 296 [ag,fU 298 [.ptr 1 0]] [dQ b,some [ag],aA a] fun o p q=>some (A1 o,[aK p,aA q])) (aB (c.1==2) (fJ 63 [ag] [aA a] fun z A=>some (A1 (0,c.2.2.1,0,[],()),[aK b,aA A])) (aB (c.1==1) (aB (c.2.1.toList==(⟨#[116,114,117,101]⟩:fQ).toList) (fJ 63 [ag] [aA a] fun F r=>qH 137 [] fun t=>some (A1 t,[aK b,aA r])) (aB (c.1==1) (aB (c.2.1.toList==(⟨#[102,97,108,115,101]⟩:fQ).toList) (fJ 63 [ag] [aA a] fun B C=>qH 138 [] fun D=>some (A1 D,[aK b,aA C])) (QP b a)) (QP b a))) (aB (c.1==1) (aB (c.2.1.toList==(⟨#[102,97,108,115,101]⟩:fQ).toList) (fJ 63 [ag] [aA a] fun E h=>qH 138 [] fun u=>some (A1 u,[aK b,aA h])) (QP b a)) (QP b a)))))):=cc
theorem aNR (b:Sh.V ay) (c:Sh.V aC):SS.CC 296 [ag,.func (.func 293) [ag] []] [aK b,aA c]=aB (b.2.2.2.2.2.2.2.2.1==32) (bJ 21 [ag,af 3] [aA c] fun _ f=>some (A1 (0,0,0,[],()),[aK b,aA f])) (fJ 63 [ag] [aA c] fun h d=>pO 293 [ag] [aK (b.1,b.2.1,b.2.2.1,b.2.2.2.1,b.2.2.2.2.1,b.2.2.2.2.2.1,b.2.2.2.2.2.2.1,b.2.2.2.2.2.2.2.1,i64.wrap (b.2.2.2.2.2.2.2.2.1+1),()),aA d] fun g a e=>some (A1 g,[aK (a.1,a.2.1,a.2.2.1,a.2.2.2.1,a.2.2.2.2.1,a.2.2.2.2.2.1,a.2.2.2.2.2.2.1,a.2.2.2.2.2.2.2.1,i64.wrap (a.2.2.2.2.2.2.2.2.1-1),()),aA e])):=cc
theorem aNS (b:Sh.V jW) (c:Bool) (d:Sh.V aC):SS.CC 296 [ag,fU 297 [.ptr 1 0,.ptr 2 0]] [iZ b,some [ag],jM (c,()),aA d]=aB (b.2.2.2.2.2.2.2.2.1==32) (bJ 21 [ag,af 3] [aA d] fun _ g=>some (A1 (0,0,0,[],()),[iZ b,some [ag],jM (c,()),aA g])) (fJ 63 [ag] [aA d] fun i e=>a6K 297 [ag,.ptr 1 0] [some [.ptr 2 0],jM (c,()),iZ (b.1,b.2.1,b.2.2.1,b.2.2.2.1,b.2.2.2.2.1,b.2.2.2.2.2.1,b.2.2.2.2.2.2.1,b.2.2.2.2.2.2.2.1,i64.wrap (b.2.2.2.2.2.2.2.2.1+1),()),aA e] fun h f a u32=>some (A1 h,[iZ (a.1,a.2.1,a.2.2.1,a.2.2.2.1,a.2.2.2.2.1,a.2.2.2.2.2.1,a.2.2.2.2.2.2.1,a.2.2.2.2.2.2.2.1,i64.wrap (a.2.2.2.2.2.2.2.2.1-1),()),some [ag],jM f,aA u32])):=cc
theorem aNT (b:Sh.V jh) (c:Sh.V aC):SS.CC 296 [ag,fU 298 [.ptr 1 0]] [dQ b,some [ag],aA c]=aB (b.2.2.2.2.2.2.2.2.1==32) (bJ 21 [ag,af 3] [aA c] fun _ f=>some (A1 (0,0,0,[],()),[dQ b,some [ag],aA f])) (fJ 63 [ag] [aA c] fun h d=>GM 298 [ag] [some [.ptr 1 0],dQ (b.1,b.2.1,b.2.2.1,b.2.2.2.1,b.2.2.2.2.1,b.2.2.2.2.2.1,b.2.2.2.2.2.2.1,b.2.2.2.2.2.2.2.1,i64.wrap (b.2.2.2.2.2.2.2.2.1+1),()),aA d] fun g a e=>some (A1 g,[dQ (a.1,a.2.1,a.2.2.1,a.2.2.2.1,a.2.2.2.2.1,a.2.2.2.2.2.1,a.2.2.2.2.2.2.1,a.2.2.2.2.2.2.2.1,i64.wrap (a.2.2.2.2.2.2.2.2.1-1),()),some [ag],aA e])):=cc
theorem bJ2 (e:Bool) (c:Sh.V jW) (d:Sh.V aC):SS.CC 297 [ag,.ptr 1 0] [some [.ptr 2 0],jM (e,()),iZ c,aA d]=fJ 19 [ag] [aA d] fun f g=>pO 293 [ag] [aK c,aA g] fun a u16 b=>some (A1 a,[some [.ptr 2 0],jM ((f.1==2),()),iZ u16,aA b]):=cc
theorem bJ3 (c:Sh.V jh) (d:Sh.V aC):SS.CC 298 [ag] [some [.ptr 1 0],dQ c,aA d]=pO 262 [ag] [aK c,aA d] fun e f a=>bJ 16 [ag,c5V [41]] [aA a] fun _ b=>some (A1 e,[some [.ptr 1 0],dQ f,aA b]):=cc
theorem aNH (a:Sh.V dY) (b:Sh.V Gf) (c:Sh.V aC):SS.CC 227 [ag,.ptr 1 0] [dB a,some [.ptr 2 0],Ci b,aA c]=gQ fun f=>(fun e g=>bf e (bf e g)) (kN 17 [ag] [aA c] fun s1 d=>b_ (decide (a.2.2.1.length+1<=aO)) (d_ [dB (a.1,a.2.1,(a.2.2.1 ++ ([.str s1]:ai)),()),some [.ptr 2 0],Ci b,aA d])) (f 1 (kN 17 [ag] [aA c] fun s1 d=>b_ (decide (a.2.2.1.length+1<=aO)) (d_ [dB (a.1,a.2.1,(a.2.2.1 ++ ([.str s1]:ai)),()),some [.ptr 2 0],Ci b,aA d]))):=pR cc
end
section
theorem aNI (a0:fQ):SS.CC 5 [.str a0] []=G9 6 [.str a0] fun c=>G9 11 [.str a0] fun a=>G10 12 [.str a0] fun b=>aB (c.2.2.2.1.1 != a.2.2.2.1.1) l7 (aB (c.2.1.1 != a.2.1.1) l7 (aB (c.2.2.1.1 != a.2.2.1.1) l7 (G3 13 [A0 c.1,A0 a.1] fun d=>aB (!d) l7 (aB (a.2.2.2.1.1 != 0) (aB (b.1.1.toList==(⟨#[]⟩:fQ).toList) (aB (b.2.1.1==a.2.1.1) (aB (b.2.2.1.1==a.2.2.1.1) (some (.bool (b.2.2.2.1.1==a.2.2.2.1.1),[])) l7) l7) l7) (aB (b.2.2.2.1.1==0) (aB (b.2.1.1==0) (aB (b.2.2.1.1==0) (G2 14 [A0 a.1] fun e=>some (.bool (b.1.1.toList==e.toList),[])) l7) l7) l7))))):=cc
def a9I:KT:=SS.rK Tryz.f6 6 0 []
def bJ9:KT:=SS.jK 6 65 0 (cS Tryz.f6 127) a9I
def bJA:KT:=aW 0 bJ9
def VM (a:Sh.V jO) (b:Sh.V aC) (c:Sh.V eQ):R:=SS.LL (SS.ae 6 65) 0 [2,6] 3 (cS Tryz.f6 287) bJA ⟨[(2,ag),(6,.ptr 2 0)],[bZ a,aA b,bF c]⟩
def VK (a:Sh.V jO) (b:Sh.V aC) (c:Sh.V eQ):R:=bC (SS.xX 6 65 0) (cS Tryz.f6 127) a9I ⟨[(2,ag),(6,.ptr 2 0)],[bZ a,aA b,bF c]⟩
def VJ (a:Sh.V jO) (b:Sh.V aC) (c:Sh.V eQ):R:=bC (SS.xX 6 65 0) (cS Tryz.f6 255) a9I ⟨[(2,ag),(6,.ptr 2 0)],[bZ a,aA b,bF c]⟩
theorem bJB (b:Sh.V jO) (h:Sh.V aC) (i:Sh.V eQ):VM b h i=Tf 18 [ag] [bF i,aA h] fun l c j=>aB l (fJ 19 [ag] [aA j] fun d a=>aB (d.1 != 4) (Ir 20 [ag,.ptr 1 0] [aX c,bZ b,aA a] fun _ e f g=>VM f g e) (VK b a c)) (VK b j c):=ll
theorem aNV (a:Sh.V jO) (d:Sh.V aC) (e:Sh.V eQ):VK a d e=Tf 18 [ag] [bF e,aA d] fun h f g=>aB h (G1 22 [A0 a] fun b=>bJ 21 [ag,af b] [aA g] fun _ c=>VJ a c f) (VJ a g f):=by kernel_rfl
theorem aNU (b:Sh.V jO) (c:Sh.V aC) (d:Sh.V eQ):VJ b c d=P9 23 [ag] [aA c] fun a e=>aB (a.2.2.1.1 != 0) (some (.tuple [A0 (⟨#[]⟩,[],[],[],[],[],[],()),af a.1.1,af a.2.1.1,af a.2.2.1.1],[])) (some (.tuple [A0 b,af 0,af 0,af 0],[])):=by kernel_rfl
theorem bJC (a0:fQ):SS.CC 6 [.str a0] []=H14 15 [.str a0] [] fun d=>bJ 16 [ag,c5V [109,111,100,101,108]] [aA d] fun _ e=>kN 17 [ag] [aA e] fun a b=>bJ 16 [ag,c5V [59]] [aA b] fun _ c=>VM (a,[],[],[],[],[],[],()) c (0,[],()):=cc
theorem bJD (a0 a1:Sh.V S0):SS.CC 13 [A0 a0,A0 a1] []=aB (a0.1.toList==a1.1.toList) (G3 50 [.sl false 5 a0.2.1,.sl false 5 a1.2.1] fun c=>aB c (H27 51 [.sl false 9 a0.2.2.1,.sl false 9 a1.2.2.1,fU 44 [ag]] [some [h_ 40]] fun d=>aB d (G3 52 [.sl false 3 a0.2.2.2.1,.sl false 3 a1.2.2.2.1,h_ 49] fun e=>aB e (G3 52 [.sl false 3 a0.2.2.2.2.1,.sl false 3 a1.2.2.2.2.1,h_ 49] fun f=>aB f (G3 53 [.sl false 2 a0.2.2.2.2.2.1,.sl false 2 a1.2.2.2.2.2.1,h_ 54] fun a=>aB a (G3 56 [.sl false 3 a0.2.2.2.2.2.2.1,.sl false 3 a1.2.2.2.2.2.2.1,h_ 57] fun b=>some (.bool b,[])) l7) l7) l7) l7) l7) l7:=cc
theorem aNW (a0:fQ):SS.CC 12 [.str a0] []=G9 6 [.str a0] fun b=>aB (b.2.2.2.1.1 != 0) (some (.tuple [c5V [],af b.2.1.1,af b.2.2.1.1,af b.2.2.2.1.1],[])) (G0 7 [A0 b.1] fun a=>aB (a.2.1.1 != 0) (some (.tuple [c5V [],af 1,af 1,af a.2.1.1],[])) (some (.tuple [.str a.1.1,af 0,af 0,af 0],[]))):=cc
def bLR:KT:=SS.rK Tryz.f76 76 0 []
def bLS:KT:=SS.jK 76 22 0 (cS Tryz.f76 15) bLR
def bLT:KT:=aW 0 bLS
def a1J (b c:ai) (a:Int):R:=SS.LL (SS.ae 76 22) 0 [1,5,8,9,10] 0 (cS Tryz.f76 75) bLT ⟨[(1,h_ 172),(5,.sl true 1 c),(8,.sl false 3 b),(9,af (b.length:Int)),(10,af a)],[]⟩
theorem aOX (b c:ai) (a:Int):a1J b c a=aB (decide (a<(b.length:Int))) (ak S8 b a fun d=>G2 172 [A8 d] fun e=>b_ (decide (c.length+1<=aO)) (a1J b (c ++ ([.str e]:ai)) (i64.wrap (a+1)))) (some (a_ c,[])):=ll
theorem bLU (a0:ai):SS.CC 76 [.sl false 3 a0,h_ 172] []=a1J a0 [] 0:=cc
def bL':KT:=SS.rK Tryz.f78 78 0 []
def bM0:KT:=SS.jK 78 22 0 (cS Tryz.f78 15) bL'
def bM1:KT:=aW 0 bM0
def Z_ (b c:ai) (a:Int):R:=SS.LL (SS.ae 78 22) 0 [1,5,8,9,10] 0 (cS Tryz.f78 75) bM1 ⟨[(1,h_ 165),(5,.sl true 1 c),(8,.sl false 9 b),(9,af (b.length:Int)),(10,af a)],[]⟩
theorem aOZ (b c:ai) (a:Int):Z_ b c a=aB (decide (a<(b.length:Int))) (ak S5 b a fun d=>G2 165 [A5 d] fun yj=>b_ (decide (c.length+1<=aO)) (Z_ b (c ++ ([.str yj]:ai)) (i64.wrap (a+1)))) (some (a_ c,[])):=ll
theorem bM2 (a0:ai):SS.CC 78 [.sl false 9 a0,h_ 165] []=Z_ a0 [] 0:=cc
def bM8:KT:=SS.rK Tryz.f80 80 0 []
def bM9:KT:=SS.jK 80 22 0 (cS Tryz.f80 15) bM8
def bMA:KT:=aW 0 bM9
def OW (b c:ai) (a:Int):R:=SS.LL (SS.ae 80 22) 0 [1,5,8,9,10] 0 (cS Tryz.f80 75) bMA ⟨[(1,h_ 174),(5,.sl true 1 c),(8,.sl false 2 b),(9,af (b.length:Int)),(10,af a)],[]⟩
theorem aP0 (b c:ai) (a:Int):OW b c a=aB (decide (a<(b.length:Int))) (ak kP b a fun d=>G2 174 [CU d] fun e=>b_ (decide (c.length+1<=aO)) (OW b (c ++ ([.str e]:ai)) (i64.wrap (a+1)))) (some (a_ c,[])):=ll
theorem bMB (a0:ai):SS.CC 80 [.sl false 2 a0,h_ 174] []=OW a0 [] 0:=cc
def bMH:KT:=SS.rK Tryz.f82 82 0 []
def bMI:KT:=SS.jK 82 22 0 (cS Tryz.f82 15) bMH
def bMJ:KT:=aW 0 bMI
def a1P (b c:ai) (a:Int):R:=SS.LL (SS.ae 82 22) 0 [1,5,8,9,10] 0 (cS Tryz.f82 75) bMJ ⟨[(1,h_ 177),(5,.sl true 1 c),(8,.sl false 3 b),(9,af (b.length:Int)),(10,af a)],[]⟩
theorem aP2 (b c:ai) (a:Int):a1P b c a=aB (decide (a<(b.length:Int))) (ak jV b a fun d=>G2 177 [xW d] fun e=>b_ (decide (c.length+1<=aO)) (a1P b (c ++ ([.str e]:ai)) (i64.wrap (a+1)))) (some (a_ c,[])):=ll
theorem bMK (a0:ai):SS.CC 82 [.sl false 3 a0,h_ 177] []=a1P a0 [] 0:=cc
def a8J:KT:=SS.rK Tryz.f11 11 0 []
def b5':KT:=SS.jK 11 79 0 (cS Tryz.f11 127) a8J
def b62:KT:=aW 0 b5'
def Ul (a:Sh.V aC) (b:Sh.V ay):R:=SS.LL (SS.ae 11 79) 0 [2,6] 3 (cS Tryz.f11 287) b62 ⟨[(2,ag),(6,.ptr 2 0)],[bZ (⟨#[]⟩,[],[],[],[],[],[],()),aA a,aK b]⟩
def Uk (a:Sh.V aC) (b:Sh.V ay):R:=bC (SS.xX 11 79 0) (cS Tryz.f11 127) a8J ⟨[(2,ag),(6,.ptr 2 0)],[bZ (⟨#[]⟩,[],[],[],[],[],[],()),aA a,aK b]⟩
def Uj (a:Sh.V aC) (b:Sh.V ay):R:=bC (SS.xX 11 79 0) (cS Tryz.f11 255) a8J ⟨[(2,ag),(6,.ptr 2 0)],[bZ (⟨#[]⟩,[],[],[],[],[],[],()),aA a,aK b]⟩
theorem b63 (f:Sh.V aC) (g:Sh.V ay):Ul f g=CX 37 [ag] [aK g,aA f] fun h c a=>aB (!h) (fJ 19 [ag] [aA a] fun i b=>aB (i.1 != 4) (PE 38 [ag] [aK c,aA b] fun _ d e=>Ul e d) (Uk b c)) (Uk a c):=ll
theorem aKG (d:Sh.V aC) (e:Sh.V ay):Uk d e=CX 37 [ag] [aK e,aA d] fun f a b=>aB (!f) (G1 39 [A0 (a.1,a.2.1,a.2.2.1,a.2.2.2.1,a.2.2.2.2.1,a.2.2.2.2.2.1,a.2.2.2.2.2.2.1,())] fun c=>bJ 21 [ag,af c] [aA b] fun _ g=>Uj g a) (Uj b a):=by kernel_rfl
theorem aKF (c:Sh.V aC) (a:Sh.V ay):Uj c a=P9 23 [ag] [aA c] fun b d=>aB (b.2.2.1.1 != 0) (some (.tuple [A0 (⟨#[]⟩,[],[],[],[],[],[],()),af b.1.1,af b.2.1.1,af b.2.2.1.1],[])) (some (.tuple [A0 (a.1,a.2.1,a.2.2.1,a.2.2.2.1,a.2.2.2.2.1,a.2.2.2.2.2.1,a.2.2.2.2.2.2.1,()),af 0,af 0,af 0],[])):=by kernel_rfl
theorem b69 (a0:fQ):SS.CC 11 [.str a0] []=H14 15 [.str a0] [] fun d=>bJ 16 [ag,c5V [109,111,100,101,108]] [aA d] fun _ e=>kN 17 [ag] [aA e] fun a b=>bJ 16 [ag,c5V [59]] [aA b] fun _ c=>Ul c (a,[],[],[],[],[],[],[],0,()):=cc
theorem b6C (a:Sh.V eQ) (b:Sh.V aC):SS.CC 18 [ag] [bF a,aA b]=P9 23 [ag] [aA b] fun c d=>some (.bool (c.2.2.1.1==0),[bF a,aA d]):=cc
theorem BN (b:Sh.V dF) (a:Sh.V jO) (F:Sh.V aC):SS.CC 20 [ag,.ptr 1 0] [aX b,bZ a,aA F]=fJ 19 [ag] [aA F] fun d c=>aB (d.2.1.data.toList==(⟨#[99,111,109,112,111,110,101,110,116]⟩:fQ).data.toList) (aB (d.1 != 1) (bJ 21 [ag,af 14] [aA c] fun _ e=>d_ [aX b,bZ a,aA e]) (aB (decide (32<=(a.2.2.2.1.length:Int))) (bJ 21 [ag,af 3] [aA c] fun _ h=>d_ [aX b,bZ a,aA h]) (fJ 63 [ag] [aA c] fun G i=>Lm 68 [ag,.ptr 1 0] [some [.ptr 2 0],some [.ptr 3 0],lU b,bZ a,aA i] fun _ j l m=>d_ [aX j,bZ l,aA m]))) (aB (d.2.1.data.toList==(⟨#[101,118,101,110,116]⟩:fQ).data.toList) (aB (d.1 != 1) (bJ 21 [ag,af 14] [aA c] fun _ n=>d_ [aX b,bZ a,aA n]) (fJ 63 [ag] [aA c] fun H o=>Lm 64 [ag,.ptr 1 0] [some [.ptr 2 0],some [.ptr 3 0],lU b,bZ a,aA o] fun _ f p q=>d_ [aX f,bZ p,aA q])) (aB (d.2.1.data.toList==(⟨#[101,120,99,108,117,100,101]⟩:fQ).data.toList) (aB (d.1 != 1) (bJ 21 [ag,af 14] [aA c] fun _ g=>d_ [aX b,bZ a,aA g]) (aB (decide (32<=(a.2.2.2.2.2.1.length:Int))) (bJ 21 [ag,af 3] [aA c] fun _ I=>d_ [aX b,bZ a,aA I]) (fJ 63 [ag] [aA c] fun J r=>Lm 71 [ag,.ptr 1 0] [some [.ptr 2 0],some [.ptr 3 0],lU b,bZ a,aA r] fun _ t u v=>d_ [aX t,bZ u,aA v]))) (aB (d.2.1.data.toList==(⟨#[108,105,109,105,116]⟩:fQ).data.toList) (aB (d.1 != 1) (bJ 21 [ag,af 14] [aA c] fun _ K=>d_ [aX b,bZ a,aA K]) (aB (decide (32<=(a.2.2.2.2.2.2.1.length:Int))) (bJ 21 [ag,af 3] [aA c] fun _ L=>d_ [aX b,bZ a,aA L]) (fJ 63 [ag] [aA c] fun M N=>Lm 73 [ag,.ptr 1 0] [some [.ptr 2 0],some [.ptr 3 0],lU b,bZ a,aA N] fun _ O Q S=>d_ [aX O,bZ Q,aA S]))) (aB (d.2.1.data.toList==(⟨#[114,101,113,117,105,114,101,109,101,110,116]⟩:fQ).data.toList) (aB (d.1 != 1) (bJ 21 [ag,af 14] [aA c] fun _ w=>d_ [aX b,bZ a,aA w]) (aB (decide (32<=(a.2.2.2.2.1.length:Int))) (bJ 21 [ag,af 3] [aA c] fun _ x=>d_ [aX b,bZ a,aA x]) (fJ 63 [ag] [aA c] fun Au y=>Lm 70 [ag,.ptr 1 0] [some [.ptr 2 0],some [.ptr 3 0],lU b,bZ a,aA y] fun _ z T U=>d_ [aX z,bZ T,aA U]))) (aB (d.2.1.data.toList==(⟨#[116,101,109,112,108,97,116,101]⟩:fQ).data.toList) (aB (d.1 != 1) (bJ 21 [ag,af 14] [aA c] fun _ A=>d_ [aX b,bZ a,aA A]) (aB (decide (16<=(a.2.2.1.length:Int))) (bJ 21 [ag,af 3] [aA c] fun _ B=>d_ [aX b,bZ a,aA B]) (fJ 63 [ag] [aA c] fun X Y=>Lm 66 [ag,.ptr 1 0] [some [.ptr 2 0],some [.ptr 3 0],lU b,bZ a,aA Y] fun _ Z C D=>d_ [aX Z,bZ C,aA D]))) (aB (d.1 != 1) (bJ 21 [ag,af 14] [aA c] fun _ E=>d_ [aX b,bZ a,aA E]) (bJ 21 [ag,af 14] [aA c] fun _ fM=>d_ [aX b,bZ a,aA fM]))))))):=cc
theorem b6F (a0 a1:Sh.V S9):SS.CC 40 [A9 a0,A9 a1] []=aB (a0.1==a1.1) (aB (a0.2.1==a1.2.1) (aB (a0.2.2.1==a1.2.2.1) (G3 41 [A1 (a0.2.2.2.1,a0.2.2.2.2.1,a0.2.2.2.2.2.1,a0.2.2.2.2.2.2.1,()),A1 (a1.2.2.2.1,a1.2.2.2.2.1,a1.2.2.2.2.2.1,a1.2.2.2.2.2.2.1,())] fun a=>aB a (G3 42 [.sl false 5 a0.2.2.2.2.2.2.2.1,.sl false 5 a1.2.2.2.2.2.2.2.1,h_ 43] fun b=>some (.bool b,[])) l7) l7) l7) l7:=cc
def b6G:KT:=SS.rK Tryz.f42 42 0 []
def b6H:KT:=SS.jK 42 32 0 (cS Tryz.f42 15) b6G
def b6I:KT:=aW 0 b6H
def ZT (c a:ai) (b:Int):R:=SS.LL (SS.ae 42 32) 0 [1,2,15,16,17] 0 (cS Tryz.f42 75) b6I ⟨[(1,.sl false 5 c),(2,h_ 43),(15,.sl false 5 a),(16,af (a.length:Int)),(17,af b)],[]⟩
theorem aKH (c b:ai) (a:Int):ZT c b a=aB (decide (a<(b.length:Int))) (ak qm b a fun e=>ak qm c a fun u8=>G3 43 [LW e,LW u8] fun d=>aB (!d) l7 (ZT c b (i64.wrap (a+1)))) vG:=ll
theorem b6J (a0 a1:ai):SS.CC 42 [.sl false 5 a0,.sl false 5 a1,h_ 43] []=aB ((a0.length:Int) !=(a1.length:Int)) l7 (ZT a1 a0 0):=cc
theorem b6K (a0 a1:Sh.V qm):SS.CC 43 [LW a0,LW a1] []=aB (a0.1==a1.1) (G3 41 [A1 (a0.2.1,a0.2.2.1,a0.2.2.2.1,a0.2.2.2.2.1,()),A1 (a1.2.1,a1.2.2.1,a1.2.2.2.1,a1.2.2.2.2.1,())] fun a=>some (.bool a,[])) l7:=cc
theorem b6L (a0 a1:Sh.V S5):SS.CC 44 [A5 a0,A5 a1,ag] [some [h_ 40]]=gQ fun b=>b 1 ((fun w=>aB (a0.1.toList==a1.1.toList) (G3 45 [a_ a0.2.1,a_ a1.2.1] fun c=>aB c (G3 45 [a_ a0.2.2.1,a_ a1.2.2.1] fun d=>aB d (G3 46 [a_ a0.2.2.2.1,a_ a1.2.2.2.1] fun e=>aB e (aB (a0.2.2.2.2.1==a1.2.2.2.2.1) (aB (a0.2.2.2.2.2.1==a1.2.2.2.2.2.1) (G3 46 [a_ a0.2.2.2.2.2.2.1,a_ a1.2.2.2.2.2.2.1] fun f=>aB f (G3 47 [.sl false 4 a0.2.2.2.2.2.2.2.1,.sl false 4 a1.2.2.2.2.2.2.2.1] fun g=>aB g (G3 48 [.sl false 8 a0.2.2.2.2.2.2.2.2.1,.sl false 8 a1.2.2.2.2.2.2.2.2.1,h_ 40] fun a=>some (.bool a,[some [h_ 40]])) w) w) w) w) w) w) w) w) (some (.bool false,[some [h_ 40]]))):=pR cc
def b6M:KT:=SS.rK Tryz.f45 45 0 []
def b6N:KT:=SS.jK 45 26 0 (cS Tryz.f45 15) b6M
def b6O:KT:=aW 0 b6N
def ZU (a b:ai) (c:Int):R:=SS.LL (SS.ae 45 26) 0 [0,1,12,13] 0 (cS Tryz.f45 75) b6O ⟨[(0,a_ a),(1,a_ b),(12,af (a.length:Int)),(13,af c)],[]⟩
theorem aKI (b c:ai) (a:Int):ZU b c a=aB (decide (a<(b.length:Int))) (di b a fun d=>vS d fun e=>di c a fun f=>vS f fun g=>aB (!(e.toList==g.toList)) l7 (ZU b c (i64.wrap (a+1)))) vG:=ll
theorem b6P (a0 a1:ai):SS.CC 45 [a_ a0,a_ a1] []=aB ((a0.length:Int) !=(a1.length:Int)) l7 (ZU a0 a1 0):=cc
def b6T:KT:=SS.rK Tryz.f47 47 0 []
def b6U:KT:=SS.jK 47 26 0 (cS Tryz.f47 15) b6T
def b6V:KT:=aW 0 b6U
def ZW (a b:ai) (c:Int):R:=SS.LL (SS.ae 47 26) 0 [0,1,12,13] 0 (cS Tryz.f47 75) b6V ⟨[(0,.sl false 4 a),(1,.sl false 4 b),(12,af (a.length:Int)),(13,af c)],[]⟩
theorem aKK (b e:ai) (a:Int):ZW b e a=aB (decide (a<(b.length:Int))) (ak S7 b a fun c=>ak S7 e a fun d=>aB (!((c.1.toList==d.1.toList)&&((c.2.1==d.2.1)&&((c.2.2.1==d.2.2.1)&&((c.2.2.2.1==d.2.2.2.1)&&true))))) l7 (ZW b e (i64.wrap (a+1)))) vG:=ll
theorem b6W (a0 a1:ai):SS.CC 47 [.sl false 4 a0,.sl false 4 a1] []=aB ((a0.length:Int) !=(a1.length:Int)) l7 (ZW a0 a1 0):=cc
def b6X:KT:=SS.rK Tryz.f48 48 0 []
def b6Y:KT:=SS.jK 48 32 0 (cS Tryz.f48 15) b6X
def b6Z:KT:=aW 0 b6Y
def ZX (c a:ai) (b:Int):R:=SS.LL (SS.ae 48 32) 0 [1,2,15,16,17] 0 (cS Tryz.f48 75) b6Z ⟨[(1,.sl false 8 c),(2,h_ 40),(15,.sl false 8 a),(16,af (a.length:Int)),(17,af b)],[]⟩
theorem aKL (c b:ai) (a:Int):ZX c b a=aB (decide (a<(b.length:Int))) (ak S9 b a fun f=>ak S9 c a fun d=>G3 40 [A9 f,A9 d] fun e=>aB (!e) l7 (ZX c b (i64.wrap (a+1)))) vG:=ll
theorem b6' (a0 a1:ai):SS.CC 48 [.sl false 8 a0,.sl false 8 a1,h_ 40] []=aB ((a0.length:Int) !=(a1.length:Int)) l7 (ZX a1 a0 0):=cc
theorem b70 (a0 a1:Sh.V S8):SS.CC 49 [A8 a0,A8 a1] []=aB (a0.1.toList==a1.1.toList) (aB (a0.2.1.toList==a1.2.1.toList) (G3 45 [a_ a0.2.2.1,a_ a1.2.2.1] fun a=>some (.bool a,[])) l7) l7:=cc
def b71:KT:=SS.rK Tryz.f50 50 0 []
def b72:KT:=SS.jK 50 26 0 (cS Tryz.f50 15) b71
def b73:KT:=aW 0 b72
def ZY (a b:ai) (c:Int):R:=SS.LL (SS.ae 50 26) 0 [0,1,12,13] 0 (cS Tryz.f50 75) b73 ⟨[(0,.sl false 5 a),(1,.sl false 5 b),(12,af (a.length:Int)),(13,af c)],[]⟩
theorem aKM (c d:ai) (a:Int):ZY c d a=aB (decide (a<(c.length:Int))) (ak S4 c a fun b=>ak S4 d a fun u8=>aB (!((b.1.toList==u8.1.toList)&&((b.2.1==u8.2.1)&&((b.2.2.1==u8.2.2.1)&&((b.2.2.2.1==u8.2.2.2.1)&&((b.2.2.2.2.1==u8.2.2.2.2.1)&&true)))))) l7 (ZY c d (i64.wrap (a+1)))) vG:=ll
theorem b74 (a0 a1:ai):SS.CC 50 [.sl false 5 a0,.sl false 5 a1] []=aB ((a0.length:Int) !=(a1.length:Int)) l7 (ZY a0 a1 0):=cc
def b75:KT:=SS.rK Tryz.f51 51 1 []
def b76:KT:=SS.jK 51 32 1 (cS Tryz.f51 15) b75
def b77:KT:=aW 0 b76
def ZZ (c a:ai) (b:Int):R:=SS.LL (SS.ae 51 32) 1 [1,2,15,16,17] 1 (cS Tryz.f51 75) b77 ⟨[(1,.sl false 9 c),(2,fU 44 [ag]),(15,.sl false 9 a),(16,af (a.length:Int)),(17,af b)],[some [h_ 40]]⟩
theorem aKN (c b:ai) (a:Int):ZZ c b a=aB (decide (a<(b.length:Int))) (ak S5 b a fun f=>ak S5 c a fun d=>H27 44 [A5 f,A5 d,ag] [some [h_ 40]] fun e=>aB (!e) (some (.bool false,[some [h_ 40]])) (ZZ c b (i64.wrap (a+1)))) (some (.bool true,[some [h_ 40]])):=ll
theorem b78 (a0 a1:ai):SS.CC 51 [.sl false 9 a0,.sl false 9 a1,fU 44 [ag]] [some [h_ 40]]=aB ((a0.length:Int) !=(a1.length:Int)) (some (.bool false,[some [h_ 40]])) (ZZ a1 a0 0):=cc
def b79:KT:=SS.rK Tryz.f52 52 0 []
def b7A:KT:=SS.jK 52 32 0 (cS Tryz.f52 15) b79
def b7B:KT:=aW 0 b7A
def Za (c a:ai) (b:Int):R:=SS.LL (SS.ae 52 32) 0 [1,2,15,16,17] 0 (cS Tryz.f52 75) b7B ⟨[(1,.sl false 3 c),(2,h_ 49),(15,.sl false 3 a),(16,af (a.length:Int)),(17,af b)],[]⟩
theorem aKO (c b:ai) (a:Int):Za c b a=aB (decide (a<(b.length:Int))) (ak S8 b a fun d=>ak S8 c a fun e=>G3 49 [A8 d,A8 e] fun f=>aB (!f) l7 (Za c b (i64.wrap (a+1)))) vG:=ll
theorem b7C (a0 a1:ai):SS.CC 52 [.sl false 3 a0,.sl false 3 a1,h_ 49] []=aB ((a0.length:Int) !=(a1.length:Int)) l7 (Za a1 a0 0):=cc
def b7D:KT:=SS.rK Tryz.f53 53 0 []
def b7E:KT:=SS.jK 53 32 0 (cS Tryz.f53 15) b7D
def b7F:KT:=aW 0 b7E
def Zb (c a:ai) (b:Int):R:=SS.LL (SS.ae 53 32) 0 [1,2,15,16,17] 0 (cS Tryz.f53 75) b7F ⟨[(1,.sl false 2 c),(2,h_ 54),(15,.sl false 2 a),(16,af (a.length:Int)),(17,af b)],[]⟩
theorem aKP (c b:ai) (a:Int):Zb c b a=aB (decide (a<(b.length:Int))) (ak kP b a fun d=>ak kP c a fun e=>G3 54 [CU d,CU e] fun f=>aB (!f) l7 (Zb c b (i64.wrap (a+1)))) vG:=ll
theorem b7G (a0 a1:ai):SS.CC 53 [.sl false 2 a0,.sl false 2 a1,h_ 54] []=aB ((a0.length:Int) !=(a1.length:Int)) l7 (Zb a1 a0 0):=cc
theorem b7H (a0 a1:Sh.V kP):SS.CC 54 [CU a0,CU a1] []=aB (a0.1.toList==a1.1.toList) (G3 55 [.sl false 2 a0.2.1,.sl false 2 a1.2.1] fun a=>some (.bool a,[])) l7:=cc
def b7I:KT:=SS.rK Tryz.f55 55 0 []
def b7J:KT:=SS.jK 55 26 0 (cS Tryz.f55 15) b7I
def b7K:KT:=aW 0 b7J
def Zc (a b:ai) (c:Int):R:=SS.LL (SS.ae 55 26) 0 [0,1,12,13] 0 (cS Tryz.f55 75) b7K ⟨[(0,.sl false 2 a),(1,.sl false 2 b),(12,af (a.length:Int)),(13,af c)],[]⟩
theorem aKQ (b c:ai) (a:Int):Zc b c a=aB (decide (a<(b.length:Int))) (ak zt b a fun d=>ak zt c a fun e=>aB (!((d.1.toList==e.1.toList)&&((d.2.1.toList==e.2.1.toList)&&true))) l7 (Zc b c (i64.wrap (a+1)))) vG:=ll
theorem b7L (a0 a1:ai):SS.CC 55 [.sl false 2 a0,.sl false 2 a1] []=aB ((a0.length:Int) !=(a1.length:Int)) l7 (Zc a0 a1 0):=cc
def b7M:KT:=SS.rK Tryz.f56 56 0 []
def b7N:KT:=SS.jK 56 32 0 (cS Tryz.f56 15) b7M
def b7O:KT:=aW 0 b7N
def Zd (c a:ai) (b:Int):R:=SS.LL (SS.ae 56 32) 0 [1,2,15,16,17] 0 (cS Tryz.f56 75) b7O ⟨[(1,.sl false 3 c),(2,h_ 57),(15,.sl false 3 a),(16,af (a.length:Int)),(17,af b)],[]⟩
theorem aKR (c b:ai) (a:Int):Zd c b a=aB (decide (a<(b.length:Int))) (ak jV b a fun d=>ak jV c a fun e=>G3 57 [xW d,xW e] fun f=>aB (!f) l7 (Zd c b (i64.wrap (a+1)))) vG:=ll
theorem b7P (a0 a1:ai):SS.CC 56 [.sl false 3 a0,.sl false 3 a1,h_ 57] []=aB ((a0.length:Int) !=(a1.length:Int)) l7 (Zd a1 a0 0):=cc
theorem b7U (a0 a1:Sh.V jV):SS.CC 57 [xW a0,xW a1] []=aB (a0.1.toList==a1.1.toList) (aB (a0.2.2.1==a1.2.2.1) (G3 58 [.sl false 2 a0.2.1,.sl false 2 a1.2.1] fun a=>some (.bool a,[])) l7) l7:=cc
def b7V:KT:=SS.rK Tryz.f58 58 0 []
def b7W:KT:=SS.jK 58 26 0 (cS Tryz.f58 15) b7V
def b7X:KT:=aW 0 b7W
def Ze (a b:ai) (c:Int):R:=SS.LL (SS.ae 58 26) 0 [0,1,12,13] 0 (cS Tryz.f58 75) b7X ⟨[(0,.sl false 2 a),(1,.sl false 2 b),(12,af (a.length:Int)),(13,af c)],[]⟩
theorem aKT (b c:ai) (a:Int):Ze b c a=aB (decide (a<(b.length:Int))) (ak BG b a fun d=>ak BG c a fun e=>aB (!((d.1.toList==e.1.toList)&&((d.2.1==e.2.1)&&true))) l7 (Ze b c (i64.wrap (a+1)))) vG:=ll
theorem b7Y (a0 a1:ai):SS.CC 58 [.sl false 2 a0,.sl false 2 a1] []=aB ((a0.length:Int) !=(a1.length:Int)) l7 (Ze a0 a1 0):=cc
theorem bCH (a:Sh.V ay) (b:Sh.V aC):SS.CC 37 [ag] [aK a,aA b]=P9 23 [ag] [aA b] fun c d=>some (.bool (c.2.2.1.1 != 0),[aK a,aA d]):=cc
theorem BP (f:Sh.V ay) (U:Sh.V aC):SS.CC 38 [ag] [aK f,aA U]=gQ fun m=>bP 62 [ag,c5V [101,118,101,110,116]] [aA U] fun Z X=>aB Z (PE 143 [ag] [aK f,aA X] fun _ u8 mP=>d_ [aK u8,aA mP]) (bP 144 [ag,c5V [116,101,109,112,108,97,116,101]] [aA X] fun YU q=>aB YU (Lp 142 [af (f.2.2.1.length:Int),af 16,ag] [some [.ptr 1 0],dQ f,aA q] fun YV r t=>aB (!YV) (PE 145 [ag] [aK r,aA t] fun _ C D=>d_ [aK C,aA D]) (d_ [aK r,aA t])) (bP 144 [ag,c5V [99,111,109,112,111,110,101,110,116]] [aA q] fun E u=>aB E (Lp 142 [af (f.2.2.2.1.length:Int),af 32,ag] [some [.ptr 1 0],dQ f,aA u] fun F e p=>aB (!F) ((fun c g v w G=>bf (bf (bf c (bf c g)) (bf (bf c g) v)) (bf (bf (bf c (bf c g)) (bf c (bf (bf c g) (bf c w)))) (bf (bf (bf c g) v) (bf (bf (bf c g) (bf c w)) G)))) (lQ 146 [ag] [vO e,aA p] fun h a i=>b_ (decide (e.2.2.2.1.length+1<=aO)) (d_ [aK (a.1,a.2.1,a.2.2.1,(e.2.2.2.1 ++ ([A8 h]:ai)),a.2.2.2.2.1,a.2.2.2.2.2.1,a.2.2.2.2.2.2.1,a.2.2.2.2.2.2.2.1,a.2.2.2.2.2.2.2.2.1,()),aA i])) (GN 146 [ag] [aK e,aA p] fun h a i=>b_ (decide (a.2.2.2.1.length+1<=aO)) (d_ [aK (a.1,a.2.1,a.2.2.1,(a.2.2.2.1 ++ ([A8 h]:ai)),a.2.2.2.2.1,a.2.2.2.2.2.1,a.2.2.2.2.2.2.1,a.2.2.2.2.2.2.2.1,a.2.2.2.2.2.2.2.2.1,()),aA i])) (GN 146 [ag] [aK e,aA p] fun h a i=>m 0 (b_ (decide (a.2.2.2.1.length+1<=aO)) (d_ [aK (a.1,a.2.1,a.2.2.1,(a.2.2.2.1 ++ ([A8 h]:ai)),a.2.2.2.2.1,a.2.2.2.2.2.1,a.2.2.2.2.2.2.1,a.2.2.2.2.2.2.2.1,a.2.2.2.2.2.2.2.2.1,()),aA i]))) (GN 146 [ag] [aK e,aA p] fun h a i=>m 1 (b_ (decide (a.2.2.2.1.length+1<=aO)) (d_ [aK (a.1,a.2.1,a.2.2.1,(a.2.2.2.1 ++ ([A8 h]:ai)),a.2.2.2.2.1,a.2.2.2.2.2.1,a.2.2.2.2.2.2.1,a.2.2.2.2.2.2.2.1,a.2.2.2.2.2.2.2.2.1,()),aA i]))) (GN 146 [ag] [aK e,aA p] fun h a i=>bf (m 0 (b_ (decide (a.2.2.2.1.length+1<=aO)) (d_ [aK (a.1,a.2.1,a.2.2.1,(a.2.2.2.1 ++ ([A8 h]:ai)),a.2.2.2.2.1,a.2.2.2.2.2.1,a.2.2.2.2.2.2.1,a.2.2.2.2.2.2.2.1,a.2.2.2.2.2.2.2.2.1,()),aA i]))) (m 1 (b_ (decide (a.2.2.2.1.length+1<=aO)) (d_ [aK (a.1,a.2.1,a.2.2.1,(a.2.2.2.1 ++ ([A8 h]:ai)),a.2.2.2.2.1,a.2.2.2.2.2.1,a.2.2.2.2.2.2.1,a.2.2.2.2.2.2.2.1,a.2.2.2.2.2.2.2.2.1,()),aA i]))))) (d_ [aK e,aA p])) (bP 144 [ag,c5V [114,101,113,117,105,114,101,109,101,110,116]] [aA u] fun H x=>aB H (Lp 142 [af (f.2.2.2.2.1.length:Int),af 32,ag] [some [.ptr 1 0],dQ f,aA x] fun I n d=>aB (!I) ((fun c g v w G=>bf (bf (bf c (bf c g)) (bf (bf c g) v)) (bf (bf (bf c (bf c g)) (bf c (bf (bf c g) (bf c w)))) (bf (bf (bf c g) v) (bf (bf (bf c g) (bf c w)) G)))) (H60 146 [ag] [vP n,aA d] fun j b l=>b_ (decide (n.2.2.2.2.1.length+1<=aO)) (d_ [aK (b.1,b.2.1,b.2.2.1,b.2.2.2.1,(n.2.2.2.2.1 ++ ([A8 j]:ai)),b.2.2.2.2.2.1,b.2.2.2.2.2.2.1,b.2.2.2.2.2.2.2.1,b.2.2.2.2.2.2.2.2.1,()),aA l])) (GN 146 [ag] [aK n,aA d] fun j b l=>b_ (decide (b.2.2.2.2.1.length+1<=aO)) (d_ [aK (b.1,b.2.1,b.2.2.1,b.2.2.2.1,(b.2.2.2.2.1 ++ ([A8 j]:ai)),b.2.2.2.2.2.1,b.2.2.2.2.2.2.1,b.2.2.2.2.2.2.2.1,b.2.2.2.2.2.2.2.2.1,()),aA l])) (GN 146 [ag] [aK n,aA d] fun j b l=>m 0 (b_ (decide (b.2.2.2.2.1.length+1<=aO)) (d_ [aK (b.1,b.2.1,b.2.2.1,b.2.2.2.1,(b.2.2.2.2.1 ++ ([A8 j]:ai)),b.2.2.2.2.2.1,b.2.2.2.2.2.2.1,b.2.2.2.2.2.2.2.1,b.2.2.2.2.2.2.2.2.1,()),aA l]))) (GN 146 [ag] [aK n,aA d] fun j b l=>m 1 (b_ (decide (b.2.2.2.2.1.length+1<=aO)) (d_ [aK (b.1,b.2.1,b.2.2.1,b.2.2.2.1,(b.2.2.2.2.1 ++ ([A8 j]:ai)),b.2.2.2.2.2.1,b.2.2.2.2.2.2.1,b.2.2.2.2.2.2.2.1,b.2.2.2.2.2.2.2.2.1,()),aA l]))) (GN 146 [ag] [aK n,aA d] fun j b l=>bf (m 0 (b_ (decide (b.2.2.2.2.1.length+1<=aO)) (d_ [aK (b.1,b.2.1,b.2.2.1,b.2.2.2.1,(b.2.2.2.2.1 ++ ([A8 j]:ai)),b.2.2.2.2.2.1,b.2.2.2.2.2.2.1,b.2.2.2.2.2.2.2.1,b.2.2.2.2.2.2.2.2.1,()),aA l]))) (m 1 (b_ (decide (b.2.2.2.2.1.length+1<=aO)) (d_ [aK (b.1,b.2.1,b.2.2.1,b.2.2.2.1,(b.2.2.2.2.1 ++ ([A8 j]:ai)),b.2.2.2.2.2.1,b.2.2.2.2.2.2.1,b.2.2.2.2.2.2.2.1,b.2.2.2.2.2.2.2.2.1,()),aA l]))))) (d_ [aK n,aA d])) (bP 144 [ag,c5V [101,120,99,108,117,100,101]] [aA x] fun J Y=>aB J (Lp 142 [af (f.2.2.2.2.2.1.length:Int),af 32,ag] [some [.ptr 1 0],dQ f,aA Y] fun K y z=>aB (!K) (PE 147 [ag] [aK y,aA z] fun _ L M=>d_ [aK L,aA M]) (d_ [aK y,aA z])) (bP 144 [ag,c5V [108,105,109,105,116]] [aA Y] fun N A=>aB N (Lp 142 [af (f.2.2.2.2.2.2.1.length:Int),af 32,ag] [some [.ptr 1 0],dQ f,aA A] fun O B o=>aB (!O) (PE 148 [ag] [aK B,aA o] fun _ Q S=>d_ [aK Q,aA S]) (d_ [aK B,aA o])) (bJ 21 [ag,af 14] [aA A] fun _ T=>d_ [aK f,aA T])))))):=pR cc
theorem bCJ (b:Sh.V BH) (c:Sh.V jO) (d:Sh.V aC):SS.CC 64 [ag,.ptr 1 0] [some [.ptr 2 0],some [.ptr 3 0],lU b,bZ c,aA d]=Ir 65 [ag,.ptr 1 0] [aX b,bZ c,aA d] fun _ e f a=>d_ [some [.ptr 2 0],some [.ptr 3 0],lU e,bZ f,aA a]:=cc
theorem bCN (b:Sh.V BH) (c:Sh.V jO) (d:Sh.V aC):SS.CC 66 [ag,.ptr 1 0] [some [.ptr 2 0],some [.ptr 3 0],lU b,bZ c,aA d]=Ir 67 [ag,.ptr 1 0] [aX b,bZ c,aA d] fun _ e f a=>d_ [some [.ptr 2 0],some [.ptr 3 0],lU e,bZ f,aA a]:=cc
def aLS:KT:=SS.rK Tryz.f67 67 3 []
def bCP:KT:=SS.jK 67 87 3 (cS Tryz.f67 127) aLS
def bCQ:KT:=aW 0 bCP
def AL (a:Sh.V dF) (b:Sh.V jO) (c:Sh.V aC) (d:Sh.V dP) (e:Bool):R:=SS.LL (SS.ae 67 87) 3 [1,2,4,5] 6 (cS Tryz.f67 287) bCQ ⟨[(1,.ptr 1 0),(2,.ptr 3 0),(4,.ptr 4 0),(5,.ptr 5 0)],[aX a,bZ b,aA c,some [ag],dW d,jM (e,())]⟩
def QE (a:Sh.V dF) (b:Sh.V jO) (c:Sh.V aC) (d:Sh.V dP):R:=bC (SS.xX 67 87 3) (cS Tryz.f67 127) aLS ⟨[(1,.ptr 1 0),(2,.ptr 3 0),(4,.ptr 4 0)],[aX a,bZ b,aA c,some [ag],dW d]⟩
theorem a8U (w:Sh.V dF) (a:Sh.V jO) (x:Sh.V aC) (b:Sh.V dP) (d:Bool):AL w a x b d=Tf 18 [ag] [bF w,aA x] fun A c y=>aB A (bP 144 [ag,c5V [125]] [aA y] fun h e=>aB (!h) (bP 62 [ag,c5V [108,111,99,97,116,105,111,110]] [aA e] fun i z=>aB i (H80 168 [ag,.ptr 1 0,.ptr 2 0] [gY c,dW b,jM (d,()),aA z] fun _ j l m n=>AL j a n l m.1) (bP 62 [ag,c5V [118,97,114]] [aA z] fun o f=>aB o (Tn 169 [ag,.ptr 1 0] [aX c,dW b,aA f] fun _ p q r=>AL p a r q d) (bP 62 [ag,c5V [101,100,103,101]] [aA f] fun t g=>aB t (Tn 170 [ag,.ptr 1 0] [aX c,dW b,aA g] fun _ u v B=>AL u a B v d) (bJ 21 [ag,af 14] [aA g] fun _ C=>AL c a C b d)))) (QE c a e b)) (QE c a y b):=ll
theorem bCO (c:Sh.V dF) (b:Sh.V jO) (d:Sh.V aC) (a:Sh.V dP):QE c b d a=bJ 16 [ag,c5V [125]] [aA d] fun _ e=>G4 171 [af (a.2.2.1.length:Int)] fun f=>b_ (decide (b.2.2.1.length+1<=aO)) (d_ [aX c,bZ (b.1,b.2.1,(b.2.2.1 ++ ([A5 (a.1,a.2.1,a.2.2.1,f,(a.2.1.length:Int),a.2.2.2.2.2.1,a.2.2.2.2.2.2.1,a.2.2.2.2.2.2.2.1,a.2.2.2.2.2.2.2.2.1,())]:ai)),b.2.2.2.1,b.2.2.2.2.1,b.2.2.2.2.2.1,b.2.2.2.2.2.2.1,()),aA e]):=by kernel_rfl
theorem bCR (f:Sh.V dF) (a:Sh.V jO) (g:Sh.V aC):SS.CC 67 [ag,.ptr 1 0] [aX f,bZ a,aA g]=gQ fun h=>G4 78 [.sl false 9 a.2.2.1,h_ 165] fun i=>h 1 (EW 160 [ag,a_ i] [bF f,aA g] fun j l m=>H83 166 [ag,fU 167 [.ptr 1 0,.ptr 2 0]] [gY l,dW (j,[],[],[],0,0,[],[],[],()),some [ag],aA m] fun _ b c d=>bJ 16 [ag,c5V [123]] [aA d] fun _ e=>AL b a e c false):=pR cc
theorem bCS (b:Sh.V BH) (c:Sh.V jO) (d:Sh.V aC):SS.CC 68 [ag,.ptr 1 0] [some [.ptr 2 0],some [.ptr 3 0],lU b,bZ c,aA d]=Ir 69 [ag,.ptr 1 0,.ptr 1 3] [aX b,bZ c,aA d] fun _ e f a=>d_ [some [.ptr 2 0],some [.ptr 3 0],lU e,bZ f,aA a]:=cc
theorem bCU (h:Sh.V dF) (a:Sh.V jO) (i:Sh.V aC):SS.CC 69 [ag,.ptr 1 0,.ptr 1 4] [aX h,bZ a,aA i]=gQ fun l=>GL 75 [.sl false 3 a.2.2.2.1] fun j=>b_ (decide (j.length+a.2.2.2.2.1.length<=aO)) (G4 76 [.sl false 3 (j ++ a.2.2.2.2.1),h_ 172] fun m=>l 1 (EW 160 [ag,a_ m] [bF h,aA i] fun n o u8=>bJ 16 [ag,c5V [61]] [aA u8] fun _ b=>kN 17 [ag] [aA b] fun c d=>H84 166 [ag,fU 173 [.ptr 1 0,.ptr 2 0]] [gY o,dB (n,c,[],()),some [ag],aA d] fun _ e f u32=>bJ 16 [ag,c5V [59]] [aA u32] fun _ g=>b_ (decide (a.2.2.2.2.1.length+1<=aO)) (d_ [aX e,bZ (a.1,a.2.1,a.2.2.1,a.2.2.2.1,(a.2.2.2.2.1 ++ ([A8 f]:ai)),a.2.2.2.2.2.1,a.2.2.2.2.2.2.1,()),aA g]))):=pR cc
theorem bCT (h:Sh.V dF) (a:Sh.V jO) (i:Sh.V aC):SS.CC 69 [ag,.ptr 1 0,.ptr 1 3] [aX h,bZ a,aA i]=gQ fun l=>GL 75 [.sl false 3 a.2.2.2.1] fun j=>b_ (decide (j.length+a.2.2.2.2.1.length<=aO)) (G4 76 [.sl false 3 (j ++ a.2.2.2.2.1),h_ 172] fun m=>l 1 (EW 160 [ag,a_ m] [bF h,aA i] fun n o u8=>bJ 16 [ag,c5V [61]] [aA u8] fun _ b=>kN 17 [ag] [aA b] fun c d=>H84 166 [ag,fU 173 [.ptr 1 0,.ptr 2 0]] [gY o,dB (n,c,[],()),some [ag],aA d] fun _ e f u32=>bJ 16 [ag,c5V [59]] [aA u32] fun _ g=>b_ (decide (a.2.2.2.1.length+1<=aO)) (d_ [aX e,bZ (a.1,a.2.1,a.2.2.1,(a.2.2.2.1 ++ ([A8 f]:ai)),a.2.2.2.2.1,a.2.2.2.2.2.1,a.2.2.2.2.2.2.1,()),aA g]))):=pR cc
theorem bCV (b:Sh.V BH) (c:Sh.V jO) (d:Sh.V aC):SS.CC 70 [ag,.ptr 1 0] [some [.ptr 2 0],some [.ptr 3 0],lU b,bZ c,aA d]=Ir 69 [ag,.ptr 1 0,.ptr 1 4] [aX b,bZ c,aA d] fun _ e f a=>d_ [some [.ptr 2 0],some [.ptr 3 0],lU e,bZ f,aA a]:=cc
theorem bCW (b:Sh.V BH) (c:Sh.V jO) (d:Sh.V aC):SS.CC 71 [ag,.ptr 1 0] [some [.ptr 2 0],some [.ptr 3 0],lU b,bZ c,aA d]=Ir 72 [ag,.ptr 1 0] [aX b,bZ c,aA d] fun _ e f a=>d_ [some [.ptr 2 0],some [.ptr 3 0],lU e,bZ f,aA a]:=cc
theorem bCX (f:Sh.V dF) (a:Sh.V jO) (g:Sh.V aC):SS.CC 72 [ag,.ptr 1 0] [aX f,bZ a,aA g]=gQ fun h=>G4 80 [.sl false 2 a.2.2.2.2.2.1,h_ 174] fun i=>h 1 (EW 160 [ag,a_ i] [bF f,aA g] fun j l m=>bJ 16 [ag,c5V [58]] [aA m] fun _ b=>H86 175 [ag,fU 176 [.ptr 1 0,.ptr 2 0]] [aA b,some [.ptr 3 0],lT (j,[],()),kX l] fun _ n c d=>bJ 16 [ag,c5V [59]] [aA n] fun _ e=>b_ (decide (a.2.2.2.2.2.1.length+1<=aO)) (d_ [aX d,bZ (a.1,a.2.1,a.2.2.1,a.2.2.2.1,a.2.2.2.2.1,(a.2.2.2.2.2.1 ++ ([CU c]:ai)),a.2.2.2.2.2.2.1,()),aA e])):=pR cc
theorem bCY (b:Sh.V BH) (c:Sh.V jO) (d:Sh.V aC):SS.CC 73 [ag,.ptr 1 0] [some [.ptr 2 0],some [.ptr 3 0],lU b,bZ c,aA d]=Ir 74 [ag,.ptr 1 0] [aX b,bZ c,aA d] fun _ e f a=>d_ [some [.ptr 2 0],some [.ptr 3 0],lU e,bZ f,aA a]:=cc
def aLT:KT:=SS.rK Tryz.f74 74 3 []
def bC':KT:=SS.jK 74 73 3 (cS Tryz.f74 15) aLT
def bD0:KT:=aW 0 bC'
def V5 (a:Sh.V dF) (b:Sh.V jO) (c:Sh.V aC) (d:fQ) (e:Bool) (f:ai):R:=SS.LL (SS.ae 74 73) 3 [0,1,4,5] 4 (cS Tryz.f74 75) bD0 ⟨[(0,ag),(1,.ptr 1 0),(4,.ptr 3 0),(5,.bool e)],[aX a,bZ b,aA c,Y2 (d,f,0,())]⟩
def V4 (a:Sh.V dF) (b:Sh.V jO) (c:Sh.V aC) (d:fQ) (e:ai):R:=bC (SS.xX 74 73 3) (cS Tryz.f74 15) aLT ⟨[(0,ag),(1,.ptr 1 0),(4,.ptr 3 0)],[aX a,bZ b,aA c,Y2 (d,e,0,())]⟩
theorem a8V (d:Sh.V dF) (b:Sh.V jO) (e:Sh.V aC) (c:fQ) (n:Bool) (a:ai):V5 d b e c n a=aB n (Tf 18 [ag] [bF d,aA e] fun q o p=>aB q (Cc 178 [ag] [bF o,aA p] fun f g h=>bJ 16 [ag,c5V [42]] [aA h] fun _ r=>kN 17 [ag] [aA r] fun i j=>b_ (decide (a.length+1<=aO)) (bP 62 [ag,c5V [43]] [aA j] fun l m=>V5 g b m c l (a ++ ([A14 (i,f,())]:ai)))) (V4 o b p c a)) (V4 d b e c a):=ll
theorem bCZ (c:Sh.V dF) (a:Sh.V jO) (d:Sh.V aC) (e:fQ) (f:ai):V4 c a d e f=bJ 16 [ag,c5V [60,61]] [aA d] fun _ g=>Cc 178 [ag] [bF c,aA g] fun h u8 b=>bJ 16 [ag,c5V [59]] [aA b] fun _ u16=>b_ (decide (a.2.2.2.2.2.2.1.length+1<=aO)) (d_ [aX u8,bZ (a.1,a.2.1,a.2.2.1,a.2.2.2.1,a.2.2.2.2.1,a.2.2.2.2.2.1,(a.2.2.2.2.2.2.1 ++ ([xW (e,f,h,())]:ai)),()),aA u16]):=by kernel_rfl
theorem bD1 (c:Sh.V dF) (a:Sh.V jO) (d:Sh.V aC):SS.CC 74 [ag,.ptr 1 0] [aX c,bZ a,aA d]=G4 82 [.sl false 3 a.2.2.2.2.2.2.1,h_ 177] fun e=>EW 160 [ag,a_ e] [bF c,aA d] fun f g h=>bJ 16 [ag,c5V [58]] [aA h] fun _ b=>V5 g a b f true []:=cc
def bEI:KT:=SS.rK Tryz.f142 142 3 []
def a8Y (a b:Int) (c:Sh.V jh) (d:Sh.V aC):R:=bC (SS.xX 142 22 3) (cS Tryz.f142 7) bEI ⟨[(0,af a),(1,af b),(2,ag)],[some [.ptr 1 0],dQ c,aA d]⟩
theorem aM9 (a b:Int) (c:Sh.V jh) (d:Sh.V aC):a8Y a b c d=fJ 63 [ag] [aA d] fun f e=>some (.bool (a==b),[some [.ptr 1 0],dQ c,aA e]):=by kernel_rfl
theorem aMA (a0 a1:Int) (a:Sh.V jh) (b:Sh.V aC):SS.CC 142 [af a0,af a1,ag] [some [.ptr 1 0],dQ a,aA b]=aB (a0==a1) (bJ 21 [ag,af 3] [aA b] fun _ c=>a8Y a0 a1 a c) (a8Y a0 a1 a b):=cc
def VC:KT:=SS.rK Tryz.f145 145 2 []
def bES:KT:=SS.jK 145 259 2 (cS Tryz.f145 15) VC
def bEU:KT:=aW 0 bES
def bEV:KT:=SS.jK 145 259 2 (cS Tryz.f145 4095) VC
def aMD:KT:=aW 2 bEV
def bEW:KT:=SS.lK 145 259 2 [1,5,6,56] 4 (cS Tryz.f145 9215) aMD
def bEX:KT:=aW 3 bEW
def a8Z:KT:=aW 4 bEX
def bEY:KT:=SS.jK 145 259 2 (cS Tryz.f145 1909759) a8Z
def bEZ:KT:=SS.jK 145 259 2 (cS Tryz.f145 16383) VC
def bET:KT:=aW 5 bEZ
def QI (a:Sh.V ay) (c:Sh.V aC) (d:ai) (b:Int):R:=SS.LL (SS.ae 145 259) 2 [1,2,13,14,15,56] 3 (cS Tryz.f145 75) bEU ⟨[(1,.ptr 2 0),(2,.sl true 1 d),(13,.sl false 9 a.2.2.1),(14,af (a.2.2.1.length:Int)),(15,af b)],[aK a,aA c,some [ag]]⟩
def V_ (a:Sh.V ay) (b:Sh.V aC) (c:Sh.V dP):R:=bC (SS.xX 145 259 2) (cS Tryz.f145 127) VC ⟨[(1,.ptr 2 0),(5,.ptr 3 0)],[aK a,aA b,some [ag],dW c]⟩
def qy (a:Sh.V ay) (b:Sh.V aC) (c:Sh.V dP) (d:Bool):R:=SS.LL (SS.ae 145 259) 2 [1,5,6,56] 4 (cS Tryz.f145 9215) aMD ⟨[(1,.ptr 2 0),(5,.ptr 3 0),(6,.bool d),(56,ag)],[aK a,aA b,some [ag],dW c]⟩
def QG (a:Sh.V ay) (b:Sh.V aC) (c:Sh.V dP):R:=bC (SS.xX 145 259 2) (cS Tryz.f145 13968383) bEY ⟨[(1,.ptr 2 0),(5,.ptr 3 0),(56,ag)],[aK a,aA b,some [ag],dW c]⟩
def VB (a:Sh.V ay) (b:Sh.V aC) (c:Sh.V dP) (d:Bool):R:=bC (SS.xX 145 259 2) (cS Tryz.f145 1909759) a8Z ⟨[(1,.ptr 2 0),(5,.ptr 3 0),(6,.bool d),(56,ag)],[aK a,aA b,some [ag],dW c]⟩
def JS (a:Sh.V ay) (b:Sh.V aC) (c:Sh.V dP) (d:Bool):R:=bC (SS.xX 145 259 2) (cS Tryz.f145 3613695) a8Z ⟨[(1,.ptr 2 0),(5,.ptr 3 0),(6,.bool d),(56,ag)],[aK a,aA b,some [ag],dW c]⟩
def QH (a:Sh.V ay) (b:Sh.V aC) (c:Sh.V dP):R:=bC (SS.xX 145 259 2) (cS Tryz.f145 4095) VC ⟨[(1,.ptr 2 0),(5,.ptr 3 0),(56,ag)],[aK a,aA b,some [ag],dW c]⟩
def K_ (c:Sh.V ay) (d:Sh.V aC) (e:fQ) (a b f:ai) (g:Int) (h i j:ai) (l:Int):R:=SS.LL (SS.ae 145 259) 2 [1,5,56,234,235] 4 (cS Tryz.f145 77823) bET ⟨[(1,.ptr 2 0),(5,.ptr 3 0),(56,ag),(234,af (b.length:Int)),(235,af l)],[aK c,aA d,some [ag],dW (e,a,b,f,(a.length:Int),g,h,i,j,())]⟩
theorem aMF (b:Sh.V ay) (f:Sh.V aC) (e:ai) (a:Int):QI b f e a=aB (decide (a<(b.2.2.1.length:Int))) (ak S5 b.2.2.1 a fun n=>b_ (decide (e.length+1<=aO)) (QI b f (e ++ ([.str n.1]:ai)) (i64.wrap (a+1)))) (ET 223 [ag,a_ e] [aK b,aA f] fun yj c g=>bJ 16 [ag,c5V [40]] [aA g] fun _ h=>bP 144 [ag,c5V [41]] [aA h] fun i d=>aB (!i) (H70 175 [ag,fU 224 [.ptr 1 0,.ptr 2 0]] [aA d,dW (yj,[],[],[],0,0,[],[],[],()),some [.ptr 3 0],jy c] fun _ j l m=>V_ m j l) (V_ c d (yj,[],[],[],0,0,[],[],[],()))):=ll
theorem bEN (a:Sh.V ay) (b:Sh.V aC) (c:Sh.V dP):V_ a b c=bJ 16 [ag,c5V [41]] [aA b] fun _ d=>bJ 16 [ag,c5V [123]] [aA d] fun _ e=>qy (a.1,a.2.1,a.2.2.1,a.2.2.2.1,a.2.2.2.2.1,a.2.2.2.2.2.1,a.2.2.2.2.2.2.1,[],a.2.2.2.2.2.2.2.2.1,()) e c false:=by kernel_rfl
theorem X_ (y:Sh.V ay) (z:Sh.V aC) (a:Sh.V dP) (b:Bool):qy y z a b=gQ fun A=>CX 37 [ag] [aK y,aA z] fun D c f=>aB (!D) (bP 62 [ag,c5V [125]] [aA f] fun l B=>aB (!l) (bP 62 [ag,c5V [108,111,99,97,116,105,111,110]] [aA B] fun E g=>aB E ((fun w=>(fun d h=>bf d (bf (bf d h) (bf d h))) w (A 1 w)) (ET 223 [ag,a_ a.2.1] [aK c,aA g] fun m u32 F=>b_ (decide (a.2.1.length+1<=aO)) (bP 144 [ag,c5V [105,110,105,116,105,97,108]] [aA F] fun n e=>aB n (aB b (bJ 21 [ag,af 8] [aA e] fun _ G=>QG u32 G (a.1,(a.2.1 ++ ([.str m]:ai)),a.2.2.1,a.2.2.2.1,a.2.2.2.2.1,a.2.2.2.2.2.1,a.2.2.2.2.2.2.1,a.2.2.2.2.2.2.2.1,a.2.2.2.2.2.2.2.2.1,())) (QG u32 e (a.1,(a.2.1 ++ ([.str m]:ai)),a.2.2.1,a.2.2.2.1,a.2.2.2.2.1,a.2.2.2.2.2.1,a.2.2.2.2.2.2.1,a.2.2.2.2.2.2.2.1,a.2.2.2.2.2.2.2.2.1,()))) (VB u32 e (a.1,(a.2.1 ++ ([.str m]:ai)),a.2.2.1,a.2.2.2.1,a.2.2.2.2.1,a.2.2.2.2.2.1,a.2.2.2.2.2.2.1,a.2.2.2.2.2.2.2.1,a.2.2.2.2.2.2.2.2.1,()) b)))) (bP 62 [ag,c5V [118,97,114]] [aA g] fun o i=>aB o (bP 144 [ag,c5V [116,114,117,101]] [aA i] fun p j=>aB p (bJ 21 [ag,af 7] [aA j] fun _ H=>JS c H a b) (bP 144 [ag,c5V [102,97,108,115,101]] [aA j] fun q C=>aB q (bJ 21 [ag,af 7] [aA C] fun _ I=>JS c I a b) (JS c C a b))) (bP 62 [ag,c5V [101,100,103,101]] [aA i] fun r t=>aB r ((fun d h=>bf d (bf (bf d h) (bf d h))) (H71 226 [ag,A5 a] [aK c,aA t] fun u v x=>b_ (decide (a.2.2.2.2.2.2.2.2.1.length+1<=aO)) (qy v x (a.1,a.2.1,a.2.2.1,a.2.2.2.1,a.2.2.2.2.1,a.2.2.2.2.2.1,a.2.2.2.2.2.2.1,a.2.2.2.2.2.2.2.1,(a.2.2.2.2.2.2.2.2.1 ++ ([A9 u]:ai)),()) b)) (A 1 (H71 226 [ag,A5 a] [aK c,aA t] fun u v x=>b_ (decide (a.2.2.2.2.2.2.2.2.1.length+1<=aO)) (qy v x (a.1,a.2.1,a.2.2.1,a.2.2.2.1,a.2.2.2.2.1,a.2.2.2.2.2.1,a.2.2.2.2.2.2.1,a.2.2.2.2.2.2.2.1,(a.2.2.2.2.2.2.2.2.1 ++ ([A9 u]:ai)),()) b)))) (bJ 21 [ag,af 14] [aA t] fun _ J=>qy c J a b)))) (QH c B a)) (QH c f a):=pR ll
theorem bEO (b:Sh.V ay) (c:Sh.V aC) (a:Sh.V dP):QG b c a=fJ 63 [ag] [aA c] fun e d=>VB b d (a.1,a.2.1,a.2.2.1,a.2.2.2.1,a.2.2.2.2.1,i64.wrap ((a.2.1.length:Int)-1),a.2.2.2.2.2.2.1,a.2.2.2.2.2.2.2.1,a.2.2.2.2.2.2.2.2.1,()) true:=by kernel_rfl
theorem bEP (b:Sh.V ay) (e:Sh.V aC) (a:Sh.V dP) (c:Bool):VB b e a c=bP 62 [ag,c5V [109,97,114,107,101,100]] [aA e] fun g f=>aB g (b_ (decide (a.2.2.2.2.2.2.1.length+1<=aO)) (bJ 16 [ag,c5V [59]] [aA f] fun _ u8=>qy b u8 (a.1,a.2.1,a.2.2.1,a.2.2.2.1,a.2.2.2.2.1,a.2.2.2.2.2.1,(a.2.2.2.2.2.2.1 ++ ([af (i64.wrap ((a.2.1.length:Int)-1))]:ai)),a.2.2.2.2.2.2.2.1,a.2.2.2.2.2.2.2.2.1,()) c)) (bJ 16 [ag,c5V [59]] [aA f] fun _ d=>qy b d a c):=by kernel_rfl
theorem bEQ (c:Sh.V ay) (o:Sh.V aC) (b:Sh.V dP) (p:Bool):JS c o b p=gQ fun q=>(fun w=>bf (q 1 w) w) (ET 223 [ag,a_ c.2.2.2.2.2.2.2.1] [aK c,aA o] fun s1 r d=>bJ 16 [ag,c5V [58]] [aA d] fun _ t=>Cb 225 [ag] [aK r,aA t] fun e f g=>bJ 16 [ag,c5V [46,46]] [aA g] fun _ u=>Cb 225 [ag] [aK f,aA u] fun h i j=>bJ 16 [ag,c5V [61]] [aA j] fun _ l=>Cb 225 [ag] [aK i,aA l] fun m a v=>bJ 16 [ag,c5V [59]] [aA v] fun _ n=>b_ (decide (a.2.2.2.2.2.2.2.1.length+1<=aO)) (b_ (decide (b.2.2.2.2.2.2.2.1.length+1<=aO)) (qy (a.1,a.2.1,a.2.2.1,a.2.2.2.1,a.2.2.2.2.1,a.2.2.2.2.2.1,a.2.2.2.2.2.2.1,(a.2.2.2.2.2.2.2.1 ++ ([.str s1]:ai)),a.2.2.2.2.2.2.2.2.1,()) n (b.1,b.2.1,b.2.2.1,b.2.2.2.1,b.2.2.2.2.1,b.2.2.2.2.2.1,b.2.2.2.2.2.2.1,(b.2.2.2.2.2.2.2.1 ++ ([A7 (s1,e,h,m,())]:ai)),b.2.2.2.2.2.2.2.2.1,()) p))):=pR (by kernel_rfl)
theorem bER (b:Sh.V ay) (c:Sh.V aC) (a:Sh.V dP):QH b c a=K_ b c a.1 a.2.1 a.2.2.1 a.2.2.2.1 a.2.2.2.2.2.1 a.2.2.2.2.2.2.1 a.2.2.2.2.2.2.2.1 a.2.2.2.2.2.2.2.2.1 0:=by kernel_rfl
theorem aME (a:Sh.V ay) (f:Sh.V aC) (g:fQ) (b c d:ai) (h:Int) (i j l:ai) (e:Int):K_ a f g b c d h i j l e=aB (decide (e<(c.length:Int))) (b_ (decide (d.length+1<=aO)) (K_ a f g b c (d ++ ([af e]:ai)) h i j l (i64.wrap (e+1)))) (b_ (decide (a.2.2.1.length+1<=aO)) (d_ [aK (a.1,a.2.1,(a.2.2.1 ++ ([A5 (g,b,c,d,(b.length:Int),h,i,j,l,())]:ai)),a.2.2.2.1,a.2.2.2.2.1,a.2.2.2.2.2.1,a.2.2.2.2.2.2.1,a.2.2.2.2.2.2.2.1,a.2.2.2.2.2.2.2.2.1,()),aA f])):=ll
theorem bE' (a:Sh.V ay) (b:Sh.V aC):SS.CC 145 [ag] [aK a,aA b]=QI a b [] 0:=cc
def aMK:KT:=SS.rK Tryz.f146 146 2 []
def bF9:KT:=SS.jK 146 73 2 (cS Tryz.f146 15) aMK
def bFA:KT:=aW 0 bF9
def QL (d:Sh.V ru) (e:Sh.V aC) (a:ai) (b:Int) (f:ai) (c:Int):R:=SS.LL (SS.ae 146 73) 2 [1,2,3,18,19,20] 4 (cS Tryz.f146 75) bFA ⟨[(1,.ptr 2 0),(2,.ptr 3 0),(3,.sl true 1 f),(18,.sl true 3 a),(19,af b),(20,af c)],[vO d,aA e,some [ag],dB (⟨#[]⟩,⟨#[]⟩,[],())]⟩
def a09 (a:Sh.V ru) (b:Sh.V aC) (c:Sh.V dY):R:=bC (SS.xX 146 73 2) (cS Tryz.f146 511) aMK ⟨[(1,.ptr 2 0),(2,.ptr 3 0),(6,.ptr 4 0)],[vO a,aA b,some [ag],dB (⟨#[]⟩,⟨#[]⟩,[],()),dB c]⟩
theorem aML (e:Sh.V ru) (f:Sh.V aC) (b:ai) (c:Int) (d:ai) (a:Int):QL e f b c d a=aB (decide (a<c)) (ak S8 b a fun q=>b_ (decide (d.length+1<=aO)) (QL e f b c (d ++ ([.str q.1]:ai)) (i64.wrap (a+1)))) (H73 223 [ag,a_ d] [vO e,aA f] fun m n g=>bJ 16 [ag,c5V [61]] [aA g] fun _ h=>kN 17 [ag] [aA h] fun o i=>bJ 16 [ag,c5V [40]] [aA i] fun _ j=>bP 144 [ag,c5V [41]] [aA j] fun r p=>aB (!r) (H74 175 [ag,fU 227 [.ptr 1 0,.ptr 2 0]] [aA p,dB (m,o,[],()),some [.ptr 3 0],Eb n] fun _ t l u=>a09 u t l) (a09 n p (m,o,[],()))):=ll
theorem bF8 (a:Sh.V ru) (b:Sh.V aC) (c:Sh.V dY):a09 a b c=bJ 16 [ag,c5V [41]] [aA b] fun _ d=>bJ 16 [ag,c5V [59]] [aA d] fun _ e=>some (A8 c,[vO a,aA e]):=by kernel_rfl
theorem bFB (a:Sh.V ru) (c:Sh.V aC):SS.CC 146 [ag] [vO a,aA c]=GL 75 [.sl false 3 a.2.2.2.1] fun b=>b_ (decide (b.length+a.2.2.2.2.1.length<=aO)) (QL a c (b ++ a.2.2.2.2.1) ((b ++ a.2.2.2.2.1).length:Int) [] 0):=cc
def aMG:KT:=SS.rK Tryz.f146 146 2 []
def bF1:KT:=SS.jK 146 73 2 (cS Tryz.f146 15) aMG
def bF2:KT:=aW 0 bF1
def QJ (d:Sh.V ay) (e:Sh.V aC) (a:ai) (b:Int) (f:ai) (c:Int):R:=SS.LL (SS.ae 146 73) 2 [1,2,3,18,19,20] 4 (cS Tryz.f146 75) bF2 ⟨[(1,.ptr 2 0),(2,.ptr 3 0),(3,.sl true 1 f),(18,.sl true 3 a),(19,af b),(20,af c)],[aK d,aA e,some [ag],dB (⟨#[]⟩,⟨#[]⟩,[],())]⟩
def UM (a:Sh.V ay) (b:Sh.V aC) (c:Sh.V dY):R:=bC (SS.xX 146 73 2) (cS Tryz.f146 511) aMG ⟨[(1,.ptr 2 0),(2,.ptr 3 0),(6,.ptr 4 0)],[aK a,aA b,some [ag],dB (⟨#[]⟩,⟨#[]⟩,[],()),dB c]⟩
theorem aMH (e:Sh.V ay) (f:Sh.V aC) (b:ai) (c:Int) (d:ai) (a:Int):QJ e f b c d a=aB (decide (a<c)) (ak S8 b a fun q=>b_ (decide (d.length+1<=aO)) (QJ e f b c (d ++ ([.str q.1]:ai)) (i64.wrap (a+1)))) (ET 223 [ag,a_ d] [aK e,aA f] fun m n g=>bJ 16 [ag,c5V [61]] [aA g] fun _ h=>kN 17 [ag] [aA h] fun o i=>bJ 16 [ag,c5V [40]] [aA i] fun _ j=>bP 144 [ag,c5V [41]] [aA j] fun r p=>aB (!r) (H75 175 [ag,fU 227 [.ptr 1 0,.ptr 2 0]] [aA p,dB (m,o,[],()),some [.ptr 3 0],jy n] fun _ t l u=>UM u t l) (UM n p (m,o,[],()))):=ll
theorem bF0 (a:Sh.V ay) (b:Sh.V aC) (c:Sh.V dY):UM a b c=bJ 16 [ag,c5V [41]] [aA b] fun _ d=>bJ 16 [ag,c5V [59]] [aA d] fun _ e=>some (A8 c,[aK a,aA e]):=by kernel_rfl
theorem bF3 (a:Sh.V ay) (c:Sh.V aC):SS.CC 146 [ag] [aK a,aA c]=GL 75 [.sl false 3 a.2.2.2.1] fun b=>b_ (decide (b.length+a.2.2.2.2.1.length<=aO)) (QJ a c (b ++ a.2.2.2.2.1) ((b ++ a.2.2.2.2.1).length:Int) [] 0):=cc
def aMI:KT:=SS.rK Tryz.f146 146 2 []
def bF5:KT:=SS.jK 146 73 2 (cS Tryz.f146 15) aMI
def bF6:KT:=aW 0 bF5
def QK (d:Sh.V ry) (e:Sh.V aC) (a:ai) (b:Int) (f:ai) (c:Int):R:=SS.LL (SS.ae 146 73) 2 [1,2,3,18,19,20] 4 (cS Tryz.f146 75) bF6 ⟨[(1,.ptr 2 0),(2,.ptr 3 0),(3,.sl true 1 f),(18,.sl true 3 a),(19,af b),(20,af c)],[vP d,aA e,some [ag],dB (⟨#[]⟩,⟨#[]⟩,[],())]⟩
def a08 (a:Sh.V ry) (b:Sh.V aC) (c:Sh.V dY):R:=bC (SS.xX 146 73 2) (cS Tryz.f146 511) aMI ⟨[(1,.ptr 2 0),(2,.ptr 3 0),(6,.ptr 4 0)],[vP a,aA b,some [ag],dB (⟨#[]⟩,⟨#[]⟩,[],()),dB c]⟩
theorem aMJ (e:Sh.V ry) (f:Sh.V aC) (b:ai) (c:Int) (d:ai) (a:Int):QK e f b c d a=aB (decide (a<c)) (ak S8 b a fun q=>b_ (decide (d.length+1<=aO)) (QK e f b c (d ++ ([.str q.1]:ai)) (i64.wrap (a+1)))) (H76 223 [ag,a_ d] [vP e,aA f] fun m n g=>bJ 16 [ag,c5V [61]] [aA g] fun _ h=>kN 17 [ag] [aA h] fun o i=>bJ 16 [ag,c5V [40]] [aA i] fun _ j=>bP 144 [ag,c5V [41]] [aA j] fun r p=>aB (!r) (H77 175 [ag,fU 227 [.ptr 1 0,.ptr 2 0]] [aA p,dB (m,o,[],()),some [.ptr 3 0],Ec n] fun _ t l u=>a08 u t l) (a08 n p (m,o,[],()))):=ll
theorem bF4 (a:Sh.V ry) (b:Sh.V aC) (c:Sh.V dY):a08 a b c=bJ 16 [ag,c5V [41]] [aA b] fun _ d=>bJ 16 [ag,c5V [59]] [aA d] fun _ e=>some (A8 c,[vP a,aA e]):=by kernel_rfl
theorem bF7 (a:Sh.V ry) (c:Sh.V aC):SS.CC 146 [ag] [vP a,aA c]=GL 75 [.sl false 3 a.2.2.2.1] fun b=>b_ (decide (b.length+a.2.2.2.2.1.length<=aO)) (QK a c (b ++ a.2.2.2.2.1) ((b ++ a.2.2.2.2.1).length:Int) [] 0):=cc
def bFC:KT:=SS.rK Tryz.f147 147 2 []
def bFD:KT:=SS.jK 147 54 2 (cS Tryz.f147 15) bFC
def bFE:KT:=aW 0 bFD
def QM (a:Sh.V ay) (c:Sh.V aC) (d:ai) (b:Int):R:=SS.LL (SS.ae 147 54) 2 [1,2,10,11,12] 3 (cS Tryz.f147 75) bFE ⟨[(1,.ptr 2 0),(2,.sl true 1 d),(10,.sl false 2 a.2.2.2.2.2.1),(11,af (a.2.2.2.2.2.1.length:Int)),(12,af b)],[aK a,aA c,some [ag]]⟩
theorem aMM (b:Sh.V ay) (d:Sh.V aC) (c:ai) (a:Int):QM b d c a=aB (decide (a<(b.2.2.2.2.2.1.length:Int))) (ak kP b.2.2.2.2.2.1 a fun j=>b_ (decide (c.length+1<=aO)) (QM b d (c ++ ([.str j.1]:ai)) (i64.wrap (a+1)))) (ET 223 [ag,a_ c] [aK b,aA d] fun l m e=>bJ 16 [ag,c5V [58]] [aA e] fun _ f=>H78 175 [ag,fU 228 [.ptr 1 0,.ptr 2 0]] [aA f,some [.ptr 3 0],lT (l,[],()),jy m] fun _ g h u32=>bJ 16 [ag,c5V [59]] [aA g] fun _ i=>b_ (decide (u32.2.2.2.2.2.1.length+1<=aO)) (d_ [aK (u32.1,u32.2.1,u32.2.2.1,u32.2.2.2.1,u32.2.2.2.2.1,(u32.2.2.2.2.2.1 ++ ([CU h]:ai)),u32.2.2.2.2.2.2.1,u32.2.2.2.2.2.2.2.1,u32.2.2.2.2.2.2.2.2.1,()),aA i])):=ll
theorem bFF (a:Sh.V ay) (b:Sh.V aC):SS.CC 147 [ag] [aK a,aA b]=QM a b [] 0:=cc
def a90:KT:=SS.rK Tryz.f148 148 2 []
def bFH:KT:=SS.jK 148 89 2 (cS Tryz.f148 7) a90
def bFI:KT:=aW 0 bFH
def bFJ:KT:=SS.jK 148 89 2 (cS Tryz.f148 63) a90
def bFK:KT:=aW 2 bFJ
def QO (a:Sh.V ay) (c:Sh.V aC) (d:ai) (b:Int):R:=SS.LL (SS.ae 148 89) 2 [0,2,12,13,14] 2 (cS Tryz.f148 37) bFI ⟨[(0,ag),(2,.sl true 1 d),(12,.sl false 3 a.2.2.2.2.2.2.1),(13,af (a.2.2.2.2.2.2.1.length:Int)),(14,af b)],[aK a,aA c]⟩
def QN (a:Sh.V ay) (b:Sh.V aC) (c:fQ) (d:Bool) (e:ai):R:=SS.LL (SS.ae 148 89) 2 [0,5,6] 3 (cS Tryz.f148 303) bFK ⟨[(0,ag),(5,.ptr 2 0),(6,.bool d)],[aK a,aA b,Y2 (c,e,0,())]⟩
def VD (a:Sh.V ay) (b:Sh.V aC) (c:fQ) (d:ai):R:=bC (SS.xX 148 89 2) (cS Tryz.f148 63) a90 ⟨[(0,ag),(5,.ptr 2 0)],[aK a,aA b,Y2 (c,d,0,())]⟩
theorem aMN (b:Sh.V ay) (d:Sh.V aC) (c:ai) (a:Int):QO b d c a=aB (decide (a<(b.2.2.2.2.2.2.1.length:Int))) (ak jV b.2.2.2.2.2.2.1 a fun g=>b_ (decide (c.length+1<=aO)) (QO b d (c ++ ([.str g.1]:ai)) (i64.wrap (a+1)))) (ET 223 [ag,a_ c] [aK b,aA d] fun h i e=>bJ 16 [ag,c5V [58]] [aA e] fun _ f=>QN i f h true []):=ll
theorem a94 (d:Sh.V ay) (e:Sh.V aC) (c:fQ) (m:Bool) (a:ai):QN d e c m a=aB m (CX 37 [ag] [aK d,aA e] fun o n b=>aB (!o) (Cb 225 [ag] [aK n,aA b] fun f p g=>bJ 16 [ag,c5V [42]] [aA g] fun _ h=>kN 17 [ag] [aA h] fun i j=>b_ (decide (a.length+1<=aO)) (bP 62 [ag,c5V [43]] [aA j] fun l q=>QN p q c l (a ++ ([A14 (i,f,())]:ai)))) (VD n b c a)) (VD d e c a):=ll
theorem bFG (b:Sh.V ay) (c:Sh.V aC) (d:fQ) (e:ai):VD b c d e=bJ 16 [ag,c5V [60,61]] [aA c] fun _ f=>Cb 225 [ag] [aK b,aA f] fun g u8 h=>bJ 16 [ag,c5V [59]] [aA h] fun _ a=>b_ (decide (u8.2.2.2.2.2.2.1.length+1<=aO)) (d_ [aK (u8.1,u8.2.1,u8.2.2.1,u8.2.2.2.1,u8.2.2.2.2.1,u8.2.2.2.2.2.1,(u8.2.2.2.2.2.2.1 ++ ([xW (d,e,g,())]:ai)),u8.2.2.2.2.2.2.2.1,u8.2.2.2.2.2.2.2.2.1,()),aA a]):=by kernel_rfl
theorem bFL (a:Sh.V ay) (b:Sh.V aC):SS.CC 148 [ag] [aK a,aA b]=QO a b [] 0:=cc
def bFR:KT:=SS.rK Tryz.f160 160 2 []
def RU (a:Sh.V eQ) (b:Sh.V aC):R:=bC (SS.xX 160 30 2) (cS Tryz.f160 7) bFR ⟨[(0,ag)],[bF a,aA b]⟩
theorem bFQ (a:Sh.V eQ) (b:Sh.V aC):RU a b=kN 17 [ag] [aA b] fun s1 c=>some (.str s1,[bF a,aA c]):=by kernel_rfl
theorem bFS (a1:ai) (a:Sh.V eQ) (e:Sh.V aC):SS.CC 160 [ag,a_ a1] [bF a,aA e]=fJ 19 [ag] [aA e] fun f b=>aB (f.1==1) (G3 179 [a_ a1,.str f.2.1] fun c=>aB c (bJ 21 [ag,af 8] [aA b] fun _ d=>RU a d) (RU a b)) (RU a b):=cc
theorem bG1 (a0:Sh.V S5):SS.CC 165 [A5 a0] []=some (.str a0.1,[]):=cc
theorem aMQ (a:Sh.V iH) (b:Sh.V dY) (g:Sh.V aC):SS.CC 166 [ag,fU 173 [.ptr 1 0,.ptr 2 0]] [gY a,dB b,some [ag],aA g]=bJ 16 [ag,c5V [40]] [aA g] fun _ h=>bP 144 [ag,c5V [41]] [aA h] fun i u8=>aB (!i) (aG8 175 [ag,fU 173 [.ptr 1 0,.ptr 2 0]] [aA u8,dB b,some [.ptr 3 0],kX a] fun _ c j d=>bJ 16 [ag,c5V [41]] [aA c] fun _ e=>d_ [gY d,dB j,some [ag],aA e]) (bJ 16 [ag,c5V [41]] [aA u8] fun _ f=>d_ [gY a,dB b,some [ag],aA f]):=cc
theorem aMR (a:Sh.V iH) (b:Sh.V dP) (g:Sh.V aC):SS.CC 166 [ag,fU 167 [.ptr 1 0,.ptr 2 0]] [gY a,dW b,some [ag],aA g]=bJ 16 [ag,c5V [40]] [aA g] fun _ h=>bP 144 [ag,c5V [41]] [aA h] fun i u8=>aB (!i) (H97 175 [ag,fU 167 [.ptr 1 0,.ptr 2 0]] [aA u8,dW b,some [.ptr 3 0],kX a] fun _ c j d=>bJ 16 [ag,c5V [41]] [aA c] fun _ e=>d_ [gY d,dW j,some [ag],aA e]) (bJ 16 [ag,c5V [41]] [aA u8] fun _ f=>d_ [gY a,dW b,some [ag],aA f]):=cc
theorem bGA (a0:Sh.V S8):SS.CC 172 [A8 a0] []=some (.str a0.1,[]):=cc
theorem bGB (a:Sh.V dY) (b:Sh.V iH) (c:Sh.V aC):SS.CC 173 [ag,.ptr 1 0] [dB a,some [.ptr 2 0],gY b,aA c]=gQ fun f=>(fun e g=>bf e (bf e g)) (kN 17 [ag] [aA c] fun s1 d=>b_ (decide (a.2.2.1.length+1<=aO)) (d_ [dB (a.1,a.2.1,(a.2.2.1 ++ ([.str s1]:ai)),()),some [.ptr 2 0],gY b,aA d])) (f 1 (kN 17 [ag] [aA c] fun s1 d=>b_ (decide (a.2.2.1.length+1<=aO)) (d_ [dB (a.1,a.2.1,(a.2.2.1 ++ ([.str s1]:ai)),()),some [.ptr 2 0],gY b,aA d]))):=pR cc
theorem bGC (a0:Sh.V kP):SS.CC 174 [CU a0] []=some (.str a0.1,[]):=cc
def bH0:KT:=SS.rK Tryz.f175 175 4 []
def bH1:KT:=aW 0 bH0
def QQ (a:Sh.V aC) (b:Sh.V dY) (c:Sh.V jc):R:=SS.LL (SS.ae 175 19) 4 [0,1] 4 (cS Tryz.f175 19) bH1 ⟨[(0,ag),(1,fU 173 [.ptr 1 0,.ptr 2 0])],[aA a,dB b,some [.ptr 3 0],kX c]⟩
theorem aN4 (a:Sh.V aC) (b:Sh.V dY) (c:Sh.V jc):QQ a b c=aB (a.2.2.2.1==0) (bP 62 [ag,c5V [44]] [aA a] fun g f=>aB g (a6F 173 [ag,.ptr 1 0] [dB b,some [.ptr 2 0],gY c,aA f] fun _ u8 d e=>QQ e u8 d) (d_ [aA f,dB b,some [.ptr 3 0],kX c])) (d_ [aA a,dB b,some [.ptr 3 0],kX c]):=ll
theorem bH2 (a:Sh.V aC) (b:Sh.V dY) (c:Sh.V jc):SS.CC 175 [ag,fU 173 [.ptr 1 0,.ptr 2 0]] [aA a,dB b,some [.ptr 3 0],kX c]=a6F 173 [ag,.ptr 1 0] [dB b,some [.ptr 2 0],gY c,aA a] fun _ d e f=>QQ f d e:=cc
def bGP:KT:=SS.rK Tryz.f175 175 4 []
def bGQ:KT:=aW 0 bGP
def RD (a:Sh.V aC) (b:Sh.V lq) (c:Sh.V jc):R:=SS.LL (SS.ae 175 19) 4 [0,1] 4 (cS Tryz.f175 19) bGQ ⟨[(0,ag),(1,fU 176 [.ptr 1 0,.ptr 2 0])],[aA a,some [.ptr 3 0],lT b,kX c]⟩
theorem aN0 (a:Sh.V aC) (b:Sh.V lq) (c:Sh.V jc):RD a b c=aB (a.2.2.2.1==0) (bP 62 [ag,c5V [44]] [aA a] fun g f=>aB g (a6B 176 [ag,.ptr 1 0] [some [.ptr 2 0],lT b,gY c,aA f] fun _ u8 d e=>RD e u8 d) (d_ [aA f,some [.ptr 3 0],lT b,kX c])) (d_ [aA a,some [.ptr 3 0],lT b,kX c]):=ll
theorem bGR (a:Sh.V aC) (b:Sh.V lq) (c:Sh.V jc):SS.CC 175 [ag,fU 176 [.ptr 1 0,.ptr 2 0]] [aA a,some [.ptr 3 0],lT b,kX c]=a6B 176 [ag,.ptr 1 0] [some [.ptr 2 0],lT b,gY c,aA a] fun _ d e f=>RD f d e:=cc
def bGG:KT:=SS.rK Tryz.f175 175 4 []
def bGH:KT:=aW 0 bGG
def a0E (a:Sh.V aC) (b:Sh.V dY) (c:Sh.V jb):R:=SS.LL (SS.ae 175 19) 4 [0,1] 4 (cS Tryz.f175 19) bGH ⟨[(0,ag),(1,fU 227 [.ptr 1 0,.ptr 2 0])],[aA a,dB b,some [.ptr 3 0],jy c]⟩
theorem aMY (a:Sh.V aC) (b:Sh.V dY) (c:Sh.V jb):a0E a b c=aB (a.2.2.2.1==0) (bP 62 [ag,c5V [44]] [aA a] fun g f=>aB g (H94 227 [ag,.ptr 1 0] [dB b,some [.ptr 2 0],iZ c,aA f] fun _ u8 d e=>a0E e u8 d) (d_ [aA f,dB b,some [.ptr 3 0],jy c])) (d_ [aA a,dB b,some [.ptr 3 0],jy c]):=ll
theorem bGI (b:Sh.V aC) (c:Sh.V dY) (d:Sh.V jb):SS.CC 175 [ag,fU 227 [.ptr 1 0,.ptr 2 0]] [aA b,dB c,some [.ptr 3 0],jy d]=H94 227 [ag,.ptr 1 0] [dB c,some [.ptr 2 0],iZ d,aA b] fun _ e f a=>a0E a e f:=cc
def bGM:KT:=SS.rK Tryz.f175 175 4 []
def bGN:KT:=aW 0 bGM
def a0G (a:Sh.V aC) (b:Sh.V lq) (c:Sh.V jb):R:=SS.LL (SS.ae 175 19) 4 [0,1] 4 (cS Tryz.f175 19) bGN ⟨[(0,ag),(1,fU 228 [.ptr 1 0,.ptr 2 0])],[aA a,some [.ptr 3 0],lT b,jy c]⟩
theorem aM' (a:Sh.V aC) (b:Sh.V lq) (c:Sh.V jb):a0G a b c=aB (a.2.2.2.1==0) (bP 62 [ag,c5V [44]] [aA a] fun f e=>aB f (H96 228 [ag,.ptr 1 0] [some [.ptr 2 0],lT b,iZ c,aA e] fun _ u8 d g=>a0G g u8 d) (d_ [aA e,some [.ptr 3 0],lT b,jy c])) (d_ [aA a,some [.ptr 3 0],lT b,jy c]):=ll
theorem bGO (b:Sh.V aC) (c:Sh.V lq) (d:Sh.V jb):SS.CC 175 [ag,fU 228 [.ptr 1 0,.ptr 2 0]] [aA b,some [.ptr 3 0],lT c,jy d]=H96 228 [ag,.ptr 1 0] [some [.ptr 2 0],lT c,iZ d,aA b] fun _ e f a=>a0G a e f:=cc
def bGV:KT:=SS.rK Tryz.f175 175 4 []
def bGW:KT:=aW 0 bGV
def a0J (a:Sh.V aC) (b:Sh.V dP) (c:Sh.V jc):R:=SS.LL (SS.ae 175 19) 4 [0,1] 4 (cS Tryz.f175 19) bGW ⟨[(0,ag),(1,fU 167 [.ptr 1 0,.ptr 2 0])],[aA a,dW b,some [.ptr 3 0],kX c]⟩
theorem aN2 (a:Sh.V aC) (b:Sh.V dP) (c:Sh.V jc):a0J a b c=aB (a.2.2.2.1==0) (bP 62 [ag,c5V [44]] [aA a] fun e d=>aB e (a6D 167 [ag,.ptr 1 0] [dW b,some [.ptr 2 0],gY c,aA d] fun _ u8 f g=>a0J g u8 f) (d_ [aA d,dW b,some [.ptr 3 0],kX c])) (d_ [aA a,dW b,some [.ptr 3 0],kX c]):=ll
theorem bGX (c:Sh.V aC) (d:Sh.V dP) (e:Sh.V jc):SS.CC 175 [ag,fU 167 [.ptr 1 0,.ptr 2 0]] [aA c,dW d,some [.ptr 3 0],kX e]=a6D 167 [ag,.ptr 1 0] [dW d,some [.ptr 2 0],gY e,aA c] fun _ f a b=>a0J b f a:=cc
def bGY:KT:=SS.rK Tryz.f175 175 4 []
def bGZ:KT:=aW 0 bGY
def OV (a:Sh.V aC) (b:Sh.V kC) (c:Sh.V jc):R:=SS.LL (SS.ae 175 19) 4 [0,1] 4 (cS Tryz.f175 19) bGZ ⟨[(0,ag),(1,fU 241 [.ptr 1 0,.ptr 2 0])],[aA a,some [.ptr 3 0],jv b,kX c]⟩
theorem aN3 (a:Sh.V aC) (b:Sh.V kC) (c:Sh.V jc):OV a b c=aB (a.2.2.2.1==0) (bP 62 [ag,c5V [44]] [aA a] fun e d=>aB e (a6E 241 [ag,.ptr 1 0] [some [.ptr 2 0],jv b,gY c,aA d] fun _ u8 u16 f=>OV f u8 u16) (d_ [aA d,some [.ptr 3 0],jv b,kX c])) (d_ [aA a,some [.ptr 3 0],jv b,kX c]):=ll
theorem bG' (b:Sh.V aC) (c:Sh.V kC) (d:Sh.V jc):SS.CC 175 [ag,fU 241 [.ptr 1 0,.ptr 2 0]] [aA b,some [.ptr 3 0],jv c,kX d]=a6E 241 [ag,.ptr 1 0] [some [.ptr 2 0],jv c,gY d,aA b] fun _ e f a=>OV a e f:=cc
def bH3:KT:=SS.rK Tryz.f175 175 4 []
def bH4:KT:=aW 0 bH3
def a0M (a:Sh.V aC) (b:Sh.V dP) (c:Sh.V jb):R:=SS.LL (SS.ae 175 19) 4 [0,1] 4 (cS Tryz.f175 19) bH4 ⟨[(0,ag),(1,fU 224 [.ptr 1 0,.ptr 2 0])],[aA a,dW b,some [.ptr 3 0],jy c]⟩
theorem aN5 (a:Sh.V aC) (b:Sh.V dP) (c:Sh.V jb):a0M a b c=aB (a.2.2.2.1==0) (bP 62 [ag,c5V [44]] [aA a] fun f e=>aB f (H90 224 [ag,.ptr 1 0] [dW b,some [.ptr 2 0],iZ c,aA e] fun _ u8 g d=>a0M d u8 g) (d_ [aA e,dW b,some [.ptr 3 0],jy c])) (d_ [aA a,dW b,some [.ptr 3 0],jy c]):=ll
theorem bH5 (b:Sh.V aC) (c:Sh.V dP) (d:Sh.V jb):SS.CC 175 [ag,fU 224 [.ptr 1 0,.ptr 2 0]] [aA b,dW c,some [.ptr 3 0],jy d]=H90 224 [ag,.ptr 1 0] [dW c,some [.ptr 2 0],iZ d,aA b] fun _ e a f=>a0M f e a:=cc
def bGJ:KT:=SS.rK Tryz.f175 175 4 []
def bGK:KT:=aW 0 bGJ
def a0F (a:Sh.V aC) (b:Sh.V dY) (c:Sh.V D5):R:=SS.LL (SS.ae 175 19) 4 [0,1] 4 (cS Tryz.f175 19) bGK ⟨[(0,ag),(1,fU 227 [.ptr 1 0,.ptr 2 0])],[aA a,dB b,some [.ptr 3 0],Ec c]⟩
theorem aMZ (a:Sh.V aC) (b:Sh.V dY) (c:Sh.V D5):a0F a b c=aB (a.2.2.2.1==0) (bP 62 [ag,c5V [44]] [aA a] fun g f=>aB g (H95 227 [ag,.ptr 1 0] [dB b,some [.ptr 2 0],Ci c,aA f] fun _ u8 d e=>a0F e u8 d) (d_ [aA f,dB b,some [.ptr 3 0],Ec c])) (d_ [aA a,dB b,some [.ptr 3 0],Ec c]):=ll
theorem bGL (b:Sh.V aC) (c:Sh.V dY) (d:Sh.V D5):SS.CC 175 [ag,fU 227 [.ptr 1 0,.ptr 2 0]] [aA b,dB c,some [.ptr 3 0],Ec d]=H95 227 [ag,.ptr 1 0] [dB c,some [.ptr 2 0],Ci d,aA b] fun _ e f a=>a0F a e f:=cc
def bGS:KT:=SS.rK Tryz.f175 175 4 []
def bGT:KT:=aW 0 bGS
def a0I (a:Sh.V aC) (b:Sh.V kC) (c:Sh.V jb):R:=SS.LL (SS.ae 175 19) 4 [0,1] 4 (cS Tryz.f175 19) bGT ⟨[(0,ag),(1,fU 263 [.ptr 1 0,.ptr 2 0])],[aA a,some [.ptr 3 0],jv b,jy c]⟩
theorem aN1 (a:Sh.V aC) (b:Sh.V kC) (c:Sh.V jb):a0I a b c=aB (a.2.2.2.1==0) (bP 62 [ag,c5V [44]] [aA a] fun f e=>aB f (a6C 263 [ag,.ptr 1 0] [some [.ptr 2 0],jv b,iZ c,aA e] fun _ u8 u16 d=>a0I d u8 u16) (d_ [aA e,some [.ptr 3 0],jv b,jy c])) (d_ [aA a,some [.ptr 3 0],jv b,jy c]):=ll
theorem bGU (a:Sh.V aC) (b:Sh.V kC) (c:Sh.V jb):SS.CC 175 [ag,fU 263 [.ptr 1 0,.ptr 2 0]] [aA a,some [.ptr 3 0],jv b,jy c]=a6C 263 [ag,.ptr 1 0] [some [.ptr 2 0],jv b,iZ c,aA a] fun _ d e f=>a0I f d e:=cc
def bGD:KT:=SS.rK Tryz.f175 175 4 []
def bGE:KT:=aW 0 bGD
def Ky (a:Sh.V aC) (b:Sh.V dY) (c:Sh.V Cm):R:=SS.LL (SS.ae 175 19) 4 [0,1] 4 (cS Tryz.f175 19) bGE ⟨[(0,ag),(1,fU 227 [.ptr 1 0,.ptr 2 0])],[aA a,dB b,some [.ptr 3 0],Eb c]⟩
theorem aMX (a:Sh.V aC) (b:Sh.V dY) (c:Sh.V Cm):Ky a b c=aB (a.2.2.2.1==0) (bP 62 [ag,c5V [44]] [aA a] fun g f=>aB g (H93 227 [ag,.ptr 1 0] [dB b,some [.ptr 2 0],Iy c,aA f] fun _ u8 d e=>Ky e u8 d) (d_ [aA f,dB b,some [.ptr 3 0],Eb c])) (d_ [aA a,dB b,some [.ptr 3 0],Eb c]):=ll
theorem bGF (b:Sh.V aC) (c:Sh.V dY) (d:Sh.V Cm):SS.CC 175 [ag,fU 227 [.ptr 1 0,.ptr 2 0]] [aA b,dB c,some [.ptr 3 0],Eb d]=H93 227 [ag,.ptr 1 0] [dB c,some [.ptr 2 0],Iy d,aA b] fun _ e f a=>Ky a e f:=cc
theorem bH6 (a:Sh.V lq) (b:Sh.V iH) (c:Sh.V aC):SS.CC 176 [ag,.ptr 1 0] [some [.ptr 2 0],lT a,gY b,aA c]=kN 17 [ag] [aA c] fun s1 d=>kN 17 [ag] [aA d] fun e f=>b_ (decide (a.2.1.length+1<=aO)) (d_ [some [.ptr 2 0],lT (a.1,(a.2.1 ++ ([LX (s1,e,())]:ai)),()),gY b,aA f]):=cc
theorem bH7 (a0:Sh.V jV):SS.CC 177 [xW a0] []=some (.str a0.1,[]):=cc
theorem bH8 (a:Sh.V eQ) (b:Sh.V aC):SS.CC 178 [ag] [bF a,aA b]=ES 164 [ag,af (-65536),af 65536] [aA b] fun c d=>some (af c,[bF a,aA d]):=cc
def bI7:KT:=SS.rK Tryz.f223 223 2 []
def WZ (a:Sh.V ru) (b:Sh.V aC):R:=bC (SS.xX 223 30 2) (cS Tryz.f223 7) bI7 ⟨[(0,ag)],[vO a,aA b]⟩
theorem bI6 (a:Sh.V ru) (b:Sh.V aC):WZ a b=kN 17 [ag] [aA b] fun s1 c=>some (.str s1,[vO a,aA c]):=by kernel_rfl
theorem bI8 (a1:ai) (a:Sh.V ru) (e:Sh.V aC):SS.CC 223 [ag,a_ a1] [vO a,aA e]=fJ 19 [ag] [aA e] fun f b=>aB (f.1==1) (G3 179 [a_ a1,.str f.2.1] fun c=>aB c (bJ 21 [ag,af 8] [aA b] fun _ d=>WZ a d) (WZ a b)) (WZ a b):=cc
def bID:KT:=SS.rK Tryz.f223 223 2 []
def a0V (a:Sh.V ay) (b:Sh.V aC):R:=bC (SS.xX 223 30 2) (cS Tryz.f223 7) bID ⟨[(0,ag)],[aK a,aA b]⟩
theorem bIC (a:Sh.V ay) (b:Sh.V aC):a0V a b=kN 17 [ag] [aA b] fun s1 c=>some (.str s1,[aK a,aA c]):=by kernel_rfl
theorem bIE (a1:ai) (a:Sh.V ay) (e:Sh.V aC):SS.CC 223 [ag,a_ a1] [aK a,aA e]=fJ 19 [ag] [aA e] fun f b=>aB (f.1==1) (G3 179 [a_ a1,.str f.2.1] fun c=>aB c (bJ 21 [ag,af 8] [aA b] fun _ d=>a0V a d) (a0V a b)) (a0V a b):=cc
def bIA:KT:=SS.rK Tryz.f223 223 2 []
def a0U (a:Sh.V ry) (b:Sh.V aC):R:=bC (SS.xX 223 30 2) (cS Tryz.f223 7) bIA ⟨[(0,ag)],[vP a,aA b]⟩
theorem bI9 (a:Sh.V ry) (b:Sh.V aC):a0U a b=kN 17 [ag] [aA b] fun s1 c=>some (.str s1,[vP a,aA c]):=by kernel_rfl
theorem bIB (a1:ai) (a:Sh.V ry) (e:Sh.V aC):SS.CC 223 [ag,a_ a1] [vP a,aA e]=fJ 19 [ag] [aA e] fun f b=>aB (f.1==1) (G3 179 [a_ a1,.str f.2.1] fun c=>aB c (bJ 21 [ag,af 8] [aA b] fun _ d=>a0U a d) (a0U a b)) (a0U a b):=cc
theorem bIG (a:Sh.V ay) (b:Sh.V aC):SS.CC 225 [ag] [aK a,aA b]=ES 164 [ag,af (-65536),af 65536] [aA b] fun c d=>some (af c,[aK a,aA d]):=cc
theorem bIJ (a:Sh.V dY) (b:Sh.V J5) (c:Sh.V aC):SS.CC 227 [ag,.ptr 1 0] [dB a,some [.ptr 2 0],Iy b,aA c]=gQ fun f=>(fun e g=>bf e (bf e g)) (kN 17 [ag] [aA c] fun s1 d=>b_ (decide (a.2.2.1.length+1<=aO)) (d_ [dB (a.1,a.2.1,(a.2.2.1 ++ ([.str s1]:ai)),()),some [.ptr 2 0],Iy b,aA d])) (f 1 (kN 17 [ag] [aA c] fun s1 d=>b_ (decide (a.2.2.1.length+1<=aO)) (d_ [dB (a.1,a.2.1,(a.2.2.1 ++ ([.str s1]:ai)),()),some [.ptr 2 0],Iy b,aA d]))):=pR cc
theorem bII (a:Sh.V dY) (b:Sh.V jW) (c:Sh.V aC):SS.CC 227 [ag,.ptr 1 0] [dB a,some [.ptr 2 0],iZ b,aA c]=gQ fun f=>(fun e g=>bf e (bf e g)) (kN 17 [ag] [aA c] fun s1 d=>b_ (decide (a.2.2.1.length+1<=aO)) (d_ [dB (a.1,a.2.1,(a.2.2.1 ++ ([.str s1]:ai)),()),some [.ptr 2 0],iZ b,aA d])) (f 1 (kN 17 [ag] [aA c] fun s1 d=>b_ (decide (a.2.2.1.length+1<=aO)) (d_ [dB (a.1,a.2.1,(a.2.2.1 ++ ([.str s1]:ai)),()),some [.ptr 2 0],iZ b,aA d]))):=pR cc
theorem bIK (a:Sh.V lq) (b:Sh.V jW) (e:Sh.V aC):SS.CC 228 [ag,.ptr 1 0] [some [.ptr 2 0],lT a,iZ b,aA e]=gQ fun h=>kN 17 [ag] [aA e] fun s1 f=>(fun g i=>bf g (bf g i)) (kN 17 [ag] [aA f] fun c d=>b_ (decide (a.2.1.length+1<=aO)) (d_ [some [.ptr 2 0],lT (a.1,(a.2.1 ++ ([LX (s1,c,())]:ai)),()),iZ b,aA d])) (h 1 (kN 17 [ag] [aA f] fun c d=>b_ (decide (a.2.1.length+1<=aO)) (d_ [some [.ptr 2 0],lT (a.1,(a.2.1 ++ ([LX (s1,c,())]:ai)),()),iZ b,aA d]))):=pR cc
theorem bJ8 (a:Sh.V kC) (c:Sh.V jW) (g:Sh.V aC):SS.CC 263 [ag,.ptr 1 0] [some [.ptr 2 0],jv a,iZ c,aA g]=gQ fun h=>(fun w=>bf (h 1 w) w) (Cb 261 [ag,a_ c.2.2.2.2.2.2.2.1] [aK c,aA g] fun i j d=>bJ 16 [ag,c5V [58,61]] [aA d] fun _ l=>pO 262 [ag] [aK j,aA l] fun b e f=>b_ (decide (a.2.2.2.2.2.2.2.1.length+1<=aO)) (d_ [some [.ptr 2 0],jv (a.1,a.2.1,a.2.2.1,a.2.2.2.1,a.2.2.2.2.1,a.2.2.2.2.2.1,a.2.2.2.2.2.2.1,(a.2.2.2.2.2.2.2.1 ++ ([LW (i,b.1,b.2.1,b.2.2.1,b.2.2.2.1,())]:ai)),()),iZ e,aA f])):=pR cc
end
end Go.Proofs.YtagkcbgkhgccmaaGreatDoor.W
namespace Go.Proofs.YtagkcbgkhgccmaaGreatDoor.W.P
open Go.RowKit
set_option maxRecDepth 1000000
abbrev pc (d:Int) (v:ai):Sh.V eQ:=(d,v,())
variable {b:RA}
theorem opc (h:b.ok) (d:Int) (v:ai) (f:Int) (j:0<f):∃ o x,SS.CC 212 [ag,af f] [bF (pc d v),aA b.v]=some (.tuple [af o,.bool x,.bool (b.yE f)],[bF (pc d v),aA b.v])/\(b.yE f=true->o=(iK b.pk.text).2.1/\x=(iK b.pk.text).2.2):=by
 rw[bE2,eP (iW h)];dsimp only;unfold RA.yE;by_cases g:b.pk.kind=3
 .rw[show (b.pk.kind != 3)=false by simp[g],aF,show (b.pk.kind==3)=true by simp[g]];have:=opm _ (Jy h g) f (fun a e c=>some (.tuple [af e,.bool c,.bool (a==f)],[bF (pc d v),aA b.v])) (some (.tuple [af 0,.bool false,.bool false],[bF (pc d v),aA b.v]));rw[this];by_cases i:(iK b.pk.text).1=0
  .rw[ah i];refine ⟨0,false,?_,?_⟩
   .rw[i,show ((0:Int)==f)=false by simp; omega]; rfl
   grind
  grind
 .rw[show (b.pk.kind != 3)=true by simp[g],aI,show (b.pk.kind==3)=false by simp[g]];simp
theorem Qu (h:b.ok) (q:Sh.V eQ) (l:List fQ) (d:l.length<1000000000000):SS.CC 240 [ag,a_ (dD l)] [bF q,aA b.v]=some (af (b.wz l),[bF q,aA (b.kn l).v]):=by
 rw[bI0,eP (iW h)];try dsimp only
 rw[bu (He l d _),eP (iW h)];try dsimp only
 unfold RA.kn RA.wz;by_cases hk:b.pk.kind=1
 .rw[show (b.pk.kind==1)=true by simp[hk],aI];by_cases a:kK (bs b.pk.text) l 0<0
  .rw[aP a,aI,bW (lG h 9),Ob hk a];try dsimp only
   rw[a9A,lF (lJ (h.fail 9))]
  .rw[bG a,aF,JY (fun c=>a c.2),a9A,lF (lJ h)]
 .rw[show (b.pk.kind==1)=false by simp[hk],aF,JY (fun c=>hk c.1),a9A,lF (lJ h)]
theorem Q4 (h:b.ok) (q:Sh.V ay) (l:List fQ) (a:l.length<1000000000000):SS.CC 261 [ag,a_ (dD l)] [aK q,aA b.v]=some (af (kK (bs (b.kp l).gz) l 0),[aK q,aA (b.kn l).v]):=by
 rw[bJ7,eP (iW h)];try dsimp only
 unfold RA.kn;by_cases hk:b.pk.kind=1
 .rw[show (b.pk.kind==1)=true by simp[hk],aI,aj (D7 l a _)];by_cases d:kK (bs b.pk.text) l 0<0
  .rw[bG (by omega),pG,aI,bW (lG h 9),Ob hk d];try dsimp only
   rw[a9H,lF (lJ (h.fail 9)),bu (He l a _)]
  .rw[aP (by omega),uY,aF,JY (fun c=>d c.2),a9H,lF (lJ h),bu (He l a _)]
 .rw[show (b.pk.kind==1)=false by simp[hk],aF,JY (fun c=>hk c.1),a9H,lF (lJ h),bu (He l a _)]
variable {g:FuncId} {a:ai}
theorem aBM (h:b.ok)
 (he:∀ (c:Sh.V dF) (d:Sh.V aC),SS.CC 254 [ag,fU g [.ptr 1 0]] [aX c,some [ag],aA d]=aB (c.1==32) (bJ 21 [ag,af 3] [aA d] fun _ l=>some (A1 (0,0,0,[],()),[aX c,some [ag],aA l])) (fJ 63 [ag] [aA d] fun n e=>P7 g [ag] [some [.ptr 1 0],aX (i64.wrap (c.1+1),c.2.1,()),aA e] fun m f i=>P8 275 [ag] [some [.ptr 1 0],aX f,aA i] fun _ j u32=>some (A1 m,[aX j,some [ag],aA u32]))) :
 SS.CC 254 [ag,fU g [.ptr 1 0]] [aX (pc 32 a),some [ag],aA b.v]=some (A1 (ev zE),[aX (pc 32 a),some [ag],aA (b.fail 3).v]):=by
 rw[he];show aB true _ _=_;rw[aI,bW (lG h 3)];rfl
theorem b2T (d:Int) (v:ai) (A:RA) (a:0<=d) (b:d<32):SS.CC 275 [ag] [some [.ptr 1 0],aX (pc (d+1) v),aA A.v]=d_ [some [.ptr 1 0],aX (pc d v),aA A.v]:=by rw[bJ1];grind [wrap64]
theorem a3N {B:RA} {x:EX} {d:Int} (m:0<=d) (c:d<32) (h:b.ok)
 (he:∀ (e:Sh.V dF) (c:Sh.V aC),SS.CC 254 [ag,fU g [.ptr 1 0]] [aX e,some [ag],aA c]=aB (e.1==32) (bJ 21 [ag,af 3] [aA c] fun _ n=>some (A1 (0,0,0,[],()),[aX e,some [ag],aA n])) (fJ 63 [ag] [aA c] fun q f=>P7 g [ag] [some [.ptr 1 0],aX (i64.wrap (e.1+1),e.2.1,()),aA f] fun o i j=>P8 275 [ag] [some [.ptr 1 0],aX i,aA j] fun _ l u32=>some (A1 o,[aX l,some [ag],aA u32])))
 (p:SS.CC g [ag] [some [.ptr 1 0],aX (pc (d+1) a),aA b.next.v]=some (A1 (ev x),[some [.ptr 1 0],aX (pc (d+1) a),aA B.v])) :
 SS.CC 254 [ag,fU g [.ptr 1 0]] [aX (pc d a),some [ag],aA b.v]=some (A1 (ev x),[aX (pc d a),some [ag],aA B.v]):=by
 rw[he,show ((pc d a).1==32)=false by simp; omega,aF,eP (next h)];try dsimp only
 rw[show i64.wrap (d+1)=d+1 from wrap64 (by omega) (by omega),aZL p];try dsimp only
 rw[aZM (b2T d a B m c)]
end Go.Proofs.YtagkcbgkhgccmaaGreatDoor.W.P
namespace Go.Proofs.YtagkcbgkhgccmaaGreatDoor.W
open Go.RowKit
set_option maxRecDepth 1000000
abbrev MF:=fQ×ai×ai×ai×ai×ai×ai
structure Out (A A':RA) (x y:EX):Prop extends Le A A' where
 eq:A'.e=0->x=y
 lt:A'.e=0->A'.N<A.N
 fit:x.Fit
variable {b C:RA} {y p:EX}
theorem Out.bad' (h:Le b C) (e:C.e≠0) (f:y.Fit):Out b C y p:=⟨h,fun c=>absurd c e,fun c=>absurd c e,f⟩
section
variable {F:MF} {v:ai} {d:Int} {A B:RA} {x:EX}
theorem aBL (h:d<32):(d==32)=false:=by simp; omega
theorem wr1 (a:0<=d) (b:d<32):i64.wrap (d+1)=d+1:=wrap64 (by omega) (by omega)
theorem wr2 (a:0<=d) (b:d<32):i64.wrap (d+1-1)=d:=by rw[wrap64 (by omega) (by omega)]; omega
theorem aA8 (hk:A.pk.kind=2) (t:f_):A.is t=false:=by grind [RA.is]
theorem Nj (h:A.ok) (hk:A.pk.kind=2):0<=A.pk.value/\A.pk.value<=65536:=by
 rcases aCF h with (⟨a,_⟩|⟨_,a⟩|⟨a,_⟩) | a
 .omega
 .exact a
 .omega
 .omega
theorem a2F (h:A.ok) (hk:A.pk.kind=2):A.DR 0 65536=A.pk.value/\A.int 0 65536=A.next:=by obtain ⟨a,b⟩:=Nj h hk;grind [RA.mi,wrap64,RA.DR,RA.int,RA.Nh,RA.num]
end
theorem tlT:(⟨#[116,114,117,101]⟩:fQ).toList=lM:=LH _
theorem tlF:(⟨#[102,97,108,115,101]⟩:fQ).toList=o9:=LH _
def kz (o:Int):f_:=if o=2 then [43] else if o=3 then [45] else if o=4 then [42] else if o=6 then [61,61] else if o=7 then [33,61] else if o=8 then [60] else if o=9 then [60,61] else if o=11 then [38,38] else [124,124]
theorem KO (o:Int):SS.CC 274 [af o] []=some (.str (bs (kz o)),[]):=by
 rw[b5Y];unfold kz;simp only[PY,qG];repeat' split
 all_goals rfl
theorem tK (o:Int):kz o∈kM:=by
 unfold kz;repeat' split
 all_goals decide
def RA.ix (A:RA):List Int->Nat->Int
 | [],_ => -1
 | o::l,k=>bif A.is (kz o) then (k:Int) else A.ix l (k+1)
abbrev Jr (l:List Int):ai:=l.map fun o => af o
def Vo (t:f_):List Int->Nat->Int
 | [],_ => -1
 | o::l,k=>bif t==kz o then (k:Int) else Vo t l (k+1)
theorem aA9 {A:RA} (h:A.ok) (a:A.pk.kind=3):∀ (l:List Int) (k:Nat),A.ix l k=Vo A.pk.text l k
 | [],_=>rfl
 | o::l,k=>by rw[RA.ix,Vo,a2H h (tK o),a,aA9 h a l]; rfl
theorem aQX {A:RA} (h:A.ok) (a:A.pk.kind≠3):∀ (l:List Int) (k:Nat),A.ix l k = -1
 | [],_=>rfl
 | o::l,k=>by rw[RA.ix,a2H h (tK o),show (A.pk.kind==3)=false by grind,Xn,yV]; exact aQX h a l _
def BF (b:Int) (a:List Int):Prop:=∀ t,t∈kM->((iK t).1=b->∃ k ∈ [0,1],Vo t a 0=((k:Nat):Int)/\a[k]? = some (iK t).2.1/\(iK t).2.2=false)/\((iK t).1≠b->Vo t a 0 = -1)
theorem bUL:BF 1 [12]:=by unfold BF; decide
theorem ops2:BF 2 [11]:=by unfold BF; decide
theorem ops4:BF 4 [2,3]:=by unfold BF; decide
theorem ops5:BF 5 [4]:=by unfold BF; decide
variable {o:Int} {b6:List Int}
theorem bUN (h:b.ok) (a:BF o b6) (c:b.yE o=true):b.pk.kind≠4/\(∃ k:Nat,b.ix b6 0=(k:Int)/\b6[k]? = some (iK b.pk.text).2.1)/\(iK b.pk.text).2.2=false:=by
 unfold RA.yE at c;rw[bH] at c;have d:b.pk.kind=3:=by simp_all
 obtain ⟨k,_,k1,k2,k3⟩:=(a _ (Jy h d)).1 (by simp_all);grind [aA9]
theorem bUM (h:b.ok) (d:BF o b6) (c:b.yE o=false):b.ix b6 0 = -1:=by
 by_cases a:b.pk.kind=3
 .rw[aA9 h a];refine (d _ (Jy h a)).2 fun e => ?_
  grind [RA.yE]
 grind [aQX]
theorem BM (q:Sh.V zu) (A:RA):SS.CC 37 [ag] [GY q,aA A.v]=some (.bool (A.e != 0),[GY q,aA A.v]):=by rw[bCG,Lj (MQ A)]
section
variable {F:MF} {l:List fQ} {d:Int}
theorem b1J (a b:Sh.V S1):mX 4 ([af a.1,af a.2.1,af a.2.2.1,.sl false 4 a.2.2.2.1,af b.1,af b.2.1,af b.2.2.1,.sl false 4 b.2.2.2.1]:ai) 2 = [A1 a,A1 b]:=rfl
theorem b1K (a b:Sh.V S1):(decide (2*4<=([af a.1,af a.2.1,af a.2.2.1,.sl false 4 a.2.2.2.1,af b.1,af b.2.1,af b.2.2.1,.sl false 4 b.2.2.2.1]:ai).length)&&decide (0<4)&&([af a.1,af a.2.1,af a.2.2.1,.sl false 4 a.2.2.2.1,af b.1,af b.2.1,af b.2.2.1,.sl false 4 b.2.2.2.1]:ai).all fun p=>p.one&&p.flat)=true:=rfl
theorem bY8 (a b:Sh.V S1):SS.CC 213 [.slh 0 0 2 4] [some [af a.1,af a.2.1,af a.2.2.1,.sl false 4 a.2.2.2.1,af b.1,af b.2.1,af b.2.2.1,.sl false 4 b.2.2.2.1]]=d_ [some [af b.1,af b.2.1,af b.2.2.1,.sl false 4 b.2.2.2.1,af a.1,af a.2.1,af a.2.2.1,.sl false 4 a.2.2.2.1]]:=by rw[bE5,aM6];refine Eq.trans (b:=a00 [af b.1,af b.2.1,af b.2.2.1,.sl false 4 b.2.2.2.1,af a.1,af a.2.1,af a.2.2.1,.sl false 4 a.2.2.2.1] 1 0) rfl ?_;rw[aM6];rfl
theorem bSL:∀ t,t∈kM->(iK t).1=3->t = [61,61]\/t = [33,61]\/t = [60,61]\/t = [60]\/t = [62,61]\/t = [62]:=by decide
end
abbrev dl (v:Int):Nat:=(Lib.decDigits v.toNat).length
def wl (s:List UInt8):Nat:=if s.length<=100 then s.length else 1000000
theorem aFN:∀ t,t∈kM->wl t=t.length:=by decide
inductive jT (l:List ByteArray):Bool->Int->EX->Nat->Prop
 | num {v:Int}:0<=v->v<=65536->jT l true 6 (nE v) (dl v+1)
 | tt:jT l false 6 tE 5
 | ff:jT l false 6 fE 6
 | var {i:Int} {s:ByteArray}:0<=i->l[i.toNat]? = some s->jT l false 6 (vE i) (wl s.data.toList+1)
 | Dl {b:Bool} {x:EX} {w:Nat}:jT l b 6 x w->jT l false 6 (nY 10 x) (w+2)
 | RQ {v:Int}:0<=v->v<=65536->jT l false 6 (nE (0-v)) (dl v+3)
 | neg {x:EX} {w:Nat}:jT l false 6 x w->jT l false 6 (nY 5 x) (w+2)
 | par {b:Bool} {x:EX} {w:Nat}:jT l b 0 x w->jT l false 6 x (w+4)
 | up {b:Bool} {n m:Int} {x:EX} {w:Nat}:jT l b n x w->m<=n->m<=5->jT l false m x w
 | bin {b c:Bool} {o lv:Int} {x y:EX} {w u:Nat}:(o=2/\lv=4\/o=3/\lv=4\/o=4/\lv=5\/o=11/\lv=2\/o=12/\lv=1)->jT l b lv x w->jT l c (lv+1) y u->jT l false lv (jU o x y) (w+u+(kz o).length+1)
 | cmp {b c:Bool} {o:Int} {x y:EX} {w u:Nat}:(o=6\/o=7\/o=8\/o=9)->jT l b 4 x w->jT l c 4 y u->jT l false 3 (jU o x y) (w+u+(kz o).length+1)
 | ite {a b c:Bool} {x y z:EX} {w u v:Nat}:jT l a 1 x w->jT l b 0 y u->jT l c 0 z v->jT l false 0 (.node 13 0 0 [x,y,z]) (w+u+v+4)
def Az (t:Tok):Nat:=if t.kind=2 then dl t.value+1 else wl t.text+1
def yR:List Tok->Nat
 | []=>0
 | t::T=>Az t+yR T
def RA.W (A:RA):Nat:=if A.e=0 then yR A.toks else 0
section
variable {A:RA}
theorem FT (h:A.ok) (hk:A.pk.kind≠4):A.next.W+Az A.pk=A.W:=by
 have he:=FH hk;obtain ⟨t,tl,a⟩:=h.ne he;have b:A.pk=t:=by unfold RA.pk; rw[ah he,a]; rfl
 unfold RA.W;rw[(jY h hk).1,ah rfl,ah he];unfold RA.next;rw[ah ⟨he,hk⟩,b,a];show yR tl+_=_;rw[yR]; omega
variable {I:List UInt8}
theorem nV (h:A.ok) (c:A.is I=true):A.next.W+(wl I+1)=A.W:=by have a:=FT h (kD c);unfold RA.is at c;simp only[bH,EN,qG] at c;unfold Az at a;rw[aV (by omega),c.2] at a;exact a
theorem Qn (c:A.is I=true):(A.pk.kind==2)=false:=by unfold RA.is at c;simp only[bH,EN,qG] at c;simp; omega
theorem nC (h:A.ok) (e:(A.exp I).e=0):(A.exp I).W+(wl I+1)=A.W:=by
 unfold RA.exp at e ⊢;cases c:A.is I with
 | true=>exact nV h c
 | false=>rw[c] at e; exact absurd e (qM (by decide))
theorem XN {x:List UInt8} (h:A.ok):(A.take x).W+(if A.is x then wl x+1 else 0)=A.W:=by
 cases c:A.is x with
 | true=>rw[qC c]; exact nV h c
 | false=>rw[lZ c]; rfl
theorem Hw (h:A.ok) (e:A.name.e=0):A.name.W+(wl A.gz+1)=A.W:=by
 unfold RA.name RA.gz at *;by_cases hk:A.pk.kind=1
 .rw[ah hk,ah hk];have:=FT h (by omega);unfold Az at this;rwa [aV (by omega)] at this
 .rw[aV hk] at e; exact absurd e (qM (by decide))
theorem aA2 {s:ByteArray}:∀ {l:List ByteArray} {k:Nat},0<=kK s l k->(k:Int)<=kK s l k/\l[(kK s l k-k).toNat]? = some s
 | [],k,h=>by exact absurd h (show ¬ (0:Int) <= -1 by decide)
 | a::l,k,h=>by
  unfold kK at h ⊢;by_cases c:s=a
  .rw[ah c] at *;subst c;simp
  .rw[aV c] at *;obtain ⟨d,b⟩:=aA2 (l:=l) (k:=k+1) h;refine ⟨by omega,?_⟩;rw[show (kK s l (k+1)-k).toNat=(kK s l (k+1)-((k+1:Nat):Int)).toNat+1 by omega,Dq];exact b
end
structure a6M (l:List ByteArray) (A A':RA) (x y:EX):Prop extends Out A A' x y where
 rd:A'.e=0->∃ w,jT l (A.pk.kind==2) 6 x w/\w+A'.W<=A.W
structure U2 (l:List ByteArray) (lv:Int) (A A':RA) (x y:EX):Prop extends Out A A' x y where
 rd:A'.e=0->∃ b w,jT l b lv x w/\w+A'.W<=A.W
theorem a6M.bad' {l:List ByteArray} (h:Le b C) (e:C.e≠0) (f:y.Fit):a6M l b C y p:=⟨.bad' h e f,fun c=>absurd c e⟩
end Go.Proofs.YtagkcbgkhgccmaaGreatDoor.W
namespace Go.Proofs.YtagkcbgkhgccmaaGreatDoor.W.P
open Go.RowKit
set_option maxRecDepth 1000000
abbrev md (F:MF) (v:ai) (d:Int):Sh.V ay:=(F.1,F.2.1,F.2.2.1,F.2.2.2.1,F.2.2.2.2.1,F.2.2.2.2.2.1,F.2.2.2.2.2.2,v,d,())
section
variable {F:MF} {v:ai} {d:Int} {A B:RA} {x:EX}
theorem b2X (h:A.ok):SS.CC 296 [ag,.func (.func 293) [ag] []] [aK (md F v 32),aA A.v]=some (A1 (ev zE),[aK (md F v 32),aA (A.fail 3).v]):=by rw[aNR];show aB true _ _=_;rw[aI,bW (lG h 3)];rfl
theorem b2U (h:A.ok) (b:Bool):SS.CC 296 [ag,fU 297 [.ptr 1 0,.ptr 2 0]] [iZ (md F v 32),some [ag],jM (b,()),aA A.v]=some (A1 (ev zE),[iZ (md F v 32),some [ag],jM (b,()),aA (A.fail 3).v]):=by rw[aNS];show aB true _ _=_;rw[aI,bW (lG h 3)];rfl
theorem b2V (h:A.ok):SS.CC 296 [ag,fU 298 [.ptr 1 0]] [dQ (md F v 32),some [ag],aA A.v]=some (A1 (ev zE),[dQ (md F v 32),some [ag],aA (A.fail 3).v]):=by rw[aNT];show aB true _ _=_;rw[aI,bW (lG h 3)];rfl
theorem b2Y (c:0<=d) (b:d<32) (h:A.ok) (e:SS.CC 293 [ag] [aK (md F v (d+1)),aA A.next.v]=some (A1 (ev x),[aK (md F v (d+1)),aA B.v])) :
 SS.CC 296 [ag,.func (.func 293) [ag] []] [aK (md F v d),aA A.v]=some (A1 (ev x),[aK (md F v d),aA B.v]):=by
 rw[aNR];show aB (d==32) _ (fJ 63 [ag] [aA A.v] fun f a=>pO 293 [ag] [aK (md F v (i64.wrap (d+1))),aA a] _)=_;rw[aBL b,aF,eP (next h)];try dsimp only
 rw[wr1 c b,yY e];grind [wr2]
theorem aIL (e:0<=d) (c:d<32) (h:A.ok) (b:Bool) (f:SS.CC 293 [ag] [aK (md F v (d+1)),aA A.next.v]=some (A1 (ev x),[aK (md F v (d+1)),aA B.v])) :
 SS.CC 296 [ag,fU 297 [.ptr 1 0,.ptr 2 0]] [iZ (md F v d),some [ag],jM (b,()),aA A.v]=some (A1 (ev x),[iZ (md F v d),some [ag],jM ((A.next.pk.kind==2),()),aA B.v]):=by
 have g:SS.CC 297 [ag,.ptr 1 0] [some [.ptr 2 0],jM (b,()),iZ (md F v (d+1)),aA A.next.v]=some (A1 (ev x),[some [.ptr 2 0],jM ((A.next.pk.kind==2),()),iZ (md F v (d+1)),aA B.v]):=by
  rw[bJ2,eP (iW h.next)];try dsimp only
  rw[yY f]
 rw[aNS];show aB (d==32) _ (fJ 63 [ag] [aA A.v] fun i a=>a6K 297 [ag,.ptr 1 0] [some [.ptr 2 0],jM (b,()),iZ (md F v (i64.wrap (d+1))),aA a] _)=_;rw[aBL c,aF,eP (next h)];try dsimp only
 rw[wr1 e c,aZN g];grind [wr2]
theorem b2W (c:0<=d) (b:d<32) (h:A.ok) (e:B.ok) (f:SS.CC 262 [ag] [aK (md F v (d+1)),aA A.next.v]=some (A1 (ev x),[aK (md F v (d+1)),aA B.v])) :
 SS.CC 296 [ag,fU 298 [.ptr 1 0]] [dQ (md F v d),some [ag],aA A.v]=some (A1 (ev x),[dQ (md F v d),some [ag],aA (B.exp [41]).v]):=by
 have g:SS.CC 298 [ag] [some [.ptr 1 0],dQ (md F v (d+1)),aA A.next.v]=some (A1 (ev x),[some [.ptr 1 0],dQ (md F v (d+1)),aA (B.exp [41]).v]):=by
  rw[bJ3,yY f];try dsimp only
  rw[bW (aJ3 e)]
 rw[aNT];show aB (d==32) _ (fJ 63 [ag] [aA A.v] fun i a=>GM 298 [ag] [some [.ptr 1 0],dQ (md F v (i64.wrap (d+1))),aA a] _)=_;rw[aBL b,aF,eP (next h)];try dsimp only
 rw[wr1 c b,a6H g];grind [wr2]
theorem b0B (a:SS.CC 211 [ag] [bF (pc d v),aA A.v]=some (A1 (ev x),[bF (pc d v),aA B.v])):SS.CC 255 [ag] [some [.ptr 1 0],aX (pc d v),aA A.v]=some (A1 (ev (nY 10 x)),[some [.ptr 1 0],aX (pc d v),aA B.v]):=by rw[bHY,yc a,ev1]
theorem b0E (a:B.ok) (b:SS.CC 27 [ag] [bF (pc d v),aA A.v]=some (A1 (ev x),[bF (pc d v),aA B.v])):SS.CC 257 [ag] [some [.ptr 1 0],aX (pc d v),aA A.v]=some (A1 (ev x),[some [.ptr 1 0],aX (pc d v),aA (B.exp [41]).v]):=by
 rw[bHZ,yc b];try dsimp only
 rw[bW (aJ3 a)]
theorem b0C (h:A.ok) (hk:A.pk.kind≠2) (a:SS.CC 211 [ag] [bF (pc d v),aA A.v]=some (A1 (ev x),[bF (pc d v),aA B.v])):SS.CC 256 [ag] [some [.ptr 1 0],aX (pc d v),aA A.v]=some (A1 (ev (nY 5 x)),[some [.ptr 1 0],aX (pc d v),aA B.v]):=by
 rw[aND,eP (iW h)];try dsimp only
 rw[show (A.pk.kind==2)=false by grind,aF,yc a,ev1]
theorem b0D (h:A.ok) (hk:A.pk.kind=2):SS.CC 256 [ag] [some [.ptr 1 0],aX (pc d v),aA A.v]=some (A1 (ev (nE (i64.wrap (0-A.pk.value)))),[some [.ptr 1 0],aX (pc d v),aA A.next.v]):=by
 rw[aND,eP (iW h)];try dsimp only
 rw[show (A.pk.kind==2)=true by simp[hk],aI,PH (Qk h 0 65536),(a2F h hk).1,(a2F h hk).2,MR]
theorem aUU (h:A.ok) (hk:A.pk.kind=2):SS.CC 293 [ag] [aK (md F v d),aA A.v]=some (A1 (ev (nE A.pk.value)),[aK (md F v d),aA A.next.v]):=by
 rw[H5,eP (iW h)];try dsimp only
 rw[bQ (uj h)];try dsimp only
 rw[aA8 hk,aF,bQ (zB h)];try dsimp only
 rw[aA8 hk,aF,bQ (JW h)];try dsimp only
 rw[aA8 hk,aF,show (A.pk.kind==2)=true by simp[hk],aI,eP (next h),MR]
end
variable {b:RA}
theorem b_V {l:List fQ} {d:Int} (a:b.ok) (g:b.is [33]=false) (h:b.is [45]=false) (c:b.is [40]=false) (hk:¬b.pk.kind=2):SS.CC 211 [ag] [bF (pc d (dD l)),aA b.v]=aB (b.is lM) (some (A1 (ev tE),[bF (pc d (dD l)),aA (b.take lM).v])) (bP 62 [ag,c5V [102,97,108,115,101]] [aA (b.take lM).v] fun e f=>aB e (qH 138 [] fun i=>some (A1 i,[bF (pc d (dD l)),aA f])) (Zz (pc d (dD l)) f)):=by
 rw[Gy,bQ (uj a)];try dsimp only
 rw[g,aF,bQ (zB a)];try dsimp only
 rw[h,aF,bQ (JW a)];try dsimp only
 rw[c,aF,eP (iW a)];try dsimp only
 rw[show (b.pk.kind==2)=false by grind,aF,bQ (tkT a)];try dsimp only
 rw[eX kF]
theorem bUK {F:MF} {l:List fQ} {d:Int} (a:b.ok) (e:b.is [33]=false) (f:b.is [45]=false) (c:b.is [40]=false) (hk:¬b.pk.kind=2):SS.CC 293 [ag] [aK (md F (dD l) d),aA b.v]=aB (b.is lM) (some (A1 (ev tE),[aK (md F (dD l) d),aA b.next.v])) (aB (b.is o9) (some (A1 (ev fE),[aK (md F (dD l) d),aA b.next.v])) (QP (md F (dD l) d) b.v)):=by
 rw[H5,eP (iW a)];try dsimp only
 rw[bQ (uj a)];try dsimp only
 rw[e,aF,bQ (zB a)];try dsimp only
 rw[f,aF,bQ (JW a)];try dsimp only
 rw[c,aF,show (b.pk.kind==2)=false by grind,aF,eP (next a)];try dsimp only
 rw[eX kF,eP (next a)];try dsimp only
 rw[eX kY,DJ,tlT,tlF,Qo a (x:=lM) (by decide),Qo a (x:=o9) (by decide)];cases b.pk.kind==1<;>cases b.pk.text==lM<;>cases b.pk.text==o9<;>simp only[aI,aF,Xn,LG]
def U4 (F:MF) (l:List fQ) (n:Nat):Prop:=∀ d:Int,0<=d->d<=32->∀ A:RA,A.ok->A.N<=n->∃ a x y,
 SS.CC 211 [ag] [bF (pc d (dD l)),aA A.v]=some (A1 (ev x),[bF (pc d (dD l)),aA a.v]) /\
 SS.CC 293 [ag] [aK (md F (dD l) d),aA A.v]=some (A1 (ev y),[aK (md F (dD l) d),aA a.v])/\a6M l A a x y
def Y8 (F:MF) (l:List fQ) (n:Nat):Prop:=∀ d:Int,0<=d->d<=32->∀ A:RA,A.ok->A.N<=n->∃ a x y,
 SS.CC 27 [ag] [bF (pc d (dD l)),aA A.v]=some (A1 (ev x),[bF (pc d (dD l)),aA a.v]) /\
 SS.CC 262 [ag] [aK (md F (dD l) d),aA A.v]=some (A1 (ev y),[aK (md F (dD l) d),aA a.v])/\U2 l 0 A a x y
theorem bZM {F:MF} {l:List fQ} (H:l.length<1000000000000) {n:Nat} (t:∀ m,m<n->U4 F l m) (G:∀ m,m<n->Y8 F l m):U4 F l n:=by
 intro d j M A a O;cases f:A.is [33] with
 | true =>
  have I:=aQL a (x := [33]) (by decide) f;have c:=jY a (kD f);by_cases u:d=32
  .subst u;refine ⟨A.fail 3,zE,nY 10 zE,?_,?_,.bad' (.fail a (by decide)) (qM (by decide)) Ew⟩
   .rw[Gy,bQ (uj a)];try dsimp only
    rw[f,aI,eP (iW a)];try dsimp only
    rw[show (A.pk.kind==3)=true by simp[I.1],aI,Lh (aBM a aNB)]
   .rw[H5,eP (iW a)];try dsimp only
    rw[bQ (uj a)];try dsimp only
    rw[f,aI,yY (b2X a),ev1]
  .obtain ⟨B,x,y,v,z,g⟩:=t A.next.N (by omega) (d+1) (by omega) (by omega) A.next a.next (dG _);refine ⟨B,nY 10 x,nY 10 y,?_,?_,⟨⟨(Le.next a).trans g.toLe,fun e=>by rw[g.eq e],fun e=>Nat.lt_trans (g.lt e) c.2,aJT g.fit⟩,fun e=>by obtain ⟨w,r,J⟩:=g.rd e;have:A.next.W+2=A.W:=nV a f;exact ⟨w+2,by rw[Qn f]; exact .Dl r,by omega⟩⟩⟩
   .rw[Gy,bQ (uj a)];try dsimp only
    rw[f,aI,eP (iW a)];try dsimp only
    rw[show (A.pk.kind==3)=true by simp[I.1],aI,Lh (a3N j (by omega) a aNB (b0B v))]
   .rw[H5,eP (iW a)];try dsimp only
    rw[bQ (uj a)];try dsimp only
    rw[f,aI,yY (b2Y j (by omega) a z),ev1]
 | false =>
  cases i:A.is [45] with
  | true =>
   have c:=jY a (kD i);by_cases u:d=32
   .subst u;refine ⟨A.fail 3,zE,nY 5 zE,?_,?_,.bad' (.fail a (by decide)) (qM (by decide)) Ew⟩
    .rw[Gy,bQ (uj a)];try dsimp only
     rw[f,aF,bQ (zB a)];try dsimp only
     rw[i,aI,Lh (aBM a a99)]
    .rw[H5,eP (iW a)];try dsimp only
     rw[bQ (uj a)];try dsimp only
     rw[f,aF,bQ (zB a)];try dsimp only
     rw[i,aI,a6J (b2U a false)];rfl
   .by_cases hk:A.next.pk.kind=2
    .have C:=jY a.next (show A.next.pk.kind≠4 by omega);refine ⟨A.next.next,nE (i64.wrap (0-A.next.pk.value)),nE (i64.wrap (0-A.next.pk.value)),?_,?_,⟨⟨(Le.next a).trans (Le.next a.next),fun _=>rfl,fun _=>Nat.lt_trans C.2 c.2,Ew⟩,fun e=>by have k1:A.next.W+2=A.W:=nV a i;have k2:=FT a.next (show A.next.pk.kind≠4 by omega);obtain ⟨K,L⟩:=Nj a.next hk;unfold Az at k2;rw[ah hk] at k2;exact ⟨_,by rw[Qn i,wrap64 (by omega) (by omega)]; exact .RQ K L,by omega⟩⟩⟩
     .rw[Gy,bQ (uj a)];try dsimp only
      rw[f,aF,bQ (zB a)];try dsimp only
      rw[i,aI,Lh (a3N j (by omega) a a99 (b0D a.next hk))]
     .rw[H5,eP (iW a)];try dsimp only
      rw[bQ (uj a)];try dsimp only
      rw[f,aF,bQ (zB a)];try dsimp only
      rw[i,aI,a6J (aIL j (by omega) a false (aUU a.next hk))];try dsimp only
      rw[show (A.next.pk.kind==2)=true by simp[hk],aI];rfl
    .obtain ⟨B,x,y,v,z,g⟩:=t A.next.N (by omega) (d+1) (by omega) (by omega) A.next a.next (dG _);refine ⟨B,nY 5 x,nY 5 y,?_,?_,⟨⟨(Le.next a).trans g.toLe,fun e=>by rw[g.eq e],fun e=>Nat.lt_trans (g.lt e) c.2,aJT g.fit⟩,fun e=>by obtain ⟨w,r,J⟩:=g.rd e;rw[show (A.next.pk.kind==2)=false by simp[hk]] at r;have:A.next.W+2=A.W:=nV a i;exact ⟨w+2,by rw[Qn i]; exact .neg r,by omega⟩⟩⟩
     .rw[Gy,bQ (uj a)];try dsimp only
      rw[f,aF,bQ (zB a)];try dsimp only
      rw[i,aI,Lh (a3N j (by omega) a a99 (b0C a.next hk v))]
     .rw[H5,eP (iW a)];try dsimp only
      rw[bQ (uj a)];try dsimp only
      rw[f,aF,bQ (zB a)];try dsimp only
      rw[i,aI,a6J (aIL j (by omega) a false z)];grind [aF,ev1]
  | false =>
   cases h:A.is [40] with
   | true =>
    have c:=jY a (kD h);by_cases u:d=32
    .subst u;refine ⟨A.fail 3,zE,zE,?_,?_,.bad' (.fail a (by decide)) (qM (by decide)) Ew⟩
     .rw[Gy,bQ (uj a)];try dsimp only
      rw[f,aF,bQ (zB a)];try dsimp only
      rw[i,aF,bQ (JW a)];try dsimp only
      rw[h,aI,Lh (aBM a aNC)]
     .rw[H5,eP (iW a)];try dsimp only
      rw[bQ (uj a)];try dsimp only
      rw[f,aF,bQ (zB a)];try dsimp only
      rw[i,aF,bQ (JW a)];try dsimp only
      rw[h,aI,Tc (b2V a)]
    .obtain ⟨B,x,y,v,z,g⟩:=G A.next.N (by omega) (d+1) (by omega) (by omega) A.next a.next (dG _);have D:=Le.exp g.ok [41];refine ⟨B.exp [41],x,y,?_,?_,⟨⟨((Le.next a).trans g.toLe).trans D,fun e=>g.eq (D.e0 e),fun e=>Nat.lt_of_le_of_lt D.le (Nat.lt_trans (g.lt (D.e0 e)) c.2),g.fit⟩,fun e=>by obtain ⟨b,w,r,J⟩:=g.rd (D.e0 e);have k1:A.next.W+2=A.W:=nV a h;have k2:(B.exp [41]).W+2=B.W:=nC g.ok e;exact ⟨w+4,by rw[Qn h]; exact .par r,by omega⟩⟩⟩
     .rw[Gy,bQ (uj a)];try dsimp only
      rw[f,aF,bQ (zB a)];try dsimp only
      rw[i,aF,bQ (JW a)];try dsimp only
      rw[h,aI,Lh (a3N j (by omega) a aNC (b0E g.ok v))]
     .rw[H5,eP (iW a)];try dsimp only
      rw[bQ (uj a)];try dsimp only
      rw[f,aF,bQ (zB a)];try dsimp only
      rw[i,aF,bQ (JW a)];try dsimp only
      rw[h,aI,Tc (b2W j (by omega) a g.ok z)]
   | false =>
    by_cases hk:A.pk.kind=2
    .have c:=jY a (show A.pk.kind≠4 by omega);refine ⟨A.next,nE A.pk.value,nE A.pk.value,?_,aUU a hk,⟨⟨Le.next a,fun _=>rfl,fun _=>c.2,Ew⟩,fun e=>by have k2:=FT a (show A.pk.kind≠4 by omega);unfold Az at k2;rw[ah hk] at k2;exact ⟨_,by rw[show (A.pk.kind==2)=true by simp[hk]]; exact .num (Nj a hk).1 (Nj a hk).2,by omega⟩⟩⟩;rw[Gy,bQ (uj a)];try dsimp only
     rw[f,aF,bQ (zB a)];try dsimp only
     rw[i,aF,bQ (JW a)];try dsimp only
     rw[h,aF,eP (iW a)];try dsimp only
     rw[show (A.pk.kind==2)=true by simp[hk],aI,PH (Qk a 0 65536),(a2F a hk).1,(a2F a hk).2,MR]
    .have o:=b_V (l:=l) (d:=d) a f i h hk;have E:=bUK (F:=F) (l:=l) (d:=d) a f i h hk;cases p:A.is lM with
     | true =>
      have c:=jY a (kD p);refine ⟨A.next,tE,tE,?_,?_,⟨⟨Le.next a,fun _=>rfl,fun _=>c.2,Gv Ew Ew⟩,fun e=>⟨5,by rw[Qn p]; exact .tt,by have:A.next.W+5=A.W:=nV a p; omega⟩⟩⟩;grind [aI,qC]
      simp_all
     | false =>
      cases q:A.is o9 with
      | true =>
       have c:=jY a (kD q);refine ⟨A.next,fE,fE,?_,?_,⟨⟨Le.next a,fun _=>rfl,fun _=>c.2,Gv Ew Ew⟩,fun e=>⟨6,by rw[Qn q]; exact .ff,by have:A.next.W+6=A.W:=nV a q; omega⟩⟩⟩
       .rw[o,p,aF,lZ p,bQ (tkF a)];try dsimp only
        rw[q,aI,eX kY,qC q]
       simp_all
      | false =>
       refine ⟨A.kn l,vE (A.wz l),vE (if (0:Int)>kK (bs (A.kp l).gz) l 0 then 0 else kK (bs (A.kp l).gz) l 0),?_,?_,⟨⟨Le.kn a l,fun e=>by rw[(aAM a e).1],fun e=>(aAM a e).2,Ew⟩,fun e=>by
        obtain ⟨k1,k2,k3,k4,k5⟩:=aAL a e;have k6:=FT a (show A.pk.kind≠4 by omega);unfold Az at k6;rw[aV (by omega)] at k6;obtain ⟨_,k7⟩:=aA2 (k:=0) k3;have k8:A.wz l=kK (bs A.pk.text) l 0:=by grind [RA.wz]
        refine ⟨_,by rw[show (A.pk.kind==2)=false by simp[k2]]; exact .var (s:=bs A.pk.text) (by omega) (by rw[k8]; grind),?_⟩;rw[k4]; show wl A.pk.text+1+A.next.W<=A.W; omega⟩⟩
       .rw[o,p,aF,lZ p,bQ (tkF a)];try dsimp only
        rw[q,aF,lZ q,bE0,EY (Qu a (pc d (dD l)) l H),aJ0]
       .rw[E,p,aF,q,aF,bI4,EU (Q4 a (md F (dD l) d) l H),aJ0]
theorem bOW (h:b.ok) (q:Sh.V ay) (o:Int):SS.CC 285 [af o,ag] [some [.ptr 1 0],dQ q,aA b.v]=some (.bool (b.is (kz o)),[some [.ptr 1 0],dQ q,aA b.v]):=by rw[bEF,o6 (KO o),bQ (sU h _)];rfl
theorem aQW {A:RA} (h:A.ok) (q:Sh.V ay) (all:List Int) (b:all.length<1000000000000):∀ (l:List Int) (k:Nat),all.drop k=l->k<=all.length->a02 (Jr all) q A.v (k:Int)=some (af (A.ix l k),[some [.ptr 1 0],dQ q,aA A.v])
 | [],k,a,hk=>by have:all.length<=k:=Oj.1 a;rw[aM8,bG (by rw[bM]; omega)]; rfl
 | o::l,k,a,hk=>by
  have c:k<all.length:=by
   rcases zk k all.length with h' | h'
   .exact h'
   .rw[Ik h'] at a; cases a
  have d:all[k]? = some o:=by have:=congrArg (fun l=>l[0]?) a;simpa using this
  rw[aM8,aP (by rw[bM]; omega),nD (by omega) (by rw[qf,lN,d]; rfl),zU,CZ (bOW h q o)];rw[RA.ix];cases A.is (kz o) with
  | true=>rfl
  | false =>rw[wrap64 (by omega) (by omega)];exact aQW h q all b l (k+1) (by rw[<- Oi,a]; rfl) (by omega)
theorem ixc (h:b.ok) (q:Sh.V ay) (l:List Int) (a:l.length<1000000000000):SS.CC 258 [a_ (Jr l),fU 285 [ag]] [some [.ptr 1 0],dQ q,aA b.v]=some (af (b.ix l 0),[some [.ptr 1 0],dQ q,aA b.v]):=by rw[bEE]; exact aQW h q l a l 0 rfl (Io _)
abbrev J3:=Sh.V ay->Sh.V aC->(Sh.V S1->Sh.V ay->Sh.V aC->R)->R
def a6P:J3:=fun a b K=>pO 293 [ag] [aK a,aA b] K
def Y3:J3:=fun a b K=>pO 278 [ag] [aK a,aA b] K
def PO:J3:=fun a b K=>pO 286 [ag] [aK a,aA b] K
def a6N:J3:=fun a b K=>GM 277 [ag] [some [.ptr 1 0],dQ a,aA b] K
def a6O:J3:=fun a b K=>GM 292 [ag] [some [.ptr 1 0],dQ a,aA b] K
abbrev Xv:=Sh.V S1->Sh.V ay->Sh.V aC->R
def b4I:Xv:=fun u a b=>some (A1 u,[aK a,aA b])
def b4K:Xv:=fun u a b=>some (A1 u,[dQ a,some [ag],aA b])
def BI (F:MF) (l:List fQ) (n:Nat) (d b:Int) (c:J3):Prop:=∀ A:RA,A.ok->A.N<=n->∃ a x y,
 SS.CC 131 [ag,af b] [bF (pc d (dD l)),aA A.v]=some (A1 (ev x),[bF (pc d (dD l)),aA a.v]) /\
 (∀ K,c (md F (dD l) d) A.v K=K (ev y) (md F (dD l) d) a.v)/\U2 l b A a x y
theorem bUJ:∀ t,t∈kM->(iK t).1≠3->(iK t).1≠0->((iK t).2.1=2/\(iK t).1=4\/(iK t).2.1=3/\(iK t).1=4\/(iK t).2.1=4/\(iK t).1=5\/(iK t).2.1=11/\(iK t).1=2\/(iK t).2.1=12/\(iK t).1=1)/\(kz (iK t).2.1).length=t.length:=by decide
theorem BM (q:Sh.V ay) (A:RA):SS.CC 37 [ag] [aK q,aA A.v]=some (.bool (A.e != 0),[aK q,aA A.v]):=by rw[bCH,Lj (MQ A)]
section
variable {F:MF} {l:List fQ} {d:Int} {C:RA} {y:EX} {a:ai}
theorem W9 {f:Int} {x:EX} (h:b.ok) (g:0<f) (h6:f<6) (c:b.yE f=true) (j:(iK b.pk.text).2.2=false)
 (e:SS.CC 131 [ag,af (f+1)] [bF (pc d a),aA b.next.v]=some (A1 (ev y),[bF (pc d a),aA C.v])) :
 Gx f (pc d a) b.v (ev x)=aB (f==3) (some (A1 (ev (jU (iK b.pk.text).2.1 x y)),[bF (pc d a),aA C.v])) (Gx f (pc d a) C.v (ev (jU (iK b.pk.text).2.1 x y))):=by
 obtain ⟨o,l,i,m⟩:=opc h d a f g;rw[a8P,a6I i];rw[eP (next h)];rw[wrap64 (by omega) (by omega),yc e];grind [aF,aQ,b1K,b1J,aLO,vU]
theorem aSE {e:Int} (h:b.ok) (f:0<e) (c:b.yE e=false):Gx e (pc d a) b.v (ev y)=some (A1 (ev y),[bF (pc d a),aA b.v]):=by obtain ⟨o,i,g,_⟩:=opc h d a e f;rw[a8P,a6I g];simp_all
variable {c8:J3} {n:Nat}
theorem I_ {g:Int} {f:List Int} {L:Sh.V ay->Sh.V aC->Sh.V S1->R} {j:Xv} (M:0<g) (h6:g<6) (h3:g≠3) (O:BF g f) (Q:f.length<1000000000000)
 (S:∀ T D p,L T D p=CX 37 [ag] [aK T,aA D] fun b1 U q=>aB (!b1) (Ld 258 [a_ (Jr f),fU 285 [ag]] [some [.ptr 1 0],dQ U,aA q] fun t Y u=>aB (decide (t<0)) (j p Y u) (fJ 63 [ag] [aA u] fun a' G=>di (Jr f) t fun H=>vI .i64 H fun I=>c8 Y G fun J EJ K=>L EJ K (I,0,0,[A1 p,A1 J],()))) (j p U q))
 (hS:BI F l n d (g+1) c8) {X:Nat}:∀ (m:Nat) (A:RA) (x y:EX),A.ok->A.N<=m->m<=n->(A.e=0->x=y)->x.Fit->(A.e=0->∃ b w,jT l b g x w/\w+A.W<=X)->∃ h o E,
  Gx g (pc d (dD l)) A.v (ev x)=some (A1 (ev o),[bF (pc d (dD l)),aA h.v])/\L (md F (dD l) d) A.v (ev y)=j (ev E) (md F (dD l) d) h.v/\Le A h/\(h.e=0->o=E)/\o.Fit/\(h.e=0->∃ b w,jT l b g o w/\w+h.W<=X):=by
 intro m;induction m using Nat.strongRecOn with
 | _ m ih =>
  intro A x y a hm b0 z i C;cases c:A.yE g with
  | false =>
   refine ⟨A,x,y,aSE a M c,?_,.refl a,z,i,C⟩;rw[S,CY (BM _ A)];cases A.e != 0 with
   | true=>rw[uY,aF]
   | false =>rw[aGF (ixc a _ f Q),bUM a O c];rfl
  | true =>
   obtain ⟨k4,⟨k,k1,k2⟩,k3⟩:=bUN a O c;have he:=FH k4;have b3:=jY a k4;obtain ⟨B,x1,y1,e1,e2,o1⟩:=hS A.next a.next (by omega);have hB:=o1.le;obtain ⟨h,o,E,f1,f2,f3,f4⟩:=ih B.N (by omega) B (jU (iK A.pk.text).2.1 x x1) (jU (iK A.pk.text).2.1 y y1) o1.ok (dG _) (by omega) (fun e=>by rw[o1.eq e,z he]) (Gv i o1.fit) fun e=>by
    obtain ⟨b,w,r,hw⟩:=C he;obtain ⟨b2,w2,r2,b4⟩:=o1.rd e;have c':=c;unfold RA.yE at c';have D:(iK A.pk.text).1=g:=by grind
    have Z:A.pk.kind=3:=by grind
    obtain ⟨q3,p⟩:=bUJ _ (Jy a Z) (by omega) (by omega);rw[D] at q3;have q5:=FT a k4;unfold Az at q5;rw[aV (by omega)] at q5;have q6:=aFN _ (Jy a Z);exact ⟨_,_,.bin q3 r r2,by omega⟩
   refine ⟨h,o,E,?_,?_,((Le.next a).trans o1.toLe).trans f3,f4⟩
   .rw[W9 a M h6 c k3 e1,show (g==3)=false by grind,aF,f1]
   .rw[S,CY (BM _ A)];rw[show (A.e != 0)=false by simp[he],pG,aI,aGF (ixc a _ f Q),k1];rw[bG (by omega),aF,eP (next a)];rw[nD (by omega) (by rw[qf,lN,k2]; rfl),zU,e2,<- f2,vU]
theorem M_ {lv:Int} {c:List Int} {L:Sh.V ay->Sh.V aC->Sh.V S1->R} {fin:Xv} (J:0<lv) (h6:lv<6) (K:lv≠3) (M:BF lv c) (O:c.length<1000000000000)
 (Q:∀ C D j,L C D j=CX 37 [ag] [aK C,aA D] fun S E f=>aB (!S) (Ld 258 [a_ (Jr c),fU 285 [ag]] [some [.ptr 1 0],dQ E,aA f] fun g G h=>aB (decide (g<0)) (fin j G h) (fJ 63 [ag] [aA h] fun T m=>di (Jr c) g fun o=>vI .i64 o fun p=>c8 G m fun q U t=>L U t (p,0,0,[A1 j,A1 q],()))) (fin j E f))
 (H:BI F l n d (lv+1) c8) (A:RA) (X:A.ok) (I:A.N<=n):∃ i x y,
  SS.CC 131 [ag,af lv] [bF (pc d (dD l)),aA A.v]=some (A1 (ev x),[bF (pc d (dD l)),aA i.v])/\(c8 (md F (dD l) d) A.v fun u a b=>L a b u)=fin (ev y) (md F (dD l) d) i.v/\U2 l lv A i x y:=by
 obtain ⟨B,Y,Z,e1,e2,o1⟩:=H A X I;obtain ⟨i,x',y',f1,f2,z,f4,f5,f6⟩:=I_ J h6 K M O Q H B.N B Y Z o1.ok (dG _) (lD o1.le I) o1.eq o1.fit fun e=>by obtain ⟨b,w,r,hw⟩:=o1.rd e;exact ⟨_,w,.up r (by omega) (by omega),hw⟩
 refine ⟨i,x',y',?_,?_,⟨⟨o1.toLe.trans z,f4,fun e=>Nat.lt_of_le_of_lt z.le (o1.lt (z.e0 e)),f5⟩,f6⟩⟩
 .rw[a8Q,show (lv==6)=false by simp; omega,wrap64 (by omega) (by omega),yc e1];exact f1
 grind
theorem bZL (a:0<=d) (b:d<=32) (c:U4 F l n):BI F l n d 6 a6P:=by
 intro A f g;obtain ⟨B,x,y,h,i,o⟩:=c d a b A f g;refine ⟨B,x,y,?_,fun K => ?_,⟨o.toOut,fun e=>by obtain ⟨w,r,j⟩:=o.rd e; grind⟩⟩
 .rw[a8Q];show aB true _ _=_;rw[aI,yc h]
 .unfold a6P; rw[yY i]
theorem bZK (h:BI F l n d 6 a6P):BI F l n d 5 a6O:=by
 intro A a b;obtain ⟨B,x,y,c,e,o⟩:=M_ (by decide) (by decide) (by decide) ops5 (by decide) (fun f g i=>bBX _ f g i) h A a b;refine ⟨B,x,y,c,fun K => ?_,o⟩;have j:SS.CC 276 [ag,a_ [af 4],.func (.func 293) [ag] []] [aK (md F (dD l) d),aA A.v]=some (A1 (ev y),[aK (md F (dD l) d),aA B.v]):=(bBY _ _ _).trans e;have m:SS.CC 292 [ag] [some [.ptr 1 0],dQ (md F (dD l) d),aA A.v]=some (A1 (ev y),[some [.ptr 1 0],dQ (md F (dD l) d),aA B.v]):=by rw[bI3,yY j]
 unfold a6O; rw[a6H m]
theorem bZJ (h:BI F l n d 5 a6O):BI F l n d 4 PO:=by
 intro A a b;obtain ⟨B,x,y,c,e,o⟩:=M_ (by decide) (by decide) (by decide) ops4 (by decide) (fun f g i=>bBS _ f g i) h A a b;refine ⟨B,x,y,c,fun K => ?_,o⟩;have j:SS.CC 276 [ag,a_ [af 2,af 3],fU 292 [.ptr 1 0]] [dQ (md F (dD l) d),some [ag],aA A.v]=some (A1 (ev y),[dQ (md F (dD l) d),some [ag],aA B.v]):=(bBT _ _ _).trans e;have m:SS.CC 286 [ag] [aK (md F (dD l) d),aA A.v]=some (A1 (ev y),[aK (md F (dD l) d),aA B.v]):=by rw[bEH,Tc j]
 unfold PO; rw[yY m]
theorem aSD {x:EX} (h:b.ok) (c:b.yE 3=true) (g:(iK b.pk.text).2.2=true)
 (e:SS.CC 131 [ag,af 4] [bF (pc d a),aA b.next.v]=some (A1 (ev y),[bF (pc d a),aA C.v])) :
 Gx 3 (pc d a) b.v (ev x)=some (A1 (ev (jU (iK b.pk.text).2.1 y x)),[bF (pc d a),aA C.v]):=by
 obtain ⟨o,m,i,j⟩:=opc h d a 3 (by decide);obtain ⟨l,f⟩:=j c;rw[g] at f;subst l f;rw[a8P,a6I i];rw[c,eP (next h)];rw[wrap64 (by omega) (by omega),yc (show SS.CC 131 [ag,af (3+1)] [bF (pc d a),aA b.next.v]=_ from e)];rw[aZV (bY8 (ev x) (ev y))];rw[aLO];rfl
variable {r:Sh.V ay}
theorem ul (h:b.ok) {i:Nat} {o:Int} (d:i<4) (a:([af 6,af 7,af 9,af 8]:ai)[i]? = some (af o)) (c:b.is (kz o)=false):JR r b.v (ev y) (i:Int)=JR r b.v (ev y) ((i+1:Nat):Int):=by rw[a8T,aP (by omega),aI,nD (by omega) (by exact a),zU,o6 (KO o),bQ (jH h (bs (kz o)))];grind [bs,aF,lZ,wrap64]
theorem Su {a:EX} (h:b.ok) {i:Nat} {o:Int} (f:i<4) (d:([af 6,af 7,af 9,af 8]:ai)[i]? = some (af o)) (c:b.is (kz o)=true) (e:∀ K,PO r b.next.v K=K (ev a) r C.v):JR r b.v (ev y) (i:Int)=some (A1 (ev (jU o y a)),[aK r,aA C.v]):=by rw[a8T,aP (by omega),nD (by omega) (by exact d),zU,o6 (KO o),bQ (jH h (bs (kz o)))];rw[show (bs (kz o)).data.toList=kz o from rfl,c,qC c];exact e _
theorem aB2 (h:b.ok):JR r b.v (ev y) 4=aB (b.is [62,61]) (PO r (b.take [62,61]).v fun c d e=>some (A1 (9,0,0,[A1 c,A1 (ev y)],()),[aK d,aA e])) (bP 62 [ag,c5V [62]] [aA (b.take [62,61]).v] fun f a=>aB f (PO r a fun u64 g i=>some (A1 (8,0,0,[A1 u64,A1 (ev y)],()),[aK g,aA i])) (some (A1 (ev y),[aK r,aA a]))):=by rw[a8T,bQ (jH h _)];rfl
theorem bZI (h:BI F l n d 4 PO):BI F l n d 3 Y3:=by
 intro A Y Z;obtain ⟨B,x,y,e1,e2,o1⟩:=h A Y Z;have f:=o1.ok;have E:∀ r,Gx 3 (pc d (dD l)) B.v (ev x)=r->SS.CC 131 [ag,af 3] [bF (pc d (dD l)),aA A.v]=r:=fun r j=>by rw[a8Q];show aB false _ (yZ 131 [ag,af (i64.wrap (3+1))] _ _)=_;rw[aF,wrap64 (by decide) (by decide),yc (show SS.CC 131 [ag,af (3+1)] [bF (pc d (dD l)),aA A.v]=_ from e1)];exact j
 have G:∀ {C:RA} {z:EX},JR (md F (dD l) d) B.v (ev y) 0=some (A1 (ev z),[aK (md F (dD l) d),aA C.v])->∀ K,Y3 (md F (dD l) d) A.v K=K (ev z) (md F (dD l) d) C.v:=fun {C z} j K=>by
  have:SS.CC 278 [ag] [aK (md F (dD l) d),aA A.v]=some (A1 (ev z),[aK (md F (dD l) d),aA C.v]):=by rw[bC3]; exact (e2 _).trans j
  unfold Y3; rw[yY this]
 cases c:B.yE 3 with
 | false =>
  have D:∀ s,s∈kM->(iK s).1=3->B.is s=false:=fun s N M=>by grind [aQL,RA.yE]
  refine ⟨B,x,y,E _ (aSE f (by decide) c),G ?_,⟨o1.toOut,fun e=>by obtain ⟨b,w,r,O⟩:=o1.rd e; exact ⟨_,w,.up r (by decide) (by decide),O⟩⟩⟩;rw[show (0:Int)=((0:Nat):Int) from rfl,ul f (i:=0) (o:=6) (by decide) rfl (D _ (by decide) rfl),ul f (i:=1) (o:=7) (by decide) rfl (D _ (by decide) rfl),ul f (i:=2) (o:=9) (by decide) rfl (D _ (by decide) rfl),ul f (i:=3) (o:=8) (by decide) rfl (D _ (by decide) rfl),
   show ((3+1:Nat):Int)=4 from rfl,aB2 f,D [62,61] (by decide) rfl,aF,lZ (D [62,61] (by decide) rfl),bQ (jH f _)]
  try dsimp only
  rw[D [62] (by decide) rfl,aF,lZ (D [62] (by decide) rfl)]
 | true =>
  have Q:=c;unfold RA.yE at Q;rw[bH] at Q;have M:B.pk.kind=3:=by simp_all
  have a':=jY f (show B.pk.kind≠4 by omega);have b0:=o1.le;obtain ⟨C,t,H,I,J,q⟩:=h B.next f.next (by omega);have he:B.e=0:=FH (by omega);have S:=q.le;have T:=o1.lt he;have lu:∀ s,s∈kM->B.is s=(B.pk.text==s):=fun s N=>by rw[a2H f N,M]; rfl
  have m:∀ {u w:EX},(C.e=0->u=w)->u.Fit->(C.e=0->∃ b w,jT l b 3 u w/\w+C.W<=A.W)->U2 l 3 A C u w:=fun hu hf j=>⟨⟨(o1.toLe.trans (Le.next f)).trans q.toLe,hu,fun _=>by omega,hf⟩,j⟩
  have p:∀ {o:Int},(o=6\/o=7\/o=8\/o=9)->(kz o).length=B.pk.text.length->C.e=0->(∃ b w,jT l b 3 (jU o x t) w/\w+C.W<=A.W)/\∃ b w,jT l b 3 (jU o t x) w/\w+C.W<=A.W:=fun U N e=>by obtain ⟨b,w,r,O⟩:=o1.rd he;obtain ⟨b2,w2,V,b1⟩:=q.rd e;have X:=FT f (show B.pk.kind≠4 by omega);unfold Az at X;rw[aV (by omega)] at X;have q6:=aFN _ (Jy f M);exact ⟨⟨_,_,.cmp U r V,by omega⟩,_,_,.cmp U V r,by omega⟩
  have g:C.e=0->x=y/\t=H:=fun e=>⟨o1.eq he,q.eq e⟩
  rcases bSL _ (Jy f M) (by simp_all) with a | a | a | a | a | a
  .have j:=W9 (x:=x) f (by decide) (by decide) c (by rw[a]; rfl) I;rw[a] at j;refine ⟨C,jU 6 x t,jU 6 y H,E _ j,G ?_,m (fun e=>by rw[(g e).1,(g e).2]) (Gv o1.fit q.fit) fun e=>(p (by decide) (by rw[a]; rfl) e).1⟩;exact Su f (i:=0) (by decide) rfl (by rw[lu _ (tK _),a]; rfl) J
  .have j:=W9 (x:=x) f (by decide) (by decide) c (by rw[a]; rfl) I;rw[a] at j;refine ⟨C,jU 7 x t,jU 7 y H,E _ j,G ?_,m (fun e=>by rw[(g e).1,(g e).2]) (Gv o1.fit q.fit) fun e=>(p (by decide) (by rw[a]; rfl) e).1⟩;rw[show (0:Int)=((0:Nat):Int) from rfl,ul f (i:=0) (o:=6) (by decide) rfl (by rw[lu _ (tK _),a]; rfl)];exact Su f (i:=1) (by decide) rfl (by rw[lu _ (tK _),a]; rfl) J
  .have j:=W9 (x:=x) f (by decide) (by decide) c (by rw[a]; rfl) I;rw[a] at j;refine ⟨C,jU 9 x t,jU 9 y H,E _ j,G ?_,m (fun e=>by rw[(g e).1,(g e).2]) (Gv o1.fit q.fit) fun e=>(p (by decide) (by rw[a]; rfl) e).1⟩;rw[show (0:Int)=((0:Nat):Int) from rfl,ul f (i:=0) (o:=6) (by decide) rfl (by rw[lu _ (tK _),a]; rfl),ul f (i:=1) (o:=7) (by decide) rfl (by rw[lu _ (tK _),a]; rfl)];exact Su f (i:=2) (by decide) rfl (by rw[lu _ (tK _),a]; rfl) J
  .have j:=W9 (x:=x) f (by decide) (by decide) c (by rw[a]; rfl) I;rw[a] at j;refine ⟨C,jU 8 x t,jU 8 y H,E _ j,G ?_,m (fun e=>by rw[(g e).1,(g e).2]) (Gv o1.fit q.fit) fun e=>(p (by decide) (by rw[a]; rfl) e).1⟩;rw[show (0:Int)=((0:Nat):Int) from rfl,ul f (i:=0) (o:=6) (by decide) rfl (by rw[lu _ (tK _),a]; rfl),ul f (i:=1) (o:=7) (by decide) rfl (by rw[lu _ (tK _),a]; rfl),ul f (i:=2) (o:=9) (by decide) rfl (by rw[lu _ (tK _),a]; rfl)];exact Su f (i:=3) (by decide) rfl (by rw[lu _ (tK _),a]; rfl) J
  .have j:=aSD (x:=x) f c (by rw[a]; rfl) I;rw[a] at j;refine ⟨C,jU 9 t x,jU 9 H y,E _ j,G ?_,m (fun e=>by rw[(g e).1,(g e).2]) (Gv q.fit o1.fit) fun e=>(p (by decide) (by rw[a]; rfl) e).2⟩;have L:B.is [62,61]=true:=by rw[lu _ (by decide),a]; rfl
   rw[show (0:Int)=((0:Nat):Int) from rfl,ul f (i:=0) (o:=6) (by decide) rfl (by rw[lu _ (tK _),a]; rfl),ul f (i:=1) (o:=7) (by decide) rfl (by rw[lu _ (tK _),a]; rfl),ul f (i:=2) (o:=9) (by decide) rfl (by rw[lu _ (tK _),a]; rfl),ul f (i:=3) (o:=8) (by decide) rfl (by rw[lu _ (tK _),a]; rfl),
    show ((3+1:Nat):Int)=4 from rfl,aB2 f,L,aI,qC L,J,vU]
  .have j:=aSD (x:=x) f c (by rw[a]; rfl) I;rw[a] at j;refine ⟨C,jU 8 t x,jU 8 H y,E _ j,G ?_,m (fun e=>by rw[(g e).1,(g e).2]) (Gv q.fit o1.fit) fun e=>(p (by decide) (by rw[a]; rfl) e).2⟩;have L:B.is [62,61]=false:=by rw[lu _ (by decide),a]; rfl
   have cj:B.is [62]=true:=by rw[lu _ (by decide),a]; rfl
   rw[show (0:Int)=((0:Nat):Int) from rfl,ul f (i:=0) (o:=6) (by decide) rfl (by rw[lu _ (tK _),a]; rfl),ul f (i:=1) (o:=7) (by decide) rfl (by rw[lu _ (tK _),a]; rfl),ul f (i:=2) (o:=9) (by decide) rfl (by rw[lu _ (tK _),a]; rfl),ul f (i:=3) (o:=8) (by decide) rfl (by rw[lu _ (tK _),a]; rfl),
    show ((3+1:Nat):Int)=4 from rfl,aB2 f,L,aF,lZ L,bQ (jH f _)]
   grind [aI,qC,vU]
theorem bZH (h:BI F l n d 3 Y3):BI F l n d 2 a6N:=by
 intro A a b;obtain ⟨B,x,y,c,e,o⟩:=M_ (lv:=2) (L:=Zv (Jr [11])) (fin:=b4I) (by decide) (by decide) (by decide) ops2 (by decide) (fun f g i=>bBN _ f g i) h A a b;refine ⟨B,x,y,c,fun K => ?_,o⟩;have j:SS.CC 276 [ag,a_ [af 11],.func (.func 278) [ag] []] [aK (md F (dD l) d),aA A.v]=some (A1 (ev y),[aK (md F (dD l) d),aA B.v]):=(bBO _ _ _).trans e;have m:SS.CC 277 [ag] [some [.ptr 1 0],dQ (md F (dD l) d),aA A.v]=some (A1 (ev y),[some [.ptr 1 0],dQ (md F (dD l) d),aA B.v]):=by rw[bBZ,yY j]
 unfold a6N; rw[a6H m]
theorem bZG (h:BI F l n d 2 a6N) (A:RA) (b:A.ok) (c:A.N<=n):∃ a x y,
 SS.CC 131 [ag,af 1] [bF (pc d (dD l)),aA A.v]=some (A1 (ev x),[bF (pc d (dD l)),aA a.v]) /\
 SS.CC 276 [ag,a_ [af 12],fU 277 [.ptr 1 0]] [dQ (md F (dD l) d),some [ag],aA A.v]=some (A1 (ev y),[dQ (md F (dD l) d),some [ag],aA a.v])/\U2 l 1 A a x y:=by
 obtain ⟨B,x,y,e,f,o⟩:=M_ (lv:=1) (L:=Zu (Jr [12])) (fin:=b4K) (by decide) (by decide) (by decide) bUL (by decide) (fun g i j=>bBI _ g i j) h A b c;exact ⟨B,x,y,e,(bBJ _ _ _).trans f,o⟩
theorem bZN (z:U4 F l n) (p:∀ m,m<n->Y8 F l m):Y8 F l n:=by
 intro d j o A E G;obtain ⟨B,x,y,q,t,o1⟩:=bZG (bZH (bZI (bZJ (bZK (bZL j o z))))) A E G;have f:=o1.ok;cases c:B.is [63] with
 | false =>
  refine ⟨B,x,y,?_,?_,⟨o1.toOut,fun e=>by obtain ⟨b,w,r,H⟩:=o1.rd e; exact ⟨_,w,.up r (by decide) (by decide),H⟩⟩⟩
  .rw[aK6,yc q];try dsimp only
   rw[bQ (UG f)];grind [aI,lZ]
  .rw[aK7,Tc t];try dsimp only
   rw[bQ (UG f)];grind [aI,lZ]
 | true =>
  have I:=jY f (kD c);have J:=o1.le;obtain ⟨C,K,L,M,O,a⟩:=p B.next.N (by omega) d j o B.next f.next (dG _);have h:=Le.exp a.ok [58];have u:=a.le;have v:=h.le;obtain ⟨D,Q,S,k1,k2,g⟩:=p (C.exp [58]).N (by omega) d j o (C.exp [58]) h.ok (dG _);have T:=g.le;refine ⟨D,.node 13 0 0 [x,K,Q],.node 13 0 0 [y,L,S],?_,?_,⟨⟨(((o1.toLe.trans (Le.next f)).trans a.toLe).trans h).trans g.toLe,fun e => ?_,fun e=>by omega,b4M o1.fit a.fit g.fit⟩,fun e=>by have i:=g.e0 e;obtain ⟨a1,w1,U,Y⟩:=o1.rd (FH (kD c));obtain ⟨a2,w2,V,Z⟩:=a.rd (h.e0 i);obtain ⟨a3,w3,X,q3⟩:=g.rd e;have q4:B.next.W+2=B.W:=nV f c;have q5:(C.exp [58]).W+2=C.W:=nC a.ok i;exact ⟨_,_,.ite U V X,by omega⟩⟩⟩
  .rw[aK6,yc q];try dsimp only
   rw[bQ (UG f)];try dsimp only
   rw[c,uY,aF,qC c,yc M];try dsimp only
   rw[bW (aJ4 a.ok)];try dsimp only
   rw[yc k1,ev3]
  .rw[aK7,Tc t];try dsimp only
   rw[bQ (UG f)];try dsimp only
   rw[c,uY,aF,qC c,yY O];try dsimp only
   rw[bW (aJ4 a.ok)];try dsimp only
   rw[yY k2,ev3]
  .have i:=h.e0 (g.e0 e);rw[g.eq e,a.eq i,o1.eq (FH (kD c))]
end
theorem aX8 {F:MF} {l:List fQ} (c:l.length<1000000000000):∀ n,U4 F l n/\Y8 F l n:=by
 intro n;induction n using Nat.strongRecOn with
 | _ n b =>have d:=bZM c (fun m a=>(b m a).1) (fun m a=>(b m a).2);grind [bZN]
end Go.Proofs.YtagkcbgkhgccmaaGreatDoor.W.P
namespace Go.Proofs.YtagkcbgkhgccmaaGreatDoor
open Go.RowKit
def KN (c:Bool) (f:Nat) (a:List UInt8) (i d start:Nat) (dC:List Tok):J6 :=
 let g:=jF c a
 let p:=uN (a.take g) i (d,start)
 match a.drop g with
 | [] => .ok (dC ++ [(⟨4,[],0,(p.1:Nat),((i+g-p.2+1:Nat):Int)⟩:Tok)])
 | b::r =>
  if (dh (b::r)).2=0 then tJ f ((b::r).drop (dh (b::r)).1.text.length) (i+g+(dh (b::r)).1.text.length) p.1 p.2 (dC ++ [(dh (b::r)).1.at (p.1:Nat) ((i+g-p.2+1:Nat):Int)])
  else .err (p.1:Nat) ((i+g-p.2+1:Nat):Int) (dh (b::r)).2
variable {j b5:Bool} {J:UInt8} {I:List UInt8}
theorem CJ (h:jF j (J::I)=1+jF b5 I) (f i a start:Nat) (dC:List Tok) :
 KN j f (J::I) i a start dC=KN b5 f I (i+1) (if J=10 then a+1 else a) (if J=10 then i+1 else start) dC:=by
 grind [KN,uN]
theorem aZI (c:Bool) (f i a start:Nat) (dC:List Tok):KN c f [] i a start dC = .ok (dC ++ [(⟨4,[],0,(a:Nat),((i-start+1:Nat):Int)⟩:Tok)]):=by rfl
theorem aED:∀ (f e:Nat) (a:List UInt8) (i c start:Nat) (dC:List Tok),a.length<f->a.length<e->tJ f a i c start dC=tJ e a i c start dC
 | 0,_,_,_,_,_,_,h,_=>by omega
 | f+1,0,_,_,_,_,_,_,h=>by omega
 | f+1,e+1,a,i,c,start,dC,l,m=>by
  unfold tJ;simp only;split
  .rfl
  .rename_i b r d;split
   .rename_i g;obtain ⟨k4,k5⟩:=Ny g;have j:=congrArg List.length d;rw[xR] at j;exact aED f e _ _ _ _ _ (by rw[xR]; omega) (by rw[xR]; omega)
   .rfl
def zN (c:Bool) (a:List UInt8) (i b start:Nat) (dC:List Tok):J6:=KN c a.length a i b start dC
theorem G_C {f:Nat} (h:I.length<=f) (i a start:Nat) (dC:List Tok):KN j f I i a start dC=zN j I i a start dC:=by grind [zN,KN,Ny,aED]
theorem bZA (l:List UInt8) (i a start:Nat) (dC:List Tok):tJ (l.length+1) l i a start dC=zN false l i a start dC:=rfl
theorem aZD (c:Bool) (i a start:Nat) (dC:List Tok):zN c [] i a start dC = .ok (dC ++ [(⟨4,[],0,(a:Nat),((i-start+1:Nat):Int)⟩:Tok)]):=aZI c 0 i a start dC
theorem DC (h:jF j (J::I)=1+jF b5 I) (i a start:Nat) (dC:List Tok) :
 zN j (J::I) i a start dC=zN b5 I (i+1) (if J=10 then a+1 else a) (if J=10 then i+1 else start) dC:=by
 rw[zN,CJ h,G_C (by simp)]
theorem aG5 (h:jF false (J::I)=0) (i a start:Nat) (dC:List Tok) :
 zN false (J::I) i a start dC=if (dh (J::I)).2=0 then zN false ((J::I).drop (dh (J::I)).1.text.length) (i+(dh (J::I)).1.text.length) a start (dC ++ [(dh (J::I)).1.at (a:Nat) ((i-start+1:Nat):Int)])
  else .err (a:Nat) ((i-start+1:Nat):Int) (dh (J::I)).2:=by
 rw[zN,KN,h];simp only[List.take_zero,List.drop_zero,uN,Oq];split
 .rename_i c;obtain ⟨k4,k5⟩:=Ny c;rw[aED _ (((J::I).drop (dh (J::I)).1.text.length).length+1) _ _ _ _ _ (by rw[xR]; omega) (by omega)];rfl
 .rfl
theorem bZO (c:Bool) (b:UInt8) (r:List UInt8):(∃ a,jF c (b::r)=1+jF a r/\((c=true/\b=10/\a=false)\/(c=true/\b≠10/\a=true)\/(c=false/\y8 b.toNat=true/\a=false)\/(c=false/\y8 b.toNat=false /\ [47,47].isPrefixOf (b::r)=true/\a=true))) \/
 (c=false/\y8 b.toNat=false /\ [47,47].isPrefixOf (b::r)=false/\jF c (b::r)=0):=by
 cases c with
 | true =>
  left;by_cases h:b=10
  .exact ⟨false,by rw[jF,ah h],.inl ⟨rfl,h,rfl⟩⟩
  .exact ⟨true,by rw[jF,aV h],.inr (.inl ⟨rfl,h,rfl⟩)⟩
 | false =>grind [jF]
theorem aWF {p:Nat->Bool} {x:UInt8} (a:p x.toNat=false) (u:List UInt8):∀ (l:List UInt8),dJ p (l ++ x::u)=dJ p l
 | []=>by unfold dJ; rw[List.nil_append,zi,a]; rfl
 | b::l=>by have:=aWF a u l;grind [dJ,List.takeWhile_cons]
theorem aVL {x:UInt8} (u:List UInt8):∀ (y l:List UInt8),(∀ c,c∈y->c≠x)->y.isPrefixOf (l ++ x::u)=y.isPrefixOf l
 | [],l,_=>by simp
 | a::y,[],h=>by have:=h a (by simp);grind
 | a::y,b::l,h=>by
  have:=aVL u y l fun c d=>h c (by simp[d])
  grind
theorem find_congr {b:Type} {p q:b->Bool}:∀ {l:List b},(∀ x,x∈l->p x=q x)->l.find? p=l.find? q
 | [],_=>rfl
 | a::l,h=>by
  have:=find_congr (l:=l) fun x c=>h x (by simp[c])
  rw[List.find?_cons,List.find?_cons,h a (by simp),this]
theorem b'E:∀ x∈kM,∀ c∈x,c≠32:=by decide
theorem b'D (a:∀ y∈kM,∀ c∈y,c≠J) (u l:List UInt8):Fv (l ++ J::u)=Fv l:=by grind [Fv,find_congr,aVL]
theorem bXO (a:jB J.toNat=false) (d:∀ y∈kM,∀ c∈y,c≠J) (u:List UInt8) (b:UInt8) (r:List UInt8):dh ((b::r) ++ J::u)=dh (b::r):=by grind [jB,aWF,b'D,dh,Be,CB,EH]
end Go.Proofs.YtagkcbgkhgccmaaGreatDoor
namespace Go.Proofs.YtagkcbgkhgccmaaGreatDoor.W
open Go.RowKit
set_option maxRecDepth 1000000
section
def bFM:KT:=SS.rK Tryz.f31 31 0 []
def bFN:KT:=SS.jK 31 55 0 (cS Tryz.f31 7) bFM
def bFO:KT:=aW 0 bFN
def Gz (a:fQ) (b:Int):R:=SS.LL (SS.ae 31 55) 0 [0,7,8] 0 (cS Tryz.f31 37) bFO ⟨[(0,.str a),(7,af (a.size:Int)),(8,af b)],[]⟩
theorem aMO (a:fQ) (b:Int):Gz a b=aB (decide (b<(a.size:Int))) (wV a b fun c=>(fun w=>aB (decide (97<=c)) (aB (decide (c<=122)) (Gz a (i64.wrap (b+1))) (aB (decide (65<=c)) (aB (decide (c<=90)) (Gz a (i64.wrap (b+1))) w) w)) (aB (decide (65<=c)) (aB (decide (c<=90)) (Gz a (i64.wrap (b+1))) w) w)) (aB (!(c==95)) (aB (b==0) l7 (aB (decide (c<48)) l7 (aB (decide (57<c)) l7 (Gz a (i64.wrap (b+1)))))) (Gz a (i64.wrap (b+1))))) (aB (decide (0<(a.size:Int))) (some (.bool (decide ((a.size:Int)<=32)),[])) l7):=ll
theorem bFP (a0:fQ):SS.CC 31 [.str a0] []=Gz a0 0:=cc
theorem aMS (a0:Sh.V S1) (a1:Int):SS.CC 33 [A1 a0,af a1] []=aB (decide (a1<0)) (some (.tuple [af 0,af 2],[])) (aB (decide (16<a1)) (some (.tuple [af 0,af 2],[])) (H19 133 [A1 a0,af a1,af 1,ag] [nP (0,())] fun a c=>aB (a != 0) (some (.tuple [af 0,af a],[])) (G1 134 [A1 a0] fun b=>aB (b==0) (some (.tuple [af 0,af 16],[])) (some (.tuple [af b,af 0],[]))))):=cc
def bHJ:KT:=SS.rK Tryz.f237 237 0 []
def bHK:KT:=SS.jK 237 157 0 (cS Tryz.f237 127) bHJ
def bHL:KT:=aW 0 bHK
def a0O (a:ai) (b:Sh.V S1):R:=bC (SS.xX 237 157 0) (cS Tryz.f237 229215) bHL ⟨[(0,a_ a),(4,.cst (A1 b))],[]⟩
theorem bHI (a:ai) (b:Sh.V S1):a0O a b=ak S1 b.2.2.2.1 0 fun d=>G7 237 [a_ a,A1 d,af 6] fun c=>b_ (decide (1+c.length<=aO)) (some (.sl true 1 (([c5V [45]]:ai) ++ c),[])):=by kernel_rfl
theorem F6 (a0:ai) (a1:Sh.V S1) (a2:Int):SS.CC 237 [a_ a0,A1 a1,af a2] []=G1 273 [A1 a1] fun J=>aB (decide (J<a2)) (G7 237 [a_ a0,A1 a1,af 0] fun t=>b_ (decide (1+t.length<=aO)) (b_ (decide ((([c5V [40]]:ai) ++ t).length+1<=aO)) (some (.sl true 1 ((([c5V [40]]:ai) ++ t) ++ ([c5V [41]]:ai)),[])))) (qH 137 [] fun K=>G3 41 [A1 a1,A1 K] fun u=>aB u (some (.sl true 1 [c5V [116,114,117,101]],[])) (qH 138 [] fun v=>G3 41 [A1 a1,A1 v] fun w=>aB w (some (.sl true 1 [c5V [102,97,108,115,101]],[])) (G1 273 [A1 a1] fun g=>aB (a1.1==0) (G7 159 [af a1.2.1] fun x=>some (.sl true 1 x,[])) (aB (a1.1==1) (di a0 a1.2.2.1 fun y=>vS y fun z=>some (.sl true 1 [.str z],[])) (aB (a1.1==10) (ak S1 a1.2.2.2.1 0 fun A=>G7 237 [a_ a0,A1 A,af 6] fun h=>b_ (decide (1+h.length<=aO)) (some (.sl true 1 (([c5V [33]]:ai) ++ h),[]))) (aB (a1.1==5) (ak S1 a1.2.2.2.1 0 fun c=>aB (c.1==0) (aB (decide (0<=c.2.1)) (G7 237 [a_ a0,A1 c,af 0] fun d=>b_ (decide (2+d.length<=aO)) (b_ (decide ((([c5V [45],c5V [40]]:ai) ++ d).length+1<=aO)) (some (.sl true 1 ((([c5V [45],c5V [40]]:ai) ++ d) ++ ([c5V [41]]:ai)),[])))) (a0O a0 a1)) (a0O a0 a1)) (aB (a1.1==13) (ak S1 a1.2.2.2.1 0 fun B=>G7 237 [a_ a0,A1 B,af 1] fun a=>b_ (decide (a.length+1<=aO)) (ak S1 a1.2.2.2.1 1 fun L=>G7 237 [a_ a0,A1 L,af 0] fun b=>b_ (decide ((a ++ ([c5V [63]]:ai)).length+b.length<=aO)) (b_ (decide (((a ++ ([c5V [63]]:ai)) ++ b).length+1<=aO)) (ak S1 a1.2.2.2.1 2 fun M=>G7 237 [a_ a0,A1 M,af 0] fun i=>b_ (decide ((((a ++ ([c5V [63]]:ai)) ++ b) ++ ([c5V [58]]:ai)).length+i.length<=aO)) (some (.sl true 1 ((((a ++ ([c5V [63]]:ai)) ++ b) ++ ([c5V [58]]:ai)) ++ i),[])))))) (aB (a1.1==6) (ak S1 a1.2.2.2.1 0 fun C=>G7 237 [a_ a0,A1 C,af 4] fun e=>G2 274 [af a1.1] fun j=>b_ (decide (e.length+1<=aO)) (ak S1 a1.2.2.2.1 1 fun D=>G7 237 [a_ a0,A1 D,af 4] fun l=>b_ (decide ((e ++ ([.str j]:ai)).length+l.length<=aO)) (some (.sl true 1 ((e ++ ([.str j]:ai)) ++ l),[])))) (aB (a1.1==7) (ak S1 a1.2.2.2.1 0 fun N=>G7 237 [a_ a0,A1 N,af 4] fun Qx=>G2 274 [af a1.1] fun m=>b_ (decide (Qx.length+1<=aO)) (ak S1 a1.2.2.2.1 1 fun E=>G7 237 [a_ a0,A1 E,af 4] fun WA=>b_ (decide ((Qx ++ ([.str m]:ai)).length+WA.length<=aO)) (some (.sl true 1 ((Qx ++ ([.str m]:ai)) ++ WA),[])))) (aB (a1.1==8) (ak S1 a1.2.2.2.1 0 fun F=>G7 237 [a_ a0,A1 F,af 4] fun f=>G2 274 [af a1.1] fun n=>b_ (decide (f.length+1<=aO)) (ak S1 a1.2.2.2.1 1 fun O=>G7 237 [a_ a0,A1 O,af 4] fun o=>b_ (decide ((f ++ ([.str n]:ai)).length+o.length<=aO)) (some (.sl true 1 ((f ++ ([.str n]:ai)) ++ o),[])))) (aB (a1.1==9) (ak S1 a1.2.2.2.1 0 fun G=>G7 237 [a_ a0,A1 G,af 4] fun NP=>G2 274 [af a1.1] fun p=>b_ (decide (NP.length+1<=aO)) (ak S1 a1.2.2.2.1 1 fun H=>G7 237 [a_ a0,A1 H,af 4] fun q=>b_ (decide ((NP ++ ([.str p]:ai)).length+q.length<=aO)) (some (.sl true 1 ((NP ++ ([.str p]:ai)) ++ q),[])))) (ak S1 a1.2.2.2.1 0 fun Q=>G7 237 [a_ a0,A1 Q,af g] fun Ja=>G2 274 [af a1.1] fun r=>b_ (decide (Ja.length+1<=aO)) (ak S1 a1.2.2.2.1 1 fun I=>G7 237 [a_ a0,A1 I,af (i64.wrap (g+1))] fun Vw=>b_ (decide ((Ja ++ ([.str r]:ai)).length+Vw.length<=aO)) (some (.sl true 1 ((Ja ++ ([.str r]:ai)) ++ Vw),[]))))))))))))))):=cc
theorem bL3 (a0:Int):SS.CC 159 [af a0] []=aB (decide (a0<0)) (G2 156 [af (i64.wrap (0-a0))] fun s1=>some (.sl true 1 [c5V [45],.str s1],[])) (G2 156 [af a0] fun a=>some (.sl true 1 [.str a],[])):=cc
def aKA:KT:=SS.rK Tryz.f133 133 1 []
def b5I:KT:=SS.jK 133 103 1 (cS Tryz.f133 127) aKA
def b5J:KT:=aW 1 b5I
def ZP (a b:Int) (c:Sh.V S1) (d:Int):R:=bC (SS.xX 133 103 1) (cS Tryz.f133 63) aKA ⟨[(1,af a),(2,af b),(3,ag),(4,.cst (A1 c))],[nP (d,())]⟩
def ZQ (c d:Int) (a:ai) (e b:Int):R:=SS.LL (SS.ae 133 103) 1 [1,2,3,87,88,89] 1 (cS Tryz.f133 607) b5J ⟨[(1,af c),(2,af d),(3,ag),(87,.sl false 4 a),(88,af (a.length:Int)),(89,af b)],[nP (e,())]⟩
theorem b5H (a b:Int) (c:Sh.V S1) (d:Int):ZP a b c d=ZQ a b c.2.2.2.1 d 0:=by kernel_rfl
theorem aKB (c d:Int) (a:ai) (e b:Int):ZQ c d a e b=aB (decide (b<(a.length:Int))) (ak S1 a b fun h=>H19 133 [A1 h,af c,af (i64.wrap (d+1)),ag] [nP (e,())] fun f g=>aB (f != 0) (some (af f,[nP g])) (ZQ c d a g.1 (i64.wrap (b+1)))) (some (af 0,[nP (e,())])):=ll
theorem b5K (a0:Sh.V S1) (a1 a2 a:Int):SS.CC 133 [A1 a0,af a1,af a2,ag] [nP (a,())]=aB (a==64) (some (af 3,[nP (a,())])) (aB (decide (8<a2)) (some (af 3,[nP (a,())])) (G37 214 [af a0.1] fun c=>aB (!c.2.1.1) (some (af 11,[nP (i64.wrap (a+1),())])) (aB ((a0.2.2.2.1.length:Int) != c.1.1) (some (af 4,[nP (i64.wrap (a+1),())])) ((fun w=>aB (a0.1 != 0) (aB (a0.2.1 != 0) (some (af 6,[nP (i64.wrap (a+1),())])) (aB (a0.1 != 1) (aB (a0.2.2.1 != 0) (some (af 6,[nP (i64.wrap (a+1),())])) (aB (a0.1==0) (G3 215 [af a0.2.1,af 65536] fun d=>aB d (some (af 2,[nP (i64.wrap (a+1),())])) w) w)) (aB (a0.1==0) (G3 215 [af a0.2.1,af 65536] fun e=>aB e (some (af 2,[nP (i64.wrap (a+1),())])) w) w))) (aB (a0.1 != 1) (aB (a0.2.2.1 != 0) (some (af 6,[nP (i64.wrap (a+1),())])) (aB (a0.1==0) (G3 215 [af a0.2.1,af 65536] fun f=>aB f (some (af 2,[nP (i64.wrap (a+1),())])) w) w)) (aB (a0.1==0) (G3 215 [af a0.2.1,af 65536] fun b=>aB b (some (af 2,[nP (i64.wrap (a+1),())])) w) w))) (aB (a0.1==1) (aB (decide (a0.2.2.1<0)) (some (af 2,[nP (i64.wrap (a+1),())])) (aB (decide (a1<=a0.2.2.1)) (some (af 2,[nP (i64.wrap (a+1),())])) (ZP a1 a2 a0 (i64.wrap (a+1))))) (ZP a1 a2 a0 (i64.wrap (a+1)))))))):=cc
def b5L:KT:=SS.rK Tryz.f134 134 0 []
def b5M:KT:=SS.jK 134 68 0 (cS Tryz.f134 15) b5L
def b5N:KT:=aW 0 b5M
def ZR (a:Sh.V S1) (b:Int) (c:ai):R:=SS.LL (SS.ae 134 68) 0 [1,3,9,10,11] 1 (cS Tryz.f134 75) b5N ⟨[(1,.cst (A1 a)),(3,ag),(9,.sl false 4 a.2.2.2.1),(10,af (a.2.2.2.1.length:Int)),(11,af b)],[jg (c,())]⟩
theorem aKC (a:Sh.V S1) (c:Int) (b:ai):ZR a c b=aB (decide (c<(a.2.2.2.1.length:Int))) (ak S1 a.2.2.2.1 c fun w=>G1 134 [A1 w] fun v=>aB (v==0) (some (af 0,[])) (b_ (decide (b.length+1<=aO)) (ZR a (i64.wrap (c+1)) (b ++ ([af v]:ai))))) (aB (a.1==0) (some (af 1,[])) (aB (a.1==1) (some (af 1,[])) (aB (a.1==2) (zo 216 [af 1,ag] [jg (b,())] fun x I=>aB x (some (af 1,[])) (some (af 0,[]))) (aB (a.1==3) (zo 216 [af 1,ag] [jg (b,())] fun d y=>aB d (some (af 1,[])) (some (af 0,[]))) (aB (a.1==4) (zo 216 [af 1,ag] [jg (b,())] fun e J=>aB e (some (af 1,[])) (some (af 0,[]))) (aB (a.1==5) (zo 216 [af 1,ag] [jg (b,())] fun f z=>aB f (some (af 1,[])) (some (af 0,[]))) (aB (a.1==6) (zo 216 [af 1,ag] [jg (b,())] fun A B=>aB A (some (af 2,[])) (some (af 0,[]))) (aB (a.1==7) (zo 216 [af 1,ag] [jg (b,())] fun g C=>aB g (some (af 2,[])) (some (af 0,[]))) (aB (a.1==8) (zo 216 [af 1,ag] [jg (b,())] fun h D=>aB h (some (af 2,[])) (some (af 0,[]))) (aB (a.1==9) (zo 216 [af 1,ag] [jg (b,())] fun i E=>aB i (some (af 2,[])) (some (af 0,[]))) (aB (a.1==10) (zo 216 [af 2,ag] [jg (b,())] fun F K=>aB F (some (af 2,[])) (some (af 0,[]))) (aB (a.1==11) (zo 216 [af 2,ag] [jg (b,())] fun j G=>aB j (some (af 2,[])) (some (af 0,[]))) (aB (a.1==12) (zo 216 [af 2,ag] [jg (b,())] fun l H=>aB l (some (af 2,[])) (some (af 0,[]))) (aB (a.1==13) (di b 0 fun m=>vI .i64 m fun n=>aB (n==2) (di b 1 fun o=>vI .i64 o fun p=>di b 2 fun q=>vI .i64 q fun r=>aB (p==r) (di b 1 fun t=>vI .i64 t fun u=>some (af u,[])) (some (af 0,[]))) (some (af 0,[]))) (some (af 0,[])))))))))))))))):=ll
theorem b5O (a0:Sh.V S1):SS.CC 134 [A1 a0] []=ZR a0 0 []:=cc
theorem aKD (a0:fQ):SS.CC 32 [.str a0] []=aB (a0.toList==(⟨#[116,114,117,101]⟩:fQ).toList) vG (some (.bool (a0.toList==(⟨#[102,97,108,115,101]⟩:fQ).toList),[])):=cc
def b5P:KT:=SS.XA SS.CC SS.LL (SS.ae 34 141) Tryz.f34.results.toList (SS.iq 34).ro 1 [] 1 118 [ag,a_ [c5V [41]]]
def b5Q:KT:=SS.rK Tryz.f34 34 1 []
def uI (b:ai) (c:Sh.V S1) (d:Int) (e:ai) (a:fQ):R:=bC (SS.xX 34 141 1) (cS Tryz.f34 63) b5P ⟨[(4,.ptr 1 0),(5,.cst (a_ b)),(6,.cst (A1 c)),(8,af d),(9,fU 136 [.ptr 1 0,.cst (a_ b),.cst (A1 c)]),(10,.str a)],[aG (e,()),some [ag]]⟩
def uH (b:ai) (c:Sh.V S1) (d:Int) (e:ai) (a:fQ):R:=bC (SS.xX 34 141 1) (cS Tryz.f34 63) b5Q ⟨[(4,.ptr 1 0),(5,.cst (a_ b)),(6,.cst (A1 c)),(8,af d),(9,fU 136 [.ptr 1 0,.cst (a_ b),.cst (A1 c)]),(10,.str a)],[aG (e,()),some [ag]]⟩
theorem F5 (b:ai) (a:Sh.V S1) (e:Int) (d:ai) (c:fQ):uI b a e d c=qH 137 [] fun u1=>G3 41 [A1 a,A1 u1] fun b6=>aB b6 (aY 117 [ag,a_ [c5V [116,114,117,101]]] [aG (d,())] fun _ u8=>aY 118 [ag,a_ [c5V [41]]] [aG u8] fun _ n=>d_ [aG n]) (qH 138 [] fun o=>G3 41 [A1 a,A1 o] fun p=>aB p (aY 117 [ag,a_ [c5V [102,97,108,115,101]]] [aG (d,())] fun _ q=>aY 118 [ag,a_ [c5V [41]]] [aG q] fun _ r=>d_ [aG r]) (aB (a.1==0) (aY 119 [ag,af a.2.1] [aG (d,())] fun _ t=>aY 118 [ag,a_ [c5V [41]]] [aG t] fun _ u=>d_ [aG u]) (aB (a.1==1) (di b a.2.2.1 fun v=>vS v fun w=>aY 117 [ag,a_ [.str w]] [aG (d,())] fun _ x=>aY 118 [ag,a_ [c5V [41]]] [aG x] fun _ y=>d_ [aG y]) (aB (a.1==5) (ak S1 a.2.2.2.1 0 fun z=>aB (z.1==0) (ak S1 a.2.2.2.1 0 fun Ar=>aB (decide (0<=Ar.2.1)) (aY 118 [ag,a_ [c5V [45],c5V [40]]] [aG (d,())] fun _ A=>gB 136 [af 0,af 0,ag,.cst (a_ b),.cst (A1 a)] [some [.ptr 1 0],aG A] fun _ yO=>aY 118 [ag,a_ [c5V [41]]] [aG yO] fun _ OU=>aY 118 [ag,a_ [c5V [41]]] [aG OU] fun _ B=>d_ [aG B]) (aB (a.1==5) (aY 118 [ag,a_ [.str c]] [aG (d,())] fun _ C=>gB 136 [af 0,af 6,ag,.cst (a_ b),.cst (A1 a)] [some [.ptr 1 0],aG C] fun _ D=>aY 118 [ag,a_ [c5V [41]]] [aG D] fun _ E=>d_ [aG E]) (aB (a.1==10) (aY 118 [ag,a_ [.str c]] [aG (d,())] fun _ F=>gB 136 [af 0,af 6,ag,.cst (a_ b),.cst (A1 a)] [some [.ptr 1 0],aG F] fun _ G=>aY 118 [ag,a_ [c5V [41]]] [aG G] fun _ G5=>d_ [aG G5]) (aB (a.1==13) (gB 136 [af 0,af 1,ag,.cst (a_ b),.cst (A1 a)] [some [.ptr 1 0],aG (d,())] fun _ Ko=>aY 118 [ag,a_ [c5V [63]]] [aG Ko] fun _ xN=>gB 136 [af 1,af 0,ag,.cst (a_ b),.cst (A1 a)] [some [.ptr 1 0],aG xN] fun _ eG=>aY 118 [ag,a_ [c5V [58]]] [aG eG] fun _ Xa=>gB 136 [af 2,af 0,ag,.cst (a_ b),.cst (A1 a)] [some [.ptr 1 0],aG Xa] fun _ H=>aY 118 [ag,a_ [c5V [41]]] [aG H] fun _ xO=>d_ [aG xO]) (aB (e==3) (gB 136 [af 0,af 4,ag,.cst (a_ b),.cst (A1 a)] [some [.ptr 1 0],aG (d,())] fun _ I=>aY 118 [ag,a_ [.str c]] [aG I] fun _ SV=>gB 136 [af 1,af 4,ag,.cst (a_ b),.cst (A1 a)] [some [.ptr 1 0],aG SV] fun _ f=>aY 118 [ag,a_ [c5V [41]]] [aG f] fun _ OT=>d_ [aG OT]) (gB 136 [af 0,af e,ag,.cst (a_ b),.cst (A1 a)] [some [.ptr 1 0],aG (d,())] fun _ J=>aY 118 [ag,a_ [.str c]] [aG J] fun _ K=>gB 136 [af 1,af (i64.wrap (e+1)),ag,.cst (a_ b),.cst (A1 a)] [some [.ptr 1 0],aG K] fun _ IX=>aY 118 [ag,a_ [c5V [41]]] [aG IX] fun _ L=>d_ [aG L])))))) (aB (a.1==5) (aY 118 [ag,a_ [.str c]] [aG (d,())] fun _ IY=>gB 136 [af 0,af 6,ag,.cst (a_ b),.cst (A1 a)] [some [.ptr 1 0],aG IY] fun _ M=>aY 118 [ag,a_ [c5V [41]]] [aG M] fun _ XV=>d_ [aG XV]) (aB (a.1==10) (aY 118 [ag,a_ [.str c]] [aG (d,())] fun _ XW=>gB 136 [af 0,af 6,ag,.cst (a_ b),.cst (A1 a)] [some [.ptr 1 0],aG XW] fun _ N=>aY 118 [ag,a_ [c5V [41]]] [aG N] fun _ g=>d_ [aG g]) (aB (a.1==13) (gB 136 [af 0,af 1,ag,.cst (a_ b),.cst (A1 a)] [some [.ptr 1 0],aG (d,())] fun _ XX=>aY 118 [ag,a_ [c5V [63]]] [aG XX] fun _ KZ=>gB 136 [af 1,af 0,ag,.cst (a_ b),.cst (A1 a)] [some [.ptr 1 0],aG KZ] fun _ O=>aY 118 [ag,a_ [c5V [58]]] [aG O] fun _ Q=>gB 136 [af 2,af 0,ag,.cst (a_ b),.cst (A1 a)] [some [.ptr 1 0],aG Q] fun _ S=>aY 118 [ag,a_ [c5V [41]]] [aG S] fun _ T=>d_ [aG T]) (aB (e==3) (gB 136 [af 0,af 4,ag,.cst (a_ b),.cst (A1 a)] [some [.ptr 1 0],aG (d,())] fun _ U=>aY 118 [ag,a_ [.str c]] [aG U] fun _ h=>gB 136 [af 1,af 4,ag,.cst (a_ b),.cst (A1 a)] [some [.ptr 1 0],aG h] fun _ X=>aY 118 [ag,a_ [c5V [41]]] [aG X] fun _ SX=>d_ [aG SX]) (gB 136 [af 0,af e,ag,.cst (a_ b),.cst (A1 a)] [some [.ptr 1 0],aG (d,())] fun _ Y=>aY 118 [ag,a_ [.str c]] [aG Y] fun _ XY=>gB 136 [af 1,af (i64.wrap (e+1)),ag,.cst (a_ b),.cst (A1 a)] [some [.ptr 1 0],aG XY] fun _ Z=>aY 118 [ag,a_ [c5V [41]]] [aG Z] fun _ SY=>d_ [aG SY])))))) (aB (a.1==5) (aY 118 [ag,a_ [.str c]] [aG (d,())] fun _ a'=>gB 136 [af 0,af 6,ag,.cst (a_ b),.cst (A1 a)] [some [.ptr 1 0],aG a'] fun _ b0=>aY 118 [ag,a_ [c5V [41]]] [aG b0] fun _ b1=>d_ [aG b1]) (aB (a.1==10) (aY 118 [ag,a_ [.str c]] [aG (d,())] fun _ b2=>gB 136 [af 0,af 6,ag,.cst (a_ b),.cst (A1 a)] [some [.ptr 1 0],aG b2] fun _ b3=>aY 118 [ag,a_ [c5V [41]]] [aG b3] fun _ i=>d_ [aG i]) (aB (a.1==13) (gB 136 [af 0,af 1,ag,.cst (a_ b),.cst (A1 a)] [some [.ptr 1 0],aG (d,())] fun _ j=>aY 118 [ag,a_ [c5V [63]]] [aG j] fun _ b4=>gB 136 [af 1,af 0,ag,.cst (a_ b),.cst (A1 a)] [some [.ptr 1 0],aG b4] fun _ b5=>aY 118 [ag,a_ [c5V [58]]] [aG b5] fun _ l=>gB 136 [af 2,af 0,ag,.cst (a_ b),.cst (A1 a)] [some [.ptr 1 0],aG l] fun _ b7=>aY 118 [ag,a_ [c5V [41]]] [aG b7] fun _ b8=>d_ [aG b8]) (aB (e==3) (gB 136 [af 0,af 4,ag,.cst (a_ b),.cst (A1 a)] [some [.ptr 1 0],aG (d,())] fun _ b9=>aY 118 [ag,a_ [.str c]] [aG b9] fun _ b'=>gB 136 [af 1,af 4,ag,.cst (a_ b),.cst (A1 a)] [some [.ptr 1 0],aG b'] fun _ c0=>aY 118 [ag,a_ [c5V [41]]] [aG c0] fun _ c1=>d_ [aG c1]) (gB 136 [af 0,af e,ag,.cst (a_ b),.cst (A1 a)] [some [.ptr 1 0],aG (d,())] fun _ c2=>aY 118 [ag,a_ [.str c]] [aG c2] fun _ m=>gB 136 [af 1,af (i64.wrap (e+1)),ag,.cst (a_ b),.cst (A1 a)] [some [.ptr 1 0],aG m] fun _ c3=>aY 118 [ag,a_ [c5V [41]]] [aG c3] fun _ c4=>d_ [aG c4]))))))))):=by kernel_rfl
theorem Ez (b:ai) (a:Sh.V S1) (e:Int) (d:ai) (c:fQ):uH b a e d c=qH 137 [] fun T=>G3 41 [A1 a,A1 T] fun U=>aB U (aY 117 [ag,a_ [c5V [116,114,117,101]]] [aG (d,())] fun _ u8=>d_ [aG u8]) (qH 138 [] fun i=>G3 41 [A1 a,A1 i] fun j=>aB j (aY 117 [ag,a_ [c5V [102,97,108,115,101]]] [aG (d,())] fun _ X=>d_ [aG X]) (aB (a.1==0) (aY 119 [ag,af a.2.1] [aG (d,())] fun _ l=>d_ [aG l]) (aB (a.1==1) (di b a.2.2.1 fun m=>vS m fun n=>aY 117 [ag,a_ [.str n]] [aG (d,())] fun _ o=>d_ [aG o]) (aB (a.1==5) (ak S1 a.2.2.2.1 0 fun p=>aB (p.1==0) (ak S1 a.2.2.2.1 0 fun q=>aB (decide (0<=q.2.1)) (aY 118 [ag,a_ [c5V [45],c5V [40]]] [aG (d,())] fun _ Y=>gB 136 [af 0,af 0,ag,.cst (a_ b),.cst (A1 a)] [some [.ptr 1 0],aG Y] fun _ r=>aY 118 [ag,a_ [c5V [41]]] [aG r] fun _ t=>d_ [aG t]) (aB (a.1==5) (aY 118 [ag,a_ [.str c]] [aG (d,())] fun _ u=>gB 136 [af 0,af 6,ag,.cst (a_ b),.cst (A1 a)] [some [.ptr 1 0],aG u] fun _ v=>d_ [aG v]) (aB (a.1==10) (aY 118 [ag,a_ [.str c]] [aG (d,())] fun _ Z=>gB 136 [af 0,af 6,ag,.cst (a_ b),.cst (A1 a)] [some [.ptr 1 0],aG Z] fun _ OU=>d_ [aG OU]) (aB (a.1==13) (gB 136 [af 0,af 1,ag,.cst (a_ b),.cst (A1 a)] [some [.ptr 1 0],aG (d,())] fun _ w=>aY 118 [ag,a_ [c5V [63]]] [aG w] fun _ x=>gB 136 [af 1,af 0,ag,.cst (a_ b),.cst (A1 a)] [some [.ptr 1 0],aG x] fun _ y=>aY 118 [ag,a_ [c5V [58]]] [aG y] fun _ z=>gB 136 [af 2,af 0,ag,.cst (a_ b),.cst (A1 a)] [some [.ptr 1 0],aG z] fun _ A=>d_ [aG A]) (aB (e==3) (gB 136 [af 0,af 4,ag,.cst (a_ b),.cst (A1 a)] [some [.ptr 1 0],aG (d,())] fun _ B=>aY 118 [ag,a_ [.str c]] [aG B] fun _ G5=>gB 136 [af 1,af 4,ag,.cst (a_ b),.cst (A1 a)] [some [.ptr 1 0],aG G5] fun _ Ko=>d_ [aG Ko]) (gB 136 [af 0,af e,ag,.cst (a_ b),.cst (A1 a)] [some [.ptr 1 0],aG (d,())] fun _ xN=>aY 118 [ag,a_ [.str c]] [aG xN] fun _ eG=>gB 136 [af 1,af (i64.wrap (e+1)),ag,.cst (a_ b),.cst (A1 a)] [some [.ptr 1 0],aG eG] fun _ Xa=>d_ [aG Xa])))))) (aB (a.1==5) (aY 118 [ag,a_ [.str c]] [aG (d,())] fun _ C=>gB 136 [af 0,af 6,ag,.cst (a_ b),.cst (A1 a)] [some [.ptr 1 0],aG C] fun _ xO=>d_ [aG xO]) (aB (a.1==10) (aY 118 [ag,a_ [.str c]] [aG (d,())] fun _ D=>gB 136 [af 0,af 6,ag,.cst (a_ b),.cst (A1 a)] [some [.ptr 1 0],aG D] fun _ SV=>d_ [aG SV]) (aB (a.1==13) (gB 136 [af 0,af 1,ag,.cst (a_ b),.cst (A1 a)] [some [.ptr 1 0],aG (d,())] fun _ f=>aY 118 [ag,a_ [c5V [63]]] [aG f] fun _ OT=>gB 136 [af 1,af 0,ag,.cst (a_ b),.cst (A1 a)] [some [.ptr 1 0],aG OT] fun _ E=>aY 118 [ag,a_ [c5V [58]]] [aG E] fun _ F=>gB 136 [af 2,af 0,ag,.cst (a_ b),.cst (A1 a)] [some [.ptr 1 0],aG F] fun _ IX=>d_ [aG IX]) (aB (e==3) (gB 136 [af 0,af 4,ag,.cst (a_ b),.cst (A1 a)] [some [.ptr 1 0],aG (d,())] fun _ G=>aY 118 [ag,a_ [.str c]] [aG G] fun _ IY=>gB 136 [af 1,af 4,ag,.cst (a_ b),.cst (A1 a)] [some [.ptr 1 0],aG IY] fun _ H=>d_ [aG H]) (gB 136 [af 0,af e,ag,.cst (a_ b),.cst (A1 a)] [some [.ptr 1 0],aG (d,())] fun _ XV=>aY 118 [ag,a_ [.str c]] [aG XV] fun _ XW=>gB 136 [af 1,af (i64.wrap (e+1)),ag,.cst (a_ b),.cst (A1 a)] [some [.ptr 1 0],aG XW] fun _ I=>d_ [aG I])))))) (aB (a.1==5) (aY 118 [ag,a_ [.str c]] [aG (d,())] fun _ g=>gB 136 [af 0,af 6,ag,.cst (a_ b),.cst (A1 a)] [some [.ptr 1 0],aG g] fun _ XX=>d_ [aG XX]) (aB (a.1==10) (aY 118 [ag,a_ [.str c]] [aG (d,())] fun _ KZ=>gB 136 [af 0,af 6,ag,.cst (a_ b),.cst (A1 a)] [some [.ptr 1 0],aG KZ] fun _ J=>d_ [aG J]) (aB (a.1==13) (gB 136 [af 0,af 1,ag,.cst (a_ b),.cst (A1 a)] [some [.ptr 1 0],aG (d,())] fun _ K=>aY 118 [ag,a_ [c5V [63]]] [aG K] fun _ L=>gB 136 [af 1,af 0,ag,.cst (a_ b),.cst (A1 a)] [some [.ptr 1 0],aG L] fun _ M=>aY 118 [ag,a_ [c5V [58]]] [aG M] fun _ N=>gB 136 [af 2,af 0,ag,.cst (a_ b),.cst (A1 a)] [some [.ptr 1 0],aG N] fun _ h=>d_ [aG h]) (aB (e==3) (gB 136 [af 0,af 4,ag,.cst (a_ b),.cst (A1 a)] [some [.ptr 1 0],aG (d,())] fun _ O=>aY 118 [ag,a_ [.str c]] [aG O] fun _ SX=>gB 136 [af 1,af 4,ag,.cst (a_ b),.cst (A1 a)] [some [.ptr 1 0],aG SX] fun _ Q=>d_ [aG Q]) (gB 136 [af 0,af e,ag,.cst (a_ b),.cst (A1 a)] [some [.ptr 1 0],aG (d,())] fun _ XY=>aY 118 [ag,a_ [.str c]] [aG XY] fun _ S=>gB 136 [af 1,af (i64.wrap (e+1)),ag,.cst (a_ b),.cst (A1 a)] [some [.ptr 1 0],aG S] fun _ SY=>d_ [aG SY]))))))))):=by kernel_rfl
theorem b5R (a1:ai) (a2:Sh.V S1) (a3:Int) (b:ai):SS.CC 34 [ag,a_ a1,A1 a2,af a3] [aG (b,())]=G1 135 [A1 a2] fun a=>aB (decide (a<a3)) (aY 118 [ag,a_ [c5V [40]]] [aG (b,())] fun _ c=>b_ (decide (0<=a2.1)&&decide (a2.1<(14:Int))) (aB (a2.1==0) (uI a1 a2 a c.1 ⟨#[]⟩) (aB (a2.1==1) (uI a1 a2 a c.1 ⟨#[]⟩) (aB (a2.1==2) (uI a1 a2 a c.1 ⟨#[43]⟩) (aB (a2.1==3) (uI a1 a2 a c.1 ⟨#[45]⟩) (aB (a2.1==4) (uI a1 a2 a c.1 ⟨#[42]⟩) (aB (a2.1==5) (uI a1 a2 a c.1 ⟨#[45]⟩) (aB (a2.1==6) (uI a1 a2 a c.1 ⟨#[61,61]⟩) (aB (a2.1==7) (uI a1 a2 a c.1 ⟨#[33,61]⟩) (aB (a2.1==8) (uI a1 a2 a c.1 ⟨#[60]⟩) (aB (a2.1==9) (uI a1 a2 a c.1 ⟨#[60,61]⟩) (aB (a2.1==10) (uI a1 a2 a c.1 ⟨#[33]⟩) (aB (a2.1==11) (uI a1 a2 a c.1 ⟨#[38,38]⟩) (aB (a2.1==12) (uI a1 a2 a c.1 ⟨#[124,124]⟩) (aB (a2.1==13) (uI a1 a2 a c.1 ⟨#[63]⟩) (none)))))))))))))))) (b_ (decide (0<=a2.1)&&decide (a2.1<(14:Int))) (aB (a2.1==0) (uH a1 a2 a b ⟨#[]⟩) (aB (a2.1==1) (uH a1 a2 a b ⟨#[]⟩) (aB (a2.1==2) (uH a1 a2 a b ⟨#[43]⟩) (aB (a2.1==3) (uH a1 a2 a b ⟨#[45]⟩) (aB (a2.1==4) (uH a1 a2 a b ⟨#[42]⟩) (aB (a2.1==5) (uH a1 a2 a b ⟨#[45]⟩) (aB (a2.1==6) (uH a1 a2 a b ⟨#[61,61]⟩) (aB (a2.1==7) (uH a1 a2 a b ⟨#[33,61]⟩) (aB (a2.1==8) (uH a1 a2 a b ⟨#[60]⟩) (aB (a2.1==9) (uH a1 a2 a b ⟨#[60,61]⟩) (aB (a2.1==10) (uH a1 a2 a b ⟨#[33]⟩) (aB (a2.1==11) (uH a1 a2 a b ⟨#[38,38]⟩) (aB (a2.1==12) (uH a1 a2 a b ⟨#[124,124]⟩) (aB (a2.1==13) (uH a1 a2 a b ⟨#[63]⟩) (none)))))))))))))))):=cc
def b5S:KT:=SS.rK Tryz.f35 35 0 []
def b5T:KT:=SS.jK 35 45 0 (cS Tryz.f35 31) b5S
def b5U:KT:=aW 0 b5T
def Ui (a c:ai) (b:Int):R:=SS.LL (SS.ae 35 45) 0 [0,4,14,15,16] 0 (cS Tryz.f35 151) b5U ⟨[(0,.sl false 5 a),(4,.sl true 1 c),(14,.sl false 5 a),(15,af (a.length:Int)),(16,af b)],[]⟩
theorem aKE (b c:ai) (a:Int):Ui b c a=aB (decide (a<(b.length:Int))) (ak mg b a fun h=>b_ (decide (c.length+1<=aO)) (Ui b (c ++ ([.str h.2.1]:ai)) (i64.wrap (a+1)))) (G2 60 [a_ c,c5V [32]] fun f=>Xw 59 [.str f] fun g=>aB (g.2.2.2.1.1 != 0) (some (.tuple [c5V [],af 6],[])) (TY 127 [.sl false 5 g.1.1] fun d=>G3 139 [.sl false 5 d,.sl false 5 b,h_ 140] fun e=>aB (!e) (some (.tuple [c5V [],af 6],[])) (some (.tuple [.str f,af 0],[])))):=ll
theorem a8I (a0:ai):SS.CC 35 [.sl false 5 a0] []=TY 127 [.sl false 5 a0] fun a=>Ui a [] 0:=cc
theorem b5V (a0:Sh.V S1):SS.CC 273 [A1 a0] []=qH 137 [] fun b=>G3 41 [A1 a0,A1 b] fun c=>aB c (some (af 7,[])) (qH 138 [] fun u8=>G3 41 [A1 a0,A1 u8] fun a=>aB a (some (af 7,[])) (aB (a0.1==0) (aB (decide (a0.2.1<0)) (some (af 6,[])) (some (af 7,[]))) (aB (a0.1==13) (some (af 0,[])) (aB (a0.1==12) (some (af 1,[])) (aB (a0.1==11) (some (af 2,[])) (aB (a0.1==6) (some (af 3,[])) (aB (a0.1==7) (some (af 3,[])) (aB (a0.1==8) (some (af 3,[])) (aB (a0.1==9) (some (af 3,[])) (aB (a0.1==2) (some (af 4,[])) (aB (a0.1==3) (some (af 4,[])) (aB (a0.1==4) (some (af 5,[])) (aB (a0.1==10) (some (af 6,[])) (aB (a0.1==5) (some (af 6,[])) (some (af 7,[])))))))))))))))):=cc
def b8E:KT:=SS.rK Tryz.f117 117 1 []
def b8F:KT:=aW 0 b8E
def QA (a b:ai) (c:Int):R:=SS.LL (SS.ae 117 24) 1 [0,6,7,8] 1 (cS Tryz.f117 9) b8F ⟨[(0,ag),(6,a_ a),(7,af (a.length:Int)),(8,af c)],[aG (b,())]⟩
theorem Zg (a b:ai) (c:Int):QA a b c=aB (decide (c<(a.length:Int))) (di a c fun d=>vS d fun e=>b_ (decide (b.length+1<=aO)) (QA a (b ++ ([qj (1,e,0,0,0,())]:ai)) (i64.wrap (c+1)))) (d_ [aG (b,())]):=ll
theorem a8K (a1 a:ai):SS.CC 117 [ag,a_ a1] [aG (a,())]=QA a1 a 0:=cc
def b8G:KT:=SS.rK Tryz.f118 118 1 []
def b8H:KT:=aW 0 b8G
def a8L (a b:ai) (c:Int):R:=SS.LL (SS.ae 118 24) 1 [0,6,7,8] 1 (cS Tryz.f118 9) b8H ⟨[(0,ag),(6,a_ a),(7,af (a.length:Int)),(8,af c)],[aG (b,())]⟩
theorem Us (a b:ai) (c:Int):a8L a b c=aB (decide (c<(a.length:Int))) (di a c fun d=>vS d fun e=>b_ (decide (b.length+1<=aO)) (a8L a (b ++ ([qj (3,e,0,0,0,())]:ai)) (i64.wrap (c+1)))) (d_ [aG (b,())]):=ll
theorem aKX (a1 a:ai):SS.CC 118 [ag,a_ a1] [aG (a,())]=a8L a1 a 0:=cc
def b8J:KT:=SS.rK Tryz.f119 119 1 []
def Zh (a:ai) (b:Int):R:=bC (SS.xX 119 24 1) (cS Tryz.f119 3) b8J ⟨[(0,ag),(1,af b)],[aG (a,())]⟩
theorem b8I (a:ai) (b:Int):Zh a b=G2 156 [af b] fun s1=>b_ (decide (a.length+1<=aO)) (d_ [aG ((a ++ ([qj (2,s1,b,0,0,())]:ai)),())]):=by kernel_rfl
theorem b8K (a1:Int) (a:ai):SS.CC 119 [ag,af a1] [aG (a,())]=aB (decide (a1<0)) (aY 118 [ag,a_ [c5V [45]]] [aG (a,())] fun _ b=>Zh b.1 (i64.wrap (0-a1))) (Zh a a1):=cc
theorem bA5 (a0:ai):SS.CC 127 [.sl false 5 a0] []=G49 206 [.sl false 5 a0] fun a=>aB (decide (0<a.length)) (b_ (a.all (zM 5)) (b_ ((gG a).all nT&&true) (H50 205 [.slh 0 0 a.length 5,h_ 207] [some (gG a)] fun c b=>b_ (b.all nT&&true) (b_ (decide (c.1*5<=b.length)&&decide (0<5)&&b.all fun p=>p.one&&p.flat) (some (.sl false 5 (mX 5 b c.1),[])))))) (TY 205 [.sl false 5 [],h_ 207] fun d=>some (.sl false 5 d,[])):=cc
theorem bC4 (a0:Int):SS.CC 214 [af a0] []=aB (a0==0) (some (.tuple [af 0,.bool true],[])) (aB (a0==1) (some (.tuple [af 0,.bool true],[])) (aB (a0==5) (some (.tuple [af 1,.bool true],[])) (aB (a0==10) (some (.tuple [af 1,.bool true],[])) (aB (a0==2) (some (.tuple [af 2,.bool true],[])) (aB (a0==3) (some (.tuple [af 2,.bool true],[])) (aB (a0==4) (some (.tuple [af 2,.bool true],[])) (aB (a0==6) (some (.tuple [af 2,.bool true],[])) (aB (a0==7) (some (.tuple [af 2,.bool true],[])) (aB (a0==8) (some (.tuple [af 2,.bool true],[])) (aB (a0==9) (some (.tuple [af 2,.bool true],[])) (aB (a0==11) (some (.tuple [af 2,.bool true],[])) (aB (a0==12) (some (.tuple [af 2,.bool true],[])) (aB (a0==13) (some (.tuple [af 3,.bool true],[])) (some (.tuple [af 0,.bool false],[]))))))))))))))):=cc
theorem aLQ (a0 a1:Int):SS.CC 215 [af a0,af a1] []=aB (decide (a1<a0)) vG (some (.bool (decide (a0<(i64.wrap (0-a1)))),[])):=cc
theorem bC5 (a0:Int) (a:ai):SS.CC 216 [af a0,ag] [jg (a,())]=G3 217 [a_ a,fU 218 [.cst (af a0)]] fun b=>some (.bool (!b),[jg (a,())]):=cc
theorem bC6 (a0:ai) (a1:Int):SS.CC 217 [a_ a0,fU 218 [.cst (af a1)]] []=G1 258 [a_ a0,fU 218 [.cst (af a1)]] fun a=>some (.bool (decide (0<=a)),[]):=cc
theorem bC7 (a0 a1:Int):SS.CC 218 [af a0,.cst (af a1)] []=some (.bool (a0 != a1),[]):=cc
theorem bC8 (a0:Sh.V S1):SS.CC 135 [A1 a0] []=qH 137 [] fun b=>G3 41 [A1 a0,A1 b] fun c=>aB c (some (af 7,[])) (qH 138 [] fun u8=>G3 41 [A1 a0,A1 u8] fun a=>aB a (some (af 7,[])) ((fun w=>aB (a0.1==0) (aB (decide (a0.2.1<0)) (some (af 6,[])) w) w) (b_ (decide (0<=a0.1)&&decide (a0.1<(14:Int))) (aB (a0.1==0) (some (af 7,[])) (aB (a0.1==1) (some (af 7,[])) (aB (a0.1==2) (some (af 4,[])) (aB (a0.1==3) (some (af 4,[])) (aB (a0.1==4) (some (af 5,[])) (aB (a0.1==5) (some (af 6,[])) (aB (a0.1==6) (some (af 3,[])) (aB (a0.1==7) (some (af 3,[])) (aB (a0.1==8) (some (af 3,[])) (aB (a0.1==9) (some (af 3,[])) (aB (a0.1==10) (some (af 6,[])) (aB (a0.1==11) (some (af 2,[])) (aB (a0.1==12) (some (af 1,[])) (aB (a0.1==13) (some (af 0,[])) (none)))))))))))))))))):=cc
theorem bC9 (a0 a1:Int) (a3:ai) (a4:Sh.V S1) (a:ai):SS.CC 136 [af a0,af a1,ag,.cst (a_ a3),.cst (A1 a4)] [some [.ptr 1 0],aG (a,())]=ak S1 a4.2.2.2.1 a0 fun b=>aY 34 [ag,a_ a3,A1 b,af a1] [aG (a,())] fun _ c=>d_ [some [.ptr 1 0],aG c]:=cc
def bCA:KT:=SS.rK Tryz.f139 139 0 []
def bCB:KT:=SS.jK 139 32 0 (cS Tryz.f139 15) bCA
def bCC:KT:=aW 0 bCB
def Zw (c a:ai) (b:Int):R:=SS.LL (SS.ae 139 32) 0 [1,2,15,16,17] 0 (cS Tryz.f139 75) bCC ⟨[(1,.sl false 5 c),(2,h_ 140),(15,.sl false 5 a),(16,af (a.length:Int)),(17,af b)],[]⟩
theorem aLR (c b:ai) (a:Int):Zw c b a=aB (decide (a<(b.length:Int))) (ak mg b a fun e=>ak mg c a fun u8=>G3 140 [qj e,qj u8] fun d=>aB (!d) l7 (Zw c b (i64.wrap (a+1)))) vG:=ll
theorem bCD (a0 a1:ai):SS.CC 139 [.sl false 5 a0,.sl false 5 a1,h_ 140] []=aB ((a0.length:Int) !=(a1.length:Int)) l7 (Zw a1 a0 0):=cc
theorem bCE (a0 a1:Sh.V mg):SS.CC 140 [qj a0,qj a1] []=aB (a0.1==a1.1) (aB (a0.2.1.toList==a1.2.1.toList) (some (.bool (a0.2.2.1==a1.2.2.1),[])) l7) l7:=cc
def bDB:KT:=SS.rK Tryz.f205 205 1 [0]
def bDC:KT:=SS.jK 205 42 1 (cS Tryz.f205 31) bDB
def bDD:KT:=aW 0 bDC
def V7 (a:Nat) (b:Int) (c:ai) (d:Int):R:=SS.LL (SS.ae 205 42) 1 [0,1,5,6] 1 (cS Tryz.f205 151) bDD ⟨[(0,.slh 0 0 a 5),(1,h_ 207),(5,af b),(6,af d)],[some c]⟩
theorem aLV (c:Nat) (a:Int) (b:ai) (e:Int):V7 c a b e=b_ (b.all nT&&true) (aB (decide (e<(c:Int))) (b_ (b.all nT&&true) (b_ (decide (0<=e)&&decide (e<(c:Int))) (b_ (decide ((0+e.toNat*5)+5<=b.length)) (BR mg (.agg (((b.drop (0+e.toNat*5)).take 5).map PV.un)) fun d=>G3 207 [qj d] fun f=>aB (!f) (b_ (decide (0<=a)&&decide (a<(c:Int))) (b_ (decide ((0+a.toNat*5)+5<=b.length)) (b_ ((b.take (0+a.toNat*5) ++ (([af d.1,.str d.2.1,af d.2.2.1,af d.2.2.2.1,af d.2.2.2.2.1]:ai):ai) ++ b.drop ((0+a.toNat*5)+5)).all nT&&true) (V7 c (i64.wrap (a+1)) (b.take (0+a.toNat*5) ++ (([af d.1,.str d.2.1,af d.2.2.1,af d.2.2.2.1,af d.2.2.2.2.1]:ai):ai) ++ b.drop ((0+a.toNat*5)+5)) (i64.wrap (e+1)))))) (b_ (b.all nT&&true) (V7 c a b (i64.wrap (e+1)))))))) (b_ (b.all nT&&true) (b_ (decide (0<=a)&&decide (a<=(c:Int))) (aB (decide (a<(c:Int))) (b_ (decide ((0+a.toNat*5)+(c-a.toNat)*5<=b.length)) (b_ (decide (0<=a)&&decide (a<=(c:Int))&&decide (0<c)) (b_ ((b.take (0+a.toNat*5) ++ ((List.replicate (c-a.toNat) (([af 0,c5V [],af 0,af 0,af 0]:ai):ai)).flatten.map PV.un) ++ b.drop ((0+a.toNat*5)+(c-a.toNat)*5)).all nT&&true) (some (.slh 0 0 a.toNat 5,[some (b.take (0+a.toNat*5) ++ ((List.replicate (c-a.toNat) (([af 0,c5V [],af 0,af 0,af 0]:ai):ai)).flatten.map PV.un) ++ b.drop ((0+a.toNat*5)+(c-a.toNat)*5))]))))) (b_ (decide (0<=a)&&decide (a<=(c:Int))&&decide (0<c)) (b_ (b.all nT&&true) (some (.slh 0 0 a.toNat 5,[some b])))))))):=ll
theorem bDE (a0:Nat) (a:ai):SS.CC 205 [.slh 0 0 a0 5,h_ 207] [some a]=b_ ((decide (a0*5<=a.length)&&decide (0<5)&&a.all uw)&&true) (G1 250 [.sl false 5 (mX 5 a a0),h_ 207] fun b=>aB (b==(-1)) (b_ (a.all nT&&true) (some (.slh 0 0 a0 5,[some a]))) (b_ (a.all nT&&true) (V7 a0 b a (i64.wrap (b+1))))):=cc
theorem bDF (a0:ai):SS.CC 206 [.sl false 5 a0] []=Jm a0 fun a=>aB (a==true) (some (.sl true 5 [],[])) (b_ (decide (0+a0.length<=aO)) (some (.sl true 5 a0,[]))):=cc
theorem bDG (a0:Sh.V mg):SS.CC 207 [qj a0] []=some (.bool (a0.1==4),[]):=cc
def bE7:KT:=SS.rK Tryz.f258 258 0 []
def bE8:KT:=SS.jK 258 19 0 (cS Tryz.f258 7) bE7
def bE9:KT:=aW 0 bE8
def a01 (a:ai) (b c:Int):R:=SS.LL (SS.ae 258 19) 0 [0,1,7,8] 0 (cS Tryz.f258 37) bE9 ⟨[(0,a_ a),(1,fU 218 [.cst (af b)]),(7,af (a.length:Int)),(8,af c)],[]⟩
theorem aM7 (b:ai) (c a:Int):a01 b c a=aB (decide (a<(b.length:Int))) (di b a fun d=>vI .i64 d fun e=>G3 218 [af e,.cst (af c)] fun f=>aB f (some (af a,[])) (a01 b c (i64.wrap (a+1)))) (some (af (-1),[])):=ll
theorem bEA (a0:ai) (a1:Int):SS.CC 258 [a_ a0,fU 218 [.cst (af a1)]] []=a01 a0 a1 0:=cc
def bHE:KT:=SS.rK Tryz.f250 250 0 []
def bHF:KT:=SS.jK 250 19 0 (cS Tryz.f250 7) bHE
def bHG:KT:=aW 0 bHF
def VI (a:ai) (b:Int):R:=SS.LL (SS.ae 250 19) 0 [0,1,7,8] 0 (cS Tryz.f250 37) bHG ⟨[(0,.sl false 5 a),(1,h_ 207),(7,af (a.length:Int)),(8,af b)],[]⟩
theorem aN7 (b:ai) (a:Int):VI b a=aB (decide (a<(b.length:Int))) (ak mg b a fun c=>G3 207 [qj c] fun d=>aB d (some (af a,[])) (VI b (i64.wrap (a+1)))) (some (af (-1),[])):=ll
theorem bHH (a0:ai):SS.CC 250 [.sl false 5 a0,h_ 207] []=VI a0 0:=cc
end
variable {m:List EX} {n:Nat}
theorem Ho (hk:n<m.length) (K:Sh.V S1->R):ak S1 (qx m) (n:Int) K=K (ev m[n]):=by show di (qx m) (n:Int) _=_;rw[nD (by omega) (by rw[a7T,qf,lN,jq hk]; rfl)];rfl
variable {y:EX}
theorem um (K:Sh.V S1->R):ak S1 (qx (y::m)) 0 K=K (ev y):=Ho (by simp) K
theorem Gs (l:List EX):(qx l).length=l.length:=by rw[a7T,bM]
mutual
def gW:EX->EX->Bool
 | .node o v i l,.node a b c d=>o==a&&(v==b&&(i==c&&AA l d))
def AA:List EX->List EX->Bool
 | [],[]=>true
 | a::l,b::c=>gW a b&&AA l c
 | _,_=>false
end
theorem UQ (o v i:Int) (l:List EX) (a b c:Int) (d:List EX):gW (.node o v i l) (.node a b c d)=(o==a&&(v==b&&(i==c&&AA l d))):=by rw[gW]
theorem Yv (a b:EX) (l c:List EX):AA (a::l) (b::c)=(gW a b&&AA l c):=by rw[AA]
theorem Yw:∀ {l c:List EX},AA l c=true->l.length=c.length
 | [],[],_=>rfl
 | [],_::_,h=>by cases h; all_goals simp
 | _::_,[],h=>by cases h; all_goals simp
 | a::l,b::c,h=>by rw[Yv,bH] at h; rw[bT,bT,Yw h.2]
theorem aIV:∀ x y:EX,gW x y=true->x=y:=by
 intro x;induction x using EX.ind with
 | h o v i l g =>
  intro y;obtain ⟨j,m,n,c⟩:=y;intro h;rw[UQ,bH,bH,bH] at h;obtain ⟨r,t,u,p⟩:=h;have q:∀ (l:List EX),(∀ e,e∈l->∀ y,gW e y=true->e=y)->∀ c,AA l c=true->l=c:=by
   intro l;induction l with
   | nil=>intro _ c h; cases c with
    | nil=>rfl
    | cons b c=>have:=Yw h; cases this
   | cons a l d =>
    intro f c h;cases c with
    | nil=>have:=Yw h; cases this
    | cons b c =>rw[Yv,bH] at h;rw[f a (by simp) b h.1,d (fun e he=>f e (by simp[he])) c h.2]
  rw[q l g c p,show o=j by grind,show v=m by grind,show i=n by grind]
theorem DK:∀ x:EX,gW x x=true:=by
 intro x;induction x using EX.ind with
 | h o v i l b =>
  have c:∀ (l:List EX),(∀ e,e∈l->gW e e=true)->AA l l=true:=by
   intro l;induction l with
   | nil=>intro _; rw[AA]
   | cons a l d=>grind [Yv]
  rw[UQ,Dv,Dv,Dv,c l b]; rfl
theorem drop_cons {b:Type} {l r:List b} {a:b} (h:l.drop n=a::r):∃ hk:n<l.length,l[n]=a/\l.drop (n+1)=r:=by grind [List.drop_eq_nil_of_le,List.drop_eq_getElem_cons]
theorem aI' (c d:List EX) (m:c.length<9223372036854775807) (n:c.length=d.length) (j:∀ e,e∈c->∀ y,SS.CC 41 [A1 (ev e),A1 (ev y)] []=some (.bool (gW e y),[])) :
 ∀ (a b:List EX) (k:Nat),c.drop k=a->d.drop k=b->k<=c.length->ZN (qx d) (qx c) (k:Int)=some (.bool (AA a b),[])
 | [],b,k,g,h,hk=>by have i:c.length<=k:=Oj.1 g;grind [aK8,Gs,aF,AA]
 | a::o,b,k,g,h,hk=>by
  obtain ⟨i,l,p⟩:=drop_cons g;have f:k<d.length:=by omega
  rw[EO f] at h;subst h;rw[aK8,aP (by rw[Gs]; omega),Ho i,Ho f,l,aj (j a (by rw[<- l]; exact fZ i) _),Yv];cases gW a d[k] with
  | false=>rfl
  | true =>rw[wrap64 (by omega) (by omega),show ((k:Int)+1)=((k+1:Nat):Int) by omega];exact aI' c d m n j o _ (k+1) p rfl (by omega)
theorem fK (h:y.Len):∀ a,SS.CC 41 [A1 (ev y),A1 (ev a)] []=some (.bool (gW y a),[]):=by
 induction h with
 | @mk o v i l j _ _ _ _ d =>
  intro a;obtain ⟨e,f,g,b⟩:=a;rw[bD3,lW,lW,UQ];cases o==e with
  | false=>rfl
  | true =>
   cases v==f with
   | false=>rfl
   | true =>
    cases i==g with
    | false=>rfl
    | true =>
     rw[aI,aI,aI,LG,LG,LG];have:SS.CC 153 [.sl false 4 (qx l),.sl false 4 (qx b),h_ 41] []=some (.bool (AA l b),[]):=by
      rw[b5C,Gs,Gs];by_cases c:l.length=b.length
      .rw[show ((l.length:Int) !=(b.length:Int))=false by simp[c]];exact aI' l b (by omega) c d l b 0 rfl rfl (Io _)
      .rw[show ((l.length:Int) !=(b.length:Int))=true by simp; omega,aI];grind [Yw]
     rw[aj this]
def Gh (o:Int):Nat:=if o=0\/o=1 then 0 else if o=5\/o=10 then 1 else if o=13 then 3 else 2
inductive Fd (n:Int):EX->Prop
 | mk {o v i:Int} {l:List EX}:0<=o->o<=13->l.length=Gh o->(o≠0->v=0)->(o≠1->i=0)->(o=0 -> -65536<=v/\v<=65536)->(o=1->0<=i/\i<n)->(∀ e,e∈l->Fd n e)->Fd n (.node o v i l)
mutual
def rG:EX->Nat
 | .node _ _ _ l=>OI l+1
def OI:List EX->Nat
 | []=>0
 | e::l=>rG e+OI l
end
mutual
def Pn:EX->Nat
 | .node _ _ _ l=>Yq l+1
def Yq:List EX->Nat
 | []=>0
 | e::l=>max (Pn e) (Yq l)
end
theorem arc (o:Int):∃ a b,SS.CC 214 [af o] []=some (.tuple [af a,.bool b],[])/\(b=true->0<=o/\o<=13/\a=(Gh o:Int)):=by
 rw[bC4];by_cases h:0<=o/\o<=13
 .have:o=0\/o=1\/o=2\/o=3\/o=4\/o=5\/o=6\/o=7\/o=8\/o=9\/o=10\/o=11\/o=12\/o=13:=by omega
  rcases this with rfl|rfl|rfl|rfl|rfl|rfl|rfl|rfl|rfl|rfl|rfl|rfl|rfl|rfl<;>exact ⟨_,true,rfl,fun _=>⟨by decide,by decide,rfl⟩⟩
 .have f:∀ k:Int,0<=k/\k<=13->(o==k)=false:=fun k hk=>by simp; omega
  refine ⟨0,false,?_,fun h=>by cases h⟩;rw[f 0 (by decide),f 1 (by decide),f 5 (by decide),f 10 (by decide),f 2 (by decide),f 3 (by decide),f 4 (by decide),f 6 (by decide),f 7 (by decide),f 8 (by decide),f 9 (by decide),f 11 (by decide),f 12 (by decide),f 13 (by decide)];rfl
theorem lgc (v:Int) (h : -9223372036854775808<=v/\v<=9223372036854775807):∃ b,SS.CC 215 [af v,af 65536] []=some (.bool b,[])/\(b=false -> -65536<=v/\v<=65536):=by
 rw[aLQ];by_cases a:(65536:Int)<v;simp_all
 .rw[bG a,wrap64 (by decide) (by decide)];simp_all
def TU (n:Int) (x:EX) (d c:Int) (r:R):Prop:=∃ e a,r=some (af e,[nP (a,())])/\0<=a/\a<=64/\(e=0->Fd n x/\d+(Pn x:Int)<=9/\a=c+(rG x:Int))
theorem aIP {m:Nat}:∀ {l:List EX},(∀ e,e∈l->Pn e<=m)->Yq l<=m
 | [],_=>by rw[Yq]; omega
 | a::l,h=>by exact Nat.max_le.2 ⟨h a (by simp),aIP fun e he=>h e (by simp[he])⟩
theorem aJH {n d:Int} (m:d<=8) (f:0<=d) (all:List EX) (o:all.length<=3) (h:∀ e,e∈all->∀ d c,0<=d->d<=9->0<=c->c<=64->TU n e d c (SS.CC 133 [A1 (ev e),af n,af d,ag] [nP (c,())])) :
 ∀ (l:List EX) (k:Nat) (c:Int),all.drop k=l->k<=all.length->0<=c->c<=64->∃ e b,ZQ n d (qx all) c (k:Int)=some (af e,[nP (b,())])/\0<=b/\b<=64/\(e=0->(∀ e,e∈l->Fd n e/\d+1+(Pn e:Int)<=9)/\b=c+(OI l:Int))
 | [],k,c,g,hk,i,j=>by have t:all.length<=k:=Oj.1 g;rw[aKB,bG (by rw[Gs]; omega),aF];grind [OI]
 | a::l,k,c,g,hk,i,j=>by
  obtain ⟨k1,k2,k3⟩:=drop_cons g;rw[aKB,aP (by rw[Gs]; omega),aI,Ho k1,k2,wrap64 (by omega) (by omega)];obtain ⟨e,b,p,q,r,u⟩:=h a (by rw[<- k2]; simp) (d+1) c (by omega) (by omega) i j;rw[aGJ p];by_cases he:e=0
  .rw[Ei he,aF,wrap64 (by omega) (by omega)];obtain ⟨v,w,s1,x,y,z⟩:=aJH m f all o h l (k+1) b k3 (by omega) q r;grind [OI]
  grind [aI]
variable {o:Int}
theorem b4H (w:y.Len):∀ d c,0<=d->d<=9->0<=c->c<=64->TU o y d c (SS.CC 133 [A1 (ev y),af o,af d,ag] [nP (c,())]):=by
 induction w with
 | @mk f v i l S hv T U _ z =>
  intro d c A V X Y;have p:∀ (e j:Int),e≠0->0<=j->j<=64->TU o (.node f v i l) d c (some (af e,[nP (j,())])):=fun e j he k1 k2=>⟨e,j,rfl,k1,k2,fun h=>absurd h he⟩
  rw[b5K,lW];try dsimp only
  by_cases Z:c=64
  .simp_all
  rw[show (c==64)=false by grind,aF];by_cases B:8<d
  .simp_all
  rw[bG B,aF];obtain ⟨a,b,C,D⟩:=arc f;rw[aZG C];have hw:i64.wrap (c+1)=c+1:=wrap64 (by omega) (by omega);have r:∀ e:Int,e≠0->TU o (.node f v i l) d c (some (af e,[nP (c+1,())])):=fun e he=>p e _ he (by omega) (by omega)
  cases b with
  | false=>simp_all
  | true =>
   obtain ⟨o1,E,rfl⟩:=D rfl;rw[uY,aF,Gs];by_cases g:l.length=Gh f
   .have q:l.length<=3:=by grind [Gh]
    rw[show ((l.length:Int) !=(Gh f:Int))=false by simp[g],aF];have t:(f≠0->v=0)->(f≠1->i=0)->(f=0 -> -65536<=v/\v<=65536)->(f=1->0<=i/\i<o)->TU o (.node f v i l) d c (ZP o d (f,v,i,qx l,()) (c+1)):=fun F G H I=>by
     rw[b5H];obtain ⟨e,j,J,K,L,M⟩:=aJH (by omega) A l q z l 0 (c+1) rfl (Io _) (by omega) (by omega);refine ⟨e,j,J,K,L,fun h => ?_⟩;obtain ⟨u,t2⟩:=M h;refine ⟨.mk o1 E g F G H I fun e he=>(u e he).1,?_,?_⟩
     .rw[Pn];have:=aIP (m:=(8-d).toNat) fun e he=>by have:=(u e he).2; omega
      omega
     .rw[rG]; omega
    obtain ⟨N,O,q2⟩:=lgc v hv;rw[aj O];by_cases Q:f=0
    .subst Q;rw[show ((0:Int) != 0)=false from rfl,aF,show ((0:Int) != 1)=true from rfl];by_cases p2:i=0
     .cases N with
      | true=>simp_all
      | false =>simp_all
     grind [aI]
    .by_cases p1:v=0;grind [aF,aI,bG]
     grind [aI]
   .rw[show ((l.length:Int) !=(Gh f:Int))=true by simp; omega];simp_all
abbrev jC (l:List Int):ai:=l.map fun k => af k
theorem aQV (all:List Int) (c:all.length<1000000000000) (a:Int):∀ (l:List Int) (k:Nat),all.drop k=l->∃ r,a01 (jC all) a (k:Int)=some (af r,[])
 | [],k,h=>by have b:all.length<=k:=Oj.1 h;rw[aM7,bG (by rw[bM]; omega)];simp
 | x::l,k,h=>by
  obtain ⟨b,d,e⟩:=drop_cons h;rw[aM7,aP (by rw[bM]; omega),nD (by omega) (by rw[qf,lN,jq b,d]; rfl),zU,aj (bC7 x a)];cases x != a with
  | true=>simp
  | false =>rw[wrap64 (by omega) (by omega)];exact aQV all c a l (k+1) e
theorem a'Y (c:List Int) (d:c.length<1000000000000) (a:Int):∃ b,SS.CC 216 [af a,ag] [jg (jC c,())]=some (.bool b,[jg (jC c,())]):=by
 obtain ⟨r,e⟩:=aQV c d a c 0 rfl;have f:SS.CC 258 [a_ (jC c),fU 218 [.cst (af a)]] []=some (af r,[]):=(bEA _ _).trans e;have g:SS.CC 217 [a_ (jC c),fU 218 [.cst (af a)]] []=some (.bool (decide (0<=r)),[]):=by rw[bC6,bu f]
 exact ⟨_,by rw[bC5,aj g]⟩
def CE (r:R):Prop:=∃ k,r=some (af k,[])
theorem wH {b:Bool} {x y:R} (a:CE x) (c:CE y):CE (aB b x y):=by cases b<;>assumption
theorem KX (k:Int):CE (some (af k,[])):=⟨k,rfl⟩
theorem b'X {c:List Int} (d:c.length<1000000000000) {a p q:Int}:CE (zo 216 [af a,ag] [jg (jC c,())] fun b _=>aB b (some (af p,[])) (some (af q,[]))):=by obtain ⟨b,e⟩:=a'Y c d a;rw[aZR e];grind [wH,KX]
theorem aRH {o v i:Int} {all:List EX} (y:all.length<=3) (g:o=13->all.length=3) (z:0<=o/\o<=13) (u:∀ e,e∈all->CE (SS.CC 134 [A1 (ev e)] [])) :
 ∀ (l:List EX) (k:Nat) (f:List Int),all.drop k=l->f.length=k->k<=all.length->CE (ZR (o,v,i,qx all,()) (k:Int) (jC f))
 | [],k,f,h,hk,j=>by
  have w:all.length<=k:=Oj.1 h;have m:f.length<1000000000000:=by omega
  rw[aKC];rw[bG (by rw[Gs]; omega),aF];have d:=fun a p q=>b'X m (a:=a) (p:=p) (q:=q)
  refine wH (KX _) (wH (KX _) (wH (d _ _ _) (wH (d _ _ _) (wH (d _ _ _) (wH (d _ _ _) (wH (d _ _ _) (wH (d _ _ _) (wH (d _ _ _) (wH (d _ _ _) (wH (d _ _ _) (wH (d _ _ _) (wH (d _ _ _) ?_))))))))))));by_cases r:o=13
  .rw[show (o==13)=true by simp[r],aI];match f,hk with
   | [a,b,c],_ =>refine wH ?_ (KX _);refine wH ?_ (KX _);exact KX _
   | [],hk=>grind
   | [_],hk=>grind
   | [_,_],hk=>grind
   | _::_::_::_::_,hk=>grind
  grind [aF,KX]
 | a::l,k,f,h,hk,j=>by obtain ⟨w,x,r⟩:=drop_cons h;rw[aKC];rw[aP (by rw[Gs]; omega),aI,Ho w,x];obtain ⟨n,t⟩:=u a (by rw[<- x]; simp);rw[bu t];refine wH (KX _) ?_;rw[aQ (aP (by rw[bM]; unfold aO; omega)),wrap64 (by omega) (by omega),show jC f ++ ([af n]:ai)=jC (f ++ [n]) by simp];exact aRH y g z u l (k+1) (f ++ [n]) r (by simp[hk]) (by omega)
theorem bRD (h:Fd o y):CE (SS.CC 134 [A1 (ev y)] []):=by
 induction h with
 | @mk a v i l b c d _ _ _ _ _ e =>
  rw[b5O];have f:l.length<=3:=by grind [Gh]
  exact aRH f (fun h=>by rw[d,h]; rfl) ⟨b,c⟩ e l 0 [] rfl rfl (Io _)
theorem aIF (b:y.Len) (f:0<=o) (g:o<=16):∃ k e,SS.CC 33 [A1 (ev y),af o] []=some (.tuple [af k,af e],[])/\(e=0->Fd o y/\Pn y<=8/\rG y<=64):=by
 rw[aMS,bG (by omega),aF,bG (by omega),aF];obtain ⟨e,i,c,j,l,d⟩:=b4H b 1 0 (by decide) (by decide) (by decide) (by decide);rw[aGJ c];by_cases he:e=0
 .obtain ⟨a,m,p⟩:=d he;rw[Ei he];obtain ⟨k,hk⟩:=bRD a;rw[bu hk];cases k==0 with
  | true=>exact ⟨_,_,rfl,fun h=>by cases h⟩
  | false=>exact ⟨_,_,rfl,fun _=>⟨a,by omega,by omega⟩⟩
 .rw[UH he,aI];grind
def Dw (k n:Nat):Bool:=kJ n||(decide (k≠0)&&gm n)
def Bd:f_->Nat->Bool
 | [],_=>true
 | b::l,k=>Dw k b.toNat&&Bd l (k+1)
def kH (l:f_):Bool:=Bd l 0&&(decide (0<l.length)&&decide (l.length<=32))
variable {b7:Nat}
theorem bUF (h:((97<=b7/\b7<=122)\/(65<=b7/\b7<=90)\/b7=95)\/(n≠0/\48<=b7/\b7<=57)):Dw n b7=true:=by grind [Dw,kJ,gm]
theorem bUE (h:¬ (((97<=b7/\b7<=122)\/(65<=b7/\b7<=90)\/b7=95)\/(n≠0/\48<=b7/\b7<=57))):Dw n b7=false:=by grind [Dw,kJ,gm]
theorem aU9 (all:f_) (c:all.length<=20000):∀ (l:f_) (k:Nat),all.drop k=l->k<=all.length->Gz (bs all) (k:Int)=some (.bool (Bd l k&&(decide (0<all.length)&&decide (all.length<=32))),[])
 | [],k,h,hk=>by have a:all.length<=k:=Oj.1 h;rw[aMO,Bd,nR];grind [aI,bG,aF]
 | b::l,k,h,hk=>by
  obtain ⟨a,d,e⟩:=drop_cons h;have f:Gz (bs all) (i64.wrap ((k:Int)+1))=some (.bool (Bd l (k+1)&&(decide (0<all.length)&&decide (all.length<=32))),[]):=by rw[wrap64 (by omega) (by omega)];exact aU9 all c l (k+1) e (by omega)
  rw[aMO,aP (by rw[nR]; omega),aI,Gl (by omega) (by rw[qf,JF,jq a,d]),f,Bd];generalize b.toNat=n;have g:Dw k n=false->(some (PV.bool false,[]):R)=some (.bool (Dw k n&&Bd l (k+1)&&(decide (0<all.length)&&decide (all.length<=32))),[]):=fun h=>by rw[h]; rfl
  have i:Dw k n=true->(some (PV.bool (Bd l (k+1)&&(decide (0<all.length)&&decide (all.length<=32))),[]):R)=some (.bool (Dw k n&&Bd l (k+1)&&(decide (0<all.length)&&decide (all.length<=32))),[]):=fun h=>by rw[h,LG]
  simp only[PY,pJ,qG,Ij,zn];repeat' split
  all_goals first
   | exact i (bUF (by omega))
   | exact g (bUE (by omega))
theorem Ah (l:f_) (a:l.length<=20000):SS.CC 31 [.str (bs l)] []=some (.bool (kH l),[]):=by rw[bFP]; exact aU9 l a l 0 rfl (Io _)
theorem bY4 (l:f_):SS.CC 32 [.str (bs l)] []=some (.bool (l==lM||l==o9),[]):=by rw[aKD,DJ,tlT,tlF];cases l==lM<;>rfl
abbrev cZ (l:List (f_)):List fQ:=l.map bs
variable {O:List (f_)}
theorem aBQ (hk:n<O.length):(dD (cZ O))[(n:Int).toNat]? = some (.str (bs O[n])):=by grind [dD]
theorem bU0 (l:List (f_)):(dD (cZ l)).length=l.length:=by grind [dD]
variable {g:FuncId} {a t:ai}
theorem Lc {K:RS.F (.tl false 5) R} (e:SS.CC g a []=some (.sl false 5 t,[])):TY g a K=K t:=wX e rfl
theorem aZH {K:RS.F (.tl true 5) R} (e:SS.CC g a []=some (.sl true 5 t,[])):G49 g a K=K t:=wX e rfl
variable {h:aH}
theorem aZU {K:RS.F (.o (.H 0 0 5)) (dA [.a])} (e:SS.CC g a h=some (.slh 0 0 n 5,[some t])):H50 g a h K=K (n,()) t:=dH e rfl
def sJ (a:List Tok):List Tok:=a.filter fun t=>t.kind != 4
def Ej (t:Tok):ai := [af t.kind,.str (bs t.text),af t.value,af t.line,af t.sN]
def lH (a:List Tok):ai:=a.flatMap Ej
theorem Q7 (t:Tok) (a:List Tok):lH (t::a)=Ej t ++ lH a:=rfl
theorem aJV:∀ (a:List Tok),gG (a.map bI)=lH a
 | []=>rfl
 | t::a=>by rw[Q7,<- aJV a]; rfl
theorem UZ:∀ (a:List Tok),(lH a).length=a.length*5
 | []=>rfl
 | t::a=>by rw[Q7,aZ,UZ a,bT]; show 5+_=_; omega
theorem b4Q (a b:List Tok):lH (a ++ b)=lH a ++ lH b:=List.flatMap_append
theorem ZE:∀ (a:List Tok) (j:Nat),(lH a).drop (j*5)=lH (a.drop j)
 | [],j=>by simp[lH]
 | t::a,0=>rfl
 | t::a,j+1=>by rw[Q7,List.drop_succ_cons,<- ZE a j];grind [Ej]
theorem a8C:∀ (a:List Tok) (j:Nat),(lH a).take (j*5)=lH (a.take j)
 | [],j=>by simp[lH]
 | t::a,0=>by simp[lH]
 | t::a,j+1=>by rw[Q7,List.take_succ_cons,Q7,<- a8C a j];grind [Ej]
variable {T:List Tok} {b8:Tok}
theorem aJY (h:T[n]? = some b8):((lH T).drop (n*5)).take 5=Ej b8:=by
 have a:=(iY.1 h).1;rw[ZE,EO a];rw[jq a] at h; injection h with h
 rw[h]; rfl
theorem b4S (h:n<T.length) (t:Tok):(lH T).take (n*5) ++ Ej t ++ (lH T).drop (n*5+5)=lH (T.set n t):=by rw[show n*5+5=(n+1)*5 by omega,a8C,ZE,List.set_eq_take_append_cons_drop,ah h,b4Q,Q7,yS]
theorem b4R (b:List Tok):(lH b).all uw=true:=by rw[ja];intro p c;obtain ⟨t,_,a⟩:=List.mem_flatMap.1 c;simp only[Ej,jr,yU,yX] at a;rcases a with rfl|rfl|rfl|rfl|rfl<;>rfl
theorem aJX (b:List Tok):((lH b).all fun p=>p.one&&p.flat)=true:=by rw[ja];intro p c;obtain ⟨t,_,a⟩:=List.mem_flatMap.1 c;simp only[Ej,jr,yU,yX] at a;rcases a with rfl|rfl|rfl|rfl|rfl<;>rfl
theorem b'V (a:List Tok):(a.map bI).all (zM 5)=true:=by rw[ja];intro p b;obtain ⟨t,_,rfl⟩:=zh.1 b;rfl
theorem aJW (h:n<=T.length):mX 5 (lH T) n=(T.take n).map bI:=by
 show (List.range n).map (fun j=>PV.agg ((((lH T).drop (j*5)).take 5).map PV.un))=_;apply Ol;intro j;by_cases a:j<n
 .have b:T[j]? = some T[j]:=jq (by omega);rw[lN,List.getElem?_range a,lN,nN,ah a,b,Xt,aJY b];rfl
 simp_all
theorem c1B (m:Nat):((List.replicate m (([af 0,c5V [],af 0,af 0,af 0]:ai):ai)).flatten.map PV.un)=lH (List.replicate m Tok.zero):=by
 induction m with
 | zero=>rfl
 | succ m a=>rw[List.replicate_succ,List.flatten_cons,yT,a]; rfl
theorem Me (a:List Tok):(lH a).all nT=true:=aJX a
theorem bU {k:Nat} (h:k<1000000000000):i64.wrap ((k:Int)+1)=((k+1:Nat):Int):=by rw[wrap64 (by omega) (by omega)]; omega
variable {f:Int}
theorem Yt (h:o=f):(o==f)=true:=by simp[h]
theorem a7R (h:o≠f):(o==f)=false:=by simp[h]
theorem WI (hk:n<T.length) (K:Sh.V mg->R):ak mg (T.map bI) (n:Int) K=K (tk T[n]):=by show di (T.map bI) (n:Int) _=_;rw[nD (by omega) (by rw[qf,lN,jq hk]; rfl)];rfl
theorem gvT (t:Tok) (K:Sh.V mg->R):BR mg (.agg ((Ej t).map PV.un)) K=K (tk t):=rfl
theorem m65 (t:Tok):SS.CC 207 [qj (tk t)] []=some (.bool (t.kind==4),[]):=bDG _
theorem bT5 (a:List Tok) (e:a.length<=1000000):∀ (m k:Nat),k+m=a.length->(∀ t,t∈a.take k->t.kind≠4) ->
 (VI (a.map bI) (k:Int)=some (af (-1),[])/\∀ t,t∈a->t.kind≠4)\/∃ (p:Nat) (t:Tok),VI (a.map bI) (k:Int)=some (af (p:Int),[])/\a[p]? = some t/\t.kind=4/\∀ t,t∈a.take p->t.kind≠4:=by
 intro m;induction m with
 | zero =>grind [aN7,aF]
 | succ m b =>
  intro k hk h;have f:a[k]? = some a[k]:=jq (by omega);rw[aN7,aP (by rw[bM]; omega),WI (by omega),aj (m65 _),bU (by omega)];by_cases c:a[k].kind=4;grind [aI]
  .rw[a7R c];refine b (k+1) (by omega) fun t d => ?_
   rw[Oo (by omega)] at d;grind
theorem m82 (a:List Tok) (b:a.length<=1000000):(SS.CC 250 [.sl false 5 (a.map bI),h_ 207] []=some (af (-1),[])/\∀ t,t∈a->t.kind≠4)\/∃ (p:Nat) (t:Tok),SS.CC 250 [.sl false 5 (a.map bI),h_ 207] []=some (af (p:Int),[])/\a[p]? = some t/\t.kind=4/\∀ t,t∈a.take p->t.kind≠4:=by rw[bHH];exact bT5 a b a.length 0 (by omega) (by simp)
theorem MH (h:∀ t,t∈T->t.kind≠4):sJ T=T:=List.filter_eq_self.2 fun t a=>by simp_all
theorem a7B (a b:List Tok):sJ (a ++ b)=sJ a ++ sJ b:=List.filter_append ..
theorem YW (h:b8.kind=4) (l:List Tok):sJ (b8::l)=sJ l:=List.filter_cons_of_neg (by simp[h])
theorem a_R (h:b8.kind≠4) (l:List Tok):sJ (b8::l)=b8::sJ l:=List.filter_cons_of_pos (by simp_all)
theorem bT3 (a:List Tok) (z:a.length<=1000000) (A:0<a.length):∀ (m i j:Nat) (c:List Tok),j+m=a.length->i<=j->c.length=a.length->c.drop j=a.drop j ->
 ∃ k e,V7 a.length (i:Int) (lH c) (j:Int)=some (.slh 0 0 k 5,[some (lH e)])/\e.length=a.length/\k<=a.length/\e.take k=c.take i ++ sJ (a.drop j):=by
 intro m;induction m with
 | zero =>
  intro i j c t g d h;rw[aLV];simp only[Me,LD,qf,rP,UZ];rw[aQ rfl,bG (by omega),aF,aQ rfl,aQ (by simp<;>omega)];by_cases B:i<a.length
  .have n:(lH c).take (i*5) ++ (List.replicate (a.length-i) [PV.int .i64 0,c5V [],af 0,af 0,af 0]).flatten.map PV.un ++ (lH c).drop (i*5+(a.length-i)*5)=lH (c.take i ++ List.replicate (a.length-i) Tok.zero):=by rw[c1B,a8C,show i*5+(a.length-i)*5=a.length*5 by omega,<- d,ZE,Ik (dG _)];simp[lH]
   rw[aP (by omega),aI,n,aQ (aP (by omega)),aQ (by simp<;>omega),Me,aQ (b:=true&&true) rfl];grind [sJ]
  .rw[bG (by omega),aF,aQ (by simp<;>omega),aQ rfl];grind [sJ]
 | succ m q =>
  intro i j c t g d h;have o:j<a.length:=by omega
  have u:c[j]? = some a[j]:=by have:=congrArg (fun l=>l[0]?) h;grind
  have f:c.drop (j+1)=a.drop (j+1):=by have:=congrArg (fun l=>l.drop 1) h;simpa using this
  rw[EO o];rw[aLV];simp only[Me,LD,qf,rP,UZ,aJY u];rw[aQ rfl,aP (by omega),aI,aQ rfl,aQ (by simp<;>omega),aQ (aP (by omega)),gvT,aj (m65 _)];by_cases r:a[j].kind=4
  .rw[Yt r,uY,aF,aQ rfl,bU (by omega)];obtain ⟨k,e,v,w,x,y⟩:=q i (j+1) c (by omega) (by omega) d f;grind [YW]
  .have p:i<c.length:=by omega
   have n:=b4S p a[j];rw[a7R r,pG,aI,aQ (by simp<;>omega),aQ (aP (by omega)),show [PV.int .i64 a[j].kind,.str (bs a[j].text),af a[j].value,af a[j].line,af a[j].sN]=Ej a[j] from rfl,n,Me,aQ (b:=true&&true) rfl,
    bU (by omega),bU (by omega)]
   obtain ⟨k,e,v,w,x,y⟩:=q (i+1) (j+1) (c.set i a[j]) (by omega) (by omega) (by rw[LJ]; exact d) (by rw[List.drop_set_of_lt (by omega)]; exact f);grind [List.take_succ_eq_append_getElem,List.take_set_of_le,a_R]
theorem m63 (a:List Tok) (f:a.length<=1000000) (g:0<a.length):∃ k d,SS.CC 205 [.slh 0 0 a.length 5,h_ 207] [some (lH a)]=some (.slh 0 0 k 5,[some (lH d)])/\d.length=a.length/\k<=a.length/\d.take k=sJ a:=by
 rw[bDE];simp only[b4R,Me,UZ];rw[aQ (by simp),aJW (dG _),TF (dG _)];rcases m82 a f with ⟨e,h⟩|⟨p,t,e,i,j,l⟩
 .rw[bu e,Yt rfl,aI,aQ (b:=true&&true) rfl];grind [MH]
 .have r:=(iY.1 i).1;rw[bu e,bU (by omega)];obtain ⟨k,d,m,n,o,q⟩:=bT3 a f g (a.length-(p+1)) p (p+1) a (by omega) (by omega) rfl rfl;refine ⟨k,d,m,n,o,?_⟩;rw[q];have c:a=a.take p ++ t::a.drop (p+1):=by grind [List.take_append_drop,List.drop_eq_getElem_cons]
  conv=>rhs; rw[c,a7B,MH l,YW j]
theorem bT4:SS.CC 205 [.sl false 5 [],h_ 207] []=some (.sl false 5 [],[]):=aG4 fD 60 (by kernel_rfl)
theorem m64 (a:List Tok) (b:a.length<=1000000):SS.CC 206 [.sl false 5 (a.map bI)] []=some (.sl true 5 (a.map bI),[]):=by
 rw[bDF];refine aU6 ?_ fun h => ?_
 grind [aF,aQ,aO]
 .rw[h]; rfl
theorem Dp (a:List Tok) (c:a.length<=1000000):SS.CC 127 [.sl false 5 (a.map bI)] []=some (.sl false 5 ((sJ a).map bI),[]):=by
 rw[bA5,aZH (m64 a c),bM];by_cases d:0<a.length
 .obtain ⟨k,g,e,h,i,f⟩:=m63 a c d;rw[aP d,aI,aQ (b'V a),aJV,Me,aQ (b:=true&&true) rfl,aZU e,Me,aQ (b:=true&&true) rfl,aJX,UZ,aQ (by rw[aP (by omega)]; rfl),aJW (by omega),f]
 .have:a = []:=qg (by omega);subst this;rw[Lc bT4]; rfl
abbrev tW (s:f_):Tok:=⟨1,s,0,0,0⟩
abbrev tS (s:f_):Tok:=⟨3,s,0,0,0⟩
abbrev tN (n:Nat):Tok:=⟨2,Lib.decDigits n,n,0,0⟩
def gX (v:Int):List Tok:=if v<0 then [tS [45],tN (-v).toNat] else [tN v.toNat]
def lI (x:EX):Int:=if gW x tE=true then 7 else if gW x fE=true then 7 else match x with
 | .node o v _ _=>if o=0 then (if v<0 then 6 else 7) else if o=1 then 7 else if o=2 then 4 else if o=3 then 4 else if o=4 then 5 else if o=5 then 6 else if o=6 then 3 else if o=7 then 3 else if o=8 then 3 else if o=9 then 3 else if o=10 then 6 else if o=11 then 2 else if o=12 then 1 else 0
def wp (x:EX) (a:Int) (B:List Tok):List Tok:=if lI x<a then tS [40]::(B ++ [tS [41]]) else B
inductive PB (ns:List (List UInt8)):EX->List Tok->Prop
 | tt:PB ns tE [tW lM]
 | ff:PB ns fE [tW o9]
 | num {v:Int} : -65536<=v->v<=65536->PB ns (nE v) (gX v)
 | var {i:Nat} {s:f_}:ns[i]? = some s->PB ns (vE (i:Int)) [tW s]
 | a3M {v:Int}:0<=v->v<=65536->PB ns (nE v) (gX v)->PB ns (nY 5 (nE v)) (tS [45]::tS [40]::(gX v ++ [tS [41]]))
 | neg {o v i:Int} {l:List EX} {B:List Tok}:(o≠0\/v<0)->PB ns (.node o v i l) B->PB ns (nY 5 (.node o v i l)) (tS [45]::wp (.node o v i l) 6 B)
 | Dl {a:EX} {B:List Tok}:PB ns a B->PB ns (nY 10 a) (tS [33]::wp a 6 B)
 | cmp {o:Int} {a b:EX} {A B:List Tok}:(o=6\/o=7\/o=8\/o=9)->gW (jU o a b) tE=false->gW (jU o a b) fE=false->PB ns a A->PB ns b B->PB ns (jU o a b) (wp a 4 A ++ tS (kz o)::wp b 4 B)
 | bin {o lv:Int} {a b:EX} {A B:List Tok}:(o=2/\lv=4\/o=3/\lv=4\/o=4/\lv=5\/o=11/\lv=2\/o=12/\lv=1)->PB ns a A->PB ns b B->PB ns (jU o a b) (wp a lv A ++ tS (kz o)::wp b (lv+1) B)
 | ite {c a b:EX} {C A B:List Tok}:PB ns c C->PB ns a A->PB ns b B->PB ns (.node 13 0 0 [c,a,b]) (wp c 1 C ++ tS [63]::(wp a 0 A ++ tS [58]::wp b 0 B))
theorem Ig (x:EX) (a:Int) (B:List Tok):(wp x a B).length<=B.length+2:=by grind [wp]
theorem aUS (h:m.length=1):∃ a,m = [a]:=by
 match m,h with
 | [a],_=>simp
theorem aYE (h:m.length=2):∃ a b,m = [a,b]:=by
 match m,h with
 | [a,b],_=>simp
theorem b'N (h:m.length=3):∃ a b c,m = [a,b,c]:=by
 match m,h with
 | [a,b,c],_=>simp
theorem Na (h:m.length=0):m = []:=qg h
theorem bWR (n:List (f_)) (h:Fd (n.length:Int) y):∃ B,PB n y B/\B.length<=8*rG y:=by
 induction h with
 | @mk o v i l S T f j m h6 G _ d =>
  have t:o=0\/o=1\/o=2\/o=3\/o=4\/o=5\/o=6\/o=7\/o=8\/o=9\/o=10\/o=11\/o=12\/o=13:=by omega
  by_cases H:gW (.node o v i l) tE=true
  .rw[aIV _ _ H]; exact ⟨_,.tt,by decide⟩
  by_cases I:gW (.node o v i l) fE=true
  .rw[aIV _ _ I]; exact ⟨_,.ff,by decide⟩
  have g:∀ a:EX,rG (.node o v i [a])=rG a+1:=fun a=>by rfl
  have p:∀ a b:EX,rG (.node o v i [a,b])=rG a+rG b+1:=fun a b=>by rfl
  have U:∀ e:Int,(o=2/\e=4\/o=3/\e=4\/o=4/\e=5\/o=11/\e=2\/o=12/\e=1)->∃ B,PB n (.node o v i l) B/\B.length<=8*rG (.node o v i l):=fun e u=>by obtain ⟨a,b,rfl⟩:=aYE (show l.length=2 by rw[f]; grind [Gh]);obtain rfl:=j (by omega);obtain rfl:=m (by omega);obtain ⟨A,a1,a2⟩:=d a (by simp);obtain ⟨B,q,E⟩:=d b (by simp);have w1:=Ig a e A;have w2:=Ig b (e+1) B;exact ⟨_,.bin u a1 q,by rw[p,aZ,bT]; omega⟩
  have V:(o=6\/o=7\/o=8\/o=9)->∃ B,PB n (.node o v i l) B/\B.length<=8*rG (.node o v i l):=fun w=>by obtain ⟨a,b,rfl⟩:=aYE (show l.length=2 by rw[f]; grind [Gh]);obtain rfl:=j (by omega);obtain rfl:=m (by omega);obtain ⟨A,a1,a2⟩:=d a (by simp);obtain ⟨B,q,E⟩:=d b (by simp);have w1:=Ig a 4 A;have w2:=Ig b 4 B;exact ⟨_,.cmp w (by grind) (by grind) a1 q,by rw[p,aZ,bT]; omega⟩
  rcases t with rfl|rfl|rfl|rfl|rfl|rfl|rfl|rfl|rfl|rfl|rfl|rfl|rfl|rfl
  .obtain rfl:=Na (show l.length=0 from f);obtain rfl:=m (by decide);obtain ⟨z,r⟩:=h6 rfl;refine ⟨_,.num z r,?_⟩;grind [gX,rG]
  .obtain rfl:=Na (show l.length=0 from f);obtain rfl:=j (by decide);obtain ⟨J,X⟩:=G rfl;have K:i.toNat<n.length:=by omega
   have hv:(EX.node 1 0 i [])=vE (i.toNat:Int):=by rw[J8 J]; rfl
   rw[hv];exact ⟨_,.var (jq K),by simp[rG,OI,vE]⟩
  simp_all;simp_all;simp_all
  .obtain ⟨a,rfl⟩:=aUS (show l.length=1 from f);obtain rfl:=j (by decide);obtain rfl:=m (by decide);obtain ⟨A,a1,a2⟩:=d a (by simp);obtain ⟨D,F,L,M⟩:=a;by_cases N:D≠0\/F<0
   .have w1:=Ig (.node D F L M) 6 A;exact ⟨_,.neg N a1,by rw[g,bT]; omega⟩
   .have O:D=0:=by omega
    subst O;cases a1 with
    | num z r =>refine ⟨_,.a3M (by omega) r (.num z r),?_⟩;rw[g,bT,bT,aZ,BD];omega
    | cmp w=>omega
    | bin w=>omega
  simp_all;simp_all;simp_all;simp_all
  .obtain ⟨a,rfl⟩:=aUS (show l.length=1 from f);obtain rfl:=j (by decide);obtain rfl:=m (by decide);obtain ⟨A,a1,a2⟩:=d a (by simp);have w1:=Ig a 6 A;exact ⟨_,.Dl a1,by rw[g,bT]; omega⟩
  simp_all;simp_all
  .obtain ⟨c,a,b,rfl⟩:=b'N (show l.length=3 from f);obtain rfl:=j (by decide);obtain rfl:=m (by decide);obtain ⟨C,Q,Y⟩:=d c (by simp);obtain ⟨A,a1,a2⟩:=d a (by simp);obtain ⟨B,q,E⟩:=d b (by simp);have w0:=Ig c 1 C;have w1:=Ig a 0 A;have w2:=Ig b 0 B;refine ⟨_,.ite Q a1 q,?_⟩;rw[show rG (.node 13 0 0 [c,a,b])=rG c+rG a+rG b+1 by simp[rG,OI]; omega,aZ,bT,aZ,bT];omega
theorem Dh (a:y.Len):∀ {o v i:Int} {l:List EX},y = .node o v i l->0<=o->o<=13->SS.CC 135 [A1 (ev y)] []=some (af (lI y),[])/\SS.CC 273 [A1 (ev y)] []=some (af (lI y),[]):=by
 intro o v i l e c d;have b:o=0\/o=1\/o=2\/o=3\/o=4\/o=5\/o=6\/o=7\/o=8\/o=9\/o=10\/o=11\/o=12\/o=13:=by omega
 rw[bC8,b5V,eX kF,eX kF,aj (fK a tE),aj (fK a tE)];unfold lI;cases f:gW y tE with
 | true=>simp
 | false =>
  rw[aF,aF,eX kY,eX kY,aj (fK a fE),aj (fK a fE)];cases g:gW y fE with
  | true=>simp
  | false =>
   subst e;rw[aF,aF,lW,aV (by decide),aV (by decide)];try dsimp only
   rcases b with rfl|rfl|rfl|rfl|rfl|rfl|rfl|rfl|rfl|rfl|rfl|rfl|rfl|rfl
   .by_cases hv:v<0;simp_all
    .rw[bG hv,aV hv]; exact ⟨rfl,rfl⟩
   all_goals exact ⟨rfl,rfl⟩
theorem TQ {args:ai} {v:PV×aH} (e:CS g args h=some v):SS.CC g args h=some v:=by rw[LZ fD];show I5 (CS g args h) _=_;rw[e]; rfl
section
variable {A B:RA} {x:EX} {d:Int} {v:ai}
end
abbrev fB (l:List Tok):Sh.V iL:=(l.map bI,())
theorem lC (s:fQ) (dC:List Tok) (h:dC.length+1<=1000000):SS.CC 118 [ag,a_ [.str s]] [aG (fB dC)]=d_ [aG (fB (dC ++ [tS s.data.toList]))]:=by rw[aKX,Us,aP (by simp),aI,nD (e := .str s) (by decide) rfl,kG,aQ (aP (by rw[bM]; unfold aO; omega)),wrap64 (by decide) (by decide),Us,bG (by simp),aF];grind [bI,Yc]
theorem sy2 (s r:fQ) (dC:List Tok) (h:dC.length+2<=1000000):SS.CC 118 [ag,a_ [.str s,.str r]] [aG (fB dC)]=d_ [aG (fB (dC ++ [tS s.data.toList,tS r.data.toList]))]:=by
 rw[aKX,Us,aP (by simp),aI,nD (e := .str s) (by decide) rfl,kG,aQ (aP (by rw[bM]; unfold aO; omega)),wrap64 (by decide) (by decide),
  Us,aP (by simp),aI,nD (e := .str r) (by decide) rfl,kG,aQ (aP (by rw[aZ,bM]; grind [aO])),wrap64 (by decide) (by decide),Us,bG (by simp),aF]
 grind [bI,Yc]
theorem yQ (s:fQ) (dC:List Tok) (h:dC.length+1<=1000000):SS.CC 117 [ag,a_ [.str s]] [aG (fB dC)]=d_ [aG (fB (dC ++ [tW s.data.toList]))]:=by rw[a8K,Zg,aP (by simp),aI,nD (e := .str s) (by decide) rfl,kG,aQ (aP (by rw[bM]; unfold aO; omega)),wrap64 (by decide) (by decide),Zg,bG (by simp),aF];grind [bI,Yc]
theorem bPX (m:Int):CS 156 [af m] []=(match decide (0<=m)&&decide (m<Tt) with | true=>some (PV.str ⟨(Lib.decDigits m.toNat).toArray⟩,([]:aH)) | false=>none):=rfl
theorem a2J (n:Nat) (h:n<=65536):SS.CC 156 [af (n:Int)] []=some (.str (bs (Lib.decDigits n)),[]):=by refine TQ ?_;rw[bPX,aP (by omega),aP (by unfold Tt; omega),qf];rfl
theorem aUD (n:Nat) (h:n<=65536) (dC:List Tok) (a:dC.length+1<=1000000):Zh (dC.map bI) (n:Int)=d_ [aG (fB (dC ++ [tN n]))]:=by rw[b8I,o6 (a2J n h),aQ (aP (by rw[bM]; unfold aO; omega))];grind [bI]
theorem Jp (a : -65536<=o) (b:o<=65536) (dC:List Tok) (h:dC.length+(gX o).length<=1000000):SS.CC 119 [ag,af o] [aG (fB dC)]=d_ [aG (fB (dC ++ gX o))]:=by
 rw[b8K];unfold gX at h ⊢;by_cases hv:o<0
 .rw[ah hv] at h ⊢;have h:dC.length+2<=1000000:=h;rw[aP hv,aI,bV (lC ⟨#[45]⟩ dC (by omega))];grind [wrap64,aUD]
 grind [aF,aUD]
abbrev NS (ns:List (f_)):ai:=dD (cZ ns)
def WR (b:List (f_)) (x:EX) (a:Int) (T:List Tok):Prop:=∀ dC:List Tok,dC.length+T.length+1<=1000000 ->
 SS.CC 34 [ag,a_ (NS b),A1 (ev x),af a] [aG (fB dC)]=d_ [aG (fB (dC ++ T))]
def IR (o:Int):fQ:=if o=2 then ⟨#[43]⟩ else if o=3 then ⟨#[45]⟩ else if o=4 then ⟨#[42]⟩ else if o=5 then ⟨#[45]⟩ else if o=6 then ⟨#[61,61]⟩ else if o=7 then ⟨#[33,61]⟩ else if o=8 then ⟨#[60]⟩ else if o=9 then ⟨#[60,61]⟩ else if o=10 then ⟨#[33]⟩ else if o=11 then ⟨#[38,38]⟩ else if o=12 then ⟨#[124,124]⟩ else if o=13 then ⟨#[63]⟩ else ⟨#[]⟩
def EX.op:EX->Int
 | .node o _ _ _=>o
def WB (a:List (f_)) (x:EX) (B:List Tok):Prop:=∀ dC:List Tok,dC.length+B.length+1<=1000000 ->
 uH (NS a) (ev x) (lI x) (dC.map bI) (IR x.op)=d_ [aG (fB (dC ++ B))] /\
 uI (NS a) (ev x) (lI x) (dC.map bI) (IR x.op)=d_ [aG (fB (dC ++ B ++ [tS [41]]))]
theorem b3S (x:EX):(ev x).1=x.op:=by obtain ⟨o,v,i,l⟩:=x; rw[lW]; rfl
theorem Ih (f:y.Len) (g:0<=y.op) (j:y.op<=13) (b:WB O y T) (c:Int):WR O y c (wp y c T):=by
 intro dC a;have d:y.op=0\/y.op=1\/y.op=2\/y.op=3\/y.op=4\/y.op=5\/y.op=6\/y.op=7\/y.op=8\/y.op=9\/y.op=10\/y.op=11\/y.op=12\/y.op=13:=by omega
 have m:SS.CC 135 [A1 (ev y)] []=some (af (lI y),[]):=by obtain ⟨o,v,i,l⟩:=y;exact (Dh f rfl g j).1
 rw[b5R,bu m,b3S];unfold wp at a ⊢;by_cases e:lI y<c
 .rw[ah e] at a ⊢;rw[bT,aZ,BD] at a;rw[aP e,aI,bV (lC ⟨#[40]⟩ dC (by omega))];try dsimp only
  have b:=(b (dC ++ [tS [40]]) (by rw[aZ,BD]; omega)).2;rw[yS,yS] at b;rw[aQ (by rw[aP (by omega),aP (by omega)]; rfl)];rcases d with h | h | h | h | h | h | h | h | h | h | h | h | h | h<;>(rw[h] at b ⊢; exact b)
 .rw[aV e] at a ⊢;have b:=b dC;rw[bG e,aF,aQ (by rw[aP (by omega),aP (by omega)]; rfl)];have b:=(b a).1;rcases d with h | h | h | h | h | h | h | h | h | h | h | h | h | h<;>(rw[h] at b ⊢; exact b)
theorem Aq (dC:List Tok) (h:dC.length+1<=1000000):SS.CC 118 [ag,a_ [c5V [41]]] [aG (fB dC)]=d_ [aG (fB (dC ++ [tS [41]]))]:=lC _ dC h
theorem syQ (dC:List Tok) (h:dC.length+1<=1000000):SS.CC 118 [ag,a_ [c5V [63]]] [aG (fB dC)]=d_ [aG (fB (dC ++ [tS [63]]))]:=lC _ dC h
theorem syD (dC:List Tok) (h:dC.length+1<=1000000):SS.CC 118 [ag,a_ [c5V [58]]] [aG (fB dC)]=d_ [aG (fB (dC ++ [tS [58]]))]:=lC _ dC h
theorem aY1 (dC:List Tok) (h:dC.length+2<=1000000):SS.CC 118 [ag,a_ [c5V [45],c5V [40]]] [aG (fB dC)]=d_ [aG (fB (dC ++ [tS [45],tS [40]]))]:=sy2 _ _ dC h
theorem woT (dC:List Tok) (h:dC.length+1<=1000000):SS.CC 117 [ag,a_ [c5V [116,114,117,101]]] [aG (fB dC)]=d_ [aG (fB (dC ++ [tW lM]))]:=yQ _ dC h
theorem woF (dC:List Tok) (h:dC.length+1<=1000000):SS.CC 117 [ag,a_ [c5V [102,97,108,115,101]]] [aG (fB dC)]=d_ [aG (fB (dC ++ [tW o9]))]:=yQ _ dC h
theorem woB (s:f_) (dC:List Tok) (h:dC.length+1<=1000000):SS.CC 117 [ag,a_ [.str (bs s)]] [aG (fB dC)]=d_ [aG (fB (dC ++ [tW s]))]:=yQ _ dC h
def ED (o:Int):f_:=if o=5 then [45] else if o=10 then [33] else kz o
theorem Fq (a:o=2\/o=3\/o=4\/o=5\/o=6\/o=7\/o=8\/o=9\/o=10\/o=11\/o=12) (dC:List Tok) (h:dC.length+1<=1000000):SS.CC 118 [ag,a_ [.str (IR o)]] [aG (fB dC)]=d_ [aG (fB (dC ++ [tS (ED o)]))]:=by rw[lC _ dC h];rcases a with rfl|rfl|rfl|rfl|rfl|rfl|rfl|rfl|rfl|rfl|rfl<;>rfl
variable {i Q:Int}
theorem agc (hk:n<m.length) (a:WR O m[n] Q T) (dC:List Tok) (h:dC.length+T.length+1<=1000000) :
 SS.CC 136 [af (n:Int),af Q,ag,.cst (a_ (NS O)),.cst (A1 (o,f,i,qx m,()))] [some [.ptr 1 0],aG (fB dC)]=d_ [some [.ptr 1 0],aG (fB (dC ++ T))]:=by
 rw[bC9];rw[Ho hk,bV (a dC h)]
theorem yl (b:WR O y Q T) (dC:List Tok) (h:dC.length+T.length+1<=1000000) :
 SS.CC 136 [af 0,af Q,ag,.cst (a_ (NS O)),.cst (A1 (o,f,i,qx (y::m),()))] [some [.ptr 1 0],aG (fB dC)]=d_ [some [.ptr 1 0],aG (fB (dC ++ T))]:=agc (by simp) b dC h
variable {p:EX}
theorem PU (c:WR O p Q T) (dC:List Tok) (h:dC.length+T.length+1<=1000000) :
 SS.CC 136 [af 1,af Q,ag,.cst (a_ (NS O)),.cst (A1 (o,f,i,qx (y::p::m),()))] [some [.ptr 1 0],aG (fB dC)]=d_ [some [.ptr 1 0],aG (fB (dC ++ T))]:=agc (by simp) c dC h
theorem ag2 {c:EX} (d:WR O c Q T) (dC:List Tok) (h:dC.length+T.length+1<=1000000) :
 SS.CC 136 [af 2,af Q,ag,.cst (a_ (NS O)),.cst (A1 (o,f,i,qx (y::p::c::m),()))] [some [.ptr 1 0],aG (fB dC)]=d_ [some [.ptr 1 0],aG (fB (dC ++ T))]:=agc (by simp) d dC h
theorem Len.arg (h:(EX.node o f i m).Len) (he:y∈m):y.Len:=by
 cases h with
 | mk _ _ _ _ a=>grind
theorem Af (h:o≠6):gW (.node o f i m) tE=false:=by grind [tE,UQ]
theorem Bc (h:o≠7):gW (.node o f i m) fE=false:=by grind [fE,UQ]
section
variable {ns:List (f_)}
theorem c0T (a:tE.Len):WB ns tE [tW lM]:=fun dC h=>by
 constructor
 .rw[Ez,eX kF,aj (fK a tE),show gW tE tE=true from DK _,aI,bV (woT dC (by omega))]
 .rw[F5,eX kF,aj (fK a tE),show gW tE tE=true from DK _,aI,bV (woT dC (by omega)),bV (Aq _ (by rw[aZ]; omega))]
theorem c0N (a:fE.Len):WB ns fE [tW o9]:=fun dC h=>by
 have b:gW fE tE=false:=Af (by decide);constructor
 .rw[Ez,eX kF,aj (fK a tE),b,aF,eX kY,aj (fK a fE),show gW fE fE=true from DK _,aI,bV (woF dC (by omega))]
 .rw[F5,eX kF,aj (fK a tE),b,aF,eX kY,aj (fK a fE),show gW fE fE=true from DK _,aI,bV (woF dC (by omega)),bV (Aq _ (by rw[aZ]; omega))]
theorem c0S (b : -65536<=o) (c:o<=65536) (a:(EX.node 0 o 0 []).Len):WB ns (nE o) (gX o):=fun dC h=>by
 have d:gW (.node 0 o 0 []) tE=false:=Af (by decide);have e:gW (.node 0 o 0 []) fE=false:=Bc (by decide);unfold nE;constructor
 .rw[Ez,eX kF,aj (fK a tE),d,aF,eX kY,aj (fK a fE),e,aF,lW];rw[show ((0:Int)==0)=true from rfl,aI,bV (Jp b c dC (by omega))]
 .rw[F5,eX kF,aj (fK a tE),d,aF,eX kY,aj (fK a fE),e,aF,lW];rw[show ((0:Int)==0)=true from rfl,aI,bV (Jp b c dC (by omega)),bV (Aq _ (by rw[aZ]; omega))]
theorem c0U {s:f_} (e:ns[n]? = some s) (a:(EX.node 1 0 (n:Int) []).Len):WB ns (vE (n:Int)) [tW s]:=fun dC h=>by
 have b:gW (.node 1 0 (n:Int) []) tE=false:=Af (by decide);have c:gW (.node 1 0 (n:Int) []) fE=false:=Bc (by decide);have d:(NS ns)[(n:Int).toNat]? = some (.str (bs s)):=by grind [aBQ]
 unfold vE;constructor
 .rw[Ez,eX kF,aj (fK a tE),b,aF,eX kY,aj (fK a fE),c,aF,lW];rw[show ((1:Int)==0)=false from rfl,aF,show ((1:Int)==1)=true from rfl,aI,nD (by omega) d,kG,bV (woB s dC (by omega))]
 .rw[F5,eX kF,aj (fK a tE),b,aF,eX kY,aj (fK a fE),c,aF,lW];rw[show ((1:Int)==0)=false from rfl,aF,show ((1:Int)==1)=true from rfl,aI,nD (by omega) d,kG,bV (woB s dC (by omega)),bV (Aq _ (by rw[aZ]; omega))]
theorem c0Q (b:0<=o) (c:WR ns (nE o) 0 (gX o)) (a:(EX.node 5 0 0 [nE o]).Len):WB ns (nY 5 (nE o)) (tS [45]::tS [40]::(gX o ++ [tS [41]])):=fun dC h=>by
 have h:dC.length+((gX o ++ [tS [41]]).length+1+1)+1<=1000000:=h;rw[aZ,BD] at h;have d:gW (.node 5 0 0 [nE o]) tE=false:=Af (by decide);have f:gW (.node 5 0 0 [nE o]) fE=false:=Bc (by decide);have e:dC ++ tS [45]::tS [40]::(gX o ++ [tS [41]])=dC ++ [tS [45],tS [40]] ++ gX o ++ [tS [41]]:=by simp
 have g:(dC ++ [tS [45],tS [40]]).length=dC.length+2:=by simp
 have i:(dC ++ [tS [45],tS [40]] ++ gX o).length=dC.length+2+(gX o).length:=by rw[aZ,g]
 rw[e];constructor
 .rw[Ez,eX kF,aj (fK a tE),d,aF,eX kY,aj (fK a fE),f,aF,lW];rw[show ((5:Int)==0)=false from rfl,aF,show ((5:Int)==1)=false from rfl,aF,show ((5:Int)==5)=true from rfl,aI,um,um,MR];rw[show ((0:Int)==0)=true from rfl,aI,aP b,aI,bV (aY1 dC (by omega)),pM (yl c _ (by omega)),bV (Aq _ (by omega))]
 .rw[F5,eX kF,aj (fK a tE),d,aF,eX kY,aj (fK a fE),f,aF,lW];rw[show ((5:Int)==0)=false from rfl,aF,show ((5:Int)==1)=false from rfl,aF,show ((5:Int)==5)=true from rfl,aI,um,um,MR];rw[show ((0:Int)==0)=true from rfl,aI,aP b,aI,bV (aY1 dC (by omega)),pM (yl c _ (by omega)),bV (Aq _ (by omega)),bV (Aq _ (by rw[aZ,BD]; omega))]
theorem c0P {l:List EX} {T:List Tok} (j:o≠0\/f<0) (a:WR ns (.node o f i l) 6 T) (b:(EX.node 5 0 0 [.node o f i l]).Len):WB ns (nY 5 (.node o f i l)) (tS [45]::T):=fun dC h=>by
 have h:dC.length+(T.length+1)+1<=1000000:=h;have d:gW (.node 5 0 0 [.node o f i l]) tE=false:=Af (by decide);have g:gW (.node 5 0 0 [.node o f i l]) fE=false:=Bc (by decide);have e:dC ++ tS [45]::T=dC ++ [tS [45]] ++ T:=by simp
 have m:(dC ++ [tS [45]]).length=dC.length+1:=by simp
 rw[e];show uH _ _ _ _ (IR 5)=_/\uI _ _ _ _ (IR 5)=_;constructor
 .rw[Ez,eX kF,aj (fK b tE),d,aF,eX kY,aj (fK b fE),g,aF,lW];rw[show ((5:Int)==0)=false from rfl,aF,show ((5:Int)==1)=false from rfl,aF,show ((5:Int)==5)=true from rfl,aI,um,um,lW];try dsimp only
  by_cases c:o=0
  .rw[show (o==0)=true by simp[c],aI,bG (by omega),aF,aI,bV (Fq (by simp) dC (by omega))];rw[show ED 5 = [45] from rfl,pM (yl a _ (by omega))]
  .rw[show (o==0)=false by grind,aF,aI,bV (Fq (by simp) dC (by omega))];rw[show ED 5 = [45] from rfl,pM (yl a _ (by omega))]
 .rw[F5,eX kF,aj (fK b tE),d,aF,eX kY,aj (fK b fE),g,aF,lW];rw[show ((5:Int)==0)=false from rfl,aF,show ((5:Int)==1)=false from rfl,aF,show ((5:Int)==5)=true from rfl,aI,um,um,lW];try dsimp only
  by_cases c:o=0
  .rw[show (o==0)=true by simp[c],aI,bG (by omega),aF,aI,bV (Fq (by simp) dC (by omega))];rw[show ED 5 = [45] from rfl,pM (yl a _ (by omega)),bV (Aq _ (by rw[aZ]; omega))]
  .rw[show (o==0)=false by grind,aF,aI,bV (Fq (by simp) dC (by omega))];rw[show ED 5 = [45] from rfl,pM (yl a _ (by omega)),bV (Aq _ (by rw[aZ]; omega))]
theorem c0R {T:List Tok} (c:WR ns y 6 T) (b:(EX.node 10 0 0 [y]).Len):WB ns (nY 10 y) (tS [33]::T):=fun dC h=>by
 have h:dC.length+(T.length+1)+1<=1000000:=h;have d:gW (.node 10 0 0 [y]) tE=false:=Af (by decide);have f:gW (.node 10 0 0 [y]) fE=false:=Bc (by decide);have e:dC ++ tS [33]::T=dC ++ [tS [33]] ++ T:=by simp
 have g:(dC ++ [tS [33]]).length=dC.length+1:=by simp
 rw[e];show uH _ _ _ _ (IR 10)=_/\uI _ _ _ _ (IR 10)=_;constructor
 .rw[Ez,eX kF,aj (fK b tE),d,aF,eX kY,aj (fK b fE),f,aF,lW];rw[show ((10:Int)==0)=false from rfl,aF,show ((10:Int)==1)=false from rfl,aF,show ((10:Int)==5)=false from rfl,aF,aF,show ((10:Int)==10)=true from rfl,aI,bV (Fq (by simp) dC (by omega)),show ED 10 = [33] from rfl,pM (yl c _ (by omega))]
 .rw[F5,eX kF,aj (fK b tE),d,aF,eX kY,aj (fK b fE),f,aF,lW];rw[show ((10:Int)==0)=false from rfl,aF,show ((10:Int)==1)=false from rfl,aF,show ((10:Int)==5)=false from rfl,aF,aF,show ((10:Int)==10)=true from rfl,aI,bV (Fq (by simp) dC (by omega)),show ED 10 = [33] from rfl,pM (yl c _ (by omega)),bV (Aq _ (by rw[aZ]; omega))]
theorem c0O {b:EX} {C A B:List Tok} (f:WR ns y 1 C) (g:WR ns p 0 A) (i:WR ns b 0 B) (d:(EX.node 13 0 0 [y,p,b]).Len):WB ns (.node 13 0 0 [y,p,b]) (C ++ tS [63]::(A ++ tS [58]::B)):=fun dC h=>by
 rw[aZ,bT,aZ,bT] at h;have j:gW (.node 13 0 0 [y,p,b]) tE=false:=Af (by decide);have l:gW (.node 13 0 0 [y,p,b]) fE=false:=Bc (by decide);have e:dC ++ (C ++ tS [63]::(A ++ tS [58]::B))=dC ++ C ++ [tS [63]] ++ A ++ [tS [58]] ++ B:=by simp
 have m:(dC ++ C).length=dC.length+C.length:=by simp
 have n:(dC ++ C ++ [tS [63]]).length=dC.length+C.length+1:=by rw[aZ,m]; rfl
 have o:(dC ++ C ++ [tS [63]] ++ A).length=dC.length+C.length+1+A.length:=by rw[aZ,n]
 have q:(dC ++ C ++ [tS [63]] ++ A ++ [tS [58]]).length=dC.length+C.length+1+A.length+1:=by rw[aZ,o]; rfl
 rw[e];constructor
 .rw[Ez,eX kF,aj (fK d tE),j,aF,eX kY,aj (fK d fE),l,aF,lW];rw[show ((13:Int)==0)=false from rfl,aF,show ((13:Int)==1)=false from rfl,aF,show ((13:Int)==5)=false from rfl,aF,aF,show ((13:Int)==10)=false from rfl,aF,show ((13:Int)==13)=true from rfl,aI,
   pM (yl f dC (by omega)),bV (syQ _ (by omega)),pM (PU g _ (by omega)),bV (syD _ (by omega)),pM (ag2 i _ (by omega))]
 .rw[F5,eX kF,aj (fK d tE),j,aF,eX kY,aj (fK d fE),l,aF,lW];rw[show ((13:Int)==0)=false from rfl,aF,show ((13:Int)==1)=false from rfl,aF,show ((13:Int)==5)=false from rfl,aF,aF,show ((13:Int)==10)=false from rfl,aF,show ((13:Int)==13)=true from rfl,aI,
   pM (yl f dC (by omega)),bV (syQ _ (by omega)),pM (PU g _ (by omega)),bV (syD _ (by omega)),pM (ag2 i _ (by omega)),bV (Aq _ (by rw[aZ]; omega))]
theorem aYZ {A B:List Tok} (z:o=2\/o=3\/o=4\/o=6\/o=7\/o=8\/o=9\/o=11\/o=12) (u:lI (jU o y p)=f) (w:f=3/\i=4/\Q=4\/f≠3/\0<=f/\f<=7/\i=f/\Q=f+1)
 (j:gW (.node o 0 0 [y,p]) tE=false) (l:gW (.node o 0 0 [y,p]) fE=false) (m:WR ns y i A) (n:WR ns p Q B) (g:(EX.node o 0 0 [y,p]).Len):WB ns (jU o y p) (A ++ tS (kz o)::B):=fun dC h=>by
 rw[aZ,bT] at h;have e:dC ++ (A ++ tS (kz o)::B)=dC ++ A ++ [tS (ED o)] ++ B:=by rw[show ED o=kz o by unfold ED; rw[aV (by omega),aV (by omega)]]; simp
 have x:(dC ++ A).length=dC.length+A.length:=by simp
 have C:(dC ++ A ++ [tS (ED o)]).length=dC.length+A.length+1:=by rw[aZ,x]; rfl
 have q:(o==0)=false:=by simp; omega
 have r:(o==1)=false:=by simp; omega
 have t:(o==5)=false:=by simp; omega
 have c:(o==10)=false:=by simp; omega
 have d:(o==13)=false:=by simp; omega
 rw[e,u];show uH _ _ _ _ (IR o)=_/\uI _ _ _ _ (IR o)=_;rcases w with ⟨rfl,rfl,rfl⟩|⟨D,E,F,rfl,rfl⟩
 .constructor
  .rw[Ez,eX kF,aj (fK g tE),j,aF,eX kY,aj (fK g fE),l,aF,lW];rw[q,aF,r,aF,t,aF,aF,c,aF,d,aF,show ((3:Int)==3)=true from rfl,aI,pM (yl m dC (by omega)),bV (Fq (by omega) _ (by omega)),pM (PU n _ (by omega))]
  .rw[F5,eX kF,aj (fK g tE),j,aF,eX kY,aj (fK g fE),l,aF,lW];rw[q,aF,r,aF,t,aF,aF,c,aF,d,aF,show ((3:Int)==3)=true from rfl,aI,pM (yl m dC (by omega)),bV (Fq (by omega) _ (by omega)),pM (PU n _ (by omega)),bV (Aq _ (by rw[aZ]; omega))]
 .have v:(i==3)=false:=by grind
  constructor
  .rw[Ez,eX kF,aj (fK g tE),j,aF,eX kY,aj (fK g fE),l,aF,lW];rw[q,aF,r,aF,t,aF,aF,c,aF,d,aF,v,aF,pM (yl m dC (by omega)),bV (Fq (by omega) _ (by omega)),wrap64 (by omega) (by omega),pM (PU n _ (by omega))]
  .rw[F5,eX kF,aj (fK g tE),j,aF,eX kY,aj (fK g fE),l,aF,lW];rw[q,aF,r,aF,t,aF,aF,c,aF,d,aF,v,aF,pM (yl m dC (by omega)),bV (Fq (by omega) _ (by omega)),wrap64 (by omega) (by omega),pM (PU n _ (by omega)),bV (Aq _ (by rw[aZ]; omega))]
end
theorem aT4 (h:o=2/\f=4\/o=3/\f=4\/o=4/\f=5\/o=11/\f=2\/o=12/\f=1):lI (jU o y p)=f:=by rcases h with ⟨rfl,rfl⟩|⟨rfl,rfl⟩|⟨rfl,rfl⟩|⟨rfl,rfl⟩|⟨rfl,rfl⟩<;>rfl
theorem aT6 (h:o=6\/o=7\/o=8\/o=9) (c:gW (jU o y p) tE=false) (d:gW (jU o y p) fE=false):lI (jU o y p)=3:=by unfold lI;grind
theorem bWZ (j:List (f_)) (h:PB j y T):y.Len->WB j y T/\0<=y.op/\y.op<=13:=by
 induction h with
 | tt=>grind [c0T,EX.op,tE]
 | ff=>grind [c0N,EX.op,fE]
 | num n o=>grind [c0S,EX.op,nE]
 | var q=>grind [c0U,EX.op,vE]
 | @a3M v n o _ d =>intro a;obtain ⟨k1,k2,k3⟩:=d (Len.arg a (by simp));have r:=Ih (Len.arg a (by simp)) k2 k3 k1 0;grind [wp,nE,lI,c0Q,EX.op]
 | neg t _ d =>grind [Len.arg,c0P,Ih,EX.op]
 | Dl _ d =>grind [Len.arg,c0R,Ih,EX.op]
 | cmp e l m _ _ b c =>
  intro a;obtain ⟨k1,k2,k3⟩:=b (Len.arg a (by simp));obtain ⟨f,g,i⟩:=c (Len.arg a (by simp));refine ⟨aYZ (by omega) (aT6 e l m) (.inl ⟨rfl,rfl,rfl⟩) l m (Ih (Len.arg a (by simp)) k2 k3 k1 4) (Ih (Len.arg a (by simp)) g i f 4) a,?_,?_⟩;grind [EX.op]
  grind [EX.op]
 | bin e _ _ b c =>
  intro a;obtain ⟨k1,k2,k3⟩:=b (Len.arg a (by simp));obtain ⟨f,g,i⟩:=c (Len.arg a (by simp));refine ⟨aYZ (by omega) (aT4 e) (.inr ⟨by omega,by omega,by omega,rfl,rfl⟩) (Af (by omega)) (Bc (by omega)) (Ih (Len.arg a (by simp)) k2 k3 k1 _) (Ih (Len.arg a (by simp)) g i f _) a,?_,?_⟩;grind [EX.op]
  grind [EX.op]
 | ite _ _ _ p b c =>grind [Len.arg,c0O,Ih,EX.op]
end Go.Proofs.YtagkcbgkhgccmaaGreatDoor.W
end

/- A part of the proof. -/
import Derived.Test.YtilpiopkekkbiaaGreatDoorPp7
import Derived.Test.YtilpiopkekkbiaaGreatDoorPp5
import Derived.Test.YtilpiopkekkbiaaGreatDoorPp4
set_option linter.unusedVariables false
set_option linter.unusedSimpArgs false
set_option linter.unnecessarySimpa false
set_option linter.unusedSectionVars false
noncomputable section
open Go.IntKind (i64)
namespace Go.Proofs.YtilpiopkekkbiaaGreatDoor.W
open Go.RowKit
set_option maxRecDepth 1000000
variable {c:UInt8} {k b n i nv:Nat} {α:Type} {x6 l:List Nm} {t:Tm} {m:Mo} {g:FuncId} {h:aG} {b1:Bool} {y2:Sh.V eH} {y3 y1:Sh.V aH} {x1:Sh.V S1}
abbrev kK (c:UInt8) (k:Nat):Nm := [c,48+UInt8.ofNat k]
def rH (c:UInt8) (b:Nat) (s:Nm):Prop:=∃ k:Nat,k<b/\s=kK c k
theorem aRD {j:Nat} (hj:j<10) (hk:k<10) (h:kK c j=kK c k):j=k:=by
 have:∀ j,j<10->∀ k,k<10->(48:UInt8)+UInt8.ofNat j=48+UInt8.ofNat k->j=k:=by decide
 grind
theorem wu8 {n:Int} (h:U8 n):IntKind.u8.wrap n=n:=by rw[IntKind.wrap_u8]; omega
theorem n2c {c:Int} (d:UInt8) (k:Nat) (hd:c=(d.toNat:Int)) (hk:k<10):sW ([.int .u8 c,.int .u8 (IntKind.u8.wrap (48+(k:Int)))]:bZZ)=true/\strOf ([.int .u8 c,.int .u8 (IntKind.u8.wrap (48+(k:Int)))]:bZZ)=bs (kK d k):=by rw[wu8 ⟨by omega,by omega⟩];refine ⟨by simp[sW,isByte]<;>omega,?_⟩;show bs [UInt8.ofNat c.toNat,UInt8.ofNat (48+(k:Int)).toNat]=_;rw[hd,pG];rw[show (48+(k:Int)).toNat=48+k by omega];simp
theorem n2w {c:Int} (d:UInt8) (k:Nat) (hd:c=(d.toNat:Int)) (hk:k<10):sW ([.int .u8 c,.int .u8 (IntKind.u8.wrap (48+(IntKind.u8.wrap (k:Int))))]:bZZ)=true/\strOf ([.int .u8 c,.int .u8 (IntKind.u8.wrap (48+(IntKind.u8.wrap (k:Int))))]:bZZ)=bs (kK d k):=by rw[wu8 (n:=(k:Int)) ⟨by omega,by omega⟩]; exact n2c d k hd hk
def NP (s:Nm):Prop:=∃ j:Nat,j<6/\s = [97+UInt8.ofNat j]
theorem n1c {v:Int} (h:0<=v):sW ([.int .u8 (IntKind.u8.wrap (97+Int.tmod v 6))]:bZZ)=true/\∃ s,NP s/\strOf ([.int .u8 (IntKind.u8.wrap (97+Int.tmod v 6))]:bZZ)=bs s:=by have h1:=N9 v (b:=6) (by decide);have h2:=Qq 6 h;obtain ⟨j,hj⟩:∃ j:Nat,Int.tmod v 6=(j:Int):=⟨(Int.tmod v 6).toNat,by omega⟩;rw[hj,wu8 ⟨by omega,by omega⟩];refine ⟨by simp[sW,isByte]<;>omega,_,⟨j,by omega,rfl⟩,?_⟩;show bs [UInt8.ofNat (97+(j:Int)).toNat]=_;rw[show (97+(j:Int)).toNat=97+j by omega];simp
theorem WG {v:Int} (h:0<=v) (b:Nat) (hb:0<b):∃ j:Nat,j<b/\Int.tmod v (b:Int)=(j:Int):=by have h1:=N9 v (b:=(b:Int)) (by omega);have h2:=Qq (b:Int) h;exact ⟨(Int.tmod v b).toNat,by omega,by omega⟩
structure Sk where
 e:Int×Int×Int×Int×Int
 ts:List Mc
 is:List (Int×Int×Int)
 xs:List (Int×Int×Int×Int)
 ks:List (Int×Int×Int)
abbrev vM4 (x:Int×Int×Int×Int):Sh.V Gv:=(x.1,x.2.1,x.2.2.1,x.2.2.2,())
abbrev VU (x:Int×Int×Int×Int):PV := .agg [.int .u8 x.1,.int .u8 x.2.1,.int .u8 x.2.2.1,.int .u8 x.2.2.2]
abbrev vM3 (x:Int×Int×Int):Sh.V Rn:=(x.1,x.2.1,x.2.2,())
abbrev VT (x:Int×Int×Int):PV := .agg [.int .i8 x.1,.int .i8 x.2.1,.int .i8 x.2.2]
abbrev qC (s:Sk):Sh.V S2:=(s.e.1,s.e.2.1,s.e.2.2.1,s.e.2.2.2.1,s.e.2.2.2.2,s.ts.map Ig,s.is.map Ie,s.xs.map VU,s.ks.map VT,())
theorem aQ1 {l:List (Int×Int×Int×Int)} (hk:k<l.length) (K:Sh.V Gv->R):aj Gv (l.map VU) (k:Int) K=K (vM4 l[k]):=xP (fun _ _=>rfl) hk K
theorem aQ0 {l:List (Int×Int×Int)} (hk:k<l.length) (K:Sh.V Rn->R):aj Rn (l.map VT) (k:Int) K=K (vM3 l[k]):=xP (fun _ _=>rfl) hk K
structure a4W (s:Sk):Prop where
 e:U8 s.e.1/\U8 s.e.2.1/\U8 s.e.2.2.1/\U8 s.e.2.2.2.1/\U8 s.e.2.2.2.2
 ts:s.ts.length<=1000/\∀ c,c∈s.ts->a4T c
 is:s.is.length<=1000/\∀ x,x∈s.is->U8 x.1/\U8 x.2.1/\U8 x.2.2
 xs:s.xs.length<=1000/\∀ x,x∈s.xs->U8 x.1/\U8 x.2.1/\U8 x.2.2.1/\U8 x.2.2.2
 ks:s.ks.length<=1000/\∀ x,x∈s.ks->I8 x.1/\I8 x.2.1/\I8 x.2.2
structure Na (k:Nat) (x:Ins):Prop where
 n:rH 99 k x.n
 t:rH 116 3 x.t
 e:x.es.length<=3/\∀ s,s∈x.es->NP s
structure Rw (i:Nat) (x:pI):Prop where
 n:x.n=kK 101 i
 l:1<=x.ls.length/\x.ls.length<=3/\∀ l,l∈x.ls->rH 99 4 l.1/\rH 108 5 l.2
structure Xa (i:Nat) (x:Cst):Prop where
 n:x.n=kK 107 i
 l:1<=x.ts.length/\x.ts.length<=2/\∀ l,l∈x.ts->rH 99 4 l.1/\I8 l.2
 b:I8 x.b
structure Ja (m:Mo):Prop where
 n:m.n = [109,111,100,101,108]
 es:m.es.map (·.n) = [[97],[98],[99],[100],[101]]/\∀ x,x∈m.es->XO x
 ts:m.ts.length<=2/\∀ i (h:i<m.ts.length),m.ts[i].n=kK 116 i/\En m.ts[i]
 is:m.cs.length+m.rs.length<=4/\(∀ x,x∈m.cs ++ m.rs->Na 4 x)/\((m.cs ++ m.rs).map (·.n)).Nodup
 xs:m.xs.length<=2/\∀ i (h:i<m.xs.length),Rw i m.xs[i]
 ks:m.ks.length<=2/\∀ i (h:i<m.ks.length),Xa i m.ks[i]
theorem aOD {P:Nat->α->Prop} {l:List α} (h:∀ i (h:i<l.length),P i l[i]) {a:α} (ha:P l.length a):∀ i (h:i<(l ++ [a]).length),P i (l ++ [a])[i]:=by grind
section
variable {s:Sk} (hs:a4W s) {o1:bZZ}
include hs
theorem m4:∃ ts:List Tm,UH (qC s) o1 0 []=UD (qC s) o1 (ts.map qw)/\ts.length<=2/\∀ i (h:i<ts.length),ts[i].n=kK 116 i/\En ts[i]:=by
 have hl1:(s.ts.map Ig).length=s.ts.length:=bF _;refine Exists.elim (EG (n:=min s.ts.length 2) (L:=fun k (ts:List Tm)=>UH (qC s) o1 (k:Int) (ts.map qw))
  (P:=fun k ts=>ts.length=k/\∀ i (h:i<ts.length),ts[i].n=kK 116 i/\En ts[i]) (fun k ts hk hp => ?_) (fun ts hp => ?_) [] ⟨rfl,fun i h=>(nomatch h)⟩) fun ts hp=>⟨ts,hp.1,ng (JO hp.2.1) (by omega),hp.2.2⟩
 .obtain ⟨h1,h2⟩:=hp;have uN:k<s.ts.length:=by omega
  obtain ⟨t,e,hn,ht⟩:=tmM (hs.ts.2 _ (dY uN)) (kK 116 k);obtain ⟨b1,b2⟩:=n2w (c:=116) 116 k rfl (by omega);rw[aLT,hl1,aN (by omega),a9O uN,show ((k:Int)==2)=false by rw[qc]; omega,b2,aWC e,aQ (iQ (by rw[bF]; omega)),bU (by omega)];refine ⟨ts ++ [t],by rw[qZ]; rfl,by rw[aU,h1]; rfl,?_⟩;grind
 .rw[aLT,hl1];by_cases h4:s.ts.length<=2;simp_all
  .rw[a4H (by omega),aN (by omega),aI,a9O (by omega),show (((2:Nat):Int)==2)=true from rfl,aI]
theorem m16 {q:Int×Int×Int} (hq:U8 q.1/\U8 q.2.1/\U8 q.2.2) {x6 o2:bZZ} {k:Int} {cs rs:bZZ} {n:Nm} :
 ∃ es:List Nm,UE (qC s) o1 (J9 q) 0 [] x6 k o2 cs rs (bs n)=aA (decide (q.1<128)) (chk (decide (cs.length+1<=aO)) (UA (qC s) o1 (J9 q) (cs ++ ([A8 (bs n,(strOf ([.int .u8 116,.int .u8 (IntKind.u8.wrap (48+(Int.tmod q.1 3)))]:bZZ)),aK es,())]:bZZ)) rs x6 k o2 (bs n) (aK es))) (chk (decide (rs.length+1<=aO)) (UA (qC s) o1 (J9 q) cs (rs ++ ([A8 (bs n,(strOf ([.int .u8 116,.int .u8 (IntKind.u8.wrap (48+(Int.tmod q.1 3)))]:bZZ)),aK es,())]:bZZ)) x6 k o2 (bs n) (aK es)))/\es.length<=3/\∀ s,s∈es->NP s:=by
 obtain ⟨c,hc,e⟩:=WG hq.2.1.1 4 (by decide);have e4:i64.wrap (Int.tmod q.2.1 4)=(c:Int):=by rw[show (4:Int)=((4:Nat):Int) from rfl,e,wrap64 (by omega) (by omega)]
 refine Exists.elim (EG (n:=c) (L:=fun j (es:List Nm)=>UE (qC s) o1 (J9 q) (j:Int) (aK es) x6 k o2 cs rs (bs n)) (P:=fun j es=>es.length=j/\∀ s,s∈es->NP s) (fun j es hj hp => ?_) (fun es hp => ?_) [] ⟨rfl,fun i h=>(nomatch h)⟩) fun es hp=>⟨es,hp.1,ng (JO hp.2.1) (by omega),hp.2.2⟩
 .obtain ⟨h1,h2⟩:=hp;obtain ⟨b1,z,hz,b2⟩:=n1c (u8w (q.2.2+IntKind.u8.wrap (j:Int))).1;rw[aLP];try dsimp only
  rw[aN (by omega),aI,aQ b1,aQ (iQ (by rw[iD]; omega)),bU (by omega)];refine ⟨es ++ [z],?_,by rw[aU,h1]; rfl,fun y hy => ?_⟩;grind [rq]
  grind
 grind [aLP,aC]
end
theorem aRE {a:Nat} {s:Nm} (h:rH c a s) (hb:a<=b):rH c b s:=by obtain ⟨k,h1,h2⟩:=h; exact ⟨k,by omega,h2⟩
theorem bTB (a:List Nm) (b:Nm):aK a ++ ([.str (bs b)]:bZZ)=aK (a ++ [b]):=by simp[rq]
structure StI where
 x6:List Nm
 cs:List Ins
 rs:List Ins
structure StP (k:Nat) (z:StI):Prop where
 x:z.x6.length=k+1/\∀ s,s∈z.x6->rH 99 4 s
 n:z.cs.length+z.rs.length=k
 i:∀ x,x∈z.cs ++ z.rs->Na k x
 d:((z.cs ++ z.rs).map (·.n)).Nodup
section
variable {s:Sk} (hs:a4W s) {o1 o2:bZZ}
include hs
theorem m11:∃ z:StI,UD (qC s) o1 o2=UB (qC s) o1 (aK z.x6) o2 (z.cs.map fD) (z.rs.map fD)/\∃ k,k<=4/\StP k z:=by
 have hl1:(s.is.map Ie).length=s.is.length:=bF _;rw[bDH];refine Exists.elim (EG (n:=min s.is.length 4) (L:=fun k (z:StI)=>a01 (qC s) o1 (aK z.x6) (k:Int) (z.cs.map fD) (z.rs.map fD) o2) (fun k z hk hp => ?_) (fun z hp => ?_) ⟨[[99,48]],[],[]⟩ ⟨⟨rfl,fun s h=>by rw[xx] at h; exact ⟨0,by decide,h⟩⟩,rfl,fun x h=>(nomatch h),List.nodup_nil⟩) fun z hp=>⟨z,hp.1,_,by omega,hp.2⟩
 .obtain ⟨⟨x1,x2⟩,n1,i1,d1⟩:=hp;have uN:k<s.is.length:=by omega
  have hq:=hs.is.2 _ (dY uN);obtain ⟨b1,b2⟩:=n2w (c:=99) 99 k rfl (by omega);obtain ⟨j,hj,ej⟩:=WG hq.1.1 3 (by decide);obtain ⟨t1,t2⟩:=n2c (c:=116) 116 j rfl (by omega);obtain ⟨es,e,l1,l2⟩:=m16 hs hq;have ej':Int.tmod (s.is[k]).1 3=(j:Int):=ej;rw[aLO,hl1,aN (by omega),Uz uN,show ((k:Int)==4)=false by rw[qc]; omega,b2];rw[e,ej',t2,aQ (iQ (by rw[bF]; omega)),aQ (iQ (by rw[bF]; omega)),aLK,aLK,aQ (iQ (by rw[iD]; omega)),aQ (iQ (by rw[iD]; omega)),bU (by omega),bTB];have hx:(z.x6 ++ [kK 99 k]).length=k+1+1/\∀ s,s∈z.x6 ++ [kK 99 k]->rH 99 4 s:=by
   refine ⟨by rw[aU,x1]; rfl,fun y hy => ?_⟩;rw[vX,xx] at hy;rcases hy with hy | rfl
   simp_all
   .exact ⟨k,by omega,rfl⟩
  have hi:Na (k+1) ⟨kK 99 k,kK 116 j,es⟩:=⟨⟨k,by omega,rfl⟩,⟨j,hj,rfl⟩,l1,l2⟩;have hn:∀ x,x∈z.cs ++ z.rs->x.n≠kK 99 k:=fun x hx h=>by obtain ⟨i,h1,h2⟩:=(i1 x hx).n;have:=aRD (by omega) (by omega) (h2.symm.trans h);omega
  have hm:∀ x,Na k x->Na (k+1) x:=fun x h=>⟨aRE h.n (by omega),h.t,h.e⟩
  by_cases hc:(s.is[k]).1<128
  .rw[aN hc];refine ⟨⟨z.x6 ++ [kK 99 k],z.cs ++ [⟨kK 99 k,kK 116 j,es⟩],z.rs⟩,by rw[qZ]; rfl,hx,?_,?_,?_⟩;grind
   grind
   grind
  .rw[aW hc];refine ⟨⟨z.x6 ++ [kK 99 k],z.cs,z.rs ++ [⟨kK 99 k,kK 116 j,es⟩]⟩,by rw[qZ]; rfl,hx,?_,?_,?_⟩;grind
   grind
   grind
 .rw[aLO,hl1];by_cases h4:s.is.length<=4;simp_all
  .rw[a4H (by omega),aN (by omega),aI,Uz (by omega),show (((4:Nat):Int)==4)=true from rfl,aI]
theorem m31 {q:Int×Int×Int×Int} (hq:U8 q.1/\U8 q.2.1/\U8 q.2.2.1/\U8 q.2.2.2) (hx:0<x6.length/\x6.length<=100/\∀ s,s∈x6->rH 99 4 s) {k:Int} {n:Nm} {cs rs o5:bZZ}:
 ∃ ls:List (Nm×Nm),UG (qC s) o1 (vM4 q) 0 (aK x6) k o2 cs rs o5 (bs n,[],())=chk (decide (o5.length+1<=aO)) (UF (qC s) o1 (i64.wrap (k+1)) (o5 ++ ([ve (bs n,ls.map qp,())]:bZZ)) (aK x6) o2 cs rs)/\1<=ls.length/\ls.length<=3/\∀ l,l∈ls->rH 99 4 l.1/\rH 108 5 l.2:=by
 obtain ⟨hx0,hx1,hx2⟩:=hx;obtain ⟨c,hc,e⟩:=WG hq.1.1 3 (by decide);have e4:i64.wrap (1+i64.wrap (Int.tmod q.1 3))=((c+1:Nat):Int):=by rw[show (3:Int)=((3:Nat):Int) from rfl,e,wrap64 (n:=(c:Int)) (by omega) (by omega),wrap64 (by omega) (by omega)]; omega
 refine Exists.elim (EG (n:=c+1) (L:=fun j (ls:List (Nm×Nm))=>UG (qC s) o1 (vM4 q) (j:Int) (aK x6) k o2 cs rs o5 (bs n,ls.map qp,())) (P:=fun j ls=>ls.length=j/\∀ l,l∈ls->rH 99 4 l.1/\rH 108 5 l.2) (fun j ls hj hp => ?_) (fun ls hp => ?_) [] ⟨rfl,fun i h=>(nomatch h)⟩) fun ls hp=>⟨ls,hp.1,by omega,ng (JO hp.2.1) (by omega),hp.2.2⟩
 .obtain ⟨h1,h2⟩:=hp;have hv:∃ v,U8 v/\∀ K:PV->R,FW [.int .u8 q.1,.int .u8 q.2.1,.int .u8 q.2.2.1,.int .u8 q.2.2.2] (0+(i64.wrap (1+(j:Int))).toNat*1) K=K (.int .u8 v):=by
   have:j=0\/j=1\/j=2:=by omega
   rcases this with rfl | rfl | rfl
   .exact ⟨q.2.1,hq.2.1,fun K=>rfl⟩
   .exact ⟨q.2.2.1,hq.2.2.1,fun K=>rfl⟩
   .exact ⟨q.2.2.2,hq.2.2.2,fun K=>rfl⟩
  have hw:∃ v,U8 v/\∀ K:PV->R,FW [.int .u8 q.1,.int .u8 q.2.1,.int .u8 q.2.2.1,.int .u8 q.2.2.2] (0+(i64.wrap (3-(j:Int))).toNat*1) K=K (.int .u8 v):=by
   have:j=0\/j=1\/j=2:=by omega
   rcases this with rfl | rfl | rfl
   .exact ⟨q.2.2.2,hq.2.2.2,fun K=>rfl⟩
   simp_all
   .exact ⟨q.2.1,hq.2.1,fun K=>rfl⟩
  obtain ⟨v,v1,v2⟩:=hv;obtain ⟨w,w1,w2⟩:=hw;obtain ⟨i,hi,ei⟩:=WG v1.1 x6.length hx0;obtain ⟨r,hr,er⟩:=WG w1.1 5 (by decide);have er':Int.tmod w 5=(r:Int):=er;obtain ⟨t1,t2⟩:=n2c (c:=108) 108 r rfl (by omega);rw[aLR];try dsimp only
  rw[aN (by omega),aQ (by rw[wrap64 (by omega) (by omega)]; grind),v2,ui,aQ (by rw[iD,BA,qc]; omega),wrap64 (by omega) (by omega),iD,ei,zW hi,jT,aQ (by rw[wrap64 (by omega) (by omega)]; grind),w2,ui,er',t2,aQ (iQ (by rw[bF]; omega)),bU (by omega)];refine ⟨ls ++ [(x6[i],kK 108 r)],by rw[qZ]; rfl,by rw[aU,h1]; rfl,fun y hy => ?_⟩;rw[vX,xx] at hy;rcases hy with hy | rfl
  grind
  .exact ⟨hx2 _ (dY hi),r,hr,rfl⟩
 grind [aLR,aW,aC]
theorem m26 (hx:0<x6.length/\x6.length<=100/\∀ s,s∈x6->rH 99 4 s) {cs rs:bZZ}:
 ∃ xs:List pI,UB (qC s) o1 (aK x6) o2 cs rs=UC (qC s) o1 (aK x6) o2 cs rs (xs.map ru)/\xs.length<=2/\∀ i (h:i<xs.length),Rw i xs[i]:=by
 have hl1:(s.xs.map VU).length=s.xs.length:=bF _;rw[bDF];refine Exists.elim (EG (n:=min s.xs.length 2) (L:=fun k (xs:List pI)=>UF (qC s) o1 (k:Int) (xs.map ru) (aK x6) o2 cs rs)
  (P:=fun k xs=>xs.length=k/\∀ i (h:i<xs.length),Rw i xs[i]) (fun k xs hk hp => ?_) (fun xs hp => ?_) [] ⟨rfl,fun i h=>(nomatch h)⟩) fun xs hp=>⟨xs,hp.1,ng (JO hp.2.1) (by omega),hp.2.2⟩
 .obtain ⟨h1,h2⟩:=hp;have uN:k<s.xs.length:=by omega
  obtain ⟨b1,b2⟩:=n2w (c:=101) 101 k rfl (by omega);obtain ⟨ls,e,q1,q2,q3⟩:=m31 hs (hs.xs.2 _ (dY uN)) hx;rw[aLQ,hl1,aN (by omega),aQ1 uN,show ((k:Int)==2)=false by rw[qc]; omega,b2,e,aQ (iQ (by rw[bF]; omega)),bU (by omega)];refine ⟨xs ++ [⟨kK 101 k,ls⟩],by rw[qZ]; rfl,by rw[aU,h1]; rfl,?_⟩;grind [Rw]
 .rw[aLQ,hl1];by_cases h4:s.xs.length<=2;simp_all
  .rw[a4H (by omega),aN (by omega),aI,aQ1 (by omega),show (((2:Nat):Int)==2)=true from rfl,aI]
theorem m38 (hx:0<x6.length/\x6.length<=100/\∀ s,s∈x6->rH 99 4 s) {cs rs o5:bZZ}:
 ∃ ks:List Cst,UC (qC s) o1 (aK x6) o2 cs rs o5=some (A0 (⟨#[109,111,100,101,108]⟩,o1,o2,cs,rs,o5,ks.map mJ,()),[])/\ks.length<=2/\∀ i (h:i<ks.length),Xa i ks[i]:=by
 obtain ⟨hx0,hx1,hx2⟩:=hx;have hl1:(s.ks.map VT).length=s.ks.length:=bF _;rw[bDG];refine Exists.elim (EG (n:=min s.ks.length 2) (L:=fun k (ks:List Cst)=>a02 (qC s).2.2.2.2.2.2.2.2.1 o1 (k:Int) (ks.map mJ) (aK x6) o2 cs rs o5)
  (P:=fun k ks=>ks.length=k/\∀ i (h:i<ks.length),Xa i ks[i]) (fun k ks hk hp => ?_) (fun ks hp => ?_) [] ⟨rfl,fun i h=>(nomatch h)⟩) fun ks hp=>⟨ks,hp.1,ng (JO hp.2.1) (by omega),hp.2.2⟩
 .obtain ⟨h1,h2⟩:=hp;have uN:k<s.ks.length:=by omega
  obtain ⟨⟨i1,i2⟩,⟨i3,i4⟩,⟨i5,i6⟩⟩:=hs.ks.2 _ (dY uN);rw[aLS,hl1,aN (by omega),aQ0 uN,show (0:Int)=((0:Nat):Int) from rfl,zW hx0,jT,iD,wrap64 (by omega) (by omega),show (x6.length:Int)-1=((x6.length-1:Nat):Int) by omega,zW (show x6.length-1<x6.length by omega),jT];rw[wrap64 (n:=(s.ks[k]).1) (by omega) (by omega),wrap64 (n:=(s.ks[k]).2.1) (by omega) (by omega),wrap64 (n:=(s.ks[k]).2.2) (by omega) (by omega),aQ (iQ (by rw[bF]; omega))];have hk2:k=0\/k=1:=by omega
  rcases hk2 with rfl | rfl
  .refine ⟨ks ++ [⟨kK 107 0,[(x6[0],(s.ks[0]).1)],(s.ks[0]).2.2⟩],by rw[qZ]; rfl,by rw[aU,h1]; rfl,?_⟩;refine aOD h2 ⟨by rw[h1],⟨by simp,by simp,fun l hl => ?_⟩,i5,i6⟩;grind
  .refine ⟨ks ++ [⟨kK 107 1,[(x6[0],(s.ks[1]).1),(x6[x6.length-1],(s.ks[1]).2.1)],(s.ks[1]).2.2⟩],by rw[qZ]; rfl,by rw[aU,h1]; rfl,?_⟩;refine aOD h2 ⟨by rw[h1],⟨by simp,by simp,fun l hl => ?_⟩,i5,i6⟩;grind
 .rw[aLS,hl1];by_cases h4:s.ks.length<=2;simp_all
  .rw[a4H (by omega),aN (by omega),aI,aQ0 (by omega),show (((2:Nat):Int)==2)=true from rfl,aI]
theorem yQ:∃ m:Mo,SS.CC 11 [A2 (qC s)] []=some (A0 (aS m),[])/\Ja m:=by
 obtain ⟨e1,e2,e3,e4,e5⟩:=hs.e;obtain ⟨es,q1,p1,p2⟩:=evM e1 e2 e3 e4 e5;obtain ⟨ts,q2,p3,p4⟩:=m4 hs;obtain ⟨z,q3,k,hk,⟨x1,x2⟩,n1,i1,d1⟩:=m11 hs;have hx:0<z.x6.length/\z.x6.length<=100/\∀ s,s∈z.x6->rH 99 4 s:=⟨by omega,by omega,x2⟩;obtain ⟨xs,q4,p5,p6⟩:=m26 hs hx;obtain ⟨ks,q5,p7,p8⟩:=m38 hs hx;refine ⟨⟨[109,111,100,101,108],es,ts,z.cs,z.rs,xs,ks⟩,?_,⟨rfl,⟨p1,p2⟩,⟨p3,p4⟩,⟨by simp_all,fun x h => ?_,d1⟩,⟨p5,p6⟩,p7,p8⟩⟩
 .rw[bDX,Gp q1,q2,q3,q4,q5]; rfl
 .have:=i1 x h;exact ⟨aRE this.n hk,this.t,this.e⟩
end
theorem aTY {v:Nat->Int}:∀ (n k:Nat),(∀ i,k<=i->i<k+n->v i=0)->CX v k n=0
 | 0,_,_=>rfl
 | n+1,k,h=>by rw[CX,h k (fK _) (by omega)];exact aTY n (k+1) fun i a b=>h i (by omega) (by omega)
theorem xC {v:Nat->Int} (h:∀ i,i<n->v i=0):qg v n=0:=aTY n 0 fun i _ b=>h i (by omega)
theorem QT {a b:Int} (ha:a=0) (hb:b=0):sq a b=0:=by subst ha; exact hb
theorem b0C {pre:List Nm} {s:Nm} (h1:nameB s=true) (h2:s∉pre):wG pre s=0:=by grind [wG]
theorem aA3 (h:l.Nodup) (hk:k<l.length):l[k]∉l.take k:=fun hm=>by obtain ⟨i,hi,e⟩:=List.mem_take_iff_getElem.1 hm;exact aE4.1 h i k (by omega) hk (by omega) e
theorem TN (f:α->Nm) {l:List α} (hd:(l.map f).Nodup) (hn:∀ x,x∈l->nameB (f x)=true) (hk:k<l.length) (d:α):wG ((l.take k).map f) (f (l.getD k d))=0:=by grind [b0C,aA3,List.map_take]
theorem Ug (f:α->Nm) {l:List α} (hl:l.length<=10) (h:∀ i (h:i<l.length),f l[i]=kK c i):(l.map f).Nodup:=by
 refine aE4.2 fun i j hi hj hij e => ?_
 rw[bF] at hi hj;rw[X8,X8,h i hi,h j hj] at e;have:=aRD (by omega) (by omega) e;omega
theorem Aa {P:Nat->α->Prop} {l:List α} (h:∀ i (h:i<l.length),P i l[i]) {x:α} (hx:x∈l):∃ i,i<l.length/\P i x:=by grind [List.getElem_of_mem]
def okC (c:UInt8):Bool:=(List.range 10).all fun k=>nameB (kK c k)
theorem VG (h:okC c=true) (hk:k<10):nameB (kK c k)=true:=by grind [okC]
theorem Px (h:okC c=true) (hb:b<=10) {s:Nm} (hs:rH c b s):nameB s=true:=by obtain ⟨k,hk,rfl⟩:=hs; grind [VG]
theorem a_9 {s:Nm} (h:NP s):nameB s=true:=by
 obtain ⟨j,hj,rfl⟩:=h;have:∀ j,j<6->nameB [97+UInt8.ofNat j]=true:=by decide
 simp_all
theorem bM' (hn:n<=10):(qV c n).Nodup:=by have:=Ug (c:=c) (fun s:Nm=>s) (l:=qV c n) (by rw[IW]; exact hn) (fun i h=>by simp[qV]);rwa [List.map_id'] at this
theorem VF {s:Nm} (h:s∈qV c n):rH c n s:=by obtain ⟨i,h1,h2⟩:=uG.1 h;exact ⟨i,XD.1 h1,h2.symm⟩
theorem aRL (hc:okC c=true) (hn:n<=10):EK (qV c n)=0:=xC fun k hk=>by have:=TN (fun s:Nm=>s) (by rw[List.map_id']; exact bM' hn) (fun x hx=>Px hc hn (VF hx)) hk [];rwa [List.map_id'] at this
theorem a'D {l:List Int} {n:Int} (h:DF l n):Sv l n=0:=xC fun k hk=>by
 have:=h.b k hk;rw[aW (by omega),aW (by omega)];by_cases h0:0<k
 .rw[aW (show ¬ l.getD k 0<=l.getD (k-1) 0 by have:=h.s k h0 hk; omega),JF]; rfl
 simp_all
theorem aXM (n:Nat):Nz (Es n)=0:=xC fun k hk=>by simp_all
theorem bVO {pre:List Vr} {v:Vr} (h:Jb i v) (hi:i<10) (hp:v.n∉pre.map (·.n)):Wn pre v=0:=by obtain ⟨h1,h2,h3,h4,h5⟩:=h;unfold Wn big;rw[show nameB v.n=true by rw[h1]; exact VG (by decide) hi,aW hp,aW (show ¬ 65536<v.lo by omega),aW (show ¬ v.lo < -65536 by omega),aW (show ¬ 65536<v.hi by omega),aW (show ¬ v.hi < -65536 by omega),aW (by omega),aW (by omega),aW (by omega)];rfl
theorem a'H {vs:List Vr} (hl:vs.length<=3) (h:∀ i (h:i<vs.length),Jb i vs[i]):Jl vs=0:=by
 have hd:=Ug (fun v:Vr=>v.n) (by omega) fun i hi=>(h i hi).n
 grind [Jl,xC,aA3,List.map_take,bVO]
theorem bRK {vs:List Vr} (hl:vs.length<=3) (h:∀ i (h:i<vs.length),Jb i vs[i]):rsE vs=0:=xC fun k hk=>by rw[gD hk];unfold rvE;rw[(h k hk).n];simp
theorem aMV {k:Int} {x:EX} (h:NT nv k x) (hn:nv<=16):zt x nv k=0:=bU9 h.t (by omega) (by omega) (by have:=h.d; omega) (by have:=h.s; omega)
theorem bVI {us:List (Int×EX)} (h:Xl nv nv us) (hn:nv<=16):usE nv us=0:=xC fun k hk=>by
 have hk':k<(us.map (·.1)).length:=by rw[bF]; exact hk
 have hb:=h.i.b k hk';unfold MP;rw[gD hk'] at hb;rw[X8] at hb;rw[gD hk,aW (by omega),aW (by omega),aMV (h.e _ (dY hk)) hn];by_cases h0:0<k
 .have hs:=h.i.s k h0 hk';rw[gD hk',gD (show k-1<(us.map (·.1)).length by omega),X8,X8] at hs;rw[gD (show k-1<us.length by omega),aW (show ¬ us[k].1<=us[k-1].1 by omega),JF]; rfl
 simp_all
theorem bMQ {nl ne:Nat} {x:Mv} (h:Nh nl ne nv x) (hn:nv<=16):Po nl ne nv x=0:=by obtain ⟨h1,h2,h3,h4,h5⟩:=h;grind [Po,QT,aMV,bVI]
theorem bTW (h:En t):GR t=0:=by
 obtain ⟨⟨nl,l1,l2,l3⟩,⟨ne,n1,n2,n3⟩,hL,hI,⟨m1,m2⟩,⟨v1,v2⟩,s1,s2⟩:=h;have e1:EK t.es=0:=by rw[n2]; exact aRL (by decide) (by omega)
 have e2:EK t.ls=0:=by rw[l3]; exact aRL (by decide) (by omega)
 have e3:(t.al.length:Int)=(t.es.length:Int):=by rw[n3,n2,IW]; simp
 have e4:Nz t.al=0:=by rw[n3]; exact aXM _
 have e5:VA (t.ls.length:Int) (t.es.length:Int) (t.vs.length:Int) t.ms=0:=xC fun k hk=>by grind [bMQ]
 unfold GR;rw[e1,e2,show ((t.al.length:Int) !=(t.es.length:Int))=false by rw[e3]; simp,show (t.L !=(t.ls.length:Int))=false by rw[hL]; simp,aW (show ¬ t.I<0 by omega),aW (show ¬ Pq (t.ls.length:Int)<=t.I by grind [Pq]),e4,a'D m1,a'H v1 v2,bRK v1 v2,e5];rfl
theorem bN1 (h:∀ s,s∈l->nameB s=true):a2B l=0:=xC fun k hk=>by rw[gD hk,h _ (dY hk)]; rfl
theorem Si (h:Ja m):DW m=0:=by
 obtain ⟨hn,⟨e1,e2⟩,⟨t1,t2⟩,⟨i1,i2,i3⟩,⟨x1,x2⟩,k1,k2⟩:=h;have el:m.es.length=5:=by rw[<- bF,e1]; rfl
 have a1:Nw m.es=0:=by
  unfold Nw;rw[aW (by omega)];refine xC fun k hk => ?_
  have hd:(m.es.map (·.n)).Nodup:=by rw[e1]; decide
  have hm:=aA3 hd (by rw[bF]; exact hk);have hb:nameB (m.es[k]).n=true:=by
   have hh:∀ s:Nm,s ∈ [[97],[98],[99],[100],[101]]->nameB s=true:=by decide
   grind
  obtain ⟨hk1,hf⟩:=e2 _ (dY hk);rw[<- XA] at hm;grind [evE]
 have a2:WH m.ts=0:=xC fun k hk=>by have:=TN (fun t:Tm=>t.n) (Ug _ (by omega) fun i hi=>(t2 i hi).1) (fun x hx=>by obtain ⟨i,h1,h2⟩:=Aa (P:=fun i (t:Tm)=>t.n=kK 116 i/\En t) t2 hx;rw[h2.1]; exact VG (by decide) (by omega)) hk dT;refine QT this ?_;rw[gD hk]; exact bTW (t2 k hk).2
 have a3:Ub (m.cs ++ m.rs)=0:=xC fun k hk=>by
  refine QT (TN (fun x:Ins=>x.n) i3 (fun x hx=>Px (by decide) (by omega) (i2 x hx).n) hk dI) ?_;rw[gD hk];obtain ⟨q1,q2,q3⟩:=i2 _ (dY hk);refine bN1 fun s hs => ?_
  rw[kG] at hs;rcases hs with rfl | hs
  .exact Px (by decide) (by omega) q2
  grind [a_9]
 have a4:X5 m.xs=0:=xC fun k hk=>by
  refine QT (TN (fun x:pI=>x.n) (Ug _ (by omega) fun i hi=>(x2 i hi).n) (fun x hx=>by obtain ⟨i,h1,h2⟩:=Aa x2 hx;rw[h2.n]; exact VG (by decide) (by omega)) hk dX) ?_;rw[gD hk];obtain ⟨q1,q2,q3,q4⟩:=x2 k hk;rw[show (((m.xs[k]).ls.length:Int)==0)=false by rw[qc]; omega];refine xC fun j hj => ?_
  rw[gD hj];obtain ⟨r1,r2⟩:=q4 _ (dY hj);unfold lcE;rw[Px (by decide) (by omega) r1,Px (by decide) (by omega) r2]; rfl
 have a5:Ul m.ks=0:=xC fun k hk=>by
  refine QT (TN (fun x:Cst=>x.n) (Ug _ (by omega) fun i hi=>(k2 i hi).n) (fun x hx=>by obtain ⟨i,h1,h2⟩:=Aa k2 hx;rw[h2.n]; exact VG (by decide) (by omega)) hk dK) ?_;rw[gD hk];obtain ⟨q1,⟨q2,q3,q4⟩,q5,q6⟩:=k2 k hk;rw[show (((m.ks[k]).ts.length:Int)==0)=false by rw[qc]; omega];refine QT (xC fun j hj => ?_) ?_
  .rw[gD hj];obtain ⟨r1,r2,r3⟩:=q4 _ (dY hj);unfold trE;rw[Px (by decide) (by omega) r1,aW (by omega),aW (by omega)]; rfl
  grind [H7]
 unfold DW;rw[a1,a2,a3,a4,a5,aW (by omega),aW (by omega),aW (by omega),aW (by omega),aW (by omega),hn];rfl
theorem EJ {s:Nm} (h:rH c b s):s.length=2:=by obtain ⟨k,_,rfl⟩:=h; rfl
theorem aHB {s:Nm} (h:NP s):s.length=1:=by obtain ⟨j,_,rfl⟩:=h; rfl
theorem VM (h:Ja m):mY m:=by
 obtain ⟨hn,⟨e1,e2⟩,⟨t1,t2⟩,⟨i1,i2,i3⟩,⟨x1,x2⟩,k1,k2⟩:=h;have el:m.es.length=5:=by rw[<- bF,e1]; rfl
 refine ⟨by rw[hn]; decide,⟨by omega,fun e he => ?_⟩,⟨by omega,fun t ht => ?_⟩,⟨by omega,by omega,fun x hx => ?_⟩,⟨by omega,fun x hx => ?_⟩,⟨by omega,fun x hx => ?_⟩⟩
 .have:e.n∈m.es.map (·.n):=uG.2 ⟨_,he,rfl⟩;grind
 .obtain ⟨i,h1,h2,h3⟩:=Aa (P:=fun i (t:Tm)=>t.n=kK 116 i/\En t) t2 ht;refine ⟨by rw[h2]; simp,?_⟩;obtain ⟨⟨nl,l1,l2,l3⟩,⟨ne,n1,n2,n3⟩,hL,hI,⟨m1,m2⟩,⟨v1,v2⟩,s1,s2⟩:=h3;refine ⟨⟨by rw[l3,IW]; omega,fun s hs => ?_⟩,⟨by rw[n2,IW]; omega,fun s hs => ?_⟩,by rw[n3]; simp; omega,by omega,⟨by omega,fun v hv => ?_⟩,⟨by omega,fun x hx => ?_⟩⟩
  .rw[l3] at hs; rw[EJ (VF hs)]; decide
  .rw[n2] at hs; rw[EJ (VF hs)]; decide
  .obtain ⟨j,_,q⟩:=Aa v2 hv;obtain ⟨q1,q2,q3,q4,q5⟩:=q;grind
  .obtain ⟨_,_,_,g,u1,_,u3⟩:=s2 x hx;exact ⟨a3V g.t (by omega),by omega,fun u hu=>a3V (u3 u hu).t (by omega)⟩
 .obtain ⟨q1,q2,q3,q4⟩:=i2 x hx;grind [EJ,aHB]
 .obtain ⟨i,h1,h2,h3,h4,h5⟩:=Aa x2 hx;grind [EJ]
 .obtain ⟨i,h1,h2,⟨h3,h4,h5⟩,h6⟩:=Aa k2 hx;grind [EJ]
theorem a8Q {b:Prop} [Decidable b] {A:List Tok} (h:jw A<=n):jw (if b then A else [])<=n:=by grind [yK]
theorem aOJ {b:Prop} [Decidable b] {A:List Tok} (h:jw A<=n):jw (if b then [] else A)<=n:=by grind [yK]
theorem xN (s:Nm) (T:List Tok):jw (tW s::T)=s.length+1+jw T:=by rw[jw]
theorem zU (s:Nm) (T:List Tok):jw (tS s::T)=s.length+1+jw T:=by rw[jw]
theorem a_G {e:lM} (h:XO e) (hn:e.n.length=1):jw (ql e)<=60:=by have n1:=VI (v:=e.k) (by have:=h.k; omega) (by have:=h.k; omega);unfold ql;have a1:=a8Q (b:=e.c) (A := [tW [99,111,110,116,114,111,108,108,97,98,108,101]]) (n:=13) (by decide);have a2:=a8Q (b:=e.o) (A := [tW [111,98,115,101,114,118,97,98,108,101]]) (n:=11) (by decide);have a3:=a8Q (b:=e.f) (A := [tW [102,111,114,99,105,98,108,101]]) (n:=10) (by decide);grind [o9,xN,zU]
theorem aRG (h:∀ s,s∈l->s.length<=b) (hl:l.length<=3):jw (tV l)<=4+3*(b+3):=by unfold tV;have:=Ui (tS [44]) (b+3) (l.map fun s => [tW s]) (fun a ha=>by grind [xN,yK]);rw[zU,o9,zU,yK];have h2:l.length*(b+3)<=3*(b+3):=vY _ hl;grind
theorem aNR {x:Ins} {w:Nm} (hw:w.length<=11) (h:Na 4 x):jw (inT w x)<=40:=by obtain ⟨q1,q2,q3,q4⟩:=h;have:=aRG (b:=1) (fun s hs=>by rw[aHB (q4 s hs)]; decide) q3;grind [inT,o9,xN,zU,yK,EJ]
theorem bWF {x:pI} (h:Rw i x):jw (rC x)<=40:=by obtain ⟨q1,q2,q3,q4⟩:=h;have:=Ui (tS [44]) 8 (x.ls.map fun l => [tW l.1,tW l.2]) (fun a ha=>by grind [xN,yK,EJ]);grind [rC,o9,xN,zU,List.length_cons]
theorem bL1 {x:Cst} (h:Xa i x):jw (pO x)<=60:=by obtain ⟨q1,⟨q2,q3,q4⟩,q5,q6⟩:=h;have nb:=VI (v:=x.b) (by omega) (by omega);have:=Ui (tS [43]) 13 (x.ts.map fun l=>dO l.2 ++ [tS [42],tW l.1]) (fun a ha=>by grind [VI,o9,zU,xN,yK,EJ]);grind [pO,o9,xN,zU,List.length_cons]
theorem bVM {v:Vr} (h:Jb i v):jw (pF v)<=36:=by obtain ⟨q1,q2,q3,q4,q5⟩:=h;grind [VI,pF,o9,xN,zU]
theorem aHO {ns:List Nm} (hn:ns.length<=16) (hns:∀ s,s∈ns->s.length<=2) {k:Int} {x:EX} (h:NT (ns.length:Int) k x):jw (ut ns x)<=756:=by have hg:rF ns.length x:=⟨a3V h.t (by omega),aVN h.t,by have:=h.s; omega⟩;have:=bPK hns (OO hg).1 h.t;have:=h.s;omega
theorem aPW (I:Int) (mr:List Int):∀ (l:List Nm) (i:Nat),(∀ s,s∈l->s.length=2)->jw (wI I mr i l)<=l.length*30
 | [],i,_=>by rw[wI,yK]; omega
 | s::l,i,h=>by
  have h2:=aPW I mr l (i+1) fun x hx=>h x (by simp[hx])
  rw[wI];grind [Ac,xN,zU,List.length_cons]
theorem bMO (h1:∀ s,s∈t.ls->s.length=2) (h2:∀ s,s∈t.es->s.length=2) (hv:t.vs.length<=3) (h3:∀ v,v∈t.vs->v.n.length=2) {x:Mv} (h:Nh t.ls.length t.es.length t.vs.length x):jw (mF t x)<=3100:=by
 obtain ⟨p1,p2,p3,g,u1,u2,u3⟩:=h;have hv1:(t.vs.map (·.n)).length=t.vs.length:=bF _;have hns:∀ s,s∈t.vs.map (·.n)->s.length=2:=fun s hs=>by grind
 have aNI:∀ s,s∈t.vs.map (·.n)->s.length<=2:=fun s hs=>JO (hns s hs)
 have b4:=aHO (by omega) aNI (by rw[hv1]; exact g);have b5:=Ui (tS [44]) 764 (x.us.map (kY (t.vs.map (·.n)))) (fun a ha=>by obtain ⟨u,hu,rfl⟩:=uG.1 ha;have:=aHO (by omega) aNI (k:=1) (x:=u.2) (by grind);grind [kY,xN,zU]);have a1:=aOJ (b:=fH x.g tE=true) (A:=tW [119,104,101,110]::ut (t.vs.map (·.n)) x.g) (n:=761) (by rw[xN]; grind);have a2:=aOJ (b:=x.us = []) (A:=tW [100,111]::gq (tS [44]) (x.us.map (kY (t.vs.map (·.n))))) (n:=2295) (by rw[xN]; grind);grind [mF,o9,xN,zU]
theorem bTU (hn:t.n.length=2) (h:En t):jw (lF t)<=12800:=by
 obtain ⟨⟨nl,l1,l2,l3⟩,⟨ne,n1,n2,n3⟩,hL,hI,⟨m1,m2⟩,⟨v1,v2⟩,s1,s2⟩:=h;have hl:∀ s,s∈t.ls->s.length=2:=fun s hs=>by rw[l3] at hs; exact EJ (VF hs)
 have he:∀ s,s∈t.es->s.length=2:=fun s hs=>by rw[n2] at hs; exact EJ (VF hs)
 have hv:∀ v,v∈t.vs->v.n.length=2:=fun v hv=>by obtain ⟨j,_,q⟩:=Aa v2 hv;rw[q.n]; rfl
 have c1:=aRG (fun s hs=>JO (he s hs)) (by rw[n2,IW]; omega);have c2:=aPW t.I t.mr t.ls 0 hl;have ell:t.ls.length<=4:=by rw[l3,IW]; omega
 have c3:=FO pF 36 t.vs fun v hv=>by obtain ⟨j,_,q⟩:=Aa v2 hv;exact bVM q
 have c4:=FO (mF t) 3100 t.ms fun x hx=>bMO hl he v1 hv (s2 x hx)
 grind [lF,o9,xN,zU,List.length_cons]
theorem aA0 (h:Ja m):(joinL (kz m)).length<=30000:=by
 obtain ⟨hn,⟨e1,e2⟩,⟨t1,t2⟩,⟨i1,i2,i3⟩,⟨x1,x2⟩,k1,k2⟩:=h;have el:m.es.length=5:=by rw[<- bF,e1]; rfl
 have c1:=FO ql 60 m.es fun e he=>a_G (e2 e he) (by have:e.n∈m.es.map (·.n):=uG.2 ⟨_,he,rfl⟩;grind)
 have c2:=FO lF 12800 m.ts fun t ht=>by obtain ⟨i,h1,h2,h3⟩:=Aa (P:=fun i (t:Tm)=>t.n=kK 116 i/\En t) t2 ht;grind [bTU]
 have c3:=FO (inT wC) 40 m.cs fun x hx=>aNR (by decide) (i2 x (XB _ hx))
 have c4:=FO (inT wR) 40 m.rs fun x hx=>aNR (by decide) (i2 x (XC _ hx))
 have c5:=FO rC 40 m.xs fun x hx=>by obtain ⟨i,_,q⟩:=Aa x2 hx;exact bWF q
 have c6:=FO pO 60 m.ks fun x hx=>by obtain ⟨i,_,q⟩:=Aa k2 hx;exact bL1 q
 grind [aOG,kz,o9,xN,zU]
theorem aEF {a:bZZ} {x1:Sh.V S0} {n2:Int} {n3:Int} {n4:Int} {K:RS.F (.t [(true,S0),(false,[.I .i64]),(false,[.I .i64]),(false,[.I .i64])]) R} (e:SS.CC g a []=some (.tuple [A0 x1,bZV n2,bZV n3,bZV n4],[])):G9 g a K=K (x1,(n2,()),(n3,()),(n4,()),()):=uK e rfl
theorem Gq {a:bZZ} {K:RS.F (.tb) (dm [.c eH,.c aH])} (e:SS.CC g a h=some (.bool b1,[au y2,aB y3])):RX g a h K=K b1 y2 y3:=fZ e rfl
theorem JX {a:bZZ} {y1:Sh.V bn} {y2:Sh.V iP} {K:RS.F (.t []) (dm [.c bn,.c iP,.c aH])} (e:SS.CC g a h=some (.tuple [],[aY y1,bJ y2,aB y3])):Gs g a h K=K () y1 y2 y3:=fZ e rfl
theorem aEQ {a:bZZ} {K:RS.F (.tb) (dm [.z Xh])} (e:SS.CC g a h=some (.bool b1,[some [.func (.func 82) [] []]])):H27 g a h K=K b1:=fZ e rfl
theorem NY {a:bZZ} {y1:Sh.V AC} {y2:Sh.V iP} {K:RS.F (.t []) (dm [.z lu,.z ja,.c AC,.c iP,.c aH])} (e:SS.CC g a h=some (.tuple [],[some [.ptr 2 0],some [.ptr 3 0],kR y1,bJ y2,aB y3])):JY g a h K=K () y1 y2 y3:=fZ e rfl
theorem Ei {a:bZZ} {s1:bZY} {K:RS.F (.ts) (dm [.c eH,.c aH])} (e:SS.CC g a h=some (.str s1,[au y2,aB y3])):D9 g a h K=K s1 y2 y3:=fZ e rfl
theorem aWU {a:bZZ} {y1:Sh.V gY} {y2:Sh.V gW} {K:RS.F (.t []) (dm [.c gY,.c gW,.z ku,.c aH])} (e:SS.CC g a h=some (.tuple [],[fV y1,fM y2,some [bZX],aB y3])):H83 g a h K=K () y1 y2 y3:=fZ e rfl
theorem aF0 {a:bZZ} {y1:Sh.V gY} {y2:Sh.V mZ} {K:RS.F (.t []) (dm [.c gY,.c mZ,.z ku,.c aH])} (e:SS.CC g a h=some (.tuple [],[fV y1,nK y2,some [bZX],aB y3])):H84 g a h K=K () y1 y2 y3:=fZ e rfl
theorem DC {a:bZZ} {n1:Int} {K:RS.F (.ti .i64) (dm [.c eH,.c aH])} (e:SS.CC g a h=some (bZV n1,[au y2,aB y3])):BK g a h K=K n1 y2 y3:=fZ e rfl
theorem aWV {a:bZZ} {y2:Sh.V sU} {y3:Sh.V jh} {K:RS.F (.t []) (dm [.c aH,.z ja,.c sU,.c jh])} (e:SS.CC g a h=some (.tuple [],[aB y1,some [.ptr 3 0],vg y2,kH y3])):H86 g a h K=K () y1 y2 y3:=fZ e rfl
theorem aEI {a:bZZ} {y1:Sh.V sU} {y2:Sh.V gY} {K:RS.F (.t []) (dm [.z lu,.c sU,.c gY,.c aH])} (e:SS.CC g a h=some (.tuple [],[some [.ptr 2 0],vg y1,fV y2,aB y3])):a4N g a h K=K () y1 y2 y3:=fZ e rfl
theorem aEX {a:bZZ} {K:RS.F (.tb) (dm [.z Xi])} (e:SS.CC g a h=some (.bool b1,[some [.func (.func 179) [] []]])):H62 g a h K=K b1:=fZ e rfl
theorem aWT {a:bZZ} {y1:Sh.V gY} {y2:Sh.V gW} {y3:Sh.V BO} {y4:Sh.V aH} {K:RS.F (.t []) (dm [.c gY,.c gW,.c BO,.c aH])} (e:SS.CC g a h=some (.tuple [],[fV y1,fM y2,nM y3,aB y4])):H80 g a h K=K () y1 y2 y3 y4:=fZ e rfl
theorem aE' {a:bZZ} {y1:Sh.V bn} {y2:Sh.V gW} {K:RS.F (.t []) (dm [.c bn,.c gW,.c aH])} (e:SS.CC g a h=some (.tuple [],[aY y1,fM y2,aB y3])):H81 g a h K=K () y1 y2 y3:=fZ e rfl
theorem aWW {a:bZZ} {l1:bZZ} {K:RS.F (.tl false 1) (dm [.c eH,.c aH])} (e:SS.CC g a h=some (bZW l1,[au y2,aB y3])):H87 g a h K=K l1 y2 y3:=fZ e rfl
theorem aWX {a:bZZ} {y2:Sh.V gW} {y3:Sh.V jh} {K:RS.F (.t []) (dm [.c aH,.c gW,.z ja,.c jh])} (e:SS.CC g a h=some (.tuple [],[aB y1,fM y2,some [.ptr 3 0],kH y3])):H97 g a h K=K () y1 y2 y3:=fZ e rfl
theorem aWY {a:bZZ} {y2:Sh.V rM} {y3:Sh.V jh} {K:RS.F (.t []) (dm [.c aH,.z ja,.c rM,.c jh])} (e:SS.CC g a h=some (.tuple [],[aB y1,some [.ptr 3 0],sS y2,kH y3])):H98 g a h K=K () y1 y2 y3:=fZ e rfl
theorem zC {a:bZZ} {K:RS.F (.g S1) (dm [.c eH,.c aH])} (e:SS.CC g a h=some (A1 x1,[au y2,aB y3])):zB g a h K=K x1 y2 y3:=fZ e rfl
theorem aWH {a:bZZ} {y2:Sh.V mZ} {y3:Sh.V jh} {K:RS.F (.t []) (dm [.c aH,.c mZ,.z ja,.c jh])} (e:SS.CC g a h=some (.tuple [],[aB y1,nK y2,some [.ptr 3 0],kH y3])):aEH g a h K=K () y1 y2 y3:=fZ e rfl
theorem aWI {a:bZZ} {l1:bZZ} {y2:Sh.V bn} {K:RS.F (.tl false 1) (dm [.z lq,.c bn,.c aH])} (e:SS.CC g a h=some (bZW l1,[some [.ptr 1 0],aY y2,aB y3])):aEJ g a h K=K l1 y2 y3:=fZ e rfl
theorem aEK {a:bZZ} {y1:Sh.V gW} {y2:Sh.V gY} {K:RS.F (.t []) (dm [.c gW,.z lu,.c gY,.c aH])} (e:SS.CC g a h=some (.tuple [],[fM y1,some [.ptr 2 0],fV y2,aB y3])):a4O g a h K=K () y1 y2 y3:=fZ e rfl
theorem aEL {a:bZZ} {y1:Sh.V rM} {y2:Sh.V gY} {K:RS.F (.t []) (dm [.z lu,.c rM,.c gY,.c aH])} (e:SS.CC g a h=some (.tuple [],[some [.ptr 2 0],sS y1,fV y2,aB y3])):a4P g a h K=K () y1 y2 y3:=fZ e rfl
theorem aEM {a:bZZ} {y1:Sh.V mZ} {y2:Sh.V gY} {K:RS.F (.t []) (dm [.c mZ,.z lu,.c gY,.c aH])} (e:SS.CC g a h=some (.tuple [],[nK y1,some [.ptr 2 0],fV y2,aB y3])):a4Q g a h K=K () y1 y2 y3:=fZ e rfl
theorem a4R {a:bZZ} {y2:Sh.V bn} {K:RS.F (.tb) (dm [.z lq,.c bn,.c aH])} (e:SS.CC g a h=some (.bool b1,[some [.ptr 1 0],aY y2,aB y3])):RQ g a h K=K b1 y2 y3:=fZ e rfl
theorem aEO {a:bZZ} {n1:Int} {n2:Bool} {n3:Bool} {y4:Sh.V eH} {y5:Sh.V aH} {K:RS.F (.t [(false,[.I .i64]),(false,[.B]),(false,[.B])]) (dm [.c eH,.c aH])} (e:SS.CC g a h=some (.tuple [bZV n1,.bool n2,.bool n3],[au y4,aB y5])):aEN g a h K=K ((n1,()),(n2,()),(n3,()),()) y4 y5:=fZ e rfl
theorem XU {a:bZZ} {y2:Sh.V bn} {K:RS.F (.g S1) (dm [.c bn,.z ku,.c aH])} (e:SS.CC g a h=some (A1 x1,[aY y2,some [bZX],aB y3])):NV g a h K=K x1 y2 y3:=fZ e rfl
theorem aWJ {a:bZZ} {y2:Sh.V bn} {K:RS.F (.g S1) (dm [.z lq,.c bn,.c aH])} (e:SS.CC g a h=some (A1 x1,[some [.ptr 1 0],aY y2,aB y3])):RU g a h K=K x1 y2 y3:=fZ e rfl
theorem aWK {a:bZZ} {y1:Sh.V bn} {y2:Sh.V aH} {K:RS.F (.t []) (dm [.z lq,.c bn,.c aH])} (e:SS.CC g a h=some (.tuple [],[some [.ptr 1 0],aY y1,aB y2])):RV g a h K=K () y1 y2:=fZ e rfl
section
theorem aIB (h0:Sh.V eH) (h1:Sh.V aH):SS.CC 106 [bZX] [au h0,aB h1]=zB 181 [bZX,bZV 1] [au h0,aB h1] fun u1 u5 u7=>jY 143 [bZX,.str ⟨#[63]⟩] [aB u7] fun b13 u14=>aA (!b13) (some (A1 u1,[au u5,aB u14])) (zB 106 [bZX] [au u5,aB u14] fun u20 u24 u26=>eX 32 [bZX,.str ⟨#[58]⟩] [aB u26] fun _ u32=>zB 106 [bZX] [au u24,aB u32] fun u38 u42 u44=>some (A1 (13,0,0,[A1 u1,A1 u20,A1 u38],()),[au u42,aB u44])):=cc
def b89:KT:=SS.rK Tryz.f181 181 2 []
def aK5:KT:=ak 0 b89
def b8A:KT:=SS.lK 181 48 2 [0,1,4,5] 4 (cS Tryz.f181 39) aK5
def b8B:KT:=ak 1 b8A
def KH (x1:Int) (q0:Sh.V eH) (q1:Sh.V aH) (q3:Sh.V S1):R:=SS.LL (SS.ae 181 48) 2 [0,1,4,5] 4 (cS Tryz.f181 39) aK5 ⟨[(0,bZX),(1,bZV x1),(4,.ptr 2 0),(5,.ptr 3 0)],[au q0,aB q1,Xe (0,0,0,[],()),O1 q3]⟩
def a6Z (x1:Int) (x6:Int) (q0:Sh.V eH) (q1:Sh.V aH) (q3:Sh.V S1) (x9:bZZ):R:=bH (SS.xX 181 48 2) (cS Tryz.f181 4039) b8B ⟨[(0,bZX),(1,bZV x1),(4,.ptr 2 0),(5,.ptr 3 0),(6,bZV x6),(9,.sl false 4 x9)],[au q0,aB q1,Xe (0,0,0,[],()),O1 q3]⟩
theorem aK6 (x1:Int) (q0:Sh.V eH) (q1:Sh.V aH) (q3:Sh.V S1):KH x1 q0 q1 q3=aEN 246 [bZX,bZV x1] [au q0,aB q1] fun u1 u4 u6=>aA (!u1.2.2.1.1) (some (A1 q3,[au u4,aB u6])) (jv 144 [bZX] [aB u6] fun u12 wV=>zB 181 [bZX,bZV (i64.wrap (x1+1))] [au u4,aB wV] fun u23 u27 u29=>aA u1.2.1.1 (chk (([bZV q3.1,bZV q3.2.1,bZV q3.2.2.1,.sl false 4 q3.2.2.2.1,bZV u23.1,bZV u23.2.1,bZV u23.2.2.1,.sl false 4 u23.2.2.2.1]:bZZ).all pW&&true) (H53 247 [.slh 0 0 2 4] [some [bZV q3.1,bZV q3.2.1,bZV q3.2.2.1,.sl false 4 q3.2.2.2.1,bZV u23.1,bZV u23.2.1,bZV u23.2.2.1,.sl false 4 u23.2.2.2.1]] fun _ l35=>chk (l35.all pW&&true) (chk (decide (2*4<=l35.length)&&decide (0<4)&&l35.all fun p=>p.one&&p.flat) (a6Z x1 u1.1.1 u27 u29 q3 (lT 4 l35 2))))) (chk (decide (2*4<=([bZV q3.1,bZV q3.2.1,bZV q3.2.2.1,.sl false 4 q3.2.2.2.1,bZV u23.1,bZV u23.2.1,bZV u23.2.2.1,.sl false 4 u23.2.2.2.1]:bZZ).length)&&decide (0<4)&&([bZV q3.1,bZV q3.2.1,bZV q3.2.2.1,.sl false 4 q3.2.2.2.1,bZV u23.1,bZV u23.2.1,bZV u23.2.2.1,.sl false 4 u23.2.2.2.1]:bZZ).all fun p=>p.one&&p.flat) (a6Z x1 u1.1.1 u27 u29 q3 (lT 4 ([bZV q3.1,bZV q3.2.1,bZV q3.2.2.1,.sl false 4 q3.2.2.2.1,bZV u23.1,bZV u23.2.1,bZV u23.2.2.1,.sl false 4 u23.2.2.2.1]:bZZ) 2)))):=ll
theorem b88 (x1:Int) (x6:Int) (q0:Sh.V eH) (q1:Sh.V aH) (q3:Sh.V S1) (x9:bZZ):a6Z x1 x6 q0 q1 q3 x9=aA (x1==3) (some (A1 (x6,0,0,x9,()),[au q0,aB q1])) (KH x1 q0 q1 (x6,0,0,x9,())):=by kernel_rfl
theorem a7A (a1:Int) (h0:Sh.V eH) (h1:Sh.V aH):SS.CC 181 [bZX,bZV a1] [au h0,aB h1]=aA (a1==6) (zB 245 [bZX] [au h0,aB h1] fun u1 u5 u7=>some (A1 u1,[au u5,aB u7])) (zB 181 [bZX,bZV (i64.wrap (a1+1))] [au h0,aB h1] fun u13 wV uD=>KH a1 wV uD u13):=cc
def bAH:KT:=SS.rK Tryz.f245 245 2 []
def a7F (q0:Sh.V eH) (q1:Sh.V aH):R:=bH (SS.xX 245 74 2) (cS Tryz.f245 7) bAH ⟨[(1,.ptr 2 0),(2,.ptr 3 0)],[au q0,aB q1,some [bZX],Xe (0,0,0,[],())]⟩
theorem bAG (q0:Sh.V eH) (q1:Sh.V aH):a7F q0 q1=BK 286 [bZX,bZW q0.2.1] [au q0,aB q1] fun n1 u2 u4=>some (A1 (1,0,n1,[],()),[au u2,aB u4]):=by kernel_rfl
theorem Hw (h0:Sh.V eH) (h1:Sh.V aH):SS.CC 245 [bZX] [au h0,aB h1]=jY 193 [bZX,.str ⟨#[33]⟩] [aB h1] fun b1 u2=>aA b1 (jv 35 [bZX] [aB u2] fun u8 u13=>aA (u8.1==3) (NV 288 [bZX,.func (.func 289) [] [.ptr 1 0]] [aY h0,some [bZX],aB u13] fun uD u23 u25=>some (A1 uD,[au u23,aB u25])) (jY 193 [bZX,.str ⟨#[45]⟩] [aB u13] fun b31 u32=>aA b31 (NV 288 [bZX,.func (.func 290) [] [.ptr 1 0]] [aY h0,some [bZX],aB u32] fun u38 u42 u44=>some (A1 u38,[au u42,aB u44])) (jY 193 [bZX,.str ⟨#[40]⟩] [aB u32] fun b50 u51=>aA b50 (NV 288 [bZX,.func (.func 291) [] [.ptr 1 0]] [aY h0,some [bZX],aB u51] fun MN u61 u63=>some (A1 MN,[au u61,aB u63])) (jv 35 [bZX] [aB u51] fun u69 u74=>aA (u69.1==2) (NZ 226 [bZX,bZV 0,bZV 65536] [aB u74] fun n80 Wh=>some (A1 (0,n80,0,[],()),[au h0,aB Wh])) (jY 143 [bZX,.str ⟨#[116,114,117,101]⟩] [aB u74] fun b87 u88=>aA b87 (qM 133 [] fun u94=>some (A1 u94,[au h0,aB u88])) (jY 143 [bZX,.str ⟨#[102,97,108,115,101]⟩] [aB u88] fun b99 a3W=>aA b99 (qM 187 [] fun WJ=>some (A1 WJ,[au h0,aB a3W])) (a7F h0 a3W))))))) (jY 193 [bZX,.str ⟨#[45]⟩] [aB u2] fun aY5 aD6=>aA aY5 (NV 288 [bZX,.func (.func 290) [] [.ptr 1 0]] [aY h0,some [bZX],aB aD6] fun aD8 bUC u124=>some (A1 aD8,[au bUC,aB u124])) (jY 193 [bZX,.str ⟨#[40]⟩] [aB aD6] fun aY6 u131=>aA aY6 (NV 288 [bZX,.func (.func 291) [] [.ptr 1 0]] [aY h0,some [bZX],aB u131] fun bUF WS bUH=>some (A1 bUF,[au WS,aB bUH])) (jv 35 [bZX] [aB u131] fun bUI u154=>aA (bUI.1==2) (NZ 226 [bZX,bZV 0,bZV 65536] [aB u154] fun n160 aDE=>some (A1 (0,n160,0,[],()),[au h0,aB aDE])) (jY 143 [bZX,.str ⟨#[116,114,117,101]⟩] [aB u154] fun aY7 Qg=>aA aY7 (qM 133 [] fun WY=>some (A1 WY,[au h0,aB Qg])) (jY 143 [bZX,.str ⟨#[102,97,108,115,101]⟩] [aB Qg] fun aY8 Qh=>aA aY8 (qM 187 [] fun aDH=>some (A1 aDH,[au h0,aB Qh])) (a7F h0 Qh)))))):=cc
theorem bAI (a1:Int) (h0:Sh.V eH) (h1:Sh.V aH):SS.CC 246 [bZX,bZV a1] [au h0,aB h1]=jv 35 [bZX] [aB h1] fun u1 u6=>aA (u1.1 != 3) (some (.tuple [bZV 0,.bool false,.bool false],[au h0,aB u6])) (IP none [.str ⟨#[33,61]⟩,qL (3,7,false,()),.str ⟨#[38,38]⟩,qL (2,11,false,()),.str ⟨#[42]⟩,qL (5,4,false,()),.str ⟨#[43]⟩,qL (4,2,false,()),.str ⟨#[45]⟩,qL (4,3,false,()),.str ⟨#[60]⟩,qL (3,8,false,()),.str ⟨#[60,61]⟩,qL (3,9,false,()),.str ⟨#[61,61]⟩,qL (3,6,false,()),.str ⟨#[62]⟩,qL (3,8,true,()),.str ⟨#[62,61]⟩,qL (3,9,true,()),.str ⟨#[124,124]⟩,qL (1,12,false,())] (.str u1.2.1) (fun e12=>Dw Xj e12 fun u13=>some (.tuple [bZV u13.2.1,.bool u13.2.2.1,.bool (u13.1==a1)],[au h0,aB u6])) (some (.tuple [bZV 0,.bool false,.bool false],[au h0,aB u6]))):=cc
theorem bCO (h0:Sh.V bn) (h2:Sh.V aH):SS.CC 288 [bZX,.func (.func 289) [] [.ptr 1 0]] [aY h0,some [bZX],aB h2]=aA (h0.1==32) (eX 37 [bZX,bZV 3] [aB h2] fun _ u1=>some (A1 (0,0,0,[],()),[aY h0,some [bZX],aB u1])) (jv 144 [bZX] [aB h2] fun u7 u12=>RU 289 [bZX] [some [.ptr 1 0],aY (i64.wrap (h0.1+1),h0.2.1,()),aB u12] fun lG u22 u24=>RV 304 [bZX] [some [.ptr 1 0],aY u22,aB u24] fun _ u30 u32=>some (A1 lG,[aY u30,some [bZX],aB u32])):=cc
theorem aL9 (h0:Sh.V bn) (h2:Sh.V aH):SS.CC 288 [bZX,.func (.func 290) [] [.ptr 1 0]] [aY h0,some [bZX],aB h2]=aA (h0.1==32) (eX 37 [bZX,bZV 3] [aB h2] fun _ u1=>some (A1 (0,0,0,[],()),[aY h0,some [bZX],aB u1])) (jv 144 [bZX] [aB h2] fun u7 u12=>RU 290 [bZX] [some [.ptr 1 0],aY (i64.wrap (h0.1+1),h0.2.1,()),aB u12] fun lG u22 u24=>RV 304 [bZX] [some [.ptr 1 0],aY u22,aB u24] fun _ u30 u32=>some (A1 lG,[aY u30,some [bZX],aB u32])):=cc
theorem bCP (h0:Sh.V bn) (h2:Sh.V aH):SS.CC 288 [bZX,.func (.func 291) [] [.ptr 1 0]] [aY h0,some [bZX],aB h2]=aA (h0.1==32) (eX 37 [bZX,bZV 3] [aB h2] fun _ u1=>some (A1 (0,0,0,[],()),[aY h0,some [bZX],aB u1])) (jv 144 [bZX] [aB h2] fun u7 u12=>RU 291 [bZX] [some [.ptr 1 0],aY (i64.wrap (h0.1+1),h0.2.1,()),aB u12] fun lG u22 u24=>RV 304 [bZX] [some [.ptr 1 0],aY u22,aB u24] fun _ u30 u32=>some (A1 lG,[aY u30,some [bZX],aB u32])):=cc
theorem bCQ (h1:Sh.V bn) (h2:Sh.V aH):SS.CC 289 [bZX] [some [.ptr 1 0],aY h1,aB h2]=zB 245 [bZX] [au h1,aB h2] fun u1 u5 u7=>some (A1 (10,0,0,[A1 u1],()),[some [.ptr 1 0],aY u5,aB u7]):=cc
theorem aLA (h1:Sh.V bn) (h2:Sh.V aH):SS.CC 290 [bZX] [some [.ptr 1 0],aY h1,aB h2]=jv 35 [bZX] [aB h2] fun u1 u6=>aA (u1.1==2) (NZ 226 [bZX,bZV 0,bZV 65536] [aB u6] fun n12 u13=>some (A1 (0,i64.wrap (0-n12),0,[],()),[some [.ptr 1 0],aY h1,aB u13])) (zB 245 [bZX] [au h1,aB u6] fun uD u23 u25=>some (A1 (5,0,0,[A1 uD],()),[some [.ptr 1 0],aY u23,aB u25])):=cc
theorem bCR (h1:Sh.V bn) (h2:Sh.V aH):SS.CC 291 [bZX] [some [.ptr 1 0],aY h1,aB h2]=zB 106 [bZX] [au h1,aB h2] fun u1 u5 u7=>eX 32 [bZX,.str ⟨#[41]⟩] [aB u7] fun _ u13=>some (A1 u1,[some [.ptr 1 0],aY u5,aB u13]):=cc
def bCS:KT:=SS.rK Tryz.f286 286 2 []
def Zx (x5:Int) (q0:Sh.V eH) (q1:Sh.V aH):R:=bH (SS.xX 286 37 2) (cS Tryz.f286 15) bCS ⟨[(0,bZX),(5,bZV x5)],[au q0,aB q1]⟩
theorem a7K (x5:Int) (q0:Sh.V eH) (q1:Sh.V aH):Zx x5 q0 q1=BI 33 [bZX] [aB q1] fun s1 u2=>some (bZV (if (0:Int)>x5 then (0:Int) else x5),[au q0,aB u2]):=by kernel_rfl
theorem bCT (a1:bZZ) (h0:Sh.V eH) (h1:Sh.V aH):SS.CC 286 [bZX,bZW a1] [au h0,aB h1]=jv 35 [bZX] [aB h1] fun u1 u6=>G1 240 [bZW a1,.str u1.2.1] fun n12=>jv 35 [bZX] [aB u6] fun u14 uD=>aA (u14.1==1) (aA (decide (n12<0)) (eX 37 [bZX,bZV 9] [aB uD] fun _ u25=>Zx n12 h0 u25) (Zx n12 h0 uD)) (Zx n12 h0 uD):=cc
theorem bDE (h1:Sh.V bn) (h2:Sh.V aH):SS.CC 304 [bZX] [some [.ptr 1 0],aY h1,aB h2]=some (.tuple [],[some [.ptr 1 0],aY (i64.wrap (h1.1-1),h1.2.1,()),aB h2]):=cc
def b8Y:KT:=SS.rK Tryz.f146 146 3 []
def Zc (q0:Sh.V bn) (q1:Sh.V iP) (q2:Sh.V aH) (q3:Sh.V S4):R:=bH (SS.xX 146 55 3) (cS Tryz.f146 31) b8Y ⟨[(0,bZX),(1,.ptr 1 0),(4,.ptr 3 0)],[aY q0,bJ q1,aB q2,O4 q3]⟩
theorem b8X (q0:Sh.V bn) (q1:Sh.V iP) (q2:Sh.V aH) (q3:Sh.V S4):Zc q0 q1 q2 q3=eX 32 [bZX,.str ⟨#[59]⟩] [aB q2] fun _ u1=>chk (decide (q1.2.1.length+1<=aO)) (some (.tuple [],[aY q0,bJ (q1.1,(q1.2.1 ++ ([A4 q3]:bZZ)),q1.2.2.1,q1.2.2.2.1,q1.2.2.2.2.1,q1.2.2.2.2.2.1,q1.2.2.2.2.2.2.1,()),aB u1])):=by kernel_rfl
theorem b8Z (h0:Sh.V bn) (h1:Sh.V iP) (h2:Sh.V aH):SS.CC 146 [bZX,.ptr 1 0] [aY h0,bJ h1,aB h2]=G4 223 [.sl false 5 h1.2.1,.func (.func 224) [] []] fun l1=>D9 222 [bZX,bZW l1] [au h0,aB h2] fun s3 u4 u6=>H87 225 [bZX,bZW [.str ⟨#[99,111,110,116,114,111,108,108,97,98,108,101]⟩,.str ⟨#[111,98,115,101,114,118,97,98,108,101]⟩,.str ⟨#[102,111,114,99,105,98,108,101]⟩]] [au u4,aB u6] fun l12 u13 u15=>bz l12 0 fun e21=>vB e21 fun b22=>bz l12 1 fun e23=>vB e23 fun O0=>bz l12 2 fun e25=>vB e25 fun b26=>jY 143 [bZX,.str ⟨#[102,97,117,108,116]⟩] [aB u15] fun b27 u28=>aA b27 (NZ 226 [bZX,bZV 1,bZV 4] [aB u28] fun n34 u35=>Zc u13 h1 u35 (s3,b22,O0,b26,n34,())) (Zc u13 h1 u28 (s3,b22,O0,b26,0,())):=cc
def bAV:KT:=SS.rK Tryz.f223 223 0 []
def bAW:KT:=SS.jK 223 22 0 (cS Tryz.f223 15) bAV
def bAX:KT:=ak 0 bAW
def Zh (x8:bZZ) (x5:bZZ) (x10:Int):R:=SS.LL (SS.ae 223 22) 0 [1,5,8,9,10] 0 (cS Tryz.f223 75) bAX ⟨[(1,.func (.func 224) [] []),(5,.sl true 1 x5),(8,.sl false 5 x8),(9,bZV (x8.length:Int)),(10,bZV x10)],[]⟩
theorem aKY (x8:bZZ) (x5:bZZ) (x10:Int):Zh x8 x5 x10=aA (decide (x10<(x8.length:Int))) (aj S4 x8 x10 fun u2=>G2 224 [A4 u2] fun s7=>chk (decide (x5.length+1<=aO)) (Zh x8 (x5 ++ ([.str s7]:bZZ)) (i64.wrap (x10+1)))) (some (bZW x5,[])):=ll
theorem bAY (a0:bZZ):SS.CC 223 [.sl false 5 a0,.func (.func 224) [] []] []=Zh a0 [] 0:=cc
theorem bAZ (a0:Sh.V S4):SS.CC 224 [A4 a0] []=some (.str a0.1,[]):=cc
theorem bA' (a1:bZZ) (h0:Sh.V eH) (h1:Sh.V aH):SS.CC 225 [bZX,bZW a1] [au h0,aB h1]=aEJ 284 [bZW a1,.func (.func 285) [] [bZX]] [some [.ptr 1 0],aY h0,aB h1] fun l1 u2 u4=>some (bZW l1,[au u2,aB u4]):=cc
theorem bB8 (h0:Sh.V gW) (h2:Sh.V gY) (h3:Sh.V aH):SS.CC 229 [bZX,.ptr 1 0] [fM h0,some [.ptr 2 0],fV h2,aB h3]=nN fun ag=>(fun w=>(fun z0 z1=>dD z0 (dD (dD z0 z1) (dD z0 z1))) w (ag 1 w)) (D9 222 [bZX,bZW h0.2.2.1] [au h2,aB h3] fun s1 u2 u4=>chk (decide (h0.2.2.1.length+1<=aO)) (some (.tuple [],[fM (h0.1,h0.2.1,(h0.2.2.1 ++ ([.str s1]:bZZ)),h0.2.2.2.1,h0.2.2.2.2.1,h0.2.2.2.2.2.1,h0.2.2.2.2.2.2.1,h0.2.2.2.2.2.2.2.1,h0.2.2.2.2.2.2.2.2.1,()),some [.ptr 2 0],fV u2,aB u4]))):=zF cc
def aKZ:KT:=SS.rK Tryz.f230 230 4 []
def U6 (q0:Sh.V gY) (q1:Sh.V gW) (fB:Bool) (q3:Sh.V aH) (x6:Int):R:=bH (SS.xX 230 77 4) (cS Tryz.f230 15) aKZ ⟨[(0,bZX),(1,.ptr 1 0),(2,.ptr 2 0),(6,bZV x6)],[fV q0,fM q1,nM (fB,()),aB q3]⟩
def Zi (x6:Int) (q0:Sh.V gY) (q1:Sh.V gW) (q3:Sh.V aH) (fB:Bool):R:=bH (SS.xX 230 77 4) (cS Tryz.f230 31) aKZ ⟨[(0,bZX),(1,.ptr 1 0),(6,bZV x6)],[fV q0,fM q1,nM (fB,()),aB q3]⟩
theorem bB9 (q0:Sh.V gY) (q1:Sh.V gW) (fB:Bool) (q3:Sh.V aH) (x6:Int):U6 q0 q1 fB q3 x6=jY 143 [bZX,.str ⟨#[105,110,105,116,105,97,108]⟩] [aB q3] fun b1 u2=>aA b1 (Zi x6 q0 (q1.1,q1.2.1,q1.2.2.1,q1.2.2.2.1,q1.2.2.2.2.1,x6,q1.2.2.2.2.2.2.1,q1.2.2.2.2.2.2.2.1,q1.2.2.2.2.2.2.2.2.1,()) u2 true) (Zi x6 q0 q1 u2 fB):=by kernel_rfl
theorem bBA (x6:Int) (q0:Sh.V gY) (q1:Sh.V gW) (q3:Sh.V aH) (fB:Bool):Zi x6 q0 q1 q3 fB=jY 143 [bZX,.str ⟨#[109,97,114,107,101,100]⟩] [aB q3] fun b1 u2=>aA b1 (chk (decide (q1.2.2.2.2.2.2.1.length+1<=aO)) (eX 32 [bZX,.str ⟨#[59]⟩] [aB u2] fun _ u8=>some (.tuple [],[fV q0,fM (q1.1,q1.2.1,q1.2.2.1,q1.2.2.2.1,q1.2.2.2.2.1,q1.2.2.2.2.2.1,(q1.2.2.2.2.2.2.1 ++ ([bZV x6]:bZZ)),q1.2.2.2.2.2.2.2.1,q1.2.2.2.2.2.2.2.2.1,()),nM (fB,()),aB u8]))) (eX 32 [bZX,.str ⟨#[59]⟩] [aB u2] fun _ u14=>some (.tuple [],[fV q0,fM q1,nM (fB,()),aB u14])):=by kernel_rfl
theorem bBB (h0:Sh.V gY) (h1:Sh.V gW) (lU:Bool) (h3:Sh.V aH):SS.CC 230 [bZX,.ptr 1 0,.ptr 2 0] [fV h0,fM h1,nM (lU,()),aB h3]=nN fun ag=>(fun w=>dD w (ag 1 w)) (D9 222 [bZX,bZW h1.2.1] [au h0,aB h3] fun s1 u2 u4=>chk (decide (h1.2.1.length+1<=aO)) (jY 193 [bZX,.str ⟨#[105,110,105,116,105,97,108]⟩] [aB u4] fun b10 u11=>aA b10 (aA lU (eX 37 [bZX,bZV 8] [aB u11] fun _ wV=>U6 u2 (h1.1,(h1.2.1 ++ ([.str s1]:bZZ)),h1.2.2.1,h1.2.2.2.1,h1.2.2.2.2.1,h1.2.2.2.2.2.1,h1.2.2.2.2.2.2.1,h1.2.2.2.2.2.2.2.1,h1.2.2.2.2.2.2.2.2.1,()) lU wV (i64.wrap (((h1.2.1 ++ ([.str s1]:bZZ)).length:Int)-1))) (U6 u2 (h1.1,(h1.2.1 ++ ([.str s1]:bZZ)),h1.2.2.1,h1.2.2.2.1,h1.2.2.2.2.1,h1.2.2.2.2.2.1,h1.2.2.2.2.2.2.1,h1.2.2.2.2.2.2.2.1,h1.2.2.2.2.2.2.2.2.1,()) lU u11 (i64.wrap (((h1.2.1 ++ ([.str s1]:bZZ)).length:Int)-1)))) (U6 u2 (h1.1,(h1.2.1 ++ ([.str s1]:bZZ)),h1.2.2.1,h1.2.2.2.1,h1.2.2.2.2.1,h1.2.2.2.2.2.1,h1.2.2.2.2.2.2.1,h1.2.2.2.2.2.2.2.1,h1.2.2.2.2.2.2.2.2.1,()) lU u11 (i64.wrap (((h1.2.1 ++ ([.str s1]:bZZ)).length:Int)-1))))):=zF cc
def bBD:KT:=SS.rK Tryz.f231 231 3 []
def Zk (q0:Sh.V bn) (q1:Sh.V gW) (q2:Sh.V aH):R:=bH (SS.xX 231 74 3) (cS Tryz.f231 3) bBD ⟨[(0,bZX),(1,.ptr 1 0)],[aY q0,fM q1,aB q2]⟩
theorem bBC (q0:Sh.V bn) (q1:Sh.V gW) (q2:Sh.V aH):Zk q0 q1 q2=G7 219 [.sl false 4 q1.2.2.2.2.2.2.2.1] fun l1=>D9 222 [bZX,bZW l1] [au q0,aB q2] fun s3 u4 u6=>eX 32 [bZX,.str ⟨#[58]⟩] [aB u6] fun _ u12=>BK 239 [bZX] [au u4,aB u12] fun n18 uD u21=>eX 32 [bZX,.str ⟨#[46,46]⟩] [aB u21] fun _ u27=>BK 239 [bZX] [au uD,aB u27] fun n33 u34 u36=>eX 32 [bZX,.str ⟨#[61]⟩] [aB u36] fun _ u42=>BK 239 [bZX] [au u34,aB u42] fun n48 u49 u51=>eX 32 [bZX,.str ⟨#[59]⟩] [aB u51] fun _ MN=>chk (decide (q1.2.2.2.2.2.2.2.1.length+1<=aO)) (some (.tuple [],[aY u49,fM (q1.1,q1.2.1,q1.2.2.1,q1.2.2.2.1,q1.2.2.2.2.1,q1.2.2.2.2.2.1,q1.2.2.2.2.2.2.1,(q1.2.2.2.2.2.2.2.1 ++ ([A7 (s3,n18,n33,n48,())]:bZZ)),q1.2.2.2.2.2.2.2.2.1,()),aB MN])):=by kernel_rfl
theorem bBE (h0:Sh.V bn) (h1:Sh.V gW) (h2:Sh.V aH):SS.CC 231 [bZX,.ptr 1 0] [aY h0,fM h1,aB h2]=jv 35 [bZX] [aB h2] fun u1 u6=>aA (u1.1==1) (G3 110 [.str u1.2.1] fun b12=>aA b12 (eX 37 [bZX,bZV 7] [aB u6] fun _ u14=>Zk h0 h1 u14) (Zk h0 h1 u6)) (Zk h0 h1 u6):=cc
def aK':KT:=SS.rK Tryz.f232 232 3 []
def Zl (q0:Sh.V bn) (q1:Sh.V gW) (q2:Sh.V aH) (Ag:Int) (VJ:Int) (VK:Int) (vH:Int) (vJ:Int) (vK:Int) (vM:bZZ):R:=bH (SS.xX 232 73 3) (cS Tryz.f232 63) aK' ⟨[(1,.ptr 1 0),(2,.ptr 3 0),(4,.ptr 4 0)],[aY q0,fM q1,aB q2,some [bZX],sS (Ag,VJ,VK,vH,vJ,vK,vM,[],())]⟩
def Zm (q0:Sh.V bn) (q1:Sh.V gW) (q2:Sh.V aH) (q4:Sh.V rM):R:=bH (SS.xX 232 73 3) (cS Tryz.f232 127) aK' ⟨[(1,.ptr 1 0),(2,.ptr 3 0),(4,.ptr 4 0)],[aY q0,fM q1,aB q2,some [bZX],sS q4]⟩
theorem bBF (q0:Sh.V bn) (q1:Sh.V gW) (q2:Sh.V aH) (Ag:Int) (VJ:Int) (VK:Int) (vH:Int) (vJ:Int) (vK:Int) (vM:bZZ):Zl q0 q1 q2 Ag VJ VK vH vJ vK vM=jY 143 [bZX,.str ⟨#[100,111]⟩] [aB q2] fun b1 u2=>aA b1 (H98 236 [bZX,.func (.func 287) [] [.ptr 1 0,.ptr 2 0]] [aB u2,some [.ptr 3 0],sS (Ag,VJ,VK,vH,vJ,vK,vM,[],()),kH q0] fun _ u8 u12 u20=>Zm u20 q1 u8 u12) (Zm q0 q1 u2 (Ag,VJ,VK,vH,vJ,vK,vM,[],())):=by kernel_rfl
theorem bBG (q0:Sh.V bn) (q1:Sh.V gW) (q2:Sh.V aH) (q4:Sh.V rM):Zm q0 q1 q2 q4=eX 32 [bZX,.str ⟨#[59]⟩] [aB q2] fun _ u1=>chk (decide (q1.2.2.2.2.2.2.2.2.1.length+1<=aO)) (some (.tuple [],[aY q0,fM (q1.1,q1.2.1,q1.2.2.1,q1.2.2.2.1,q1.2.2.2.2.1,q1.2.2.2.2.2.1,q1.2.2.2.2.2.2.1,q1.2.2.2.2.2.2.2.1,(q1.2.2.2.2.2.2.2.2.1 ++ ([A9 q4]:bZZ)),()),aB u1])):=by kernel_rfl
theorem bBH (h0:Sh.V bn) (h1:Sh.V gW) (h2:Sh.V aH):SS.CC 232 [bZX,.ptr 1 0] [aY h0,fM h1,aB h2]=qM 133 [] fun u1=>BK 286 [bZX,bZW h1.2.1] [au h0,aB h2] fun n6 u7 u9=>BK 286 [bZX,bZW h1.2.2.1] [au u7,aB u9] fun n15 u16 lG=>BK 286 [bZX,bZW h1.2.1] [au u16,aB lG] fun n24 u25 u27=>G7 219 [.sl false 4 h1.2.2.2.2.2.2.2.1] fun l33=>jY 143 [bZX,.str ⟨#[119,104,101,110]⟩] [aB u27] fun b35 u36=>aA b35 (zB 106 [bZX] [au (u25.1,l33,()),aB u36] fun u42 u46 u48=>Zl u46 h1 u48 n6 n15 n24 u42.1 u42.2.1 u42.2.2.1 u42.2.2.2.1) (Zl (u25.1,l33,()) h1 u36 n6 n15 n24 u1.1 u1.2.1 u1.2.2.1 u1.2.2.2.1):=cc
def bCX:KT:=SS.rK Tryz.f284 284 3 []
def bCY:KT:=SS.jK 284 22 3 (cS Tryz.f284 15) bCX
def bCZ:KT:=ak 0 bCY
def a7M (x8:bZZ) (q1:Sh.V bn) (q2:Sh.V aH) (x5:bZZ) (x10:Int):R:=SS.LL (SS.ae 284 22) 3 [1,5,8,9,10] 3 (cS Tryz.f284 75) bCZ ⟨[(1,.func (.func 285) [] [bZX]),(5,.sl true 1 x5),(8,bZW x8),(9,bZV (x8.length:Int)),(10,bZV x10)],[some [.ptr 1 0],aY q1,aB q2]⟩
theorem Zy (x8:bZZ) (q1:Sh.V bn) (q2:Sh.V aH) (x5:bZZ) (x10:Int):a7M x8 q1 q2 x5 x10=aA (decide (x10<(x8.length:Int))) (bz x8 x10 fun e1=>vS e1 fun s2=>RQ 285 [.str s2,bZX] [some [.ptr 1 0],aY q1,aB q2] fun b3 u4 u6=>chk (decide (x5.length+1<=aO)) (a7M x8 u4 u6 (x5 ++ ([.bool b3]:bZZ)) (i64.wrap (x10+1)))) (some (bZW x5,[some [.ptr 1 0],aY q1,aB q2])):=ll
theorem bC' (a0:bZZ) (h1:Sh.V bn) (h2:Sh.V aH):SS.CC 284 [bZW a0,.func (.func 285) [] [bZX]] [some [.ptr 1 0],aY h1,aB h2]=a7M a0 h1 h2 [] 0:=cc
theorem bD0 (a0:bZY) (h1:Sh.V bn) (h2:Sh.V aH):SS.CC 285 [.str a0,bZX] [some [.ptr 1 0],aY h1,aB h2]=jY 143 [bZX,.str a0] [aB h2] fun b1 u2=>some (.bool b1,[some [.ptr 1 0],aY h1,aB u2]):=cc
theorem bD1 (h1:Sh.V rM) (h2:Sh.V gY) (h3:Sh.V aH):SS.CC 287 [bZX,.ptr 1 0] [some [.ptr 2 0],sS h1,fV h2,aB h3]=nN fun ag=>(fun w=>dD (ag 1 w) w) (BK 286 [bZX,bZW h2.2.1] [au h2,aB h3] fun n1 u2 u4=>eX 32 [bZX,.str ⟨#[58,61]⟩] [aB u4] fun _ u10=>zB 106 [bZX] [au u2,aB u10] fun u16 u20 u22=>chk (decide (h1.2.2.2.2.2.2.2.1.length+1<=aO)) (some (.tuple [],[some [.ptr 2 0],sS (h1.1,h1.2.1,h1.2.2.1,h1.2.2.2.1,h1.2.2.2.2.1,h1.2.2.2.2.2.1,h1.2.2.2.2.2.2.1,(h1.2.2.2.2.2.2.2.1 ++ ([BF (n1,u16.1,u16.2.1,u16.2.2.1,u16.2.2.2.1,())]:bZZ)),()),fV u20,aB u22]))):=zF cc
end
section
def a7R:KT:=SS.rK Tryz.f13 13 0 []
def bD':KT:=SS.jK 13 65 0 (cS Tryz.f13 127) a7R
def bE0:KT:=ak 0 bD'
def yH (q0:Sh.V iP) (q1:Sh.V aH) (q2:Sh.V eH):R:=SS.LL (SS.ae 13 65) 0 [2,6] 3 (cS Tryz.f13 287) bE0 ⟨[(2,bZX),(6,.ptr 2 0)],[bJ q0,aB q1,au q2]⟩
def a7Q (q0:Sh.V iP) (q1:Sh.V aH) (q2:Sh.V eH):R:=bH (SS.xX 13 65 0) (cS Tryz.f13 127) a7R ⟨[(2,bZX),(6,.ptr 2 0)],[bJ q0,aB q1,au q2]⟩
def a7P (q0:Sh.V iP) (q1:Sh.V aH) (q2:Sh.V eH):R:=bH (SS.xX 13 65 0) (cS Tryz.f13 255) a7R ⟨[(2,bZX),(6,.ptr 2 0)],[bJ q0,aB q1,au q2]⟩
theorem aLU (q0:Sh.V iP) (q1:Sh.V aH) (q2:Sh.V eH):yH q0 q1 q2=RX 34 [bZX] [au q2,aB q1] fun b1 u2 u4=>aA b1 (jv 35 [bZX] [aB u4] fun u10 u15=>aA (u10.1 != 4) (Gs 36 [bZX,.ptr 1 0] [aY u2,bJ q0,aB u15] fun _ u21 u23 u30=>yH u23 u30 u21) (a7Q q0 u15 u2)) (a7Q q0 u4 u2):=ll
theorem bDZ (q0:Sh.V iP) (q1:Sh.V aH) (q2:Sh.V eH):a7Q q0 q1 q2=RX 34 [bZX] [au q2,aB q1] fun b1 u2 u4=>aA b1 (G1 14 [A0 q0] fun n10=>eX 37 [bZX,bZV n10] [aB u4] fun _ u12=>a7P q0 u12 u2) (a7P q0 u4 u2):=by kernel_rfl
theorem bDY (q0:Sh.V iP) (q1:Sh.V aH) (q2:Sh.V eH):a7P q0 q1 q2=H17 38 [bZX] [aB q1] fun u1 u4=>aA (u1.2.2.1.1 != 0) (some (.tuple [A0 (⟨#[]⟩,[],[],[],[],[],[],()),bZV u1.1.1,bZV u1.2.1.1,bZV u1.2.2.1.1],[])) (some (.tuple [A0 q0,bZV 0,bZV 0,bZV 0],[])):=by kernel_rfl
theorem bE1 (a0:bZY):SS.CC 13 [.str a0] []=H14 31 [.str a0] [] fun u1=>eX 32 [bZX,.str ⟨#[109,111,100,101,108]⟩] [aB u1] fun _ u7=>BI 33 [bZX] [aB u7] fun s13 u14=>eX 32 [bZX,.str ⟨#[59]⟩] [aB u14] fun _ u20=>yH (s13,[],[],[],[],[],[],()) u20 (0,[],()):=cc
theorem bE2 (a0:Sh.V S0) (a1:Sh.V S0):SS.CC 15 [A0 a0,A0 a1] []=aA (a0.1.toList==a1.1.toList) (G3 92 [.sl false 5 a0.2.1,.sl false 5 a1.2.1] fun b1=>aA b1 (H27 93 [.sl false 9 a0.2.2.1,.sl false 9 a1.2.2.1,.func (.func 86) [] [bZX]] [some [.func (.func 82) [] []]] fun b3=>aA b3 (G3 94 [.sl false 3 a0.2.2.2.1,.sl false 3 a1.2.2.2.1,.func (.func 91) [] []] fun b6=>aA b6 (G3 94 [.sl false 3 a0.2.2.2.2.1,.sl false 3 a1.2.2.2.2.1,.func (.func 91) [] []] fun b8=>aA b8 (G3 95 [.sl false 2 a0.2.2.2.2.2.1,.sl false 2 a1.2.2.2.2.2.1,.func (.func 96) [] []] fun b10=>aA b10 (G3 98 [.sl false 3 a0.2.2.2.2.2.2.1,.sl false 3 a1.2.2.2.2.2.2.1,.func (.func 99) [] []] fun b12=>some (.bool b12,[])) (some (.bool false,[]))) (some (.bool false,[]))) (some (.bool false,[]))) (some (.bool false,[]))) (some (.bool false,[]))) (some (.bool false,[])):=cc
theorem bE4 (a0:bZY):SS.CC 21 [.str a0] []=G9 13 [.str a0] fun u1=>aA (u1.2.2.2.1.1 != 0) (some (.tuple [.str ⟨#[]⟩,bZV u1.2.1.1,bZV u1.2.2.1.1,bZV u1.2.2.2.1.1],[])) (G0 12 [A0 u1.1] fun u12=>aA (u12.2.1.1 != 0) (some (.tuple [.str ⟨#[]⟩,bZV 1,bZV 1,bZV u12.2.1.1],[])) (some (.tuple [.str u12.1.1,bZV 0,bZV 0,bZV 0],[]))):=cc
def bFH:KT:=SS.rK Tryz.f40 40 0 []
def bFI:KT:=SS.jK 40 22 0 (cS Tryz.f40 15) bFH
def bFJ:KT:=ak 0 bFI
def a08 (x8:bZZ) (x5:bZZ) (x10:Int):R:=SS.LL (SS.ae 40 22) 0 [1,5,8,9,10] 0 (cS Tryz.f40 75) bFJ ⟨[(1,.func (.func 233) [] []),(5,.sl true 1 x5),(8,.sl false 3 x8),(9,bZV (x8.length:Int)),(10,bZV x10)],[]⟩
theorem aMD (x8:bZZ) (x5:bZZ) (x10:Int):a08 x8 x5 x10=aA (decide (x10<(x8.length:Int))) (aj S8 x8 x10 fun u2=>G2 233 [A8 u2] fun s5=>chk (decide (x5.length+1<=aO)) (a08 x8 (x5 ++ ([.str s5]:bZZ)) (i64.wrap (x10+1)))) (some (bZW x5,[])):=ll
theorem bFK (a0:bZZ):SS.CC 40 [.sl false 3 a0,.func (.func 233) [] []] []=a08 a0 [] 0:=cc
def bFQ:KT:=SS.rK Tryz.f42 42 0 []
def bFR:KT:=SS.jK 42 22 0 (cS Tryz.f42 15) bFQ
def bFS:KT:=ak 0 bFR
def a0A (x8:bZZ) (x5:bZZ) (x10:Int):R:=SS.LL (SS.ae 42 22) 0 [1,5,8,9,10] 0 (cS Tryz.f42 75) bFS ⟨[(1,.func (.func 227) [] []),(5,.sl true 1 x5),(8,.sl false 9 x8),(9,bZV (x8.length:Int)),(10,bZV x10)],[]⟩
theorem aMF (x8:bZZ) (x5:bZZ) (x10:Int):a0A x8 x5 x10=aA (decide (x10<(x8.length:Int))) (aj S5 x8 x10 fun u2=>G2 227 [A5 u2] fun s11=>chk (decide (x5.length+1<=aO)) (a0A x8 (x5 ++ ([.str s11]:bZZ)) (i64.wrap (x10+1)))) (some (bZW x5,[])):=ll
theorem bFT (a0:bZZ):SS.CC 42 [.sl false 9 a0,.func (.func 227) [] []] []=a0A a0 [] 0:=cc
def bFZ:KT:=SS.rK Tryz.f44 44 0 []
def bF':KT:=SS.jK 44 22 0 (cS Tryz.f44 15) bFZ
def bG0:KT:=ak 0 bF'
def a0C (x8:bZZ) (x5:bZZ) (x10:Int):R:=SS.LL (SS.ae 44 22) 0 [1,5,8,9,10] 0 (cS Tryz.f44 75) bG0 ⟨[(1,.func (.func 235) [] []),(5,.sl true 1 x5),(8,.sl false 2 x8),(9,bZV (x8.length:Int)),(10,bZV x10)],[]⟩
theorem aMH (x8:bZZ) (x5:bZZ) (x10:Int):a0C x8 x5 x10=aA (decide (x10<(x8.length:Int))) (aj jZ x8 x10 fun u2=>G2 235 [ve u2] fun s4=>chk (decide (x5.length+1<=aO)) (a0C x8 (x5 ++ ([.str s4]:bZZ)) (i64.wrap (x10+1)))) (some (bZW x5,[])):=ll
theorem bG1 (a0:bZZ):SS.CC 44 [.sl false 2 a0,.func (.func 235) [] []] []=a0C a0 [] 0:=cc
def bG7:KT:=SS.rK Tryz.f46 46 0 []
def bG8:KT:=SS.jK 46 22 0 (cS Tryz.f46 15) bG7
def bG9:KT:=ak 0 bG8
def a0E (x8:bZZ) (x5:bZZ) (x10:Int):R:=SS.LL (SS.ae 46 22) 0 [1,5,8,9,10] 0 (cS Tryz.f46 75) bG9 ⟨[(1,.func (.func 238) [] []),(5,.sl true 1 x5),(8,.sl false 3 x8),(9,bZV (x8.length:Int)),(10,bZV x10)],[]⟩
theorem aMJ (x8:bZZ) (x5:bZZ) (x10:Int):a0E x8 x5 x10=aA (decide (x10<(x8.length:Int))) (aj iy x8 x10 fun u2=>G2 238 [rD u2] fun s5=>chk (decide (x5.length+1<=aO)) (a0E x8 (x5 ++ ([.str s5]:bZZ)) (i64.wrap (x10+1)))) (some (bZW x5,[])):=ll
theorem bGA (a0:bZZ):SS.CC 46 [.sl false 3 a0,.func (.func 238) [] []] []=a0E a0 [] 0:=cc
theorem b2F (h0:Sh.V eH) (h1:Sh.V aH):SS.CC 34 [bZX] [au h0,aB h1]=H17 38 [bZX] [aB h1] fun u1 u4=>some (.bool (u1.2.2.1.1==0),[au h0,aB u4]):=cc
theorem Oa (h0:Sh.V bn) (h1:Sh.V iP) (h2:Sh.V aH):SS.CC 36 [bZX,.ptr 1 0] [aY h0,bJ h1,aB h2]=jv 35 [bZX] [aB h2] fun u1 u6=>aA (u1.2.1.data.toList==(⟨#[99,111,109,112,111,110,101,110,116]⟩:bZY).data.toList) (aA (u1.1 != 1) (eX 37 [bZX,bZV 14] [aB u6] fun _ u208=>some (.tuple [],[aY h0,bJ h1,aB u208])) (aA (decide (32<=(h1.2.2.2.1.length:Int))) (eX 37 [bZX,bZV 3] [aB u6] fun _ bUY=>some (.tuple [],[aY h0,bJ h1,aB bUY])) (jv 144 [bZX] [aB u6] fun bZD aDJ=>JY 149 [bZX,.ptr 1 0] [some [.ptr 2 0],some [.ptr 3 0],kR h0,bJ h1,aB aDJ] fun _ aDK bV2 aDL=>some (.tuple [],[aY aDK,bJ bV2,aB aDL])))) (aA (u1.2.1.data.toList==(⟨#[101,118,101,110,116]⟩:bZY).data.toList) (aA (u1.1 != 1) (eX 37 [bZX,bZV 14] [aB u6] fun _ bUP=>some (.tuple [],[aY h0,bJ h1,aB bUP])) (jv 144 [bZX] [aB u6] fun bZC bUR=>JY 145 [bZX,.ptr 1 0] [some [.ptr 2 0],some [.ptr 3 0],kR h0,bJ h1,aB bUR] fun _ u193 aDI bUU=>some (.tuple [],[aY u193,bJ aDI,aB bUU]))) (aA (u1.2.1.data.toList==(⟨#[101,120,99,108,117,100,101]⟩:bZY).data.toList) (aA (u1.1 != 1) (eX 37 [bZX,bZV 14] [aB u6] fun _ u138=>some (.tuple [],[aY h0,bJ h1,aB u138])) (aA (decide (32<=(h1.2.2.2.2.2.1.length:Int))) (eX 37 [bZX,bZV 3] [aB u6] fun _ WT=>some (.tuple [],[aY h0,bJ h1,aB WT])) (jv 144 [bZX] [aB u6] fun a3X bUK=>JY 152 [bZX,.ptr 1 0] [some [.ptr 2 0],some [.ptr 3 0],kR h0,bJ h1,aB bUK] fun _ aDE bUM bUO=>some (.tuple [],[aY aDE,bJ bUM,aB bUO])))) (aA (u1.2.1.data.toList==(⟨#[108,105,109,105,116]⟩:bZY).data.toList) (aA (u1.1 != 1) (eX 37 [bZX,bZV 14] [aB u6] fun _ a3W=>some (.tuple [],[aY h0,bJ h1,aB a3W])) (aA (decide (32<=(h1.2.2.2.2.2.2.1.length:Int))) (eX 37 [bZX,bZV 3] [aB u6] fun _ WJ=>some (.tuple [],[aY h0,bJ h1,aB WJ])) (jv 144 [bZX] [aB u6] fun aD6 WM=>JY 154 [bZX,.ptr 1 0] [some [.ptr 2 0],some [.ptr 3 0],kR h0,bJ h1,aB WM] fun _ WO aD9 WQ=>some (.tuple [],[aY WO,bJ aD9,aB WQ])))) (aA (u1.2.1.data.toList==(⟨#[114,101,113,117,105,114,101,109,101,110,116]⟩:bZY).data.toList) (aA (u1.1 != 1) (eX 37 [bZX,bZV 14] [aB u6] fun _ u62=>some (.tuple [],[aY h0,bJ h1,aB u62])) (aA (decide (32<=(h1.2.2.2.2.1.length:Int))) (eX 37 [bZX,bZV 3] [aB u6] fun _ u68=>some (.tuple [],[aY h0,bJ h1,aB u68])) (jv 144 [bZX] [aB u6] fun u74 We=>JY 151 [bZX,.ptr 1 0] [some [.ptr 2 0],some [.ptr 3 0],kR h0,bJ h1,aB We] fun _ u85 Wi u94=>some (.tuple [],[aY u85,bJ Wi,aB u94])))) (aA (u1.2.1.data.toList==(⟨#[116,101,109,112,108,97,116,101]⟩:bZY).data.toList) (aA (u1.1 != 1) (eX 37 [bZX,bZV 14] [aB u6] fun _ u24=>some (.tuple [],[aY h0,bJ h1,aB u24])) (aA (decide (16<=(h1.2.2.1.length:Int))) (eX 37 [bZX,bZV 3] [aB u6] fun _ u30=>some (.tuple [],[aY h0,bJ h1,aB u30])) (jv 144 [bZX] [aB u6] fun u36 u41=>JY 147 [bZX,.ptr 1 0] [some [.ptr 2 0],some [.ptr 3 0],kR h0,bJ h1,aB u41] fun _ MM u49 u56=>some (.tuple [],[aY MM,bJ u49,aB u56])))) (aA (u1.1 != 1) (eX 37 [bZX,bZV 14] [aB u6] fun _ u12=>some (.tuple [],[aY h0,bJ h1,aB u12])) (eX 37 [bZX,bZV 14] [aB u6] fun _ lG=>some (.tuple [],[aY h0,bJ h1,aB lG])))))))):=cc
theorem b2I (a0:Sh.V S9) (a1:Sh.V S9):SS.CC 82 [A9 a0,A9 a1] []=aA (a0.1==a1.1) (aA (a0.2.1==a1.2.1) (aA (a0.2.2.1==a1.2.2.1) (G3 83 [A1 (a0.2.2.2.1,a0.2.2.2.2.1,a0.2.2.2.2.2.1,a0.2.2.2.2.2.2.1,()),A1 (a1.2.2.2.1,a1.2.2.2.2.1,a1.2.2.2.2.2.1,a1.2.2.2.2.2.2.1,())] fun b1=>aA b1 (G3 84 [.sl false 5 a0.2.2.2.2.2.2.2.1,.sl false 5 a1.2.2.2.2.2.2.2.1,.func (.func 85) [] []] fun b3=>some (.bool b3,[])) (some (.bool false,[]))) (some (.bool false,[]))) (some (.bool false,[]))) (some (.bool false,[])):=cc
def b2J:KT:=SS.rK Tryz.f84 84 0 []
def b2K:KT:=SS.jK 84 32 0 (cS Tryz.f84 15) b2J
def b2L:KT:=ak 0 b2K
def Z9 (x1:bZZ) (x15:bZZ) (x17:Int):R:=SS.LL (SS.ae 84 32) 0 [1,2,15,16,17] 0 (cS Tryz.f84 75) b2L ⟨[(1,.sl false 5 x1),(2,.func (.func 179) [] []),(15,.sl false 5 x15),(16,bZV (x15.length:Int)),(17,bZV x17)],[]⟩
theorem aIQ (x1:bZZ) (x15:bZZ) (x17:Int):Z9 x1 x15 x17=aA (decide (x17<(x15.length:Int))) (aj qO x15 x17 fun u2=>aj qO x1 x17 fun u8=>G3 179 [BF u2,BF u8] fun b13=>aA (!b13) (some (.bool false,[])) (Z9 x1 x15 (i64.wrap (x17+1)))) (some (.bool true,[])):=ll
theorem b2M (a0:bZZ) (a1:bZZ):SS.CC 84 [.sl false 5 a0,.sl false 5 a1,.func (.func 179) [] []] []=aA ((a0.length:Int) !=(a1.length:Int)) (some (.bool false,[])) (Z9 a1 a0 0):=cc
def b2N:KT:=SS.rK Tryz.f84 84 0 []
def b2O:KT:=SS.jK 84 32 0 (cS Tryz.f84 15) b2N
def b2P:KT:=ak 0 b2O
def ZA (x1:bZZ) (x15:bZZ) (x17:Int):R:=SS.LL (SS.ae 84 32) 0 [1,2,15,16,17] 0 (cS Tryz.f84 75) b2P ⟨[(1,.sl false 5 x1),(2,.func (.func 85) [] []),(15,.sl false 5 x15),(16,bZV (x15.length:Int)),(17,bZV x17)],[]⟩
theorem aIR (x1:bZZ) (x15:bZZ) (x17:Int):ZA x1 x15 x17=aA (decide (x17<(x15.length:Int))) (aj qO x15 x17 fun u2=>aj qO x1 x17 fun u8=>G3 85 [BF u2,BF u8] fun b13=>aA (!b13) (some (.bool false,[])) (ZA x1 x15 (i64.wrap (x17+1)))) (some (.bool true,[])):=ll
theorem b2Q (a0:bZZ) (a1:bZZ):SS.CC 84 [.sl false 5 a0,.sl false 5 a1,.func (.func 85) [] []] []=aA ((a0.length:Int) !=(a1.length:Int)) (some (.bool false,[])) (ZA a1 a0 0):=cc
theorem b2R (a0:Sh.V qO) (a1:Sh.V qO):SS.CC 85 [BF a0,BF a1] []=aA (a0.1==a1.1) (G3 83 [A1 (a0.2.1,a0.2.2.1,a0.2.2.2.1,a0.2.2.2.2.1,()),A1 (a1.2.1,a1.2.2.1,a1.2.2.2.1,a1.2.2.2.2.1,())] fun b1=>some (.bool b1,[])) (some (.bool false,[])):=cc
theorem b2S (a0:Sh.V S5) (a1:Sh.V S5):SS.CC 86 [A5 a0,A5 a1,bZX] [some [.func (.func 82) [] []]]=nN fun ag=>ag 1 ((fun w=>aA (a0.1.toList==a1.1.toList) (G3 87 [bZW a0.2.1,bZW a1.2.1] fun b1=>aA b1 (G3 87 [bZW a0.2.2.1,bZW a1.2.2.1] fun b3=>aA b3 (G3 88 [bZW a0.2.2.2.1,bZW a1.2.2.2.1] fun b5=>aA b5 (aA (a0.2.2.2.2.1==a1.2.2.2.2.1) (aA (a0.2.2.2.2.2.1==a1.2.2.2.2.2.1) (G3 88 [bZW a0.2.2.2.2.2.2.1,bZW a1.2.2.2.2.2.2.1] fun b7=>aA b7 (G3 89 [.sl false 4 a0.2.2.2.2.2.2.2.1,.sl false 4 a1.2.2.2.2.2.2.2.1] fun b9=>aA b9 (G3 90 [.sl false 8 a0.2.2.2.2.2.2.2.2.1,.sl false 8 a1.2.2.2.2.2.2.2.2.1,.func (.func 82) [] []] fun b11=>some (.bool b11,[some [.func (.func 82) [] []]])) w) w) w) w) w) w) w) w) (some (.bool false,[some [.func (.func 82) [] []]]))):=zF cc
def b2T:KT:=SS.rK Tryz.f87 87 0 []
def b2U:KT:=SS.jK 87 26 0 (cS Tryz.f87 15) b2T
def b2V:KT:=ak 0 b2U
def TT (x0:bZZ) (x1:bZZ) (iF:Int):R:=SS.LL (SS.ae 87 26) 0 [0,1,12,13] 0 (cS Tryz.f87 75) b2V ⟨[(0,bZW x0),(1,bZW x1),(12,bZV (x0.length:Int)),(13,bZV iF)],[]⟩
theorem a6T (x0:bZZ) (x1:bZZ) (iF:Int):TT x0 x1 iF=aA (decide (iF<(x0.length:Int))) (bz x0 iF fun e1=>vS e1 fun s2=>bz x1 iF fun e3=>vS e3 fun s4=>aA (!(s2.toList==s4.toList)) (some (.bool false,[])) (TT x0 x1 (i64.wrap (iF+1)))) (some (.bool true,[])):=ll
theorem aIS (a0:bZZ) (a1:bZZ):SS.CC 87 [bZW a0,bZW a1] []=aA ((a0.length:Int) !=(a1.length:Int)) (some (.bool false,[])) (TT a0 a1 0):=cc
def b2Z:KT:=SS.rK Tryz.f89 89 0 []
def b30:KT:=SS.jK 89 26 0 (cS Tryz.f89 15) b2Z
def b33:KT:=ak 0 b30
def Ob (x0:bZZ) (x1:bZZ) (iF:Int):R:=SS.LL (SS.ae 89 26) 0 [0,1,12,13] 0 (cS Tryz.f89 75) b33 ⟨[(0,.sl false 4 x0),(1,.sl false 4 x1),(12,bZV (x0.length:Int)),(13,bZV iF)],[]⟩
theorem aIT (x0:bZZ) (x1:bZZ) (iF:Int):Ob x0 x1 iF=aA (decide (iF<(x0.length:Int))) (aj S7 x0 iF fun u2=>aj S7 x1 iF fun u7=>aA (!((u2.1.toList==u7.1.toList)&&((u2.2.1==u7.2.1)&&((u2.2.2.1==u7.2.2.1)&&((u2.2.2.2.1==u7.2.2.2.1)&&true))))) (some (.bool false,[])) (Ob x0 x1 (i64.wrap (iF+1)))) (some (.bool true,[])):=ll
theorem aIU (a0:bZZ) (a1:bZZ):SS.CC 89 [.sl false 4 a0,.sl false 4 a1] []=aA ((a0.length:Int) !=(a1.length:Int)) (some (.bool false,[])) (Ob a0 a1 0):=cc
def b3B:KT:=SS.rK Tryz.f90 90 0 []
def b3C:KT:=SS.jK 90 32 0 (cS Tryz.f90 15) b3B
def b3D:KT:=ak 0 b3C
def ZE (x1:bZZ) (x15:bZZ) (x17:Int):R:=SS.LL (SS.ae 90 32) 0 [1,2,15,16,17] 0 (cS Tryz.f90 75) b3D ⟨[(1,.sl false 8 x1),(2,.func (.func 82) [] []),(15,.sl false 8 x15),(16,bZV (x15.length:Int)),(17,bZV x17)],[]⟩
theorem aIW (x1:bZZ) (x15:bZZ) (x17:Int):ZE x1 x15 x17=aA (decide (x17<(x15.length:Int))) (aj S9 x15 x17 fun u2=>aj S9 x1 x17 fun u11=>G3 82 [A9 u2,A9 u11] fun b19=>aA (!b19) (some (.bool false,[])) (ZE x1 x15 (i64.wrap (x17+1)))) (some (.bool true,[])):=ll
theorem b3E (a0:bZZ) (a1:bZZ):SS.CC 90 [.sl false 8 a0,.sl false 8 a1,.func (.func 82) [] []] []=aA ((a0.length:Int) !=(a1.length:Int)) (some (.bool false,[])) (ZE a1 a0 0):=cc
def b34:KT:=SS.rK Tryz.f90 90 1 []
def b37:KT:=SS.jK 90 32 1 (cS Tryz.f90 15) b34
def b38:KT:=ak 0 b37
def ZC (x1:bZZ) (x15:bZZ) (x17:Int):R:=SS.LL (SS.ae 90 32) 1 [1,2,15,16,17] 1 (cS Tryz.f90 75) b38 ⟨[(1,.sl false 8 x1),(2,.func (.func 180) [] [bZX]),(15,.sl false 8 x15),(16,bZV (x15.length:Int)),(17,bZV x17)],[some [.func (.func 179) [] []]]⟩
theorem aIV (x1:bZZ) (x15:bZZ) (x17:Int):ZC x1 x15 x17=aA (decide (x17<(x15.length:Int))) (aj S9 x15 x17 fun u2=>aj S9 x1 x17 fun u11=>H62 180 [A9 u2,A9 u11,bZX] [some [.func (.func 179) [] []]] fun b19=>aA (!b19) (some (.bool false,[some [.func (.func 179) [] []]])) (ZC x1 x15 (i64.wrap (x17+1)))) (some (.bool true,[some [.func (.func 179) [] []]])):=ll
theorem b3A (a0:bZZ) (a1:bZZ):SS.CC 90 [.sl false 8 a0,.sl false 8 a1,.func (.func 180) [] [bZX]] [some [.func (.func 179) [] []]]=aA ((a0.length:Int) !=(a1.length:Int)) (some (.bool false,[some [.func (.func 179) [] []]])) (ZC a1 a0 0):=cc
theorem b3F (a0:Sh.V S8) (a1:Sh.V S8):SS.CC 91 [A8 a0,A8 a1] []=aA (a0.1.toList==a1.1.toList) (aA (a0.2.1.toList==a1.2.1.toList) (G3 87 [bZW a0.2.2.1,bZW a1.2.2.1] fun b1=>some (.bool b1,[])) (some (.bool false,[]))) (some (.bool false,[])):=cc
def b3G:KT:=SS.rK Tryz.f92 92 0 []
def b3H:KT:=SS.jK 92 26 0 (cS Tryz.f92 15) b3G
def b3I:KT:=ak 0 b3H
def Oc (x0:bZZ) (x1:bZZ) (iF:Int):R:=SS.LL (SS.ae 92 26) 0 [0,1,12,13] 0 (cS Tryz.f92 75) b3I ⟨[(0,.sl false 5 x0),(1,.sl false 5 x1),(12,bZV (x0.length:Int)),(13,bZV iF)],[]⟩
theorem aIX (x0:bZZ) (x1:bZZ) (iF:Int):Oc x0 x1 iF=aA (decide (iF<(x0.length:Int))) (aj S4 x0 iF fun u2=>aj S4 x1 iF fun u8=>aA (!((u2.1.toList==u8.1.toList)&&((u2.2.1==u8.2.1)&&((u2.2.2.1==u8.2.2.1)&&((u2.2.2.2.1==u8.2.2.2.1)&&((u2.2.2.2.2.1==u8.2.2.2.2.1)&&true)))))) (some (.bool false,[])) (Oc x0 x1 (i64.wrap (iF+1)))) (some (.bool true,[])):=ll
theorem aIY (a0:bZZ) (a1:bZZ):SS.CC 92 [.sl false 5 a0,.sl false 5 a1] []=aA ((a0.length:Int) !=(a1.length:Int)) (some (.bool false,[])) (Oc a0 a1 0):=cc
def b3J:KT:=SS.rK Tryz.f93 93 0 []
def b3K:KT:=SS.jK 93 32 0 (cS Tryz.f93 15) b3J
def b3L:KT:=ak 0 b3K
def ZF (x1:bZZ) (x15:bZZ) (x17:Int):R:=SS.LL (SS.ae 93 32) 0 [1,2,15,16,17] 0 (cS Tryz.f93 75) b3L ⟨[(1,.sl false 9 x1),(2,.func (.func 102) [] []),(15,.sl false 9 x15),(16,bZV (x15.length:Int)),(17,bZV x17)],[]⟩
theorem aIZ (x1:bZZ) (x15:bZZ) (x17:Int):ZF x1 x15 x17=aA (decide (x17<(x15.length:Int))) (aj S5 x15 x17 fun u2=>aj S5 x1 x17 fun u12=>G3 102 [A5 u2,A5 u12] fun SI=>aA (!SI) (some (.bool false,[])) (ZF x1 x15 (i64.wrap (x17+1)))) (some (.bool true,[])):=ll
theorem b3M (a0:bZZ) (a1:bZZ):SS.CC 93 [.sl false 9 a0,.sl false 9 a1,.func (.func 102) [] []] []=aA ((a0.length:Int) !=(a1.length:Int)) (some (.bool false,[])) (ZF a1 a0 0):=cc
def b3N:KT:=SS.rK Tryz.f93 93 1 []
def b3O:KT:=SS.jK 93 32 1 (cS Tryz.f93 15) b3N
def b3P:KT:=ak 0 b3O
def ZG (x1:bZZ) (x15:bZZ) (x17:Int):R:=SS.LL (SS.ae 93 32) 1 [1,2,15,16,17] 1 (cS Tryz.f93 75) b3P ⟨[(1,.sl false 9 x1),(2,.func (.func 86) [] [bZX]),(15,.sl false 9 x15),(16,bZV (x15.length:Int)),(17,bZV x17)],[some [.func (.func 82) [] []]]⟩
theorem aI' (x1:bZZ) (x15:bZZ) (x17:Int):ZG x1 x15 x17=aA (decide (x17<(x15.length:Int))) (aj S5 x15 x17 fun u2=>aj S5 x1 x17 fun u12=>H27 86 [A5 u2,A5 u12,bZX] [some [.func (.func 82) [] []]] fun SI=>aA (!SI) (some (.bool false,[some [.func (.func 82) [] []]])) (ZG x1 x15 (i64.wrap (x17+1)))) (some (.bool true,[some [.func (.func 82) [] []]])):=ll
theorem b3Q (a0:bZZ) (a1:bZZ):SS.CC 93 [.sl false 9 a0,.sl false 9 a1,.func (.func 86) [] [bZX]] [some [.func (.func 82) [] []]]=aA ((a0.length:Int) !=(a1.length:Int)) (some (.bool false,[some [.func (.func 82) [] []]])) (ZG a1 a0 0):=cc
def b3R:KT:=SS.rK Tryz.f94 94 0 []
def b3S:KT:=SS.jK 94 32 0 (cS Tryz.f94 15) b3R
def b3T:KT:=ak 0 b3S
def ZH (x1:bZZ) (x15:bZZ) (x17:Int):R:=SS.LL (SS.ae 94 32) 0 [1,2,15,16,17] 0 (cS Tryz.f94 75) b3T ⟨[(1,.sl false 3 x1),(2,.func (.func 101) [] []),(15,.sl false 3 x15),(16,bZV (x15.length:Int)),(17,bZV x17)],[]⟩
theorem aJ0 (x1:bZZ) (x15:bZZ) (x17:Int):ZH x1 x15 x17=aA (decide (x17<(x15.length:Int))) (aj S8 x15 x17 fun u2=>aj S8 x1 x17 fun u6=>G3 101 [A8 u2,A8 u6] fun b9=>aA (!b9) (some (.bool false,[])) (ZH x1 x15 (i64.wrap (x17+1)))) (some (.bool true,[])):=ll
theorem b3U (a0:bZZ) (a1:bZZ):SS.CC 94 [.sl false 3 a0,.sl false 3 a1,.func (.func 101) [] []] []=aA ((a0.length:Int) !=(a1.length:Int)) (some (.bool false,[])) (ZH a1 a0 0):=cc
def b3V:KT:=SS.rK Tryz.f94 94 0 []
def b3W:KT:=SS.jK 94 32 0 (cS Tryz.f94 15) b3V
def b3X:KT:=ak 0 b3W
def ZI (x1:bZZ) (x15:bZZ) (x17:Int):R:=SS.LL (SS.ae 94 32) 0 [1,2,15,16,17] 0 (cS Tryz.f94 75) b3X ⟨[(1,.sl false 3 x1),(2,.func (.func 91) [] []),(15,.sl false 3 x15),(16,bZV (x15.length:Int)),(17,bZV x17)],[]⟩
theorem aJ1 (x1:bZZ) (x15:bZZ) (x17:Int):ZI x1 x15 x17=aA (decide (x17<(x15.length:Int))) (aj S8 x15 x17 fun u2=>aj S8 x1 x17 fun u6=>G3 91 [A8 u2,A8 u6] fun b9=>aA (!b9) (some (.bool false,[])) (ZI x1 x15 (i64.wrap (x17+1)))) (some (.bool true,[])):=ll
theorem b3Y (a0:bZZ) (a1:bZZ):SS.CC 94 [.sl false 3 a0,.sl false 3 a1,.func (.func 91) [] []] []=aA ((a0.length:Int) !=(a1.length:Int)) (some (.bool false,[])) (ZI a1 a0 0):=cc
def b3Z:KT:=SS.rK Tryz.f95 95 0 []
def b41:KT:=SS.jK 95 32 0 (cS Tryz.f95 15) b3Z
def b43:KT:=ak 0 b41
def ZJ (x1:bZZ) (x15:bZZ) (x17:Int):R:=SS.LL (SS.ae 95 32) 0 [1,2,15,16,17] 0 (cS Tryz.f95 75) b43 ⟨[(1,.sl false 2 x1),(2,.func (.func 103) [] []),(15,.sl false 2 x15),(16,bZV (x15.length:Int)),(17,bZV x17)],[]⟩
theorem aJ2 (x1:bZZ) (x15:bZZ) (x17:Int):ZJ x1 x15 x17=aA (decide (x17<(x15.length:Int))) (aj jZ x15 x17 fun u2=>aj jZ x1 x17 fun u5=>G3 103 [ve u2,ve u5] fun b7=>aA (!b7) (some (.bool false,[])) (ZJ x1 x15 (i64.wrap (x17+1)))) (some (.bool true,[])):=ll
theorem b45 (a0:bZZ) (a1:bZZ):SS.CC 95 [.sl false 2 a0,.sl false 2 a1,.func (.func 103) [] []] []=aA ((a0.length:Int) !=(a1.length:Int)) (some (.bool false,[])) (ZJ a1 a0 0):=cc
def b46:KT:=SS.rK Tryz.f95 95 0 []
def b47:KT:=SS.jK 95 32 0 (cS Tryz.f95 15) b46
def b4A:KT:=ak 0 b47
def ZK (x1:bZZ) (x15:bZZ) (x17:Int):R:=SS.LL (SS.ae 95 32) 0 [1,2,15,16,17] 0 (cS Tryz.f95 75) b4A ⟨[(1,.sl false 2 x1),(2,.func (.func 96) [] []),(15,.sl false 2 x15),(16,bZV (x15.length:Int)),(17,bZV x17)],[]⟩
theorem aJ3 (x1:bZZ) (x15:bZZ) (x17:Int):ZK x1 x15 x17=aA (decide (x17<(x15.length:Int))) (aj jZ x15 x17 fun u2=>aj jZ x1 x17 fun u5=>G3 96 [ve u2,ve u5] fun b7=>aA (!b7) (some (.bool false,[])) (ZK x1 x15 (i64.wrap (x17+1)))) (some (.bool true,[])):=ll
theorem b4B (a0:bZZ) (a1:bZZ):SS.CC 95 [.sl false 2 a0,.sl false 2 a1,.func (.func 96) [] []] []=aA ((a0.length:Int) !=(a1.length:Int)) (some (.bool false,[])) (ZK a1 a0 0):=cc
theorem b4C (a0:Sh.V jZ) (a1:Sh.V jZ):SS.CC 96 [ve a0,ve a1] []=aA (a0.1.toList==a1.1.toList) (G3 97 [.sl false 2 a0.2.1,.sl false 2 a1.2.1] fun b1=>some (.bool b1,[])) (some (.bool false,[])):=cc
def b4D:KT:=SS.rK Tryz.f97 97 0 []
def b4E:KT:=SS.jK 97 26 0 (cS Tryz.f97 15) b4D
def b4F:KT:=ak 0 b4E
def Oe (x0:bZZ) (x1:bZZ) (iF:Int):R:=SS.LL (SS.ae 97 26) 0 [0,1,12,13] 0 (cS Tryz.f97 75) b4F ⟨[(0,.sl false 2 x0),(1,.sl false 2 x1),(12,bZV (x0.length:Int)),(13,bZV iF)],[]⟩
theorem aJ4 (x0:bZZ) (x1:bZZ) (iF:Int):Oe x0 x1 iF=aA (decide (iF<(x0.length:Int))) (aj AB x0 iF fun u2=>aj AB x1 iF fun u5=>aA (!((u2.1.toList==u5.1.toList)&&((u2.2.1.toList==u5.2.1.toList)&&true))) (some (.bool false,[])) (Oe x0 x1 (i64.wrap (iF+1)))) (some (.bool true,[])):=ll
theorem aJ5 (a0:bZZ) (a1:bZZ):SS.CC 97 [.sl false 2 a0,.sl false 2 a1] []=aA ((a0.length:Int) !=(a1.length:Int)) (some (.bool false,[])) (Oe a0 a1 0):=cc
def b4G:KT:=SS.rK Tryz.f98 98 0 []
def b4H:KT:=SS.jK 98 32 0 (cS Tryz.f98 15) b4G
def b4I:KT:=ak 0 b4H
def ZL (x1:bZZ) (x15:bZZ) (x17:Int):R:=SS.LL (SS.ae 98 32) 0 [1,2,15,16,17] 0 (cS Tryz.f98 75) b4I ⟨[(1,.sl false 3 x1),(2,.func (.func 104) [] []),(15,.sl false 3 x15),(16,bZV (x15.length:Int)),(17,bZV x17)],[]⟩
theorem aJ6 (x1:bZZ) (x15:bZZ) (x17:Int):ZL x1 x15 x17=aA (decide (x17<(x15.length:Int))) (aj iy x15 x17 fun u2=>aj iy x1 x17 fun u6=>G3 104 [rD u2,rD u6] fun b9=>aA (!b9) (some (.bool false,[])) (ZL x1 x15 (i64.wrap (x17+1)))) (some (.bool true,[])):=ll
theorem b4J (a0:bZZ) (a1:bZZ):SS.CC 98 [.sl false 3 a0,.sl false 3 a1,.func (.func 104) [] []] []=aA ((a0.length:Int) !=(a1.length:Int)) (some (.bool false,[])) (ZL a1 a0 0):=cc
def b4K:KT:=SS.rK Tryz.f98 98 0 []
def b4L:KT:=SS.jK 98 32 0 (cS Tryz.f98 15) b4K
def b4M:KT:=ak 0 b4L
def ZM (x1:bZZ) (x15:bZZ) (x17:Int):R:=SS.LL (SS.ae 98 32) 0 [1,2,15,16,17] 0 (cS Tryz.f98 75) b4M ⟨[(1,.sl false 3 x1),(2,.func (.func 99) [] []),(15,.sl false 3 x15),(16,bZV (x15.length:Int)),(17,bZV x17)],[]⟩
theorem aJ7 (x1:bZZ) (x15:bZZ) (x17:Int):ZM x1 x15 x17=aA (decide (x17<(x15.length:Int))) (aj iy x15 x17 fun u2=>aj iy x1 x17 fun u6=>G3 99 [rD u2,rD u6] fun b9=>aA (!b9) (some (.bool false,[])) (ZM x1 x15 (i64.wrap (x17+1)))) (some (.bool true,[])):=ll
theorem b4N (a0:bZZ) (a1:bZZ):SS.CC 98 [.sl false 3 a0,.sl false 3 a1,.func (.func 99) [] []] []=aA ((a0.length:Int) !=(a1.length:Int)) (some (.bool false,[])) (ZM a1 a0 0):=cc
theorem b4O (a0:Sh.V iy) (a1:Sh.V iy):SS.CC 99 [rD a0,rD a1] []=aA (a0.1.toList==a1.1.toList) (aA (a0.2.2.1==a1.2.2.1) (G3 100 [.sl false 2 a0.2.1,.sl false 2 a1.2.1] fun b1=>some (.bool b1,[])) (some (.bool false,[]))) (some (.bool false,[])):=cc
def b4P:KT:=SS.rK Tryz.f100 100 0 []
def b4Q:KT:=SS.jK 100 26 0 (cS Tryz.f100 15) b4P
def b4R:KT:=ak 0 b4Q
def Og (x0:bZZ) (x1:bZZ) (iF:Int):R:=SS.LL (SS.ae 100 26) 0 [0,1,12,13] 0 (cS Tryz.f100 75) b4R ⟨[(0,.sl false 2 x0),(1,.sl false 2 x1),(12,bZV (x0.length:Int)),(13,bZV iF)],[]⟩
theorem aJ8 (x0:bZZ) (x1:bZZ) (iF:Int):Og x0 x1 iF=aA (decide (iF<(x0.length:Int))) (aj BN x0 iF fun u2=>aj BN x1 iF fun u5=>aA (!((u2.1.toList==u5.1.toList)&&((u2.2.1==u5.2.1)&&true))) (some (.bool false,[])) (Og x0 x1 (i64.wrap (iF+1)))) (some (.bool true,[])):=ll
theorem aJ9 (a0:bZZ) (a1:bZZ):SS.CC 100 [.sl false 2 a0,.sl false 2 a1] []=aA ((a0.length:Int) !=(a1.length:Int)) (some (.bool false,[])) (Og a0 a1 0):=cc
theorem b4S (a0:Sh.V S8) (a1:Sh.V S8):SS.CC 101 [A8 a0,A8 a1] []=aA (a0.1.toList==a1.1.toList) (aA (a0.2.1.toList==a1.2.1.toList) (G3 87 [bZW a0.2.2.1,bZW a1.2.2.1] fun b1=>some (.bool b1,[])) (some (.bool false,[]))) (some (.bool false,[])):=cc
theorem b4T (a0:Sh.V S5) (a1:Sh.V S5):SS.CC 102 [A5 a0,A5 a1] []=nN fun ag=>ag 1 (aA (a0.1.toList==a1.1.toList) (G3 87 [bZW a0.2.1,bZW a1.2.1] fun b1=>aA b1 (G3 87 [bZW a0.2.2.1,bZW a1.2.2.1] fun b3=>aA b3 (G3 88 [bZW a0.2.2.2.1,bZW a1.2.2.2.1] fun b5=>aA b5 (aA (a0.2.2.2.2.1==a1.2.2.2.2.1) (aA (a0.2.2.2.2.2.1==a1.2.2.2.2.2.1) (G3 88 [bZW a0.2.2.2.2.2.2.1,bZW a1.2.2.2.2.2.2.1] fun b7=>aA b7 (G3 89 [.sl false 4 a0.2.2.2.2.2.2.2.1,.sl false 4 a1.2.2.2.2.2.2.2.1] fun b9=>aA b9 (H62 90 [.sl false 8 a0.2.2.2.2.2.2.2.2.1,.sl false 8 a1.2.2.2.2.2.2.2.2.1,.func (.func 180) [] [bZX]] [some [.func (.func 179) [] []]] fun b11=>some (.bool b11,[])) (some (.bool false,[]))) (some (.bool false,[]))) (some (.bool false,[]))) (some (.bool false,[]))) (some (.bool false,[]))) (some (.bool false,[]))) (some (.bool false,[]))) (some (.bool false,[]))):=zF cc
theorem b4U (a0:Sh.V jZ) (a1:Sh.V jZ):SS.CC 103 [ve a0,ve a1] []=aA (a0.1.toList==a1.1.toList) (G3 97 [.sl false 2 a0.2.1,.sl false 2 a1.2.1] fun b1=>some (.bool b1,[])) (some (.bool false,[])):=cc
theorem b4V (a0:Sh.V iy) (a1:Sh.V iy):SS.CC 104 [rD a0,rD a1] []=aA (a0.1.toList==a1.1.toList) (aA (a0.2.2.1==a1.2.2.1) (G3 100 [.sl false 2 a0.2.1,.sl false 2 a1.2.1] fun b1=>some (.bool b1,[])) (some (.bool false,[]))) (some (.bool false,[])):=cc
theorem b8W (h2:Sh.V AC) (h3:Sh.V iP) (h4:Sh.V aH):SS.CC 145 [bZX,.ptr 1 0] [some [.ptr 2 0],some [.ptr 3 0],kR h2,bJ h3,aB h4]=Gs 146 [bZX,.ptr 1 0] [aY h2,bJ h3,aB h4] fun _ u1 u3 u10=>some (.tuple [],[some [.ptr 2 0],some [.ptr 3 0],kR u1,bJ u3,aB u10]):=cc
theorem b8' (h2:Sh.V AC) (h3:Sh.V iP) (h4:Sh.V aH):SS.CC 147 [bZX,.ptr 1 0] [some [.ptr 2 0],some [.ptr 3 0],kR h2,bJ h3,aB h4]=Gs 148 [bZX,.ptr 1 0] [aY h2,bJ h3,aB h4] fun _ u1 u3 u10=>some (.tuple [],[some [.ptr 2 0],some [.ptr 3 0],kR u1,bJ u3,aB u10]):=cc
def aKF:KT:=SS.rK Tryz.f148 148 3 []
def b91:KT:=SS.jK 148 87 3 (cS Tryz.f148 127) aKF
def b92:KT:=ak 0 b91
def yG (q0:Sh.V bn) (q1:Sh.V iP) (q2:Sh.V aH) (q4:Sh.V gW) (zi:Bool):R:=SS.LL (SS.ae 148 87) 3 [1,2,4,5] 6 (cS Tryz.f148 287) b92 ⟨[(1,.ptr 1 0),(2,.ptr 3 0),(4,.ptr 4 0),(5,.ptr 5 0)],[aY q0,bJ q1,aB q2,some [bZX],fM q4,nM (zi,())]⟩
def a7B (q0:Sh.V bn) (q1:Sh.V iP) (q2:Sh.V aH) (q4:Sh.V gW):R:=bH (SS.xX 148 87 3) (cS Tryz.f148 127) aKF ⟨[(1,.ptr 1 0),(2,.ptr 3 0),(4,.ptr 4 0)],[aY q0,bJ q1,aB q2,some [bZX],fM q4]⟩
theorem Zd (q0:Sh.V bn) (q1:Sh.V iP) (q2:Sh.V aH) (q4:Sh.V gW) (zi:Bool):yG q0 q1 q2 q4 zi=RX 34 [bZX] [au q0,aB q2] fun b1 u2 u4=>aA b1 (jY 193 [bZX,.str ⟨#[125]⟩] [aB u4] fun b10 u11=>aA (!b10) (jY 143 [bZX,.str ⟨#[108,111,99,97,116,105,111,110]⟩] [aB u11] fun b17 lG=>aA b17 (H80 230 [bZX,.ptr 1 0,.ptr 2 0] [fV u2,fM q4,nM (zi,()),aB lG] fun _ u24 u26 u35 u36=>yG u24 q1 u36 u26 u35.1) (jY 143 [bZX,.str ⟨#[118,97,114]⟩] [aB lG] fun b42 u43=>aA b42 (H81 231 [bZX,.ptr 1 0] [aY u2,fM q4,aB u43] fun _ u49 u51 u60=>yG u49 q1 u60 u51 zi) (jY 143 [bZX,.str ⟨#[101,100,103,101]⟩] [aB u43] fun b66 u67=>aA b66 (H81 232 [bZX,.ptr 1 0] [aY u2,fM q4,aB u67] fun _ u73 u75 MO=>yG u73 q1 MO u75 zi) (eX 37 [bZX,bZV 14] [aB u67] fun _ Wj=>yG u2 q1 Wj q4 zi)))) (a7B u2 q1 u11 q4)) (a7B u2 q1 u4 q4):=ll
theorem b90 (q0:Sh.V bn) (q1:Sh.V iP) (q2:Sh.V aH) (q4:Sh.V gW):a7B q0 q1 q2 q4=eX 32 [bZX,.str ⟨#[125]⟩] [aB q2] fun _ u1=>G4 161 [bZV (q4.2.2.1.length:Int)] fun l7=>chk (decide (q1.2.2.1.length+1<=aO)) (some (.tuple [],[aY q0,bJ (q1.1,q1.2.1,(q1.2.2.1 ++ ([A5 (q4.1,q4.2.1,q4.2.2.1,l7,(q4.2.1.length:Int),q4.2.2.2.2.2.1,q4.2.2.2.2.2.2.1,q4.2.2.2.2.2.2.2.1,q4.2.2.2.2.2.2.2.2.1,())]:bZZ)),q1.2.2.2.1,q1.2.2.2.2.1,q1.2.2.2.2.2.1,q1.2.2.2.2.2.2.1,()),aB u1])):=by kernel_rfl
theorem b93 (h0:Sh.V bn) (h1:Sh.V iP) (h2:Sh.V aH):SS.CC 148 [bZX,.ptr 1 0] [aY h0,bJ h1,aB h2]=nN fun ag=>G4 42 [.sl false 9 h1.2.2.1,.func (.func 227) [] []] fun l1=>ag 1 (D9 222 [bZX,bZW l1] [au h0,aB h2] fun s3 u4 u6=>H83 228 [bZX,.func (.func 229) [] [.ptr 1 0,.ptr 2 0]] [fV u4,fM (s3,[],[],[],0,0,[],[],[],()),some [bZX],aB u6] fun _ u12 u14 u23=>eX 32 [bZX,.str ⟨#[123]⟩] [aB u23] fun _ u29=>yG u12 h1 u29 u14 false):=zF cc
theorem b94 (h2:Sh.V AC) (h3:Sh.V iP) (h4:Sh.V aH):SS.CC 149 [bZX,.ptr 1 0] [some [.ptr 2 0],some [.ptr 3 0],kR h2,bJ h3,aB h4]=Gs 150 [bZX,.ptr 1 0,.ptr 1 3] [aY h2,bJ h3,aB h4] fun _ u1 u3 u10=>some (.tuple [],[some [.ptr 2 0],some [.ptr 3 0],kR u1,bJ u3,aB u10]):=cc
theorem b96 (h0:Sh.V bn) (h1:Sh.V iP) (h2:Sh.V aH):SS.CC 150 [bZX,.ptr 1 0,.ptr 1 4] [aY h0,bJ h1,aB h2]=nN fun ag=>RP 39 [.sl false 3 h1.2.2.2.1] fun l1=>chk (decide (l1.length+h1.2.2.2.2.1.length<=aO)) (G4 40 [.sl false 3 (l1 ++ h1.2.2.2.2.1),.func (.func 233) [] []] fun l3=>ag 1 (D9 222 [bZX,bZW l3] [au h0,aB h2] fun s5 u6 u8=>eX 32 [bZX,.str ⟨#[61]⟩] [aB u8] fun _ u14=>BI 33 [bZX] [aB u14] fun s20 u21=>H84 228 [bZX,.func (.func 234) [] [.ptr 1 0,.ptr 2 0]] [fV u6,nK (s5,s20,[],()),some [bZX],aB u21] fun _ u27 u29 u32=>eX 32 [bZX,.str ⟨#[59]⟩] [aB u32] fun _ u38=>chk (decide (h1.2.2.2.2.1.length+1<=aO)) (some (.tuple [],[aY u27,bJ (h1.1,h1.2.1,h1.2.2.1,h1.2.2.2.1,(h1.2.2.2.2.1 ++ ([A8 u29]:bZZ)),h1.2.2.2.2.2.1,h1.2.2.2.2.2.2.1,()),aB u38])))):=zF cc
theorem b95 (h0:Sh.V bn) (h1:Sh.V iP) (h2:Sh.V aH):SS.CC 150 [bZX,.ptr 1 0,.ptr 1 3] [aY h0,bJ h1,aB h2]=nN fun ag=>RP 39 [.sl false 3 h1.2.2.2.1] fun l1=>chk (decide (l1.length+h1.2.2.2.2.1.length<=aO)) (G4 40 [.sl false 3 (l1 ++ h1.2.2.2.2.1),.func (.func 233) [] []] fun l3=>ag 1 (D9 222 [bZX,bZW l3] [au h0,aB h2] fun s5 u6 u8=>eX 32 [bZX,.str ⟨#[61]⟩] [aB u8] fun _ u14=>BI 33 [bZX] [aB u14] fun s20 u21=>H84 228 [bZX,.func (.func 234) [] [.ptr 1 0,.ptr 2 0]] [fV u6,nK (s5,s20,[],()),some [bZX],aB u21] fun _ u27 u29 u32=>eX 32 [bZX,.str ⟨#[59]⟩] [aB u32] fun _ u38=>chk (decide (h1.2.2.2.1.length+1<=aO)) (some (.tuple [],[aY u27,bJ (h1.1,h1.2.1,h1.2.2.1,(h1.2.2.2.1 ++ ([A8 u29]:bZZ)),h1.2.2.2.2.1,h1.2.2.2.2.2.1,h1.2.2.2.2.2.2.1,()),aB u38])))):=zF cc
theorem b97 (h2:Sh.V AC) (h3:Sh.V iP) (h4:Sh.V aH):SS.CC 151 [bZX,.ptr 1 0] [some [.ptr 2 0],some [.ptr 3 0],kR h2,bJ h3,aB h4]=Gs 150 [bZX,.ptr 1 0,.ptr 1 4] [aY h2,bJ h3,aB h4] fun _ u1 u3 u10=>some (.tuple [],[some [.ptr 2 0],some [.ptr 3 0],kR u1,bJ u3,aB u10]):=cc
theorem b98 (h2:Sh.V AC) (h3:Sh.V iP) (h4:Sh.V aH):SS.CC 152 [bZX,.ptr 1 0] [some [.ptr 2 0],some [.ptr 3 0],kR h2,bJ h3,aB h4]=Gs 153 [bZX,.ptr 1 0] [aY h2,bJ h3,aB h4] fun _ u1 u3 u10=>some (.tuple [],[some [.ptr 2 0],some [.ptr 3 0],kR u1,bJ u3,aB u10]):=cc
theorem b9A (h0:Sh.V bn) (h1:Sh.V iP) (h2:Sh.V aH):SS.CC 153 [bZX,.ptr 1 0] [aY h0,bJ h1,aB h2]=nN fun ag=>G4 44 [.sl false 2 h1.2.2.2.2.2.1,.func (.func 235) [] []] fun l1=>ag 1 (D9 222 [bZX,bZW l1] [au h0,aB h2] fun s3 u4 u6=>eX 32 [bZX,.str ⟨#[58]⟩] [aB u6] fun _ u12=>H86 236 [bZX,.func (.func 237) [] [.ptr 1 0,.ptr 2 0]] [aB u12,some [.ptr 3 0],vg (s3,[],()),kH u4] fun _ lG u22 u24=>eX 32 [bZX,.str ⟨#[59]⟩] [aB lG] fun _ u28=>chk (decide (h1.2.2.2.2.2.1.length+1<=aO)) (some (.tuple [],[aY u24,bJ (h1.1,h1.2.1,h1.2.2.1,h1.2.2.2.1,h1.2.2.2.2.1,(h1.2.2.2.2.2.1 ++ ([ve u22]:bZZ)),h1.2.2.2.2.2.2.1,()),aB u28]))):=zF cc
theorem b9B (h2:Sh.V AC) (h3:Sh.V iP) (h4:Sh.V aH):SS.CC 154 [bZX,.ptr 1 0] [some [.ptr 2 0],some [.ptr 3 0],kR h2,bJ h3,aB h4]=Gs 155 [bZX,.ptr 1 0] [aY h2,bJ h3,aB h4] fun _ u1 u3 u10=>some (.tuple [],[some [.ptr 2 0],some [.ptr 3 0],kR u1,bJ u3,aB u10]):=cc
def aKG:KT:=SS.rK Tryz.f155 155 3 []
def b9D:KT:=SS.jK 155 73 3 (cS Tryz.f155 15) aKG
def b9E:KT:=ak 0 b9D
def KI (q0:Sh.V bn) (q1:Sh.V iP) (q2:Sh.V aH) (dJ:bZY) (x5:Bool) (Af:bZZ):R:=SS.LL (SS.ae 155 73) 3 [0,1,4,5] 4 (cS Tryz.f155 75) b9E ⟨[(0,bZX),(1,.ptr 1 0),(4,.ptr 3 0),(5,.bool x5)],[aY q0,bJ q1,aB q2,O64 (dJ,Af,0,())]⟩
def a7C (q0:Sh.V bn) (q1:Sh.V iP) (q2:Sh.V aH) (dJ:bZY) (Af:bZZ):R:=bH (SS.xX 155 73 3) (cS Tryz.f155 15) aKG ⟨[(0,bZX),(1,.ptr 1 0),(4,.ptr 3 0)],[aY q0,bJ q1,aB q2,O64 (dJ,Af,0,())]⟩
theorem aKH (q0:Sh.V bn) (q1:Sh.V iP) (q2:Sh.V aH) (dJ:bZY) (x5:Bool) (Af:bZZ):KI q0 q1 q2 dJ x5 Af=aA x5 (RX 34 [bZX] [au q0,aB q2] fun b1 u2 u4=>aA b1 (BK 239 [bZX] [au u2,aB u4] fun n10 u11 u13=>eX 32 [bZX,.str ⟨#[42]⟩] [aB u13] fun _ uD=>BI 33 [bZX] [aB uD] fun s25 u26=>chk (decide (Af.length+1<=aO)) (jY 143 [bZX,.str ⟨#[43]⟩] [aB u26] fun b32 u33=>KI u11 q1 u33 dJ b32 (Af ++ ([XL (s25,n10,())]:bZZ)))) (a7C u2 q1 u4 dJ Af)) (a7C q0 q1 q2 dJ Af):=ll
theorem b9C (q0:Sh.V bn) (q1:Sh.V iP) (q2:Sh.V aH) (dJ:bZY) (Af:bZZ):a7C q0 q1 q2 dJ Af=eX 32 [bZX,.str ⟨#[60,61]⟩] [aB q2] fun _ u1=>BK 239 [bZX] [au q0,aB u1] fun n7 u8 u10=>eX 32 [bZX,.str ⟨#[59]⟩] [aB u10] fun _ u16=>chk (decide (q1.2.2.2.2.2.2.1.length+1<=aO)) (some (.tuple [],[aY u8,bJ (q1.1,q1.2.1,q1.2.2.1,q1.2.2.2.1,q1.2.2.2.2.1,q1.2.2.2.2.2.1,(q1.2.2.2.2.2.2.1 ++ ([rD (dJ,Af,n7,())]:bZZ)),()),aB u16])):=by kernel_rfl
theorem b9F (h0:Sh.V bn) (h1:Sh.V iP) (h2:Sh.V aH):SS.CC 155 [bZX,.ptr 1 0] [aY h0,bJ h1,aB h2]=G4 46 [.sl false 3 h1.2.2.2.2.2.2.1,.func (.func 238) [] []] fun l1=>D9 222 [bZX,bZW l1] [au h0,aB h2] fun s3 u4 u6=>eX 32 [bZX,.str ⟨#[58]⟩] [aB u6] fun _ u12=>KI u4 h1 u12 s3 true []:=cc
theorem b9G (a0:Sh.V qO) (a1:Sh.V qO):SS.CC 179 [BF a0,BF a1] []=aA (a0.1==a1.1) (G3 83 [A1 (a0.2.1,a0.2.2.1,a0.2.2.2.1,a0.2.2.2.2.1,()),A1 (a1.2.1,a1.2.2.1,a1.2.2.2.1,a1.2.2.2.2.1,())] fun b1=>some (.bool b1,[])) (some (.bool false,[])):=cc
theorem b9H (a0:Sh.V S9) (a1:Sh.V S9):SS.CC 180 [A9 a0,A9 a1,bZX] [some [.func (.func 179) [] []]]=aA (a0.1==a1.1) (aA (a0.2.1==a1.2.1) (aA (a0.2.2.1==a1.2.2.1) (G3 83 [A1 (a0.2.2.2.1,a0.2.2.2.2.1,a0.2.2.2.2.2.1,a0.2.2.2.2.2.2.1,()),A1 (a1.2.2.2.1,a1.2.2.2.2.1,a1.2.2.2.2.2.1,a1.2.2.2.2.2.2.1,())] fun b1=>aA b1 (G3 84 [.sl false 5 a0.2.2.2.2.2.2.2.1,.sl false 5 a1.2.2.2.2.2.2.2.1,.func (.func 179) [] []] fun b3=>some (.bool b3,[some [.func (.func 179) [] []]])) (some (.bool false,[some [.func (.func 179) [] []]]))) (some (.bool false,[some [.func (.func 179) [] []]]))) (some (.bool false,[some [.func (.func 179) [] []]]))) (some (.bool false,[some [.func (.func 179) [] []]])):=cc
def bAT:KT:=SS.rK Tryz.f222 222 2 []
def Zg (q0:Sh.V eH) (q1:Sh.V aH):R:=bH (SS.xX 222 30 2) (cS Tryz.f222 7) bAT ⟨[(0,bZX)],[au q0,aB q1]⟩
theorem bAS (q0:Sh.V eH) (q1:Sh.V aH):Zg q0 q1=BI 33 [bZX] [aB q1] fun s1 u2=>some (.str s1,[au q0,aB u2]):=by kernel_rfl
theorem bAU (a1:bZZ) (h0:Sh.V eH) (h1:Sh.V aH):SS.CC 222 [bZX,bZW a1] [au h0,aB h1]=jv 35 [bZX] [aB h1] fun u1 u6=>aA (u1.1==1) (G3 156 [bZW a1,.str u1.2.1] fun b12=>aA b12 (eX 37 [bZX,bZV 8] [aB u6] fun _ u14=>Zg h0 u14) (Zg h0 u6)) (Zg h0 u6):=cc
theorem bB5 (a0:Sh.V S5):SS.CC 227 [A5 a0] []=some (.str a0.1,[]):=cc
theorem bB6 (h0:Sh.V gY) (h1:Sh.V mZ) (h3:Sh.V aH):SS.CC 228 [bZX,.func (.func 234) [] [.ptr 1 0,.ptr 2 0]] [fV h0,nK h1,some [bZX],aB h3]=eX 32 [bZX,.str ⟨#[40]⟩] [aB h3] fun _ u1=>jY 193 [bZX,.str ⟨#[41]⟩] [aB u1] fun b7 u8=>aA (!b7) (aEH 236 [bZX,.func (.func 234) [] [.ptr 1 0,.ptr 2 0]] [aB u8,nK h1,some [.ptr 3 0],kH h0] fun _ u14 lG u21=>eX 32 [bZX,.str ⟨#[41]⟩] [aB u14] fun _ u25=>some (.tuple [],[fV u21,nK lG,some [bZX],aB u25])) (eX 32 [bZX,.str ⟨#[41]⟩] [aB u8] fun _ u31=>some (.tuple [],[fV h0,nK h1,some [bZX],aB u31])):=cc
theorem bB7 (h0:Sh.V gY) (h1:Sh.V gW) (h3:Sh.V aH):SS.CC 228 [bZX,.func (.func 229) [] [.ptr 1 0,.ptr 2 0]] [fV h0,fM h1,some [bZX],aB h3]=eX 32 [bZX,.str ⟨#[40]⟩] [aB h3] fun _ u1=>jY 193 [bZX,.str ⟨#[41]⟩] [aB u1] fun b7 u8=>aA (!b7) (H97 236 [bZX,.func (.func 229) [] [.ptr 1 0,.ptr 2 0]] [aB u8,fM h1,some [.ptr 3 0],kH h0] fun _ u14 lG u27=>eX 32 [bZX,.str ⟨#[41]⟩] [aB u14] fun _ u31=>some (.tuple [],[fV u27,fM lG,some [bZX],aB u31])) (eX 32 [bZX,.str ⟨#[41]⟩] [aB u8] fun _ u37=>some (.tuple [],[fV h0,fM h1,some [bZX],aB u37])):=cc
theorem bBI (a0:Sh.V S8):SS.CC 233 [A8 a0] []=some (.str a0.1,[]):=cc
theorem bBJ (h0:Sh.V mZ) (h2:Sh.V gY) (h3:Sh.V aH):SS.CC 234 [bZX,.ptr 1 0] [nK h0,some [.ptr 2 0],fV h2,aB h3]=nN fun ag=>(fun z0 z1=>dD z0 (dD z0 z1)) (BI 33 [bZX] [aB h3] fun s1 u2=>chk (decide (h0.2.2.1.length+1<=aO)) (some (.tuple [],[nK (h0.1,h0.2.1,(h0.2.2.1 ++ ([.str s1]:bZZ)),()),some [.ptr 2 0],fV h2,aB u2]))) (ag 1 (BI 33 [bZX] [aB h3] fun s1 u2=>chk (decide (h0.2.2.1.length+1<=aO)) (some (.tuple [],[nK (h0.1,h0.2.1,(h0.2.2.1 ++ ([.str s1]:bZZ)),()),some [.ptr 2 0],fV h2,aB u2])))):=zF cc
theorem bBK (a0:Sh.V jZ):SS.CC 235 [ve a0] []=some (.str a0.1,[]):=cc
def bBU:KT:=SS.rK Tryz.f236 236 4 []
def bBV:KT:=ak 0 bBU
def Zp (q0:Sh.V aH) (q1:Sh.V mZ) (q3:Sh.V jh):R:=SS.LL (SS.ae 236 19) 4 [0,1] 4 (cS Tryz.f236 19) bBV ⟨[(0,bZX),(1,.func (.func 234) [] [.ptr 1 0,.ptr 2 0])],[aB q0,nK q1,some [.ptr 3 0],kH q3]⟩
theorem aL3 (q0:Sh.V aH) (q1:Sh.V mZ) (q3:Sh.V jh):Zp q0 q1 q3=aA (q0.2.2.2.1==0) (jY 143 [bZX,.str ⟨#[44]⟩] [aB q0] fun b1 u2=>aA b1 (a4Q 234 [bZX,.ptr 1 0] [nK q1,some [.ptr 2 0],fV q3,aB u2] fun _ u8 u11 u13=>Zp u13 u8 u11) (some (.tuple [],[aB u2,nK q1,some [.ptr 3 0],kH q3]))) (some (.tuple [],[aB q0,nK q1,some [.ptr 3 0],kH q3])):=ll
theorem bBW (h0:Sh.V aH) (h1:Sh.V mZ) (h3:Sh.V jh):SS.CC 236 [bZX,.func (.func 234) [] [.ptr 1 0,.ptr 2 0]] [aB h0,nK h1,some [.ptr 3 0],kH h3]=a4Q 234 [bZX,.ptr 1 0] [nK h1,some [.ptr 2 0],fV h3,aB h0] fun _ u1 u4 u6=>Zp u6 u1 u4:=cc
def bBL:KT:=SS.rK Tryz.f236 236 4 []
def bBM:KT:=ak 0 bBL
def Zn (q0:Sh.V aH) (q2:Sh.V sU) (q3:Sh.V jh):R:=SS.LL (SS.ae 236 19) 4 [0,1] 4 (cS Tryz.f236 19) bBM ⟨[(0,bZX),(1,.func (.func 237) [] [.ptr 1 0,.ptr 2 0])],[aB q0,some [.ptr 3 0],vg q2,kH q3]⟩
theorem aL0 (q0:Sh.V aH) (q2:Sh.V sU) (q3:Sh.V jh):Zn q0 q2 q3=aA (q0.2.2.2.1==0) (jY 143 [bZX,.str ⟨#[44]⟩] [aB q0] fun b1 u2=>aA b1 (a4N 237 [bZX,.ptr 1 0] [some [.ptr 2 0],vg q2,fV q3,aB u2] fun _ u8 u10 u12=>Zn u12 u8 u10) (some (.tuple [],[aB u2,some [.ptr 3 0],vg q2,kH q3]))) (some (.tuple [],[aB q0,some [.ptr 3 0],vg q2,kH q3])):=ll
theorem bBN (h0:Sh.V aH) (h2:Sh.V sU) (h3:Sh.V jh):SS.CC 236 [bZX,.func (.func 237) [] [.ptr 1 0,.ptr 2 0]] [aB h0,some [.ptr 3 0],vg h2,kH h3]=a4N 237 [bZX,.ptr 1 0] [some [.ptr 2 0],vg h2,fV h3,aB h0] fun _ u1 u3 u5=>Zn u5 u1 u3:=cc
def bBO:KT:=SS.rK Tryz.f236 236 4 []
def bBP:KT:=ak 0 bBO
def Zo (q0:Sh.V aH) (q1:Sh.V gW) (q3:Sh.V jh):R:=SS.LL (SS.ae 236 19) 4 [0,1] 4 (cS Tryz.f236 19) bBP ⟨[(0,bZX),(1,.func (.func 229) [] [.ptr 1 0,.ptr 2 0])],[aB q0,fM q1,some [.ptr 3 0],kH q3]⟩
theorem aL1 (q0:Sh.V aH) (q1:Sh.V gW) (q3:Sh.V jh):Zo q0 q1 q3=aA (q0.2.2.2.1==0) (jY 143 [bZX,.str ⟨#[44]⟩] [aB q0] fun b1 u2=>aA b1 (a4O 229 [bZX,.ptr 1 0] [fM q1,some [.ptr 2 0],fV q3,aB u2] fun _ u8 wV uD=>Zo uD u8 wV) (some (.tuple [],[aB u2,fM q1,some [.ptr 3 0],kH q3]))) (some (.tuple [],[aB q0,fM q1,some [.ptr 3 0],kH q3])):=ll
theorem bBQ (h0:Sh.V aH) (h1:Sh.V gW) (h3:Sh.V jh):SS.CC 236 [bZX,.func (.func 229) [] [.ptr 1 0,.ptr 2 0]] [aB h0,fM h1,some [.ptr 3 0],kH h3]=a4O 229 [bZX,.ptr 1 0] [fM h1,some [.ptr 2 0],fV h3,aB h0] fun _ u1 u10 u12=>Zo u12 u1 u10:=cc
def bBR:KT:=SS.rK Tryz.f236 236 4 []
def bBS:KT:=ak 0 bBR
def U7 (q0:Sh.V aH) (q2:Sh.V rM) (q3:Sh.V jh):R:=SS.LL (SS.ae 236 19) 4 [0,1] 4 (cS Tryz.f236 19) bBS ⟨[(0,bZX),(1,.func (.func 287) [] [.ptr 1 0,.ptr 2 0])],[aB q0,some [.ptr 3 0],sS q2,kH q3]⟩
theorem aL2 (q0:Sh.V aH) (q2:Sh.V rM) (q3:Sh.V jh):U7 q0 q2 q3=aA (q0.2.2.2.1==0) (jY 143 [bZX,.str ⟨#[44]⟩] [aB q0] fun b1 u2=>aA b1 (a4P 287 [bZX,.ptr 1 0] [some [.ptr 2 0],sS q2,fV q3,aB u2] fun _ u8 u16 lG=>U7 lG u8 u16) (some (.tuple [],[aB u2,some [.ptr 3 0],sS q2,kH q3]))) (some (.tuple [],[aB q0,some [.ptr 3 0],sS q2,kH q3])):=ll
theorem bBT (h0:Sh.V aH) (h2:Sh.V rM) (h3:Sh.V jh):SS.CC 236 [bZX,.func (.func 287) [] [.ptr 1 0,.ptr 2 0]] [aB h0,some [.ptr 3 0],sS h2,kH h3]=a4P 287 [bZX,.ptr 1 0] [some [.ptr 2 0],sS h2,fV h3,aB h0] fun _ u1 u9 u11=>U7 u11 u1 u9:=cc
theorem bBX (h1:Sh.V sU) (h2:Sh.V gY) (h3:Sh.V aH):SS.CC 237 [bZX,.ptr 1 0] [some [.ptr 2 0],vg h1,fV h2,aB h3]=BI 33 [bZX] [aB h3] fun s1 u2=>BI 33 [bZX] [aB u2] fun s8 u9=>chk (decide (h1.2.1.length+1<=aO)) (some (.tuple [],[some [.ptr 2 0],vg (h1.1,(h1.2.1 ++ ([NK (s1,s8,())]:bZZ)),()),fV h2,aB u9])):=cc
theorem bBY (a0:Sh.V iy):SS.CC 238 [rD a0] []=some (.str a0.1,[]):=cc
theorem bBZ (h0:Sh.V eH) (h1:Sh.V aH):SS.CC 239 [bZX] [au h0,aB h1]=NZ 226 [bZX,bZV (-65536),bZV 65536] [aB h1] fun n1 u2=>some (bZV n1,[au h0,aB u2]):=cc
end
end Go.Proofs.YtilpiopkekkbiaaGreatDoor.W
namespace Go.Proofs.YtilpiopkekkbiaaGreatDoor.W.P
open Go.RowKit
set_option maxRecDepth 1000000
variable {A:RA}
abbrev pc (d:Int) (v:bZZ):Sh.V eH:=(d,v,())
theorem opc (h:A.ok) (d:Int) (v:bZZ) (lv:Int) (hl:0<lv):∃ o x,SS.CC 246 [bZX,bZV lv] [au (pc d v),aB A.v]=some (.tuple [bZV o,.bool x,.bool (A.Fa lv)],[au (pc d v),aB A.v])/\(A.Fa lv=true->o=(kW A.pk.text).2.1/\x=(kW A.pk.text).2.2):=by
 rw[bAI,jL (peek h)];dsimp only;unfold RA.Fa;by_cases h3:A.pk.kind=3
 .rw[show (A.pk.kind != 3)=false by simp[h3],aC,show (A.pk.kind==3)=true by simp[h3]];have:=opm _ (aSI h h3) lv (fun a b c=>some (.tuple [bZV b,.bool c,.bool (a==lv)],[au (pc d v),aB A.v])) (some (.tuple [bZV 0,.bool false,.bool false],[au (pc d v),aB A.v]));rw[this];by_cases h0:(kW A.pk.text).1=0
  .rw[aX h0];refine ⟨0,false,?_,?_⟩
   .rw[h0,show ((0:Int)==lv)=false by simp; omega]; rfl
   grind
  grind
 .rw[show (A.pk.kind != 3)=true by simp[h3],aI,show (A.pk.kind==3)=false by simp[h3]];simp
theorem knc (h:A.ok) (q:Sh.V eH) (l:List bZY) (hl:l.length<1000000000000):SS.CC 286 [bZX,bZW (rq l)] [au q,aB A.v]=some (bZV (A.PP l),[au q,aB (A.kn l).v]):=by
 rw[bCT,jL (peek h)];try dsimp only
 rw[cZ (aNQ l hl _),jL (peek h)];try dsimp only
 unfold RA.kn RA.PP;by_cases hk:A.pk.kind=1
 .rw[show (A.pk.kind==1)=true by simp[hk],aI];by_cases hi:qU (bs A.pk.text) l 0<0
  .rw[aN hi,aI,jJ (Jt h 9),bL0 hk hi];try dsimp only
   rw[a7K,BJ (a1Y (h.fail 9))]
  .rw[aW hi,aC,a95 (fun c=>hi c.2),a7K,BJ (a1Y h)]
 .rw[show (A.pk.kind==1)=false by simp[hk],aC,a95 (fun c=>hk c.1),a7K,BJ (a1Y h)]
theorem a'K (d:Int) (v:bZZ) (A:RA) (h1:0<=d) (h2:d<32):SS.CC 304 [bZX] [some [.ptr 1 0],aY (pc (d+1) v),aB A.v]=some (.tuple [],[some [.ptr 1 0],aY (pc d v),aB A.v]):=by rw[bDE];grind [wrap64]
theorem a1Z {g:FuncId} {v:bZZ} {B:RA} {x:EX} {d:Int} (h1:0<=d) (h2:d<32) (h:A.ok) 
 (he:∀ (h0:Sh.V bn) (h2:Sh.V aH),SS.CC 288 [bZX,.func (.func g) [] [.ptr 1 0]] [aY h0,some [bZX],aB h2]=aA (h0.1==32) (eX 37 [bZX,bZV 3] [aB h2] fun _ u1=>some (A1 (0,0,0,[],()),[aY h0,some [bZX],aB u1])) (jv 144 [bZX] [aB h2] fun u7 u12=>RU g [bZX] [some [.ptr 1 0],aY (i64.wrap (h0.1+1),h0.2.1,()),aB u12] fun lG u22 u24=>RV 304 [bZX] [some [.ptr 1 0],aY u22,aB u24] fun _ u30 u32=>some (A1 lG,[aY u30,some [bZX],aB u32])))
 (hg:SS.CC g [bZX] [some [.ptr 1 0],aY (pc (d+1) v),aB A.next.v]=some (A1 (ev x),[some [.ptr 1 0],aY (pc (d+1) v),aB B.v])) :
 SS.CC 288 [bZX,.func (.func g) [] [.ptr 1 0]] [aY (pc d v),some [bZX],aB A.v]=some (A1 (ev x),[aY (pc d v),some [bZX],aB B.v]):=by
 rw[he,show ((pc d v).1==32)=false by simp; omega,aC,jL (next h)];try dsimp only
 rw[show i64.wrap (d+1)=d+1 from wrap64 (by omega) (by omega),aWJ hg];try dsimp only
 rw[aWK (a'K d v B h1 h2)]
end Go.Proofs.YtilpiopkekkbiaaGreatDoor.W.P
namespace Go.Proofs.YtilpiopkekkbiaaGreatDoor.W
open Go.RowKit
set_option maxRecDepth 1000000
abbrev dl (v:Int):Nat:=(Lib.decDigits v.toNat).length
def wtT (t:Tok):Nat:=if t.kind=2 then dl t.value+1 else t.text.length+1
def wts:List Tok->Nat
 | []=>0
 | t::T=>wtT t+wts T
def RA.W (A:RA):Nat:=if A.e=0 then wts A.toks else 0
section
variable {A:RA}
end
end Go.Proofs.YtilpiopkekkbiaaGreatDoor.W
namespace Go.Proofs.YtilpiopkekkbiaaGreatDoor.W.P
open Go.RowKit
set_option maxRecDepth 1000000
section
variable {F:MF} {v:bZZ} {d:Int} {A B:RA} {x:EX}
theorem aYS (e1:SS.CC 245 [bZX] [au (pc d v),aB A.v]=some (A1 (ev x),[au (pc d v),aB B.v])):SS.CC 289 [bZX] [some [.ptr 1 0],aY (pc d v),aB A.v]=some (A1 (ev (kN 10 x)),[some [.ptr 1 0],aY (pc d v),aB B.v]):=by rw[bCQ,zC e1,ev1]
theorem aYV (hB:B.ok) (e1:SS.CC 106 [bZX] [au (pc d v),aB A.v]=some (A1 (ev x),[au (pc d v),aB B.v])):SS.CC 291 [bZX] [some [.ptr 1 0],aY (pc d v),aB A.v]=some (A1 (ev x),[some [.ptr 1 0],aY (pc d v),aB (B.exp [41]).v]):=by
 rw[bCR,zC e1];try dsimp only
 rw[jJ (a_K hB)]
theorem aYT (h:A.ok) (hk:A.pk.kind≠2) (e1:SS.CC 245 [bZX] [au (pc d v),aB A.v]=some (A1 (ev x),[au (pc d v),aB B.v])):SS.CC 290 [bZX] [some [.ptr 1 0],aY (pc d v),aB A.v]=some (A1 (ev (kN 5 x)),[some [.ptr 1 0],aY (pc d v),aB B.v]):=by
 rw[aLA,jL (peek h)];try dsimp only
 rw[show (A.pk.kind==2)=false by grind,aC,zC e1,ev1]
theorem aYU (h:A.ok) (hk:A.pk.kind=2):SS.CC 290 [bZX] [some [.ptr 1 0],aY (pc d v),aB A.v]=some (A1 (ev (nE (i64.wrap (0-A.pk.value)))),[some [.ptr 1 0],aY (pc d v),aB A.next.v]):=by
 rw[aLA,jL (peek h)];try dsimp only
 rw[show (A.pk.kind==2)=true by simp[hk],aI,XY (a0T h 0 65536),(a0S h hk).1,(a0S h hk).2,Jo]
end
section
variable {F:MF} {l:List bZY} {d:Int}
theorem aPT {A B:RA} {lv:Int} {x x1:EX} {v:bZZ} (h:A.ok) (h0:0<lv) (h6:lv<6) (c:A.Fa lv=true) (hx:(kW A.pk.text).2.2=false)
 (e:SS.CC 181 [bZX,bZV (lv+1)] [au (pc d v),aB A.next.v]=some (A1 (ev x1),[au (pc d v),aB B.v])) :
 KH lv (pc d v) A.v (ev x)=aA (lv==3) (some (A1 (ev (lS (kW A.pk.text).2.1 x x1)),[au (pc d v),aB B.v])) (KH lv (pc d v) B.v (ev (lS (kW A.pk.text).2.1 x x1))):=by
 obtain ⟨o,xc,e1,e2⟩:=opc h d v lv h0;obtain ⟨e3,e4⟩:=e2 c;rw[hx] at e4;subst e3 e4;rw[aK6,aEO e1];try dsimp only
 rw[c,Ed,aC,jL (next h)];try dsimp only
 rw[wrap64 (by omega) (by omega),zC e];try dsimp only
 rw[aC,aQ (aZQ (ev x) (ev x1)),aZP,b88,Ye]
theorem bL4 {A:RA} {lv:Int} {x:EX} {v:bZZ} (h:A.ok) (h0:0<lv) (c:A.Fa lv=false):KH lv (pc d v) A.v (ev x)=some (A1 (ev x),[au (pc d v),aB A.v]):=by
 obtain ⟨o,xc,e1,_⟩:=opc h d v lv h0;rw[aK6,aEO e1];try dsimp only
 rw[c,BB,aI]
end
section
variable {A B:RA} {x:EX} {d:Int} {v:bZZ}
theorem bV5 (h:A.ok) (c:A.is [40]=true) (h1:0<=d) (h2:d<32) (hB:B.ok) (e1:SS.CC 106 [bZX] [au (pc (d+1) v),aB A.next.v]=some (A1 (ev x),[au (pc (d+1) v),aB B.v])) :
 SS.CC 245 [bZX] [au (pc d v),aB A.v]=some (A1 (ev x),[au (pc d v),aB (B.exp [41]).v]):=by
 rw[Hw,eG (I4 h)];try dsimp only
 rw[is_other h (by decide) (by decide) c (by decide),aC,eG (KX h)];try dsimp only
 rw[is_other h (by decide) (by decide) c (by decide),aC,eG (Ua h)];try dsimp only
 rw[c,aI,XU (a1Z h1 h2 h bCP (aYV hB e1))]
theorem bV4 (h:A.ok) (c:A.is [33]=true) (h1:0<=d) (h2:d<32) (e1:SS.CC 245 [bZX] [au (pc (d+1) v),aB A.next.v]=some (A1 (ev x),[au (pc (d+1) v),aB B.v])) :
 SS.CC 245 [bZX] [au (pc d v),aB A.v]=some (A1 (ev (kN 10 x)),[au (pc d v),aB B.v]):=by
 rw[Hw,eG (I4 h)];try dsimp only
 rw[c,aI,jL (peek h)];try dsimp only
 rw[show (A.pk.kind==3)=true by simp[(bJF h (by decide) c).1],aI,XU (a1Z h1 h2 h bCO (aYS e1))]
theorem bV6 (h:A.ok) (c:A.is [45]=true) (h1:0<=d) (h2:d<32) (hk:A.next.pk.kind≠2) (e1:SS.CC 245 [bZX] [au (pc (d+1) v),aB A.next.v]=some (A1 (ev x),[au (pc (d+1) v),aB B.v])) :
 SS.CC 245 [bZX] [au (pc d v),aB A.v]=some (A1 (ev (kN 5 x)),[au (pc d v),aB B.v]):=by
 rw[Hw,eG (I4 h)];try dsimp only
 rw[is_other h (by decide) (by decide) c (by decide),aC,eG (KX h)];try dsimp only
 rw[c,aI,XU (a1Z h1 h2 h aL9 (aYT h.next hk e1))]
end
theorem bV9 {A:RA} {d:Int} {l:List bZY} (hl:l.length<1000000000000) (h:A.ok) (hk:A.pk.kind=1) (hT:A.pk.text≠nX) (hF:A.pk.text≠pV) (hi:0<=qU (bs A.pk.text) l 0) :
 SS.CC 245 [bZX] [au (pc d (rq l)),aB A.v]=some (A1 (ev (vE (qU (bs A.pk.text) l 0))),[au (pc d (rq l)),aB A.next.v]):=by
 have no:∀ s,s∈jS->A.is s=false:=fun s hs=>by rw[PG h hs,hk]; rfl
 have cT:A.is nX=false:=by rw[aOA h (by decide),show (A.pk.text==nX)=false by grind,JF]
 have cF:A.is pV=false:=by rw[aOA h (by decide),show (A.pk.text==pV)=false by grind,JF]
 have hn:A.kn l=A.next:=by grind [RA.kn,RA.kp,RA.name]
 have hI:A.PP l=qU (bs A.pk.text) l 0:=by grind [RA.PP]
 rw[Hw,eG (I4 h)];try dsimp only
 rw[no [33] (by decide),aC,eG (KX h)];try dsimp only
 rw[no [45] (by decide),aC,eG (Ua h)];try dsimp only
 rw[no [40] (by decide),aC,jL (peek h)];try dsimp only
 rw[show (A.pk.kind==2)=false by simp[hk],aC,eG (tkT h)];try dsimp only
 rw[cT,aC,Lu cT,eG (tkF h)];try dsimp only
 rw[cF,aC,Lu cF,bAG,DC (knc h (pc d (rq l)) l hl),a_J,hn,hI]
section
variable {v:bZZ} {d:Int} {T:List Tok} {x:EX}
def Uf (v:bZZ) (d:Int) (T:List Tok) (x:EX):Prop:=∀ R,bD (T ++ R)->SS.CC 245 [bZX] [au (pc d v),aB (mk0 (T ++ R)).v]=some (A1 (ev x),[au (pc d v),aB (mk0 R).v])
def Ef (v:bZZ) (d:Int) (T:List Tok) (x:EX) (n:Int):Prop:=∀ R,bD (T ++ R)->Rh R n->SS.CC 181 [bZX,bZV n] [au (pc d v),aB (mk0 (T ++ R)).v]=some (A1 (ev x),[au (pc d v),aB (mk0 R).v])
def Lf (v:bZZ) (d:Int) (T:List Tok) (x:EX) (n:Int):Prop:=∀ R,bD (T ++ R)->Rh R (n+1)->SS.CC 181 [bZX,bZV n] [au (pc d v),aB (mk0 (T ++ R)).v]=KH n (pc d v) (mk0 R).v (ev x)
def Xf (v:bZZ) (d:Int) (T:List Tok) (x:EX):Prop:=∀ R,bD (T ++ R)->Rh R 1->(mk0 R).is [63]=false->SS.CC 106 [bZX] [au (pc d v),aB (mk0 (T ++ R)).v]=some (A1 (ev x),[au (pc d v),aB (mk0 R).v])
theorem aED (h:Uf v d T x):Ef v d T x 6:=fun R hT _=>by rw[a7A];show aA true _ _=_;rw[aI,zC (h R hT)]
theorem a4S {n:Int} (h1:1<=n) (h5:n<=5) (h:Ef v d T x (n+1)):Lf v d T x n:=fun R hT hn=>by rw[a7A,show (n==6)=false by simp; omega,aC,wrap64 (by omega) (by omega),zC (h R hT hn)]
theorem aEC {n:Int} (h1:1<=n) (hk:Nk T) (h:Lf v d T x n):Ef v d T x n:=fun R hT hn=>by rw[h R hT fun lv hlv=>hn lv (by omega)];exact bL4 (je (GU hk hT)) (by omega) (hn n (JH _))
theorem down (hk:Nk T):∀ (m:Nat) (n:Int),1<=n->n+(m:Int)<=6->Ef v d T x (n+(m:Int))->Ef v d T x n
 | 0,n,_,_,h=>by grind
 | m+1,n,h1,h6,h=>by have:=down hk m (n+1) (by omega) (by omega) (by rw[show n+1+(m:Int)=n+((m+1:Nat):Int) by omega]; exact h);grind [aEC,a4S]
theorem OE {m n:Int} (hk:Nk T) (h1:1<=n) (h2:n<=m) (h6:m<=6) (h:Ef v d T x m):Ef v d T x n:=down hk (m-n).toNat n h1 (by omega) (by rw[show n+((m-n).toNat:Int)=m by omega]; exact h)
theorem aF9 (hk:Nk T) (h:Ef v d T x 1):Xf v d T x:=fun R hT hn h63=>by have hR:=je (GU hk hT);rw[aIB,zC (h R hT hn)];rw[eG (aVC hR)];grind [aI,Lu]
theorem aF7 {o c:Tok} {T1:List Tok} (h0:0<=d) (h1:d<32) (ho:uy [40] o) (hc:uy [41] c) (hk:Nk T1) (h:Xf v (d+1) T1 x):Uf v d (o::(T1 ++ [c])) x:=fun R hT=>by
 have e:o::(T1 ++ [c]) ++ R=o::(T1 ++ c::R):=by simp
 rw[e] at hT ⊢;have hT2:=GV hT (by rw[ho.1]; decide);have hcR:=GU hk hT2;have e1:=h (c::R) hT2 (LJ hc (by decide)) (a0V hc (by decide));have hexp:(mk0 (c::R)).exp [41]=mk0 R:=by unfold RA.exp;rw[KY (by decide) hcR hc,cond_true,Dz hc]
 have:=bV5 (je hT) (KY (by decide) hT ho) h0 h1 (je hcR) (by rw[Dz ho]; exact e1);rw[hexp] at this;exact this
theorem aX5 {o:Tok} {T1:List Tok} (h0:0<=d) (h1:d<32) (ho:uy [33] o) (h:Uf v (d+1) T1 x):Uf v d (o::T1) (kN 10 x):=fun R hT=>by have hT2:bD (T1 ++ R):=GV hT (by rw[ho.1]; decide);exact bV4 (A:=mk0 (o::(T1 ++ R))) (je hT) (KY (by decide) hT ho) h0 h1 (by rw[Dz ho]; exact h R hT2)
theorem aF6 {o t:Tok} {T1:List Tok} (h0:0<=d) (h1:d<32) (ho:uy [45] o) (ht:t.kind≠2) (h:Uf v (d+1) (t::T1) x):Uf v d (o::t::T1) (kN 5 x):=fun R hT=>by have hT2:bD (t::T1 ++ R):=GV hT (by rw[ho.1]; decide);exact bV6 (A:=mk0 (o::(t::T1 ++ R))) (je hT) (KY (by decide) hT ho) h0 h1 (by rw[Dz ho]; exact ht) (by rw[Dz ho]; exact h R hT2)
theorem aX6 {t:Tok} {n:Nat} (ht:dB t=dB (tN n)):Uf v d [t] (nE (n:Int)):=fun R hT=>by have hT:bD (t::R):=hT;have k2:(mk0 (t::R)).pk.kind=2:=congrArg (·.1) ht;have hv:(mk0 (t::R)).pk.value=(n:Int):=congrArg (·.2.2) ht;have hA:=je hT;show SS.CC 245 [bZX] [au (pc d v),aB (mk0 (t::R)).v]=_;rw[Hw,eG (I4 hA)];rw[a8O k2,aC,eG (KX hA)];rw[a8O k2,aC,eG (Ua hA)];rw[a8O k2,aC,jL (peek hA)];rw[show ((mk0 (t::R)).pk.kind==2)=true by simp[k2],aI,XY (a0T hA 0 65536),(a0S hA k2).1,(a0S hA k2).2,Jo,hv,yP (by rw[show t.kind=2 from k2]; decide)]
theorem aX7 {o t:Tok} {n:Nat} (h0:0<=d) (h1:d<32) (ho:uy [45] o) (ht:dB t=dB (tN n)) (hn:n<=65536):Uf v d [o,t] (nE (-(n:Int))):=fun R hT=>by have hT:bD (o::t::R):=hT;have hT2:=GV hT (by rw[ho.1]; decide);have hA:=je hT;have c:=KY (by decide) hT ho;have hnx:(mk0 (o::t::R)).next=mk0 (t::R):=Dz ho;have k2:(mk0 (t::R)).pk.kind=2:=congrArg (·.1) ht;have hv:(mk0 (t::R)).pk.value=(n:Int):=congrArg (·.2.2) ht;have hg:=aYU (d:=d+1) (v:=v) (je hT2) k2;rw[hv,yP (by rw[show t.kind=2 from k2]; decide),wrap64 (by omega) (by omega),show (0-(n:Int)) = -(n:Int) by omega] at hg;show SS.CC 245 [bZX] [au (pc d v),aB (mk0 (o::t::R)).v]=_;rw[Hw,eG (I4 hA)];rw[is_other hA (by decide) (by decide) c (by decide),aC,eG (KX hA)];rw[c,aI,XU (a1Z h0 h1 hA aL9 (by rw[hnx]; exact hg))]
theorem aX8 {t:Tok} (hk:t.kind=1) (hT:t.text=nX):Uf v d [t] tE:=fun R hR=>by
 have hR:bD (t::R):=hR;have hA:=je hR;have no:∀ s,s∈jS->(mk0 (t::R)).is s=false:=fun s hs=>by rw[PG hA hs];show (t.kind==3&&t.text==s)=false;rw[hk]; rfl
 have c:(mk0 (t::R)).is nX=true:=by show ((t.kind==1||t.kind==3)&&t.text==nX)=true;rw[hk,hT]; rfl
 show SS.CC 245 [bZX] [au (pc d v),aB (mk0 (t::R)).v]=_;rw[Hw,eG (I4 hA)];rw[no [33] (by decide),aC,eG (KX hA)];rw[no [45] (by decide),aC,eG (Ua hA)];rw[no [40] (by decide),aC,jL (peek hA)];rw[show ((mk0 (t::R)).pk.kind==2)=false by show (t.kind==2)=false; rw[hk]; rfl,aC,eG (tkT hA)];rw[c,aI,dN c116,Vz c,yP (by rw[hk]; decide)]
theorem aX9 {t:Tok} (hk:t.kind=1) (hT:t.text=pV):Uf v d [t] fE:=fun R hR=>by
 have hR:bD (t::R):=hR;have hA:=je hR;have no:∀ s,s∈jS->(mk0 (t::R)).is s=false:=fun s hs=>by rw[PG hA hs];show (t.kind==3&&t.text==s)=false;rw[hk]; rfl
 have cT:(mk0 (t::R)).is nX=false:=by show ((t.kind==1||t.kind==3)&&t.text==nX)=false;rw[hT]; simp
 have c:(mk0 (t::R)).is pV=true:=by show ((t.kind==1||t.kind==3)&&t.text==pV)=true;rw[hk,hT]; rfl
 show SS.CC 245 [bZX] [au (pc d v),aB (mk0 (t::R)).v]=_;rw[Hw,eG (I4 hA)];rw[no [33] (by decide),aC,eG (KX hA)];rw[no [45] (by decide),aC,eG (Ua hA)];rw[no [40] (by decide),aC,jL (peek hA)];rw[show ((mk0 (t::R)).pk.kind==2)=false by show (t.kind==2)=false; rw[hk]; rfl,aC,eG (tkT hA)];rw[cT,aC,Lu cT,eG (tkF hA)];rw[c,aI,dN c117,Vz c,yP (by rw[hk]; decide)]
theorem aX3 {o lv:Int} {a b:EX} {t:Tok} {T1 T2:List Tok} (ho:o=2/\lv=4\/o=3/\lv=4\/o=4/\lv=5\/o=11/\lv=2\/o=12/\lv=1) (ht:uy (qA o) t) (hk1:Nk T1) (hk2:Nk T2) (ha:Lf v d T1 a lv) (hb:Ef v d T2 b (lv+1)):Lf v d (T1 ++ t::T2) (lS o a b) lv:=fun R hT hn=>by
 have e:T1 ++ t::T2 ++ R=T1 ++ t::(T2 ++ R):=by simp
 rw[e] at hT ⊢;have hop:kW (qA o)=(lv,o,false):=by rcases ho with ⟨rfl,rfl⟩ | ⟨rfl,rfl⟩ | ⟨rfl,rfl⟩ | ⟨rfl,rfl⟩ | ⟨rfl,rfl⟩<;>rfl
 have hT1:=GU hk1 hT;have hT2:=GV hT1 (by rw[ht.1]; decide);have htx:(mk0 (t::(T2 ++ R))).pk.text=qA o:=ht.2;have c:(mk0 (t::(T2 ++ R))).Fa lv=true:=by show (t.kind==3&&(kW t.text).1==lv)=true;rw[ht.1,ht.2,hop]; simp
 have hnx:(mk0 (t::(T2 ++ R))).next=mk0 (T2 ++ R):=Dz ht;rw[ha _ hT (LJ ht (by rw[hop]; omega)),aPT (je hT1) (by omega) (by omega) c (by rw[htx,hop]) (by rw[hnx]; exact hb R hT2 hn),show (lv==3)=false by simp; omega,aC,htx,hop]
theorem aWB {o:Int} {a b:EX} {t:Tok} {T1 T2:List Tok} (ho:o=6\/o=7\/o=8\/o=9) (ht:uy (qA o) t) (hk1:Nk T1) (hk2:Nk T2) (ha:Ef v d T1 a 4) (hb:Ef v d T2 b 4):Ef v d (T1 ++ t::T2) (lS o a b) 3:=fun R hT hn=>by
 have e:T1 ++ t::T2 ++ R=T1 ++ t::(T2 ++ R):=by simp
 rw[e] at hT ⊢;have hop:kW (qA o)=(3,o,false):=by rcases ho with rfl | rfl | rfl | rfl<;>rfl
 have hT1:=GU hk1 hT;have hT2:=GV hT1 (by rw[ht.1]; decide);have htx:(mk0 (t::(T2 ++ R))).pk.text=qA o:=ht.2;have c:(mk0 (t::(T2 ++ R))).Fa 3=true:=by show (t.kind==3&&(kW t.text).1==3)=true;rw[ht.1,ht.2,hop]; rfl
 have hnx:(mk0 (t::(T2 ++ R))).next=mk0 (T2 ++ R):=Dz ht;have ha:=ha _ hT (LJ ht (by rw[hop]; omega));rw[a7A];show aA false _ (zB 181 [bZX,bZV (i64.wrap (3+1))] _ _)=_;rw[wrap64 (by decide) (by decide),zC (show SS.CC 181 [bZX,bZV (3+1)] [au (pc d v),aB (mk0 (T1 ++ t::(T2 ++ R))).v]=_ from ha)];rw[aPT (je hT1) (by decide) (by decide) c (by rw[htx,hop]) (by rw[hnx]; exact hb R hT2 fun lv h=>hn lv (by omega)),htx,hop];rfl
theorem aXH {c a b:EX} {q k:Tok} {T1 T2 T3:List Tok} (hq:uy [63] q) (hkk:uy [58] k) (hk1:Nk T1) (hk2:Nk T2) (hk3:Nk T3) (hc:Ef v d T1 c 1) (ha:Xf v d T2 a) (hb:Xf v d T3 b):Xf v d (T1 ++ q::(T2 ++ k::T3)) (.node 13 0 0 [c,a,b]):=fun R hT hn h63=>by
 have e:T1 ++ q::(T2 ++ k::T3) ++ R=T1 ++ q::(T2 ++ k::(T3 ++ R)):=by simp
 rw[e] at hT ⊢;have hT1:=GU hk1 hT;have hT2:=GV hT1 (by rw[hq.1]; decide);have hT3:=GU hk2 hT2;have hT4:=GV hT3 (by rw[hkk.1]; decide);have ci:=KY (by decide) hT1 hq;have hexp:(mk0 (k::(T3 ++ R))).exp [58]=mk0 (T3 ++ R):=by unfold RA.exp;rw[KY (by decide) hT3 hkk,cond_true,Dz hkk]
 rw[aIB,zC (hc _ hT (LJ hq (by decide)))];rw[eG (aVC (je hT1))];rw[ci,Ed,aC,Vz ci,Dz hq,zC (ha _ hT2 (LJ hkk (by decide)) (a0V hkk (by decide)))];rw[jJ (a_L (je hT3)),hexp];rw[zC (hb R hT4 hn h63),ev3]
end
def Bd (v:bZZ) (d:Int) (T:List Tok) (x:EX):Prop :=(6<=iJ x->Uf v d T x)/\((iJ x=1\/iJ x=2\/iJ x=4\/iJ x=5)->Lf v d T x (iJ x))/\(iJ x=3->Ef v d T x 3)/\(iJ x=0->Xf v d T x)
section
variable {v:bZZ} {d:Int} {T:List Tok} {x:EX}
theorem a5I (hk:Nk T) (h:Bd v d T x) {n:Int} (h1:1<=n) (h6:n<=6) (hn:n<=iJ x):Ef v d T x n:=by
 obtain ⟨b1,b2,b3,b4⟩:=h;by_cases c6:6<=iJ x
 .exact OE hk h1 h6 (JH _) (aED (b1 c6))
 .by_cases c3:iJ x=3
  .exact OE hk h1 (by omega) (by decide) (b3 c3)
  .exact OE hk h1 hn (by omega) (aEC (by omega) hk (b2 (by omega)))
theorem aYB (hk:Nk T) (h:Bd v d T x) {n:Int} (hc:n=1\/n=2\/n=4\/n=5) (hn:n<=iJ x):Lf v d T x n:=by
 by_cases he:n=iJ x
 .rw[he]; exact h.2.1 (by omega)
 grind [a4S,a5I]
theorem Y6 (hk:Nk T) (h:Bd v d T x):Xf v d T x:=by
 have h0:=V7 x;by_cases c:iJ x=0
 .exact h.2.2.2 c
 grind [aF9,a5I]
end
structure Wf (v:List PV) (d:Int) (T:List Tok) (x:EX) (need:Int):Prop where
 e:1<=need->need<=6->Ef v d T x need
 l:need=1\/need=2\/need=4\/need=5->Lf v d T x need
 x0:need=0->Xf v d T x
 u:need=6->Uf v d T x
theorem Jf {v:bZZ} {d:Int} {T:List Tok} {x:EX} (h:6<=iJ x) (u:Uf v d T x):Bd v d T x:=⟨fun _=>u,fun c=>by omega,fun c=>by omega,fun c=>by omega⟩
theorem GY {v:bZZ} {x:EX} {B:List Tok} (htv:∀ t,t∈B->Tv t) (hb:∀ (d:Int) (T:List Tok),0<=d->d+2*(gJ x:Int)<=32->T.map dB=B.map dB->Bd v d T x) {need d:Int} (h0:0<=d) (hd:d+2*(gJ x:Int)+1<=32) (hdp:1<=gJ x)
 {T:List Tok} (hT:T.map dB=(wp x need B).map dB):Wf v d T x need:=by
 have hk:Nk T:=C9 hT (xm htv);unfold wp at hT;by_cases hn:iJ x<need
 .rw[aX hn] at hT;obtain ⟨o,T1,rfl,h1,h2⟩:=su hT;obtain ⟨T2,T3,rfl,h3,h4⟩:=kT h2;obtain ⟨c,T4,rfl,h5,h6⟩:=su h4;obtain rfl:=kU h6;have hk2:Nk T2:=C9 h3 htv;have u:Uf v d (o::(T2 ++ [c])) x:=aF7 h0 (by omega) (E5 h1) (E5 h5) hk2 (Y6 hk2 (hb (d+1) T2 (by omega) (by omega) h3));have e6:=aED u;exact ⟨fun k1 k2=>OE hk k1 k2 (JH _) e6,fun k=>a4S (by omega) (by omega) (OE hk (by omega) (by omega) (JH _) e6),fun _=>aF9 hk (OE hk (by decide) (by decide) (JH _) e6),fun _=>u⟩
 .rw[aV hn] at hT;have b:=hb d T h0 (by omega) hT;exact ⟨fun k1 k2=>a5I hk b k1 k2 (by omega),fun k=>aYB hk b k (by omega),fun _=>Y6 hk b,fun k=>b.1 (by omega)⟩
theorem aYC {ns:List (bZ')} {w d:Int} {T:List Tok} (h0 : -65536<=w) (h1:w<=65536) (hd0:0<=d) (hd:d<32) (hT:T.map dB=(dO w).map dB):Uf (NS ns) d T (nE w):=by
 unfold dO at hT;by_cases hw:w<0
 .rw[aX hw] at hT;obtain ⟨o,T1,rfl,k1,k2⟩:=su hT;obtain ⟨t,T2,rfl,k3,k4⟩:=su k2;obtain rfl:=kU k4;have:=aX7 (v:=NS ns) hd0 hd (E5 k1) k3 (by omega);rwa [show -((-w).toNat:Int)=w by omega] at this
 .rw[aV hw] at hT;obtain ⟨t,T2,rfl,k3,k4⟩:=su hT;obtain rfl:=kU k4;have:=aX6 (v:=NS ns) (d:=d) k3;rwa [show (w.toNat:Int)=w by omega] at this
theorem bPI {ns:List (bZ')} (hns:∀ s,s∈ns->nameB s=true) (hT:∀ s,s∈ns->s≠nX) (hF:∀ s,s∈ns->s≠pV) (hnd:ns.Nodup) (hlen:ns.length<=1000) {x:EX} {B:List Tok} (h:PB ns x B) :
 ∀ (d:Int) (T:List Tok),0<=d->d+2*(gJ x:Int)<=32->T.map dB=B.map dB->Bd (NS ns) d T x:=by
 induction h with
 | tt =>intro d T h0 h1 hc;obtain ⟨t,T2,rfl,k1,k2⟩:=su hc;obtain rfl:=kU k2;exact Jf (by rw[bLX]; decide) (aX8 (congrArg (·.1) k1) (congrArg (·.2.1) k1))
 | ff =>intro d T h0 h1 hc;obtain ⟨t,T2,rfl,k1,k2⟩:=su hc;obtain rfl:=kU k2;exact Jf (by rw[bLV]; decide) (aX9 (congrArg (·.1) k1) (congrArg (·.2.1) k1))
 | @num w v0 v1 =>intro d T h0 h1 hc;have:=Ba (nE w);exact Jf (by rw[bLW]; split<;>decide) (aYC v0 v1 h0 (by omega) hc)
 | @var i s hs =>
  intro d T h0 h1 hc;obtain ⟨t,T2,rfl,k1,k2⟩:=su hc;obtain rfl:=kU k2;have hm:=nZ hs;have hk:t.kind=1:=congrArg (·.1) k1;have htx:t.text=s:=congrArg (·.2.1) k1;refine Jf (by rw[bLY]; decide) fun R hR => ?_
  have hR:bD (t::R):=hR;have hi:qU (bs (mk0 (t::R)).pk.text) (vF ns) 0=(i:Int):=by show qU (bs t.text) (vF ns) 0=(i:Int);rw[htx,a8K ns i 0 s hnd hs]; simp
  have:=bV9 (d:=d) (l:=vF ns) (by rw[bF]; omega) (je hR) hk (by show t.text≠nX; rw[htx]; exact hT s hm) (by show t.text≠pV; rw[htx]; exact hF s hm) (by rw[hi]; omega);rw[hi,yP (by rw[hk]; decide)] at this;exact this
 | @IU w v0 v1 hp ih =>intro d T h0 h1 hc;rw[dp1] at h1;have hd1:=Ba (nE w);obtain ⟨o,T1,rfl,k1,k2⟩:=su hc;obtain ⟨p,T2,rfl,k3,k4⟩:=su k2;obtain ⟨T3,T4,rfl,k5,k6⟩:=kT k4;obtain ⟨c,T5,rfl,k7,k8⟩:=su k6;obtain rfl:=kU k8;have hk3:Nk T3:=C9 k5 (aVL (by omega) v1);have hX:=Y6 hk3 (ih (d+1+1) T3 (by omega) (by omega) k5);exact Jf (by rw[a9Z (.inl rfl)]; decide) (aF6 h0 (by omega) (E5 k1) (by rw[(E5 k3).1]; decide) (aF7 (by omega) (by omega) (E5 k3) (E5 k7) hk3 hX))
 | @neg o v i l A hc0 hp ih =>intro d T h0 h1 hc;rw[dp1] at h1;have hd1:=Ba (.node o v i l);obtain ⟨m,T1,rfl,k1,k2⟩:=su hc;obtain ⟨t,T2,rfl,k3⟩:=a_W hc0 hp k2;have hw:=GY (vT hns hp) ih (need:=6) (d:=d+1) (by omega) (by omega) hd1 k2;exact Jf (by rw[a9Z (.inl rfl)]; decide) (aF6 h0 (by omega) (E5 k1) k3 (hw.u rfl))
 | @xR a A hp ih =>intro d T h0 h1 hc;rw[dp1] at h1;have hd1:=Ba a;obtain ⟨m,T1,rfl,k1,k2⟩:=su hc;have hw:=GY (vT hns hp) ih (need:=6) (d:=d+1) (by omega) (by omega) hd1 k2;exact Jf (by rw[a9Z (.inr rfl)]; decide) (aX5 h0 (by omega) (E5 k1) (hw.u rfl))
 | @cmp o a b A B ho ht hf ha hb iha ihb =>intro d T h0 h1 hc;rw[dp2] at h1;have hd1:=Ba a;have hd2:=Ba b;obtain ⟨T1,t,T2,rfl,k1,k2,k3⟩:=YT hc;have w1:=GY (vT hns ha) iha (need:=4) (d:=d) h0 (by omega) hd1 k1;have w2:=GY (vT hns hb) ihb (need:=4) (d:=d) h0 (by omega) hd2 k3;have l3:=a1V ho ht hf;exact ⟨fun c=>by omega,fun c=>by omega,fun _=>aWB ho k2 (C9 k1 (xm (vT hns ha))) (C9 k3 (xm (vT hns hb))) (w1.e (by decide) (by decide)) (w2.e (by decide) (by decide)),fun c=>by omega⟩
 | @bin o lv a b A B ho ha hb iha ihb =>intro d T h0 h1 hc;rw[dp2] at h1;have hd1:=Ba a;have hd2:=Ba b;obtain ⟨T1,t,T2,rfl,k1,k2,k3⟩:=YT hc;have w1:=GY (vT hns ha) iha (need:=lv) (d:=d) h0 (by omega) hd1 k1;have w2:=GY (vT hns hb) ihb (need:=lv+1) (d:=d) h0 (by omega) hd2 k3;have ll:=a1U (a:=a) (b:=b) ho;exact ⟨fun c=>by omega,fun _=>by rw[ll]; exact aX3 ho k2 (C9 k1 (xm (vT hns ha))) (C9 k3 (xm (vT hns hb))) (w1.l (by omega)) (w2.e (by omega) (by omega)),fun c=>by omega,fun c=>by omega⟩
 | @ite c a b C A B hcc ha hb KU iha ihb =>intro d T h0 h1 hc;rw[dp3] at h1;have hd0:=Ba c;have hd1:=Ba a;have hd2:=Ba b;obtain ⟨T1,q,T2,rfl,k1,k2,k3⟩:=YT hc;obtain ⟨T3,k,T4,rfl,k4,k5,k6⟩:=YT k3;have w0:=GY (vT hns hcc) KU (need:=1) (d:=d) h0 (by omega) hd0 k1;have w1:=GY (vT hns ha) iha (need:=0) (d:=d) h0 (by omega) hd1 k4;have w2:=GY (vT hns hb) ihb (need:=0) (d:=d) h0 (by omega) hd2 k6;have l0:=aQJ c a b;exact ⟨fun c=>by omega,fun c=>by omega,fun c=>by omega,fun _=>aXH k2 k5 (C9 k1 (xm (vT hns hcc))) (C9 k4 (xm (vT hns ha))) (C9 k6 (xm (vT hns hb))) (w0.e (by decide) (by decide)) (w1.x0 rfl) (w2.x0 rfl)⟩
end Go.Proofs.YtilpiopkekkbiaaGreatDoor.W.P
namespace Go.Proofs.YtilpiopkekkbiaaGreatDoor.W
open Go.RowKit
set_option maxRecDepth 1000000
variable {α:Type} {m:Mo}
abbrev wT (s:Nm) (a b:Int):Tok:=⟨1,s,0,a,b⟩
abbrev yT (s:Nm) (a b:Int):Tok:=⟨3,s,0,a,b⟩
abbrev nT (s:Nm) (v a b:Int):Tok:=⟨2,s,v,a,b⟩
section
variable {T:List Tok} {t:Tok} {s x:Nm} {a b v:Int}
theorem I9:(1:Int)≠4:=by decide
theorem kk2:(2:Int)≠4:=by decide
theorem kk3:(3:Int)≠4:=by decide
theorem Ij:(mk0 (t::T)).pk=t:=rfl
theorem aAC (h:bD (t::T)) (hk:t.kind≠4):bD T:=by
 rcases h with h | h
 omega
 .exact h.2
theorem iT (h:bD (wT s a b::T)):bD T:=aAC h I9
theorem jW (h:bD (yT s a b::T)):bD T:=aAC h kk3
theorem okn (h:bD (nT s v a b::T)):bD T:=aAC h kk2
theorem EP (h:bD (t::T)):SS.CC 35 [bZX] [aB (mk0 (t::T)).v]=some (oK (tk t),[aB (mk0 (t::T)).v]):=peek (je h)
theorem Pz (h:bD (t::T)) (hk:t.kind≠4):SS.CC 144 [bZX] [aB (mk0 (t::T)).v]=some (oK (tk t),[aB (mk0 T).v]):=by have e:=next (je h);rw[yP hk] at e;exact e
theorem mD (h:bD (yT x a b::T)):SS.CC 32 [bZX,.str ⟨x.toArray⟩] [aB (mk0 (yT x a b::T)).v]=some (.tuple [],[aB (mk0 T).v]):=by have e:=Ym (je h) ⟨x.toArray⟩;grind [RA.exp,RA.is,Ij,yP]
theorem a_Q (h:bD (wT x a b::T)):SS.CC 32 [bZX,.str ⟨x.toArray⟩] [aB (mk0 (wT x a b::T)).v]=some (.tuple [],[aB (mk0 T).v]):=by have e:=Ym (je h) ⟨x.toArray⟩;grind [RA.exp,RA.is,Ij,yP]
theorem IX (h:bD (wT s a b::T)):SS.CC 33 [bZX] [aB (mk0 (wT s a b::T)).v]=some (.str (bs s),[aB (mk0 T).v]):=by
 have e:=a1Y (je h);have e2:(mk0 (wT s a b::T)).name=mk0 T:=by rfl
 rw[e2] at e;exact e
theorem isq (h:bD (t::T)) (r:Bool) (hr:((t.kind==1||t.kind==3)&&t.text==x)=r):SS.CC 193 [bZX,.str ⟨x.toArray⟩] [aB (mk0 (t::T)).v]=some (.bool r,[aB (mk0 (t::T)).v]):=by have e:=PH (je h) ⟨x.toArray⟩;grind [RA.is,Ij]
theorem aVD (h:bD (t::T)) (hr:((t.kind==1||t.kind==3)&&t.text==x)=false):SS.CC 143 [bZX,.str ⟨x.toArray⟩] [aB (mk0 (t::T)).v]=some (.bool false,[aB (mk0 (t::T)).v]):=by have e:=Cf (je h) ⟨x.toArray⟩;grind [RA.is,Ij,Lu]
theorem aVE (h:bD (t::T)) (hk:t.kind≠4) (hr:((t.kind==1||t.kind==3)&&t.text==x)=true):SS.CC 143 [bZX,.str ⟨x.toArray⟩] [aB (mk0 (t::T)).v]=some (.bool true,[aB (mk0 T).v]):=by have e:=Cf (je h) ⟨x.toArray⟩;grind [RA.is,Ij,Vz,yP]
theorem inq {lo hi:Int} (h:bD (nT s v a b::T)) (h0:lo<=v) (h1:v<=hi) (h2 : -65536<=v/\v<=65536):SS.CC 226 [bZX,bZV lo,bZV hi] [aB (mk0 (nT s v a b::T)).v]=some (bZV v,[aB (mk0 T).v]):=by have e:=a0T (je h) lo hi;have hm:(mk0 (nT s v a b::T)).mi=false:=rfl;grind [Ij,wrap64,RA.int,RA.num,yP,RA.KW,RA.LK]
theorem erq:SS.CC 38 [bZX] [aB (mk0 T).v]=some (.tuple [bZV 0,bZV 0,bZV 0],[aB (mk0 T).v]):=a_6 (mk0 T)
theorem Ia (q:Sh.V eH):SS.CC 34 [bZX] [au q,aB (mk0 T).v]=some (.bool true,[au q,aB (mk0 T).v]):=by rw[b2F,aEP erq]; rfl
theorem Eo (q:Sh.V eH) {l:List Nm} (hl:l.length<=1000) (hs:s∉l) (h:bD (wT s a b::T)):SS.CC 222 [bZX,bZW (aK l)] [au q,aB (mk0 (wT s a b::T)).v]=some (.str (bs s),[au q,aB (mk0 T).v]):=by rw[bAU,jL (EP h)];show aA true (G3 156 [bZW (aK l),.str (bs s)] _) _=_;rw[aI,aZ (a8E l hl s),aW hs,aC,bAS,BJ (IX h)]
end
theorem aGU (l:List Ins) (hn:l.length<=1000):SS.CC 40 [.sl false 3 (l.map fD),.func (.func 233) [] []] []=some (bZW (aK (l.map (·.n))),[]):=by
 rw[bFK];refine oQ (n:=l.length) (L:=fun k=>a08 (l.map fD) (aK ((l.take k).map (·.n))) (k:Int)) (fun k hk => ?_) ?_
 .rw[aMD,aN (by rw[bW]; omega),aI,Bh hk,pJ (bBI _),aQ (iQ (CE _ l k hn)),CB (·.n) l hk,bU (by omega)]
 grind [aMD,aC]
theorem a'1 (l:List Tm) (hn:l.length<=1000):SS.CC 42 [.sl false 9 (l.map qw),.func (.func 227) [] []] []=some (bZW (aK (l.map (·.n))),[]):=by
 rw[bFT];refine oQ (n:=l.length) (L:=fun k=>a0A (l.map qw) (aK ((l.take k).map (·.n))) (k:Int)) (fun k hk => ?_) ?_
 .rw[aMF,aN (by rw[bW]; omega),aI,FU hk,pJ (bB5 _),aQ (iQ (CE _ l k hn)),CB (·.n) l hk,bU (by omega)]
 grind [aMF,aC]
theorem a'2 (l:List pI) (hn:l.length<=1000):SS.CC 44 [.sl false 2 (l.map ru),.func (.func 235) [] []] []=some (bZW (aK (l.map (·.n))),[]):=by
 rw[bG1];refine oQ (n:=l.length) (L:=fun k=>a0C (l.map ru) (aK ((l.take k).map (·.n))) (k:Int)) (fun k hk => ?_) ?_
 .rw[aMH,aN (by rw[bW]; omega),aI,ED hk,pJ (bBK _),aQ (iQ (CE _ l k hn)),CB (·.n) l hk,bU (by omega)]
 grind [aMH,aC]
theorem a'0 (l:List Cst) (hn:l.length<=1000):SS.CC 46 [.sl false 3 (l.map mJ),.func (.func 238) [] []] []=some (bZW (aK (l.map (·.n))),[]):=by
 rw[bGA];refine oQ (n:=l.length) (L:=fun k=>a0E (l.map mJ) (aK ((l.take k).map (·.n))) (k:Int)) (fun k hk => ?_) ?_
 .rw[aMJ,aN (by rw[bW]; omega),aI,FT hk,pJ (bBY _),aQ (iQ (CE _ l k hn)),CB (·.n) l hk,bU (by omega)]
 grind [aMJ,aC]
abbrev Co (T B:List Tok):Prop:=T.map dB=B.map dB
section
variable {T U B:List Tok} {s x:Nm}
theorem jB (h:Co T (tW s::B)):∃ a b T2,T=wT s a b::T2/\Co T2 B:=by obtain ⟨t,T2,rfl,h1,h2⟩:=su h;obtain ⟨k,tx,v,a,b⟩:=t;have e1:k=1:=congrArg (·.1) h1;have e2:tx=s:=congrArg (·.2.1) h1;have e3:v=0:=congrArg (·.2.2) h1;grind
theorem jk (h:Co T (tS s::B)):∃ a b T2,T=yT s a b::T2/\Co T2 B:=by obtain ⟨t,T2,rfl,h1,h2⟩:=su h;obtain ⟨k,tx,v,a,b⟩:=t;have e1:k=3:=congrArg (·.1) h1;have e2:tx=s:=congrArg (·.2.1) h1;have e3:v=0:=congrArg (·.2.2) h1;grind
theorem aGT {n:Nat} (h:Co T (tN n::B)):∃ s a b T2,T=nT s (n:Int) a b::T2/\Co T2 B:=by obtain ⟨t,T2,rfl,h1,h2⟩:=su h;obtain ⟨k,tx,v,a,b⟩:=t;have e1:k=2:=congrArg (·.1) h1;have e3:v=(n:Int):=congrArg (·.2.2) h1;grind
theorem aNS {v lo hi:Int} (hv : -65536<=v/\v<=65536) (h0:lo<=v) (h1:v<=hi) (h:Co T (dO v)) (hT:bD (T ++ U)):SS.CC 226 [.ptr 0 0,.int .i64 lo,.int .i64 hi] [aB (mk0 (T ++ U)).v]=some (.int .i64 v,[aB (mk0 U).v])/\bD U:=by
 unfold dO at h;by_cases c:v<0
 .rw[aX c] at h;obtain ⟨a,b,T1,e_,h_⟩:=jk h; clear h; have h:=h_; clear h_; subst e_;obtain ⟨s,a2,b2,T2,e_,h_⟩:=aGT h; clear h; have h:=h_; clear h_; subst e_;obtain rfl:=kU h;have hT:bD (yT [45] a b::nT s ((-v).toNat:Int) a2 b2::U):=hT;have hT2:=jW hT;have e:=a0T (je hT) lo hi;have hn:(mk0 (yT [45] a b::nT s ((-v).toNat:Int) a2 b2::U)).next=mk0 (nT s ((-v).toNat:Int) a2 b2::U):=yP kk3;have hn2:(mk0 (nT s ((-v).toNat:Int) a2 b2::U)).next=mk0 U:=yP kk2;have hw:i64.wrap (-1*(mk0 (nT s ((-v).toNat:Int) a2 b2::U)).pk.value)=v:=by show i64.wrap (-1*((-v).toNat:Int))=v;rw[wrap64 (by omega) (by omega)]; omega
  have e1:(mk0 (yT [45] a b::nT s ((-v).toNat:Int) a2 b2::U)).int lo hi=mk0 U:=by unfold RA.int;rw[show (mk0 (yT [45] a b::nT s ((-v).toNat:Int) a2 b2::U)).mi=true from rfl,cond_true,hn];unfold RA.num;rw[aX (show (mk0 (nT s ((-v).toNat:Int) a2 b2::U)).pk.kind=2 from rfl),hw,aV (by omega),hn2]
  have e2:(mk0 (yT [45] a b::nT s ((-v).toNat:Int) a2 b2::U)).KW lo hi=v:=by unfold RA.KW;rw[show (mk0 (yT [45] a b::nT s ((-v).toNat:Int) a2 b2::U)).mi=true from rfl,cond_true,hn];unfold RA.LK;rw[aX (show (mk0 (nT s ((-v).toNat:Int) a2 b2::U)).pk.kind=2 from rfl),hw,aV (by omega)]
  rw[e1,e2] at e;exact ⟨e,okn hT2⟩
 .rw[aV c] at h;obtain ⟨s,a2,b2,T2,e_,h_⟩:=aGT h; grind [kU,inq,okn]
theorem UX {v:Int} (q:Sh.V eH) (hv:R16 v) (h:Co T (dO v)) (hT:bD (T ++ U)):SS.CC 239 [.ptr 0 0] [au q,aB (mk0 (T ++ U)).v]=some (.int .i64 v,[au q,aB (mk0 U).v])/\bD U:=by obtain ⟨e,h2⟩:=aNS (lo := -65536) (hi:=65536) hv hv.1 hv.2 h hT;exact ⟨by rw[bBZ,XY e],h2⟩
theorem E8 (L:List α) {C:List Tok->List α->R} {f:α->List Tok} 
 (hs:∀ acc a l T tail,L=acc ++ a::l->Co T (f a)->bD (T ++ tail)->C (T ++ tail) acc=C tail (acc ++ [a])/\bD tail) :
 ∀ (l acc:List α) (T U:List Tok),L=acc ++ l->Co T (l.flatMap f)->bD (T ++ U)->C (T ++ U) acc=C U L/\bD U
 | [],acc,T,U,hL,h,hT=>by grind [kU]
 | a::l,acc,T,U,hL,h,hT=>by rw[Qs] at h;obtain ⟨T1,T2,rfl,h1,h2⟩:=kT h;rw[nJ] at hT ⊢;obtain ⟨e1,hT2⟩:=hs acc a l T1 (T2 ++ U) hL h1 hT;obtain ⟨e2,hT3⟩:=E8 L hs l (acc ++ [a]) T2 U (by rw[hL]; simp) h2 hT2;simp_all
theorem QN (s:Tok) (a:List Tok):∀ l:List (List Tok),gq s (a::l)=a ++ l.flatMap (s :: ·)
 | []=>by simp[gq]
 | b::l=>by rw[gq,QN s b l,Qs]; simp
theorem a3C (L:List α) {C:List Tok->List α->R} {f:α->List Tok} {s:Nm} 
 (hs:∀ acc a l T tail p q,L=acc ++ a::l->Co T (f a)->bD (yT s p q::(T ++ tail))->C (yT s p q::(T ++ tail)) acc=C tail (acc ++ [a])/\bD tail)
 (l acc:List α) (T U:List Tok) (hL:L=acc ++ l) (h:Co T ((l.map f).flatMap (tS s :: ·))) (hT:bD (T ++ U)):C (T ++ U) acc=C U L/\bD U :=
 E8 L (f:=fun a=>tS s::f a) (fun acc a l T tail hL h hT=>by grind [jk]) l acc T U hL (by rwa [List.flatMap_map] at h) hT
end
section
variable {T U B:List Tok} {s x w:Nm}
theorem a9' {β:Type} (f:α->β) (l:List α) (x:α):l.map f ++ [f x]=(l ++ [x]).map f:=by simp
theorem Q5 {b:Bool} (hb:∃ t B2,B=t::B2/\t.text≠w) (h:Co T ((if b then [tW w] else []) ++ B)) (hT:bD (T ++ U)) :
 ∃ T2,Co T2 B/\bD (T2 ++ U)/\(mk0 (T ++ U)).is w=b/\(mk0 (T ++ U)).take w=mk0 (T2 ++ U):=by
 cases b with
 | true =>obtain ⟨p,q,T2,e_,h_⟩:=jB h; grind [RA.is,Ij,iT,Vz,yP]
 | false =>grind [su,RA.is,Ij,Lu]
theorem Qa {p q:Int} (h:bD (wT w p q::U)):SS.CC 143 [.ptr 0 0,.str ⟨w.toArray⟩] [aB (mk0 (wT w p q::U)).v]=some (.bool true,[aB (mk0 U).v]):=aVE h I9 (by simp)
theorem WF {p q:Int} (h:bD (yT w p q::U)):SS.CC 143 [.ptr 0 0,.str ⟨w.toArray⟩] [aB (mk0 (yT w p q::U)).v]=some (.bool true,[aB (mk0 U).v]):=aVE h kk3 (by simp)
theorem Qb {p q:Int} (h:bD (yT s p q::U)) (hn:s≠w):SS.CC 143 [.ptr 0 0,.str ⟨w.toArray⟩] [aB (mk0 (yT s p q::U)).v]=some (.bool false,[aB (mk0 (yT s p q::U)).v]):=aVD h (by simp_all)
theorem Ue {p q:Int} (h:bD (wT s p q::U)) (hn:s≠w):SS.CC 193 [.ptr 0 0,.str ⟨w.toArray⟩] [aB (mk0 (wT s p q::U)).v]=some (.bool false,[aB (mk0 (wT s p q::U)).v]):=isq h false (by simp_all)
theorem a8P {p q:Int} (h:bD (yT w p q::U)):SS.CC 193 [.ptr 0 0,.str ⟨w.toArray⟩] [aB (mk0 (yT w p q::U)).v]=some (.bool true,[aB (mk0 (yT w p q::U)).v]):=isq h true (by simp)
abbrev uj:Nm := [99,111,110,116,114,111,108,108,97,98,108,101]
abbrev xn:Nm := [111,98,115,101,114,118,97,98,108,101]
abbrev Ar:Nm := [102,111,114,99,105,98,108,101]
abbrev MV:Nm := [102,97,117,108,116]
theorem e328 (q:Sh.V bn) {A:RA} (h:A.ok) (w:Nm):SS.CC 285 [.str ⟨w.toArray⟩,.ptr 0 0] [some [.ptr 1 0],aY q,aB A.v]=some (.bool (A.is w),[some [.ptr 1 0],aY q,aB (A.take w).v]):=by have e:=Cf h ⟨w.toArray⟩;rw[bD0,eG e]
theorem a_Y (q:Sh.V eH) {A:RA} (h:A.ok):SS.CC 225 [.ptr 0 0,.sl false 1 [.str ⟨uj.toArray⟩,.str ⟨xn.toArray⟩,.str ⟨Ar.toArray⟩]] [au q,aB A.v] =
 some (.sl false 1 [.bool (A.is uj),.bool ((A.take uj).is xn),.bool (((A.take uj).take xn).is Ar)],[au q,aB (((A.take uj).take xn).take Ar).v]):=by
 have e:SS.CC 284 [.sl false 1 [.str ⟨uj.toArray⟩,.str ⟨xn.toArray⟩,.str ⟨Ar.toArray⟩],.func (.func 285) [] [.ptr 0 0]] [some [.ptr 1 0],aY q,aB A.v] =
  some (.sl false 1 [.bool (A.is uj),.bool ((A.take uj).is xn),.bool (((A.take uj).take xn).is Ar)],[some [.ptr 1 0],aY q,aB (((A.take uj).take xn).take Ar).v]):=by
  rw[bC',Zy];show aA true (RQ 285 [.str ⟨uj.toArray⟩,.ptr 0 0] [some [.ptr 1 0],aY q,aB A.v] _) _=_;rw[a4R (e328 q h uj)];rw[aQ (iQ (by decide)),Zy];show aA true (RQ 285 [.str ⟨xn.toArray⟩,.ptr 0 0] [some [.ptr 1 0],aY q,aB (A.take uj).v] _) _=_;rw[a4R (e328 q (h.take _) xn)];rw[aQ (iQ (by simp)),Zy];show aA true (RQ 285 [.str ⟨Ar.toArray⟩,.ptr 0 0] [some [.ptr 1 0],aY q,aB ((A.take uj).take xn).v] _) _=_;rw[a4R (e328 q ((h.take _).take _) Ar)];rw[Zy];rfl
 rw[bA',aWI e]
theorem aZ' (l:List lM) (hn:l.length<=1000):SS.CC 223 [.sl false 5 (l.map uU),.func (.func 224) [] []] []=some (.sl false 1 (aK (l.map (·.n))),[]):=by
 rw[bAY];refine oQ (n:=l.length) (L:=fun k=>Zh (l.map uU) (aK ((l.take k).map (·.n))) (k:Int)) (fun k hk => ?_) ?_
 .rw[aKY,aN (by rw[bW]; omega),aI,PU hk,pJ (bAZ _),aQ (iQ (CE _ l k hn)),CB (·.n) l hk,bU (by omega)]
 grind [aKY,aC]
def evR (e:lM):List Tok:=tW e.n::((if e.c then [tW uj] else []) ++ ((if e.o then [tW xn] else []) ++ ((if e.f then [tW Ar] else []) ++ ((if e.k=0 then [] else tW MV::dO e.k) ++ [tS [59]]))))
theorem a_A (e:lM):ql e=tW [101,118,101,110,116]::evR e:=by simp[ql,evR]
theorem evK (m:Mo) (q:Sh.V bn) (e:lM) (hm:m.es.length<=999) (hs:e.n∉m.es.map (·.n)) (hk:0<=e.k/\e.k<=4) (h:Co T (evR e)) (hT:bD (T ++ U)) :
 SS.CC 146 [.ptr 0 0,.ptr 1 0] [aY q,bJ (aS m),aB (mk0 (T ++ U)).v]=some (.tuple [],[aY q,bJ (aS { m with es:=m.es ++ [e] }),aB (mk0 U).v])/\bD U:=by
 obtain ⟨p1,q1,T1,e_,h_⟩:=jB h; clear h; have h:=h_; subst e_;rw[lI] at hT ⊢;have h1:=iT hT;have hF:∃ t B2,(if e.k=0 then [] else tW MV::dO e.k) ++ [tS [59]]=t::B2/\t.text≠Ar/\t.text≠xn/\t.text≠uj:=by grind
 obtain ⟨tf,Bf,eF,f1,f2,f3⟩:=hF;have hO:∃ t B2,(if e.f then [tW Ar] else []) ++ ((if e.k=0 then [] else tW MV::dO e.k) ++ [tS [59]])=t::B2/\t.text≠xn/\t.text≠uj:=by grind
 obtain ⟨t0,Bo,eO,o1,o2⟩:=hO;have hC:∃ t B2,(if e.o then [tW xn] else []) ++ ((if e.f then [tW Ar] else []) ++ ((if e.k=0 then [] else tW MV::dO e.k) ++ [tS [59]]))=t::B2/\t.text≠uj:=by grind
 obtain ⟨T2,c2,k2,i2,t2⟩:=Q5 hC h h1;obtain ⟨T3,c3,k3,i3,t3⟩:=Q5 ⟨t0,Bo,eO,o1⟩ c2 k2;obtain ⟨T4,c4,k4,i4,t4⟩:=Q5 ⟨tf,Bf,eF,f1⟩ c3 k3;have e5:=a_Y q (je h1);rw[t2,t3,t4] at e5;rw[b8Z,uJ (aZ' m.es (by omega)),Ei (Eo _ (by rw[bF]; omega) hs hT)];rw[aWW e5];show jY 143 [.ptr 0 0,.str ⟨MV.toArray⟩] [aB (mk0 (T4 ++ U)).v] _=_/\_;have fin:∀ {T5:List Tok},Co T5 [tS [59]]->bD (T5 ++ U)->Zc q (aS m) (mk0 (T5 ++ U)).v (bs e.n,e.c,e.o,e.f,e.k,())=some (.tuple [],[aY q,bJ (aS { m with es:=m.es ++ [e] }),aB (mk0 U).v])/\bD U:=fun {T5} c5 k5=>by obtain ⟨p,r,T6,rfl,c6⟩:=jk c5;obtain rfl:=kU c6;refine ⟨?_,jW k5⟩;rw[b8X];refine (jJ (mD k5)).trans ?_;rw[aQ (iQ (by rw[bF]; omega))];simp
 by_cases c:e.k=0
 .rw[aX c] at c4;obtain ⟨T5,c5,k5,i5,t5⟩:=Q5 (b:=false) (w:=MV) ⟨_,_,rfl,by decide⟩ c4 k4;have e6:=Cf (je k4) ⟨MV.toArray⟩;rw[eG e6];grind [aC]
 .rw[aV c] at c4;obtain ⟨p,r,T5,rfl,c5⟩:=jB c4;obtain ⟨T6,T7,rfl,c6,c7⟩:=kT c5;rw[lI,nJ] at k4 ⊢;obtain ⟨e7,k7⟩:=aNS (lo:=1) ⟨by omega,by omega⟩ (by omega) hk.2 c6 (iT k4);rw[eG (Qa k4)];rw[aI,XY e7];grind
theorem aVX {p q:Int} (h:bD (wT s p q::U)) (hx:x∈jS):s≠x:=fun e=>by
 rcases h with ⟨h,_⟩ | ⟨h,_⟩
 simp_all
 .rcases h with ⟨_,h⟩ | ⟨h,_⟩ | ⟨h,_⟩
  grind
  simp_all;simp_all
theorem aVZ (q:Sh.V gY) (n t:ByteArray) (l:List Nm) (hl:l.length<=1000) (h:Co T (tV l)) (hT:bD (T ++ U)) :
 SS.CC 228 [.ptr 0 0,.func (.func 234) [] [.ptr 1 0,.ptr 2 0]] [fV q,nK (n,t,[],()),some [.ptr 0 0],aB (mk0 (T ++ U)).v]=some (.tuple [],[fV q,nK (n,t,aK l,()),some [.ptr 0 0],aB (mk0 U).v])/\bD U:=by
 obtain ⟨p,r,T1,e_,h_⟩:=jk h; clear h; have h:=h_; subst e_;rw[lI] at hT ⊢;have h1:=jW hT;rw[bB6,jJ (mD hT)];match l,hl,h with
 | [],_,k =>obtain ⟨p2,r2,T2,e_,k_⟩:=jk k; clear k; have k:=k_; subst e_;obtain rfl:=kU k;refine ⟨?_,jW h1⟩;refine (eG (a8P h1)).trans ?_;exact (jJ (mD h1)).trans rfl
 | s::l,hl,k =>
  rw[sN,QN] at k;obtain ⟨p2,r2,T2,e_,k_⟩:=jB k; clear k; have k:=k_; subst e_;obtain ⟨T3,T4,rfl,h3,h4⟩:=kT k;obtain ⟨p3,r3,T5,rfl,h5⟩:=jk h4;obtain rfl:=kU h5;have k1:bD (wT s p2 r2::(T3 ++ (yT [41] p3 r3::U))):=by grind
  have et:(wT s p2 r2::(T3 ++ [yT [41] p3 r3]) ++ U:List Tok)=wT s p2 r2::(T3 ++ (yT [41] p3 r3::U)):=by simp
  have step:∀ (acc:List Nm) (a:Nm) (tail:List Tok) (p q':Int),acc.length<=1000->bD (wT a p q'::tail) ->
   SS.CC 234 [.ptr 0 0,.ptr 1 0] [nK (n,t,aK acc,()),some [.ptr 2 0],fV q,aB (mk0 (wT a p q'::tail)).v]=some (.tuple [],[nK (n,t,aK (acc ++ [a]),()),some [.ptr 2 0],fV q,aB (mk0 tail).v]):=fun acc a tail p q' ha k=>by
   rw[bBJ];dsimp only[nN];rw[BJ (IX k)];rw[aQ (iQ (by rw[iD]; omega))];repeat rw[DL]
   rw[show ([.str (bs a)]:List PV)=aK [a] from rfl,a3O]
  obtain ⟨e2,k2⟩:=a3C (s::l) (C:=fun T acc=>Zp (mk0 T).v (n,t,aK acc,()) q)
   (fun acc a l' T tail p' q' hL h hT=>by
    obtain ⟨p4,r4,T6,rfl,h6⟩:=jB h;obtain rfl:=kU h6;have ha:acc.length<=1000:=by grind
    refine ⟨?_,iT (jW hT)⟩;rw[aL3];show aA true (jY 143 [.ptr 0 0,.str ⟨#[44]⟩] _ _) _=_;refine (eG (WF hT)).trans ?_;exact (aEM (step acc a tail p4 r4 ha (jW hT))).trans rfl)
   l [s] T3 (yT [41] p3 r3::U) rfl h3 (iT k1)
  have e0:SS.CC 236 [.ptr 0 0,.func (.func 234) [] [.ptr 1 0,.ptr 2 0]] [aB (mk0 (wT s p2 r2::(T3 ++ (yT [41] p3 r3::U)))).v,nK (n,t,[],()),some [.ptr 3 0],kH q]=some (.tuple [],[aB (mk0 (yT [41] p3 r3::U)).v,nK (n,t,aK (s::l),()),some [.ptr 3 0],kH q]):=by rw[bBW];refine (aEM (step [] s _ p2 r2 (by simp) k1)).trans ?_;refine e2.trans ?_;rw[aL3];show aA true (jY 143 [.ptr 0 0,.str ⟨#[44]⟩] _ _) _=_;refine (eG (Qb k2 (by decide))).trans ?_;rw[aC]
  rw[et];refine ⟨?_,jW k2⟩;refine (eG (Ue k1 (aVX k1 (by decide)))).trans ?_;refine (aWH e0).trans ?_;exact (jJ (mD k2)).trans rfl
end
section
variable {T U B:List Tok} {s x w:Nm}
def inR (x:Ins):List Tok:=tW x.n::tS [61]::tW x.t::(tV x.es ++ [tS [59]])
theorem inC (m:Mo) (q:Sh.V bn) (x:Ins) (hm:m.cs.length+m.rs.length<=999) (hs:x.n∉(m.cs ++ m.rs).map (·.n)) (he:x.es.length<=1000) (h:Co T (inR x)) (hT:bD (T ++ U)) :
 SS.CC 150 [.ptr 0 0,.ptr 1 0,.ptr 1 3] [aY q,bJ (aS m),aB (mk0 (T ++ U)).v]=some (.tuple [],[aY q,bJ (aS { m with cs:=m.cs ++ [x] }),aB (mk0 U).v])/\bD U:=by
 obtain ⟨p1,r1,T1,e_,h_⟩:=jB h; clear h; have h:=h_; subst e_;have h1:=iT hT;obtain ⟨p2,r2,T2,e_,h_⟩:=jk h; clear h; have h:=h_; subst e_;have h2:=jW h1;obtain ⟨p3,r3,T3,e_,h_⟩:=jB h; clear h; have h:=h_; subst e_;have h3:=iT h2;obtain ⟨T4,T5,rfl,h4,h5⟩:=kT h;obtain ⟨p6,r6,T6,rfl,h6⟩:=jk h5;obtain rfl:=kU h6;have h3':bD (T4 ++ (yT [59] p6 r6::U)):=by simpa using h3
 obtain ⟨e4,k4⟩:=aVZ q (bs x.n) (bs x.t) x.es he h4 h3';rw[show (T4 ++ (yT [59] p6 r6::U):List Tok)=T4 ++ [yT [59] p6 r6] ++ U by simp] at e4;refine ⟨?_,jW k4⟩;rw[b95];dsimp only[nN];rw[XP (YR m.cs (by omega)),aQ (PZ (by rw[bF]; omega) (by rw[bF]; omega)),<- qZ,uJ (aGU (m.cs ++ m.rs) (by rw[aU]; omega))];refine (Ei (Eo _ (by rw[bF,aU]; omega) hs hT)).trans ?_;refine (jJ (mD h1)).trans ?_;refine (BJ (IX h2)).trans ?_;refine (aF0 e4).trans ?_;refine (jJ (mD k4)).trans ?_;rw[aQ (iQ (by rw[bF]; omega))];simp
theorem inQ (m:Mo) (q:Sh.V bn) (x:Ins) (hm:m.cs.length+m.rs.length<=999) (hs:x.n∉(m.cs ++ m.rs).map (·.n)) (he:x.es.length<=1000) (h:Co T (inR x)) (hT:bD (T ++ U)) :
 SS.CC 150 [.ptr 0 0,.ptr 1 0,.ptr 1 4] [aY q,bJ (aS m),aB (mk0 (T ++ U)).v]=some (.tuple [],[aY q,bJ (aS { m with rs:=m.rs ++ [x] }),aB (mk0 U).v])/\bD U:=by
 obtain ⟨p1,r1,T1,e_,h_⟩:=jB h; clear h; have h:=h_; subst e_;have h1:=iT hT;obtain ⟨p2,r2,T2,e_,h_⟩:=jk h; clear h; have h:=h_; subst e_;have h2:=jW h1;obtain ⟨p3,r3,T3,e_,h_⟩:=jB h; clear h; have h:=h_; subst e_;have h3:=iT h2;obtain ⟨T4,T5,rfl,h4,h5⟩:=kT h;obtain ⟨p6,r6,T6,rfl,h6⟩:=jk h5;obtain rfl:=kU h6;have h3':bD (T4 ++ (yT [59] p6 r6::U)):=by simpa using h3
 obtain ⟨e4,k4⟩:=aVZ q (bs x.n) (bs x.t) x.es he h4 h3';rw[show (T4 ++ (yT [59] p6 r6::U):List Tok)=T4 ++ [yT [59] p6 r6] ++ U by simp] at e4;refine ⟨?_,jW k4⟩;rw[b96];dsimp only[nN];rw[XP (YR m.cs (by omega)),aQ (PZ (by rw[bF]; omega) (by rw[bF]; omega)),<- qZ,uJ (aGU (m.cs ++ m.rs) (by rw[aU]; omega))];refine (Ei (Eo _ (by rw[bF,aU]; omega) hs hT)).trans ?_;refine (jJ (mD h1)).trans ?_;refine (BJ (IX h2)).trans ?_;refine (aF0 e4).trans ?_;refine (jJ (mD k4)).trans ?_;rw[aQ (iQ (by rw[bF]; omega))];simp
def xcR (x:pI):List Tok:=tW x.n::tS [58]::(gq (tS [44]) (x.ls.map fun l => [tW l.1,tW l.2]) ++ [tS [59]])
theorem lcK (q:Sh.V jh) (n:ByteArray) (a:Nm×Nm) (l:List (Nm×Nm)) (hl:(a::l).length<=1000) (h:Co T (gq (tS [44]) ((a::l).map fun l => [tW l.1,tW l.2]))) {p r:Int} (hT:bD (T ++ (yT [59] p r::U))) :
 SS.CC 236 [.ptr 0 0,.func (.func 237) [] [.ptr 1 0,.ptr 2 0]] [aB (mk0 (T ++ (yT [59] p r::U))).v,some [.ptr 3 0],vg (n,[],()),kH q]=some (.tuple [],[aB (mk0 (yT [59] p r::U)).v,some [.ptr 3 0],vg (n,(a::l).map qp,()),kH q])/\bD (yT [59] p r::U):=by
 rw[sN,QN] at h;obtain ⟨p2,r2,T2,e_,h_⟩:=jB h; clear h; have h:=h_; subst e_;obtain ⟨p3,r3,T3,e_,h_⟩:=jB h; clear h; have h:=h_; subst e_;have k1:=iT hT;have step:∀ (acc:List (Nm×Nm)) (a:Nm×Nm) (tail:List Tok) (p q1 p' q':Int),acc.length<=1000->bD (wT a.1 p q1::wT a.2 p' q'::tail) ->
  SS.CC 237 [.ptr 0 0,.ptr 1 0] [some [.ptr 2 0],vg (n,acc.map qp,()),fV q,aB (mk0 (wT a.1 p q1::wT a.2 p' q'::tail)).v]=some (.tuple [],[some [.ptr 2 0],vg (n,(acc ++ [a]).map qp,()),fV q,aB (mk0 tail).v]):=fun acc a tail p q1 p' q' ha k=>by
  rw[bBX,BJ (IX k)];rw[BJ (IX (iT k)),aQ (iQ (by rw[bF]; omega))];simp
 obtain ⟨e2,k2⟩:=a3C (a::l) (C:=fun T acc=>Zn (mk0 T).v (n,acc.map qp,()) q)
  (fun acc a l' T tail p' q' hL h hT=>by
   obtain ⟨p4,r4,T6,rfl,h6⟩:=jB h;obtain ⟨p5,r5,T7,rfl,h7⟩:=jB h6;obtain rfl:=kU h7;have ha:acc.length<=1000:=by grind
   refine ⟨?_,iT (iT (jW hT))⟩;rw[aL0];refine (eG (WF hT)).trans ?_;exact (aEI (step acc a tail p4 r4 p5 r5 ha (jW hT))).trans rfl)
  l [a] T3 (yT [59] p r::U) rfl h (iT k1)
 refine ⟨?_,k2⟩;rw[bBN];refine (aEI (step [] a _ p2 r2 p3 r3 (by simp) hT)).trans ?_;refine e2.trans ?_;rw[aL0];refine (eG (Qb k2 (by decide))).trans ?_;rfl
theorem xcK (m:Mo) (q:Sh.V bn) (x:pI) (hm:m.xs.length<=999) (hs:x.n∉m.xs.map (·.n)) (h0:x.ls ≠ []) (he:x.ls.length<=1000) (h:Co T (xcR x)) (hT:bD (T ++ U)) :
 SS.CC 153 [.ptr 0 0,.ptr 1 0] [aY q,bJ (aS m),aB (mk0 (T ++ U)).v]=some (.tuple [],[aY q,bJ (aS { m with xs:=m.xs ++ [x] }),aB (mk0 U).v])/\bD U:=by
 obtain ⟨n,ls⟩:=x;match ls,h0,he,h with
 | a::l,_,he,k =>
 obtain ⟨p1,r1,T1,e_,k_⟩:=jB k; clear k; have k:=k_; subst e_;have h1:=iT hT;obtain ⟨p2,r2,T2,e_,k_⟩:=jk k; clear k; have k:=k_; subst e_;have h2:=jW h1;obtain ⟨T4,T5,rfl,h4,h5⟩:=kT k;obtain ⟨p6,r6,T6,rfl,h6⟩:=jk h5;obtain rfl:=kU h6;have h3':bD (T4 ++ (yT [59] p6 r6::U)):=by simpa using h2
 obtain ⟨e4,k4⟩:=lcK q (bs n) a l he h4 h3';rw[show (T4 ++ (yT [59] p6 r6::U):List Tok)=T4 ++ [yT [59] p6 r6] ++ U by simp] at e4;refine ⟨?_,jW k4⟩;rw[b9A];dsimp only[nN];rw[uJ (a'2 m.xs (by omega))];refine (Ei (Eo _ (by rw[bF]; omega) hs hT)).trans ?_;refine (jJ (mD h1)).trans ?_;refine (aWV e4).trans ?_;refine (jJ (mD k4)).trans ?_;rw[aQ (iQ (by rw[bF]; omega))];simp
def ctR (x:Cst):List Tok:=tW x.n::tS [58]::(gq (tS [43]) (x.ts.map fun l=>dO l.2 ++ [tS [42],tW l.1]) ++ (tS [60,61]::(dO x.b ++ [tS [59]])))
theorem a'E (x:Cst):pO x=tW [108,105,109,105,116]::ctR x:=by simp[pO,ctR]
theorem aVG (q:Sh.V bn) (y:Sh.V iP) (n:ByteArray) (acc:List (Nm×Int)) (a:Nm×Int) {tail:List Tok} (ha:acc.length<=1000) (hv:R16 a.2) (h:Co T (dO a.2 ++ [tS [42],tW a.1])) (hT:bD (T ++ tail)) :
 KI q y (mk0 (T ++ tail)).v n true (acc.map yU)=jY 143 [.ptr 0 0,.str ⟨#[43]⟩] [aB (mk0 tail).v] (fun b u=>KI q y u n b ((acc ++ [a]).map yU))/\bD tail:=by
 obtain ⟨T1,T2,rfl,h1,h2⟩:=kT h;rw[nJ] at hT ⊢;obtain ⟨p2,r2,T3,rfl,h3⟩:=jk h2;obtain ⟨p3,r3,T4,rfl,h4⟩:=jB h3;obtain rfl:=kU h4;obtain ⟨e1,k1⟩:=UX q hv h1 hT;have k2:=jW k1;refine ⟨?_,iT k2⟩;rw[aKH,Gq (Ia _)];refine (DC e1).trans ?_;refine (jJ (mD k1)).trans ?_;refine (BJ (IX k2)).trans ?_;rw[aQ (iQ (by rw[bF]; omega)),a9'];rfl
theorem ctK (m:Mo) (q:Sh.V bn) (x:Cst) (hm:m.ks.length<=999) (hs:x.n∉m.ks.map (·.n)) (h0:x.ts ≠ []) (he:x.ts.length<=1000) (hv:∀ l,l∈x.ts->R16 l.2) (hb:R16 x.b) (h:Co T (ctR x)) (hT:bD (T ++ U)) :
 SS.CC 155 [.ptr 0 0,.ptr 1 0] [aY q,bJ (aS m),aB (mk0 (T ++ U)).v]=some (.tuple [],[aY q,bJ (aS { m with ks:=m.ks ++ [x] }),aB (mk0 U).v])/\bD U:=by
 obtain ⟨n,ts,b⟩:=x;match ts,h0,he,hv,h with
 | a::l,_,he,hv,k =>
 obtain ⟨p1,r1,T1,e_,k_⟩:=jB k; clear k; have k:=k_; subst e_;have h1:=iT hT;obtain ⟨p2,r2,T2,e_,k_⟩:=jk k; clear k; have k:=k_; subst e_;have h2:=jW h1;rw[sN,QN,nJ] at k;obtain ⟨T3,T4,rfl,h3,h4⟩:=kT k;obtain ⟨T5,T6,rfl,h5,h6⟩:=kT h4;obtain ⟨p7,r7,T7,rfl,h7⟩:=jk h6;obtain ⟨T8,T9,rfl,h8,h9⟩:=kT h7;obtain ⟨p9,r9,T10,rfl,h10⟩:=jk h9;obtain rfl:=kU h10;have et:(T3 ++ (T5 ++ yT [60,61] p7 r7::(T8 ++ [yT [59] p9 r9])) ++ U:List Tok)=T3 ++ (T5 ++ (yT [60,61] p7 r7::(T8 ++ (yT [59] p9 r9::U)))):=by simp
 have h2':bD (T3 ++ (T5 ++ (yT [60,61] p7 r7::(T8 ++ (yT [59] p9 r9::U))))):=by rw[<- et]; exact h2
 obtain ⟨e3,k3⟩:=aVG q (aS m) (bs n) [] a (by simp) (hv a (by simp)) h3 h2';obtain ⟨e5,k5⟩:=a3C (a::l) (C:=fun T acc=>jY 143 [.ptr 0 0,.str ⟨#[43]⟩] [aB (mk0 T).v] (fun b u=>KI q (aS m) u (bs n) b (acc.map yU)))
  (fun acc a' l' T tail p' q' hL h hT=>by
   have ha:acc.length<=1000:=by have:=congrArg List.length hL; simp at this he; omega
   have hm':a'∈a::l:=by rw[hL]; simp
   obtain ⟨e6,k6⟩:=aVG q (aS m) (bs n) acc a' ha (hv a' hm') h (jW hT);exact ⟨(eG (WF hT)).trans e6,k6⟩)
  l [a] T5 _ rfl h5 k3
 have k7:=jW k5;obtain ⟨e8,k8⟩:=UX q hb h8 k7;refine ⟨?_,jW k8⟩;rw[b9F,uJ (a'0 m.ks (by omega))];refine (Ei (Eo _ (by rw[bF]; omega) hs hT)).trans ?_;refine (jJ (mD h1)).trans ?_;show KI q (aS m) (mk0 (T3 ++ (T5 ++ yT [60,61] p7 r7::(T8 ++ [yT [59] p9 r9])) ++ U)).v (bs n) true []=_;rw[et];refine e3.trans (e5.trans ?_);refine (eG (Qb k5 (by decide))).trans ?_;rw[aKH,b9C];refine (jJ (mD k5)).trans ?_;refine (DC e8).trans ?_;refine (jJ (mD k8)).trans ?_;rw[aQ (iQ (by rw[bF]; omega))];rw[show (rD (bs n,(a::l).map yU,b,()):PV)=mJ ⟨n,a::l,b⟩ from rfl,a9']
end
section
variable {T U B:List Tok} {s x w:Nm}
abbrev tQ (n:ByteArray) (es ls:List Nm) (I:Int) (mr:List Int) (vs:List Vr) (ms:List Mv):Sh.V gW:=(n,aK ls,aK es,[],0,I,fA mr,vs.map jI,ms.map qW,())
theorem bWD (q:Sh.V gY) (n:ByteArray) (l:List Nm) (hl:l.length<=1000) (hd:l.Nodup) (h:Co T (tV l)) (hT:bD (T ++ U)) :
 SS.CC 228 [.ptr 0 0,.func (.func 229) [] [.ptr 1 0,.ptr 2 0]] [fV q,fM (tQ n [] [] 0 [] [] []),some [.ptr 0 0],aB (mk0 (T ++ U)).v]=some (.tuple [],[fV q,fM (tQ n l [] 0 [] [] []),some [.ptr 0 0],aB (mk0 U).v])/\bD U:=by
 obtain ⟨p,r,T1,e_,h_⟩:=jk h; clear h; have h:=h_; subst e_;rw[lI] at hT ⊢;have h1:=jW hT;rw[bB7,jJ (mD hT)];match l,hl,hd,h with
 | [],_,_,k =>obtain ⟨p2,r2,T2,e_,k_⟩:=jk k; clear k; have k:=k_; subst e_;obtain rfl:=kU k;refine ⟨?_,jW h1⟩;refine (eG (a8P h1)).trans ?_;exact (jJ (mD h1)).trans rfl
 | s::l,hl,hd,k =>
  rw[sN,QN] at k;obtain ⟨p2,r2,T2,e_,k_⟩:=jB k; clear k; have k:=k_; subst e_;obtain ⟨T3,T4,rfl,h3,h4⟩:=kT k;obtain ⟨p3,r3,T5,rfl,h5⟩:=jk h4;obtain rfl:=kU h5;have k1:bD (wT s p2 r2::(T3 ++ (yT [41] p3 r3::U))):=by grind
  have et:(wT s p2 r2::(T3 ++ [yT [41] p3 r3]) ++ U:List Tok)=wT s p2 r2::(T3 ++ (yT [41] p3 r3::U)):=by simp
  have step:∀ (acc:List Nm) (a:Nm) (tail:List Tok) (p q':Int),acc.length<=1000->a∉acc->bD (wT a p q'::tail) ->
   SS.CC 229 [.ptr 0 0,.ptr 1 0] [fM (tQ n acc [] 0 [] [] []),some [.ptr 2 0],fV q,aB (mk0 (wT a p q'::tail)).v]=some (.tuple [],[fM (tQ n (acc ++ [a]) [] 0 [] [] []),some [.ptr 2 0],fV q,aB (mk0 tail).v]):=fun acc a tail p q' ha hn k=>by
   rw[bB8];dsimp only[nN];rw[Ei (Eo q ha hn k)];rw[aQ (iQ (by rw[iD]; omega))];repeat rw[DL]
   rw[show ([.str (bs a)]:List PV)=aK [a] from rfl,a3O]
  obtain ⟨e2,k2⟩:=a3C (s::l) (C:=fun T acc=>Zo (mk0 T).v (tQ n acc [] 0 [] [] []) q)
   (fun acc a l' T tail p' q' hL h hT=>by
    obtain ⟨p4,r4,T6,rfl,h6⟩:=jB h;obtain rfl:=kU h6;have ha:acc.length<=1000:=by grind
    have hn:a∉acc:=fun hm=>by grind
    refine ⟨?_,iT (jW hT)⟩;rw[aL1];refine (eG (WF hT)).trans ?_;exact (aEK (step acc a tail p4 r4 ha hn (jW hT))).trans rfl)
   l [s] T3 (yT [41] p3 r3::U) rfl h3 (iT k1)
  have e0:SS.CC 236 [.ptr 0 0,.func (.func 229) [] [.ptr 1 0,.ptr 2 0]] [aB (mk0 (wT s p2 r2::(T3 ++ (yT [41] p3 r3::U)))).v,fM (tQ n [] [] 0 [] [] []),some [.ptr 3 0],kH q]=some (.tuple [],[aB (mk0 (yT [41] p3 r3::U)).v,fM (tQ n (s::l) [] 0 [] [] []),some [.ptr 3 0],kH q]):=by rw[bBQ];refine (aEK (step [] s _ p2 r2 (by simp) (by simp) k1)).trans ?_;refine e2.trans ?_;rw[aL1];refine (eG (Qb k2 (by decide))).trans ?_;rfl
  rw[et];refine ⟨?_,jW k2⟩;refine (eG (Ue k1 (aVX k1 (by decide)))).trans ?_;refine (aWX e0).trans ?_;exact (jJ (mD k2)).trans rfl
abbrev Wp:Nm := [105,110,105,116,105,97,108]
abbrev wMk:Nm := [109,97,114,107,101,100]
abbrev wLo:Nm := [108,111,99,97,116,105,111,110]
abbrev wVa:Nm := [118,97,114]
abbrev wEd:Nm := [101,100,103,101]
theorem bL6 (q:Sh.V gY) (n:ByteArray) (es:List Nm) {pre:List Nm} (hs:s∉pre) (hp:pre.length<=999) {b1 b2 fl:Bool} (hfl:b1=true->fl=false) (I:Int) {mr:List Int} (hm:mr.length<=1000)
 (h:Co T (tW s::((if b1 then [tW Wp] else []) ++ ((if b2 then [tW wMk] else []) ++ [tS [59]])))) (hT:bD (T ++ U)) :
 SS.CC 230 [.ptr 0 0,.ptr 1 0,.ptr 2 0] [fV q,fM (tQ n es pre I mr [] []),nM (fl,()),aB (mk0 (T ++ U)).v]=some (.tuple [],[fV q,fM (tQ n es (pre ++ [s]) (if b1 then (pre.length:Int) else I) (if b2 then mr ++ [(pre.length:Int)] else mr) [] []),nM (b1||fl,()),aB (mk0 U).v])/\bD U:=by
 obtain ⟨p,r,T1,e_,h_⟩:=jB h; clear h; have h:=h_; subst e_;rw[lI] at hT ⊢;have hB:∃ t B2,(if b2 then [tW wMk] else []) ++ [tS [59]]=t::B2/\t.text≠Wp:=by grind
 obtain ⟨T2,c2,k2,i2,t2⟩:=Q5 hB h (iT hT);obtain ⟨T3,c3,k3,i3,t3⟩:=Q5 ⟨_,_,rfl,by decide⟩ c2 k2;obtain ⟨p4,r4,T4,rfl,c4⟩:=jk c3;obtain rfl:=kU c4;have ei:=PH (je (iT hT)) ⟨Wp.toArray⟩;have eT:=Cf (je (iT hT)) ⟨Wp.toArray⟩;have eM:=Cf (je k2) ⟨wMk.toArray⟩;rw[i3,t3] at eM;have hw:i64.wrap (((aK pre ++ ([.str (bs s)]:List PV)).length:Int)-1)=(pre.length:Int):=by rw[aU,iD,uF,wrap64 (by omega) (by omega)]; omega
 have e7:∀ (I':Int) (f':Bool),Zi (pre.length:Int) q (tQ n es (pre ++ [s]) I' mr [] []) (mk0 (T2 ++ U)).v f'=some (.tuple [],[fV q,fM (tQ n es (pre ++ [s]) I' (if b2 then mr ++ [(pre.length:Int)] else mr) [] []),nM (f',()),aB (mk0 U).v]):=fun I' f'=>by
  rw[bBA];refine (eG eM).trans ?_;cases b2 with
  | true =>rw[aQ (iQ (by rw[bF]; omega))];refine (jJ (mD k3)).trans ?_;simp
  | false =>exact (jJ (mD k3)).trans rfl
 have e5:U6 q (tQ n es (pre ++ [s]) I mr [] []) fl (mk0 (T1 ++ U)).v (pre.length:Int)=some (.tuple [],[fV q,fM (tQ n es (pre ++ [s]) (if b1 then (pre.length:Int) else I) (if b2 then mr ++ [(pre.length:Int)] else mr) [] []),nM (b1||fl,()),aB (mk0 U).v]):=by rw[bB9];refine (eG eT).trans ?_;grind [aI,aC]
 refine ⟨?_,jW k3⟩;rw[bBB];dsimp only[nN];rw[Ei (Eo q (by omega) hs hT)];rw[aQ (iQ (by rw[iD]; omega)),eG (show SS.CC 193 [.ptr 0 0,.str ⟨#[105,110,105,116,105,97,108]⟩] [aB (mk0 (T1 ++ U)).v]=_ from ei)];repeat rw[DL]
 rw[hw,show aK pre ++ ([.str (bs s)]:List PV)=aK (pre ++ [s]) by rw[show ([.str (bs s)]:List PV)=aK [s] from rfl,a3O]];grind [aI,aC]
theorem b07 {mr:List Int} (hp:mr.Pairwise (· < ·)) (k:Int):mr.filter (fun i=>decide (i<k+1))=if k∈mr then mr.filter (fun i=>decide (i<k)) ++ [k] else mr.filter (fun i=>decide (i<k)):=by
 induction mr with
 | nil=>simp
 | cons a l ih =>
  rw[List.pairwise_cons] at hp;by_cases h1:a<k;grind
  .have e2:l.filter (fun i=>decide (i<k)) = []:=List.filter_eq_nil_iff.2 fun b hb=>by have:=hp.1 b hb; simp; omega
   grind
abbrev Ej (I:Int) (k:Nat):Int:=if I<(k:Int) then I else 0
abbrev L6 (mr:List Int) (k:Nat):List Int:=mr.filter fun i=>decide (i<(k:Int))
theorem aPV (q:Sh.V bn) (m:Sh.V iP) (n:ByteArray) (es:List Nm) {I:Int} (hI:0<=I) {mr:List Int} (hmr:mr.Pairwise (· < ·)) (hml:mr.length<=1000) :
 ∀ (l pre:List Nm) (T:List Tok),(pre ++ l).Nodup->(pre ++ l).length<=1000->Co T (wI I mr pre.length l)->bD (T ++ U) ->
 yG q m (mk0 (T ++ U)).v (tQ n es pre (Ej I pre.length) (L6 mr pre.length) [] []) (decide (I<(pre.length:Int)))=yG q m (mk0 U).v (tQ n es (pre ++ l) (Ej I (pre ++ l).length) (L6 mr (pre ++ l).length) [] []) (decide (I<((pre ++ l).length:Int)))/\bD U
 | [],pre,T,_,_,h,hT=>by obtain rfl:=kU h;simp_all
 | s::l,pre,T,hd,hl,h,hT=>by
  obtain ⟨T1,T2,rfl,h1,h2⟩:=kT h;have h1':Co T1 (tW wLo::tW s::((if decide (((pre.length:Nat):Int)=I) then [tW Wp] else []) ++ ((if decide (((pre.length:Nat):Int)∈mr) then [tW wMk] else []) ++ [tS [59]]))):=by grind [Ac]
  obtain ⟨p,r,T3,rfl,h3⟩:=jB h1';have eT:(wT wLo p r::T3 ++ T2 ++ U:List Tok)=wT wLo p r::(T3 ++ (T2 ++ U)):=by simp
  rw[eT] at hT ⊢;have hs:s∉pre:=fun hm=>by grind
  have hpl:pre.length<=999:=by grind
  obtain ⟨e1,k1⟩:=bL6 q n es hs hpl (fl:=decide (I<(pre.length:Int))) (fun c=>by simp_all) (Ej I pre.length) (ng (List.length_filter_le _ mr) hml) h3 (iT hT);have ih:=aPV q m n es hI hmr hml l (pre ++ [s]) T2 (by grind) (by grind) (by grind) k1;have a1:(if decide (((pre.length:Nat):Int)=I) then ((pre.length:Nat):Int) else Ej I pre.length)=Ej I (pre ++ [s]).length:=by grind
  have a2:(if decide (((pre.length:Nat):Int)∈mr) then L6 mr pre.length ++ [((pre.length:Nat):Int)] else L6 mr pre.length)=L6 mr (pre ++ [s]).length:=by rw[aU,uF];grind [b07]
  have a3:(decide (((pre.length:Nat):Int)=I)||decide (I<(pre.length:Int)))=decide (I<((pre ++ [s]).length:Int)):=by grind
  rw[a1,a2,a3] at e1;rw[nJ] at ih;refine ⟨?_,ih.2⟩;rw[Zd,Gq (Ia _)];refine (eG (Ue hT (by decide))).trans ?_;refine (eG (Qa hT)).trans ?_;refine (aWT e1).trans ?_;exact ih.1
end
section
variable {T U B:List Tok} {s x w:Nm}
theorem aD0 {p q:Int} (h:bD (wT s p q::U)) (hn:s≠w):SS.CC 143 [.ptr 0 0,.str ⟨w.toArray⟩] [aB (mk0 (wT s p q::U)).v]=some (.bool false,[aB (mk0 (wT s p q::U)).v]):=aVD h (by simp_all)
def vrR (v:Vr):List Tok:=tW v.n::tS [58]::(dO v.lo ++ (tS [46,46]::(dO v.hi ++ (tS [61]::(dO v.i ++ [tS [59]])))))
theorem bVL (v:Vr):pF v=tW wVa::vrR v:=by simp[pF,vrR]
theorem bVK (q:Sh.V bn) (n:ByteArray) (es ls:List Nm) (I:Int) (mr:List Int) {pre:List Vr} {v:Vr} (hs:v.n∉pre.map (·.n)) (hp:pre.length<=999) (htf:v.n≠nX/\v.n≠pV) (hr:R16 v.lo/\R16 v.hi/\R16 v.i) (h:Co T (vrR v)) (hT:bD (T ++ U)) :
 SS.CC 231 [.ptr 0 0,.ptr 1 0] [aY q,fM (tQ n es ls I mr pre []),aB (mk0 (T ++ U)).v]=some (.tuple [],[aY q,fM (tQ n es ls I mr (pre ++ [v]) []),aB (mk0 U).v])/\bD U:=by
 obtain ⟨p1,r1,T1,rfl,h1⟩:=jB h;obtain ⟨p2,r2,T2,rfl,h2⟩:=jk h1;obtain ⟨Ta,T3,rfl,ha,h3⟩:=kT h2;obtain ⟨p4,r4,T4,rfl,h4⟩:=jk h3;obtain ⟨Tb,T5,rfl,hb,h5⟩:=kT h4;obtain ⟨p6,r6,T6,rfl,h6⟩:=jk h5;obtain ⟨Tc,T7,rfl,hc,h7⟩:=kT h6;obtain ⟨p8,r8,T8,rfl,h8⟩:=jk h7;obtain rfl:=kU h8;simp only[lI,nJ] at hT ⊢;have k1:=iT hT;obtain ⟨ea,k2⟩:=UX q hr.1 ha (jW k1);obtain ⟨eb,k3⟩:=UX q hr.2.1 hb (jW k2);obtain ⟨ec,k4⟩:=UX q hr.2.2 hc (jW k3);refine ⟨?_,jW k4⟩;have hk:=aT6 v.n;rw[show (v.n==nX)=false by simp_all,show (v.n==pV)=false by simp_all] at hk;rw[bBE,jL (EP hT)];rw[aZ hk];rw[bBC,lN (aDO pre (by omega))];refine (Ei (Eo q (by rw[bF]; omega) hs hT)).trans ?_;refine (jJ (mD k1)).trans ?_;refine (DC ea).trans ?_;refine (jJ (mD k2)).trans ?_;refine (DC eb).trans ?_;refine (jJ (mD k3)).trans ?_;refine (DC ec).trans ?_;refine (jJ (mD k4)).trans ?_;rw[aQ (iQ (by rw[bF]; omega))];simp
theorem vsK (q:Sh.V bn) (m:Sh.V iP) (n:ByteArray) (es ls:List Nm) (I:Int) (mr:List Int) (fl:Bool) {vs:List Vr} (hl:vs.length<=1000) (hd:(vs.map (·.n)).Nodup) (htf:∀ v,v∈vs->v.n≠nX/\v.n≠pV) (hr:∀ v,v∈vs->R16 v.lo/\R16 v.hi/\R16 v.i) (h:Co T (vs.flatMap pF)) (hT:bD (T ++ U)) :
 yG q m (mk0 (T ++ U)).v (tQ n es ls I mr [] []) fl=yG q m (mk0 U).v (tQ n es ls I mr vs []) fl/\bD U :=
 E8 vs (C:=fun T acc=>yG q m (mk0 T).v (tQ n es ls I mr acc []) fl) (fun acc a l T tail hL h hT=>by
  rw[bVL] at h;obtain ⟨p,r,T1,rfl,h1⟩:=jB h;have hm:a∈vs:=by rw[hL]; simp
  have ha:acc.length<=999:=by grind
  have hn:a.n∉acc.map (·.n):=fun c=>by grind
  obtain ⟨e,k⟩:=bVK q n es ls I mr hn ha (htf a hm) (hr a hm) h1 (iT hT);refine ⟨?_,k⟩;rw[Zd,Gq (Ia _)];refine (eG (Ue hT (by decide))).trans ?_;refine (eG (aD0 hT (by decide))).trans ?_;refine (eG (Qa hT)).trans ?_;exact (aE' e).trans rfl) vs [] T U rfl h hT
theorem knq (q:Sh.V eH) {ns:List Nm} {i:Nat} (hn:ns.Nodup) (hi:ns[i]? = some s) (hl:ns.length<=1000) {p r:Int} (h:bD (wT s p r::U)) :
 SS.CC 286 [.ptr 0 0,.sl false 1 (aK ns)] [au q,aB (mk0 (wT s p r::U)).v]=some (.int .i64 (i:Int),[au q,aB (mk0 U).v]):=by
 have e:=P.knc (je h) q (vF ns) (by rw[bF]; omega);have hx:qU (bs (mk0 (wT s p r::U)).pk.text) (vF ns) 0=(i:Int):=by show qU (bs s) (vF ns) 0=_;rw[a8K ns i 0 s hn hi]; simp
 have h1:(mk0 (wT s p r::U)).PP (vF ns)=(i:Int):=by grind [RA.PP]
 have h2:(mk0 (wT s p r::U)).kn (vF ns)=mk0 U:=by unfold RA.kn;rw[a95 (fun c=>by omega)];rfl
 rw[h1,h2] at e;exact e
def Stp (U:List Tok):Prop:=∃ t U2,U=t::U2/\((t.kind=1/\t.text ≠ [63])\/uy [44] t\/uy [59] t)
theorem aU' (h:Stp U):Rh U 1/\(mk0 U).is [63]=false:=by
 obtain ⟨t,U2,rfl,h⟩:=h;rcases h with ⟨h1,h2⟩ | h | h
 .refine ⟨fun lv _ => ?_,?_⟩
  .show (t.kind==3&&_)=false;rw[h1]; rfl
  .show ((t.kind==1||t.kind==3)&&t.text == [63])=false;rw[show (t.text == [63])=false by grind,JF]
 .exact ⟨LJ h (by decide),a0V h (by decide)⟩
 .exact ⟨LJ h (by decide),a0V h (by decide)⟩
structure Ri (ns:List Nm):Prop where
 g:∀ s,s∈ns->Gn s
 t:∀ s,s∈ns->s≠nX
 f:∀ s,s∈ns->s≠pV
 d:ns.Nodup
 l:ns.length<=1000
theorem bH {ns:List Nm} (hn:Ri ns) {x:EX} (hx:rF ns.length x) (hdp:gJ x<=8) (h:Co T (ut ns x)) (hT:bD (T ++ U)) (hU:Stp U) :
 SS.CC 106 [.ptr 0 0] [au (0,aK ns,()),aB (mk0 (T ++ U)).v]=some (A1 (ev x),[au (0,aK ns,()),aB (mk0 U).v])/\bD U:=by
 have pb:=(OO hx).1;have hk:Nk T:=C9 h (vT hn.g pb);have hX:=P.Y6 hk (P.bPI hn.g hn.t hn.f hn.d hn.l pb 0 T (by decide) (by omega) h);exact ⟨hX U hT (aU' hU).1 (aU' hU).2,GU hk hT⟩
abbrev v48 (x:Mv):Sh.V rM:=(x.f,x.e,x.t,(ev x.g).1,(ev x.g).2.1,(ev x.g).2.2.1,(ev x.g).2.2.2.1,x.us.map pUp,())
theorem aVS {ns:List Nm} (hn:Ri ns) (x:Mv) (hl:x.us.length<=999) {u:Int×EX} (hu:0<=u.1/\u.1<ns.length) (hx:rF ns.length u.2) (hdp:gJ u.2<=8) (h:Co T (kY ns u)) (hT:bD (T ++ U)) (hU:Stp U) :
 SS.CC 287 [.ptr 0 0,.ptr 1 0] [some [.ptr 2 0],sS (v48 x),fV (0,aK ns,()),aB (mk0 (T ++ U)).v]=some (.tuple [],[some [.ptr 2 0],sS (v48 { x with us:=x.us ++ [u] }),fV (0,aK ns,()),aB (mk0 U).v])/\bD U:=by
 obtain ⟨p1,r1,T1,rfl,h1⟩:=jB h;obtain ⟨p2,r2,T2,rfl,h2⟩:=jk h1;simp only[lI] at hT ⊢;have k1:=iT hT;obtain ⟨e3,k3⟩:=bH hn hx hdp h2 (jW k1) hU;have hi:ns[u.1.toNat]? = some (ns.getD u.1.toNat []):=by simp_all
 have e1:=knq (0,aK ns,()) hn.d hi hn.l hT;rw[bD1];dsimp only[nN];rw[DC e1];rw[jJ (show SS.CC 32 [.ptr 0 0,.str ⟨#[58,61]⟩] _=_ from mD k1)];rw[zC e3];grind [aQ,iQ,DL]
theorem bVG {ns:List Nm} (hn:Ri ns) (x:Mv) (hx0:x.us = []) (a:Int×EX) (l:List (Int×EX)) (hl:(a::l).length<=1000) (hu:∀ u,u∈a::l->(0<=u.1/\u.1<ns.length)/\rF ns.length u.2/\gJ u.2<=8)
 (h:Co T (gq (tS [44]) ((a::l).map (kY ns)))) {p r:Int} (hT:bD (T ++ (yT [59] p r::U))) :
 SS.CC 236 [.ptr 0 0,.func (.func 287) [] [.ptr 1 0,.ptr 2 0]] [aB (mk0 (T ++ (yT [59] p r::U))).v,some [.ptr 3 0],sS (v48 x),kH (0,aK ns,())]=some (.tuple [],[aB (mk0 (yT [59] p r::U)).v,some [.ptr 3 0],sS (v48 { x with us:=a::l }),kH (0,aK ns,())])/\bD (yT [59] p r::U):=by
 rw[sN,QN] at h;obtain ⟨T1,T2,rfl,h1,h2⟩:=kT h;rw[nJ] at hT ⊢;have st:∀ {l2:List (Int×EX)} {T2:List Tok},Co T2 ((l2.map (kY ns)).flatMap (tS [44] :: ·))->Stp (T2 ++ (yT [59] p r::U)):=fun {l2 T2} h2=>by
  match l2,h2 with
  | [],h2 =>obtain rfl:=kU h2;exact ⟨_,_,rfl,.inr (.inr ⟨rfl,rfl⟩)⟩
  | b::l3,h2 =>obtain ⟨p5,r5,T5,rfl,_⟩:=jk h2;exact ⟨_,_,rfl,.inr (.inl ⟨rfl,rfl⟩)⟩
 obtain ⟨ua,ub,uc⟩:=hu a (by simp);obtain ⟨e1,k1⟩:=aVS hn x (by rw[hx0]; decide) ua ub uc h1 hT (st h2);have loop:∀ (l2 acc:List (Int×EX)) (T:List Tok),a::l=acc ++ l2->Co T ((l2.map (kY ns)).flatMap (tS [44] :: ·))->bD (T ++ (yT [59] p r::U)) ->
  U7 (mk0 (T ++ (yT [59] p r::U))).v (v48 { x with us:=acc }) (0,aK ns,())=U7 (mk0 (yT [59] p r::U)).v (v48 { x with us:=a::l }) (0,aK ns,())/\bD (yT [59] p r::U):=by
  intro l2;induction l2 with
  | nil =>grind [kU]
  | cons b l3 ih =>intro acc T hL h2 hT;obtain ⟨T3,T4,rfl,h3,h4⟩:=kT h2;obtain ⟨p5,r5,T5,rfl,h5⟩:=jk h3;simp only[nJ] at hT ⊢;obtain ⟨wa,wb,wc⟩:=hu b (by rw[hL]; simp);obtain ⟨e6,k6⟩:=aVS hn { x with us:=acc } (by have:=congrArg List.length hL; simp at this hl ⊢; omega) wa wb wc h5 (jW hT) (st h4);obtain ⟨e7,k7⟩:=ih (acc ++ [b]) T4 (by rw[hL]; simp) h4 k6;refine ⟨?_,k7⟩;rw[aL2];refine (eG (WF hT)).trans ?_;exact (aEL e6).trans e7
 obtain ⟨e2,k2⟩:=loop l [a] T2 rfl h2 k1;refine ⟨?_,k2⟩;rw[bBT];rw[hx0] at e1;refine (aEL e1).trans ?_;refine e2.trans ?_;rw[aL2];refine (eG (Qb k2 (by decide))).trans ?_;rw[aC]
end
section
variable {T U B:List Tok} {s x w:Nm}
abbrev wDo:Nm := [100,111]
abbrev wWh:Nm := [119,104,101,110]
def J7 (ns:List Nm) (us:List (Int×EX)):List Tok:=(if us = [] then [] else tW wDo::gq (tS [44]) (us.map (kY ns))) ++ [tS [59]]
def mvR (t:Tm) (x:Mv):List Tok:=tW (t.ls.getD x.f.toNat [])::tW (t.es.getD x.e.toNat [])::tW (t.ls.getD x.t.toNat [])::((if fH x.g tE then [] else tW wWh::ut (t.vs.map (·.n)) x.g) ++ J7 (t.vs.map (·.n)) x.us)
theorem bMN (t:Tm) (x:Mv):mF t x=tW wEd::mvR t x:=by simp[mF,mvR,J7]
theorem bVH {ns:List Nm} {us:List (Int×EX)} (h:Co T (J7 ns us)):Stp (T ++ U):=by
 unfold J7 at h;by_cases c:us = []
 .rw[aX c] at h;obtain ⟨p,r,T2,rfl,_⟩:=jk h;exact ⟨_,_,rfl,.inr (.inr ⟨rfl,rfl⟩)⟩
 .rw[aV c] at h;obtain ⟨p,r,T2,rfl,_⟩:=jB h;exact ⟨_,_,rfl,.inl ⟨rfl,(by decide:wDo ≠ [63])⟩⟩
theorem mvJ {ns:List Nm} (hn:Ri ns) (n:ByteArray) (es ls:List Nm) (I:Int) (mr:List Int) (vs:List Vr) {pre:List Mv} (hp:pre.length<=999) (x:Mv) (hl:x.us.length<=1000) (hu:∀ u,u∈x.us->(0<=u.1/\u.1<ns.length)/\rF ns.length u.2/\gJ u.2<=8) (h:Co T (J7 ns x.us)) (hT:bD (T ++ U)) :
 Zl (0,aK ns,()) (tQ n es ls I mr vs pre) (mk0 (T ++ U)).v x.f x.e x.t (ev x.g).1 (ev x.g).2.1 (ev x.g).2.2.1 (ev x.g).2.2.2.1=some (.tuple [],[aY (0,aK ns,()),fM (tQ n es ls I mr vs (pre ++ [x])),aB (mk0 U).v])/\bD U:=by
 have fin:∀ (p r:Int) (V:List Tok),bD (yT [59] p r::V)->Zm (0,aK ns,()) (tQ n es ls I mr vs pre) (mk0 (yT [59] p r::V)).v (v48 x)=some (.tuple [],[aY (0,aK ns,()),fM (tQ n es ls I mr vs (pre ++ [x])),aB (mk0 V).v]):=fun p r V k=>by rw[bBG];refine (jJ (mD k)).trans ?_;rw[aQ (iQ (by rw[bF]; omega))];simp
 rw[bBF];unfold J7 at h;by_cases c:x.us = []
 .rw[aX c] at h;obtain ⟨p,r,T2,rfl,k2⟩:=jk h;obtain rfl:=kU k2;simp only[lI] at hT ⊢;refine ⟨?_,jW hT⟩;refine (eG (Qb hT (by decide))).trans ?_;grind [aC]
 .obtain ⟨a,l,hx⟩:=List.exists_cons_of_ne_nil c;rw[hx] at h;obtain ⟨p,r,T2,rfl,k2⟩:=jB h;obtain ⟨T3,T4,rfl,h3,h4⟩:=kT k2;obtain ⟨p5,r5,T5,rfl,h5⟩:=jk h4;obtain rfl:=kU h5;simp only[lI,nJ] at hT ⊢;obtain ⟨e6,k6⟩:=bVG hn { x with us := [] } rfl a l (by rw[<- hx]; exact hl) (by rw[<- hx]; exact hu) h3 (iT hT);refine ⟨?_,jW k6⟩;refine (eG (Qa hT)).trans ?_;refine (aWY e6).trans ?_;grind
theorem bN7 {t:Tm} (h:Nj t):Ri (t.vs.map (·.n)):=by
 refine ⟨fun s hs => ?_,fun s hs => ?_,fun s hs => ?_,h.vn,by rw[bF]; exact h.ok.vs.1⟩;all_goals
  obtain ⟨v,hv,rfl⟩:=uG.1 hs
 .exact (h.gd.vs v hv).1
 .exact (h.tf v hv).1
 .exact (h.tf v hv).2
theorem a7W {l:List Nm} {i:Int} (h:0<=i/\i<l.length):l[i.toNat]? = some (l.getD i.toNat []):=by simp_all
theorem bMM {t:Tm} (ht:Nj t) (v:List PV) (n:ByteArray) (I:Int) (mr:List Int) {pre:List Mv} (hp:pre.length<=999) {x:Mv} (hx:x∈t.ms) (h:Co T (mvR t x)) (hT:bD (T ++ U)) :
 SS.CC 232 [.ptr 0 0,.ptr 1 0] [aY (0,v,()),fM (tQ n t.es t.ls I mr t.vs pre),aB (mk0 (T ++ U)).v]=some (.tuple [],[aY (0,aK (t.vs.map (·.n)),()),fM (tQ n t.es t.ls I mr t.vs (pre ++ [x])),aB (mk0 U).v])/\bD U:=by
 have hg:=ht.gd.ms x hx;have hd:=ht.dp x hx;have ho:=ht.ok.ms.2 x hx;have hn:=bN7 ht;have hlv:(t.vs.map (·.n)).length=t.vs.length:=bF ..;obtain ⟨p1,r1,T1,rfl,h1⟩:=jB h;obtain ⟨p2,r2,T2,rfl,h2⟩:=jB h1;obtain ⟨p3,r3,T3,rfl,h3⟩:=jB h2;simp only[lI] at hT ⊢;have k1:=iT hT;have k2:=iT k1;have k3:=iT k2;have hus:∀ u,u∈x.us->(0<=u.1/\u.1<((t.vs.map (·.n)).length:Int))/\rF (t.vs.map (·.n)).length u.2/\gJ u.2<=8:=fun u hu=>by rw[hlv];exact ⟨(hg.us u hu).1,(hg.us u hu).2,hd.2 u hu⟩
 have e1:=knq (0,v,()) ht.ls (a7W hg.f) ht.ok.ls.1 hT;have e2:=knq (0,v,()) ht.es (a7W hg.e) ht.ok.es.1 k1;have e3:=knq (0,v,()) ht.ls (a7W hg.d) ht.ok.ls.1 k2;rw[show ((x.f.toNat:Nat):Int)=x.f by have:=hg.f; omega] at e1;rw[show ((x.e.toNat:Nat):Int)=x.e by have:=hg.e; omega] at e2;rw[show ((x.t.toNat:Nat):Int)=x.t by have:=hg.d; omega] at e3;rw[bBH,dN c116];rw[DC e1];rw[DC e2];rw[DC e3];rw[lN (aDO t.vs ht.ok.vs.1)];by_cases c:fH x.g tE=true
 .rw[aX c] at h3;obtain ⟨ef,kf⟩:=mvJ hn n t.es t.ls I mr t.vs hp x ho.2.1 hus h3 k3;refine ⟨?_,kf⟩;have hnw:(mk0 (T3 ++ U)).is wWh=false:=by
   have:∀ us,Co T3 (J7 (t.vs.map (·.n)) us)->(mk0 (T3 ++ U)).is wWh=false:=fun us h=>by
    unfold J7 at h;by_cases c:us = []
    .rw[aX c] at h;obtain ⟨p,r,T2,rfl,_⟩:=jk h;rfl
    .rw[aV c] at h;obtain ⟨p,r,T2,rfl,_⟩:=jB h;rfl
   grind
  have e4:=Cf (je k3) ⟨wWh.toArray⟩;rw[Lu hnw] at e4;refine (eG e4).trans ?_;grind [aC,a5']
 .rw[aV c] at h3;obtain ⟨p4,r4,T4,rfl,h4⟩:=jB h3;obtain ⟨T5,T6,rfl,h5,h6⟩:=kT h4;simp only[lI,nJ] at k3 ⊢;obtain ⟨e7,k7⟩:=bH hn (by rw[hlv]; exact hg.g) hd.1 h5 (iT k3) (bVH h6);obtain ⟨ef,kf⟩:=mvJ hn n t.es t.ls I mr t.vs hp x ho.2.1 hus h6 k7;refine ⟨?_,kf⟩;refine (eG (Qa k3)).trans ?_;refine (zC e7).trans ?_;exact ef
theorem msK {t:Tm} (ht:Nj t) (v:List PV) (m:Sh.V iP) (n:ByteArray) (I:Int) (mr:List Int) (fl:Bool) (h:Co T (t.ms.flatMap (mF t))) (hT:bD (T ++ U)) :
 yG (0,v,()) m (mk0 (T ++ U)).v (tQ n t.es t.ls I mr t.vs []) fl=yG (0,(if t.ms = [] then v else aK (t.vs.map (·.n))),()) m (mk0 U).v (tQ n t.es t.ls I mr t.vs t.ms) fl/\bD U:=by
 have:=E8 t.ms (C:=fun T acc=>yG (0,(if acc = [] then v else aK (t.vs.map fun w:Vr=>w.n)),()) m (mk0 T).v (tQ n t.es t.ls I mr t.vs acc) fl) (fun acc a l T tail hL h hT=>by
  rw[bMN] at h;obtain ⟨p,r,T1,rfl,h1⟩:=jB h;have ha:acc.length<=999:=by have:=ht.ok.ms.1; grind
  obtain ⟨e,k⟩:=bMM ht (if acc = [] then v else aK (t.vs.map (·.n))) n I mr ha (by rw[hL]; simp) h1 (iT hT);refine ⟨?_,k⟩;rw[aV (show acc ++ [a] ≠ [] by simp),Zd,Gq (Ia _)];refine (eG (Ue hT (by decide))).trans ?_;refine (eG (aD0 hT (by decide))).trans ?_;refine (eG (aD0 hT (by decide))).trans ?_;refine (eG (Qa hT)).trans ?_;exact (aE' e).trans rfl) t.ms [] T U rfl h hT
 exact this
def tmR (t:Tm):List Tok:=tW t.n::(tV t.es ++ (tS [123]::(wI t.I t.mr 0 t.ls ++ (t.vs.flatMap pF ++ (t.ms.flatMap (mF t) ++ [tS [125]])))))
abbrev wTe:Nm := [116,101,109,112,108,97,116,101]
theorem bTT (t:Tm):lF t=tW wTe::tmR t:=by simp[lF,tmR]
theorem bTX (m:Mo) (v:List PV) {t:Tm} (ht:Nj t) (hm:m.ts.length<=999) (hs:t.n∉m.ts.map (·.n)) (h:Co T (tmR t)) (hT:bD (T ++ U)) :
 SS.CC 148 [.ptr 0 0,.ptr 1 0] [aY (0,v,()),bJ (aS m),aB (mk0 (T ++ U)).v]=some (.tuple [],[aY (0,(if t.ms = [] then v else aK (t.vs.map (·.n))),()),bJ (aS { m with ts:=m.ts ++ [t] }),aB (mk0 U).v])/\bD U:=by
 obtain ⟨p1,r1,T1,rfl,h1⟩:=jB h;obtain ⟨Ta,T2,rfl,ha,h2⟩:=kT h1;obtain ⟨p3,r3,T3,rfl,h3⟩:=jk h2;obtain ⟨Tb,T4,rfl,hb,h4⟩:=kT h3;obtain ⟨Tc,T5,rfl,hc,h5⟩:=kT h4;obtain ⟨Td,T6,rfl,hd,h6⟩:=kT h5;obtain ⟨p7,r7,T7,rfl,h7⟩:=jk h6;obtain rfl:=kU h7;simp only[lI,nJ,XF] at hT ⊢;obtain ⟨ea,ka⟩:=bWD (0,v,()) (bs t.n) t.es ht.ok.es.1 ht.es ha (iT hT);obtain ⟨eb,kb⟩:=aPV (0,v,()) (aS m) (bs t.n) t.es ht.I.1 ht.mr.1 ht.ok.mr t.ls [] Tb (by simpa using ht.ls) (by simpa using ht.ok.ls.1) hb (jW ka);have i0:Ej t.I ([]:List Nm).length=0:=by unfold Ej; rw[aV (by have:=ht.I.1; simp; omega)]
 have m0:L6 t.mr ([]:List Nm).length = []:=List.filter_eq_nil_iff.2 fun i hi=>by have:=(ht.mr.2 i hi).1; simp; omega
 have f0:decide (t.I<((([]:List Nm).length:Nat):Int))=false:=aW (by have:=ht.I.1; simp; omega);have i1:Ej t.I ([] ++ t.ls).length=t.I:=by
  unfold Ej;rw[XF];split
  .rfl
  .rcases ht.I.2 with h | h<;>omega
 have m1:L6 t.mr ([] ++ t.ls).length=t.mr:=aDZ.2 fun i hi=>by have:=(ht.mr.2 i hi).2; simpa using this
 rw[i0,m0,f0,i1,m1] at eb;obtain ⟨ec,kc⟩:=vsK (0,v,()) (aS m) (bs t.n) t.es t.ls t.I t.mr (decide (t.I<(t.ls.length:Int))) ht.ok.vs.1 ht.vn ht.tf (fun v hv=>(ht.gd.vs v hv).2) hc kb;obtain ⟨ed,kd⟩:=msK ht v (aS m) (bs t.n) t.I t.mr (decide (t.I<(t.ls.length:Int))) hd kc;refine ⟨?_,jW kd⟩;rw[b93];dsimp only[nN];rw[uJ (a'1 m.ts (by omega))];refine (Ei (Eo _ (by rw[bF]; omega) hs hT)).trans ?_;refine (aWU ea).trans ?_;refine (jJ (mD ka)).trans ?_;refine eb.trans (ec.trans (ed.trans ?_));rw[Zd,Gq (Ia _)];refine (eG (a8P kd)).trans ?_;rw[b90];refine (jJ (mD kd)).trans ?_;have hn:SS.CC 161 [.int .i64 (((aK t.es).length:Nat):Int)] []=some (.sl false 1 (fA (uh t.es.length)),[]):=by rw[iD]; exact aRP _ ht.ok.es.1
 rw[uJ hn,aQ (iQ (by rw[bF]; omega))];rw[show (A5 (bs t.n,aK t.ls,aK t.es,fA (uh t.es.length),(((aK t.ls).length:Nat):Int),t.I,fA t.mr,t.vs.map jI,t.ms.map qW,()):PV)=qw t by rw[iD,<- ht.L,<- ht.al],a9']
end
section
variable {T:List Tok} {s:Nm} {a0 b0 a1 b1 a2 b2 a3 b3 a4 b4 a5 b5 a6 b6 a7 b7 a8 b8:Int}
end
abbrev kwX:Nm := [101,120,99,108,117,100,101]
abbrev kwL:Nm := [108,105,109,105,116]
section
variable {T:List Tok} {s:Nm} {a0 b0:Int}
theorem Uu {l:bZZ} {n:Nat} {k:Int} (h:l.length=n) (h2:(n:Int)<k):decide (k<=((l.length:Nat):Int))=false:=aW (by omega)
end
def Yl (m:Mo) (a b e:Int):R:=some (.tuple [A0 (aS m),bZV a,bZV b,bZV e],[])
abbrev zZ:Mo:=⟨[],[],[],[],[],[],[]⟩
abbrev mW:Nm := [109,111,100,101,108]
section
variable {T U B:List Tok}
abbrev wEv:Nm := [101,118,101,110,116]
abbrev PO (m:Mo) (v:List PV) (A:RA):R:=some (.tuple [],[aY (0,v,()),bJ (aS m),aB A.v])
theorem diE (m m':Mo) (v v':List PV) {p r:Int} (hT:bD (wT wEv p r::T)) (h:SS.CC 146 [.ptr 0 0,.ptr 1 0] [aY (0,v,()),bJ (aS m),aB (mk0 T).v]=PO m' v' (mk0 U)) :
 SS.CC 36 [.ptr 0 0,.ptr 1 0] [aY (0,v,()),bJ (aS m),aB (mk0 (wT wEv p r::T)).v]=PO m' v' (mk0 U):=by
 rw[Oa,jL (EP hT)];refine (jL (Pz hT I9)).trans ?_;have e:SS.CC 145 [.ptr 0 0,.ptr 1 0] [some [.ptr 2 0],some [.ptr 3 0],kR (0,v,()),bJ (aS m),aB (mk0 T).v]=some (.tuple [],[some [.ptr 2 0],some [.ptr 3 0],kR (0,v',()),bJ (aS m'),aB (mk0 U).v]):=by rw[b8W];exact (JX h).trans rfl
 exact (NY e).trans rfl
theorem diT (m m':Mo) (v v':List PV) (hn:m.ts.length<16) {p r:Int} (hT:bD (wT wTe p r::T)) (h:SS.CC 148 [.ptr 0 0,.ptr 1 0] [aY (0,v,()),bJ (aS m),aB (mk0 T).v]=PO m' v' (mk0 U)) :
 SS.CC 36 [.ptr 0 0,.ptr 1 0] [aY (0,v,()),bJ (aS m),aB (mk0 (wT wTe p r::T)).v]=PO m' v' (mk0 U):=by
 rw[Oa,jL (EP hT)];show aA false _ (aA false _ (aA false _ (aA false _ (aA false _ (aA true (aA false _ (aA (decide ((16:Int)<=(((aS m).2.2.1.length:Nat):Int))) _ _)) _)))))=_;rw[aC,aC,aC,aC,aC,Uu (bF ..) (by omega)];refine (jL (Pz hT I9)).trans ?_;have e:SS.CC 147 [.ptr 0 0,.ptr 1 0] [some [.ptr 2 0],some [.ptr 3 0],kR (0,v,()),bJ (aS m),aB (mk0 T).v]=some (.tuple [],[some [.ptr 2 0],some [.ptr 3 0],kR (0,v',()),bJ (aS m'),aB (mk0 U).v]):=by rw[b8'];exact (JX h).trans rfl
 exact (NY e).trans rfl
theorem diC (m m':Mo) (v v':List PV) (hn:m.cs.length<32) {p r:Int} (hT:bD (wT wC p r::T)) (h:SS.CC 150 [.ptr 0 0,.ptr 1 0,.ptr 1 3] [aY (0,v,()),bJ (aS m),aB (mk0 T).v]=PO m' v' (mk0 U)) :
 SS.CC 36 [.ptr 0 0,.ptr 1 0] [aY (0,v,()),bJ (aS m),aB (mk0 (wT wC p r::T)).v]=PO m' v' (mk0 U):=by
 rw[Oa,jL (EP hT)];rw[Uu (bF ..) (by omega)];refine (jL (Pz hT I9)).trans ?_;have e:SS.CC 149 [.ptr 0 0,.ptr 1 0] [some [.ptr 2 0],some [.ptr 3 0],kR (0,v,()),bJ (aS m),aB (mk0 T).v]=some (.tuple [],[some [.ptr 2 0],some [.ptr 3 0],kR (0,v',()),bJ (aS m'),aB (mk0 U).v]):=by rw[b94];exact (JX h).trans rfl
 exact (NY e).trans rfl
theorem diQ (m m':Mo) (v v':List PV) (hn:m.rs.length<32) {p r:Int} (hT:bD (wT wR p r::T)) (h:SS.CC 150 [.ptr 0 0,.ptr 1 0,.ptr 1 4] [aY (0,v,()),bJ (aS m),aB (mk0 T).v]=PO m' v' (mk0 U)) :
 SS.CC 36 [.ptr 0 0,.ptr 1 0] [aY (0,v,()),bJ (aS m),aB (mk0 (wT wR p r::T)).v]=PO m' v' (mk0 U):=by
 rw[Oa,jL (EP hT)];show aA false _ (aA false _ (aA false _ (aA false _ (aA true (aA false _ (aA (decide ((32:Int)<=(((aS m).2.2.2.2.1.length:Nat):Int))) _ _)) _))))=_;rw[aC,aC,aC,aC,Uu (bF ..) (by omega)];refine (jL (Pz hT I9)).trans ?_;have e:SS.CC 151 [.ptr 0 0,.ptr 1 0] [some [.ptr 2 0],some [.ptr 3 0],kR (0,v,()),bJ (aS m),aB (mk0 T).v]=some (.tuple [],[some [.ptr 2 0],some [.ptr 3 0],kR (0,v',()),bJ (aS m'),aB (mk0 U).v]):=by rw[b97];exact (JX h).trans rfl
 exact (NY e).trans rfl
theorem diX (m m':Mo) (v v':List PV) (hn:m.xs.length<32) {p r:Int} (hT:bD (wT kwX p r::T)) (h:SS.CC 153 [.ptr 0 0,.ptr 1 0] [aY (0,v,()),bJ (aS m),aB (mk0 T).v]=PO m' v' (mk0 U)) :
 SS.CC 36 [.ptr 0 0,.ptr 1 0] [aY (0,v,()),bJ (aS m),aB (mk0 (wT kwX p r::T)).v]=PO m' v' (mk0 U):=by
 rw[Oa,jL (EP hT)];show aA false _ (aA false _ (aA true (aA false _ (aA (decide ((32:Int)<=(((aS m).2.2.2.2.2.1.length:Nat):Int))) _ _)) _))=_;rw[aC,Uu (bF ..) (by omega)];refine (jL (Pz hT I9)).trans ?_;have e:SS.CC 152 [.ptr 0 0,.ptr 1 0] [some [.ptr 2 0],some [.ptr 3 0],kR (0,v,()),bJ (aS m),aB (mk0 T).v]=some (.tuple [],[some [.ptr 2 0],some [.ptr 3 0],kR (0,v',()),bJ (aS m'),aB (mk0 U).v]):=by rw[b98];exact (JX h).trans rfl
 exact (NY e).trans rfl
theorem diL (m m':Mo) (v v':List PV) (hn:m.ks.length<32) {p r:Int} (hT:bD (wT kwL p r::T)) (h:SS.CC 155 [.ptr 0 0,.ptr 1 0] [aY (0,v,()),bJ (aS m),aB (mk0 T).v]=PO m' v' (mk0 U)) :
 SS.CC 36 [.ptr 0 0,.ptr 1 0] [aY (0,v,()),bJ (aS m),aB (mk0 (wT kwL p r::T)).v]=PO m' v' (mk0 U):=by
 rw[Oa,jL (EP hT)];show aA false _ (aA false _ (aA false _ (aA true (aA false _ (aA (decide ((32:Int)<=(((aS m).2.2.2.2.2.2.1.length:Nat):Int))) _ _)) _)))=_;rw[aC,aC,aC,Uu (bF ..) (by omega)];refine (jL (Pz hT I9)).trans ?_;have e:SS.CC 154 [.ptr 0 0,.ptr 1 0] [some [.ptr 2 0],some [.ptr 3 0],kR (0,v,()),bJ (aS m),aB (mk0 T).v]=some (.tuple [],[some [.ptr 2 0],some [.ptr 3 0],kR (0,v',()),bJ (aS m'),aB (mk0 U).v]):=by rw[b9B];exact (JX h).trans rfl
 exact (NY e).trans rfl
theorem go1 {m':Mo} {v v':List PV} {w:Nm} {p r:Int} (hT:bD (wT w p r::T)) (h:SS.CC 36 [.ptr 0 0,.ptr 1 0] [aY (0,v,()),bJ (aS m),aB (mk0 (wT w p r::T)).v]=PO m' v' (mk0 U)) :
 yH (aS m) (mk0 (wT w p r::T)).v (0,v,())=yH (aS m') (mk0 U).v (0,v',()):=by
 rw[aLU,Gq (Ia _)];rw[jL (EP hT)];exact (JX h).trans rfl
theorem VB {f:α->Nm} {L acc l:List α} {a:α} (hd:(L.map f).Nodup) (hL:L=acc ++ a::l):f a∉acc.map f:=fun c=>by grind
theorem Pn {L acc l:List α} {a:α} (hL:L=acc ++ a::l):a∈L:=by rw[hL]; simp
def QG (v:List PV) (l:List Tm):List PV:=l.foldl (fun v t=>if t.ms = [] then v else aK (t.vs.map (·.n))) v
theorem bRM (hm:PgM m) (h:Co T (m.es.flatMap ql ++ (m.ts.flatMap lF ++ (m.cs.flatMap (inT wC) ++ (m.rs.flatMap (inT wR) ++ (m.xs.flatMap rC ++ m.ks.flatMap pO)))))) (hT:bD (T ++ U)) :
 ∃ v,yH (aS { zZ with n:=m.n }) (mk0 (T ++ U)).v (0,[],())=yH (aS m) (mk0 U).v (0,v,())/\bD U:=by
 obtain ⟨T1,R1,rfl,h1,k1⟩:=kT h;obtain ⟨T2,R2,rfl,h2,k2⟩:=kT k1;obtain ⟨T3,R3,rfl,h3,k3⟩:=kT k2;obtain ⟨T4,R4,rfl,h4,k4⟩:=kT k3;obtain ⟨T5,T6,rfl,h5,h6⟩:=kT k4;simp only[nJ] at hT ⊢;have ho:=hm.ok;have hg:=hm.gd;obtain ⟨e1,t1⟩:=E8 m.es (C:=fun T acc=>yH (aS { zZ with n:=m.n,es:=acc }) (mk0 T).v (0,[],())) (fun acc a l T tail hL h hT=>by rw[a_A] at h;obtain ⟨p,r,T1,rfl,h1⟩:=jB h;have:=ho.es.1;obtain ⟨e,k⟩:=evK { zZ with n:=m.n,es:=acc } (0,[],()) a (by grind) (VB hm.es hL) (hg.es a (Pn hL)).2 h1 (iT hT);exact ⟨go1 hT (diE _ _ _ _ hT e),k⟩) m.es [] T1 _ rfl h1 hT;obtain ⟨e2,t2⟩:=E8 m.ts (C:=fun T acc=>yH (aS { zZ with n:=m.n,es:=m.es,ts:=acc }) (mk0 T).v (0,QG [] acc,())) (fun acc a l T tail hL h hT=>by
  rw[bTT] at h;obtain ⟨p,r,T1,rfl,h1⟩:=jB h;have:=hm.nt.1;obtain ⟨e,k⟩:=bTX { zZ with n:=m.n,es:=m.es,ts:=acc } (QG [] acc) (hm.ts.2 a (Pn hL)) (by grind) (VB hm.ts.1 hL) h1 (iT hT);refine ⟨?_,k⟩;have hq:QG [] (acc ++ [a])=if a.ms = [] then QG [] acc else aK (a.vs.map (·.n)):=by unfold QG; rw[List.foldl_append]; rfl
  rw[hq];exact go1 hT (diT _ _ _ _ (by grind) hT e)) m.ts [] T2 _ rfl h2 t1
 generalize QG [] m.ts=v at e2;have hi:=hm.is;obtain ⟨e3,t3⟩:=E8 m.cs (C:=fun T acc=>yH (aS { zZ with n:=m.n,es:=m.es,ts:=m.ts,cs:=acc }) (mk0 T).v (0,v,())) (fun acc a l T tail hL h hT=>by
  obtain ⟨p,r,T1,rfl,h1⟩:=jB h;have:=hm.nt.2.1;have hd:(m.cs.map (·.n)).Nodup:=by rw[qZ,List.nodup_append] at hi; exact hi.1
  have hx:=ho.is.2.2 a (by simp_all);obtain ⟨e,k⟩:=inC { zZ with n:=m.n,es:=m.es,ts:=m.ts,cs:=acc } (0,v,()) a (by grind) (by grind) hx.2.2.1 h1 (iT hT);exact ⟨go1 hT (diC _ _ _ _ (by grind) hT e),k⟩) m.cs [] T3 _ rfl h3 t2
 obtain ⟨e4,t4⟩:=E8 m.rs (C:=fun T acc=>yH (aS { zZ with n:=m.n,es:=m.es,ts:=m.ts,cs:=m.cs,rs:=acc }) (mk0 T).v (0,v,())) (fun acc a l T tail hL h hT=>by obtain ⟨p,r,T1,rfl,h1⟩:=jB h;have:=hm.nt.2.1;have:=hm.nt.2.2.1;have hx:=ho.is.2.2 a (by simp_all);obtain ⟨e,k⟩:=inQ { zZ with n:=m.n,es:=m.es,ts:=m.ts,cs:=m.cs,rs:=acc } (0,v,()) a (by grind) (VB (l:=l) hi (by rw[hL]; simp)) hx.2.2.1 h1 (iT hT);exact ⟨go1 hT (diQ _ _ _ _ (by grind) hT e),k⟩) m.rs [] T4 _ rfl h4 t3;obtain ⟨e5,t5⟩:=E8 m.xs (C:=fun T acc=>yH (aS { zZ with n:=m.n,es:=m.es,ts:=m.ts,cs:=m.cs,rs:=m.rs,xs:=acc }) (mk0 T).v (0,v,())) (fun acc a l T tail hL h hT=>by obtain ⟨p,r,T1,rfl,h1⟩:=jB h;have:=hm.nt.2.2.2.1;obtain ⟨e,k⟩:=xcK { zZ with n:=m.n,es:=m.es,ts:=m.ts,cs:=m.cs,rs:=m.rs,xs:=acc } (0,v,()) a (by grind) (VB hm.xs hL) (hg.xs a (Pn hL)).2.1 (ho.xs.2 a (Pn hL)).2.1 h1 (iT hT);exact ⟨go1 hT (diX _ _ _ _ (by grind) hT e),k⟩) m.xs [] T5 _ rfl h5 t4;obtain ⟨e6,t6⟩:=E8 m.ks (C:=fun T acc=>yH (aS { zZ with n:=m.n,es:=m.es,ts:=m.ts,cs:=m.cs,rs:=m.rs,xs:=m.xs,ks:=acc }) (mk0 T).v (0,v,())) (fun acc a l T tail hL h hT=>by rw[a'E] at h;obtain ⟨p,r,T1,rfl,h1⟩:=jB h;have:=hm.nt.2.2.2.2;have hx:=hg.ks a (Pn hL);obtain ⟨e,k⟩:=ctK { zZ with n:=m.n,es:=m.es,ts:=m.ts,cs:=m.cs,rs:=m.rs,xs:=m.xs,ks:=acc } (0,v,()) a (by grind) (VB hm.ks hL) hx.2.1 (ho.ks.2 a (Pn hL)).2.1 (fun l hl=>(hx.2.2.2 l hl).2) hx.2.2.1 h1 (iT hT);exact ⟨go1 hT (diL _ _ _ _ (by grind) hT e),k⟩) m.ks [] T6 U rfl h6 t5;exact ⟨v,e1.trans (e2.trans (e3.trans (e4.trans (e5.trans e6)))),t6⟩
end
theorem a'T (m:Mo) (v:List PV) {e:Tok} (he:e.kind=4) (ho:mY m) (h2:m.cs.length+m.rs.length<=1000) (hc:DW m=0):yH (aS m) (mk0 [e]).v (0,v,())=Yl m 0 0 0:=by
 have ok:bD [e] := .inl ⟨he,rfl⟩;have hz:(mk0 [e]).fail 0=mk0 [e]:=by rfl
 have hf:=Jt (je ok) 0;rw[hz] at hf;have hcc:=a5T m ho h2;rw[hc] at hcc;rw[aLU,Gq (Ia _)];rw[jL (EP ok)];rw[show (e.kind != 4)=false by simp[he],bDZ,Gq (Ia _)];rw[cZ hcc,jJ hf];rw[bDY,aEP erq];rfl
theorem bPA {t:List UInt8} {T:List Tok} {e:Tok} (ho:mY m) (hc:DW m=0) (hs:tu t = .ok (T ++ [e])) (he:e.kind=4) (h:Co T (kz m)):SS.CC 13 [.str (bs t)] []=Yl m 0 0 0:=by
 have hm:=bPO ho hc;have ht:bD (T ++ [e]):=bS9 hs;have hmo:kz m=tW mW::tW m.n::tS [59]::(m.es.flatMap ql ++ (m.ts.flatMap lF ++ (m.cs.flatMap (inT wC) ++ (m.rs.flatMap (inT wR) ++ (m.xs.flatMap rC ++ m.ks.flatMap pO))))):=by simp[kz]
 rw[hmo] at h;obtain ⟨p1,r1,T1,rfl,h1⟩:=jB h;obtain ⟨p2,r2,T2,rfl,h2⟩:=jB h1;obtain ⟨p3,r3,T3,rfl,h3⟩:=jk h2;obtain ⟨v,e1,_⟩:=bRM hm h3 (jW (iT (iT ht)));rw[bE1,aWL (bMS t),bMR hs];refine (jJ (a_Q ht)).trans ?_;refine (BJ (IX (iT ht))).trans ?_;refine (jJ (mD (iT (iT ht)))).trans ?_;exact e1.trans (a'T m v he ho (by have:=hm.nt; omega) hc)
section
variable {T:List Tok} {s:Nm} {a0 b0 a1 b1 a2 b2 a3 b3 a4 b4 a5 b5 a6 b6 a7 b7 a8 b8:Int}
end
section
variable {T:List Tok} {s:Nm}
end
theorem b0A {t:bZ'} (hp:SS.CC 13 [.str (bs t)] []=Yl m 0 0 0) (ho:mY m) (h2:m.cs.length+m.rs.length<=1000) (hc:DW m=0) (hl:(joinL (kz m)).length<=30000) :
 SS.CC 21 [.str (bs t)] []=some (.tuple [.str (bs (MK m)),bZV 0,bZV 0,bZV 0],[]):=by
 rw[bE4,aEF hp];show aA false _ _=_;rw[aC,NQ (aSO ho h2 hc hl)];rfl
theorem bU6 (h:Ja m):(MK m).length<=60010:=by have hg:=UM (VM h) (Si h);grind [aCE,Qd,phi,I7,V9,aA0,MK,EO]
structure McT (c:Mc):Prop where
 a:U8 c.a
 b:U8 c.b
 i:U8 c.i
 m:U8 c.m
 rg:∀ r,r∈c.rg->I8 r.1/\I8 r.2
 mv:∀ x,x∈c.mv->U8 x.1/\U8 x.2.1/\U8 x.2.2
structure Xk (s:Sk):Prop where
 e:U8 s.e.1/\U8 s.e.2.1/\U8 s.e.2.2.1/\U8 s.e.2.2.2.1/\U8 s.e.2.2.2.2
 ts:∀ c,c∈s.ts->McT c
 is:∀ x,x∈s.is->U8 x.1/\U8 x.2.1/\U8 x.2.2
 xs:∀ x,x∈s.xs->U8 x.1/\U8 x.2.1/\U8 x.2.2.1/\U8 x.2.2.2
 ks:∀ x,x∈s.ks->I8 x.1/\I8 x.2.1/\I8 x.2.2
def McS (c:Mc):Prop:=c.rg.length<=6/\c.mv.length<=8/\c.y.length<=200
theorem aYG (c:Mc):∃ b,SS.CC 23 [AA (yc c)] []=some (.bool b,[])/\(b=false->McS c):=by
 rw[b1O];show ∃ b,aA (decide ((6:Int)<((c.rg.map LV).length:Int))) _ (aA (decide ((8:Int)<((c.mv.map Ie).length:Int))) _ (some (.bool (decide ((200:Int)<((yE c.y).length:Int))),[])))=_/\_;rw[bF,bF,bF];by_cases h1:(6:Int)<(c.rg.length:Int)
 .rw[aN h1,aI]; simp
 rw[aW h1,aC];by_cases h2:(8:Int)<(c.mv.length:Int)
 .rw[aN h2,aI]; simp
 rw[aW h2,aC];exact ⟨_,rfl,fun h=>⟨by omega,by omega,by have:=of_decide_eq_false h; omega⟩⟩
theorem aUL {ts:List Mc} (hl:ts.length<=4):∀ (m k:Nat),k+m=ts.length->∃ n,Za (ts.map Ig) (k:Int)=some (bZV n,[])/\(n<0->∀ i,k<=i->∀ h:i<ts.length,McS ts[i])
 | 0,k,hk=>by rw[aKD,aW (by rw[bF]; omega),aC];grind
 | m+1,k,hk=>by
  have uN:k<ts.length:=by omega
  obtain ⟨b,e,hb⟩:=aYG ts[k];rw[aKD,aN (by rw[bF]; omega),aI,a9O uN,aZ e];cases b with
  | true=>rw[aI]; grind
  | false =>rw[aC,bU (by omega)];obtain ⟨n,e2,h2⟩:=aUL hl m (k+1) (by omega);grind
theorem aUM {s:Sk} (hs:Xk s):∃ b,SS.CC 8 [A2 (qC s)] []=some (.bool b,[])/\(b=true->a4W s):=by
 rw[bD2];show ∃ b,aA (decide ((4:Int)<((s.ts.map Ig).length:Int))) _ (aA (decide ((8:Int)<((s.is.map Ie).length:Int))) _ (aA (decide ((4:Int)<((s.xs.map VU).length:Int))) _ (aA (decide ((4:Int)<((s.ks.map VT).length:Int))) _ _)))=_/\_;rw[bF,bF,bF,bF];by_cases h1:(4:Int)<(s.ts.length:Int)
 .rw[aN h1,aI]; simp
 rw[aW h1,aC];by_cases h2:(8:Int)<(s.is.length:Int)
 .rw[aN h2,aI]; simp
 rw[aW h2,aC];by_cases h3:(4:Int)<(s.xs.length:Int)
 .rw[aN h3,aI]; simp
 rw[aW h3,aC];by_cases h4:(4:Int)<(s.ks.length:Int)
 .rw[aN h4,aI]; simp
 rw[aW h4,aC];obtain ⟨n,e,hn⟩:=aUL (ts:=s.ts) (by omega) s.ts.length 0 (by omega);have a'Q:SS.CC 22 [.sl false 7 (s.ts.map Ig),.func (.func 23) [] []] []=some (.bool (decide (0<=n)),[]):=by rw[b1N,cZ ((b8P _).trans e)]
 rw[aZ a'Q];refine ⟨_,rfl,fun h => ?_⟩;have hn0:n<0:=by simp_all
 refine ⟨hs.e,⟨by omega,fun c hc => ?_⟩,⟨by omega,hs.is⟩,⟨by omega,hs.xs⟩,by omega,hs.ks⟩;obtain ⟨i,hi,rfl⟩:=aE3 hc;obtain ⟨q1,q2,q3⟩:=hn hn0 i (Ee _) hi;have:=hs.ts _ (dY hi);exact ⟨this.a,this.b,this.i,this.m,⟨by omega,this.rg⟩,⟨by omega,this.mv⟩,by omega⟩
theorem b08 (h:Ja m) {u:Nm} (hr:Rd u (kz m)) (hl:u.length<=65536):SS.CC 13 [.str (bs u)] []=Yl m 0 0 0/\SS.CC 21 [.str (bs u)] []=some (.tuple [.str (bs (MK m)),bZV 0,bZV 0,bZV 0],[]):=by obtain ⟨us,e,h1,h2,h3⟩:=bQN hr hl;have hp:=bPA (VM h) (Si h) h1 h3 h2;exact ⟨hp,b0A hp (VM h) (by have:=h.is.1; omega) (Si h) (aA0 h)⟩
end Go.Proofs.YtilpiopkekkbiaaGreatDoor.W
namespace Go.Proofs.YtilpiopkekkbiaaGreatDoor
open Go.RowKit Go.ChangeShapes Go.WideShapes Go.ChangeAt
set_option maxRecDepth 100000
variable {fuel k:Nat} {ps:List PV} {t:TypeId}
def a'B:List TypeId := [5,97,32,76,264,75,98,29,88,27,91,28,25,78,26,31]
theorem aGW:a5S Tryz.prog a'B=true:=by kernel_rfl
theorem Sr:Tryz.prog.cellsOf 5=1:=by kernel_rfl
theorem aGM:Tryz.prog.cellsOf 97=1:=by kernel_rfl
theorem wQ (h:jG Tryz.prog fuel 5 ps):∃ n,ps = [.int .u8 n]/\W.U8 n:=by obtain ⟨c,rfl⟩:=aUB h;have:=c.toNat_lt;grind
theorem Vs (h:jG Tryz.prog fuel 97 ps):∃ n,ps = [.int .i8 n]/\W.I8 n:=by
 cases fuel with
 | zero=>exact h.elim
 | succ fuel =>simp only[jG,Tryz.underlying97] at h;obtain ⟨n,rfl,hn⟩:=h;refine ⟨n,rfl,?_⟩;simp[Lit.wf,IntKind.min,IntKind.max,IntKind.signed,IntKind.bits] at hn;exact hn
theorem jy {n:Nat} (h:ps.length=n+1):∃ a qs,ps=a::qs/\qs.length=n:=by
 match ps,h with
 | a::qs,h=>grind
theorem Vq {a:_} {b:_} {l:List (Nat×TypeId)} (hu:Tryz.prog.underlying t=some (.array a b)) (hp:parts Tryz.prog t=l) (hk:Tryz.prog.cellsOf t=k) (h:jG Tryz.prog fuel t ps):
 ps.length=k/\∃ fuel',∀ x,x∈l->jG Tryz.prog fuel' x.2 ((ps.drop x.1).take (Tryz.prog.cellsOf x.2)):=by
 cases fuel with
 | zero=>exact h.elim
 | succ fuel =>simp only[jG,hu,hp,hk] at h;exact ⟨h.1,fuel,h.2⟩
theorem aU6 {a:_} {l:List (Nat×TypeId)} (hu:Tryz.prog.underlying t=some (.struct a)) (hp:parts Tryz.prog t=l) (hk:Tryz.prog.cellsOf t=k) (h:jG Tryz.prog fuel t ps):
 ps.length=k/\∃ fuel',∀ x,x∈l->jG Tryz.prog fuel' x.2 ((ps.drop x.1).take (Tryz.prog.cellsOf x.2)):=by
 cases fuel with
 | zero=>exact h.elim
 | succ fuel =>simp only[jG,hu,hp,hk] at h;exact ⟨h.1,fuel,h.2⟩
theorem QP {e:TypeId} {α:Type} {f:α->PV} {Q:α->Prop} (hu:Tryz.prog.underlying t=some (.slice e)) (hk:Tryz.prog.cellsOf e=k) 
 (hf:∀ {fuel:Nat} {qs:List PV},jG Tryz.prog fuel e qs->∃ x,zG Tryz.prog e qs=f x/\Q x) {fuel:Nat} {ps:List PV} (h:jG Tryz.prog fuel t ps):∃ l:List α,ps = [.sl false k (l.map f)]/\∀ x,x∈l->Q x:=by
 cases fuel with
 | zero=>exact h.elim
 | succ fuel =>
  simp only[jG,hu] at h;obtain ⟨es,rfl,hw,hes⟩:=h;obtain ⟨l,rfl,hq⟩:=aQ5 (f:=f) (Q:=Q) (es:=es) fun p hp=>by grind
  grind
theorem elS (h:Ep Tryz.prog t=true):zG Tryz.prog t ps = .agg ps:=by grind [zG]
theorem aGO:Tryz.prog.cellsOf 264=2:=by kernel_rfl
theorem bPE:parts Tryz.prog 264 = [(0,97),(1,97)]:=by kernel_rfl
theorem bSG (h:jG Tryz.prog fuel 264 ps):∃ x:Int×Int,ps = [.int .i8 x.1,.int .i8 x.2]/\W.I8 x.1/\W.I8 x.2:=by obtain ⟨hl,fuel,h⟩:=Vq Tryz.underlying264 bPE aGO h;obtain ⟨a0,q0,rfl,l0⟩:=jy hl;obtain ⟨a1,q1,rfl,l1⟩:=jy l0;obtain rfl:=lJ l1;have h0:=h (0,97) (by simp);have h1:=h (1,97) (by simp);simp only[aGM,List.drop,List.take] at h0 h1;obtain ⟨n0,e0,i0⟩:=Vs h0;obtain ⟨n1,e1,i1⟩:=Vs h1;cases e0;cases e1;exact ⟨(n0,n1),rfl,i0,i1⟩
theorem aGP:Tryz.prog.cellsOf 98=3:=by kernel_rfl
theorem bPF:parts Tryz.prog 98 = [(0,97),(1,97),(2,97)]:=by kernel_rfl
theorem bSI (h:jG Tryz.prog fuel 98 ps):∃ x:Int×Int×Int,ps = [.int .i8 x.1,.int .i8 x.2.1,.int .i8 x.2.2]/\W.I8 x.1/\W.I8 x.2.1/\W.I8 x.2.2:=by obtain ⟨hl,fuel,h⟩:=Vq Tryz.underlying98 bPF aGP h;obtain ⟨a0,q0,rfl,l0⟩:=jy hl;obtain ⟨a1,q1,rfl,l1⟩:=jy l0;obtain ⟨a2,q2,rfl,l2⟩:=jy l1;obtain rfl:=lJ l2;have h0:=h (0,97) (by simp);have h1:=h (1,97) (by simp);have h2:=h (2,97) (by simp);simp only[aGM,List.drop,List.take] at h0 h1 h2;obtain ⟨n0,e0,i0⟩:=Vs h0;obtain ⟨n1,e1,i1⟩:=Vs h1;obtain ⟨n2,e2,i2⟩:=Vs h2;cases e0;cases e1;cases e2;exact ⟨(n0,n1,n2),rfl,i0,i1,i2⟩
theorem aGQ:Tryz.prog.cellsOf 88=3:=by kernel_rfl
theorem bPG:parts Tryz.prog 88 = [(0,5),(1,5),(2,5)]:=by kernel_rfl
theorem bSK (h:jG Tryz.prog fuel 88 ps):∃ x:Int×Int×Int,ps = [.int .u8 x.1,.int .u8 x.2.1,.int .u8 x.2.2]/\W.U8 x.1/\W.U8 x.2.1/\W.U8 x.2.2:=by obtain ⟨hl,fuel,h⟩:=Vq Tryz.underlying88 bPG aGQ h;obtain ⟨a0,q0,rfl,l0⟩:=jy hl;obtain ⟨a1,q1,rfl,l1⟩:=jy l0;obtain ⟨a2,q2,rfl,l2⟩:=jy l1;obtain rfl:=lJ l2;have h0:=h (0,5) (by simp);have h1:=h (1,5) (by simp);have h2:=h (2,5) (by simp);simp only[Sr,List.drop,List.take] at h0 h1 h2;obtain ⟨n0,e0,i0⟩:=wQ h0;obtain ⟨n1,e1,i1⟩:=wQ h1;obtain ⟨n2,e2,i2⟩:=wQ h2;cases e0;cases e1;cases e2;exact ⟨(n0,n1,n2),rfl,i0,i1,i2⟩
theorem aGS:Tryz.prog.cellsOf 91=4:=by kernel_rfl
theorem bPH:parts Tryz.prog 91 = [(0,5),(1,5),(2,5),(3,5)]:=by kernel_rfl
theorem bSL (h:jG Tryz.prog fuel 91 ps):∃ x:Int×Int×Int×Int,ps = [.int .u8 x.1,.int .u8 x.2.1,.int .u8 x.2.2.1,.int .u8 x.2.2.2]/\W.U8 x.1/\W.U8 x.2.1/\W.U8 x.2.2.1/\W.U8 x.2.2.2:=by obtain ⟨hl,fuel,h⟩:=Vq Tryz.underlying91 bPH aGS h;obtain ⟨a0,q0,rfl,l0⟩:=jy hl;obtain ⟨a1,q1,rfl,l1⟩:=jy l0;obtain ⟨a2,q2,rfl,l2⟩:=jy l1;obtain ⟨a3,q3,rfl,l3⟩:=jy l2;obtain rfl:=lJ l3;have h0:=h (0,5) (by simp);have h1:=h (1,5) (by simp);have h2:=h (2,5) (by simp);have h3:=h (3,5) (by simp);simp only[Sr,List.drop,List.take] at h0 h1 h2 h3;obtain ⟨n0,e0,i0⟩:=wQ h0;obtain ⟨n1,e1,i1⟩:=wQ h1;obtain ⟨n2,e2,i2⟩:=wQ h2;obtain ⟨n3,e3,i3⟩:=wQ h3;cases e0;cases e1;cases e2;cases e3;exact ⟨(n0,n1,n2,n3),rfl,i0,i1,i2,i3⟩
theorem aGL:Tryz.prog.cellsOf 25=5:=by kernel_rfl
theorem bPB:parts Tryz.prog 25 = [(0,5),(1,5),(2,5),(3,5),(4,5)]:=by kernel_rfl
theorem bSC (h:jG Tryz.prog fuel 25 ps):∃ x:Int×Int×Int×Int×Int,ps = [.int .u8 x.1,.int .u8 x.2.1,.int .u8 x.2.2.1,.int .u8 x.2.2.2.1,.int .u8 x.2.2.2.2]/\W.U8 x.1/\W.U8 x.2.1/\W.U8 x.2.2.1/\W.U8 x.2.2.2.1/\W.U8 x.2.2.2.2:=by obtain ⟨hl,fuel,h⟩:=Vq Tryz.underlying25 bPB aGL h;obtain ⟨a0,q0,rfl,l0⟩:=jy hl;obtain ⟨a1,q1,rfl,l1⟩:=jy l0;obtain ⟨a2,q2,rfl,l2⟩:=jy l1;obtain ⟨a3,q3,rfl,l3⟩:=jy l2;obtain ⟨a4,q4,rfl,l4⟩:=jy l3;obtain rfl:=lJ l4;have h0:=h (0,5) (by simp);have h1:=h (1,5) (by simp);have h2:=h (2,5) (by simp);have h3:=h (3,5) (by simp);have h4:=h (4,5) (by simp);simp only[Sr,List.drop,List.take] at h0 h1 h2 h3 h4;obtain ⟨n0,e0,i0⟩:=wQ h0;obtain ⟨n1,e1,i1⟩:=wQ h1;obtain ⟨n2,e2,i2⟩:=wQ h2;obtain ⟨n3,e3,i3⟩:=wQ h3;obtain ⟨n4,e4,i4⟩:=wQ h4;cases e0;cases e1;cases e2;cases e3;cases e4;exact ⟨(n0,n1,n2,n3,n4),rfl,i0,i1,i2,i3,i4⟩
theorem aZW:Tryz.prog.cellsOf 75=1:=by kernel_rfl
theorem bSH (h:jG Tryz.prog fuel 75 ps):∃ l:List (Int×Int),ps = [.sl false 2 (l.map W.LV)]/\∀ x,x∈l->(fun x=>W.I8 x.1/\W.I8 x.2) x:=by refine QP (e:=264) Tryz.underlying75 aGO (fun h => ?_) h;obtain ⟨x,rfl,hx⟩:=bSG h;exact ⟨x,elS (by kernel_rfl),hx⟩
theorem aZX:Tryz.prog.cellsOf 29=1:=by kernel_rfl
theorem bSJ (h:jG Tryz.prog fuel 29 ps):∃ l:List (Int×Int×Int),ps = [.sl false 3 (l.map W.VT)]/\∀ x,x∈l->(fun x=>W.I8 x.1/\W.I8 x.2.1/\W.I8 x.2.2) x:=by refine QP (e:=98) Tryz.underlying29 aGP (fun h => ?_) h;obtain ⟨x,rfl,hx⟩:=bSI h;exact ⟨x,elS (by kernel_rfl),hx⟩
theorem aGR:Tryz.prog.cellsOf 27=1:=by kernel_rfl
theorem aU7 (h:jG Tryz.prog fuel 27 ps):∃ l:List (Int×Int×Int),ps = [.sl false 3 (l.map W.Ie)]/\∀ x,x∈l->(fun x=>W.U8 x.1/\W.U8 x.2.1/\W.U8 x.2.2) x:=by refine QP (e:=88) Tryz.underlying27 aGQ (fun h => ?_) h;obtain ⟨x,rfl,hx⟩:=bSK h;exact ⟨x,elS (by kernel_rfl),hx⟩
theorem aZY:Tryz.prog.cellsOf 28=1:=by kernel_rfl
theorem bSM (h:jG Tryz.prog fuel 28 ps):∃ l:List (Int×Int×Int×Int),ps = [.sl false 4 (l.map W.VU)]/\∀ x,x∈l->(fun x=>W.U8 x.1/\W.U8 x.2.1/\W.U8 x.2.2.1/\W.U8 x.2.2.2) x:=by refine QP (e:=91) Tryz.underlying28 aGS (fun h => ?_) h;obtain ⟨x,rfl,hx⟩:=bSL h;exact ⟨x,elS (by kernel_rfl),hx⟩
theorem aZU:Tryz.prog.cellsOf 76=1:=by kernel_rfl
theorem bSF (h:jG Tryz.prog fuel 76 ps):∃ l:List UInt8,ps = [.sl false 1 (W.yE l)]:=by obtain ⟨l,e,_⟩:=QP (k:=1) (f:=fun c:UInt8=>PV.int .u8 (c.toNat:Int)) (Q:=fun _=>True) (e:=5) Tryz.underlying76 Sr bSN h;grind
theorem aGN:Tryz.prog.cellsOf 78=7:=by kernel_rfl
theorem bPC:parts Tryz.prog 78 = [(0,5),(1,5),(2,5),(3,5),(4,75),(5,27),(6,76)]:=by kernel_rfl
theorem bSD (h:jG Tryz.prog fuel 78 ps):∃ c:W.Mc,.agg ps=W.Ig c/\W.McT c:=by obtain ⟨hl,fuel,h⟩:=aU6 Tryz.underlying78 bPC aGN h;obtain ⟨a0,q0,rfl,l0⟩:=jy hl;obtain ⟨a1,q1,rfl,l1⟩:=jy l0;obtain ⟨a2,q2,rfl,l2⟩:=jy l1;obtain ⟨a3,q3,rfl,l3⟩:=jy l2;obtain ⟨a4,q4,rfl,l4⟩:=jy l3;obtain ⟨a5,q5,rfl,l5⟩:=jy l4;obtain ⟨a6,q6,rfl,l6⟩:=jy l5;obtain rfl:=lJ l6;have h0:=h (0,5) (by simp);have h1:=h (1,5) (by simp);have h2:=h (2,5) (by simp);have h3:=h (3,5) (by simp);have h4:=h (4,75) (by simp);have h5:=h (5,27) (by simp);have h6:=h (6,76) (by simp);simp only[Sr,aZW,aGR,aZU,List.drop,List.take] at h0 h1 h2 h3 h4 h5 h6;obtain ⟨n0,e0,i0⟩:=wQ h0;obtain ⟨n1,e1,i1⟩:=wQ h1;obtain ⟨n2,e2,i2⟩:=wQ h2;obtain ⟨n3,e3,i3⟩:=wQ h3;obtain ⟨rg,e4,i4⟩:=bSH h4;obtain ⟨mv,e5,i5⟩:=aU7 h5;obtain ⟨y,e6⟩:=bSF h6;cases e0;cases e1;cases e2;cases e3;cases e4;cases e5;cases e6;exact ⟨⟨n0,n1,n2,n3,rg,mv,y⟩,rfl,i0,i1,i2,i3,i4,i5⟩
theorem aZS:Tryz.prog.cellsOf 26=1:=by kernel_rfl
theorem bSE (h:jG Tryz.prog fuel 26 ps):∃ l:List W.Mc,ps = [.sl false 7 (l.map W.Ig)]/\∀ x,x∈l->W.McT x:=by refine QP (e:=78) Tryz.underlying26 aGN (fun h => ?_) h;obtain ⟨x,e,hx⟩:=bSD h;exact ⟨x,(elS (by kernel_rfl)).trans e,hx⟩
theorem aZT:Tryz.prog.cellsOf 31=9:=by kernel_rfl
theorem bPD:parts Tryz.prog 31 = [(0,25),(5,26),(6,27),(7,28),(8,29)]:=by kernel_rfl
theorem aU9 (h:jG Tryz.prog fuel 31 ps):∃ s:W.Sk,zG Tryz.prog 31 ps=W.A2 (W.qC s)/\W.Xk s:=by obtain ⟨hl,fuel,h⟩:=aU6 Tryz.underlying31 bPD aZT h;obtain ⟨a0,q0,rfl,l0⟩:=jy hl;obtain ⟨a1,q1,rfl,l1⟩:=jy l0;obtain ⟨a2,q2,rfl,l2⟩:=jy l1;obtain ⟨a3,q3,rfl,l3⟩:=jy l2;obtain ⟨a4,q4,rfl,l4⟩:=jy l3;obtain ⟨a5,q5,rfl,l5⟩:=jy l4;obtain ⟨a6,q6,rfl,l6⟩:=jy l5;obtain ⟨a7,q7,rfl,l7⟩:=jy l6;obtain ⟨a8,q8,rfl,l8⟩:=jy l7;obtain rfl:=lJ l8;have h0:=h (0,25) (by simp);have h1:=h (5,26) (by simp);have h2:=h (6,27) (by simp);have h3:=h (7,28) (by simp);have h4:=h (8,29) (by simp);simp only[aGL,aZS,aGR,aZY,aZX,List.drop,List.take] at h0 h1 h2 h3 h4;obtain ⟨e,e0,i0⟩:=bSC h0;obtain ⟨ts,e1,i1⟩:=bSE h1;obtain ⟨is,e2,i2⟩:=aU7 h2;obtain ⟨xs,e3,i3⟩:=bSM h3;obtain ⟨ks,e4,i4⟩:=bSJ h4;cases e0;cases e1;cases e2;cases e3;cases e4;exact ⟨⟨e,ts,is,xs,ks⟩,elS (by kernel_rfl),i0,i1,i2,i3,i4⟩
end Go.Proofs.YtilpiopkekkbiaaGreatDoor
namespace Go.Proofs.YtilpiopkekkbiaaGreatDoor.W
open Go.RowKit
set_option maxRecDepth 1000000
variable {T:Prop} {h h':aG} {x x':R}
def rE (T:Prop) (h h':aG) (x x':R):Prop:=∃ r,x=some (.bool r,h)/\x'=some (.bool r,h')/\(T->r=true)
theorem Dc {r:Bool} (hr:T->r=true):rE T h h' (some (.bool r,h)) (some (.bool r,h')):=⟨r,rfl,rfl,hr⟩
theorem oO {c:Bool} (hc:T->c=true) (hx:rE T h h' x x'):rE T h h' (aA c x (some (.bool false,h))) (aA c x' (some (.bool false,h'))):=by
 cases c with
 | true=>exact hx
 | false=>exact Dc hc
theorem a'X {L L':Nat->R} {n:Nat} (hs:∀ k,k<n->∃ r,L k=aA (!r) (some (.bool false,h)) (L (k+1))/\L' k=aA (!r) (some (.bool false,h')) (L' (k+1))/\(T->r=true)) (he:L n=some (.bool true,h)) (he':L' n=some (.bool true,h')):rE T h h' (L 0) (L' 0):=by
 have:∀ (m k:Nat),k+m=n->rE T h h' (L k) (L' k):=by
  intro m;induction m with
  | zero=>
   intro k hk; have:k=n:=by omega
   subst this; exact ⟨true,he,he',fun _=>rfl⟩
  | succ m ih =>
   intro k hk;obtain ⟨r,e1,e2,hr⟩:=hs k (by omega);rw[e1,e2];cases r with
   | true=>exact ih (k+1) (by omega)
   | false=>exact Dc hr
 simp_all
theorem AQ {α:Type} {P:List α->bZZ} (hP:∀ l,(P l).length=l.length) {a b:List α} {L L':Nat->R} (e:x=aA (((P a).length:Int) !=((P b).length:Int)) (some (.bool false,h)) (L 0)) (e':x'=aA (((P a).length:Int) !=((P b).length:Int)) (some (.bool false,h')) (L' 0))
 (hs:∀ k (h1:k<a.length) (h2:k<b.length),∃ r,L k=aA (!r) (some (.bool false,h)) (L (k+1))/\L' k=aA (!r) (some (.bool false,h')) (L' (k+1))/\(a[k]=b[k]->r=true)) (he:L a.length=some (.bool true,h)) (he':L' a.length=some (.bool true,h')):rE (a=b) h h' x x':=by
 rw[e,e',hP,hP];by_cases hl:a.length=b.length
 .rw[show ((a.length:Int) !=(b.length:Int))=false by rw[hl]; simp,aC];refine a'X (fun k hk => ?_) he he';grind
 .rw[show ((a.length:Int) !=(b.length:Int))=true by simp; omega,aI,aI];grind [Dc]
theorem OG (e:rE T h h x x'):∃ r,x=some (.bool r,h)/\(T->r=true):=by obtain ⟨r,a,_,c⟩:=e; simp_all
section
variable {α:Type}
theorem Bz (f:α->PV) (l:List α):(l.map f).length=l.length:=bF _
end
theorem f138 {a b:List Nm} (ha:a.length<=1000):∃ r,SS.CC 87 [bZW (aK a),bZW (aK b)] []=some (.bool r,[])/\(a=b->r=true) :=OG (AQ iD (aIS _ _) (aIS _ _) (L:=fun k=>TT (aK a) (aK b) (k:Int)) (L':=fun k=>TT (aK a) (aK b) (k:Int)) (fun k h1 h2=>by rw[a6T,aN (by rw[iD]; omega),aI,zW h1,jT,zW h2,jT,bU (by omega)];grind) (by rw[a6T,aW (by rw[iD]; omega),aC]) (by rw[a6T,aW (by rw[iD]; omega),aC]))
theorem f139 {a b:List Int} (ha:a.length<=1000):∃ r,SS.CC 88 [bZW (fA a),bZW (fA b)] []=some (.bool r,[])/\(a=b->r=true):=by
 have hf:KC (fA a) (fA b) (a.length:Int)=some (.bool true,[]):=by rw[ZB,aW (by rw[bW]; omega),aC]
 exact OG (AQ (Bz _) (a6U _ _) (a6U _ _) (L:=fun k=>KC (fA a) (fA b) (k:Int)) (L':=fun k=>KC (fA a) (fA b) (k:Int)) (fun k h1 h2=>by rw[ZB,aN (by rw[bW]; omega),aI,II h1,ui,II h2,ui,bU (by omega)];grind) hf hf)
theorem f140 {a b:List Vr} (ha:a.length<=1000):∃ r,SS.CC 89 [.sl false 4 (a.map jI),.sl false 4 (b.map jI)] []=some (.bool r,[])/\(a=b->r=true):=by
 have hf:Ob (a.map jI) (b.map jI) (a.length:Int)=some (.bool true,[]):=by rw[aIT,aW (by rw[bW]; omega),aC]
 exact OG (AQ (Bz _) (aIU _ _) (aIU _ _) (L:=fun k=>Ob (a.map jI) (b.map jI) (k:Int)) (L':=fun k=>Ob (a.map jI) (b.map jI) (k:Int)) (fun k h1 h2=>by rw[aIT,aN (by rw[bW]; omega),aI,IK h1,IK h2,bU (by omega)];grind) hf hf)
theorem f143 {a b:List lM} (ha:a.length<=1000):∃ r,SS.CC 92 [.sl false 5 (a.map uU),.sl false 5 (b.map uU)] []=some (.bool r,[])/\(a=b->r=true):=by
 have hf:Oc (a.map uU) (b.map uU) (a.length:Int)=some (.bool true,[]):=by rw[aIX,aW (by rw[bW]; omega),aC]
 exact OG (AQ (Bz _) (aIY _ _) (aIY _ _) (L:=fun k=>Oc (a.map uU) (b.map uU) (k:Int)) (L':=fun k=>Oc (a.map uU) (b.map uU) (k:Int)) (fun k h1 h2=>by rw[aIX,aN (by rw[bW]; omega),aI,PU h1,PU h2,bU (by omega)];grind) hf hf)
theorem f148 {a b:List (Nm×Nm)} (ha:a.length<=1000):∃ r,SS.CC 97 [.sl false 2 (a.map qp),.sl false 2 (b.map qp)] []=some (.bool r,[])/\(a=b->r=true):=by
 have hf:Oe (a.map qp) (b.map qp) (a.length:Int)=some (.bool true,[]):=by rw[aJ4,aW (by rw[bW]; omega),aC]
 exact OG (AQ (Bz _) (aJ5 _ _) (aJ5 _ _) (L:=fun k=>Oe (a.map qp) (b.map qp) (k:Int)) (L':=fun k=>Oe (a.map qp) (b.map qp) (k:Int)) (fun k h1 h2=>by rw[aJ4,aN (by rw[bW]; omega),aI,PW h1,PW h2,bU (by omega)];grind) hf hf)
theorem f151 {a b:List (Nm×Int)} (ha:a.length<=1000):∃ r,SS.CC 100 [.sl false 2 (a.map yU),.sl false 2 (b.map yU)] []=some (.bool r,[])/\(a=b->r=true):=by
 have hf:Og (a.map yU) (b.map yU) (a.length:Int)=some (.bool true,[]):=by rw[aJ8,aW (by rw[bW]; omega),aC]
 exact OG (AQ (Bz _) (aJ9 _ _) (aJ9 _ _) (L:=fun k=>Og (a.map yU) (b.map yU) (k:Int)) (L':=fun k=>Og (a.map yU) (b.map yU) (k:Int)) (fun k h1 h2=>by rw[aJ8,aN (by rw[bW]; omega),aI,PX h1,PX h2,bU (by omega)];grind) hf hf)
abbrev XX:aG := [some [.func (.func 179) [] []]]
abbrev XV:aG := [some [.func (.func 82) [] []]]
theorem eUp {u v:Int×EX} (h:u.2.Len):rE (u=v) [] [] (SS.CC 85 [pUp u,pUp v] []) (SS.CC 179 [pUp u,pUp v] []):=by rw[b2R,b9G,aZ (di h v.2)];exact oO (fun t=>by grind) (Dc fun t=>by grind [Hg])
theorem eUs {a b:List (Int×EX)} (ha:a.length<=1000) (h:∀ u,u∈a->u.2.Len):rE (a=b) [] [] (SS.CC 84 [.sl false 5 (a.map pUp),.sl false 5 (b.map pUp),.func (.func 85) [] []] []) (SS.CC 84 [.sl false 5 (a.map pUp),.sl false 5 (b.map pUp),.func (.func 179) [] []] []) :=AQ (Bz _) (b2Q _ _) (b2M _ _) (L:=fun k=>ZA (b.map pUp) (a.map pUp) (k:Int)) (L':=fun k=>Z9 (b.map pUp) (a.map pUp) (k:Int)) (fun k h1 h2=>by obtain ⟨r,e1,e2,hr⟩:=eUp (h _ (dY h1));rw[aIR,aIQ,aN (by rw[bW]; omega),aI,aI,FV h1,FV h2,FV h1,FV h2,aZ e1,aZ e2,bU (by omega)];grind) (by rw[aIR,aW (by rw[bW]; omega),aC]) (by rw[aIQ,aW (by rw[bW]; omega),aC])
abbrev MvL (x:Mv):Prop:=x.g.Len/\x.us.length<=1000/\∀ u,u∈x.us->u.2.Len
theorem eMv {x y:Mv} (h:MvL x):rE (x=y) [] XX (SS.CC 82 [qW x,qW y] []) (SS.CC 180 [qW x,qW y,bZX] XX):=by obtain ⟨h1,h2,h3⟩:=h;obtain ⟨r,e1,e2,hr⟩:=eUs h2 h3;rw[b2I,b9H,aZ (di h1 y.g),aZ (di h1 y.g)];rw[aZ e1,aZ e2];exact oO (fun t=>by grind) (oO (fun t=>by grind) (oO (fun t=>by grind) (oO (fun t=>by grind [Hg]) (Dc fun t=>hr (by subst t; rfl)))))
theorem eMs {a b:List Mv} (ha:a.length<=1000) (h:∀ x,x∈a->MvL x):rE (a=b) [] XX (SS.CC 90 [.sl false 8 (a.map qW),.sl false 8 (b.map qW),.func (.func 82) [] []] []) (SS.CC 90 [.sl false 8 (a.map qW),.sl false 8 (b.map qW),.func (.func 180) [] [bZX]] XX) :=AQ (Bz _) (b3E _ _) (b3A _ _) (L:=fun k=>ZE (b.map qW) (a.map qW) (k:Int)) (L':=fun k=>ZC (b.map qW) (a.map qW) (k:Int)) (fun k h1 h2=>by obtain ⟨r,e1,e2,hr⟩:=eMv (h _ (dY h1));rw[aIW,aIV,aN (by rw[bW]; omega),aI,aI,Ky h1,Ky h2,Ky h1,Ky h2,aZ e1,aEX e2,bU (by omega)];grind) (by rw[aIW,aW (by rw[bW]; omega),aC]) (by rw[aIV,aW (by rw[bW]; omega),aC])
theorem eTm {t u:Tm} (h:um t):rE (t=u) XV [] (SS.CC 86 [qw t,qw u,bZX] XV) (SS.CC 102 [qw t,qw u] []):=by
 obtain ⟨r1,e1,t1⟩:=f138 h.ls.1;obtain ⟨r2,e2,t2⟩:=f138 h.es.1;obtain ⟨r3,e3,t3⟩:=f139 h.al;obtain ⟨r4,e4,t4⟩:=f139 h.mr;obtain ⟨r5,e5,t5⟩:=f140 h.vs.1;obtain ⟨r6,e6,e6',t6⟩:=eMs h.ms.1 h.ms.2;rw[b2S,b4T];try dsimp only
 rw[aZ e1,aZ e1,aZ e2,aZ e2,aZ e3,aZ e3,aZ e4,aZ e4,aZ e5,aZ e5,aZ e6,aEX e6'];exact oO (fun t=>by grind) (oO (fun t=>t1 (by subst t; rfl)) (oO (fun t=>t2 (by subst t; rfl)) (oO (fun t=>t3 (by subst t; rfl)) (oO (fun t=>by grind) (oO (fun t=>by grind) (oO (fun t=>t4 (by subst t; rfl)) (oO (fun t=>t5 (by subst t; rfl)) (Dc fun t=>t6 (by subst t; rfl)))))))))
theorem eTs {a b:List Tm} (ha:a.length<=1000) (h:∀ x,x∈a->um x):rE (a=b) XV [] (SS.CC 93 [.sl false 9 (a.map qw),.sl false 9 (b.map qw),.func (.func 86) [] [bZX]] XV) (SS.CC 93 [.sl false 9 (a.map qw),.sl false 9 (b.map qw),.func (.func 102) [] []] []) :=AQ (Bz _) (b3Q _ _) (b3M _ _) (L:=fun k=>ZG (b.map qw) (a.map qw) (k:Int)) (L':=fun k=>ZF (b.map qw) (a.map qw) (k:Int)) (fun k h1 h2=>by obtain ⟨r,e1,e2,hr⟩:=eTm (h _ (dY h1));rw[aI',aIZ,aN (by rw[bW]; omega),aI,aI,FU h1,FU h2,FU h1,FU h2,aEQ e1,aZ e2,bU (by omega)];grind) (by rw[aI',aW (by rw[bW]; omega),aC]) (by rw[aIZ,aW (by rw[bW]; omega),aC])
theorem eIn {x y:Ins} (h:x.es.length<=1000):rE (x=y) [] [] (SS.CC 91 [fD x,fD y] []) (SS.CC 101 [fD x,fD y] []):=by obtain ⟨r1,e1,t1⟩:=f138 h;rw[b3F,b4S];rw[aZ e1];exact oO (fun t=>by grind) (oO (fun t=>by grind) (Dc fun t=>t1 (by subst t; rfl)))
theorem eIs {a b:List Ins} (ha:a.length<=1000) (h:∀ x,x∈a->x.es.length<=1000):rE (a=b) [] [] (SS.CC 94 [.sl false 3 (a.map fD),.sl false 3 (b.map fD),.func (.func 91) [] []] []) (SS.CC 94 [.sl false 3 (a.map fD),.sl false 3 (b.map fD),.func (.func 101) [] []] []) :=AQ (Bz _) (b3Y _ _) (b3U _ _) (L:=fun k=>ZI (b.map fD) (a.map fD) (k:Int)) (L':=fun k=>ZH (b.map fD) (a.map fD) (k:Int)) (fun k h1 h2=>by obtain ⟨r,e1,e2,hr⟩:=eIn (h _ (dY h1));rw[aJ1,aJ0,aN (by rw[bW]; omega),aI,aI,Bh h1,Bh h2,Bh h1,Bh h2,aZ e1,aZ e2,bU (by omega)];grind) (by rw[aJ1,aW (by rw[bW]; omega),aC]) (by rw[aJ0,aW (by rw[bW]; omega),aC])
theorem eXc {x y:pI} (h:x.ls.length<=1000):rE (x=y) [] [] (SS.CC 96 [ru x,ru y] []) (SS.CC 103 [ru x,ru y] []):=by obtain ⟨r1,e1,t1⟩:=f148 h;rw[b4C,b4U];rw[aZ e1];exact oO (fun t=>by grind) (Dc fun t=>t1 (by subst t; rfl))
theorem eXs {a b:List pI} (ha:a.length<=1000) (h:∀ x,x∈a->x.ls.length<=1000):rE (a=b) [] [] (SS.CC 95 [.sl false 2 (a.map ru),.sl false 2 (b.map ru),.func (.func 96) [] []] []) (SS.CC 95 [.sl false 2 (a.map ru),.sl false 2 (b.map ru),.func (.func 103) [] []] []) :=AQ (Bz _) (b4B _ _) (b45 _ _) (L:=fun k=>ZK (b.map ru) (a.map ru) (k:Int)) (L':=fun k=>ZJ (b.map ru) (a.map ru) (k:Int)) (fun k h1 h2=>by obtain ⟨r,e1,e2,hr⟩:=eXc (h _ (dY h1));rw[aJ3,aJ2,aN (by rw[bW]; omega),aI,aI,ED h1,ED h2,ED h1,ED h2,aZ e1,aZ e2,bU (by omega)];grind) (by rw[aJ3,aW (by rw[bW]; omega),aC]) (by rw[aJ2,aW (by rw[bW]; omega),aC])
theorem eCt {x y:Cst} (h:x.ts.length<=1000):rE (x=y) [] [] (SS.CC 99 [mJ x,mJ y] []) (SS.CC 104 [mJ x,mJ y] []):=by obtain ⟨r1,e1,t1⟩:=f151 h;rw[b4O,b4V];rw[aZ e1];exact oO (fun t=>by grind) (oO (fun t=>by grind) (Dc fun t=>t1 (by subst t; rfl)))
theorem eCs {a b:List Cst} (ha:a.length<=1000) (h:∀ x,x∈a->x.ts.length<=1000):rE (a=b) [] [] (SS.CC 98 [.sl false 3 (a.map mJ),.sl false 3 (b.map mJ),.func (.func 99) [] []] []) (SS.CC 98 [.sl false 3 (a.map mJ),.sl false 3 (b.map mJ),.func (.func 104) [] []] []) :=AQ (Bz _) (b4N _ _) (b4J _ _) (L:=fun k=>ZM (b.map mJ) (a.map mJ) (k:Int)) (L':=fun k=>ZL (b.map mJ) (a.map mJ) (k:Int)) (fun k h1 h2=>by obtain ⟨r,e1,e2,hr⟩:=eCt (h _ (dY h1));rw[aJ7,aJ6,aN (by rw[bW]; omega),aI,aI,FT h1,FT h2,FT h1,FT h2,aZ e1,aZ e2,bU (by omega)];grind) (by rw[aJ7,aW (by rw[bW]; omega),aC]) (by rw[aJ6,aW (by rw[bW]; omega),aC])
theorem eMo {m n:Mo} (h:mY m):rE (m=n) [] [] (SS.CC 15 [A0 (aS m),A0 (aS n)] []) (SS.CC 16 [A0 (aS m),A0 (aS n)] []):=by
 obtain ⟨r1,e1,t1⟩:=f143 h.es.1;obtain ⟨r2,e2,e2',t2⟩:=eTs h.ts.1 fun t ht=>(h.ts.2 t ht).2
 obtain ⟨r3,e3,e3',t3⟩:=eIs h.is.1 fun x hx=>(h.is.2.2 x (XB _ hx)).2.2.1
 obtain ⟨r4,e4,e4',t4⟩:=eIs h.is.2.1 fun x hx=>(h.is.2.2 x (XC _ hx)).2.2.1
 obtain ⟨r5,e5,e5',t5⟩:=eXs h.xs.1 fun x hx=>(h.xs.2 x hx).2.1
 obtain ⟨r6,e6,e6',t6⟩:=eCs h.ks.1 fun x hx=>(h.ks.2 x hx).2.1
 rw[bE2,bE3];rw[aZ e1,aZ e1,aEQ e2,aZ e2',aZ e3,aZ e3',aZ e4,aZ e4',aZ e5,aZ e5',aZ e6,aZ e6'];exact oO (fun t=>by grind) (oO (fun t=>t1 (by subst t; rfl)) (oO (fun t=>t2 (by subst t; rfl)) (oO (fun t=>t3 (by subst t; rfl)) (oO (fun t=>t4 (by subst t; rfl)) (oO (fun t=>t5 (by subst t; rfl)) (Dc fun t=>t6 (by subst t; rfl)))))))
theorem bU5 {m:Mo} (h:Ja m):Rd (MK m) (kz m):=by
 have ht:=a96 (Qd (UM (VM h) (Si h)));obtain ⟨Ls,e1,e2,e3,_⟩:=bU7 fun t hm=>Nc (ht t hm)
 have:=aSS bQM (.inl rfl) Ls fun p hp=>bLL (e2 p hp)
 rwa [yl,e3,<- e1] at this
theorem c10 {s t:Sk} (hs:Xk s) (ht:Xk t):SS.CC 5 [A2 (qC s),A2 (qC t)] []=some (.bool true,[]):=by
 obtain ⟨b,e,hb⟩:=aUM hs;obtain ⟨c,e',hc⟩:=aUM ht;rw[b0X,aZ known,Ed,aC,aZ e];cases b with
 | false=>rw[BB,aI,aZ known]
 | true =>
  rw[Ed,aC,aZ e'];cases c with
  | false=>rw[BB,aI,aZ known]
  | true =>
   obtain ⟨m,em,hm⟩:=yQ (hb rfl);obtain ⟨n,en,hn⟩:=yQ (hc rfl);have ho:=VM hm;have h2:m.cs.length+m.rs.length<=1000:=by have:=hm.is.1; omega
   have h0:=Si hm;have hj:=aA0 hm;have hcc:=a5T m ho h2;rw[h0] at hcc;have hp:=(b08 hm (bU5 hm) (by have:=bU6 hm; omega)).1;obtain ⟨r,s1,s2,hr1⟩:=eMo (n:=m) ho;obtain rfl:=hr1 rfl;obtain ⟨q,d1,d2,_⟩:=eMo (n:=n) ho;rw[Ed,aC,XT em,NQ (aSO ho h2 h0 hj)];try dsimp only
   rw[aEF hp,cZ hcc,pJ (bTK ho h2 h0 hj)];try dsimp only
   rw[aZ s1,XT em,aZ s1,aZ s2,XT en,aZ d2,XT en,aZ d1];simp[aA]
end Go.Proofs.YtilpiopkekkbiaaGreatDoor.W
namespace Go.Proofs.YtilpiopkekkbiaaGreatDoor
open Go.ChangeShapes Go.WideShapes Go.ChangeAt Go.RowKit
set_option maxRecDepth 100000 in
theorem bQ8 (os:Os) (started:os.Started) (H:Type) (enc:TypeId×Value->H) (F:Stop.Interp) :
 ReturnsInHanded {} Tryz.checked os 5 .any ((OpenSpec.ofChange Rows.parserPrintsSpec).preRow enc Tryz.prog Tryz.f5 Rows.parserPrintsRow.domain false Rows.parserPrintsRow.laid) (((OpenSpec.ofChange Rows.parserPrintsSpec).at F).post enc Tryz.prog Tryz.f5 false true false false):=by
 obtain ⟨x,hx⟩:=Option.isSome_iff_exists.1 (show (DataW.whole enc Tryz.prog ((laidWorld6 os).forCall (fun _ _=>0) ⟨#[],#[.agg #[.int .u8 0,.int .u8 0,.int .u8 0,.int .u8 0,.int .u8 0,.slice none 0 0,.slice none 0 0,.slice none 0 0,.slice none 0 0],.agg #[.int .u8 0,.int .u8 0,.int .u8 0,.int .u8 0,.int .u8 0,.slice none 0 0,.slice none 0 0,.slice none 0 0,.slice none 0 0]],[]⟩).memory Tryz.f5.params.toList Rows.parserPrintsSpec.vars false (#[.agg #[.int .u8 0,.int .u8 0,.int .u8 0,.int .u8 0,.int .u8 0,.slice none 0 0,.slice none 0 0,.slice none 0 0,.slice none 0 0],.agg #[.int .u8 0,.int .u8 0,.int .u8 0,.int .u8 0,.int .u8 0,.slice none 0 0,.slice none 0 0,.slice none 0 0,.slice none 0 0]]:Array Value).toList 8).isSome=true by kernel_rfl);refine returnsInHanded_of_row (C:=Tryz.checked) (s:=OpenSpec.ofChange Rows.parserPrintsSpec) bNM started (by kernel_rfl) Tryz.func5
  (witness_row_at (enc:=enc) (C:=Tryz.checked) false (laidWorld6 os) #[.agg #[.int .u8 0,.int .u8 0,.int .u8 0,.int .u8 0,.int .u8 0,.slice none 0 0,.slice none 0 0,.slice none 0 0,.slice none 0 0],.agg #[.int .u8 0,.int .u8 0,.int .u8 0,.int .u8 0,.int .u8 0,.slice none 0 0,.slice none 0 0,.slice none 0 0,.slice none 0 0]] rfl (by kernel_rfl) (by kernel_rfl) (by kernel_rfl)
   (OpenSpec.preRow_of_cond 8 hx (by kernel_rfl) (fun k hk=>by cases hk) (by kernel_rfl) (laidMet_of_run' 8 (by kernel_rfl) (by kernel_rfl)))) ?_
 intro W base args ds gs before hval0 hW hcnd _ hsz0 hlaid bJ0 _;have hval:∀ (j:Nat) t v,Tryz.f5.params[j]? = some t->args[j]? = some v->Value.okWide Tryz.prog W .any base t v:=hval0;have hsz:(DataW.weightsEach Tryz.prog (Tryz.f5.params.toList ++ Rows.parserPrintsSpec.plain.varTypes Tryz.prog) (ds ++ gs)).all (· <= reachBytes)=true:=hsz0;have hW':=hW;obtain ⟨p,q,hA0,hV,rfl,hfz,hnd⟩:=hW;have hA:DataW.TrodAll enc Tryz.prog W 0 (fun _=>true) true Tryz.f5.params.toList args.toList ds p:=hA0;rw[Tryz.params5] at hA hval hsz;have hsz1:∀ (j:Nat) t d,(Tryz.f5.params.toList)[j]? = some t->ds[j]? = some d->∀ n,n∈d.weights Tryz.prog t->n<=reachBytes:=fun j t d ht hd n hn=>NI (jF.1 hsz0 _ (DataW.weights_mem_each (j:=j) (t:=t) (d:=d) (by rw[vW (iO.1 ht).1]; exact ht) (by rw[vW (iO.1 hd).1]; exact hd) n hn))
 rw[Tryz.params5] at hsz1;clear hsz hsz0;have gw:GW W:=bIF hlaid.tail.tail bJ0;obtain ⟨v0,vs0,d0,ds0,p0,q0,hargs,rfl,rfl,h0,r0⟩:=trodAll_cons hA;obtain ⟨v1,vs1,d1,ds1,p1,q1,rfl,rfl,rfl,h1,r1⟩:=trodAll_cons r0;obtain ⟨rfl,rfl,rfl⟩:=trodAll_nil r1;obtain rfl:args = #[v0,v1]:=by cases args; simp_all
 obtain ⟨rfl,rfl⟩:=trodVars_none hV;have k0:=h0;have lt0:∀ x∈p0,x.block<W.heap.size:=by obtain ⟨m,hm⟩:=k0; exact DataW.trod_lt m _ _ _ hm
 obtain ⟨f0,q0,s0,aSW⟩:=open_arg (hW:=gw) aGW (by decide) (hval 0 31 v0 rfl rfl) h0 (hsz1 0 31 d0 rfl rfl);obtain ⟨e0,he0,x0⟩:=aU9 s0;rw[he0] at aSW;have k1:=h1;have lt1:∀ x∈p1,x.block<W.heap.size:=by obtain ⟨m,hm⟩:=k1; exact DataW.trod_lt m _ _ _ hm
 obtain ⟨f1,q1,s1,aSX⟩:=open_arg (hW:=gw) aGW (by decide) (hval 1 31 v1 rfl rfl) h1 (hsz1 1 31 d1 rfl rfl);obtain ⟨e1,he1,x1⟩:=aU9 s1;rw[he1] at aSX;clear hA0 hval0;refine (Ev.top (a_H (Go.Proofs.YtilpiopkekkbiaaGreatDoor.W.c10 x0 x1)) (aT1 aSW (aT1 aSX bR0))).mono fun e W' ⟨vr,M',he,hrep,_,bel⟩ => ?_
 subst he;obtain rfl:=kE.1 hrep;exact ⟨_,rfl,_,_,_,[],_,[],hW',trodAll_mk1 (shut_bool Tryz.underlying4 _),(trodAll_cons_mk (Below.trod aPU (by kernel_rfl) (NI (by kernel_rfl)) k0 bel lt0) (trodAll_cons_mk (Below.trod aPU (by kernel_rfl) (NI (by kernel_rfl)) k1 bel lt1) trodAll_mk0)),rfl,bel.frame _,fun h=>by cases h⟩
theorem bQ6:(Rows.parserPrintsRow.inPlace==Tryz.prog.inPlace 5)=true:=by kernel_rfl
theorem bQC:(Rows.parserPrintsRow.unfollowed==Tryz.prog.unfollowed 5)=true:=by kernel_rfl
theorem bQA:(Rows.parserPrintsRow.recurses==Tryz.prog.recurses 5)=true:=by kernel_rfl
theorem bQD:(Rows.parserPrintsRow.named==Tryz.prog.varsNamed 5)=true:=by kernel_rfl
theorem bQ7:joinedFacts Tryz.prog 5 Tryz.f5 (OpenSpec.ofChange Rows.parserPrintsSpec).bare Rows.parserPrintsRow=true :=bJS (by kernel_rfl) bQ6 bQC bQA bQD (by kernel_rfl)
theorem bQE:Tryz.f5.isWrapper Tryz.prog Rows.parserPrintsRow.wrapper Rows.parserPrintsRow.mainSum:=by unfold Func.isWrapper;first | (rw[aX (by decide +kernel)]; kernel_rfl) | (rw[aV (by decide +kernel)]; exact ⟨rfl,rfl⟩)
theorem bQB:Rows.ParserPrintsSaid :=
 OpenClaim.holds_of_cond 5 Tryz.f5 rfl rfl rfl rfl rfl rfl rfl ⟨rfl,rfl,rfl,rfl,rfl⟩ rfl rfl rfl rfl rfl (by kernel_rfl) Tryz.func5 bQ7
  (NI (by kernel_rfl)) bQE
  (fun os started H enc _ F=>by rw[OpenClaim.pre_eq_preRow]; exact bQ8 os started H enc F)
end Go.Proofs.YtilpiopkekkbiaaGreatDoor
end

/- A part of the proof. -/
import Derived.Test.YtmbehibpfkkjbaaGreatDoorPs7
import Derived.Test.YtmbehibpfkkjbaaGreatDoorPs5
import Derived.Lib.ItoaNum
import Derived.Test.YtmbehibpfkkjbaaGreatDoorPs4
set_option linter.unusedVariables false
set_option linter.defProp false
set_option linter.unusedSimpArgs false
set_option linter.unnecessarySimpa false
set_option linter.unusedSectionVars false
noncomputable section
open Go.IntKind (i64)
namespace Go.Proofs.YtmbehibpfkkjbaaGreatDoor.W
open Go.RowKit
set_option maxRecDepth 1000000
abbrev lT (c:UInt8) (k:Nat):Nm := [c,48+UInt8.ofNat k]
def uJ (c:UInt8) (b:Nat) (s:Nm):Prop:=∃ k:Nat,k<b/\s=lT c k
variable {H:UInt8} {i b':Nat} {p:Int} {O:Type} {u:Nm} {C:List Nm} {c':Vr} {d1:List Vr} {Y:Mv} {Z:Tm} {J:Mo}
theorem aZF (a:i<10) (hk:b'<10) (h:lT H i=lT H b'):i=b':=by
 have:∀ i,i<10->∀ b',b'<10->(48:UInt8)+UInt8.ofNat i=48+UInt8.ofNat b'->i=b':=by decide
 grind
def wu8 {n:Int} (h:U8 n):IntKind.u8.wrap n=n:=by rw[IntKind.wrap_u8]; omega
def n2c {c:Int} (d:UInt8) (k:Nat) (a:c=(d.toNat:Int)) (hk:k<10):vF ([.int .u8 c,.int .u8 (IntKind.u8.wrap (48+(k:Int)))]:ai)=true/\strOf ([.int .u8 c,.int .u8 (IntKind.u8.wrap (48+(k:Int)))]:ai)=bs (lT d k):=by rw[wu8 ⟨by omega,by omega⟩];refine ⟨by simp[vF,mf]<;>omega,?_⟩;show bs [UInt8.ofNat c.toNat,UInt8.ofNat (48+(k:Int)).toNat]=_;rw[a,nC];rw[show (48+(k:Int)).toNat=48+k by omega];simp
def n2w {c:Int} (d:UInt8) (k:Nat) (a:c=(d.toNat:Int)) (hk:k<10):vF ([.int .u8 c,.int .u8 (IntKind.u8.wrap (48+(IntKind.u8.wrap (k:Int))))]:ai)=true/\strOf ([.int .u8 c,.int .u8 (IntKind.u8.wrap (48+(IntKind.u8.wrap (k:Int))))]:ai)=bs (lT d k):=by rw[wu8 (n:=(k:Int)) ⟨by omega,by omega⟩]; exact n2c d k a hk
def Qh (s:Nm):Prop:=∃ j:Nat,j<6/\s = [97+UInt8.ofNat j]
def n1c (h:0<=p):vF ([.int .u8 (IntKind.u8.wrap (97+Int.tmod p 6))]:ai)=true/\∃ s,Qh s/\strOf ([.int .u8 (IntKind.u8.wrap (97+Int.tmod p 6))]:ai)=bs s:=by have c:=QV p (b:=6) (by decide);have d:=VA 6 h;obtain ⟨j,a⟩:∃ j:Nat,Int.tmod p 6=(j:Int):=⟨(Int.tmod p 6).toNat,by omega⟩;rw[a,wu8 ⟨by omega,by omega⟩];refine ⟨by simp[vF,mf]<;>omega,_,⟨j,by omega,rfl⟩,?_⟩;show bs [UInt8.ofNat (97+(j:Int)).toNat]=_;rw[show (97+(j:Int)).toNat=97+j by omega];simp
def ZR (h:0<=p) (b:Nat) (a:0<b):∃ j:Nat,j<b/\Int.tmod p (b:Int)=(j:Int):=by have c:=QV p (b:=(b:Int)) (by omega);have d:=VA (b:Int) h;exact ⟨(Int.tmod p b).toNat,by omega,by omega⟩
structure Sk where
 e:Int×Int×Int×Int×Int
 ts:List Mc
 is:List (Int×Int×Int)
 xs:List (Int×Int×Int×Int)
 ks:List (Int×Int×Int)
abbrev vM4 (x:Int×Int×Int×Int):Sh.V Jt:=(x.1,x.2.1,x.2.2.1,x.2.2.2,())
abbrev Yn (x:Int×Int×Int×Int):PV := .agg [.int .u8 x.1,.int .u8 x.2.1,.int .u8 x.2.2.1,.int .u8 x.2.2.2]
abbrev vM3 (x:Int×Int×Int):Sh.V Vl:=(x.1,x.2.1,x.2.2,())
abbrev Ym (x:Int×Int×Int):PV := .agg [.int .i8 x.1,.int .i8 x.2.1,.int .i8 x.2.2]
abbrev sV (s:Sk):Sh.V S2:=(s.e.1,s.e.2.1,s.e.2.2.1,s.e.2.2.2.1,s.e.2.2.2.2,s.ts.map Ls,s.is.map Lr,s.xs.map Yn,s.ks.map Ym,())
def aXV {l:List (Int×Int×Int×Int)} (hk:i<l.length) (K:Sh.V Jt->R):ak Jt (l.map Yn) (i:Int) K=K (vM4 l[i]):=yw (fun _ _=>rfl) hk K
def aXU {l:List (Int×Int×Int)} (hk:i<l.length) (K:Sh.V Vl->R):ak Vl (l.map Ym) (i:Int) K=K (vM3 l[i]):=yw (fun _ _=>rfl) hk K
structure aAK (s:Sk):Prop where
 e:U8 s.e.1/\U8 s.e.2.1/\U8 s.e.2.2.1/\U8 s.e.2.2.2.1/\U8 s.e.2.2.2.2
 ts:s.ts.length<=1000/\∀ c,c∈s.ts->aAD c
 is:s.is.length<=1000/\∀ x,x∈s.is->U8 x.1/\U8 x.2.1/\U8 x.2.2
 xs:s.xs.length<=1000/\∀ x,x∈s.xs->U8 x.1/\U8 x.2.1/\U8 x.2.2.1/\U8 x.2.2.2
 ks:s.ks.length<=1000/\∀ x,x∈s.ks->I8 x.1/\I8 x.2.1/\I8 x.2.2
structure Qu (k:Nat) (x:Ins):Prop where
 n:uJ 99 k x.n
 t:uJ 116 3 x.t
 e:x.es.length<=3/\∀ s,s∈x.es->Qh s
structure Vu (i:Nat) (x:qj):Prop where
 n:x.n=lT 101 i
 l:1<=x.ls.length/\x.ls.length<=3/\∀ l,l∈x.ls->uJ 99 4 l.1/\uJ 108 5 l.2
structure a0G (i:Nat) (x:Cst):Prop where
 n:x.n=lT 107 i
 l:1<=x.ts.length/\x.ts.length<=2/\∀ l,l∈x.ts->uJ 99 4 l.1/\I8 l.2
 b:I8 x.b
structure Nw (m:Mo):Prop where
 n:m.n = [109,111,100,101,108]
 es:m.es.map (·.n) = [[97],[98],[99],[100],[101]]/\∀ x,x∈m.es->a0A x
 ts:m.ts.length<=2/\∀ i (h:i<m.ts.length),m.ts[i].n=lT 116 i/\Dw m.ts[i]
 is:m.cs.length+m.rs.length<=4/\(∀ x,x∈m.cs ++ m.rs->Qu 4 x)/\((m.cs ++ m.rs).map (·.n)).Nodup
 xs:m.xs.length<=2/\∀ i (h:i<m.xs.length),Vu i m.xs[i]
 ks:m.ks.length<=2/\∀ i (h:i<m.ks.length),a0G i m.ks[i]
theorem aV' {P:Nat->O->Prop} {l:List O} (h:∀ i (h:i<l.length),P i l[i]) {a:O} (b:P l.length a):∀ i (h:i<(l ++ [a]).length),P i (l ++ [a])[i]:=by grind
section
variable {s:Sk} (hs:aAK s) {o1:ai}
include hs
theorem m4:∃ a:List Tm,Xg (sV s) o1 0 []=Xc (sV s) o1 (a.map wM)/\a.length<=2/\∀ i (h:i<a.length),a[i].n=lT 116 i/\Dw a[i]:=by
 have d:(s.ts.map Ls).length=s.ts.length:=aZ _;refine Exists.elim (Gi (n:=min s.ts.length 2) (L:=fun k (a:List Tm)=>Xg (sV s) o1 (k:Int) (a.map wM))
  (P:=fun k a=>a.length=k/\∀ i (h:i<a.length),a[i].n=lT 116 i/\Dw a[i]) (fun k a hk b => ?_) (fun a b => ?_) [] ⟨rfl,fun i h=>(nomatch h)⟩) fun a b=>⟨a,b.1,jO (Hg b.2.1) (by omega),b.2.2⟩
 .obtain ⟨g,l⟩:=b;have f:k<s.ts.length:=by omega
  obtain ⟨t,e,m,o⟩:=tmM (hs.ts.2 _ (dZ f)) (lT 116 k);obtain ⟨p,j⟩:=n2w (c:=116) 116 k rfl (by omega);rw[aSQ,d,aK (by omega),aEN f,show ((k:Int)==2)=false by rw[tH]; omega,j,b3V e,aQ (di (by rw[aZ]; omega)),bK (by omega)];refine ⟨a ++ [t],by rw[pq]; rfl,by rw[aY,g]; rfl,?_⟩;grind
 .rw[aSQ,d];by_cases q:s.ts.length<=2;simp_all
  .rw[E_ (by omega),aK (by omega),aI,aEN (by omega),show (((2:Nat):Int)==2)=true from rfl,aI]
theorem m16 {q:Int×Int×Int} (hq:U8 q.1/\U8 q.2.1/\U8 q.2.2) {g l d f:ai} {n:Nm} :
 ∃ a:List Nm,Xd (sV s) o1 (NC q) 0 [] g p l d f (bs n)=aB (decide (q.1<128)) (bJ (decide (d.length+1<=aN)) (XZ (sV s) o1 (NC q) (d ++ ([A8 (bs n,(strOf ([.int .u8 116,.int .u8 (IntKind.u8.wrap (48+(Int.tmod q.1 3)))]:ai)),aJ a,())]:ai)) f g p l (bs n) (aJ a))) (bJ (decide (f.length+1<=aN)) (XZ (sV s) o1 (NC q) d (f ++ ([A8 (bs n,(strOf ([.int .u8 116,.int .u8 (IntKind.u8.wrap (48+(Int.tmod q.1 3)))]:ai)),aJ a,())]:ai)) g p l (bs n) (aJ a)))/\a.length<=3/\∀ s,s∈a->Qh s:=by
 obtain ⟨c,r,e⟩:=ZR hq.2.1.1 4 (by decide);have t:i64.wrap (Int.tmod q.2.1 4)=(c:Int):=by rw[show (4:Int)=((4:Nat):Int) from rfl,e,wrap64 (by omega) (by omega)]
 refine Exists.elim (Gi (n:=c) (L:=fun j (a:List Nm)=>Xd (sV s) o1 (NC q) (j:Int) (aJ a) g p l d f (bs n)) (P:=fun j a=>a.length=j/\∀ s,s∈a->Qh s) (fun j a u b => ?_) (fun a b => ?_) [] ⟨rfl,fun i h=>(nomatch h)⟩) fun a b=>⟨a,b.1,jO (Hg b.2.1) (by omega),b.2.2⟩
 .obtain ⟨m,v⟩:=b;obtain ⟨o,z,w,x⟩:=n1c (u8w (q.2.2+IntKind.u8.wrap (j:Int))).1;rw[aSM];try dsimp only
  rw[aK (by omega),aI,aQ o,aQ (di (by rw[fJ]; omega)),bK (by omega)];refine ⟨a ++ [z],?_,by rw[aY,m]; rfl,fun y A => ?_⟩;grind [dG]
  grind
 grind [aSM,aF]
end
def aZG (h:uJ H i u) (e:i<=b'):uJ H b' u:=by obtain ⟨k,f,d⟩:=h; exact ⟨k,by omega,d⟩
def c7W (a:List Nm) (b:Nm):aJ a ++ ([.str (bs b)]:ai)=aJ (a ++ [b]):=by simp[dG]
structure StI where
 x6:List Nm
 cs:List Ins
 rs:List Ins
structure StP (k:Nat) (z:StI):Prop where
 x:z.x6.length=k+1/\∀ s,s∈z.x6->uJ 99 4 s
 n:z.cs.length+z.rs.length=k
 i:∀ x,x∈z.cs ++ z.rs->Qu k x
 d:((z.cs ++ z.rs).map (·.n)).Nodup
section
variable {s:Sk} (hs:aAK s) {o1 o2:ai}
include hs
theorem m11:∃ z:StI,Xc (sV s) o1 o2=Xa (sV s) o1 (aJ z.x6) o2 (z.cs.map dN) (z.rs.map dN)/\∃ k,k<=4/\StP k z:=by
 have a:(s.is.map Lr).length=s.is.length:=aZ _;rw[bPV];refine Exists.elim (Gi (n:=min s.is.length 4) (L:=fun k (z:StI)=>QP (sV s) o1 (aJ z.x6) (k:Int) (z.cs.map dN) (z.rs.map dN) o2) (fun k z hk b => ?_) (fun z b => ?_) ⟨[[99,48]],[],[]⟩ ⟨⟨rfl,fun s h=>by rw[F8] at h; exact ⟨0,by decide,h⟩⟩,rfl,fun x h=>(nomatch h),List.nodup_nil⟩) fun z b=>⟨z,b.1,_,by omega,b.2⟩
 .obtain ⟨⟨p,D⟩,E,q,F⟩:=b;have m:k<s.is.length:=by omega
  have hq:=hs.is.2 _ (dZ m);obtain ⟨G,r⟩:=n2w (c:=99) 99 k rfl (by omega);obtain ⟨j,u,v⟩:=ZR hq.1.1 3 (by decide);obtain ⟨H,w⟩:=n2c (c:=116) 116 j rfl (by omega);obtain ⟨f,e,A,B⟩:=m16 hs hq;have g:Int.tmod (s.is[k]).1 3=(j:Int):=v;rw[aSL,a,aK (by omega),YP m,show ((k:Int)==4)=false by rw[tH]; omega,r];rw[e,g,w,aQ (di (by rw[aZ]; omega)),aQ (di (by rw[aZ]; omega)),aSH,aSH,aQ (di (by rw[fJ]; omega)),aQ (di (by rw[fJ]; omega)),bK (by omega),c7W];have d:(z.x6 ++ [lT 99 k]).length=k+1+1/\∀ s,s∈z.x6 ++ [lT 99 k]->uJ 99 4 s:=by
   refine ⟨by rw[aY,p]; rfl,fun y l => ?_⟩;rw[DZ,F8] at l;rcases l with l | rfl
   simp_all
   .exact ⟨k,by omega,rfl⟩
  have I:Qu (k+1) ⟨lT 99 k,lT 116 j,f⟩:=⟨⟨k,by omega,rfl⟩,⟨j,u,rfl⟩,A,B⟩;have J:∀ x,x∈z.cs ++ z.rs->x.n≠lT 99 k:=fun x d h=>by obtain ⟨i,K,C⟩:=(q x d).n;have:=aZF (by omega) (by omega) (C.symm.trans h);omega
  have M:∀ x,Qu k x->Qu (k+1) x:=fun x h=>⟨aZG h.n (by omega),h.t,h.e⟩
  by_cases o:(s.is[k]).1<128
  .rw[aK o];refine ⟨⟨z.x6 ++ [lT 99 k],z.cs ++ [⟨lT 99 k,lT 116 j,f⟩],z.rs⟩,by rw[pq]; rfl,d,?_,?_,?_⟩;grind
   grind
   grind
  .rw[aU o];refine ⟨⟨z.x6 ++ [lT 99 k],z.cs,z.rs ++ [⟨lT 99 k,lT 116 j,f⟩]⟩,by rw[pq]; rfl,d,?_,?_,?_⟩;grind
   grind
   grind
 .rw[aSL,a];by_cases N:s.is.length<=4;simp_all
  .rw[E_ (by omega),aK (by omega),aI,YP (by omega),show (((4:Nat):Int)==4)=true from rfl,aI]
theorem m31 {q:Int×Int×Int×Int} (hq:U8 q.1/\U8 q.2.1/\U8 q.2.2.1/\U8 q.2.2.2) (z:0<C.length/\C.length<=100/\∀ s,s∈C->uJ 99 4 s) {n:Nm} {f g d:ai} :
 ∃ a:List (Nm×Nm),Xf (sV s) o1 (vM4 q) 0 (aJ C) p o2 f g d (bs n,[],())=bJ (decide (d.length+1<=aN)) (Xe (sV s) o1 (i64.wrap (p+1)) (d ++ ([Ag (bs n,a.map yE,())]:ai)) (aJ C) o2 f g)/\1<=a.length/\a.length<=3/\∀ l,l∈a->uJ 99 4 l.1/\uJ 108 5 l.2:=by
 obtain ⟨m,A,o⟩:=z;obtain ⟨c,M,e⟩:=ZR hq.1.1 3 (by decide);have N:i64.wrap (1+i64.wrap (Int.tmod q.1 3))=((c+1:Nat):Int):=by rw[show (3:Int)=((3:Nat):Int) from rfl,e,wrap64 (n:=(c:Int)) (by omega) (by omega),wrap64 (by omega) (by omega)]; omega
 refine Exists.elim (Gi (n:=c+1) (L:=fun j (a:List (Nm×Nm))=>Xf (sV s) o1 (vM4 q) (j:Int) (aJ C) p o2 f g d (bs n,a.map yE,())) (P:=fun j a=>a.length=j/\∀ l,l∈a->uJ 99 4 l.1/\uJ 108 5 l.2) (fun j a O b => ?_) (fun a b => ?_) [] ⟨rfl,fun i h=>(nomatch h)⟩) fun a b=>⟨a,b.1,by omega,jO (Hg b.2.1) (by omega),b.2.2⟩
 .obtain ⟨B,Q⟩:=b;have hv:∃ v,U8 v/\∀ K:PV->R,J3 [.int .u8 q.1,.int .u8 q.2.1,.int .u8 q.2.2.1,.int .u8 q.2.2.2] (0+(i64.wrap (1+(j:Int))).toNat*1) K=K (.int .u8 v):=by
   have:j=0\/j=1\/j=2:=by omega
   rcases this with rfl|rfl|rfl
   .exact ⟨q.2.1,hq.2.1,fun K=>rfl⟩
   .exact ⟨q.2.2.1,hq.2.2.1,fun K=>rfl⟩
   .exact ⟨q.2.2.2,hq.2.2.2,fun K=>rfl⟩
  have D:∃ v,U8 v/\∀ K:PV->R,J3 [.int .u8 q.1,.int .u8 q.2.1,.int .u8 q.2.2.1,.int .u8 q.2.2.2] (0+(i64.wrap (3-(j:Int))).toNat*1) K=K (.int .u8 v):=by
   have:j=0\/j=1\/j=2:=by omega
   rcases this with rfl|rfl|rfl
   .exact ⟨q.2.2.2,hq.2.2.2,fun K=>rfl⟩
   simp_all
   .exact ⟨q.2.1,hq.2.1,fun K=>rfl⟩
  obtain ⟨v,E,F⟩:=hv;obtain ⟨w,w1,w2⟩:=D;obtain ⟨i,x,G⟩:=ZR E.1 C.length m;obtain ⟨r,H,I⟩:=ZR w1.1 5 (by decide);have t:Int.tmod w 5=(r:Int):=I;obtain ⟨S,J⟩:=n2c (c:=108) 108 r rfl (by omega);rw[aSO];try dsimp only
  rw[aK (by omega),aQ (by rw[wrap64 (by omega) (by omega)]; grind),F,vZ,aQ (by rw[fJ,F6,tH]; omega),wrap64 (by omega) (by omega),fJ,G,yx x,je,aQ (by rw[wrap64 (by omega) (by omega)]; grind),w2,vZ,t,J,aQ (di (by rw[aZ]; omega)),bK (by omega)];refine ⟨a ++ [(C[i],lT 108 r)],by rw[pq]; rfl,by rw[aY,B]; rfl,fun y u => ?_⟩;rw[DZ,F8] at u;rcases u with u | rfl
  grind
  .exact ⟨o _ (dZ x),r,H,rfl⟩
 grind [aSO,aU,aF]
theorem m26 (l:0<C.length/\C.length<=100/\∀ s,s∈C->uJ 99 4 s) {f g:ai} :
 ∃ a:List qj,Xa (sV s) o1 (aJ C) o2 f g=Xb (sV s) o1 (aJ C) o2 f g (a.map wL)/\a.length<=2/\∀ i (h:i<a.length),Vu i a[i]:=by
 have d:(s.xs.map Yn).length=s.xs.length:=aZ _;rw[bPT];refine Exists.elim (Gi (n:=min s.xs.length 2) (L:=fun k (a:List qj)=>Xe (sV s) o1 (k:Int) (a.map wL) (aJ C) o2 f g)
  (P:=fun k a=>a.length=k/\∀ i (h:i<a.length),Vu i a[i]) (fun k a hk b => ?_) (fun a b => ?_) [] ⟨rfl,fun i h=>(nomatch h)⟩) fun a b=>⟨a,b.1,jO (Hg b.2.1) (by omega),b.2.2⟩
 .obtain ⟨m,q⟩:=b;have j:k<s.xs.length:=by omega
  obtain ⟨r,o⟩:=n2w (c:=101) 101 k rfl (by omega);obtain ⟨p,e,t,u,v⟩:=m31 hs (hs.xs.2 _ (dZ j)) l;rw[aSN,d,aK (by omega),aXV j,show ((k:Int)==2)=false by rw[tH]; omega,o,e,aQ (di (by rw[aZ]; omega)),bK (by omega)];refine ⟨a ++ [⟨lT 101 k,p⟩],by rw[pq]; rfl,by rw[aY,m]; rfl,?_⟩;grind [Vu]
 .rw[aSN,d];by_cases w:s.xs.length<=2;simp_all
  .rw[E_ (by omega),aK (by omega),aI,aXV (by omega),show (((2:Nat):Int)==2)=true from rfl,aI]
theorem m38 (t:0<C.length/\C.length<=100/\∀ s,s∈C->uJ 99 4 s) {e f g:ai} :
 ∃ a:List Cst,Xb (sV s) o1 (aJ C) o2 e f g=some (A0 (⟨#[109,111,100,101,108]⟩,o1,o2,e,f,g,a.map oZ,()),[])/\a.length<=2/\∀ i (h:i<a.length),a0G i a[i]:=by
 obtain ⟨j,u,v⟩:=t;have c:(s.ks.map Ym).length=s.ks.length:=aZ _;rw[bPU];refine Exists.elim (Gi (n:=min s.ks.length 2) (L:=fun k (a:List Cst)=>a5G (sV s).2.2.2.2.2.2.2.2.1 o1 (k:Int) (a.map oZ) (aJ C) o2 e f g)
  (P:=fun k a=>a.length=k/\∀ i (h:i<a.length),a0G i a[i]) (fun k a hk b => ?_) (fun a b => ?_) [] ⟨rfl,fun i h=>(nomatch h)⟩) fun a b=>⟨a,b.1,jO (Hg b.2.1) (by omega),b.2.2⟩
 .obtain ⟨d,o⟩:=b;have p:k<s.ks.length:=by omega
  obtain ⟨⟨x,y⟩,⟨z,A⟩,⟨q,r⟩⟩:=hs.ks.2 _ (dZ p);rw[aSP,c,aK (by omega),aXU p,show (0:Int)=((0:Nat):Int) from rfl,yx j,je,fJ,wrap64 (by omega) (by omega),show (C.length:Int)-1=((C.length-1:Nat):Int) by omega,yx (show C.length-1<C.length by omega),je];rw[wrap64 (n:=(s.ks[k]).1) (by omega) (by omega),wrap64 (n:=(s.ks[k]).2.1) (by omega) (by omega),wrap64 (n:=(s.ks[k]).2.2) (by omega) (by omega),aQ (di (by rw[aZ]; omega))];have m:k=0\/k=1:=by omega
  rcases m with rfl|rfl
  .refine ⟨a ++ [⟨lT 107 0,[(C[0],(s.ks[0]).1)],(s.ks[0]).2.2⟩],by rw[pq]; rfl,by rw[aY,d]; rfl,?_⟩;refine aV' o ⟨by rw[d],⟨by simp,by simp,fun l w => ?_⟩,q,r⟩;grind
  .refine ⟨a ++ [⟨lT 107 1,[(C[0],(s.ks[1]).1),(C[C.length-1],(s.ks[1]).2.1)],(s.ks[1]).2.2⟩],by rw[pq]; rfl,by rw[aY,d]; rfl,?_⟩;refine aV' o ⟨by rw[d],⟨by simp,by simp,fun l w => ?_⟩,q,r⟩;grind
 .rw[aSP,c];by_cases B:s.ks.length<=2;simp_all
  .rw[E_ (by omega),aK (by omega),aI,aXU (by omega),show (((2:Nat):Int)==2)=true from rfl,aI]
theorem Ce:∃ m:Mo,SS.CC 9 [A2 (sV s)] []=some (A0 (aV m),[])/\Nw m:=by
 obtain ⟨b,c,d,f,g⟩:=hs.e;obtain ⟨i,j,l,o⟩:=evM b c d f g;obtain ⟨p,q,r,u⟩:=m4 hs;obtain ⟨z,v,k,hk,⟨J,w⟩,K,y,A⟩:=m11 hs;have a:0<z.x6.length/\z.x6.length<=100/\∀ s,s∈z.x6->uJ 99 4 s:=⟨by omega,by omega,w⟩;obtain ⟨B,C,D,E⟩:=m26 hs a;obtain ⟨F,G,H,I⟩:=m38 hs a;refine ⟨⟨[109,111,100,101,108],i,p,z.cs,z.rs,B,F⟩,?_,⟨rfl,⟨l,o⟩,⟨r,u⟩,⟨by simp_all,fun x h => ?_,A⟩,⟨D,E⟩,H,I⟩⟩
 .rw[bQA,Jl j,q,v,C,G]; rfl
 .have:=y x h;exact ⟨aZG this.n hk,this.t,this.e⟩
end
def b0C {v:Nat->Int}:∀ (n k:Nat),(∀ i,k<=i->i<k+n->v i=0)->En v k n=0
 | 0,_,_=>rfl
 | n+1,k,h=>by rw[En,h k (dO _) (by omega)];exact b0C n (k+1) fun i a b=>h i (by omega) (by omega)
theorem yV {v:Nat->Int} (h:∀ a,a<i->v a=0):tY v i=0:=b0C i 0 fun a _ b=>h a (by omega)
theorem Ug {b:Int} (c:p=0) (d:b=0):sq p b=0:=by subst c; exact d
theorem bB7 {pre:List Nm} (a:f_ u=true) (b:u∉pre):xB pre u=0:=by grind [xB]
theorem aF0 (h:C.Nodup) (hk:i<C.length):C[i]∉C.take i:=fun b=>by obtain ⟨a,c,e⟩:=List.mem_take_iff_getElem.1 b;exact List.pairwise_iff_getElem.1 h a i (by omega) hk (by omega) e
theorem Wp (f:O->Nm) {l:List O} (a:(l.map f).Nodup) (b:∀ x,x∈l->f_ (f x)=true) (hk:i<l.length) (d:O):xB ((l.take i).map f) (f (l.getD i d))=0:=by grind [bB7,aF0,List.map_take]
def Y9 (f:O->Nm) {c:UInt8} {l:List O} (g:l.length<=10) (h:∀ i (h:i<l.length),f l[i]=lT c i):(l.map f).Nodup:=by
 refine List.pairwise_iff_getElem.2 fun i j a b d e => ?_
 rw[aZ] at a b;rw[BL,BL,h i a,h j b] at e;have:=aZF (by omega) (by omega) e;omega
theorem xE {P:Nat->O->Prop} {l:List O} (h:∀ i (h:i<l.length),P i l[i]) {x:O} (a:x∈l):∃ i,i<l.length/\P i x:=by grind [List.getElem_of_mem]
def okC (c:UInt8):Bool:=(List.range 10).all fun k=>f_ (lT c k)
theorem Ya (h:okC H=true) (hk:i<10):f_ (lT H i)=true:=by grind [okC]
theorem UD (h:okC H=true) (d:i<=10) (a:uJ H i u):f_ u=true:=by obtain ⟨k,hk,rfl⟩:=a; grind [Ya]
theorem bA6 (h:Qh u):f_ u=true:=by
 obtain ⟨j,a,rfl⟩:=h;have:∀ j,j<6->f_ [97+UInt8.ofNat j]=true:=by decide
 simp_all
def b_4 {c:UInt8} (b:i<=10):(sF c i).Nodup:=by have:=Y9 (c:=c) (fun s:Nm=>s) (l:=sF c i) (by rw[Gq]; exact b) (fun a h=>by simp[sF]);rwa [List.map_id'] at this
def PK (h:u∈sF H i):uJ H i u:=by obtain ⟨a,b,d⟩:=uu.1 h;exact ⟨a,Aa.1 b,d.symm⟩
def aZM (b:okC H=true) (a:i<=10):Ed (sF H i)=0:=yV fun k hk=>by have:=Wp (fun s:Nm=>s) (by rw[List.map_id']; exact b_4 a) (fun x d=>UD b a (PK d)) hk [];rwa [List.map_id'] at this
theorem b96 {l:List Int} (h:FP l p):OJ l p=0:=yV fun k hk=>by
 have:=h.b k hk;rw[aU (by omega),aU (by omega)];by_cases a:0<k
 .rw[aU (show ¬ l.getD k 0<=l.getD (k-1) 0 by have:=h.s k a hk; omega),Ez]; rfl
 simp_all
theorem b5M (n:Nat):KF (I9 n)=0:=yV fun k hk=>by simp_all
theorem cA9 {pre:List Vr} (h:O0 i c') (a:i<10) (b:c'.n∉pre.map (·.n)):Zl pre c'=0:=by obtain ⟨c,d,e,f,g⟩:=h;unfold Zl rP;rw[show f_ c'.n=true by rw[c]; exact Ya (by decide) a,aU b,aU (show ¬ 65536<c'.lo by omega),aU (show ¬ c'.lo < -65536 by omega),aU (show ¬ 65536<c'.hi by omega),aU (show ¬ c'.hi < -65536 by omega),aU (by omega),aU (by omega),aU (by omega)];rfl
theorem b9B (b:d1.length<=3) (h:∀ i (h:i<d1.length),O0 i d1[i]):IG d1=0:=by
 have c:=Y9 (fun v:Vr=>v.n) (by omega) fun i a=>(h i a).n
 grind [IG,yV,aF0,List.map_take,cA9]
def c52 (a:d1.length<=3) (h:∀ i (h:i<d1.length),O0 i d1[i]):v_ d1=0:=yV fun k hk=>by rw[gD hk];unfold rvE;rw[(h k hk).n];simp
theorem aUA {x:EX} (h:Nj i p x) (a:i<=16):BU x i p=0:=c8Z h.t (by omega) (by omega) (by have:=h.d; omega) (by have:=h.s; omega)
theorem cA3 {c:List (Int×EX)} (h:a0L i i c) (f:i<=16):Zi i c=0:=yV fun k hk=>by
 have a:k<(c.map (·.1)).length:=by rw[aZ]; exact hk
 have d:=h.i.b k a;unfold Uu;rw[gD a] at d;rw[BL] at d;rw[gD hk,aU (by omega),aU (by omega),aUA (h.e _ (dZ hk)) f];by_cases g:0<k
 .have j:=h.i.s k g a;rw[gD a,gD (show k-1<(c.map (·.1)).length by omega),BL,BL] at j;rw[gD (show k-1<c.length by omega),aU (show ¬ c[k].1<=c[k-1].1 by omega),Ez]; rfl
 simp_all
theorem b'X {a:Nat} (h:Ny i b' a Y) (b:a<=16):PE i b' a Y=0:=by obtain ⟨c,d,e,f,g⟩:=h;grind [PE,Ug,aUA,cA3]
theorem c8M (h:Dw Z):HY Z=0:=by
 obtain ⟨⟨o,p,q,e⟩,⟨r,u,a,b⟩,f,v,⟨g,w⟩,⟨c,d⟩,s1,x⟩:=h;have i:Ed Z.es=0:=by rw[a]; exact aZM (by decide) (by omega)
 have j:Ed Z.ls=0:=by rw[e]; exact aZM (by decide) (by omega)
 have l:(Z.al.length:Int)=(Z.es.length:Int):=by rw[b,a,Gq]; simp
 have m:KF Z.al=0:=by rw[b]; exact b5M _
 have n:Gm (Z.ls.length:Int) (Z.es.length:Int) (Z.vs.length:Int) Z.ms=0:=yV fun k hk=>by grind [b'X]
 unfold HY;rw[i,j,show ((Z.al.length:Int) !=(Z.es.length:Int))=false by rw[l]; simp,show (Z.L !=(Z.ls.length:Int))=false by rw[f]; simp,aU (show ¬ Z.I<0 by omega),aU (show ¬ UA (Z.ls.length:Int)<=Z.I by grind [UA]),m,b96 g,b9B c d,c52 c d,n];rfl
def b_6 (h:∀ s,s∈C->f_ s=true):UE C=0:=yV fun k hk=>by rw[gD hk,h _ (dZ hk)]; rfl
theorem aM6 (h:Nw J):Bl J=0:=by
 obtain ⟨z,⟨q,A⟩,⟨F,e⟩,⟨G,r,B⟩,⟨H,f⟩,k1,k2⟩:=h;have I:J.es.length=5:=by rw[<- aZ,q]; rfl
 have a1:RP J.es=0:=by
  unfold RP;rw[aU (by omega)];refine yV fun k hk => ?_
  have C:(J.es.map (·.n)).Nodup:=by rw[q]; decide
  have D:=aF0 C (by rw[aZ]; exact hk);have K:f_ (J.es[k]).n=true:=by
   have L:∀ s:Nm,s ∈ [[97],[98],[99],[100],[101]]->f_ s=true:=by decide
   grind
  obtain ⟨E,M⟩:=A _ (dZ hk);rw[<- a04] at D;grind [evE]
 have a2:QC J.ts=0:=yV fun k hk=>by have:=Wp (fun t:Tm=>t.n) (Y9 _ (by omega) fun i b=>(e i b).1) (fun x a=>by obtain ⟨i,u,c⟩:=xE (P:=fun i (t:Tm)=>t.n=lT 116 i/\Dw t) e a;rw[c.1]; exact Ya (by decide) (by omega)) hk dT;refine Ug this ?_;rw[gD hk]; exact c8M (e k hk).2
 have a3:mW (J.cs ++ J.rs)=0:=yV fun k hk=>by
  refine Ug (Wp (fun x:Ins=>x.n) B (fun x a=>UD (by decide) (by omega) (r x a).n) hk dI) ?_;rw[gD hk];obtain ⟨v,g,w⟩:=r _ (dZ hk);refine b_6 fun s l => ?_
  rw[jy] at l;rcases l with rfl | l
  .exact UD (by decide) (by omega) g
  grind [bA6]
 have a4:NI J.xs=0:=yV fun k hk=>by
  refine Ug (Wp (fun x:qj=>x.n) (Y9 _ (by omega) fun i b=>(f i b).n) (fun x a=>by obtain ⟨i,u,c⟩:=xE f a;rw[c.n]; exact Ya (by decide) (by omega)) hk dX) ?_;rw[gD hk];obtain ⟨v,g,w,o⟩:=f k hk;rw[show (((J.xs[k]).ls.length:Int)==0)=false by rw[tH]; omega];refine yV fun j d => ?_
  rw[gD d];obtain ⟨p,y⟩:=o _ (dZ d);unfold Zv;rw[UD (by decide) (by omega) p,UD (by decide) (by omega) y]; rfl
 have a5:Ik J.ks=0:=yV fun k hk=>by
  refine Ug (Wp (fun x:Cst=>x.n) (Y9 _ (by omega) fun i b=>(k2 i b).n) (fun x a=>by obtain ⟨i,u,c⟩:=xE k2 a;rw[c.n]; exact Ya (by decide) (by omega)) hk dK) ?_;rw[gD hk];obtain ⟨v,⟨g,w,o⟩,N,O⟩:=k2 k hk;rw[show (((J.ks[k]).ts.length:Int)==0)=false by rw[tH]; omega];refine Ug (yV fun j d => ?_) ?_
  .rw[gD d];obtain ⟨p,y,Q⟩:=o _ (dZ d);unfold trE;rw[UD (by decide) (by omega) p,aU (by omega),aU (by omega)]; rfl
  grind [EG]
 unfold Bl;rw[a1,a2,a3,a4,a5,aU (by omega),aU (by omega),aU (by omega),aU (by omega),aU (by omega),z];rfl
theorem Cj (h:uJ H i u):u.length=2:=by obtain ⟨k,_,rfl⟩:=h; rfl
theorem aN0 (h:Qh u):u.length=1:=by obtain ⟨j,_,rfl⟩:=h; rfl
theorem okm (h:Nw J):lm J:=by
 obtain ⟨p,⟨r,N⟩,⟨O,w⟩,⟨Q,y,S⟩,⟨T,z⟩,k1,k2⟩:=h;have U:J.es.length=5:=by rw[<- aZ,r]; rfl
 refine ⟨by rw[p]; decide,⟨by omega,fun e he => ?_⟩,⟨by omega,fun t A => ?_⟩,⟨by omega,by omega,fun x a => ?_⟩,⟨by omega,fun x a => ?_⟩,⟨by omega,fun x a => ?_⟩⟩
 .have:e.n∈J.es.map (·.n):=uu.2 ⟨_,he,rfl⟩;grind
 .obtain ⟨i,f,c,d⟩:=xE (P:=fun i (t:Tm)=>t.n=lT 116 i/\Dw t) w A;refine ⟨by rw[c]; simp,?_⟩;obtain ⟨⟨V,X,Y,l⟩,⟨Z,n1,o,B⟩,hL,hI,⟨m1,m2⟩,⟨v1,C⟩,s1,D⟩:=d;refine ⟨⟨by rw[l,Gq]; omega,fun s b => ?_⟩,⟨by rw[o,Gq]; omega,fun s b => ?_⟩,by rw[B]; simp; omega,by omega,⟨by omega,fun v hv => ?_⟩,⟨by omega,fun x a => ?_⟩⟩
  .rw[l] at b; rw[Cj (PK b)]; decide
  .rw[o] at b; rw[Cj (PK b)]; decide
  .obtain ⟨j,_,q⟩:=xE C hv;obtain ⟨E,F,G,H,q5⟩:=q;grind
  .obtain ⟨_,_,_,g,u1,_,I⟩:=D x a;exact ⟨ZU g.t (by omega),by omega,fun u K=>ZU (I u K).t (by omega)⟩
 .obtain ⟨E,F,G,H⟩:=y x a;grind [Cj,aN0]
 .obtain ⟨i,f,c,d,L,M⟩:=xE z a;grind [Cj]
 .obtain ⟨i,f,c,⟨d,L,M⟩,h6⟩:=xE k2 a;grind [Cj]
theorem aDK {b:Prop} [Decidable b] {A:List Tok} {n:Nat} (h:jw A<=n):jw (if b then A else [])<=n:=by grind [kZ]
theorem aW6 {b:Prop} [Decidable b] {A:List Tok} {n:Nat} (h:jw A<=n):jw (if b then [] else A)<=n:=by grind [kZ]
theorem ku (s:Nm) (T:List Tok):jw (tW s::T)=s.length+1+jw T:=by rw[jw]
theorem pR (s:Nm) (T:List Tok):jw (tS s::T)=s.length+1+jw T:=by rw[jw]
theorem aN1 {e:nD} (h:a0A e) (a:e.n.length=1):jw (tu e)<=60:=by have d:=Yc (v:=e.k) (by have:=h.k; omega) (by have:=h.k; omega);unfold tu;have a1:=aDK (b:=e.c) (A := [tW [99,111,110,116,114,111,108,108,97,98,108,101]]) (n:=13) (by decide);have a2:=aDK (b:=e.o) (A := [tW [111,98,115,101,114,118,97,98,108,101]]) (n:=11) (by decide);have a3:=aDK (b:=e.f) (A := [tW [102,111,114,99,105,98,108,101]]) (n:=10) (by decide);grind [gz,ku,pR]
theorem aF7 {b:Nat} (h:∀ s,s∈C->s.length<=b) (c:C.length<=3):jw (xJ C)<=4+3*(b+3):=by unfold xJ;have:=YA (tS [44]) (b+3) (C.map fun s => [tW s]) (fun a d=>by grind [ku,kZ]);rw[pR,gz,pR,kZ];have e:C.length*(b+3)<=3*(b+3):=NV _ c;grind
theorem a6M {x:Ins} (e:u.length<=11) (h:Qu 4 x):jw (kJ u x)<=40:=by obtain ⟨f,g,a,c⟩:=h;have:=aF7 (b:=1) (fun s d=>by rw[aN0 (c s d)]; decide) a;grind [kJ,gz,ku,pR,kZ,Cj]
theorem b3F {x:qj} (h:Vu i x):jw (sZ x)<=40:=by obtain ⟨b,c,d,e⟩:=h;have:=YA (tS [44]) 8 (x.ls.map fun l => [tW l.1,tW l.2]) (fun a f=>by grind [ku,kZ,Cj]);grind [sZ,gz,ku,pR,List.length_cons]
theorem aWQ {x:Cst} (h:a0G i x):jw (ru x)<=60:=by obtain ⟨c,⟨d,e,f⟩,g,j⟩:=h;have m:=Yc (v:=x.b) (by omega) (by omega);have:=YA (tS [43]) 13 (x.ts.map fun l=>gU l.2 ++ [tS [42],tW l.1]) (fun a n=>by grind [Yc,gz,pR,ku,kZ,Cj]);grind [ru,gz,ku,pR,List.length_cons]
theorem b2Y (h:O0 i c'):jw (qf c')<=36:=by obtain ⟨a,b,c,d,e⟩:=h;grind [Yc,qf,gz,ku,pR]
def aNH (c:C.length<=16) (a:∀ s,s∈C->s.length<=2) {k:Int} {x:EX} (h:Nj (C.length:Int) k x):jw (vK C x)<=756:=by have b:uy C.length x:=⟨ZU h.t (by omega),aIQ h.t,by have:=h.s; omega⟩;have:=c2S a (OX b).1 h.t;have:=h.s;omega
theorem aEG (I:Int) (a:List Int):∀ (l:List Nm) (i:Nat),(∀ s,s∈l->s.length=2)->jw (xG I a i l)<=l.length*30
 | [],i,_=>by rw[xG,kZ]; omega
 | s::l,i,h=>by
  have c:=aEG I a l (i+1) fun x b=>h x (by simp[b])
  rw[xG];grind [CY,ku,pR,List.length_cons]
theorem b'T (j:∀ s,s∈Z.ls->s.length=2) (l:∀ s,s∈Z.es->s.length=2) (hv:Z.vs.length<=3) (m:∀ v,v∈Z.vs->v.n.length=2) {x:Mv} (h:Ny Z.ls.length Z.es.length Z.vs.length x):jw (nN Z x)<=3100:=by
 obtain ⟨o,p,q,g,r,w,y⟩:=h;have c:(Z.vs.map (·.n)).length=Z.vs.length:=aZ _;have d:∀ s,s∈Z.vs.map (·.n)->s.length=2:=fun s e=>by grind
 have f:∀ s,s∈Z.vs.map (·.n)->s.length<=2:=fun s e=>Hg (d s e)
 have z:=aNH (by omega) f (by rw[c]; exact g);have B:=YA (tS [44]) 764 (x.us.map (lY (Z.vs.map (·.n)))) (fun a i=>by obtain ⟨u,C,rfl⟩:=uu.1 i;have:=aNH (by omega) f (k:=1) (x:=u.2) (by grind);grind [lY,ku,pR]);have a1:=aW6 (b:=gX x.g tE=true) (A:=tW [119,104,101,110]::vK (Z.vs.map (·.n)) x.g) (n:=761) (by rw[ku]; grind);have a2:=aW6 (b:=x.us = []) (A:=tW [100,111]::iL (tS [44]) (x.us.map (lY (Z.vs.map (·.n))))) (n:=2295) (by rw[ku]; grind);grind [nN,gz,ku,pR]
theorem c8H (m:Z.n.length=2) (h:Dw Z):jw (mZ Z)<=12800:=by
 obtain ⟨⟨o,p,r,b⟩,⟨u,w,c,y⟩,z,A,⟨B,C⟩,⟨f,d⟩,s1,g⟩:=h;have e:∀ s,s∈Z.ls->s.length=2:=fun s a=>by rw[b] at a; exact Cj (PK a)
 have he:∀ s,s∈Z.es->s.length=2:=fun s a=>by rw[c] at a; exact Cj (PK a)
 have hv:∀ v,v∈Z.vs->v.n.length=2:=fun v hv=>by obtain ⟨j,_,q⟩:=xE d hv;rw[q.n]; rfl
 have D:=aF7 (fun s a=>Hg (he s a)) (by rw[c,Gq]; omega);have E:=aEG Z.I Z.mr Z.ls 0 e;have i:Z.ls.length<=4:=by rw[b,Gq]; omega
 have F:=Ij qf 36 Z.vs fun v hv=>by obtain ⟨j,_,q⟩:=xE d hv;exact b2Y q
 have G:=Ij (nN Z) 3100 Z.ms fun x l=>b'T e he f hv (g x l)
 grind [mZ,gz,ku,pR,List.length_cons]
theorem b'O (h:Nw J):(eH (kw J)).length<=30000:=by
 obtain ⟨l,⟨c,d⟩,⟨o,f⟩,⟨p,b,r⟩,⟨u,g⟩,k1,k2⟩:=h;have v:J.es.length=5:=by rw[<- aZ,c]; rfl
 have w:=Ij tu 60 J.es fun e he=>aN1 (d e he) (by have:e.n∈J.es.map (·.n):=uu.2 ⟨_,he,rfl⟩;grind)
 have y:=Ij mZ 12800 J.ts fun t j=>by obtain ⟨i,z,A,B⟩:=xE (P:=fun i (t:Tm)=>t.n=lT 116 i/\Dw t) f j;grind [c8H]
 have C:=Ij (kJ wC) 40 J.cs fun x a=>a6M (by decide) (b x (VB _ a))
 have D:=Ij (kJ wR) 40 J.rs fun x a=>a6M (by decide) (b x (VC _ a))
 have E:=Ij sZ 40 J.xs fun x a=>by obtain ⟨i,_,q⟩:=xE g a;exact b3F q
 have F:=Ij ru 60 J.ks fun x a=>by obtain ⟨i,_,q⟩:=xE k2 a;exact aWQ q
 grind [Yf,kw,gz,ku,pR]
end Go.Proofs.YtmbehibpfkkjbaaGreatDoor.W
namespace Go.Proofs.YtmbehibpfkkjbaaGreatDoor
open Go.RowKit
set_option maxRecDepth 1000000
def Xz:List UInt8->Bool
 | []=>false
 | c::_=>iy c.toNat
def zB (b:UInt8) (l:List UInt8):Nat:=if iy b.toNat then (if Xz l then 1 else 2) else if xC b.toNat then 0 else 2
def om:List UInt8->Nat
 | []=>0
 | b::l=>zB b l+om l
def aFH:∀ a b:List UInt8,om b<=om (a ++ b)
 | [],b=>by simp
 | x::a,b=>by have:=aFH a b; rw[pF,om]; omega
theorem Lh:∀ a b:List UInt8,om (a ++ b)<=om a+om b
 | [],b=>by simp
 | [x],b=>by rw[List.singleton_append,om,om,om];unfold zB;grind [Xz]
 | x::y::a,b=>by have:=Lh (y::a) b;rw[pF,om,om];have e:zB x (y::a ++ b)=zB x (y::a):=rfl;rw[e];omega
theorem aZ':∀ a b:List UInt8,om a+om b<=om (a ++ b)+1
 | [],b=>by simp[om]
 | [x],b=>by rw[List.singleton_append,om,om,om];unfold zB;grind [Xz]
 | x::y::a,b=>by have:=aZ' (y::a) b;have e:zB x (y::a ++ b)=zB x (y::a):=rfl;rw[pF,om.eq_2 x (y::a),om.eq_2 x (y::a ++ b),e];omega
theorem aFG:∀ a:List UInt8,om a<=2*a.length
 | []=>by simp[om]
 | x::a=>by
  have:=aFG a;have h:zB x a<=2:=by grind [zB]
  rw[om,bT];omega
def aZZ:∀ l:List UInt8,dQ iy l ≠ []->om l=(dQ iy l).length+1+om (l.drop (dQ iy l).length)
 | [],h=>by simp[dQ] at h
 | b::l,h=>by
  have f:iy b.toNat=true:=by
   cases e:iy b.toNat with
   | true=>rfl
   | false=>simp[dQ,Ae,e] at h
  have e:dQ iy (b::l)=b::dQ iy l:=by simp[dQ,Ae,f]
  rw[e,om,bT,List.drop_succ_cons];by_cases a:dQ iy l = []
  .have:Xz l=false:=by
    cases l with
    | nil=>rfl
    | cons c l =>
     cases d:iy c.toNat with
     | false=>exact d
     | true=>simp[dQ,Ae,d] at a
   rw[a];simp[zB,f,this]
  .have g:Xz l=true:=by
    cases l with
    | nil=>simp[dQ] at a
    | cons c l =>
     cases d:iy c.toNat with
     | true=>exact d
     | false=>simp[dQ,Ae,d] at a
   have:=aZZ l a;have i:zB b l=1:=by simp[zB,f,g]
   omega
def a'0:∀ (x r:List UInt8),(∀ c,c∈x->iy c.toNat=false/\xC c.toNat=false)->om (x ++ r)=2*x.length+om r
 | [],r,_=>by simp
 | c::x,r,h=>by
  have a:=h c (by simp);have e:zB c (x ++ r)=2:=by simp[zB,a]
  rw[pF,om,a'0 x r fun d b=>h d (by simp[b]),bT];omega
def c86:∀ x∈lC,∀ c,c∈x->iy c.toNat=false/\xC c.toNat=false:=by decide
def a_O:∀ l:List UInt8,(dQ gq l).length<=(dQ iy l).length
 | []=>by simp[dQ]
 | b::l=>by
  have:=a_O l;cases e:gq b.toNat with
  | false=>simp[dQ,Ae,e]
  | true =>
   have a:iy b.toNat=true:=by simp[iy,e]
   simp only[dQ] at this;simp[dQ,Ae,e,a,this]
def aZQ:∀ {l:List UInt8} {n m:Nat},(∀ b,b∈l->gq b.toNat=true)->sK l n=some m->m<(n+1)*10 ^ l.length
 | [],n,m,_,h=>by
  rw[sK] at h;injection h with h
  simp; omega
 | b::l,n,m,a,h=>by
  rw[sK] at h;split at h
  .cases h
  .have d:=aZQ (fun c e=>a c (by simp[e])) h;have i:=aDD.1 (a b (by simp));have f:10*n+(b.toNat-48)+1<=(n+1)*10:=by omega
   have g:=NV (10 ^ l.length) f;rw[bT,Nat.pow_succ];calc m<_:=d
    _<=_:=g
    _=_:=by rw[Nat.mul_assoc,Nat.mul_comm 10]
def aMO:∀ {k n:Nat},1<=k->n<10 ^ k->(Lib.decDigits n).length<=k
 | 0,_,h,_=>by omega
 | k+1,n,_,h=>by
  rw[Lib.decDigits];split
  .simp
  .rename_i a;rw[Nat.pow_succ] at h;have hk:1<=k:=by
    cases k with
    | zero=>simp at h; omega
    | succ k=>omega
   have:=aMO hk (show n / 10<10 ^ k by omega);simp; omega
def b3D {l:List UInt8} (h:0<(dQ iy l).length):(dQ iy l).length+1+om (l.drop (dQ iy l).length)<=om l:=by rw[aZZ l fun e=>by rw[e] at h; simp at h];omega
def b_F {l:List UInt8} {n:Nat} (g:¬ (dQ gq l).length<(dQ iy l).length) (a:sK (dQ gq l) 0=some n) (h:0<(dQ gq l).length):(Lib.decDigits n).length+1+om (l.drop (dQ gq l).length)<=om l:=by
 have b:(dQ gq l).length=(dQ iy l).length:=by have:=a_O l; omega
 have d:=aZQ (fun c e=>a_M e) a;have f:=aMO h (by simpa using d);have i:=b3D (l:=l) (by omega);rw[b] at f ⊢;omega
def c82 {l x:List UInt8} (h:H9 l=some x):2*x.length+om (l.drop x.length)<=om l:=by
 obtain ⟨c,d⟩:=QH h;obtain ⟨t,a⟩:=List.isPrefixOf_iff_prefix.1 d;have e:l.drop x.length=t:=by rw[<- a]; simp
 have b:=a'0 x t (c86 x c);rw[a] at b;rw[e,b];exact dO _
end Go.Proofs.YtmbehibpfkkjbaaGreatDoor
namespace Go.Proofs.YtmbehibpfkkjbaaGreatDoor.W
open Go.RowKit
set_option maxRecDepth 1000000
def ln:List Tok->Nat
 | []=>0
 | t::T=>t.text.length+ln T
theorem Gg:ln []=0:=rfl
theorem xH (t:Tok) (T:List Tok):ln (t::T)=t.text.length+ln T:=rfl
theorem U3 (s:Nm) (T:List Tok):ln (tW s::T)=s.length+ln T:=rfl
theorem JX (s:Nm) (T:List Tok):ln (tS s::T)=s.length+ln T:=rfl
theorem EW:∀ A B:List Tok,ln (A ++ B)=ln A+ln B
 | [],B=>by simp[Gg]
 | a::A,B=>by rw[pF,xH,xH,EW A B]; omega
def Iw:∀ T:List Tok,ln T<=jw T
 | []=>by rw[Gg]; exact Dc _
 | t::T=>by have:=Iw T; rw[xH,nX]; omega
def aW7:∀ {T:List Tok},(∀ t,t∈T->t.text ≠ [])->jw T<=2*ln T
 | [],_=>by rw[kZ]; exact Dc _
 | t::T,h=>by
  have b:=aW7 fun u a=>h u (List.mem_cons_of_mem _ a)
  have c:=List.length_pos_iff.2 (h t (by simp));rw[xH,nX];omega
def Iu {c:Type} (f:c->List Tok) (b:Nat):∀ l:List c,(∀ a,a∈l->ln (f a)<=b)->ln (l.flatMap f)<=l.length*b
 | [],_=>by simp[Gg]
 | a::l,h=>by
  have e:=h a (by simp);have g:=Iu f b l fun x d=>h x (by simp[d])
  rw[NQ,EW,bT,rQ];omega
def aY2 (s:Tok) (b:Nat):∀ L:List (List Tok),(∀ a,a∈L->ln a+s.text.length<=b)->ln (iL s L)<=L.length*b
 | [],_=>by simp[iL,Gg]
 | [a],h=>by have:=h a (by simp); simp[iL]; omega
 | a::c::l,h=>by
  have e:=h a (by simp);have f:=aY2 s b (c::l) fun x d=>h x (by simp[d])
  rw[iL,EW,xH,bT,rQ];omega
theorem b_E {v:Int} (a : -9<=v) (b:v<=99):ln (gU v)<=2:=by grind [Lib.decDigits,gU,xH,Gg]
theorem Zn (x:EX) (a:Int) (B:List Tok):ln (wp x a B)<=ln B+2:=by grind [wp,xH,EW,Gg]
theorem cAZ (x:EX) (B:List Tok):ln (wp x 0 B)=ln B:=by have:=U4 x;grind [wp]
variable {C:List Nm} {Z:Tm} {J:Mo} {g:FuncId} {e d6:ai} {p c5 d2:Int} {h:aH} {D:Bool} {S:Sh.V eY} {f:Sh.V aC} {K:Sh.V dH} {d3:Sh.V jT} {r:Sh.V bF} {c0:Sh.V kC} {c6:Sh.V S8} {d4:Sh.V uM} {d5:Sh.V uN} {L:Sh.V dW} {c1:Sh.V jf} {E:Sh.V dn} {c2:Sh.V lq} {M:Sh.V iO} {c3:Sh.V jg} {X:Sh.V jc} {c7:Sh.V pz} {c4:Sh.V kP} {G:Sh.V S1}
theorem c2T (q:∀ s,s∈C->s.length<=2) {x:EX} {B:List Tok} (h:PB C x B):∀ {g k:Int},Ty g k x->ln B+2<=4*gB x:=by
 induction h with
 | tt=>intro g k _; show 4+2<=4*3; decide
 | ff=>intro g k _; show 5+2<=4*3; decide
 | @num v _ _ =>
  intro g k m;have hv : -8<=v/\v<=23:=by
   generalize y:nE v=x at m;cases m with
   | EI f j=>grind [nE]
   | var _ _=>grind [nE,vE]
   | neg _=>grind [nE]
   | sJ _=>grind [nE]
   | ar f j _ _=>grind [nE]
   | cmp f j _ _=>grind [nE]
   | log f j _ _=>grind [nE]
   | ite _ _ _=>grind [nE]
  have:=b_E (v:=v) (by omega) (by omega);show _<=4*1;omega
 | @var i s z =>intro g k _;have:=q s (tC z);rw[xH,Gg];show s.length+0+2<=4*1;omega
 | @UB v G f t r =>
  intro g k m;have D:Ty g 1 (nE v):=by
   generalize y:kS 5 (nE v)=x at m;cases m with
   | EI f j=>grind [nE]
   | var _ _=>grind [vE]
   | neg h=>simp_all
   | sJ _=>simp_all
   | ar f j _ _=>simp_all
   | cmp f j _ _=>simp_all
   | log f j _ _=>simp_all
   | ite _ _ _=>simp_all
  have:=r D;have e:gB (nE v)=1:=rfl;rw[e] at this;rw[xH,xH,EW,xH,Gg];show 1+(1+(_+(1+0)))+2<=4*2;omega
 | @neg o v i l B H t r =>grind [Ty,nE,vE,Zn,gB,qZ,xH]
 | @sJ a B t r =>grind [Ty,nE,vE,Zn,gB,qZ,xH]
 | @cmp o a b A B E _ _ n p u w =>grind [Ty,nE,vE,Zn,gB,qZ,a90,EW,xH]
 | @bin o I a b A B E n p u w =>grind [Ty,nE,vE,Zn,gB,qZ,a90,EW,xH]
 | @ite c a b d A B F n p J u w =>grind [Ty,nE,vE,Zn,gB,qZ,EW,xH,cAZ]
theorem aY1 {b:Prop} [Decidable b] {A:List Tok} {n:Nat} (h:ln A<=n):ln (if b then [] else A)<=n:=by grind [Gg]
def aNJ (c:C.length<=16) (a:∀ s,s∈C->s.length<=2) {k:Int} {x:EX} (h:Nj (C.length:Int) k x):ln (vK C x)<=250:=by have b:uy C.length x:=⟨ZU h.t (by omega),aIQ h.t,by have:=h.s; omega⟩;have:=c2T a (OX b).1 h.t;have:=h.s;omega
theorem b'V (j:∀ s,s∈Z.ls->s.length=2) (l:∀ s,s∈Z.es->s.length=2) (hv:Z.vs.length<=3) (m:∀ v,v∈Z.vs->v.n.length=2) {x:Mv} (h:Ny Z.ls.length Z.es.length Z.vs.length x):ln (nN Z x)<=1050:=by
 obtain ⟨o,p,q,g,r,w,y⟩:=h;have c:(Z.vs.map (·.n)).length=Z.vs.length:=aZ _;have d:∀ s,s∈Z.vs.map (·.n)->s.length=2:=fun s e=>by grind
 have f:∀ s,s∈Z.vs.map (·.n)->s.length<=2:=fun s e=>Hg (d s e)
 have z:=aNJ (by omega) f (by rw[c]; exact g);have B:=aY2 (tS [44]) 255 (x.us.map (lY (Z.vs.map (·.n)))) (fun a i=>by obtain ⟨u,C,rfl⟩:=uu.1 i;have:=aNJ (by omega) f (k:=1) (x:=u.2) (by grind);grind [lY,U3,JX]);have a1:=aY1 (b:=gX x.g tE=true) (A:=tW [119,104,101,110]::vK (Z.vs.map (·.n)) x.g) (n:=254) (by rw[U3]; grind);have a2:=aY1 (b:=x.us = []) (A:=tW [100,111]::iL (tS [44]) (x.us.map (lY (Z.vs.map (·.n))))) (n:=770) (by rw[U3]; grind);grind [nN,EW,U3,JX]
theorem c8J (m:Z.n.length=2) (h:Dw Z):ln (mZ Z)<=4500:=by
 obtain ⟨⟨o,p,r,b⟩,⟨u,w,c,y⟩,z,A,⟨B,C⟩,⟨f,d⟩,s1,g⟩:=h;have e:∀ s,s∈Z.ls->s.length=2:=fun s a=>by rw[b] at a; exact Cj (PK a)
 have he:∀ s,s∈Z.es->s.length=2:=fun s a=>by rw[c] at a; exact Cj (PK a)
 have hv:∀ v,v∈Z.vs->v.n.length=2:=fun v hv=>by obtain ⟨j,_,q⟩:=xE d hv;rw[q.n]; rfl
 have D:=jO (Iw _) (aF7 (fun s a=>Hg (he s a)) (by rw[c,Gq]; omega));have E:=jO (Iw _) (aEG Z.I Z.mr Z.ls 0 e);have i:Z.ls.length<=4:=by rw[b,Gq]; omega
 have F:=Iu qf 36 Z.vs fun v hv=>by obtain ⟨j,_,q⟩:=xE d hv;exact jO (Iw _) (b2Y q)
 have G:=Iu (nN Z) 1050 Z.ms fun x l=>b'V e he f hv (g x l)
 grind [mZ,EW,U3,JX,List.length_cons]
theorem aYR (h:Nw J):ln (kw J)<=9700:=by
 obtain ⟨l,⟨c,d⟩,⟨o,f⟩,⟨p,b,r⟩,⟨u,g⟩,k1,k2⟩:=h;have v:J.es.length=5:=by rw[<- aZ,c]; rfl
 have w:=Iu tu 60 J.es fun e he=>jO (Iw _) (aN1 (d e he) (by have:e.n∈J.es.map (·.n):=uu.2 ⟨_,he,rfl⟩;grind))
 have y:=Iu mZ 4500 J.ts fun t j=>by obtain ⟨i,z,A,B⟩:=xE (P:=fun i (t:Tm)=>t.n=lT 116 i/\Dw t) f j;grind [c8J]
 have C:=Iu (kJ wC) 40 J.cs fun x a=>jO (Iw _) (a6M (by decide) (b x (VB _ a)))
 have D:=Iu (kJ wR) 40 J.rs fun x a=>jO (Iw _) (a6M (by decide) (b x (VC _ a)))
 have E:=Iu sZ 40 J.xs fun x a=>by obtain ⟨i,_,q⟩:=xE g a;exact jO (Iw _) (b3F q)
 have F:=Iu ru 60 J.ks fun x a=>by obtain ⟨i,_,q⟩:=xE k2 a;exact jO (Iw _) (aWQ q)
 grind [kw,EW,U3,JX]
def aZY:∀ {l:List UInt8},(∀ b,b∈l->xC b.toNat=true)->om l=0
 | [],_=>rfl
 | b::l,h=>by
  have a:=h b (by simp);have d:iy b.toNat=false:=by simp[xC] at a;simp[iy,iU,gq];omega
  rw[om,aZY fun c e=>h c (by simp[e]),zB,aX (by simp[d]),ay a]
theorem b_P:∀ d:Nat,om (Lib.repeatL [32,32] d)=0
 | 0=>rfl
 | d+1=>aZY fun b a=>by
  have c:∀ d:Nat,∀ b,b∈Lib.repeatL [32,32] d->b=32:=fun d=>by
   induction d with
   | zero=>intro b a; cases a
   | succ d e =>intro b a;rw[Lib.repeatL] at a;simp at a;grind
  rw[c _ b a]; rfl
theorem b_Q (a:pG):∀ T:List Tok,om (fQ a T).out<=om a.out+2*ln T:=by
 intro T;induction T generalizing a with
 | nil=>simp[fQ,Gg]
 | cons t T b =>
  have h:=b (kK a t.text);have e:fQ a (t::T)=fQ (kK a t.text) T:=rfl;have f:om (kK a t.text).out<=om a.out+2*t.text.length:=by
   have g:=aFG t.text;have w_:∀ o:Nm,om (o ++ [10])<=om o:=fun o=>by have:=Lh o [10]; have:om [10]=0:=rfl; omega
   have a32:∀ o:Nm,om (o ++ [32])<=om o:=fun o=>by have:=Lh o [32]; have:om [32]=0:=rfl; omega
   have c:∀ (o:Nm) (d:Nat),om (o ++ Lib.repeatL [32,32] d)<=om o:=fun o d=>by have:=Lh o (Lib.repeatL [32,32] d);have:=b_P d;omega
   have i:om (qV a t.text).out<=om a.out:=by
    unfold qV;split
    .dsimp only;split
     .exact dO _
     .exact w_ _
    .exact dO _
   have j:om (sQ (qV a t.text) t.text)<=om (qV a t.text).out+2*t.text.length:=by
    unfold sQ;refine jO (Lh _ _) ?_;split
    .have:=c (qV a t.text).out (qV a t.text).d;omega
    .split
     .omega
     .have:=a32 (qV a t.text).out;omega
   unfold kK kU;grind
  rw[e,xH];omega
def b_R (h:Nw J):om (MZ J)<=19400:=by
 have a:=b_Q qW (kw J);have b:=aYR h;have c:om qW.out=0:=rfl;unfold MZ JA;split
 .omega
 .have:=Lh (fQ qW (kw J)).out [10];have:om [10]=0:=rfl;omega
theorem txl (h:Nw J):(MZ J).length<=38900:=by
 have a:=a6B (okm h) (aM6 h);have c:(eH (kw J)).length<=19400:=by
  have d:=aW7 (T:=kw J) fun t b e=>by exact (Qw (aDY (Um a) t b)).1 e
  have:=aYR h;have:=Yf (kw J);omega
 grind [aHY,Um,oJ,L6,YW,MZ,JA]
def Qj {c:Sh.V S0} {K:RS.F (.t [(true,S0),(false,[.I .i64]),(false,[.I .i64]),(false,[.I .i64])]) R} (b:SS.CC g e []=some (.tuple [A0 c,aP p,aP c5,aP d2],[])):G9 g e K=K (c,(p,()),(c5,()),(d2,()),()):=vH b rfl
def aJY {c:b_} {K:RS.F (.t [(false,[.S]),(false,[.I .i64]),(false,[.I .i64]),(false,[.I .i64])]) R} (b:SS.CC g e []=some (.tuple [.str c,aP p,aP c5,aP d2],[])):G10 g e K=K ((c,()),(p,()),(c5,()),(d2,()),()):=vH b rfl
def Jm {K:RS.F (.tb) (cZ [.c eY,.c aC])} (b:SS.CC g e h=some (.bool D,[bH S,aA f])):VU g e h K=K D S f:=dJ b rfl
def Nq {b:RS.F (.t []) (cZ [.c dH,.c jT,.c aC])} (d:SS.CC g e h=bi [ah K,bU d3,aA f]):Jn g e h b=b () K d3 f:=dJ d rfl
def aKD {K:RS.F (.tb) (cZ [.z S32])} (b:SS.CC g e h=some (.bool D,[some [eu 51]])):H27 g e h K=K D:=dJ b rfl
def Dj {K:RS.F (.tb) (cZ [.c bF,.c aC])} (b:SS.CC g e h=some (.bool D,[aO r,aA f])):Di g e h K=K D r f:=dJ b rfl
def VY {K:RS.F (.t []) (cZ [.c bF,.c aC])} (b:SS.CC g e h=bi [aO r,aA f]):Qq g e h K=K () r f:=dJ b rfl
def Qr {d:Sh.V Bg} {K:RS.F (.t []) (cZ [.z gW,.z iY,.c Bg,.c jT,.c aC])} (b:SS.CC g e h=bi [some [.ptr 2 0],some [.ptr 3 0],mQ d,bU d3,aA f]):Nr g e h K=K () d d3 f:=dJ b rfl
def Dk {K:RS.F (.tb) (cZ [.z jV,.c kC,.c aC])} (b:SS.CC g e h=some (.bool D,[some [.ptr 1 0],dh c0,aA f])):Ns g e h K=K D c0 f:=dJ b rfl
def b4I {K:RS.F (.g S8) (cZ [.c uM,.c aC])} (b:SS.CC g e h=some (A8 c6,[wZ d4,aA f])):mO g e h K=K c6 d4 f:=dJ b rfl
def Zq {K:RS.F (.g S8) (cZ [.c bF,.c aC])} (b:SS.CC g e h=some (A8 c6,[aO r,aA f])):Hr g e h K=K c6 r f:=dJ b rfl
def b4J {K:RS.F (.g S8) (cZ [.c uN,.c aC])} (b:SS.CC g e h=some (A8 c6,[wo d5,aA f])):H60 g e h K=K c6 d5 f:=dJ b rfl
def Jo {s1:b_} {K:RS.F (.ts) (cZ [.c bF,.c aC])} (b:SS.CC g e h=some (.str s1,[aO r,aA f])):FK g e h K=K s1 r f:=dJ b rfl
def b4L {K:RS.F (.t []) (cZ [.c aC,.c dW,.z iY,.c jf])} (b:SS.CC g e h=bi [aA f,dP L,some [.ptr 3 0],kW c1]):H70 g e h K=K () f L c1:=dJ b rfl
def FM {K:RS.F (.ti .i64) (cZ [.c bF,.c aC])} (b:SS.CC g e h=some (aP p,[aO r,aA f])):Dl g e h K=K p r f:=dJ b rfl
def b4N {s1:b_} {K:RS.F (.ts) (cZ [.c uM,.c aC])} (b:SS.CC g e h=some (.str s1,[wZ d4,aA f])):H73 g e h K=K s1 d4 f:=dJ b rfl
def b4O {d:Sh.V Du} {K:RS.F (.t []) (cZ [.c aC,.c dn,.z iY,.c Du])} (b:SS.CC g e h=bi [aA f,dA E,some [.ptr 3 0],FW d]):H74 g e h K=K () f E d:=dJ b rfl
def b4P {K:RS.F (.t []) (cZ [.c aC,.c dn,.z iY,.c jf])} (b:SS.CC g e h=bi [aA f,dA E,some [.ptr 3 0],kW c1]):H75 g e h K=K () f E c1:=dJ b rfl
def b4Q {s1:b_} {K:RS.F (.ts) (cZ [.c uN,.c aC])} (b:SS.CC g e h=some (.str s1,[wo d5,aA f])):H76 g e h K=K s1 d5 f:=dJ b rfl
def b4R {d:Sh.V Dv} {K:RS.F (.t []) (cZ [.c aC,.c dn,.z iY,.c Dv])} (b:SS.CC g e h=bi [aA f,dA E,some [.ptr 3 0],FX d]):H77 g e h K=K () f E d:=dJ b rfl
def b4S {K:RS.F (.t []) (cZ [.c aC,.z iY,.c lq,.c jf])} (b:SS.CC g e h=bi [aA f,some [.ptr 3 0],lg c2,kW c1]):H78 g e h K=K () f c2 c1:=dJ b rfl
def Ht {s1:b_} {K:RS.F (.ts) (cZ [.c eY,.c aC])} (b:SS.CC g e h=some (.str s1,[bH S,aA f])):FN g e h K=K s1 S f:=dJ b rfl
def b4U {K:RS.F (.t []) (cZ [.c iO,.c dW,.z jU,.c aC])} (b:SS.CC g e h=bi [gu M,dP L,some [ag],aA f]):H83 g e h K=K () M L f:=dJ b rfl
def aKN {K:RS.F (.t []) (cZ [.c iO,.c dn,.z jU,.c aC])} (b:SS.CC g e h=bi [gu M,dA E,some [ag],aA f]):H84 g e h K=K () M E f:=dJ b rfl
def FO {K:RS.F (.ti .i64) (cZ [.c eY,.c aC])} (b:SS.CC g e h=some (aP p,[bH S,aA f])):Dn g e h K=K p S f:=dJ b rfl
def b4V {K:RS.F (.t []) (cZ [.c aC,.z iY,.c lq,.c jg])} (b:SS.CC g e h=bi [aA f,some [.ptr 3 0],lg c2,lh c3]):H86 g e h K=K () f c2 c3:=dJ b rfl
def aKS {K:RS.F (.t []) (cZ [.z gW,.c lq,.c jc,.c aC])} (b:SS.CC g e h=bi [some [.ptr 2 0],lg c2,iq X,aA f]):H96 g e h K=K () c2 X f:=dJ b rfl
def aK3 {K:RS.F (.t []) (cZ [.z gW,.c lq,.c iO,.c aC])} (b:SS.CC g e h=bi [some [.ptr 2 0],lg c2,gu M,aA f]):aA3 g e h K=K () c2 M f:=dJ b rfl
def b4M {d:Sh.V S9} {K:RS.F (.g S9) (cZ [.c bF,.c aC])} (b:SS.CC g e h=some (A9 d,[aO r,aA f])):H71 g e h K=K d r f:=dJ b rfl
def b4T {K:RS.F (.t []) (cZ [.c iO,.c dW,.c pz,.c aC])} (b:SS.CC g e h=bi [gu M,dP L,jR c7,aA f]):H80 g e h K=K () M L c7 f:=dJ b rfl
def aKM {b:RS.F (.t []) (cZ [.c dH,.c dW,.c aC])} (d:SS.CC g e h=bi [ah K,dP L,aA f]):VZ g e h b=b () K L f:=dJ d rfl
def b4W {K:RS.F (.tl false 1) (cZ [.c eY,.c aC])} (b:SS.CC g e h=some (a_ d6,[bH S,aA f])):H87 g e h K=K d6 S f:=dJ b rfl
def aKO {K:RS.F (.t []) (cZ [.c dW,.z gW,.c jc,.c aC])} (b:SS.CC g e h=bi [dP L,some [.ptr 2 0],iq X,aA f]):H90 g e h K=K () L X f:=dJ b rfl
def b4X {K:RS.F (.t []) (cZ [.c aC,.z iY,.c kP,.c jf])} (b:SS.CC g e h=bi [aA f,some [.ptr 3 0],kN c4,kW c1]):H91 g e h K=K () f c4 c1:=dJ b rfl
def zY {K:RS.F (.g S1) (cZ [.c bF,.c aC])} (b:SS.CC g e h=some (A1 G,[aO r,aA f])):qK g e h K=K G r f:=dJ b rfl
def aKP {d:Sh.V Jv} {K:RS.F (.t []) (cZ [.c dn,.z gW,.c Jv,.c aC])} (b:SS.CC g e h=bi [dA E,some [.ptr 2 0],Jq d,aA f]):H93 g e h K=K () E d f:=dJ b rfl
def aKQ {K:RS.F (.t []) (cZ [.c dn,.z gW,.c jc,.c aC])} (b:SS.CC g e h=bi [dA E,some [.ptr 2 0],iq X,aA f]):H94 g e h K=K () E X f:=dJ b rfl
def aKR {d:Sh.V I4} {K:RS.F (.t []) (cZ [.c dn,.z gW,.c I4,.c aC])} (b:SS.CC g e h=bi [dA E,some [.ptr 2 0],Dq d,aA f]):H95 g e h K=K () E d f:=dJ b rfl
def b4Y {K:RS.F (.t []) (cZ [.c aC,.c dW,.z iY,.c jg])} (b:SS.CC g e h=bi [aA f,dP L,some [.ptr 3 0],lh c3]):H97 g e h K=K () f L c3:=dJ b rfl
def b4Z {K:RS.F (.t []) (cZ [.c aC,.z iY,.c kP,.c jg])} (b:SS.CC g e h=bi [aA f,some [.ptr 3 0],kN c4,lh c3]):H98 g e h K=K () f c4 c3:=dJ b rfl
def zf {K:RS.F (.g S1) (cZ [.c eY,.c aC])} (b:SS.CC g e h=some (A1 G,[bH S,aA f])):zZ g e h K=K G S f:=dJ b rfl
def b41 {K:RS.F (.t []) (cZ [.c aC,.c dn,.z iY,.c jg])} (b:SS.CC g e h=bi [aA f,dA E,some [.ptr 3 0],lh c3]):aK2 g e h K=K () f E c3:=dJ b rfl
def b43 {b:RS.F (.tl false 1) (cZ [.z jV,.c dH,.c aC])} (d:SS.CC g e h=some (a_ d6,[some [.ptr 1 0],ah K,aA f])):aK4 g e h b=b d6 K f:=dJ d rfl
def VS {K:RS.F (.g S1) (cZ [.c kC,.z jU,.c aC])} (b:SS.CC g e h=some (A1 G,[dh c0,some [ag],aA f])):a0D g e h K=K G c0 f:=dJ b rfl
def aK5 {K:RS.F (.t []) (cZ [.z gW,.c kP,.c jc,.c aC])} (b:SS.CC g e h=bi [some [.ptr 2 0],kN c4,iq X,aA f]):aA4 g e h K=K () c4 X f:=dJ b rfl
def aK6 {K:RS.F (.t []) (cZ [.c dW,.z gW,.c iO,.c aC])} (b:SS.CC g e h=bi [dP L,some [.ptr 2 0],gu M,aA f]):aA5 g e h K=K () L M f:=dJ b rfl
def aK7 {K:RS.F (.t []) (cZ [.z gW,.c kP,.c iO,.c aC])} (b:SS.CC g e h=bi [some [.ptr 2 0],kN c4,gu M,aA f]):aA6 g e h K=K () c4 M f:=dJ b rfl
def aK8 {K:RS.F (.t []) (cZ [.c dn,.z gW,.c iO,.c aC])} (b:SS.CC g e h=bi [dA E,some [.ptr 2 0],gu M,aA f]):aA7 g e h K=K () E M f:=dJ b rfl
def aA8 {b:RS.F (.tb) (cZ [.z jV,.c dH,.c aC])} (d:SS.CC g e h=some (.bool D,[some [.ptr 1 0],ah K,aA f])):VT g e h b=b D K f:=dJ d rfl
def aK9 {K:RS.F (.ti .i64) (cZ [.z jV,.c kC,.c aC])} (b:SS.CC g e h=some (aP p,[some [.ptr 1 0],dh c0,aA f])):Nk g e h K=K p c0 f:=dJ b rfl
def aA9 {K:RS.F (.g S1) (cZ [.z jV,.c kC,.c aC])} (b:SS.CC g e h=some (A1 G,[some [.ptr 1 0],dh c0,aA f])):Hq g e h K=K G c0 f:=dJ b rfl
def aAA {d:Bool} {K:RS.F (.t [(false,[.I .i64]),(false,[.B]),(false,[.B])]) (cZ [.c eY,.c aC])} (b:SS.CC g e h=some (.tuple [aP p,.bool D,.bool d],[bH S,aA f])):aKA g e h K=K ((p,()),(D,()),(d,()),()) S f:=dJ b rfl
def Nl {b:RS.F (.g S1) (cZ [.c dH,.z jU,.c aC])} (d:SS.CC g e h=some (A1 G,[ah K,some [ag],aA f])):Ql g e h b=b G K f:=dJ d rfl
def b45 {b:RS.F (.g S1) (cZ [.z jV,.c dH,.c aC])} (d:SS.CC g e h=some (A1 G,[some [.ptr 1 0],ah K,aA f])):Qm g e h b=b G K f:=dJ d rfl
def b49 {b:RS.F (.t []) (cZ [.z jV,.c dH,.c aC])} (d:SS.CC g e h=bi [some [.ptr 1 0],ah K,aA f]):Qn g e h b=b () K f:=dJ d rfl
def aAB {K:RS.F (.g S1) (cZ [.c jc,.z jU,.c pz,.c aC])} (b:SS.CC g e h=some (A1 G,[iq X,some [ag],jR c7,aA f])):aKB g e h K=K G X c7 f:=dJ b rfl
def b4A {K:RS.F (.g S1) (cZ [.z gW,.c pz,.c jc,.c aC])} (b:SS.CC g e h=some (A1 G,[some [.ptr 2 0],jR c7,iq X,aA f])):aAC g e h K=K G c7 X f:=dJ b rfl
section
def aOF (i:Sh.V eY) (j:Sh.V aC):SS.CC 37 [ag] [bH i,aA j]=zZ 149 [ag,aP 1] [bH i,aA j] fun l m n=>bW 87 [ag,cEX [63]] [aA n] fun b a=>aB (!b) (some (A1 l,[bH m,aA a])) (zZ 37 [ag] [bH m,aA a] fun c d e=>bP 27 [ag,cEX [58]] [aA e] fun _ u32=>zZ 37 [ag] [bH d,aA u32] fun f g h=>some (A1 (13,0,0,[A1 l,A1 c,A1 f],()),[bH g,aA h])):=cc
def bHK:KT:=SS.rK Tryz.f149 149 2 []
def aQ5:KT:=aS 0 bHK
def bHL:KT:=SS.lK 149 48 2 [0,1,4,5] 4 (cS Tryz.f149 39) aQ5
def bHM:KT:=aS 1 bHL
def IQ (a:Int) (b:Sh.V eY) (c:Sh.V aC) (d:Sh.V S1):R:=SS.LL (SS.ae 149 48) 2 [0,1,4,5] 4 (cS Tryz.f149 39) aQ5 ⟨[(0,ag),(1,aP a),(4,.ptr 2 0),(5,.ptr 3 0)],[bH b,aA c,FV (0,0,0,[],()),O1 d]⟩
def aBX (a b:Int) (c:Sh.V eY) (d:Sh.V aC) (e:Sh.V S1) (f:ai):R:=bD (SS.xX 149 48 2) (cS Tryz.f149 4039) bHM ⟨[(0,ag),(1,aP a),(4,.ptr 2 0),(5,.ptr 3 0),(6,aP b),(9,.sl false 4 f)],[bH c,aA d,FV (0,0,0,[],()),O1 e]⟩
def aBY (d:Int) (h:Sh.V eY) (i:Sh.V aC) (b:Sh.V S1):IQ d h i b=aKA 232 [ag,aP d] [bH h,aA i] fun g j l=>aB (!g.2.2.1.1) (some (A1 b,[bH j,aA l])) (fU 88 [ag] [aA l] fun m n=>zZ 149 [ag,aP (i64.wrap (d+1))] [bH j,aA n] fun a e f=>aB g.2.1.1 (bJ (([aP b.1,aP b.2.1,aP b.2.2.1,.sl false 4 b.2.2.2.1,aP a.1,aP a.2.1,aP a.2.2.1,.sl false 4 a.2.2.2.1]:ai).all oP&&true) (H53 233 [.slh 0 0 2 4] [some [aP b.1,aP b.2.1,aP b.2.2.1,.sl false 4 b.2.2.2.1,aP a.1,aP a.2.1,aP a.2.2.1,.sl false 4 a.2.2.2.1]] fun _ c=>bJ (c.all oP&&true) (bJ (decide (2*4<=c.length)&&decide (0<4)&&c.all fun p=>p.one&&p.flat) (aBX d g.1.1 e f b (qM 4 c 2))))) (bJ (decide (2*4<=([aP b.1,aP b.2.1,aP b.2.2.1,.sl false 4 b.2.2.2.1,aP a.1,aP a.2.1,aP a.2.2.1,.sl false 4 a.2.2.2.1]:ai).length)&&decide (0<4)&&([aP b.1,aP b.2.1,aP b.2.2.1,.sl false 4 b.2.2.2.1,aP a.1,aP a.2.1,aP a.2.2.1,.sl false 4 a.2.2.2.1]:ai).all fun p=>p.one&&p.flat) (aBX d g.1.1 e f b (qM 4 ([aP b.1,aP b.2.1,aP b.2.2.1,.sl false 4 b.2.2.2.1,aP a.1,aP a.2.1,aP a.2.2.1,.sl false 4 a.2.2.2.1]:ai) 2)))):=ll
theorem aQ4 (a b:Int) (c:Sh.V eY) (d:Sh.V aC) (f:Sh.V S1) (e:ai):aBX a b c d f e=aB (a==3) (some (A1 (b,0,0,e,()),[bH c,aA d])) (IQ a c d (b,0,0,e,())):=by kernel_rfl
def aBZ (a1:Int) (a:Sh.V eY) (b:Sh.V aC):SS.CC 149 [ag,aP a1] [bH a,aA b]=aB (a1==6) (zZ 231 [ag] [bH a,aA b] fun d e f=>some (A1 d,[bH e,aA f])) (zZ 149 [ag,aP (i64.wrap (a1+1))] [bH a,aA b] fun c g h=>IQ a1 g h c):=cc
def bKF:KT:=SS.rK Tryz.f231 231 2 []
def Pz (a:Sh.V eY) (b:Sh.V aC):R:=bD (SS.xX 231 74 2) (cS Tryz.f231 7) bKF ⟨[(1,.ptr 2 0),(2,.ptr 3 0)],[bH a,aA b,some [ag],FV (0,0,0,[],())]⟩
def bKE (a:Sh.V eY) (b:Sh.V aC):Pz a b=Dn 271 [ag,a_ a.2.1] [bH a,aA b] fun c d e=>some (A1 (1,0,c,[],()),[bH d,aA e]):=by kernel_rfl
def IR (a:Sh.V eY) (I:Sh.V aC):SS.CC 231 [ag] [bH a,aA I]=bW 161 [ag,cEX [33]] [aA I] fun O J=>aB O (fU 30 [ag] [aA J] fun u8 d=>aB (u8.1==3) (Ql 279 [ag,dm 280 [.ptr 1 0]] [ah a,some [ag],aA d] fun Q j l=>some (A1 Q,[bH j,aA l])) (bW 161 [ag,cEX [45]] [aA d] fun m u32=>aB m (Ql 279 [ag,dm 281 [.ptr 1 0]] [ah a,some [ag],aA u32] fun n o p=>some (A1 n,[bH o,aA p])) (bW 161 [ag,cEX [40]] [aA u32] fun q e=>aB q (Ql 279 [ag,dm 282 [.ptr 1 0]] [ah a,some [ag],aA e] fun S r t=>some (A1 S,[bH r,aA t])) (fU 30 [ag] [aA e] fun u K=>aB (u.1==2) (FI 192 [ag,aP 0,aP 65536] [aA K] fun v T=>some (A1 (0,v,0,[],()),[bH a,aA T])) (bW 87 [ag,cEX [116,114,117,101]] [aA K] fun w f=>aB w (oM 85 [] fun U=>some (A1 U,[bH a,aA f])) (bW 87 [ag,cEX [102,97,108,115,101]] [aA f] fun x L=>aB x (oM 155 [] fun X=>some (A1 X,[bH a,aA L])) (Pz a L))))))) (bW 161 [ag,cEX [45]] [aA J] fun y g=>aB y (Ql 279 [ag,dm 281 [.ptr 1 0]] [ah a,some [ag],aA g] fun z A h=>some (A1 z,[bH A,aA h])) (bW 161 [ag,cEX [40]] [aA g] fun B b=>aB B (Ql 279 [ag,dm 282 [.ptr 1 0]] [ah a,some [ag],aA b] fun Y Z C=>some (A1 Y,[bH Z,aA C])) (fU 30 [ag] [aA b] fun D c=>aB (D.1==2) (FI 192 [ag,aP 0,aP 65536] [aA c] fun i E=>some (A1 (0,i,0,[],()),[bH a,aA E])) (bW 87 [ag,cEX [116,114,117,101]] [aA c] fun F M=>aB F (oM 85 [] fun Zc=>some (A1 Zc,[bH a,aA M])) (bW 87 [ag,cEX [102,97,108,115,101]] [aA M] fun G N=>aB G (oM 155 [] fun H=>some (A1 H,[bH a,aA N])) (Pz a N)))))):=cc
def bKG (a1:Int) (b:Sh.V eY) (e:Sh.V aC):SS.CC 232 [ag,aP a1] [bH b,aA e]=fU 30 [ag] [aA e] fun f c=>aB (f.1 != 3) (some (.tuple [aP 0,.bool false,.bool false],[bH b,aA c])) (LW none [cEX [33,61],rV (3,7,false,()),cEX [38,38],rV (2,11,false,()),cEX [42],rV (5,4,false,()),cEX [43],rV (4,2,false,()),cEX [45],rV (4,3,false,()),cEX [60],rV (3,8,false,()),cEX [60,61],rV (3,9,false,()),cEX [61,61],rV (3,6,false,()),cEX [62],rV (3,8,true,()),cEX [62,61],rV (3,9,true,()),cEX [124,124],rV (1,12,false,())] (.str f.2.1) (fun d=>CE S60 d fun a=>some (.tuple [aP a.2.1,.bool a.2.2.1,.bool (a.1==a1)],[bH b,aA c])) (some (.tuple [aP 0,.bool false,.bool false],[bH b,aA c]))):=cc
def aRY (a:Sh.V dH) (b:Sh.V aC):SS.CC 279 [ag,dm 280 [.ptr 1 0]] [ah a,some [ag],aA b]=aB (a.1==32) (bP 32 [ag,aP 3] [aA b] fun _ g=>some (A1 (0,0,0,[],()),[ah a,some [ag],aA g])) (fU 88 [ag] [aA b] fun i c=>Qm 280 [ag] [some [.ptr 1 0],ah (i64.wrap (a.1+1),a.2.1,()),aA c] fun h d e=>Qn 295 [ag] [some [.ptr 1 0],ah d,aA e] fun _ f u32=>some (A1 h,[ah f,some [ag],aA u32])):=cc
def aCF (a:Sh.V dH) (b:Sh.V aC):SS.CC 279 [ag,dm 281 [.ptr 1 0]] [ah a,some [ag],aA b]=aB (a.1==32) (bP 32 [ag,aP 3] [aA b] fun _ g=>some (A1 (0,0,0,[],()),[ah a,some [ag],aA g])) (fU 88 [ag] [aA b] fun i c=>Qm 281 [ag] [some [.ptr 1 0],ah (i64.wrap (a.1+1),a.2.1,()),aA c] fun h d e=>Qn 295 [ag] [some [.ptr 1 0],ah d,aA e] fun _ f u32=>some (A1 h,[ah f,some [ag],aA u32])):=cc
def aRZ (a:Sh.V dH) (b:Sh.V aC):SS.CC 279 [ag,dm 282 [.ptr 1 0]] [ah a,some [ag],aA b]=aB (a.1==32) (bP 32 [ag,aP 3] [aA b] fun _ g=>some (A1 (0,0,0,[],()),[ah a,some [ag],aA g])) (fU 88 [ag] [aA b] fun i c=>Qm 282 [ag] [some [.ptr 1 0],ah (i64.wrap (a.1+1),a.2.1,()),aA c] fun h d e=>Qn 295 [ag] [some [.ptr 1 0],ah d,aA e] fun _ f u32=>some (A1 h,[ah f,some [ag],aA u32])):=cc
def bOA (a:Sh.V dH) (b:Sh.V aC):SS.CC 280 [ag] [some [.ptr 1 0],ah a,aA b]=zZ 231 [ag] [bH a,aA b] fun c d e=>some (A1 (10,0,0,[A1 c],()),[some [.ptr 1 0],ah d,aA e]):=cc
def aR' (a:Sh.V dH) (f:Sh.V aC):SS.CC 281 [ag] [some [.ptr 1 0],ah a,aA f]=fU 30 [ag] [aA f] fun h g=>aB (h.1==2) (FI 192 [ag,aP 0,aP 65536] [aA g] fun b c=>some (A1 (0,i64.wrap (0-b),0,[],()),[some [.ptr 1 0],ah a,aA c])) (zZ 231 [ag] [bH a,aA g] fun i d e=>some (A1 (5,0,0,[A1 i],()),[some [.ptr 1 0],ah d,aA e])):=cc
def bOB (b:Sh.V dH) (c:Sh.V aC):SS.CC 282 [ag] [some [.ptr 1 0],ah b,aA c]=zZ 37 [ag] [bH b,aA c] fun d e f=>bP 27 [ag,cEX [41]] [aA f] fun _ a=>some (A1 d,[some [.ptr 1 0],ah e,aA a]):=cc
def bOC:KT:=SS.rK Tryz.f271 271 2 []
def Y_ (a:Int) (b:Sh.V eY) (c:Sh.V aC):R:=bD (SS.xX 271 37 2) (cS Tryz.f271 15) bOC ⟨[(0,ag),(5,aP a)],[bH b,aA c]⟩
def aCG (a:Int) (b:Sh.V eY) (c:Sh.V aC):Y_ a b c=lD 28 [ag] [aA c] fun s1 d=>some (aP (if (0:Int)>a then (0:Int) else a),[bH b,aA d]):=by kernel_rfl
def bOD (a1:ai) (b:Sh.V eY) (f:Sh.V aC):SS.CC 271 [ag,a_ a1] [bH b,aA f]=fU 30 [ag] [aA f] fun g h=>G1 273 [a_ a1,.str g.2.1] fun a=>fU 30 [ag] [aA h] fun c d=>aB (c.1==1) (aB (decide (a<0)) (bP 32 [ag,aP 9] [aA d] fun _ e=>Y_ a b e) (Y_ a b d)) (Y_ a b d):=cc
def bPI (a:Sh.V dH) (b:Sh.V aC):SS.CC 295 [ag] [some [.ptr 1 0],ah a,aA b]=bi [some [.ptr 1 0],ah (i64.wrap (a.1-1),a.2.1,()),aA b]:=cc
def bIZ:KT:=SS.rK Tryz.f90 90 3 []
def a3P (a:Sh.V dH) (b:Sh.V jT) (c:Sh.V aC) (d:Sh.V S4):R:=bD (SS.xX 90 55 3) (cS Tryz.f90 31) bIZ ⟨[(0,ag),(1,.ptr 1 0),(4,.ptr 3 0)],[ah a,bU b,aA c,O4 d]⟩
def bIY (b:Sh.V dH) (a:Sh.V jT) (c:Sh.V aC) (d:Sh.V S4):a3P b a c d=bP 27 [ag,cEX [59]] [aA c] fun _ e=>bJ (decide (a.2.1.length+1<=aN)) (bi [ah b,bU (a.1,(a.2.1 ++ ([A4 d]:ai)),a.2.2.1,a.2.2.2.1,a.2.2.2.2.1,a.2.2.2.2.2.1,a.2.2.2.2.2.2.1,()),aA e]):=by kernel_rfl
def bI' (o:Sh.V dH) (f:Sh.V jT) (p:Sh.V aC):SS.CC 90 [ag,.ptr 1 0] [ah o,bU f,aA p]=G4 189 [.sl false 5 f.2.1,eu 190] fun t=>FN 188 [ag,a_ t] [bH o,aA p] fun q u v=>H87 191 [ag,a_ [cEX [99,111,110,116,114,111,108,108,97,98,108,101],cEX [111,98,115,101,114,118,97,98,108,101],cEX [102,111,114,99,105,98,108,101]]] [bH u,aA v] fun a b g=>dD a 0 fun h=>vB h fun c=>dD a 1 fun i=>vB i fun r=>dD a 2 fun j=>vB j fun d=>bW 87 [ag,cEX [102,97,117,108,116]] [aA g] fun l e=>aB l (FI 192 [ag,aP 1,aP 4] [aA e] fun m n=>a3P b f n (q,c,r,d,m,())) (a3P b f e (q,c,r,d,0,())):=cc
def aQY:KT:=SS.rK Tryz.f160 160 2 []
def bKX:KT:=SS.jK 160 72 2 (cS Tryz.f160 7) aQY
def bKY:KT:=aS 0 bKX
def SV (a:Sh.V bF) (c:Sh.V aC) (d:ai) (b:Int):R:=SS.LL (SS.ae 160 72) 2 [0,2,10,11,12] 2 (cS Tryz.f160 37) bKY ⟨[(0,ag),(2,.sl true 1 d),(10,.sl false 5 a.2.1),(11,aP (a.2.1.length:Int)),(12,aP b)],[aO a,aA c]⟩
def Ky (a:Sh.V bF) (b:Sh.V aC) (c:Sh.V S4):R:=bD (SS.xX 160 72 2) (cS Tryz.f160 255) aQY ⟨[(0,ag),(5,.ptr 2 0)],[aO a,aA b,O4 c]⟩
def aQZ (b:Sh.V bF) (g:Sh.V aC) (f:ai) (a:Int):SV b g f a=aB (decide (a<(b.2.1.length:Int))) (ak S4 b.2.1 a fun p=>bJ (decide (f.length+1<=aN)) (SV b g (f ++ ([.str p.1]:ai)) (i64.wrap (a+1)))) (FK 243 [ag,a_ f] [aO b,aA g] fun n u8 q=>bW 87 [ag,cEX [99,111,110,116,114,111,108,108,97,98,108,101]] [aA q] fun o h=>bW 87 [ag,cEX [111,98,115,101,114,118,97,98,108,101]] [aA h] fun c i=>bW 87 [ag,cEX [102,111,114,99,105,98,108,101]] [aA i] fun d j=>bW 87 [ag,cEX [102,97,117,108,116]] [aA j] fun l e=>aB l (FI 192 [ag,aP 1,aP 4] [aA e] fun m r=>Ky u8 r (n,o,c,d,m,())) (Ky u8 e (n,o,c,d,0,()))):=ll
def bKW (a:Sh.V bF) (b:Sh.V aC) (c:Sh.V S4):Ky a b c=bP 27 [ag,cEX [59]] [aA b] fun _ d=>bJ (decide (a.2.1.length+1<=aN)) (bi [aO (a.1,(a.2.1 ++ ([A4 c]:ai)),a.2.2.1,a.2.2.2.1,a.2.2.2.2.1,a.2.2.2.2.2.1,a.2.2.2.2.2.2.1,a.2.2.2.2.2.2.2.1,a.2.2.2.2.2.2.2.2.1,()),aA d]):=by kernel_rfl
def bKZ (a:Sh.V bF) (b:Sh.V aC):SS.CC 160 [ag] [aO a,aA b]=SV a b [] 0:=cc
def bM5:KT:=SS.rK Tryz.f189 189 0 []
def bM6:KT:=SS.jK 189 22 0 (cS Tryz.f189 15) bM5
def bM7:KT:=aS 0 bM6
def a4D (b c:ai) (a:Int):R:=SS.LL (SS.ae 189 22) 0 [1,5,8,9,10] 0 (cS Tryz.f189 75) bM7 ⟨[(1,eu 190),(5,.sl true 1 c),(8,.sl false 5 b),(9,aP (b.length:Int)),(10,aP a)],[]⟩
theorem aRC (b c:ai) (a:Int):a4D b c a=aB (decide (a<(b.length:Int))) (ak S4 b a fun d=>G2 190 [A4 d] fun e=>bJ (decide (c.length+1<=aN)) (a4D b (c ++ ([.str e]:ai)) (i64.wrap (a+1)))) (some (a_ c,[])):=ll
def bM8 (a0:ai):SS.CC 189 [.sl false 5 a0,eu 190] []=a4D a0 [] 0:=cc
def bM9 (a0:Sh.V S4):SS.CC 190 [A4 a0] []=some (.str a0.1,[]):=cc
def bMA (a1:ai) (a:Sh.V eY) (b:Sh.V aC):SS.CC 191 [ag,a_ a1] [bH a,aA b]=aK4 269 [a_ a1,dm 270 [ag]] [some [.ptr 1 0],ah a,aA b] fun c d e=>some (a_ c,[bH d,aA e]):=cc
def bMF (a:Sh.V dW) (c:Sh.V iO) (d:Sh.V aC):SS.CC 195 [ag,.ptr 1 0] [dP a,some [.ptr 2 0],gu c,aA d]=fV fun f=>(fun w=>(fun b e=>au b (au (au b e) (au b e))) w (f 1 w)) (FN 188 [ag,a_ a.2.2.1] [bH c,aA d] fun s1 g h=>bJ (decide (a.2.2.1.length+1<=aN)) (bi [dP (a.1,a.2.1,(a.2.2.1 ++ ([.str s1]:ai)),a.2.2.2.1,a.2.2.2.2.1,a.2.2.2.2.2.1,a.2.2.2.2.2.2.1,a.2.2.2.2.2.2.2.1,a.2.2.2.2.2.2.2.2.1,()),some [.ptr 2 0],gu g,aA h])):=pI cc
def aRF:KT:=SS.rK Tryz.f196 196 4 []
def XV (a:Sh.V iO) (b:Sh.V dW) (c:Bool) (d:Sh.V aC) (e:Int):R:=bD (SS.xX 196 77 4) (cS Tryz.f196 15) aRF ⟨[(0,ag),(1,.ptr 1 0),(2,.ptr 2 0),(6,aP e)],[gu a,dP b,jR (c,()),aA d]⟩
def XW (a:Int) (b:Sh.V iO) (c:Sh.V dW) (d:Sh.V aC) (e:Bool):R:=bD (SS.xX 196 77 4) (cS Tryz.f196 31) aRF ⟨[(0,ag),(1,.ptr 1 0),(6,aP a)],[gu b,dP c,jR (e,()),aA d]⟩
def bMG (c:Sh.V iO) (a:Sh.V dW) (d:Bool) (e:Sh.V aC) (b:Int):XV c a d e b=bW 87 [ag,cEX [105,110,105,116,105,97,108]] [aA e] fun g f=>aB g (XW b c (a.1,a.2.1,a.2.2.1,a.2.2.2.1,a.2.2.2.2.1,b,a.2.2.2.2.2.2.1,a.2.2.2.2.2.2.2.1,a.2.2.2.2.2.2.2.2.1,()) f true) (XW b c a f d):=by kernel_rfl
def bMH (e:Int) (b:Sh.V iO) (a:Sh.V dW) (f:Sh.V aC) (c:Bool):XW e b a f c=bW 87 [ag,cEX [109,97,114,107,101,100]] [aA f] fun h g=>aB h (bJ (decide (a.2.2.2.2.2.2.1.length+1<=aN)) (bP 27 [ag,cEX [59]] [aA g] fun _ u8=>bi [gu b,dP (a.1,a.2.1,a.2.2.1,a.2.2.2.1,a.2.2.2.2.1,a.2.2.2.2.2.1,(a.2.2.2.2.2.2.1 ++ ([aP e]:ai)),a.2.2.2.2.2.2.2.1,a.2.2.2.2.2.2.2.2.1,()),jR (c,()),aA u8])) (bP 27 [ag,cEX [59]] [aA g] fun _ d=>bi [gu b,dP a,jR (c,()),aA d]):=by kernel_rfl
def bMI (f:Sh.V iO) (a:Sh.V dW) (c:Bool) (g:Sh.V aC):SS.CC 196 [ag,.ptr 1 0,.ptr 2 0] [gu f,dP a,jR (c,()),aA g]=fV fun h=>(fun w=>au w (h 1 w)) (FN 188 [ag,a_ a.2.1] [bH f,aA g] fun s1 d i=>bJ (decide (a.2.1.length+1<=aN)) (bW 161 [ag,cEX [105,110,105,116,105,97,108]] [aA i] fun e b=>aB e (aB c (bP 32 [ag,aP 8] [aA b] fun _ j=>XV d (a.1,(a.2.1 ++ ([.str s1]:ai)),a.2.2.1,a.2.2.2.1,a.2.2.2.2.1,a.2.2.2.2.2.1,a.2.2.2.2.2.2.1,a.2.2.2.2.2.2.2.1,a.2.2.2.2.2.2.2.2.1,()) c j (i64.wrap (((a.2.1 ++ ([.str s1]:ai)).length:Int)-1))) (XV d (a.1,(a.2.1 ++ ([.str s1]:ai)),a.2.2.1,a.2.2.2.1,a.2.2.2.2.1,a.2.2.2.2.2.1,a.2.2.2.2.2.2.1,a.2.2.2.2.2.2.2.1,a.2.2.2.2.2.2.2.2.1,()) c b (i64.wrap (((a.2.1 ++ ([.str s1]:ai)).length:Int)-1)))) (XV d (a.1,(a.2.1 ++ ([.str s1]:ai)),a.2.2.1,a.2.2.2.1,a.2.2.2.2.1,a.2.2.2.2.2.1,a.2.2.2.2.2.2.1,a.2.2.2.2.2.2.2.1,a.2.2.2.2.2.2.2.2.1,()) c b (i64.wrap (((a.2.1 ++ ([.str s1]:ai)).length:Int)-1))))):=pI cc
def bMK:KT:=SS.rK Tryz.f197 197 3 []
def XX (a:Sh.V dH) (b:Sh.V dW) (c:Sh.V aC):R:=bD (SS.xX 197 74 3) (cS Tryz.f197 3) bMK ⟨[(0,ag),(1,.ptr 1 0)],[ah a,dP b,aA c]⟩
def bMJ (n:Sh.V dH) (a:Sh.V dW) (o:Sh.V aC):XX n a o=G7 228 [.sl false 4 a.2.2.2.2.2.2.2.1] fun p=>FN 188 [ag,a_ p] [bH n,aA o] fun q r t=>bP 27 [ag,cEX [58]] [aA t] fun _ b=>Dn 206 [ag] [bH r,aA b] fun c u d=>bP 27 [ag,cEX [46,46]] [aA d] fun _ e=>Dn 206 [ag] [bH u,aA e] fun f g h=>bP 27 [ag,cEX [61]] [aA h] fun _ i=>Dn 206 [ag] [bH g,aA i] fun j l m=>bP 27 [ag,cEX [59]] [aA m] fun _ v=>bJ (decide (a.2.2.2.2.2.2.2.1.length+1<=aN)) (bi [ah l,dP (a.1,a.2.1,a.2.2.1,a.2.2.2.1,a.2.2.2.2.1,a.2.2.2.2.2.1,a.2.2.2.2.2.2.1,(a.2.2.2.2.2.2.2.1 ++ ([A7 (q,c,f,j,())]:ai)),a.2.2.2.2.2.2.2.2.1,()),aA v]):=by kernel_rfl
def bML (a:Sh.V dH) (b:Sh.V dW) (f:Sh.V aC):SS.CC 197 [ag,.ptr 1 0] [ah a,dP b,aA f]=fU 30 [ag] [aA f] fun g c=>aB (g.1==1) (G3 42 [.str g.2.1] fun d=>aB d (bP 32 [ag,aP 7] [aA c] fun _ e=>XX a b e) (XX a b c)) (XX a b c):=cc
def aRI:KT:=SS.rK Tryz.f198 198 3 []
def OA (a:Sh.V dH) (b:Sh.V dW) (c:Sh.V aC) (d e f g h i:Int) (j:ai):R:=bD (SS.xX 198 73 3) (cS Tryz.f198 63) aRI ⟨[(1,.ptr 1 0),(2,.ptr 3 0),(4,.ptr 4 0)],[ah a,dP b,aA c,some [ag],kN (d,e,f,g,h,i,j,[],())]⟩
def aCB (a:Sh.V dH) (b:Sh.V dW) (c:Sh.V aC) (d:Sh.V kP):R:=bD (SS.xX 198 73 3) (cS Tryz.f198 127) aRI ⟨[(1,.ptr 1 0),(2,.ptr 3 0),(4,.ptr 4 0)],[ah a,dP b,aA c,some [ag],kN d]⟩
def aRG (a:Sh.V dH) (b:Sh.V dW) (m:Sh.V aC) (c d e f g h:Int) (i:ai):OA a b m c d e f g h i=bW 87 [ag,cEX [100,111]] [aA m] fun o n=>aB o (H98 203 [ag,dm 272 [.ptr 1 0,.ptr 2 0]] [aA n,some [.ptr 3 0],kN (c,d,e,f,g,h,i,[],()),lh a] fun _ u8 j l=>aCB l b u8 j) (aCB a b n (c,d,e,f,g,h,i,[],())):=by kernel_rfl
def aRH (b:Sh.V dH) (a:Sh.V dW) (c:Sh.V aC) (d:Sh.V kP):aCB b a c d=bP 27 [ag,cEX [59]] [aA c] fun _ e=>bJ (decide (a.2.2.2.2.2.2.2.2.1.length+1<=aN)) (bi [ah b,dP (a.1,a.2.1,a.2.2.1,a.2.2.2.1,a.2.2.2.2.1,a.2.2.2.2.2.1,a.2.2.2.2.2.2.1,a.2.2.2.2.2.2.2.1,(a.2.2.2.2.2.2.2.2.1 ++ ([A9 d]:ai)),()),aA e]):=by kernel_rfl
def bMM (n:Sh.V dH) (b:Sh.V dW) (o:Sh.V aC):SS.CC 198 [ag,.ptr 1 0] [ah n,dP b,aA o]=oM 85 [] fun h=>Dn 271 [ag,a_ b.2.1] [bH n,aA o] fun p q r=>Dn 271 [ag,a_ b.2.2.1] [bH q,aA r] fun c u16 t=>Dn 271 [ag,a_ b.2.1] [bH u16,aA t] fun d e i=>G7 228 [.sl false 4 b.2.2.2.2.2.2.2.1] fun f=>bW 87 [ag,cEX [119,104,101,110]] [aA i] fun j g=>aB j (zZ 37 [ag] [bH (e.1,f,()),aA g] fun a l m=>OA l b m p c d a.1 a.2.1 a.2.2.1 a.2.2.2.1) (OA (e.1,f,()) b g p c d h.1 h.2.1 h.2.2.1 h.2.2.2.1):=cc
def bOS (a:Sh.V dW) (d:Sh.V jc) (e:Sh.V aC):SS.CC 244 [ag,.ptr 1 0] [dP a,some [.ptr 2 0],iq d,aA e]=fV fun g=>(fun w=>(fun b f=>au b (au (au b f) (au b f))) w (g 1 w)) (FK 243 [ag,a_ a.2.2.1] [aO d,aA e] fun s1 h c=>bJ (decide (a.2.2.1.length+1<=aN)) (bi [dP (a.1,a.2.1,(a.2.2.1 ++ ([.str s1]:ai)),a.2.2.2.1,a.2.2.2.2.1,a.2.2.2.2.2.1,a.2.2.2.2.2.2.1,a.2.2.2.2.2.2.2.1,a.2.2.2.2.2.2.2.2.1,()),some [.ptr 2 0],iq h,aA c])):=pI cc
def aS2:KT:=SS.rK Tryz.f246 246 2 []
def a4Y (a:Sh.V bF) (b:Sh.V aC) (c d e f g h:Int) (i:ai):R:=bD (SS.xX 246 48 2) (cS Tryz.f246 127) aS2 ⟨[(2,.ptr 2 0),(4,.ptr 3 0),(5,.ptr 4 0)],[aO a,aA b,some [ag],O68 (0,0,0,0,0,0,[],[],()),kN (c,d,e,f,g,h,i,[],())]⟩
def aCI (a:Sh.V bF) (b:Sh.V aC) (c:Sh.V kP):R:=bD (SS.xX 246 48 2) (cS Tryz.f246 255) aS2 ⟨[(2,.ptr 2 0),(4,.ptr 3 0),(5,.ptr 4 0)],[aO a,aA b,some [ag],O68 (0,0,0,0,0,0,[],[],()),kN c]⟩
def aS1 (a:Sh.V bF) (l:Sh.V aC) (b c d e f g:Int) (h:ai):a4Y a l b c d e f g h=bW 87 [ag,cEX [100,111]] [aA l] fun n m=>aB n (H91 203 [ag,dm 288 [.ptr 1 0,.ptr 2 0]] [aA m,some [.ptr 3 0],kN (b,c,d,e,f,g,h,[],()),kW a] fun _ u8 i j=>aCI j u8 i) (aCI a m (b,c,d,e,f,g,h,[],())):=by kernel_rfl
def aS0 (a:Sh.V bF) (b:Sh.V aC) (c:Sh.V kP):aCI a b c=bP 27 [ag,cEX [59]] [aA b] fun _ d=>some (A9 c,[aO a,aA d]):=by kernel_rfl
def bOU (a1:Sh.V S5) (i:Sh.V bF) (j:Sh.V aC):SS.CC 246 [ag,A5 a1] [aO i,aA j]=oM 85 [] fun e=>Dl 286 [ag,a_ a1.2.1] [aO i,aA j] fun l n u16=>Dl 286 [ag,a_ a1.2.2.1] [aO n,aA u16] fun b f u32=>Dl 286 [ag,a_ a1.2.1] [aO f,aA u32] fun c m g=>bW 87 [ag,cEX [119,104,101,110]] [aA g] fun h d=>aB h (qK 287 [ag] [aO m,aA d] fun a o p=>a4Y o p l b c a.1 a.2.1 a.2.2.1 a.2.2.2.1) (a4Y m d l b c e.1 e.2.1 e.2.2.1 e.2.2.2.1):=cc
def bP0:KT:=SS.rK Tryz.f269 269 3 []
def bP1:KT:=SS.jK 269 22 3 (cS Tryz.f269 15) bP0
def bP2:KT:=aS 0 bP1
def aCK (b:ai) (c:Sh.V dH) (d:Sh.V aC) (e:ai) (a:Int):R:=SS.LL (SS.ae 269 22) 3 [1,5,8,9,10] 3 (cS Tryz.f269 75) bP2 ⟨[(1,dm 270 [ag]),(5,.sl true 1 e),(8,a_ b),(9,aP (b.length:Int)),(10,aP a)],[some [.ptr 1 0],ah c,aA d]⟩
def a4Z (b:ai) (d:Sh.V dH) (e:Sh.V aC) (c:ai) (a:Int):aCK b d e c a=aB (decide (a<(b.length:Int))) (dD b a fun f=>vS f fun g=>VT 270 [.str g,ag] [some [.ptr 1 0],ah d,aA e] fun h i j=>bJ (decide (c.length+1<=aN)) (aCK b i j (c ++ ([.bool h]:ai)) (i64.wrap (a+1)))) (some (a_ c,[some [.ptr 1 0],ah d,aA e])):=ll
def bP3 (a0:ai) (a:Sh.V dH) (b:Sh.V aC):SS.CC 269 [a_ a0,dm 270 [ag]] [some [.ptr 1 0],ah a,aA b]=aCK a0 a b [] 0:=cc
def bP4 (a0:b_) (a:Sh.V dH) (b:Sh.V aC):SS.CC 270 [.str a0,ag] [some [.ptr 1 0],ah a,aA b]=bW 87 [ag,.str a0] [aA b] fun c d=>some (.bool c,[some [.ptr 1 0],ah a,aA d]):=cc
def bP5 (a:Sh.V kP) (b:Sh.V iO) (f:Sh.V aC):SS.CC 272 [ag,.ptr 1 0] [some [.ptr 2 0],kN a,gu b,aA f]=fV fun g=>(fun w=>au (g 1 w) w) (Dn 271 [ag,a_ b.2.1] [bH b,aA f] fun h i j=>bP 27 [ag,cEX [58,61]] [aA j] fun _ c=>zZ 37 [ag] [bH i,aA c] fun u16 d e=>bJ (decide (a.2.2.2.2.2.2.2.1.length+1<=aN)) (bi [some [.ptr 2 0],kN (a.1,a.2.1,a.2.2.1,a.2.2.2.1,a.2.2.2.2.1,a.2.2.2.2.2.1,a.2.2.2.2.2.2.1,(a.2.2.2.2.2.2.2.1 ++ ([Ji (h,u16.1,u16.2.1,u16.2.2.1,u16.2.2.2.1,())]:ai)),()),gu d,aA e])):=pI cc
def aOG (h:Sh.V bF) (i:Sh.V aC):SS.CC 287 [ag] [aO h,aA i]=a0D 296 [ag,a_ [aP 12],dm 297 [.ptr 1 0]] [dh h,some [ag],aA i] fun j l b=>bW 87 [ag,cEX [63]] [aA b] fun c a=>aB (!c) (some (A1 j,[aO l,aA a])) (qK 287 [ag] [aO l,aA a] fun d e f=>bP 27 [ag,cEX [58]] [aA f] fun _ g=>qK 287 [ag] [aO e,aA g] fun m n o=>some (A1 (13,0,0,[A1 j,A1 d,A1 m],()),[aO n,aA o])):=cc
def bHO:KT:=SS.rK Tryz.f296 296 3 []
def bHP:KT:=SS.jK 296 34 3 (cS Tryz.f296 15) bHO
def bHQ:KT:=aS 0 bHP
def a3K (a:ai) (b:Sh.V kC) (c:Sh.V aC) (d:Sh.V S1):R:=SS.LL (SS.ae 296 34) 3 [1,2,3,6,7] 6 (cS Tryz.f296 35) bHQ ⟨[(1,a_ a),(2,dm 297 [.ptr 1 0]),(3,.ptr 3 0),(6,.ptr 4 0),(7,.ptr 5 0)],[dh b,some [ag],aA c,some [ag],FV (0,0,0,[],()),O1 d]⟩
def bHR (d:ai) (l:Sh.V kC) (m:Sh.V aC) (e:Sh.V S1):a3K d l m e=fV fun p=>Di 48 [ag] [aO l,aA m] fun q n a=>aB (!q) (Nk 283 [a_ d,dm 304 [ag]] [some [.ptr 1 0],dh n,aA a] fun b o c=>aB (decide (b<0)) (some (A1 e,[dh o,some [ag],aA c])) (fU 88 [ag] [aA c] fun r f=>dD d b fun g=>vI .i64 g fun h=>p 1 (Hq 297 [ag] [some [.ptr 1 0],dh o,aA f] fun i t j=>a3K d t j (h,0,0,[A1 e,A1 i],())))) (some (A1 e,[dh n,some [ag],aA a])):=pI ll
def bHS (a1:ai) (b:Sh.V kC) (c:Sh.V aC):SS.CC 296 [ag,a_ a1,dm 297 [.ptr 1 0]] [dh b,some [ag],aA c]=Hq 297 [ag] [some [.ptr 1 0],dh b,aA c] fun d e a=>a3K a1 e a d:=cc
def bHT:KT:=SS.rK Tryz.f296 296 2 []
def bHU:KT:=SS.jK 296 34 2 (cS Tryz.f296 15) bHT
def bHV:KT:=aS 0 bHU
def a3L (a:ai) (b:Sh.V bF) (c:Sh.V aC) (d:Sh.V S1):R:=SS.LL (SS.ae 296 34) 2 [1,2,3,6,7] 5 (cS Tryz.f296 35) bHV ⟨[(1,a_ a),(2,.func (.func 298) [ag] []),(3,.ptr 2 0),(6,.ptr 3 0),(7,.ptr 4 0)],[aO b,aA c,some [ag],FV (0,0,0,[],()),O1 d]⟩
def bHW (d:ai) (l:Sh.V bF) (m:Sh.V aC) (e:Sh.V S1):a3L d l m e=fV fun p=>Di 48 [ag] [aO l,aA m] fun q n a=>aB (!q) (Nk 283 [a_ d,dm 304 [ag]] [some [.ptr 1 0],dh n,aA a] fun b o c=>aB (decide (b<0)) (some (A1 e,[aO o,aA c])) (fU 88 [ag] [aA c] fun r f=>dD d b fun g=>vI .i64 g fun h=>p 1 (qK 298 [ag] [aO o,aA f] fun i t j=>a3L d t j (h,0,0,[A1 e,A1 i],())))) (some (A1 e,[aO n,aA a])):=pI ll
def bHX (a1:ai) (b:Sh.V bF) (c:Sh.V aC):SS.CC 296 [ag,a_ a1,.func (.func 298) [ag] []] [aO b,aA c]=qK 298 [ag] [aO b,aA c] fun d e a=>a3L a1 e a d:=cc
def bHY:KT:=SS.rK Tryz.f296 296 3 []
def bHZ:KT:=SS.jK 296 34 3 (cS Tryz.f296 15) bHY
def bH':KT:=aS 0 bHZ
def aB' (a:ai) (b:Sh.V kC) (c:Sh.V aC) (d:Sh.V S1):R:=SS.LL (SS.ae 296 34) 3 [1,2,3,6,7] 6 (cS Tryz.f296 35) bH' ⟨[(1,a_ a),(2,dm 308 [.ptr 1 0]),(3,.ptr 3 0),(6,.ptr 4 0),(7,.ptr 5 0)],[dh b,some [ag],aA c,some [ag],FV (0,0,0,[],()),O1 d]⟩
def bI0 (d:ai) (l:Sh.V kC) (m:Sh.V aC) (e:Sh.V S1):aB' d l m e=fV fun p=>Di 48 [ag] [aO l,aA m] fun q n a=>aB (!q) (Nk 283 [a_ d,dm 304 [ag]] [some [.ptr 1 0],dh n,aA a] fun b o c=>aB (decide (b<0)) (some (A1 e,[dh o,some [ag],aA c])) (fU 88 [ag] [aA c] fun r f=>dD d b fun g=>vI .i64 g fun h=>p 1 (Hq 308 [ag] [some [.ptr 1 0],dh o,aA f] fun i t j=>aB' d t j (h,0,0,[A1 e,A1 i],())))) (some (A1 e,[dh n,some [ag],aA a])):=pI ll
def bI1 (a1:ai) (b:Sh.V kC) (c:Sh.V aC):SS.CC 296 [ag,a_ a1,dm 308 [.ptr 1 0]] [dh b,some [ag],aA c]=Hq 308 [ag] [some [.ptr 1 0],dh b,aA c] fun d e a=>aB' a1 e a d:=cc
def bI2:KT:=SS.rK Tryz.f296 296 2 []
def bI3:KT:=SS.jK 296 34 2 (cS Tryz.f296 15) bI2
def bI4:KT:=aS 0 bI3
def aC0 (a:ai) (b:Sh.V bF) (c:Sh.V aC) (d:Sh.V S1):R:=SS.LL (SS.ae 296 34) 2 [1,2,3,6,7] 5 (cS Tryz.f296 35) bI4 ⟨[(1,a_ a),(2,.func (.func 309) [ag] []),(3,.ptr 2 0),(6,.ptr 3 0),(7,.ptr 4 0)],[aO b,aA c,some [ag],FV (0,0,0,[],()),O1 d]⟩
def bI5 (d:ai) (l:Sh.V bF) (m:Sh.V aC) (e:Sh.V S1):aC0 d l m e=fV fun p=>Di 48 [ag] [aO l,aA m] fun q n a=>aB (!q) (Nk 283 [a_ d,dm 304 [ag]] [some [.ptr 1 0],dh n,aA a] fun b o c=>aB (decide (b<0)) (some (A1 e,[aO o,aA c])) (fU 88 [ag] [aA c] fun r f=>dD d b fun g=>vI .i64 g fun h=>p 1 (qK 309 [ag] [aO o,aA f] fun i t j=>aC0 d t j (h,0,0,[A1 e,A1 i],())))) (some (A1 e,[aO n,aA a])):=pI ll
def bI6 (a1:ai) (b:Sh.V bF) (c:Sh.V aC):SS.CC 296 [ag,a_ a1,.func (.func 309) [ag] []] [aO b,aA c]=qK 309 [ag] [aO b,aA c] fun d e a=>aC0 a1 e a d:=cc
def bI7 (b:Sh.V kC) (c:Sh.V aC):SS.CC 297 [ag] [some [.ptr 1 0],dh b,aA c]=qK 296 [ag,a_ [aP 11],.func (.func 298) [ag] []] [aO b,aA c] fun d e a=>some (A1 d,[some [.ptr 1 0],dh e,aA a]):=cc
def bI9:KT:=SS.rK Tryz.f298 298 2 []
def bIA:KT:=SS.jK 298 49 2 (cS Tryz.f298 15) bI9
def bIB:KT:=aS 0 bIA
def Ku (b:Sh.V bF) (c:Sh.V aC) (d:Sh.V S1) (a:Int):R:=SS.LL (SS.ae 298 49) 2 [0,2,3,8,9,10] 4 (cS Tryz.f298 75) bIB ⟨[(0,ag),(2,.ptr 2 0),(3,.ptr 3 0),(8,.sl true 1 [aP 6,aP 7,aP 9,aP 8]),(9,aP 4),(10,aP a)],[aO b,aA c,FV (0,0,0,[],()),O1 d]⟩
def aC1 (b:Sh.V bF) (e:Sh.V aC) (c:Sh.V S1) (a:Int):Ku b e c a=aB (decide (a<4)) (dD [aP 6,aP 7,aP 9,aP 8] a fun q=>vI .i64 q fun o=>G2 262 [aP o] fun r=>bW 87 [ag,.str r] [aA e] fun t p=>aB t (qK 305 [ag] [aO b,aA p] fun f u16 g=>some (A1 (o,0,0,[A1 c,A1 f],()),[aO u16,aA g])) (Ku b p c (i64.wrap (a+1)))) (bW 87 [ag,cEX [62,61]] [aA e] fun h u32=>aB h (qK 305 [ag] [aO b,aA u32] fun i j l=>some (A1 (9,0,0,[A1 i,A1 c],()),[aO j,aA l])) (bW 87 [ag,cEX [62]] [aA u32] fun m d=>aB m (qK 305 [ag] [aO b,aA d] fun u64 n u=>some (A1 (8,0,0,[A1 u64,A1 c],()),[aO n,aA u])) (some (A1 c,[aO b,aA d])))):=ll
def bIC (b:Sh.V bF) (c:Sh.V aC):SS.CC 298 [ag] [aO b,aA c]=qK 305 [ag] [aO b,aA c] fun d e a=>Ku e a d 0:=cc
def bKO:KT:=SS.rK Tryz.f283 283 3 []
def bKP:KT:=SS.jK 283 19 3 (cS Tryz.f283 7) bKO
def bKQ:KT:=aS 0 bKP
def a3U (a:ai) (b:Sh.V kC) (c:Sh.V aC) (d:Int):R:=SS.LL (SS.ae 283 19) 3 [0,1,7,8] 3 (cS Tryz.f283 37) bKQ ⟨[(0,a_ a),(1,dm 304 [ag]),(7,aP (a.length:Int)),(8,aP d)],[some [.ptr 1 0],dh b,aA c]⟩
def aQV (c:ai) (d:Sh.V kC) (e:Sh.V aC) (a:Int):a3U c d e a=aB (decide (a<(c.length:Int))) (dD c a fun g=>vI .i64 g fun h=>Ns 304 [aP h,ag] [some [.ptr 1 0],dh d,aA e] fun i f b=>aB i (some (aP a,[some [.ptr 1 0],dh f,aA b])) (a3U c f b (i64.wrap (a+1)))) (some (aP (-1),[some [.ptr 1 0],dh d,aA e])):=ll
def bKR (a0:ai) (a:Sh.V kC) (b:Sh.V aC):SS.CC 283 [a_ a0,dm 304 [ag]] [some [.ptr 1 0],dh a,aA b]=a3U a0 a b 0:=cc
def bKS (a0:Int) (a:Sh.V kC) (b:Sh.V aC):SS.CC 304 [aP a0,ag] [some [.ptr 1 0],dh a,aA b]=G2 262 [aP a0] fun s1=>bW 161 [ag,.str s1] [aA b] fun c d=>some (.bool c,[some [.ptr 1 0],dh a,aA d]):=cc
def bKU (b:Sh.V bF) (c:Sh.V aC):SS.CC 305 [ag] [aO b,aA c]=a0D 296 [ag,a_ [aP 2,aP 3],dm 308 [.ptr 1 0]] [dh b,some [ag],aA c] fun d e a=>some (A1 d,[aO e,aA a]):=cc
def bOG (b:Sh.V kC) (c:Sh.V aC):SS.CC 308 [ag] [some [.ptr 1 0],dh b,aA c]=qK 296 [ag,a_ [aP 4],.func (.func 309) [ag] []] [aO b,aA c] fun d e a=>some (A1 d,[some [.ptr 1 0],dh e,aA a]):=cc
def bOI:KT:=SS.rK Tryz.f309 309 2 []
def Sz (a:Sh.V bF) (b:Sh.V aC):R:=bD (SS.xX 309 99 2) (cS Tryz.f309 7) bOI ⟨[(1,.ptr 2 0),(2,.ptr 3 0)],[aO a,aA b,some [ag],FV (0,0,0,[],())]⟩
def bOH (a:Sh.V bF) (c:Sh.V aC):Sz a c=Dl 286 [ag,a_ a.2.2.2.2.2.2.2.1] [aO a,aA c] fun d e b=>some (A1 (1,0,(if (0:Int)>d then (0:Int) else d),[],()),[aO e,aA b]):=by kernel_rfl
def IV (b:Sh.V bF) (v:Sh.V aC):SS.CC 309 [ag] [aO b,aA v]=fU 30 [ag] [aA v] fun c x=>bW 161 [ag,cEX [33]] [aA x] fun i d=>aB i (qK 310 [ag,.func (.func 309) [ag] []] [aO b,aA d] fun y j u32=>some (A1 (10,0,0,[A1 y],()),[aO j,aA u32])) (bW 161 [ag,cEX [45]] [aA d] fun l w=>aB l (aKB 310 [ag,dm 311 [.ptr 1 0,.ptr 2 0]] [iq b,some [ag],jR (false,()),aA w] fun e f m g=>aB m.1 (some (A1 (0,i64.wrap (0-e.2.1),0,[],()),[aO f,aA g])) (some (A1 (5,0,0,[A1 e],()),[aO f,aA g]))) (bW 161 [ag,cEX [40]] [aA w] fun n a=>aB n (a0D 310 [ag,dm 312 [.ptr 1 0]] [dh b,some [ag],aA a] fun o p q=>some (A1 o,[aO p,aA q])) (aB (c.1==2) (fU 88 [ag] [aA a] fun z A=>some (A1 (0,c.2.2.1,0,[],()),[aO b,aA A])) (aB (c.1==1) (aB (c.2.1.toList==(⟨#[116,114,117,101]⟩:b_).toList) (fU 88 [ag] [aA a] fun F r=>oM 85 [] fun t=>some (A1 t,[aO b,aA r])) (aB (c.1==1) (aB (c.2.1.toList==(⟨#[102,97,108,115,101]⟩:b_).toList) (fU 88 [ag] [aA a] fun B C=>oM 155 [] fun D=>some (A1 D,[aO b,aA C])) (Sz b a)) (Sz b a))) (aB (c.1==1) (aB (c.2.1.toList==(⟨#[102,97,108,115,101]⟩:b_).toList) (fU 88 [ag] [aA a] fun E h=>oM 155 [] fun u=>some (A1 u,[aO b,aA h])) (Sz b a)) (Sz b a)))))):=cc
def aSE (b:Sh.V bF) (c:Sh.V aC):SS.CC 310 [ag,.func (.func 309) [ag] []] [aO b,aA c]=aB (b.2.2.2.2.2.2.2.2.1==32) (bP 32 [ag,aP 3] [aA c] fun _ f=>some (A1 (0,0,0,[],()),[aO b,aA f])) (fU 88 [ag] [aA c] fun h d=>qK 309 [ag] [aO (b.1,b.2.1,b.2.2.1,b.2.2.2.1,b.2.2.2.2.1,b.2.2.2.2.2.1,b.2.2.2.2.2.2.1,b.2.2.2.2.2.2.2.1,i64.wrap (b.2.2.2.2.2.2.2.2.1+1),()),aA d] fun g a e=>some (A1 g,[aO (a.1,a.2.1,a.2.2.1,a.2.2.2.1,a.2.2.2.2.1,a.2.2.2.2.2.1,a.2.2.2.2.2.2.1,a.2.2.2.2.2.2.2.1,i64.wrap (a.2.2.2.2.2.2.2.2.1-1),()),aA e])):=cc
def aSF (b:Sh.V jc) (c:Bool) (d:Sh.V aC):SS.CC 310 [ag,dm 311 [.ptr 1 0,.ptr 2 0]] [iq b,some [ag],jR (c,()),aA d]=aB (b.2.2.2.2.2.2.2.2.1==32) (bP 32 [ag,aP 3] [aA d] fun _ g=>some (A1 (0,0,0,[],()),[iq b,some [ag],jR (c,()),aA g])) (fU 88 [ag] [aA d] fun i e=>aAC 311 [ag,.ptr 1 0] [some [.ptr 2 0],jR (c,()),iq (b.1,b.2.1,b.2.2.1,b.2.2.2.1,b.2.2.2.2.1,b.2.2.2.2.2.1,b.2.2.2.2.2.2.1,b.2.2.2.2.2.2.2.1,i64.wrap (b.2.2.2.2.2.2.2.2.1+1),()),aA e] fun h f a u32=>some (A1 h,[iq (a.1,a.2.1,a.2.2.1,a.2.2.2.1,a.2.2.2.2.1,a.2.2.2.2.2.1,a.2.2.2.2.2.2.1,a.2.2.2.2.2.2.2.1,i64.wrap (a.2.2.2.2.2.2.2.2.1-1),()),some [ag],jR f,aA u32])):=cc
def aSG (b:Sh.V kC) (c:Sh.V aC):SS.CC 310 [ag,dm 312 [.ptr 1 0]] [dh b,some [ag],aA c]=aB (b.2.2.2.2.2.2.2.2.1==32) (bP 32 [ag,aP 3] [aA c] fun _ f=>some (A1 (0,0,0,[],()),[dh b,some [ag],aA f])) (fU 88 [ag] [aA c] fun h d=>Hq 312 [ag] [some [.ptr 1 0],dh (b.1,b.2.1,b.2.2.1,b.2.2.2.1,b.2.2.2.2.1,b.2.2.2.2.2.1,b.2.2.2.2.2.2.1,b.2.2.2.2.2.2.2.1,i64.wrap (b.2.2.2.2.2.2.2.2.1+1),()),aA d] fun g a e=>some (A1 g,[dh (a.1,a.2.1,a.2.2.1,a.2.2.2.1,a.2.2.2.2.1,a.2.2.2.2.2.1,a.2.2.2.2.2.2.1,a.2.2.2.2.2.2.2.1,i64.wrap (a.2.2.2.2.2.2.2.2.1-1),()),some [ag],aA e])):=cc
def bPJ (e:Bool) (c:Sh.V jc) (d:Sh.V aC):SS.CC 311 [ag,.ptr 1 0] [some [.ptr 2 0],jR (e,()),iq c,aA d]=fU 30 [ag] [aA d] fun f g=>qK 309 [ag] [aO c,aA g] fun a u16 b=>some (A1 a,[some [.ptr 2 0],jR ((f.1==2),()),iq u16,aA b]):=cc
def bPK (c:Sh.V kC) (d:Sh.V aC):SS.CC 312 [ag] [some [.ptr 1 0],dh c,aA d]=qK 287 [ag] [aO c,aA d] fun e f a=>bP 27 [ag,cEX [41]] [aA a] fun _ b=>some (A1 e,[some [.ptr 1 0],dh f,aA b]):=cc
def aS3 (a:Sh.V dn) (b:Sh.V I4) (c:Sh.V aC):SS.CC 247 [ag,.ptr 1 0] [dA a,some [.ptr 2 0],Dq b,aA c]=fV fun f=>(fun e g=>au e (au e g)) (lD 28 [ag] [aA c] fun s1 d=>bJ (decide (a.2.2.1.length+1<=aN)) (bi [dA (a.1,a.2.1,(a.2.2.1 ++ ([.str s1]:ai)),()),some [.ptr 2 0],Dq b,aA d])) (f 1 (lD 28 [ag] [aA c] fun s1 d=>bJ (decide (a.2.2.1.length+1<=aN)) (bi [dA (a.1,a.2.1,(a.2.2.1 ++ ([.str s1]:ai)),()),some [.ptr 2 0],Dq b,aA d]))):=pI cc
end
section
def aS4 (a0:b_):SS.CC 6 [.str a0] []=G9 10 [.str a0] fun c=>G9 17 [.str a0] fun a=>G10 18 [.str a0] fun b=>aB (c.2.2.2.1.1 != a.2.2.2.1.1) iM (aB (c.2.1.1 != a.2.1.1) iM (aB (c.2.2.1.1 != a.2.2.1.1) iM (G3 19 [A0 c.1,A0 a.1] fun d=>aB (!d) iM (aB (a.2.2.2.1.1 != 0) (aB (b.1.1.toList==(⟨#[]⟩:b_).toList) (aB (b.2.1.1==a.2.1.1) (aB (b.2.2.1.1==a.2.2.1.1) (some (.bool (b.2.2.2.1.1==a.2.2.2.1.1),[])) iM) iM) iM) (aB (b.2.2.2.1.1==0) (aB (b.2.1.1==0) (aB (b.2.2.1.1==0) (G2 8 [A0 a.1] fun e=>some (.bool (b.1.1.toList==e.toList),[])) iM) iM) iM))))):=cc
def aCP:KT:=SS.rK Tryz.f10 10 0 []
def bQB:KT:=SS.jK 10 65 0 (cS Tryz.f10 127) aCP
def bQC:KT:=aS 0 bQB
def Xj (a:Sh.V jT) (b:Sh.V aC) (c:Sh.V eY):R:=SS.LL (SS.ae 10 65) 0 [2,6] 3 (cS Tryz.f10 287) bQC ⟨[(2,ag),(6,.ptr 2 0)],[bU a,aA b,bH c]⟩
def Xi (a:Sh.V jT) (b:Sh.V aC) (c:Sh.V eY):R:=bD (SS.xX 10 65 0) (cS Tryz.f10 127) aCP ⟨[(2,ag),(6,.ptr 2 0)],[bU a,aA b,bH c]⟩
def Xh (a:Sh.V jT) (b:Sh.V aC) (c:Sh.V eY):R:=bD (SS.xX 10 65 0) (cS Tryz.f10 255) aCP ⟨[(2,ag),(6,.ptr 2 0)],[bU a,aA b,bH c]⟩
def bQD (b:Sh.V jT) (h:Sh.V aC) (i:Sh.V eY):Xj b h i=VU 29 [ag] [bH i,aA h] fun l c j=>aB l (fU 30 [ag] [aA j] fun d a=>aB (d.1 != 4) (Jn 31 [ag,.ptr 1 0] [ah c,bU b,aA a] fun _ e f g=>Xj f g e) (Xi b a c)) (Xi b j c):=ll
def aSS (a:Sh.V jT) (d:Sh.V aC) (e:Sh.V eY):Xi a d e=VU 29 [ag] [bH e,aA d] fun h f g=>aB h (G1 33 [A0 a] fun b=>bP 32 [ag,aP b] [aA g] fun _ c=>Xh a c f) (Xh a g f):=by kernel_rfl
def aSR (b:Sh.V jT) (c:Sh.V aC) (d:Sh.V eY):Xh b c d=Qo 34 [ag] [aA c] fun a e=>aB (a.2.2.1.1 != 0) (some (.tuple [A0 (⟨#[]⟩,[],[],[],[],[],[],()),aP a.1.1,aP a.2.1.1,aP a.2.2.1.1],[])) (some (.tuple [A0 b,aP 0,aP 0,aP 0],[])):=by kernel_rfl
def bQE (a0:b_):SS.CC 10 [.str a0] []=H14 26 [.str a0] [] fun d=>bP 27 [ag,cEX [109,111,100,101,108]] [aA d] fun _ e=>lD 28 [ag] [aA e] fun a b=>bP 27 [ag,cEX [59]] [aA b] fun _ c=>Xj (a,[],[],[],[],[],[],()) c (0,[],()):=cc
def bQF (a0 a1:Sh.V S0):SS.CC 19 [A0 a0,A0 a1] []=aB (a0.1.toList==a1.1.toList) (G3 61 [.sl false 5 a0.2.1,.sl false 5 a1.2.1] fun c=>aB c (H27 62 [.sl false 9 a0.2.2.1,.sl false 9 a1.2.2.1,dm 55 [ag]] [some [eu 51]] fun d=>aB d (G3 63 [.sl false 3 a0.2.2.2.1,.sl false 3 a1.2.2.2.1,eu 60] fun e=>aB e (G3 63 [.sl false 3 a0.2.2.2.2.1,.sl false 3 a1.2.2.2.2.1,eu 60] fun f=>aB f (G3 64 [.sl false 2 a0.2.2.2.2.2.1,.sl false 2 a1.2.2.2.2.2.1,eu 65] fun a=>aB a (G3 67 [.sl false 3 a0.2.2.2.2.2.2.1,.sl false 3 a1.2.2.2.2.2.2.1,eu 68] fun b=>some (.bool b,[])) iM) iM) iM) iM) iM) iM:=cc
def aST (a0:b_):SS.CC 18 [.str a0] []=G9 10 [.str a0] fun b=>aB (b.2.2.2.1.1 != 0) (some (.tuple [cEX [],aP b.2.1.1,aP b.2.2.1.1,aP b.2.2.2.1.1],[])) (G0 11 [A0 b.1] fun a=>aB (a.2.1.1 != 0) (some (.tuple [cEX [],aP 1,aP 1,aP a.2.1.1],[])) (some (.tuple [.str a.1.1,aP 0,aP 0,aP 0],[]))):=cc
def bSX:KT:=SS.rK Tryz.f100 100 0 []
def bSY:KT:=SS.jK 100 22 0 (cS Tryz.f100 15) bSX
def bSZ:KT:=aS 0 bSY
def Hl (b c:ai) (a:Int):R:=SS.LL (SS.ae 100 22) 0 [1,5,8,9,10] 0 (cS Tryz.f100 75) bSZ ⟨[(1,eu 200),(5,.sl true 1 c),(8,.sl false 3 b),(9,aP (b.length:Int)),(10,aP a)],[]⟩
theorem aTU (b c:ai) (a:Int):Hl b c a=aB (decide (a<(b.length:Int))) (ak S8 b a fun d=>G2 200 [A8 d] fun e=>bJ (decide (c.length+1<=aN)) (Hl b (c ++ ([.str e]:ai)) (i64.wrap (a+1)))) (some (a_ c,[])):=ll
def bS' (a0:ai):SS.CC 100 [.sl false 3 a0,eu 200] []=Hl a0 [] 0:=cc
def bT5:KT:=SS.rK Tryz.f102 102 0 []
def bT6:KT:=SS.jK 102 22 0 (cS Tryz.f102 15) bT5
def bT7:KT:=aS 0 bT6
def Zy (b c:ai) (a:Int):R:=SS.LL (SS.ae 102 22) 0 [1,5,8,9,10] 0 (cS Tryz.f102 75) bT7 ⟨[(1,eu 193),(5,.sl true 1 c),(8,.sl false 9 b),(9,aP (b.length:Int)),(10,aP a)],[]⟩
theorem aTW (b c:ai) (a:Int):Zy b c a=aB (decide (a<(b.length:Int))) (ak S5 b a fun d=>G2 193 [A5 d] fun uA=>bJ (decide (c.length+1<=aN)) (Zy b (c ++ ([.str uA]:ai)) (i64.wrap (a+1)))) (some (a_ c,[])):=ll
def bT8 (a0:ai):SS.CC 102 [.sl false 9 a0,eu 193] []=Zy a0 [] 0:=cc
def bTE:KT:=SS.rK Tryz.f104 104 0 []
def bTF:KT:=SS.jK 104 22 0 (cS Tryz.f104 15) bTE
def bTG:KT:=aS 0 bTF
def I_ (b c:ai) (a:Int):R:=SS.LL (SS.ae 104 22) 0 [1,5,8,9,10] 0 (cS Tryz.f104 75) bTG ⟨[(1,eu 202),(5,.sl true 1 c),(8,.sl false 2 b),(9,aP (b.length:Int)),(10,aP a)],[]⟩
theorem aTY (b c:ai) (a:Int):I_ b c a=aB (decide (a<(b.length:Int))) (ak lF b a fun d=>G2 202 [Ag d] fun e=>bJ (decide (c.length+1<=aN)) (I_ b (c ++ ([.str e]:ai)) (i64.wrap (a+1)))) (some (a_ c,[])):=ll
def bTH (a0:ai):SS.CC 104 [.sl false 2 a0,eu 202] []=I_ a0 [] 0:=cc
def bTN:KT:=SS.rK Tryz.f106 106 0 []
def bTO:KT:=SS.jK 106 22 0 (cS Tryz.f106 15) bTN
def bTP:KT:=aS 0 bTO
def V4 (b c:ai) (a:Int):R:=SS.LL (SS.ae 106 22) 0 [1,5,8,9,10] 0 (cS Tryz.f106 75) bTP ⟨[(1,eu 205),(5,.sl true 1 c),(8,.sl false 3 b),(9,aP (b.length:Int)),(10,aP a)],[]⟩
theorem aT' (b c:ai) (a:Int):V4 b c a=aB (decide (a<(b.length:Int))) (ak jb b a fun d=>G2 205 [xk d] fun e=>bJ (decide (c.length+1<=aN)) (V4 b (c ++ ([.str e]:ai)) (i64.wrap (a+1)))) (some (a_ c,[])):=ll
def bTQ (a0:ai):SS.CC 106 [.sl false 3 a0,eu 205] []=V4 a0 [] 0:=cc
def aBR:KT:=SS.rK Tryz.f17 17 0 []
def bC4:KT:=SS.jK 17 79 0 (cS Tryz.f17 127) aBR
def bC5:KT:=aS 0 bC4
def X4 (a:Sh.V aC) (b:Sh.V bF):R:=SS.LL (SS.ae 17 79) 0 [2,6] 3 (cS Tryz.f17 287) bC5 ⟨[(2,ag),(6,.ptr 2 0)],[bU (⟨#[]⟩,[],[],[],[],[],[],()),aA a,aO b]⟩
def X3 (a:Sh.V aC) (b:Sh.V bF):R:=bD (SS.xX 17 79 0) (cS Tryz.f17 127) aBR ⟨[(2,ag),(6,.ptr 2 0)],[bU (⟨#[]⟩,[],[],[],[],[],[],()),aA a,aO b]⟩
def X0 (a:Sh.V aC) (b:Sh.V bF):R:=bD (SS.xX 17 79 0) (cS Tryz.f17 255) aBR ⟨[(2,ag),(6,.ptr 2 0)],[bU (⟨#[]⟩,[],[],[],[],[],[],()),aA a,aO b]⟩
def bC6 (f:Sh.V aC) (g:Sh.V bF):X4 f g=Di 48 [ag] [aO g,aA f] fun h c a=>aB (!h) (fU 30 [ag] [aA a] fun i b=>aB (i.1 != 4) (Qq 49 [ag] [aO c,aA b] fun _ d e=>X4 e d) (X3 b c)) (X3 a c):=ll
def aOQ (d:Sh.V aC) (e:Sh.V bF):X3 d e=Di 48 [ag] [aO e,aA d] fun f a b=>aB (!f) (G1 50 [A0 (a.1,a.2.1,a.2.2.1,a.2.2.2.1,a.2.2.2.2.1,a.2.2.2.2.2.1,a.2.2.2.2.2.2.1,())] fun c=>bP 32 [ag,aP c] [aA b] fun _ g=>X0 g a) (X0 b a):=by kernel_rfl
def aOP (c:Sh.V aC) (a:Sh.V bF):X0 c a=Qo 34 [ag] [aA c] fun b d=>aB (b.2.2.1.1 != 0) (some (.tuple [A0 (⟨#[]⟩,[],[],[],[],[],[],()),aP b.1.1,aP b.2.1.1,aP b.2.2.1.1],[])) (some (.tuple [A0 (a.1,a.2.1,a.2.2.1,a.2.2.2.1,a.2.2.2.2.1,a.2.2.2.2.2.1,a.2.2.2.2.2.2.1,()),aP 0,aP 0,aP 0],[])):=by kernel_rfl
def bC7 (a0:b_):SS.CC 17 [.str a0] []=H14 26 [.str a0] [] fun d=>bP 27 [ag,cEX [109,111,100,101,108]] [aA d] fun _ e=>lD 28 [ag] [aA e] fun a b=>bP 27 [ag,cEX [59]] [aA b] fun _ c=>X4 c (a,[],[],[],[],[],[],[],0,()):=cc
def bCR (a:Sh.V eY) (b:Sh.V aC):SS.CC 29 [ag] [bH a,aA b]=Qo 34 [ag] [aA b] fun c d=>some (.bool (c.2.2.1.1==0),[bH a,aA d]):=cc
def Bz (b:Sh.V dH) (a:Sh.V jT) (D:Sh.V aC):SS.CC 31 [ag,.ptr 1 0] [ah b,bU a,aA D]=fU 30 [ag] [aA D] fun d c=>aB (d.2.1.data.toList==(⟨#[99,111,109,112,111,110,101,110,116]⟩:b_).data.toList) (aB (d.1 != 1) (bP 32 [ag,aP 14] [aA c] fun _ e=>bi [ah b,bU a,aA e]) (aB (decide (32<=(a.2.2.2.1.length:Int))) (bP 32 [ag,aP 3] [aA c] fun _ h=>bi [ah b,bU a,aA h]) (fU 88 [ag] [aA c] fun E i=>Nr 93 [ag,.ptr 1 0] [some [.ptr 2 0],some [.ptr 3 0],mQ b,bU a,aA i] fun _ j l m=>bi [ah j,bU l,aA m]))) (aB (d.2.1.data.toList==(⟨#[101,118,101,110,116]⟩:b_).data.toList) (aB (d.1 != 1) (bP 32 [ag,aP 14] [aA c] fun _ n=>bi [ah b,bU a,aA n]) (fU 88 [ag] [aA c] fun F o=>Nr 89 [ag,.ptr 1 0] [some [.ptr 2 0],some [.ptr 3 0],mQ b,bU a,aA o] fun _ f p q=>bi [ah f,bU p,aA q])) (aB (d.2.1.data.toList==(⟨#[101,120,99,108,117,100,101]⟩:b_).data.toList) (aB (d.1 != 1) (bP 32 [ag,aP 14] [aA c] fun _ g=>bi [ah b,bU a,aA g]) (aB (decide (32<=(a.2.2.2.2.2.1.length:Int))) (bP 32 [ag,aP 3] [aA c] fun _ G=>bi [ah b,bU a,aA G]) (fU 88 [ag] [aA c] fun H r=>Nr 96 [ag,.ptr 1 0] [some [.ptr 2 0],some [.ptr 3 0],mQ b,bU a,aA r] fun _ t u v=>bi [ah t,bU u,aA v]))) (aB (d.2.1.data.toList==(⟨#[108,105,109,105,116]⟩:b_).data.toList) (aB (d.1 != 1) (bP 32 [ag,aP 14] [aA c] fun _ I=>bi [ah b,bU a,aA I]) (aB (decide (32<=(a.2.2.2.2.2.2.1.length:Int))) (bP 32 [ag,aP 3] [aA c] fun _ J=>bi [ah b,bU a,aA J]) (fU 88 [ag] [aA c] fun K L=>Nr 98 [ag,.ptr 1 0] [some [.ptr 2 0],some [.ptr 3 0],mQ b,bU a,aA L] fun _ M N O=>bi [ah M,bU N,aA O]))) (aB (d.2.1.data.toList==(⟨#[114,101,113,117,105,114,101,109,101,110,116]⟩:b_).data.toList) (aB (d.1 != 1) (bP 32 [ag,aP 14] [aA c] fun _ w=>bi [ah b,bU a,aA w]) (aB (decide (32<=(a.2.2.2.2.1.length:Int))) (bP 32 [ag,aP 3] [aA c] fun _ x=>bi [ah b,bU a,aA x]) (fU 88 [ag] [aA c] fun BV Q=>Nr 95 [ag,.ptr 1 0] [some [.ptr 2 0],some [.ptr 3 0],mQ b,bU a,aA Q] fun _ y S T=>bi [ah y,bU S,aA T]))) (aB (d.2.1.data.toList==(⟨#[116,101,109,112,108,97,116,101]⟩:b_).data.toList) (aB (d.1 != 1) (bP 32 [ag,aP 14] [aA c] fun _ z=>bi [ah b,bU a,aA z]) (aB (decide (16<=(a.2.2.1.length:Int))) (bP 32 [ag,aP 3] [aA c] fun _ A=>bi [ah b,bU a,aA A]) (fU 88 [ag] [aA c] fun U X=>Nr 91 [ag,.ptr 1 0] [some [.ptr 2 0],some [.ptr 3 0],mQ b,bU a,aA X] fun _ Y B Z=>bi [ah Y,bU B,aA Z]))) (aB (d.1 != 1) (bP 32 [ag,aP 14] [aA c] fun _ C=>bi [ah b,bU a,aA C]) (bP 32 [ag,aP 14] [aA c] fun _ gG=>bi [ah b,bU a,aA gG]))))))):=cc
def bCU (a0 a1:Sh.V S9):SS.CC 51 [A9 a0,A9 a1] []=aB (a0.1==a1.1) (aB (a0.2.1==a1.2.1) (aB (a0.2.2.1==a1.2.2.1) (G3 52 [A1 (a0.2.2.2.1,a0.2.2.2.2.1,a0.2.2.2.2.2.1,a0.2.2.2.2.2.2.1,()),A1 (a1.2.2.2.1,a1.2.2.2.2.1,a1.2.2.2.2.2.1,a1.2.2.2.2.2.2.1,())] fun a=>aB a (G3 53 [.sl false 5 a0.2.2.2.2.2.2.2.1,.sl false 5 a1.2.2.2.2.2.2.2.1,eu 54] fun b=>some (.bool b,[])) iM) iM) iM) iM:=cc
def bCV:KT:=SS.rK Tryz.f53 53 0 []
def bCW:KT:=SS.jK 53 32 0 (cS Tryz.f53 15) bCV
def bCX:KT:=aS 0 bCW
def RD (c a:ai) (b:Int):R:=SS.LL (SS.ae 53 32) 0 [1,2,15,16,17] 0 (cS Tryz.f53 75) bCX ⟨[(1,.sl false 5 c),(2,eu 54),(15,.sl false 5 a),(16,aP (a.length:Int)),(17,aP b)],[]⟩
def aOY (c b:ai) (a:Int):RD c b a=aB (decide (a<(b.length:Int))) (ak rX b a fun e=>ak rX c a fun u8=>G3 54 [Ji e,Ji u8] fun d=>aB (!d) iM (RD c b (i64.wrap (a+1)))) rC:=ll
def bCY (a0 a1:ai):SS.CC 53 [.sl false 5 a0,.sl false 5 a1,eu 54] []=aB ((a0.length:Int) !=(a1.length:Int)) iM (RD a1 a0 0):=cc
def bCZ (a0 a1:Sh.V rX):SS.CC 54 [Ji a0,Ji a1] []=aB (a0.1==a1.1) (G3 52 [A1 (a0.2.1,a0.2.2.1,a0.2.2.2.1,a0.2.2.2.2.1,()),A1 (a1.2.1,a1.2.2.1,a1.2.2.2.1,a1.2.2.2.2.1,())] fun a=>some (.bool a,[])) iM:=cc
def bC' (a0 a1:Sh.V S5):SS.CC 55 [A5 a0,A5 a1,ag] [some [eu 51]]=fV fun b=>b 1 ((fun w=>aB (a0.1.toList==a1.1.toList) (G3 56 [a_ a0.2.1,a_ a1.2.1] fun c=>aB c (G3 56 [a_ a0.2.2.1,a_ a1.2.2.1] fun d=>aB d (G3 57 [a_ a0.2.2.2.1,a_ a1.2.2.2.1] fun e=>aB e (aB (a0.2.2.2.2.1==a1.2.2.2.2.1) (aB (a0.2.2.2.2.2.1==a1.2.2.2.2.2.1) (G3 57 [a_ a0.2.2.2.2.2.2.1,a_ a1.2.2.2.2.2.2.1] fun f=>aB f (G3 58 [.sl false 4 a0.2.2.2.2.2.2.2.1,.sl false 4 a1.2.2.2.2.2.2.2.1] fun g=>aB g (G3 59 [.sl false 8 a0.2.2.2.2.2.2.2.2.1,.sl false 8 a1.2.2.2.2.2.2.2.2.1,eu 51] fun a=>some (.bool a,[some [eu 51]])) w) w) w) w) w) w) w) w) (some (.bool false,[some [eu 51]]))):=pI cc
def bD0:KT:=SS.rK Tryz.f56 56 0 []
def bD1:KT:=SS.jK 56 26 0 (cS Tryz.f56 15) bD0
def bD2:KT:=aS 0 bD1
def a2O (a b:ai) (c:Int):R:=SS.LL (SS.ae 56 26) 0 [0,1,12,13] 0 (cS Tryz.f56 75) bD2 ⟨[(0,a_ a),(1,a_ b),(12,aP (a.length:Int)),(13,aP c)],[]⟩
def aOZ (b c:ai) (a:Int):a2O b c a=aB (decide (a<(b.length:Int))) (dD b a fun d=>vS d fun e=>dD c a fun f=>vS f fun g=>aB (!(e.toList==g.toList)) iM (a2O b c (i64.wrap (a+1)))) rC:=ll
def bD3 (a0 a1:ai):SS.CC 56 [a_ a0,a_ a1] []=aB ((a0.length:Int) !=(a1.length:Int)) iM (a2O a0 a1 0):=cc
def bD7:KT:=SS.rK Tryz.f58 58 0 []
def bD8:KT:=SS.jK 58 26 0 (cS Tryz.f58 15) bD7
def bD9:KT:=aS 0 bD8
def a2Q (a b:ai) (c:Int):R:=SS.LL (SS.ae 58 26) 0 [0,1,12,13] 0 (cS Tryz.f58 75) bD9 ⟨[(0,.sl false 4 a),(1,.sl false 4 b),(12,aP (a.length:Int)),(13,aP c)],[]⟩
def aP0 (b e:ai) (a:Int):a2Q b e a=aB (decide (a<(b.length:Int))) (ak S7 b a fun c=>ak S7 e a fun d=>aB (!((c.1.toList==d.1.toList)&&((c.2.1==d.2.1)&&((c.2.2.1==d.2.2.1)&&((c.2.2.2.1==d.2.2.2.1)&&true))))) iM (a2Q b e (i64.wrap (a+1)))) rC:=ll
def bDA (a0 a1:ai):SS.CC 58 [.sl false 4 a0,.sl false 4 a1] []=aB ((a0.length:Int) !=(a1.length:Int)) iM (a2Q a0 a1 0):=cc
def bDB:KT:=SS.rK Tryz.f59 59 0 []
def bDC:KT:=SS.jK 59 32 0 (cS Tryz.f59 15) bDB
def bDD:KT:=aS 0 bDC
def a2R (c a:ai) (b:Int):R:=SS.LL (SS.ae 59 32) 0 [1,2,15,16,17] 0 (cS Tryz.f59 75) bDD ⟨[(1,.sl false 8 c),(2,eu 51),(15,.sl false 8 a),(16,aP (a.length:Int)),(17,aP b)],[]⟩
def aP1 (c b:ai) (a:Int):a2R c b a=aB (decide (a<(b.length:Int))) (ak S9 b a fun f=>ak S9 c a fun d=>G3 51 [A9 f,A9 d] fun e=>aB (!e) iM (a2R c b (i64.wrap (a+1)))) rC:=ll
def bDE (a0 a1:ai):SS.CC 59 [.sl false 8 a0,.sl false 8 a1,eu 51] []=aB ((a0.length:Int) !=(a1.length:Int)) iM (a2R a1 a0 0):=cc
def bDF (a0 a1:Sh.V S8):SS.CC 60 [A8 a0,A8 a1] []=aB (a0.1.toList==a1.1.toList) (aB (a0.2.1.toList==a1.2.1.toList) (G3 56 [a_ a0.2.2.1,a_ a1.2.2.1] fun a=>some (.bool a,[])) iM) iM:=cc
def bDG:KT:=SS.rK Tryz.f61 61 0 []
def bDH:KT:=SS.jK 61 26 0 (cS Tryz.f61 15) bDG
def bDI:KT:=aS 0 bDH
def a2S (a b:ai) (c:Int):R:=SS.LL (SS.ae 61 26) 0 [0,1,12,13] 0 (cS Tryz.f61 75) bDI ⟨[(0,.sl false 5 a),(1,.sl false 5 b),(12,aP (a.length:Int)),(13,aP c)],[]⟩
def aP2 (c d:ai) (a:Int):a2S c d a=aB (decide (a<(c.length:Int))) (ak S4 c a fun b=>ak S4 d a fun u8=>aB (!((b.1.toList==u8.1.toList)&&((b.2.1==u8.2.1)&&((b.2.2.1==u8.2.2.1)&&((b.2.2.2.1==u8.2.2.2.1)&&((b.2.2.2.2.1==u8.2.2.2.2.1)&&true)))))) iM (a2S c d (i64.wrap (a+1)))) rC:=ll
def bDJ (a0 a1:ai):SS.CC 61 [.sl false 5 a0,.sl false 5 a1] []=aB ((a0.length:Int) !=(a1.length:Int)) iM (a2S a0 a1 0):=cc
def bDK:KT:=SS.rK Tryz.f62 62 1 []
def bDL:KT:=SS.jK 62 32 1 (cS Tryz.f62 15) bDK
def bDM:KT:=aS 0 bDL
def Zt (c a:ai) (b:Int):R:=SS.LL (SS.ae 62 32) 1 [1,2,15,16,17] 1 (cS Tryz.f62 75) bDM ⟨[(1,.sl false 9 c),(2,dm 55 [ag]),(15,.sl false 9 a),(16,aP (a.length:Int)),(17,aP b)],[some [eu 51]]⟩
def aP3 (c b:ai) (a:Int):Zt c b a=aB (decide (a<(b.length:Int))) (ak S5 b a fun f=>ak S5 c a fun d=>H27 55 [A5 f,A5 d,ag] [some [eu 51]] fun e=>aB (!e) (some (.bool false,[some [eu 51]])) (Zt c b (i64.wrap (a+1)))) (some (.bool true,[some [eu 51]])):=ll
def bDN (a0 a1:ai):SS.CC 62 [.sl false 9 a0,.sl false 9 a1,dm 55 [ag]] [some [eu 51]]=aB ((a0.length:Int) !=(a1.length:Int)) (some (.bool false,[some [eu 51]])) (Zt a1 a0 0):=cc
def bDO:KT:=SS.rK Tryz.f63 63 0 []
def bDP:KT:=SS.jK 63 32 0 (cS Tryz.f63 15) bDO
def bDQ:KT:=aS 0 bDP
def a2U (c a:ai) (b:Int):R:=SS.LL (SS.ae 63 32) 0 [1,2,15,16,17] 0 (cS Tryz.f63 75) bDQ ⟨[(1,.sl false 3 c),(2,eu 60),(15,.sl false 3 a),(16,aP (a.length:Int)),(17,aP b)],[]⟩
def aP4 (c b:ai) (a:Int):a2U c b a=aB (decide (a<(b.length:Int))) (ak S8 b a fun d=>ak S8 c a fun e=>G3 60 [A8 d,A8 e] fun f=>aB (!f) iM (a2U c b (i64.wrap (a+1)))) rC:=ll
def bDR (a0 a1:ai):SS.CC 63 [.sl false 3 a0,.sl false 3 a1,eu 60] []=aB ((a0.length:Int) !=(a1.length:Int)) iM (a2U a1 a0 0):=cc
def bDS:KT:=SS.rK Tryz.f64 64 0 []
def bDT:KT:=SS.jK 64 32 0 (cS Tryz.f64 15) bDS
def bDU:KT:=aS 0 bDT
def NG (c a:ai) (b:Int):R:=SS.LL (SS.ae 64 32) 0 [1,2,15,16,17] 0 (cS Tryz.f64 75) bDU ⟨[(1,.sl false 2 c),(2,eu 65),(15,.sl false 2 a),(16,aP (a.length:Int)),(17,aP b)],[]⟩
def aP5 (c b:ai) (a:Int):NG c b a=aB (decide (a<(b.length:Int))) (ak lF b a fun d=>ak lF c a fun e=>G3 65 [Ag d,Ag e] fun f=>aB (!f) iM (NG c b (i64.wrap (a+1)))) rC:=ll
def bDV (a0 a1:ai):SS.CC 64 [.sl false 2 a0,.sl false 2 a1,eu 65] []=aB ((a0.length:Int) !=(a1.length:Int)) iM (NG a1 a0 0):=cc
def bDW (a0 a1:Sh.V lF):SS.CC 65 [Ag a0,Ag a1] []=aB (a0.1.toList==a1.1.toList) (G3 66 [.sl false 2 a0.2.1,.sl false 2 a1.2.1] fun a=>some (.bool a,[])) iM:=cc
def bDX:KT:=SS.rK Tryz.f66 66 0 []
def bDY:KT:=SS.jK 66 26 0 (cS Tryz.f66 15) bDX
def bDZ:KT:=aS 0 bDY
def KD (a b:ai) (c:Int):R:=SS.LL (SS.ae 66 26) 0 [0,1,12,13] 0 (cS Tryz.f66 75) bDZ ⟨[(0,.sl false 2 a),(1,.sl false 2 b),(12,aP (a.length:Int)),(13,aP c)],[]⟩
def aP6 (b c:ai) (a:Int):KD b c a=aB (decide (a<(b.length:Int))) (ak Aj b a fun d=>ak Aj c a fun e=>aB (!((d.1.toList==e.1.toList)&&((d.2.1.toList==e.2.1.toList)&&true))) iM (KD b c (i64.wrap (a+1)))) rC:=ll
def bD' (a0 a1:ai):SS.CC 66 [.sl false 2 a0,.sl false 2 a1] []=aB ((a0.length:Int) !=(a1.length:Int)) iM (KD a0 a1 0):=cc
def bE0:KT:=SS.rK Tryz.f67 67 0 []
def bE1:KT:=SS.jK 67 32 0 (cS Tryz.f67 15) bE0
def bE2:KT:=aS 0 bE1
def a2X (c a:ai) (b:Int):R:=SS.LL (SS.ae 67 32) 0 [1,2,15,16,17] 0 (cS Tryz.f67 75) bE2 ⟨[(1,.sl false 3 c),(2,eu 68),(15,.sl false 3 a),(16,aP (a.length:Int)),(17,aP b)],[]⟩
def aP7 (c b:ai) (a:Int):a2X c b a=aB (decide (a<(b.length:Int))) (ak jb b a fun d=>ak jb c a fun e=>G3 68 [xk d,xk e] fun f=>aB (!f) iM (a2X c b (i64.wrap (a+1)))) rC:=ll
def bE3 (a0 a1:ai):SS.CC 67 [.sl false 3 a0,.sl false 3 a1,eu 68] []=aB ((a0.length:Int) !=(a1.length:Int)) iM (a2X a1 a0 0):=cc
def bE8 (a0 a1:Sh.V jb):SS.CC 68 [xk a0,xk a1] []=aB (a0.1.toList==a1.1.toList) (aB (a0.2.2.1==a1.2.2.1) (G3 69 [.sl false 2 a0.2.1,.sl false 2 a1.2.1] fun a=>some (.bool a,[])) iM) iM:=cc
def bE9:KT:=SS.rK Tryz.f69 69 0 []
def bEA:KT:=SS.jK 69 26 0 (cS Tryz.f69 15) bE9
def bEB:KT:=aS 0 bEA
def NH (a b:ai) (c:Int):R:=SS.LL (SS.ae 69 26) 0 [0,1,12,13] 0 (cS Tryz.f69 75) bEB ⟨[(0,.sl false 2 a),(1,.sl false 2 b),(12,aP (a.length:Int)),(13,aP c)],[]⟩
def aP9 (b c:ai) (a:Int):NH b c a=aB (decide (a<(b.length:Int))) (ak Bf b a fun d=>ak Bf c a fun e=>aB (!((d.1.toList==e.1.toList)&&((d.2.1==e.2.1)&&true))) iM (NH b c (i64.wrap (a+1)))) rC:=ll
def bEC (a0 a1:ai):SS.CC 69 [.sl false 2 a0,.sl false 2 a1] []=aB ((a0.length:Int) !=(a1.length:Int)) iM (NH a0 a1 0):=cc
def bIM (a:Sh.V bF) (b:Sh.V aC):SS.CC 48 [ag] [aO a,aA b]=Qo 34 [ag] [aA b] fun c d=>some (.bool (c.2.2.1.1 != 0),[aO a,aA d]):=cc
def CB (f:Sh.V bF) (X:Sh.V aC):SS.CC 49 [ag] [aO f,aA X]=fV fun m=>bW 87 [ag,cEX [101,118,101,110,116]] [aA X] fun b1 Y=>aB b1 (Qq 160 [ag] [aO f,aA Y] fun _ u8 nO=>bi [aO u8,aA nO]) (bW 161 [ag,cEX [116,101,109,112,108,97,116,101]] [aA Y] fun RU q=>aB RU (Ns 159 [aP (f.2.2.1.length:Int),aP 16,ag] [some [.ptr 1 0],dh f,aA q] fun C r t=>aB (!C) (Qq 162 [ag] [aO r,aA t] fun _ D E=>bi [aO D,aA E]) (bi [aO r,aA t])) (bW 161 [ag,cEX [99,111,109,112,111,110,101,110,116]] [aA q] fun F u=>aB F (Ns 159 [aP (f.2.2.2.1.length:Int),aP 32,ag] [some [.ptr 1 0],dh f,aA u] fun G e p=>aB (!G) ((fun c g v w H=>au (au (au c (au c g)) (au (au c g) v)) (au (au (au c (au c g)) (au c (au (au c g) (au c w)))) (au (au (au c g) v) (au (au (au c g) (au c w)) H)))) (mO 163 [ag] [wZ e,aA p] fun h a i=>bJ (decide (e.2.2.2.1.length+1<=aN)) (bi [aO (a.1,a.2.1,a.2.2.1,(e.2.2.2.1 ++ ([A8 h]:ai)),a.2.2.2.2.1,a.2.2.2.2.2.1,a.2.2.2.2.2.2.1,a.2.2.2.2.2.2.2.1,a.2.2.2.2.2.2.2.2.1,()),aA i])) (Hr 163 [ag] [aO e,aA p] fun h a i=>bJ (decide (a.2.2.2.1.length+1<=aN)) (bi [aO (a.1,a.2.1,a.2.2.1,(a.2.2.2.1 ++ ([A8 h]:ai)),a.2.2.2.2.1,a.2.2.2.2.2.1,a.2.2.2.2.2.2.1,a.2.2.2.2.2.2.2.1,a.2.2.2.2.2.2.2.2.1,()),aA i])) (Hr 163 [ag] [aO e,aA p] fun h a i=>m 0 (bJ (decide (a.2.2.2.1.length+1<=aN)) (bi [aO (a.1,a.2.1,a.2.2.1,(a.2.2.2.1 ++ ([A8 h]:ai)),a.2.2.2.2.1,a.2.2.2.2.2.1,a.2.2.2.2.2.2.1,a.2.2.2.2.2.2.2.1,a.2.2.2.2.2.2.2.2.1,()),aA i]))) (Hr 163 [ag] [aO e,aA p] fun h a i=>m 1 (bJ (decide (a.2.2.2.1.length+1<=aN)) (bi [aO (a.1,a.2.1,a.2.2.1,(a.2.2.2.1 ++ ([A8 h]:ai)),a.2.2.2.2.1,a.2.2.2.2.2.1,a.2.2.2.2.2.2.1,a.2.2.2.2.2.2.2.1,a.2.2.2.2.2.2.2.2.1,()),aA i]))) (Hr 163 [ag] [aO e,aA p] fun h a i=>au (m 0 (bJ (decide (a.2.2.2.1.length+1<=aN)) (bi [aO (a.1,a.2.1,a.2.2.1,(a.2.2.2.1 ++ ([A8 h]:ai)),a.2.2.2.2.1,a.2.2.2.2.2.1,a.2.2.2.2.2.2.1,a.2.2.2.2.2.2.2.1,a.2.2.2.2.2.2.2.2.1,()),aA i]))) (m 1 (bJ (decide (a.2.2.2.1.length+1<=aN)) (bi [aO (a.1,a.2.1,a.2.2.1,(a.2.2.2.1 ++ ([A8 h]:ai)),a.2.2.2.2.1,a.2.2.2.2.2.1,a.2.2.2.2.2.2.1,a.2.2.2.2.2.2.2.1,a.2.2.2.2.2.2.2.2.1,()),aA i]))))) (bi [aO e,aA p])) (bW 161 [ag,cEX [114,101,113,117,105,114,101,109,101,110,116]] [aA u] fun I x=>aB I (Ns 159 [aP (f.2.2.2.2.1.length:Int),aP 32,ag] [some [.ptr 1 0],dh f,aA x] fun J n d=>aB (!J) ((fun c g v w H=>au (au (au c (au c g)) (au (au c g) v)) (au (au (au c (au c g)) (au c (au (au c g) (au c w)))) (au (au (au c g) v) (au (au (au c g) (au c w)) H)))) (H60 163 [ag] [wo n,aA d] fun j b l=>bJ (decide (n.2.2.2.2.1.length+1<=aN)) (bi [aO (b.1,b.2.1,b.2.2.1,b.2.2.2.1,(n.2.2.2.2.1 ++ ([A8 j]:ai)),b.2.2.2.2.2.1,b.2.2.2.2.2.2.1,b.2.2.2.2.2.2.2.1,b.2.2.2.2.2.2.2.2.1,()),aA l])) (Hr 163 [ag] [aO n,aA d] fun j b l=>bJ (decide (b.2.2.2.2.1.length+1<=aN)) (bi [aO (b.1,b.2.1,b.2.2.1,b.2.2.2.1,(b.2.2.2.2.1 ++ ([A8 j]:ai)),b.2.2.2.2.2.1,b.2.2.2.2.2.2.1,b.2.2.2.2.2.2.2.1,b.2.2.2.2.2.2.2.2.1,()),aA l])) (Hr 163 [ag] [aO n,aA d] fun j b l=>m 0 (bJ (decide (b.2.2.2.2.1.length+1<=aN)) (bi [aO (b.1,b.2.1,b.2.2.1,b.2.2.2.1,(b.2.2.2.2.1 ++ ([A8 j]:ai)),b.2.2.2.2.2.1,b.2.2.2.2.2.2.1,b.2.2.2.2.2.2.2.1,b.2.2.2.2.2.2.2.2.1,()),aA l]))) (Hr 163 [ag] [aO n,aA d] fun j b l=>m 1 (bJ (decide (b.2.2.2.2.1.length+1<=aN)) (bi [aO (b.1,b.2.1,b.2.2.1,b.2.2.2.1,(b.2.2.2.2.1 ++ ([A8 j]:ai)),b.2.2.2.2.2.1,b.2.2.2.2.2.2.1,b.2.2.2.2.2.2.2.1,b.2.2.2.2.2.2.2.2.1,()),aA l]))) (Hr 163 [ag] [aO n,aA d] fun j b l=>au (m 0 (bJ (decide (b.2.2.2.2.1.length+1<=aN)) (bi [aO (b.1,b.2.1,b.2.2.1,b.2.2.2.1,(b.2.2.2.2.1 ++ ([A8 j]:ai)),b.2.2.2.2.2.1,b.2.2.2.2.2.2.1,b.2.2.2.2.2.2.2.1,b.2.2.2.2.2.2.2.2.1,()),aA l]))) (m 1 (bJ (decide (b.2.2.2.2.1.length+1<=aN)) (bi [aO (b.1,b.2.1,b.2.2.1,b.2.2.2.1,(b.2.2.2.2.1 ++ ([A8 j]:ai)),b.2.2.2.2.2.1,b.2.2.2.2.2.2.1,b.2.2.2.2.2.2.2.1,b.2.2.2.2.2.2.2.2.1,()),aA l]))))) (bi [aO n,aA d])) (bW 161 [ag,cEX [101,120,99,108,117,100,101]] [aA x] fun K Z=>aB K (Ns 159 [aP (f.2.2.2.2.2.1.length:Int),aP 32,ag] [some [.ptr 1 0],dh f,aA Z] fun L y z=>aB (!L) (Qq 164 [ag] [aO y,aA z] fun _ M N=>bi [aO M,aA N]) (bi [aO y,aA z])) (bW 161 [ag,cEX [108,105,109,105,116]] [aA Z] fun O A=>aB O (Ns 159 [aP (f.2.2.2.2.2.2.1.length:Int),aP 32,ag] [some [.ptr 1 0],dh f,aA A] fun Q B o=>aB (!Q) (Qq 165 [ag] [aO B,aA o] fun _ S T=>bi [aO S,aA T]) (bi [aO B,aA o])) (bP 32 [ag,aP 14] [aA A] fun _ U=>bi [aO f,aA U])))))):=pI cc
def bIX (b:Sh.V Bg) (c:Sh.V jT) (d:Sh.V aC):SS.CC 89 [ag,.ptr 1 0] [some [.ptr 2 0],some [.ptr 3 0],mQ b,bU c,aA d]=Jn 90 [ag,.ptr 1 0] [ah b,bU c,aA d] fun _ e f a=>bi [some [.ptr 2 0],some [.ptr 3 0],mQ e,bU f,aA a]:=cc
def bJ0 (b:Sh.V Bg) (c:Sh.V jT) (d:Sh.V aC):SS.CC 91 [ag,.ptr 1 0] [some [.ptr 2 0],some [.ptr 3 0],mQ b,bU c,aA d]=Jn 92 [ag,.ptr 1 0] [ah b,bU c,aA d] fun _ e f a=>bi [some [.ptr 2 0],some [.ptr 3 0],mQ e,bU f,aA a]:=cc
def aQE:KT:=SS.rK Tryz.f92 92 3 []
def bJ2:KT:=SS.jK 92 87 3 (cS Tryz.f92 127) aQE
def bJ3:KT:=aS 0 bJ2
def Az (a:Sh.V dH) (b:Sh.V jT) (c:Sh.V aC) (d:Sh.V dW) (e:Bool):R:=SS.LL (SS.ae 92 87) 3 [1,2,4,5] 6 (cS Tryz.f92 287) bJ3 ⟨[(1,.ptr 1 0),(2,.ptr 3 0),(4,.ptr 4 0),(5,.ptr 5 0)],[ah a,bU b,aA c,some [ag],dP d,jR (e,())]⟩
def SQ (a:Sh.V dH) (b:Sh.V jT) (c:Sh.V aC) (d:Sh.V dW):R:=bD (SS.xX 92 87 3) (cS Tryz.f92 127) aQE ⟨[(1,.ptr 1 0),(2,.ptr 3 0),(4,.ptr 4 0)],[ah a,bU b,aA c,some [ag],dP d]⟩
def aC2 (v:Sh.V dH) (a:Sh.V jT) (w:Sh.V aC) (b:Sh.V dW) (d:Bool):Az v a w b d=VU 29 [ag] [bH v,aA w] fun A c x=>aB A (bW 161 [ag,cEX [125]] [aA x] fun g e=>aB (!g) (bW 87 [ag,cEX [108,111,99,97,116,105,111,110]] [aA e] fun h y=>aB h (H80 196 [ag,.ptr 1 0,.ptr 2 0] [gu c,dP b,jR (d,()),aA y] fun _ i j l m=>Az i a m j l.1) (bW 87 [ag,cEX [118,97,114]] [aA y] fun n z=>aB n (VZ 197 [ag,.ptr 1 0] [ah c,dP b,aA z] fun _ o p q=>Az o a q p d) (bW 87 [ag,cEX [101,100,103,101]] [aA z] fun r f=>aB r (VZ 198 [ag,.ptr 1 0] [ah c,dP b,aA f] fun _ t u B=>Az t a B u d) (bP 32 [ag,aP 14] [aA f] fun _ C=>Az c a C b d)))) (SQ c a e b)) (SQ c a x b):=ll
def bJ1 (c:Sh.V dH) (b:Sh.V jT) (d:Sh.V aC) (a:Sh.V dW):SQ c b d a=bP 27 [ag,cEX [125]] [aA d] fun _ e=>G4 199 [aP (a.2.2.1.length:Int)] fun f=>bJ (decide (b.2.2.1.length+1<=aN)) (bi [ah c,bU (b.1,b.2.1,(b.2.2.1 ++ ([A5 (a.1,a.2.1,a.2.2.1,f,(a.2.1.length:Int),a.2.2.2.2.2.1,a.2.2.2.2.2.2.1,a.2.2.2.2.2.2.2.1,a.2.2.2.2.2.2.2.2.1,())]:ai)),b.2.2.2.1,b.2.2.2.2.1,b.2.2.2.2.2.1,b.2.2.2.2.2.2.1,()),aA e]):=by kernel_rfl
def bJ4 (f:Sh.V dH) (a:Sh.V jT) (g:Sh.V aC):SS.CC 92 [ag,.ptr 1 0] [ah f,bU a,aA g]=fV fun h=>G4 102 [.sl false 9 a.2.2.1,eu 193] fun i=>h 1 (FN 188 [ag,a_ i] [bH f,aA g] fun j l m=>H83 194 [ag,dm 195 [.ptr 1 0,.ptr 2 0]] [gu l,dP (j,[],[],[],0,0,[],[],[],()),some [ag],aA m] fun _ b c d=>bP 27 [ag,cEX [123]] [aA d] fun _ e=>Az b a e c false):=pI cc
def bJ5 (b:Sh.V Bg) (c:Sh.V jT) (d:Sh.V aC):SS.CC 93 [ag,.ptr 1 0] [some [.ptr 2 0],some [.ptr 3 0],mQ b,bU c,aA d]=Jn 94 [ag,.ptr 1 0,.ptr 1 3] [ah b,bU c,aA d] fun _ e f a=>bi [some [.ptr 2 0],some [.ptr 3 0],mQ e,bU f,aA a]:=cc
def bJ7 (h:Sh.V dH) (a:Sh.V jT) (i:Sh.V aC):SS.CC 94 [ag,.ptr 1 0,.ptr 1 4] [ah h,bU a,aA i]=fV fun l=>Ho 76 [.sl false 3 a.2.2.2.1] fun j=>bJ (decide (j.length+a.2.2.2.2.1.length<=aN)) (G4 100 [.sl false 3 (j ++ a.2.2.2.2.1),eu 200] fun m=>l 1 (FN 188 [ag,a_ m] [bH h,aA i] fun n o u8=>bP 27 [ag,cEX [61]] [aA u8] fun _ b=>lD 28 [ag] [aA b] fun c d=>H84 194 [ag,dm 201 [.ptr 1 0,.ptr 2 0]] [gu o,dA (n,c,[],()),some [ag],aA d] fun _ e f u32=>bP 27 [ag,cEX [59]] [aA u32] fun _ g=>bJ (decide (a.2.2.2.2.1.length+1<=aN)) (bi [ah e,bU (a.1,a.2.1,a.2.2.1,a.2.2.2.1,(a.2.2.2.2.1 ++ ([A8 f]:ai)),a.2.2.2.2.2.1,a.2.2.2.2.2.2.1,()),aA g]))):=pI cc
def bJ6 (h:Sh.V dH) (a:Sh.V jT) (i:Sh.V aC):SS.CC 94 [ag,.ptr 1 0,.ptr 1 3] [ah h,bU a,aA i]=fV fun l=>Ho 76 [.sl false 3 a.2.2.2.1] fun j=>bJ (decide (j.length+a.2.2.2.2.1.length<=aN)) (G4 100 [.sl false 3 (j ++ a.2.2.2.2.1),eu 200] fun m=>l 1 (FN 188 [ag,a_ m] [bH h,aA i] fun n o u8=>bP 27 [ag,cEX [61]] [aA u8] fun _ b=>lD 28 [ag] [aA b] fun c d=>H84 194 [ag,dm 201 [.ptr 1 0,.ptr 2 0]] [gu o,dA (n,c,[],()),some [ag],aA d] fun _ e f u32=>bP 27 [ag,cEX [59]] [aA u32] fun _ g=>bJ (decide (a.2.2.2.1.length+1<=aN)) (bi [ah e,bU (a.1,a.2.1,a.2.2.1,(a.2.2.2.1 ++ ([A8 f]:ai)),a.2.2.2.2.1,a.2.2.2.2.2.1,a.2.2.2.2.2.2.1,()),aA g]))):=pI cc
def bJ8 (b:Sh.V Bg) (c:Sh.V jT) (d:Sh.V aC):SS.CC 95 [ag,.ptr 1 0] [some [.ptr 2 0],some [.ptr 3 0],mQ b,bU c,aA d]=Jn 94 [ag,.ptr 1 0,.ptr 1 4] [ah b,bU c,aA d] fun _ e f a=>bi [some [.ptr 2 0],some [.ptr 3 0],mQ e,bU f,aA a]:=cc
def bJ9 (b:Sh.V Bg) (c:Sh.V jT) (d:Sh.V aC):SS.CC 96 [ag,.ptr 1 0] [some [.ptr 2 0],some [.ptr 3 0],mQ b,bU c,aA d]=Jn 97 [ag,.ptr 1 0] [ah b,bU c,aA d] fun _ e f a=>bi [some [.ptr 2 0],some [.ptr 3 0],mQ e,bU f,aA a]:=cc
def bJA (f:Sh.V dH) (a:Sh.V jT) (g:Sh.V aC):SS.CC 97 [ag,.ptr 1 0] [ah f,bU a,aA g]=fV fun h=>G4 104 [.sl false 2 a.2.2.2.2.2.1,eu 202] fun i=>h 1 (FN 188 [ag,a_ i] [bH f,aA g] fun j l m=>bP 27 [ag,cEX [58]] [aA m] fun _ b=>H86 203 [ag,dm 204 [.ptr 1 0,.ptr 2 0]] [aA b,some [.ptr 3 0],lg (j,[],()),lh l] fun _ n c d=>bP 27 [ag,cEX [59]] [aA n] fun _ e=>bJ (decide (a.2.2.2.2.2.1.length+1<=aN)) (bi [ah d,bU (a.1,a.2.1,a.2.2.1,a.2.2.2.1,a.2.2.2.2.1,(a.2.2.2.2.2.1 ++ ([Ag c]:ai)),a.2.2.2.2.2.2.1,()),aA e])):=pI cc
def bJB (b:Sh.V Bg) (c:Sh.V jT) (d:Sh.V aC):SS.CC 98 [ag,.ptr 1 0] [some [.ptr 2 0],some [.ptr 3 0],mQ b,bU c,aA d]=Jn 99 [ag,.ptr 1 0] [ah b,bU c,aA d] fun _ e f a=>bi [some [.ptr 2 0],some [.ptr 3 0],mQ e,bU f,aA a]:=cc
def aQF:KT:=SS.rK Tryz.f99 99 3 []
def bJD:KT:=SS.jK 99 73 3 (cS Tryz.f99 15) aQF
def bJE:KT:=aS 0 bJD
def XJ (a:Sh.V dH) (b:Sh.V jT) (c:Sh.V aC) (d:b_) (e:Bool) (f:ai):R:=SS.LL (SS.ae 99 73) 3 [0,1,4,5] 4 (cS Tryz.f99 75) bJE ⟨[(0,ag),(1,.ptr 1 0),(4,.ptr 3 0),(5,.bool e)],[ah a,bU b,aA c,O64 (d,f,0,())]⟩
def XI (a:Sh.V dH) (b:Sh.V jT) (c:Sh.V aC) (d:b_) (e:ai):R:=bD (SS.xX 99 73 3) (cS Tryz.f99 15) aQF ⟨[(0,ag),(1,.ptr 1 0),(4,.ptr 3 0)],[ah a,bU b,aA c,O64 (d,e,0,())]⟩
theorem aC3 (d:Sh.V dH) (b:Sh.V jT) (e:Sh.V aC) (c:b_) (n:Bool) (a:ai):XJ d b e c n a=aB n (VU 29 [ag] [bH d,aA e] fun q o p=>aB q (Dn 206 [ag] [bH o,aA p] fun f g h=>bP 27 [ag,cEX [42]] [aA h] fun _ r=>lD 28 [ag] [aA r] fun i j=>bJ (decide (a.length+1<=aN)) (bW 87 [ag,cEX [43]] [aA j] fun l m=>XJ g b m c l (a ++ ([VJ (i,f,())]:ai)))) (XI o b p c a)) (XI d b e c a):=ll
def bJC (c:Sh.V dH) (a:Sh.V jT) (d:Sh.V aC) (e:b_) (f:ai):XI c a d e f=bP 27 [ag,cEX [60,61]] [aA d] fun _ g=>Dn 206 [ag] [bH c,aA g] fun h u8 b=>bP 27 [ag,cEX [59]] [aA b] fun _ u16=>bJ (decide (a.2.2.2.2.2.2.1.length+1<=aN)) (bi [ah u8,bU (a.1,a.2.1,a.2.2.1,a.2.2.2.1,a.2.2.2.2.1,a.2.2.2.2.2.1,(a.2.2.2.2.2.2.1 ++ ([xk (e,f,h,())]:ai)),()),aA u16]):=by kernel_rfl
def bJF (c:Sh.V dH) (a:Sh.V jT) (d:Sh.V aC):SS.CC 99 [ag,.ptr 1 0] [ah c,bU a,aA d]=G4 106 [.sl false 3 a.2.2.2.2.2.2.1,eu 205] fun e=>FN 188 [ag,a_ e] [bH c,aA d] fun f g h=>bP 27 [ag,cEX [58]] [aA h] fun _ b=>XJ g a b f true []:=cc
def bKV:KT:=SS.rK Tryz.f159 159 3 []
def aC6 (a b:Int) (c:Sh.V kC) (d:Sh.V aC):R:=bD (SS.xX 159 22 3) (cS Tryz.f159 7) bKV ⟨[(0,aP a),(1,aP b),(2,ag)],[some [.ptr 1 0],dh c,aA d]⟩
def aQW (a b:Int) (c:Sh.V kC) (d:Sh.V aC):aC6 a b c d=fU 88 [ag] [aA d] fun f e=>some (.bool (a==b),[some [.ptr 1 0],dh c,aA e]):=by kernel_rfl
def aQX (a0 a1:Int) (a:Sh.V kC) (b:Sh.V aC):SS.CC 159 [aP a0,aP a1,ag] [some [.ptr 1 0],dh a,aA b]=aB (a0==a1) (bP 32 [ag,aP 3] [aA b] fun _ c=>aC6 a0 a1 a c) (aC6 a0 a1 a b):=cc
def XR:KT:=SS.rK Tryz.f162 162 2 []
def bL4:KT:=SS.jK 162 259 2 (cS Tryz.f162 15) XR
def bL6:KT:=aS 0 bL4
def bL7:KT:=SS.jK 162 259 2 (cS Tryz.f162 4095) XR
def aQ':KT:=aS 2 bL7
def bL8:KT:=SS.lK 162 259 2 [1,5,6,56] 4 (cS Tryz.f162 9215) aQ'
def bL9:KT:=aS 3 bL8
def aC7:KT:=aS 4 bL9
def bLA:KT:=SS.jK 162 259 2 (cS Tryz.f162 1909759) aC7
def bLB:KT:=SS.jK 162 259 2 (cS Tryz.f162 16383) XR
def bL5:KT:=aS 5 bLB
def Si (a:Sh.V bF) (c:Sh.V aC) (d:ai) (b:Int):R:=SS.LL (SS.ae 162 259) 2 [1,2,13,14,15,56] 3 (cS Tryz.f162 75) bL6 ⟨[(1,.ptr 2 0),(2,.sl true 1 d),(13,.sl false 9 a.2.2.1),(14,aP (a.2.2.1.length:Int)),(15,aP b)],[aO a,aA c,some [ag]]⟩
def a3W (a:Sh.V bF) (b:Sh.V aC) (c:Sh.V dW):R:=bD (SS.xX 162 259 2) (cS Tryz.f162 127) XR ⟨[(1,.ptr 2 0),(5,.ptr 3 0)],[aO a,aA b,some [ag],dP c]⟩
def ry (a:Sh.V bF) (b:Sh.V aC) (c:Sh.V dW) (d:Bool):R:=SS.LL (SS.ae 162 259) 2 [1,5,6,56] 4 (cS Tryz.f162 9215) aQ' ⟨[(1,.ptr 2 0),(5,.ptr 3 0),(6,.bool d),(56,ag)],[aO a,aA b,some [ag],dP c]⟩
def SX (a:Sh.V bF) (b:Sh.V aC) (c:Sh.V dW):R:=bD (SS.xX 162 259 2) (cS Tryz.f162 13968383) bLA ⟨[(1,.ptr 2 0),(5,.ptr 3 0),(56,ag)],[aO a,aA b,some [ag],dP c]⟩
def XQ (a:Sh.V bF) (b:Sh.V aC) (c:Sh.V dW) (d:Bool):R:=bD (SS.xX 162 259 2) (cS Tryz.f162 1909759) aC7 ⟨[(1,.ptr 2 0),(5,.ptr 3 0),(6,.bool d),(56,ag)],[aO a,aA b,some [ag],dP c]⟩
def Kv (a:Sh.V bF) (b:Sh.V aC) (c:Sh.V dW) (d:Bool):R:=bD (SS.xX 162 259 2) (cS Tryz.f162 3613695) aC7 ⟨[(1,.ptr 2 0),(5,.ptr 3 0),(6,.bool d),(56,ag)],[aO a,aA b,some [ag],dP c]⟩
def SY (a:Sh.V bF) (b:Sh.V aC) (c:Sh.V dW):R:=bD (SS.xX 162 259 2) (cS Tryz.f162 4095) XR ⟨[(1,.ptr 2 0),(5,.ptr 3 0),(56,ag)],[aO a,aA b,some [ag],dP c]⟩
def a3Y (c:Sh.V bF) (d:Sh.V aC) (e:b_) (a b f:ai) (g:Int) (h i j:ai) (l:Int):R:=SS.LL (SS.ae 162 259) 2 [1,5,56,234,235] 4 (cS Tryz.f162 77823) bL5 ⟨[(1,.ptr 2 0),(5,.ptr 3 0),(56,ag),(234,aP (b.length:Int)),(235,aP l)],[aO c,aA d,some [ag],dP (e,a,b,f,(a.length:Int),g,h,i,j,())]⟩
def aR1 (b:Sh.V bF) (f:Sh.V aC) (e:ai) (a:Int):Si b f e a=aB (decide (a<(b.2.2.1.length:Int))) (ak S5 b.2.2.1 a fun n=>bJ (decide (e.length+1<=aN)) (Si b f (e ++ ([.str n.1]:ai)) (i64.wrap (a+1)))) (FK 243 [ag,a_ e] [aO b,aA f] fun uA c g=>bP 27 [ag,cEX [40]] [aA g] fun _ h=>bW 161 [ag,cEX [41]] [aA h] fun i d=>aB (!i) (H70 203 [ag,dm 244 [.ptr 1 0,.ptr 2 0]] [aA d,dP (uA,[],[],[],0,0,[],[],[],()),some [.ptr 3 0],kW c] fun _ j l m=>a3W m j l) (a3W c d (uA,[],[],[],0,0,[],[],[],()))):=ll
def bK' (a:Sh.V bF) (b:Sh.V aC) (c:Sh.V dW):a3W a b c=bP 27 [ag,cEX [41]] [aA b] fun _ d=>bP 27 [ag,cEX [123]] [aA d] fun _ e=>ry (a.1,a.2.1,a.2.2.1,a.2.2.2.1,a.2.2.2.2.1,a.2.2.2.2.2.1,a.2.2.2.2.2.2.1,[],a.2.2.2.2.2.2.2.2.1,()) e c false:=by kernel_rfl
def a3X (y:Sh.V bF) (z:Sh.V aC) (a:Sh.V dW) (b:Bool):ry y z a b=fV fun A=>Di 48 [ag] [aO y,aA z] fun D c f=>aB (!D) (bW 87 [ag,cEX [125]] [aA f] fun l B=>aB (!l) (bW 87 [ag,cEX [108,111,99,97,116,105,111,110]] [aA B] fun E g=>aB E ((fun w=>(fun d h=>au d (au (au d h) (au d h))) w (A 1 w)) (FK 243 [ag,a_ a.2.1] [aO c,aA g] fun m u32 F=>bJ (decide (a.2.1.length+1<=aN)) (bW 161 [ag,cEX [105,110,105,116,105,97,108]] [aA F] fun n e=>aB n (aB b (bP 32 [ag,aP 8] [aA e] fun _ G=>SX u32 G (a.1,(a.2.1 ++ ([.str m]:ai)),a.2.2.1,a.2.2.2.1,a.2.2.2.2.1,a.2.2.2.2.2.1,a.2.2.2.2.2.2.1,a.2.2.2.2.2.2.2.1,a.2.2.2.2.2.2.2.2.1,())) (SX u32 e (a.1,(a.2.1 ++ ([.str m]:ai)),a.2.2.1,a.2.2.2.1,a.2.2.2.2.1,a.2.2.2.2.2.1,a.2.2.2.2.2.2.1,a.2.2.2.2.2.2.2.1,a.2.2.2.2.2.2.2.2.1,()))) (XQ u32 e (a.1,(a.2.1 ++ ([.str m]:ai)),a.2.2.1,a.2.2.2.1,a.2.2.2.2.1,a.2.2.2.2.2.1,a.2.2.2.2.2.2.1,a.2.2.2.2.2.2.2.1,a.2.2.2.2.2.2.2.2.1,()) b)))) (bW 87 [ag,cEX [118,97,114]] [aA g] fun o i=>aB o (bW 161 [ag,cEX [116,114,117,101]] [aA i] fun p j=>aB p (bP 32 [ag,aP 7] [aA j] fun _ H=>Kv c H a b) (bW 161 [ag,cEX [102,97,108,115,101]] [aA j] fun q C=>aB q (bP 32 [ag,aP 7] [aA C] fun _ I=>Kv c I a b) (Kv c C a b))) (bW 87 [ag,cEX [101,100,103,101]] [aA i] fun r t=>aB r ((fun d h=>au d (au (au d h) (au d h))) (H71 246 [ag,A5 a] [aO c,aA t] fun u v x=>bJ (decide (a.2.2.2.2.2.2.2.2.1.length+1<=aN)) (ry v x (a.1,a.2.1,a.2.2.1,a.2.2.2.1,a.2.2.2.2.1,a.2.2.2.2.2.1,a.2.2.2.2.2.2.1,a.2.2.2.2.2.2.2.1,(a.2.2.2.2.2.2.2.2.1 ++ ([A9 u]:ai)),()) b)) (A 1 (H71 246 [ag,A5 a] [aO c,aA t] fun u v x=>bJ (decide (a.2.2.2.2.2.2.2.2.1.length+1<=aN)) (ry v x (a.1,a.2.1,a.2.2.1,a.2.2.2.1,a.2.2.2.2.1,a.2.2.2.2.2.1,a.2.2.2.2.2.2.1,a.2.2.2.2.2.2.2.1,(a.2.2.2.2.2.2.2.2.1 ++ ([A9 u]:ai)),()) b)))) (bP 32 [ag,aP 14] [aA t] fun _ J=>ry c J a b)))) (SY c B a)) (SY c f a):=pI ll
def bL0 (b:Sh.V bF) (c:Sh.V aC) (a:Sh.V dW):SX b c a=fU 88 [ag] [aA c] fun e d=>XQ b d (a.1,a.2.1,a.2.2.1,a.2.2.2.1,a.2.2.2.2.1,i64.wrap ((a.2.1.length:Int)-1),a.2.2.2.2.2.2.1,a.2.2.2.2.2.2.2.1,a.2.2.2.2.2.2.2.2.1,()) true:=by kernel_rfl
def bL1 (b:Sh.V bF) (e:Sh.V aC) (a:Sh.V dW) (c:Bool):XQ b e a c=bW 87 [ag,cEX [109,97,114,107,101,100]] [aA e] fun g f=>aB g (bJ (decide (a.2.2.2.2.2.2.1.length+1<=aN)) (bP 27 [ag,cEX [59]] [aA f] fun _ u8=>ry b u8 (a.1,a.2.1,a.2.2.1,a.2.2.2.1,a.2.2.2.2.1,a.2.2.2.2.2.1,(a.2.2.2.2.2.2.1 ++ ([aP (i64.wrap ((a.2.1.length:Int)-1))]:ai)),a.2.2.2.2.2.2.2.1,a.2.2.2.2.2.2.2.2.1,()) c)) (bP 27 [ag,cEX [59]] [aA f] fun _ d=>ry b d a c):=by kernel_rfl
def bL2 (c:Sh.V bF) (o:Sh.V aC) (b:Sh.V dW) (p:Bool):Kv c o b p=fV fun q=>(fun w=>au (q 1 w) w) (FK 243 [ag,a_ c.2.2.2.2.2.2.2.1] [aO c,aA o] fun s1 r d=>bP 27 [ag,cEX [58]] [aA d] fun _ t=>Dl 245 [ag] [aO r,aA t] fun e f g=>bP 27 [ag,cEX [46,46]] [aA g] fun _ u=>Dl 245 [ag] [aO f,aA u] fun h i j=>bP 27 [ag,cEX [61]] [aA j] fun _ l=>Dl 245 [ag] [aO i,aA l] fun m a v=>bP 27 [ag,cEX [59]] [aA v] fun _ n=>bJ (decide (a.2.2.2.2.2.2.2.1.length+1<=aN)) (bJ (decide (b.2.2.2.2.2.2.2.1.length+1<=aN)) (ry (a.1,a.2.1,a.2.2.1,a.2.2.2.1,a.2.2.2.2.1,a.2.2.2.2.2.1,a.2.2.2.2.2.2.1,(a.2.2.2.2.2.2.2.1 ++ ([.str s1]:ai)),a.2.2.2.2.2.2.2.2.1,()) n (b.1,b.2.1,b.2.2.1,b.2.2.2.1,b.2.2.2.2.1,b.2.2.2.2.2.1,b.2.2.2.2.2.2.1,(b.2.2.2.2.2.2.2.1 ++ ([A7 (s1,e,h,m,())]:ai)),b.2.2.2.2.2.2.2.2.1,()) p))):=pI (by kernel_rfl)
def bL3 (b:Sh.V bF) (c:Sh.V aC) (a:Sh.V dW):SY b c a=a3Y b c a.1 a.2.1 a.2.2.1 a.2.2.2.1 a.2.2.2.2.2.1 a.2.2.2.2.2.2.1 a.2.2.2.2.2.2.2.1 a.2.2.2.2.2.2.2.2.1 0:=by kernel_rfl
def aR0 (a:Sh.V bF) (f:Sh.V aC) (g:b_) (b c d:ai) (h:Int) (i j l:ai) (e:Int):a3Y a f g b c d h i j l e=aB (decide (e<(c.length:Int))) (bJ (decide (d.length+1<=aN)) (a3Y a f g b c (d ++ ([aP e]:ai)) h i j l (i64.wrap (e+1)))) (bJ (decide (a.2.2.1.length+1<=aN)) (bi [aO (a.1,a.2.1,(a.2.2.1 ++ ([A5 (g,b,c,d,(b.length:Int),h,i,j,l,())]:ai)),a.2.2.2.1,a.2.2.2.2.1,a.2.2.2.2.2.1,a.2.2.2.2.2.2.1,a.2.2.2.2.2.2.2.1,a.2.2.2.2.2.2.2.2.1,()),aA f])):=ll
def bLC (a:Sh.V bF) (b:Sh.V aC):SS.CC 162 [ag] [aO a,aA b]=Si a b [] 0:=cc
def aR6:KT:=SS.rK Tryz.f163 163 2 []
def bLM:KT:=SS.jK 163 73 2 (cS Tryz.f163 15) aR6
def bLN:KT:=aS 0 bLM
def Sm (d:Sh.V uM) (e:Sh.V aC) (a:ai) (b:Int) (f:ai) (c:Int):R:=SS.LL (SS.ae 163 73) 2 [1,2,3,18,19,20] 4 (cS Tryz.f163 75) bLN ⟨[(1,.ptr 2 0),(2,.ptr 3 0),(3,.sl true 1 f),(18,.sl true 3 a),(19,aP b),(20,aP c)],[wZ d,aA e,some [ag],dA (⟨#[]⟩,⟨#[]⟩,[],())]⟩
def WE (a:Sh.V uM) (b:Sh.V aC) (c:Sh.V dn):R:=bD (SS.xX 163 73 2) (cS Tryz.f163 511) aR6 ⟨[(1,.ptr 2 0),(2,.ptr 3 0),(6,.ptr 4 0)],[wZ a,aA b,some [ag],dA (⟨#[]⟩,⟨#[]⟩,[],()),dA c]⟩
def aR7 (e:Sh.V uM) (f:Sh.V aC) (b:ai) (c:Int) (d:ai) (a:Int):Sm e f b c d a=aB (decide (a<c)) (ak S8 b a fun q=>bJ (decide (d.length+1<=aN)) (Sm e f b c (d ++ ([.str q.1]:ai)) (i64.wrap (a+1)))) (H73 243 [ag,a_ d] [wZ e,aA f] fun m n g=>bP 27 [ag,cEX [61]] [aA g] fun _ h=>lD 28 [ag] [aA h] fun o i=>bP 27 [ag,cEX [40]] [aA i] fun _ j=>bW 161 [ag,cEX [41]] [aA j] fun r p=>aB (!r) (H74 203 [ag,dm 247 [.ptr 1 0,.ptr 2 0]] [aA p,dA (m,o,[],()),some [.ptr 3 0],FW n] fun _ t l u=>WE u t l) (WE n p (m,o,[],()))):=ll
def bLL (a:Sh.V uM) (b:Sh.V aC) (c:Sh.V dn):WE a b c=bP 27 [ag,cEX [41]] [aA b] fun _ d=>bP 27 [ag,cEX [59]] [aA d] fun _ e=>some (A8 c,[wZ a,aA e]):=by kernel_rfl
def bLO (a:Sh.V uM) (c:Sh.V aC):SS.CC 163 [ag] [wZ a,aA c]=Ho 76 [.sl false 3 a.2.2.2.1] fun b=>bJ (decide (b.length+a.2.2.2.2.1.length<=aN)) (Sm a c (b ++ a.2.2.2.2.1) ((b ++ a.2.2.2.2.1).length:Int) [] 0):=cc
def aR2:KT:=SS.rK Tryz.f163 163 2 []
def bLE:KT:=SS.jK 163 73 2 (cS Tryz.f163 15) aR2
def bLF:KT:=aS 0 bLE
def Sj (d:Sh.V bF) (e:Sh.V aC) (a:ai) (b:Int) (f:ai) (c:Int):R:=SS.LL (SS.ae 163 73) 2 [1,2,3,18,19,20] 4 (cS Tryz.f163 75) bLF ⟨[(1,.ptr 2 0),(2,.ptr 3 0),(3,.sl true 1 f),(18,.sl true 3 a),(19,aP b),(20,aP c)],[aO d,aA e,some [ag],dA (⟨#[]⟩,⟨#[]⟩,[],())]⟩
def a3Z (a:Sh.V bF) (b:Sh.V aC) (c:Sh.V dn):R:=bD (SS.xX 163 73 2) (cS Tryz.f163 511) aR2 ⟨[(1,.ptr 2 0),(2,.ptr 3 0),(6,.ptr 4 0)],[aO a,aA b,some [ag],dA (⟨#[]⟩,⟨#[]⟩,[],()),dA c]⟩
def aR3 (e:Sh.V bF) (f:Sh.V aC) (b:ai) (c:Int) (d:ai) (a:Int):Sj e f b c d a=aB (decide (a<c)) (ak S8 b a fun q=>bJ (decide (d.length+1<=aN)) (Sj e f b c (d ++ ([.str q.1]:ai)) (i64.wrap (a+1)))) (FK 243 [ag,a_ d] [aO e,aA f] fun m n g=>bP 27 [ag,cEX [61]] [aA g] fun _ h=>lD 28 [ag] [aA h] fun o i=>bP 27 [ag,cEX [40]] [aA i] fun _ j=>bW 161 [ag,cEX [41]] [aA j] fun r p=>aB (!r) (H75 203 [ag,dm 247 [.ptr 1 0,.ptr 2 0]] [aA p,dA (m,o,[],()),some [.ptr 3 0],kW n] fun _ t l u=>a3Z u t l) (a3Z n p (m,o,[],()))):=ll
def bLD (a:Sh.V bF) (b:Sh.V aC) (c:Sh.V dn):a3Z a b c=bP 27 [ag,cEX [41]] [aA b] fun _ d=>bP 27 [ag,cEX [59]] [aA d] fun _ e=>some (A8 c,[aO a,aA e]):=by kernel_rfl
def bLG (a:Sh.V bF) (c:Sh.V aC):SS.CC 163 [ag] [aO a,aA c]=Ho 76 [.sl false 3 a.2.2.2.1] fun b=>bJ (decide (b.length+a.2.2.2.2.1.length<=aN)) (Sj a c (b ++ a.2.2.2.2.1) ((b ++ a.2.2.2.2.1).length:Int) [] 0):=cc
def aR4:KT:=SS.rK Tryz.f163 163 2 []
def bLI:KT:=SS.jK 163 73 2 (cS Tryz.f163 15) aR4
def bLJ:KT:=aS 0 bLI
def Sl (d:Sh.V uN) (e:Sh.V aC) (a:ai) (b:Int) (f:ai) (c:Int):R:=SS.LL (SS.ae 163 73) 2 [1,2,3,18,19,20] 4 (cS Tryz.f163 75) bLJ ⟨[(1,.ptr 2 0),(2,.ptr 3 0),(3,.sl true 1 f),(18,.sl true 3 a),(19,aP b),(20,aP c)],[wo d,aA e,some [ag],dA (⟨#[]⟩,⟨#[]⟩,[],())]⟩
def a4A (a:Sh.V uN) (b:Sh.V aC) (c:Sh.V dn):R:=bD (SS.xX 163 73 2) (cS Tryz.f163 511) aR4 ⟨[(1,.ptr 2 0),(2,.ptr 3 0),(6,.ptr 4 0)],[wo a,aA b,some [ag],dA (⟨#[]⟩,⟨#[]⟩,[],()),dA c]⟩
def aR5 (e:Sh.V uN) (f:Sh.V aC) (b:ai) (c:Int) (d:ai) (a:Int):Sl e f b c d a=aB (decide (a<c)) (ak S8 b a fun q=>bJ (decide (d.length+1<=aN)) (Sl e f b c (d ++ ([.str q.1]:ai)) (i64.wrap (a+1)))) (H76 243 [ag,a_ d] [wo e,aA f] fun m n g=>bP 27 [ag,cEX [61]] [aA g] fun _ h=>lD 28 [ag] [aA h] fun o i=>bP 27 [ag,cEX [40]] [aA i] fun _ j=>bW 161 [ag,cEX [41]] [aA j] fun r p=>aB (!r) (H77 203 [ag,dm 247 [.ptr 1 0,.ptr 2 0]] [aA p,dA (m,o,[],()),some [.ptr 3 0],FX n] fun _ t l u=>a4A u t l) (a4A n p (m,o,[],()))):=ll
def bLH (a:Sh.V uN) (b:Sh.V aC) (c:Sh.V dn):a4A a b c=bP 27 [ag,cEX [41]] [aA b] fun _ d=>bP 27 [ag,cEX [59]] [aA d] fun _ e=>some (A8 c,[wo a,aA e]):=by kernel_rfl
def bLK (a:Sh.V uN) (c:Sh.V aC):SS.CC 163 [ag] [wo a,aA c]=Ho 76 [.sl false 3 a.2.2.2.1] fun b=>bJ (decide (b.length+a.2.2.2.2.1.length<=aN)) (Sl a c (b ++ a.2.2.2.2.1) ((b ++ a.2.2.2.2.1).length:Int) [] 0):=cc
def bLP:KT:=SS.rK Tryz.f164 164 2 []
def bLQ:KT:=SS.jK 164 54 2 (cS Tryz.f164 15) bLP
def bLR:KT:=aS 0 bLQ
def Sr (a:Sh.V bF) (c:Sh.V aC) (d:ai) (b:Int):R:=SS.LL (SS.ae 164 54) 2 [1,2,10,11,12] 3 (cS Tryz.f164 75) bLR ⟨[(1,.ptr 2 0),(2,.sl true 1 d),(10,.sl false 2 a.2.2.2.2.2.1),(11,aP (a.2.2.2.2.2.1.length:Int)),(12,aP b)],[aO a,aA c,some [ag]]⟩
def aR8 (b:Sh.V bF) (d:Sh.V aC) (c:ai) (a:Int):Sr b d c a=aB (decide (a<(b.2.2.2.2.2.1.length:Int))) (ak lF b.2.2.2.2.2.1 a fun i=>bJ (decide (c.length+1<=aN)) (Sr b d (c ++ ([.str i.1]:ai)) (i64.wrap (a+1)))) (FK 243 [ag,a_ c] [aO b,aA d] fun j l e=>bP 27 [ag,cEX [58]] [aA e] fun _ f=>H78 203 [ag,dm 248 [.ptr 1 0,.ptr 2 0]] [aA f,some [.ptr 3 0],lg (j,[],()),kW l] fun _ g h u32=>bP 27 [ag,cEX [59]] [aA g] fun _ m=>bJ (decide (u32.2.2.2.2.2.1.length+1<=aN)) (bi [aO (u32.1,u32.2.1,u32.2.2.1,u32.2.2.2.1,u32.2.2.2.2.1,(u32.2.2.2.2.2.1 ++ ([Ag h]:ai)),u32.2.2.2.2.2.2.1,u32.2.2.2.2.2.2.2.1,u32.2.2.2.2.2.2.2.2.1,()),aA m])):=ll
def bLS (a:Sh.V bF) (b:Sh.V aC):SS.CC 164 [ag] [aO a,aA b]=Sr a b [] 0:=cc
def aC8:KT:=SS.rK Tryz.f165 165 2 []
def bLU:KT:=SS.jK 165 89 2 (cS Tryz.f165 7) aC8
def bLV:KT:=aS 0 bLU
def bLW:KT:=SS.jK 165 89 2 (cS Tryz.f165 63) aC8
def bLX:KT:=aS 2 bLW
def Sv (a:Sh.V bF) (c:Sh.V aC) (d:ai) (b:Int):R:=SS.LL (SS.ae 165 89) 2 [0,2,12,13,14] 2 (cS Tryz.f165 37) bLV ⟨[(0,ag),(2,.sl true 1 d),(12,.sl false 3 a.2.2.2.2.2.2.1),(13,aP (a.2.2.2.2.2.2.1.length:Int)),(14,aP b)],[aO a,aA c]⟩
def Su (a:Sh.V bF) (b:Sh.V aC) (c:b_) (d:Bool) (e:ai):R:=SS.LL (SS.ae 165 89) 2 [0,5,6] 3 (cS Tryz.f165 303) bLX ⟨[(0,ag),(5,.ptr 2 0),(6,.bool d)],[aO a,aA b,O64 (c,e,0,())]⟩
def XT (a:Sh.V bF) (b:Sh.V aC) (c:b_) (d:ai):R:=bD (SS.xX 165 89 2) (cS Tryz.f165 63) aC8 ⟨[(0,ag),(5,.ptr 2 0)],[aO a,aA b,O64 (c,d,0,())]⟩
def aR9 (b:Sh.V bF) (d:Sh.V aC) (c:ai) (a:Int):Sv b d c a=aB (decide (a<(b.2.2.2.2.2.2.1.length:Int))) (ak jb b.2.2.2.2.2.2.1 a fun g=>bJ (decide (c.length+1<=aN)) (Sv b d (c ++ ([.str g.1]:ai)) (i64.wrap (a+1)))) (FK 243 [ag,a_ c] [aO b,aA d] fun h i e=>bP 27 [ag,cEX [58]] [aA e] fun _ f=>Su i f h true []):=ll
theorem aC9 (d:Sh.V bF) (e:Sh.V aC) (c:b_) (m:Bool) (a:ai):Su d e c m a=aB m (Di 48 [ag] [aO d,aA e] fun o n b=>aB (!o) (Dl 245 [ag] [aO n,aA b] fun f p g=>bP 27 [ag,cEX [42]] [aA g] fun _ h=>lD 28 [ag] [aA h] fun i j=>bJ (decide (a.length+1<=aN)) (bW 87 [ag,cEX [43]] [aA j] fun l q=>Su p q c l (a ++ ([VJ (i,f,())]:ai)))) (XT n b c a)) (XT d e c a):=ll
def bLT (b:Sh.V bF) (c:Sh.V aC) (d:b_) (e:ai):XT b c d e=bP 27 [ag,cEX [60,61]] [aA c] fun _ f=>Dl 245 [ag] [aO b,aA f] fun g u8 h=>bP 27 [ag,cEX [59]] [aA h] fun _ a=>bJ (decide (u8.2.2.2.2.2.2.1.length+1<=aN)) (bi [aO (u8.1,u8.2.1,u8.2.2.1,u8.2.2.2.1,u8.2.2.2.2.1,u8.2.2.2.2.2.1,(u8.2.2.2.2.2.2.1 ++ ([xk (d,e,g,())]:ai)),u8.2.2.2.2.2.2.2.1,u8.2.2.2.2.2.2.2.2.1,()),aA a]):=by kernel_rfl
def bLY (a:Sh.V bF) (b:Sh.V aC):SS.CC 165 [ag] [aO a,aA b]=Sv a b [] 0:=cc
def bM3:KT:=SS.rK Tryz.f188 188 2 []
def S_ (a:Sh.V eY) (b:Sh.V aC):R:=bD (SS.xX 188 30 2) (cS Tryz.f188 7) bM3 ⟨[(0,ag)],[bH a,aA b]⟩
def bM2 (a:Sh.V eY) (b:Sh.V aC):S_ a b=lD 28 [ag] [aA b] fun s1 c=>some (.str s1,[bH a,aA c]):=by kernel_rfl
def bM4 (a1:ai) (a:Sh.V eY) (e:Sh.V aC):SS.CC 188 [ag,a_ a1] [bH a,aA e]=fU 30 [ag] [aA e] fun f b=>aB (f.1==1) (G3 207 [a_ a1,.str f.2.1] fun c=>aB c (bP 32 [ag,aP 8] [aA b] fun _ d=>S_ a d) (S_ a b)) (S_ a b):=cc
def bME (a0:Sh.V S5):SS.CC 193 [A5 a0] []=some (.str a0.1,[]):=cc
def aRD (a:Sh.V iO) (b:Sh.V dn) (g:Sh.V aC):SS.CC 194 [ag,dm 201 [.ptr 1 0,.ptr 2 0]] [gu a,dA b,some [ag],aA g]=bP 27 [ag,cEX [40]] [aA g] fun _ h=>bW 161 [ag,cEX [41]] [aA h] fun i u8=>aB (!i) (aK2 203 [ag,dm 201 [.ptr 1 0,.ptr 2 0]] [aA u8,dA b,some [.ptr 3 0],lh a] fun _ c j d=>bP 27 [ag,cEX [41]] [aA c] fun _ e=>bi [gu d,dA j,some [ag],aA e]) (bP 27 [ag,cEX [41]] [aA u8] fun _ f=>bi [gu a,dA b,some [ag],aA f]):=cc
def aRE (a:Sh.V iO) (b:Sh.V dW) (g:Sh.V aC):SS.CC 194 [ag,dm 195 [.ptr 1 0,.ptr 2 0]] [gu a,dP b,some [ag],aA g]=bP 27 [ag,cEX [40]] [aA g] fun _ h=>bW 161 [ag,cEX [41]] [aA h] fun i u8=>aB (!i) (H97 203 [ag,dm 195 [.ptr 1 0,.ptr 2 0]] [aA u8,dP b,some [.ptr 3 0],lh a] fun _ c j d=>bP 27 [ag,cEX [41]] [aA c] fun _ e=>bi [gu d,dP j,some [ag],aA e]) (bP 27 [ag,cEX [41]] [aA u8] fun _ f=>bi [gu a,dP b,some [ag],aA f]):=cc
def bMN (a0:Sh.V S8):SS.CC 200 [A8 a0] []=some (.str a0.1,[]):=cc
def bMO (a:Sh.V dn) (b:Sh.V iO) (c:Sh.V aC):SS.CC 201 [ag,.ptr 1 0] [dA a,some [.ptr 2 0],gu b,aA c]=fV fun f=>(fun e g=>au e (au e g)) (lD 28 [ag] [aA c] fun s1 d=>bJ (decide (a.2.2.1.length+1<=aN)) (bi [dA (a.1,a.2.1,(a.2.2.1 ++ ([.str s1]:ai)),()),some [.ptr 2 0],gu b,aA d])) (f 1 (lD 28 [ag] [aA c] fun s1 d=>bJ (decide (a.2.2.1.length+1<=aN)) (bi [dA (a.1,a.2.1,(a.2.2.1 ++ ([.str s1]:ai)),()),some [.ptr 2 0],gu b,aA d]))):=pI cc
def bMP (a0:Sh.V lF):SS.CC 202 [Ag a0] []=some (.str a0.1,[]):=cc
def bND:KT:=SS.rK Tryz.f203 203 4 []
def bNE:KT:=aS 0 bND
def N_ (a:Sh.V aC) (b:Sh.V dn) (c:Sh.V jg):R:=SS.LL (SS.ae 203 19) 4 [0,1] 4 (cS Tryz.f203 19) bNE ⟨[(0,ag),(1,dm 201 [.ptr 1 0,.ptr 2 0])],[aA a,dA b,some [.ptr 3 0],lh c]⟩
def aRR (a:Sh.V aC) (b:Sh.V dn) (c:Sh.V jg):N_ a b c=aB (a.2.2.2.1==0) (bW 87 [ag,cEX [44]] [aA a] fun g f=>aB g (aA7 201 [ag,.ptr 1 0] [dA b,some [.ptr 2 0],gu c,aA f] fun _ u8 d e=>N_ e u8 d) (bi [aA f,dA b,some [.ptr 3 0],lh c])) (bi [aA a,dA b,some [.ptr 3 0],lh c]):=ll
def bNF (a:Sh.V aC) (b:Sh.V dn) (c:Sh.V jg):SS.CC 203 [ag,dm 201 [.ptr 1 0,.ptr 2 0]] [aA a,dA b,some [.ptr 3 0],lh c]=aA7 201 [ag,.ptr 1 0] [dA b,some [.ptr 2 0],gu c,aA a] fun _ d e f=>N_ f d e:=cc
def bN1:KT:=SS.rK Tryz.f203 203 4 []
def bN2:KT:=aS 0 bN1
def a4J (a:Sh.V aC) (b:Sh.V lq) (c:Sh.V jg):R:=SS.LL (SS.ae 203 19) 4 [0,1] 4 (cS Tryz.f203 19) bN2 ⟨[(0,ag),(1,dm 204 [.ptr 1 0,.ptr 2 0])],[aA a,some [.ptr 3 0],lg b,lh c]⟩
def aRN (a:Sh.V aC) (b:Sh.V lq) (c:Sh.V jg):a4J a b c=aB (a.2.2.2.1==0) (bW 87 [ag,cEX [44]] [aA a] fun g f=>aB g (aA3 204 [ag,.ptr 1 0] [some [.ptr 2 0],lg b,gu c,aA f] fun _ u8 d e=>a4J e u8 d) (bi [aA f,some [.ptr 3 0],lg b,lh c])) (bi [aA a,some [.ptr 3 0],lg b,lh c]):=ll
def bN3 (a:Sh.V aC) (b:Sh.V lq) (c:Sh.V jg):SS.CC 203 [ag,dm 204 [.ptr 1 0,.ptr 2 0]] [aA a,some [.ptr 3 0],lg b,lh c]=aA3 204 [ag,.ptr 1 0] [some [.ptr 2 0],lg b,gu c,aA a] fun _ d e f=>a4J f d e:=cc
def bMT:KT:=SS.rK Tryz.f203 203 4 []
def bMU:KT:=aS 0 bMT
def a4G (a:Sh.V aC) (b:Sh.V dn) (c:Sh.V jf):R:=SS.LL (SS.ae 203 19) 4 [0,1] 4 (cS Tryz.f203 19) bMU ⟨[(0,ag),(1,dm 247 [.ptr 1 0,.ptr 2 0])],[aA a,dA b,some [.ptr 3 0],kW c]⟩
def aRK (a:Sh.V aC) (b:Sh.V dn) (c:Sh.V jf):a4G a b c=aB (a.2.2.2.1==0) (bW 87 [ag,cEX [44]] [aA a] fun g f=>aB g (H94 247 [ag,.ptr 1 0] [dA b,some [.ptr 2 0],iq c,aA f] fun _ u8 d e=>a4G e u8 d) (bi [aA f,dA b,some [.ptr 3 0],kW c])) (bi [aA a,dA b,some [.ptr 3 0],kW c]):=ll
def bMV (b:Sh.V aC) (c:Sh.V dn) (d:Sh.V jf):SS.CC 203 [ag,dm 247 [.ptr 1 0,.ptr 2 0]] [aA b,dA c,some [.ptr 3 0],kW d]=H94 247 [ag,.ptr 1 0] [dA c,some [.ptr 2 0],iq d,aA b] fun _ e f a=>a4G a e f:=cc
def bMZ:KT:=SS.rK Tryz.f203 203 4 []
def bM':KT:=aS 0 bMZ
def a4I (a:Sh.V aC) (b:Sh.V lq) (c:Sh.V jf):R:=SS.LL (SS.ae 203 19) 4 [0,1] 4 (cS Tryz.f203 19) bM' ⟨[(0,ag),(1,dm 248 [.ptr 1 0,.ptr 2 0])],[aA a,some [.ptr 3 0],lg b,kW c]⟩
def aRM (a:Sh.V aC) (b:Sh.V lq) (c:Sh.V jf):a4I a b c=aB (a.2.2.2.1==0) (bW 87 [ag,cEX [44]] [aA a] fun f e=>aB f (H96 248 [ag,.ptr 1 0] [some [.ptr 2 0],lg b,iq c,aA e] fun _ u8 d g=>a4I g u8 d) (bi [aA e,some [.ptr 3 0],lg b,kW c])) (bi [aA a,some [.ptr 3 0],lg b,kW c]):=ll
def bN0 (b:Sh.V aC) (c:Sh.V lq) (d:Sh.V jf):SS.CC 203 [ag,dm 248 [.ptr 1 0,.ptr 2 0]] [aA b,some [.ptr 3 0],lg c,kW d]=H96 248 [ag,.ptr 1 0] [some [.ptr 2 0],lg c,iq d,aA b] fun _ e f a=>a4I a e f:=cc
def bN7:KT:=SS.rK Tryz.f203 203 4 []
def bN8:KT:=aS 0 bN7
def a4L (a:Sh.V aC) (b:Sh.V dW) (c:Sh.V jg):R:=SS.LL (SS.ae 203 19) 4 [0,1] 4 (cS Tryz.f203 19) bN8 ⟨[(0,ag),(1,dm 195 [.ptr 1 0,.ptr 2 0])],[aA a,dP b,some [.ptr 3 0],lh c]⟩
def aRP (a:Sh.V aC) (b:Sh.V dW) (c:Sh.V jg):a4L a b c=aB (a.2.2.2.1==0) (bW 87 [ag,cEX [44]] [aA a] fun e d=>aB e (aA5 195 [ag,.ptr 1 0] [dP b,some [.ptr 2 0],gu c,aA d] fun _ u8 f g=>a4L g u8 f) (bi [aA d,dP b,some [.ptr 3 0],lh c])) (bi [aA a,dP b,some [.ptr 3 0],lh c]):=ll
def bN9 (c:Sh.V aC) (d:Sh.V dW) (e:Sh.V jg):SS.CC 203 [ag,dm 195 [.ptr 1 0,.ptr 2 0]] [aA c,dP d,some [.ptr 3 0],lh e]=aA5 195 [ag,.ptr 1 0] [dP d,some [.ptr 2 0],gu e,aA c] fun _ f a b=>a4L b f a:=cc
def bNA:KT:=SS.rK Tryz.f203 203 4 []
def bNB:KT:=aS 0 bNA
def a4M (a:Sh.V aC) (b:Sh.V kP) (c:Sh.V jg):R:=SS.LL (SS.ae 203 19) 4 [0,1] 4 (cS Tryz.f203 19) bNB ⟨[(0,ag),(1,dm 272 [.ptr 1 0,.ptr 2 0])],[aA a,some [.ptr 3 0],kN b,lh c]⟩
def aRQ (a:Sh.V aC) (b:Sh.V kP) (c:Sh.V jg):a4M a b c=aB (a.2.2.2.1==0) (bW 87 [ag,cEX [44]] [aA a] fun e d=>aB e (aA6 272 [ag,.ptr 1 0] [some [.ptr 2 0],kN b,gu c,aA d] fun _ u8 u16 f=>a4M f u8 u16) (bi [aA d,some [.ptr 3 0],kN b,lh c])) (bi [aA a,some [.ptr 3 0],kN b,lh c]):=ll
def bNC (b:Sh.V aC) (c:Sh.V kP) (d:Sh.V jg):SS.CC 203 [ag,dm 272 [.ptr 1 0,.ptr 2 0]] [aA b,some [.ptr 3 0],kN c,lh d]=aA6 272 [ag,.ptr 1 0] [some [.ptr 2 0],kN c,gu d,aA b] fun _ e f a=>a4M a e f:=cc
def bNG:KT:=SS.rK Tryz.f203 203 4 []
def bNH:KT:=aS 0 bNG
def Zd (a:Sh.V aC) (b:Sh.V dW) (c:Sh.V jf):R:=SS.LL (SS.ae 203 19) 4 [0,1] 4 (cS Tryz.f203 19) bNH ⟨[(0,ag),(1,dm 244 [.ptr 1 0,.ptr 2 0])],[aA a,dP b,some [.ptr 3 0],kW c]⟩
def aRS (a:Sh.V aC) (b:Sh.V dW) (c:Sh.V jf):Zd a b c=aB (a.2.2.2.1==0) (bW 87 [ag,cEX [44]] [aA a] fun f e=>aB f (H90 244 [ag,.ptr 1 0] [dP b,some [.ptr 2 0],iq c,aA e] fun _ u8 g d=>Zd d u8 g) (bi [aA e,dP b,some [.ptr 3 0],kW c])) (bi [aA a,dP b,some [.ptr 3 0],kW c]):=ll
def bNI (b:Sh.V aC) (c:Sh.V dW) (d:Sh.V jf):SS.CC 203 [ag,dm 244 [.ptr 1 0,.ptr 2 0]] [aA b,dP c,some [.ptr 3 0],kW d]=H90 244 [ag,.ptr 1 0] [dP c,some [.ptr 2 0],iq d,aA b] fun _ e a f=>Zd f e a:=cc
def bMW:KT:=SS.rK Tryz.f203 203 4 []
def bMX:KT:=aS 0 bMW
def a4H (a:Sh.V aC) (b:Sh.V dn) (c:Sh.V Dv):R:=SS.LL (SS.ae 203 19) 4 [0,1] 4 (cS Tryz.f203 19) bMX ⟨[(0,ag),(1,dm 247 [.ptr 1 0,.ptr 2 0])],[aA a,dA b,some [.ptr 3 0],FX c]⟩
def aRL (a:Sh.V aC) (b:Sh.V dn) (c:Sh.V Dv):a4H a b c=aB (a.2.2.2.1==0) (bW 87 [ag,cEX [44]] [aA a] fun g f=>aB g (H95 247 [ag,.ptr 1 0] [dA b,some [.ptr 2 0],Dq c,aA f] fun _ u8 d e=>a4H e u8 d) (bi [aA f,dA b,some [.ptr 3 0],FX c])) (bi [aA a,dA b,some [.ptr 3 0],FX c]):=ll
def bMY (b:Sh.V aC) (c:Sh.V dn) (d:Sh.V Dv):SS.CC 203 [ag,dm 247 [.ptr 1 0,.ptr 2 0]] [aA b,dA c,some [.ptr 3 0],FX d]=H95 247 [ag,.ptr 1 0] [dA c,some [.ptr 2 0],Dq d,aA b] fun _ e f a=>a4H a e f:=cc
def bN4:KT:=SS.rK Tryz.f203 203 4 []
def bN5:KT:=aS 0 bN4
def a4K (a:Sh.V aC) (b:Sh.V kP) (c:Sh.V jf):R:=SS.LL (SS.ae 203 19) 4 [0,1] 4 (cS Tryz.f203 19) bN5 ⟨[(0,ag),(1,dm 288 [.ptr 1 0,.ptr 2 0])],[aA a,some [.ptr 3 0],kN b,kW c]⟩
def aRO (a:Sh.V aC) (b:Sh.V kP) (c:Sh.V jf):a4K a b c=aB (a.2.2.2.1==0) (bW 87 [ag,cEX [44]] [aA a] fun f e=>aB f (aA4 288 [ag,.ptr 1 0] [some [.ptr 2 0],kN b,iq c,aA e] fun _ u8 u16 d=>a4K d u8 u16) (bi [aA e,some [.ptr 3 0],kN b,kW c])) (bi [aA a,some [.ptr 3 0],kN b,kW c]):=ll
def bN6 (a:Sh.V aC) (b:Sh.V kP) (c:Sh.V jf):SS.CC 203 [ag,dm 288 [.ptr 1 0,.ptr 2 0]] [aA a,some [.ptr 3 0],kN b,kW c]=aA4 288 [ag,.ptr 1 0] [some [.ptr 2 0],kN b,iq c,aA a] fun _ d e f=>a4K f d e:=cc
def bMQ:KT:=SS.rK Tryz.f203 203 4 []
def bMR:KT:=aS 0 bMQ
def a4F (a:Sh.V aC) (b:Sh.V dn) (c:Sh.V Du):R:=SS.LL (SS.ae 203 19) 4 [0,1] 4 (cS Tryz.f203 19) bMR ⟨[(0,ag),(1,dm 247 [.ptr 1 0,.ptr 2 0])],[aA a,dA b,some [.ptr 3 0],FW c]⟩
def aRJ (a:Sh.V aC) (b:Sh.V dn) (c:Sh.V Du):a4F a b c=aB (a.2.2.2.1==0) (bW 87 [ag,cEX [44]] [aA a] fun g f=>aB g (H93 247 [ag,.ptr 1 0] [dA b,some [.ptr 2 0],Jq c,aA f] fun _ u8 d e=>a4F e u8 d) (bi [aA f,dA b,some [.ptr 3 0],FW c])) (bi [aA a,dA b,some [.ptr 3 0],FW c]):=ll
def bMS (b:Sh.V aC) (c:Sh.V dn) (d:Sh.V Du):SS.CC 203 [ag,dm 247 [.ptr 1 0,.ptr 2 0]] [aA b,dA c,some [.ptr 3 0],FW d]=H93 247 [ag,.ptr 1 0] [dA c,some [.ptr 2 0],Jq d,aA b] fun _ e f a=>a4F a e f:=cc
def bNJ (a:Sh.V lq) (b:Sh.V iO) (c:Sh.V aC):SS.CC 204 [ag,.ptr 1 0] [some [.ptr 2 0],lg a,gu b,aA c]=lD 28 [ag] [aA c] fun s1 d=>lD 28 [ag] [aA d] fun e f=>bJ (decide (a.2.1.length+1<=aN)) (bi [some [.ptr 2 0],lg (a.1,(a.2.1 ++ ([Jj (s1,e,())]:ai)),()),gu b,aA f]):=cc
def bNK (a0:Sh.V jb):SS.CC 205 [xk a0] []=some (.str a0.1,[]):=cc
def bNL (a:Sh.V eY) (b:Sh.V aC):SS.CC 206 [ag] [bH a,aA b]=FI 192 [ag,aP (-65536),aP 65536] [aA b] fun c d=>some (aP c,[bH a,aA d]):=cc
def bOK:KT:=SS.rK Tryz.f243 243 2 []
def a4V (a:Sh.V uM) (b:Sh.V aC):R:=bD (SS.xX 243 30 2) (cS Tryz.f243 7) bOK ⟨[(0,ag)],[wZ a,aA b]⟩
def bOJ (a:Sh.V uM) (b:Sh.V aC):a4V a b=lD 28 [ag] [aA b] fun s1 c=>some (.str s1,[wZ a,aA c]):=by kernel_rfl
def bOL (a1:ai) (a:Sh.V uM) (e:Sh.V aC):SS.CC 243 [ag,a_ a1] [wZ a,aA e]=fU 30 [ag] [aA e] fun f b=>aB (f.1==1) (G3 207 [a_ a1,.str f.2.1] fun c=>aB c (bP 32 [ag,aP 8] [aA b] fun _ d=>a4V a d) (a4V a b)) (a4V a b):=cc
def bOQ:KT:=SS.rK Tryz.f243 243 2 []
def Y0 (a:Sh.V bF) (b:Sh.V aC):R:=bD (SS.xX 243 30 2) (cS Tryz.f243 7) bOQ ⟨[(0,ag)],[aO a,aA b]⟩
def bOP (a:Sh.V bF) (b:Sh.V aC):Y0 a b=lD 28 [ag] [aA b] fun s1 c=>some (.str s1,[aO a,aA c]):=by kernel_rfl
def bOR (a1:ai) (a:Sh.V bF) (e:Sh.V aC):SS.CC 243 [ag,a_ a1] [aO a,aA e]=fU 30 [ag] [aA e] fun f b=>aB (f.1==1) (G3 207 [a_ a1,.str f.2.1] fun c=>aB c (bP 32 [ag,aP 8] [aA b] fun _ d=>Y0 a d) (Y0 a b)) (Y0 a b):=cc
def bON:KT:=SS.rK Tryz.f243 243 2 []
def a4W (a:Sh.V uN) (b:Sh.V aC):R:=bD (SS.xX 243 30 2) (cS Tryz.f243 7) bON ⟨[(0,ag)],[wo a,aA b]⟩
def bOM (a:Sh.V uN) (b:Sh.V aC):a4W a b=lD 28 [ag] [aA b] fun s1 c=>some (.str s1,[wo a,aA c]):=by kernel_rfl
def bOO (a1:ai) (a:Sh.V uN) (e:Sh.V aC):SS.CC 243 [ag,a_ a1] [wo a,aA e]=fU 30 [ag] [aA e] fun f b=>aB (f.1==1) (G3 207 [a_ a1,.str f.2.1] fun c=>aB c (bP 32 [ag,aP 8] [aA b] fun _ d=>a4W a d) (a4W a b)) (a4W a b):=cc
def bOT (a:Sh.V bF) (b:Sh.V aC):SS.CC 245 [ag] [aO a,aA b]=FI 192 [ag,aP (-65536),aP 65536] [aA b] fun c d=>some (aP c,[aO a,aA d]):=cc
def bOW (a:Sh.V dn) (b:Sh.V Jv) (c:Sh.V aC):SS.CC 247 [ag,.ptr 1 0] [dA a,some [.ptr 2 0],Jq b,aA c]=fV fun f=>(fun e g=>au e (au e g)) (lD 28 [ag] [aA c] fun s1 d=>bJ (decide (a.2.2.1.length+1<=aN)) (bi [dA (a.1,a.2.1,(a.2.2.1 ++ ([.str s1]:ai)),()),some [.ptr 2 0],Jq b,aA d])) (f 1 (lD 28 [ag] [aA c] fun s1 d=>bJ (decide (a.2.2.1.length+1<=aN)) (bi [dA (a.1,a.2.1,(a.2.2.1 ++ ([.str s1]:ai)),()),some [.ptr 2 0],Jq b,aA d]))):=pI cc
def bOV (a:Sh.V dn) (b:Sh.V jc) (c:Sh.V aC):SS.CC 247 [ag,.ptr 1 0] [dA a,some [.ptr 2 0],iq b,aA c]=fV fun f=>(fun e g=>au e (au e g)) (lD 28 [ag] [aA c] fun s1 d=>bJ (decide (a.2.2.1.length+1<=aN)) (bi [dA (a.1,a.2.1,(a.2.2.1 ++ ([.str s1]:ai)),()),some [.ptr 2 0],iq b,aA d])) (f 1 (lD 28 [ag] [aA c] fun s1 d=>bJ (decide (a.2.2.1.length+1<=aN)) (bi [dA (a.1,a.2.1,(a.2.2.1 ++ ([.str s1]:ai)),()),some [.ptr 2 0],iq b,aA d]))):=pI cc
def bOX (a:Sh.V lq) (b:Sh.V jc) (e:Sh.V aC):SS.CC 248 [ag,.ptr 1 0] [some [.ptr 2 0],lg a,iq b,aA e]=fV fun h=>lD 28 [ag] [aA e] fun s1 f=>(fun g i=>au g (au g i)) (lD 28 [ag] [aA f] fun c d=>bJ (decide (a.2.1.length+1<=aN)) (bi [some [.ptr 2 0],lg (a.1,(a.2.1 ++ ([Jj (s1,c,())]:ai)),()),iq b,aA d])) (h 1 (lD 28 [ag] [aA f] fun c d=>bJ (decide (a.2.1.length+1<=aN)) (bi [some [.ptr 2 0],lg (a.1,(a.2.1 ++ ([Jj (s1,c,())]:ai)),()),iq b,aA d]))):=pI cc
def bPS (a:Sh.V kP) (c:Sh.V jc) (g:Sh.V aC):SS.CC 288 [ag,.ptr 1 0] [some [.ptr 2 0],kN a,iq c,aA g]=fV fun h=>(fun w=>au (h 1 w) w) (Dl 286 [ag,a_ c.2.2.2.2.2.2.2.1] [aO c,aA g] fun i j d=>bP 27 [ag,cEX [58,61]] [aA d] fun _ l=>qK 287 [ag] [aO j,aA l] fun b e f=>bJ (decide (a.2.2.2.2.2.2.2.1.length+1<=aN)) (bi [some [.ptr 2 0],kN (a.1,a.2.1,a.2.2.1,a.2.2.2.1,a.2.2.2.2.1,a.2.2.2.2.2.1,a.2.2.2.2.2.2.1,(a.2.2.2.2.2.2.2.1 ++ ([Ji (i,b.1,b.2.1,b.2.2.1,b.2.2.2.1,())]:ai)),()),iq e,aA f])):=pI cc
end
end Go.Proofs.YtmbehibpfkkjbaaGreatDoor.W
namespace Go.Proofs.YtmbehibpfkkjbaaGreatDoor.W.P
open Go.RowKit
set_option maxRecDepth 1000000
abbrev pc (d:Int) (v:ai):Sh.V eY:=(d,v,())
variable {j:RA} {g:FuncId} {e:ai}
theorem opc (h:j.ok) (d:Int) (v:ai) (e:Int) (i:0<e):∃ o x,SS.CC 232 [ag,aP e] [bH (pc d v),aA j.v]=some (.tuple [aP o,.bool x,.bool (j.zC e)],[bH (pc d v),aA j.v])/\(j.zC e=true->o=(iR j.pk.text).2.1/\x=(iR j.pk.text).2.2):=by
 rw[bKG,eX (gJ h)];dsimp only;unfold RA.zC;by_cases f:j.pk.kind=3
 .rw[show (j.pk.kind != 3)=false by simp[f],aF,show (j.pk.kind==3)=true by simp[f]];have:=opm _ (MG h f) e (fun a b c=>some (.tuple [aP b,.bool c,.bool (a==e)],[bH (pc d v),aA j.v])) (some (.tuple [aP 0,.bool false,.bool false],[bH (pc d v),aA j.v]));rw[this];by_cases g:(iR j.pk.text).1=0
  .rw[ay g];refine ⟨0,false,?_,?_⟩
   .rw[g,show ((0:Int)==e)=false by simp; omega]; rfl
   grind
  grind
 .rw[show (j.pk.kind != 3)=true by simp[f],aI,show (j.pk.kind==3)=false by simp[f]];simp
def Tn (h:j.ok) (q:Sh.V eY) (l:List b_) (b:l.length<1000000000000):SS.CC 271 [ag,a_ (dG l)] [bH q,aA j.v]=some (aP (j.yA l),[bH q,aA (j.kn l).v]):=by
 rw[bOD,eX (gJ h)];rw[bn (Ig l b _),eX (gJ h)];unfold RA.kn RA.yA;by_cases hk:j.pk.kind=1
 .rw[show (j.pk.kind==1)=true by simp[hk],aI];by_cases a:kX (bs j.pk.text) l 0<0
  .rw[aK a,aI,bg (lu h 9),a7C hk a];rw[aCG,lZ (mG (h.fail 9))]
  .rw[aU a,aF,L9 (fun c=>a c.2),aCG,lZ (mG h)]
 .rw[show (j.pk.kind==1)=false by simp[hk],aF,L9 (fun c=>hk c.1),aCG,lZ (mG h)]
def Ry (h:j.ok) (q:Sh.V bF) (l:List b_) (a:l.length<1000000000000):SS.CC 286 [ag,a_ (dG l)] [aO q,aA j.v]=some (aP (kX (bs (j.kp l).iI) l 0),[aO q,aA (j.kn l).v]):=by
 rw[bPO,eX (gJ h)];try dsimp only
 unfold RA.kn;by_cases hk:j.pk.kind=1
 .rw[show (j.pk.kind==1)=true by simp[hk],aI,bC (y_ l a _)];by_cases b:kX (bs j.pk.text) l 0<0
  .rw[aU (by omega),su,aI,bg (lu h 9),a7C hk b];try dsimp only
   rw[aCO,lZ (mG (h.fail 9)),bn (Ig l a _)]
  .rw[aK (by omega),ut,aF,L9 (fun c=>b c.2),aCO,lZ (mG h),bn (Ig l a _)]
 .rw[show (j.pk.kind==1)=false by simp[hk],aF,L9 (fun c=>hk c.1),aCO,lZ (mG h),bn (Ig l a _)]
def aF2 (h:j.ok)
 (he:∀ (a:Sh.V dH) (b:Sh.V aC),SS.CC 279 [ag,dm g [.ptr 1 0]] [ah a,some [ag],aA b]=aB (a.1==32) (bP 32 [ag,aP 3] [aA b] fun _ l=>some (A1 (0,0,0,[],()),[ah a,some [ag],aA l])) (fU 88 [ag] [aA b] fun n c=>Qm g [ag] [some [.ptr 1 0],ah (i64.wrap (a.1+1),a.2.1,()),aA c] fun m d f=>Qn 295 [ag] [some [.ptr 1 0],ah d,aA f] fun _ i u32=>some (A1 m,[ah i,some [ag],aA u32]))) :
 SS.CC 279 [ag,dm g [.ptr 1 0]] [ah (pc 32 e),some [ag],aA j.v]=some (A1 (ev zE),[ah (pc 32 e),some [ag],aA (j.fail 3).v]):=by
 rw[he];show aB true _ _=_;rw[aI,bg (lu h 3)];rfl
theorem b9E (d:Int) (v:ai) (A:RA) (a:0<=d) (b:d<32):SS.CC 295 [ag] [some [.ptr 1 0],ah (pc (d+1) v),aA A.v]=bi [some [.ptr 1 0],ah (pc d v),aA A.v]:=by rw[bPI];grind [wrap64]
def a7U {B:RA} {x:EX} {d:Int} (m:0<=d) (a:d<32) (h:j.ok)
 (he:∀ (b:Sh.V dH) (a:Sh.V aC),SS.CC 279 [ag,dm g [.ptr 1 0]] [ah b,some [ag],aA a]=aB (b.1==32) (bP 32 [ag,aP 3] [aA a] fun _ n=>some (A1 (0,0,0,[],()),[ah b,some [ag],aA n])) (fU 88 [ag] [aA a] fun q c=>Qm g [ag] [some [.ptr 1 0],ah (i64.wrap (b.1+1),b.2.1,()),aA c] fun o f i=>Qn 295 [ag] [some [.ptr 1 0],ah f,aA i] fun _ l u32=>some (A1 o,[ah l,some [ag],aA u32])))
 (p:SS.CC g [ag] [some [.ptr 1 0],ah (pc (d+1) e),aA j.next.v]=some (A1 (ev x),[some [.ptr 1 0],ah (pc (d+1) e),aA B.v])) :
 SS.CC 279 [ag,dm g [.ptr 1 0]] [ah (pc d e),some [ag],aA j.v]=some (A1 (ev x),[ah (pc d e),some [ag],aA B.v]):=by
 rw[he,show ((pc d e).1==32)=false by simp; omega,aF,eX (next h)];rw[show i64.wrap (d+1)=d+1 from wrap64 (by omega) (by omega),b45 p];rw[b49 (b9E d e B m a)]
end Go.Proofs.YtmbehibpfkkjbaaGreatDoor.W.P
namespace Go.Proofs.YtmbehibpfkkjbaaGreatDoor.W
open Go.RowKit
set_option maxRecDepth 1000000
abbrev dl (v:Int):Nat:=(Lib.decDigits v.toNat).length
def wl (s:List UInt8):Nat:=if s.length<=100 then s.length else 1000000
def aJF:∀ t,t∈lC->wl t=t.length:=by decide
inductive jX (l:List ByteArray):Bool->Int->EX->Nat->Prop
 | num {v:Int}:0<=v->v<=65536->jX l true 6 (nE v) (dl v+1)
 | tt:jX l false 6 tE 5
 | ff:jX l false 6 fE 6
 | var {i:Int} {s:ByteArray}:0<=i->l[i.toNat]? = some s->jX l false 6 (vE i) (wl s.data.toList+1)
 | sJ {b:Bool} {x:EX} {w:Nat}:jX l b 6 x w->jX l false 6 (kS 10 x) (w+2)
 | UC {v:Int}:0<=v->v<=65536->jX l false 6 (nE (0-v)) (dl v+3)
 | neg {x:EX} {w:Nat}:jX l false 6 x w->jX l false 6 (kS 5 x) (w+2)
 | par {b:Bool} {x:EX} {w:Nat}:jX l b 0 x w->jX l false 6 x (w+4)
 | up {b:Bool} {n m:Int} {x:EX} {w:Nat}:jX l b n x w->m<=n->m<=5->jX l false m x w
 | bin {b c:Bool} {o lv:Int} {x y:EX} {w u:Nat}:(o=2/\lv=4\/o=3/\lv=4\/o=4/\lv=5\/o=11/\lv=2\/o=12/\lv=1)->jX l b lv x w->jX l c (lv+1) y u->jX l false lv (iQ o x y) (w+u+(lW o).length+1)
 | cmp {b c:Bool} {o:Int} {x y:EX} {w u:Nat}:(o=6\/o=7\/o=8\/o=9)->jX l b 4 x w->jX l c 4 y u->jX l false 3 (iQ o x y) (w+u+(lW o).length+1)
 | ite {a b c:Bool} {x y z:EX} {w u v:Nat}:jX l a 1 x w->jX l b 0 y u->jX l c 0 z v->jX l false 0 (.node 13 0 0 [x,y,z]) (w+u+v+4)
def BZ (t:Tok):Nat:=if t.kind=2 then dl t.value+1 else wl t.text+1
def zQ:List Tok->Nat
 | []=>0
 | t::T=>BZ t+zQ T
def RA.W (A:RA):Nat:=if A.e=0 then zQ A.toks else 0
section
variable {A:RA}
def Gp (h:A.ok) (hk:A.pk.kind≠4):A.next.W+BZ A.pk=A.W:=by
 have he:=GV hk;obtain ⟨t,tl,a⟩:=h.ne he;have b:A.pk=t:=by unfold RA.pk; rw[ay he,a]; rfl
 unfold RA.W;rw[(jl h hk).1,ay rfl,ay he];unfold RA.next;rw[ay ⟨he,hk⟩,b,a];show zQ tl+_=_;rw[zQ]; omega
variable {Q:List UInt8}
def oW (h:A.ok) (c:A.is Q=true):A.next.W+(wl Q+1)=A.W:=by have a:=Gp h (kY c);unfold RA.is at c;simp only[bQ,Jg,qi] at c;unfold BZ at a;rw[aX (by omega),c.2] at a;exact a
def Td (c:A.is Q=true):(A.pk.kind==2)=false:=by unfold RA.is at c;simp only[bQ,Jg,qi] at c;simp; omega
def o9 (h:A.ok) (e:(A.exp Q).e=0):(A.exp Q).W+(wl Q+1)=A.W:=by
 unfold RA.exp at e ⊢;cases c:A.is Q with
 | true=>exact oW h c
 | false=>rw[c] at e; exact absurd e (qw (by decide))
def ZN {x:List UInt8} (h:A.ok):(A.take x).W+(if A.is x then wl x+1 else 0)=A.W:=by
 cases c:A.is x with
 | true=>rw[qc c]; exact oW h c
 | false=>rw[mY c]; rfl
def Iz (h:A.ok) (e:A.name.e=0):A.name.W+(wl A.iI+1)=A.W:=by
 unfold RA.name RA.iI at *;by_cases hk:A.pk.kind=1
 .rw[ay hk,ay hk];have:=Gp h (by omega);unfold BZ at this;rwa [aX (by omega)] at this
 .rw[aX hk] at e; exact absurd e (qw (by decide))
def aDA {s:ByteArray}:∀ {l:List ByteArray} {k:Nat},0<=kX s l k->(k:Int)<=kX s l k/\l[(kX s l k-k).toNat]? = some s
 | [],k,h=>by exact absurd h (show ¬ (0:Int) <= -1 by decide)
 | a::l,k,h=>by
  unfold kX at h ⊢;by_cases c:s=a
  .rw[ay c] at *;subst c;simp
  .rw[aX c] at *;obtain ⟨d,b⟩:=aDA (l:=l) (k:=k+1) h;refine ⟨by omega,?_⟩;rw[show (kX s l (k+1)-k).toNat=(kX s l (k+1)-((k+1:Nat):Int)).toNat+1 by omega,DV];exact b
end
structure aAF (l:List ByteArray) (A A':RA) (x y:EX):Prop extends Out A A' x y where
 rd:A'.e=0->∃ w,jX l (A.pk.kind==2) 6 x w/\w+A'.W<=A.W
structure Vk (l:List ByteArray) (lv:Int) (A A':RA) (x y:EX):Prop extends Out A A' x y where
 rd:A'.e=0->∃ b w,jX l b lv x w/\w+A'.W<=A.W
def aAF.bad' {l:List ByteArray} {A a:RA} {x y:EX} (h:Le A a) (e:a.e≠0) (f:x.Fit):aAF l A a x y:=⟨.bad' h e f,fun c=>absurd c e⟩
end Go.Proofs.YtmbehibpfkkjbaaGreatDoor.W
namespace Go.Proofs.YtmbehibpfkkjbaaGreatDoor.W.P
open Go.RowKit
set_option maxRecDepth 1000000
abbrev md (F:MF) (v:ai) (d:Int):Sh.V bF:=(F.1,F.2.1,F.2.2.1,F.2.2.2.1,F.2.2.2.2.1,F.2.2.2.2.2.1,F.2.2.2.2.2.2,v,d,())
section
variable {F:MF} {v:ai} {d:Int} {A B:RA} {x:EX}
def b9I (h:A.ok):SS.CC 310 [ag,.func (.func 309) [ag] []] [aO (md F v 32),aA A.v]=some (A1 (ev zE),[aO (md F v 32),aA (A.fail 3).v]):=by rw[aSE];show aB true _ _=_;rw[aI,bg (lu h 3)];rfl
def b9F (h:A.ok) (b:Bool):SS.CC 310 [ag,dm 311 [.ptr 1 0,.ptr 2 0]] [iq (md F v 32),some [ag],jR (b,()),aA A.v]=some (A1 (ev zE),[iq (md F v 32),some [ag],jR (b,()),aA (A.fail 3).v]):=by rw[aSF];show aB true _ _=_;rw[aI,bg (lu h 3)];rfl
def b9G (h:A.ok):SS.CC 310 [ag,dm 312 [.ptr 1 0]] [dh (md F v 32),some [ag],aA A.v]=some (A1 (ev zE),[dh (md F v 32),some [ag],aA (A.fail 3).v]):=by rw[aSG];show aB true _ _=_;rw[aI,bg (lu h 3)];rfl
theorem b9J (c:0<=d) (b:d<32) (h:A.ok) (e:SS.CC 309 [ag] [aO (md F v (d+1)),aA A.next.v]=some (A1 (ev x),[aO (md F v (d+1)),aA B.v])) :
 SS.CC 310 [ag,.func (.func 309) [ag] []] [aO (md F v d),aA A.v]=some (A1 (ev x),[aO (md F v d),aA B.v]):=by
 rw[aSE];show aB (d==32) _ (fU 88 [ag] [aA A.v] fun f a=>qK 309 [ag] [aO (md F v (i64.wrap (d+1))),aA a] _)=_;rw[aF1 b,aF,eX (next h)];rw[wr1 c b,zY e];grind [wr2]
theorem aML (e:0<=d) (c:d<32) (h:A.ok) (b:Bool) (f:SS.CC 309 [ag] [aO (md F v (d+1)),aA A.next.v]=some (A1 (ev x),[aO (md F v (d+1)),aA B.v])) :
 SS.CC 310 [ag,dm 311 [.ptr 1 0,.ptr 2 0]] [iq (md F v d),some [ag],jR (b,()),aA A.v]=some (A1 (ev x),[iq (md F v d),some [ag],jR ((A.next.pk.kind==2),()),aA B.v]):=by
 have g:SS.CC 311 [ag,.ptr 1 0] [some [.ptr 2 0],jR (b,()),iq (md F v (d+1)),aA A.next.v]=some (A1 (ev x),[some [.ptr 2 0],jR ((A.next.pk.kind==2),()),iq (md F v (d+1)),aA B.v]):=by rw[bPJ,eX (gJ h.next)];rw[zY f]
 rw[aSF];show aB (d==32) _ (fU 88 [ag] [aA A.v] fun i a=>aAC 311 [ag,.ptr 1 0] [some [.ptr 2 0],jR (b,()),iq (md F v (i64.wrap (d+1))),aA a] _)=_;rw[aF1 c,aF,eX (next h)];rw[wr1 e c,b4A g];grind [wr2]
theorem b9H (c:0<=d) (b:d<32) (h:A.ok) (e:B.ok) (f:SS.CC 287 [ag] [aO (md F v (d+1)),aA A.next.v]=some (A1 (ev x),[aO (md F v (d+1)),aA B.v])) :
 SS.CC 310 [ag,dm 312 [.ptr 1 0]] [dh (md F v d),some [ag],aA A.v]=some (A1 (ev x),[dh (md F v d),some [ag],aA (B.exp [41]).v]):=by
 have g:SS.CC 312 [ag] [some [.ptr 1 0],dh (md F v (d+1)),aA A.next.v]=some (A1 (ev x),[some [.ptr 1 0],dh (md F v (d+1)),aA (B.exp [41]).v]):=by rw[bPK,zY f];rw[bg (aN5 e)]
 rw[aSG];show aB (d==32) _ (fU 88 [ag] [aA A.v] fun i a=>Hq 312 [ag] [some [.ptr 1 0],dh (md F v (i64.wrap (d+1))),aA a] _)=_;rw[aF1 b,aF,eX (next h)];rw[wr1 c b,aA9 g];grind [wr2]
def b77 (a:SS.CC 231 [ag] [bH (pc d v),aA A.v]=some (A1 (ev x),[bH (pc d v),aA B.v])):SS.CC 280 [ag] [some [.ptr 1 0],ah (pc d v),aA A.v]=some (A1 (ev (kS 10 x)),[some [.ptr 1 0],ah (pc d v),aA B.v]):=by rw[bOA,zf a,ev1]
def b7A (a:B.ok) (b:SS.CC 37 [ag] [bH (pc d v),aA A.v]=some (A1 (ev x),[bH (pc d v),aA B.v])):SS.CC 282 [ag] [some [.ptr 1 0],ah (pc d v),aA A.v]=some (A1 (ev x),[some [.ptr 1 0],ah (pc d v),aA (B.exp [41]).v]):=by rw[bOB,zf b];rw[bg (aN5 a)]
theorem b78 (h:A.ok) (hk:A.pk.kind≠2) (a:SS.CC 231 [ag] [bH (pc d v),aA A.v]=some (A1 (ev x),[bH (pc d v),aA B.v])):SS.CC 281 [ag] [some [.ptr 1 0],ah (pc d v),aA A.v]=some (A1 (ev (kS 5 x)),[some [.ptr 1 0],ah (pc d v),aA B.v]):=by rw[aR',eX (gJ h)];rw[show (A.pk.kind==2)=false by grind,aF,zf a,ev1]
def b79 (h:A.ok) (hk:A.pk.kind=2):SS.CC 281 [ag] [some [.ptr 1 0],ah (pc d v),aA A.v]=some (A1 (ev (nE (i64.wrap (0-A.pk.value)))),[some [.ptr 1 0],ah (pc d v),aA A.next.v]):=by rw[aR',eX (gJ h)];rw[show (A.pk.kind==2)=true by simp[hk],aI,Qs (TY h 0 65536),(a6N h hk).1,(a6N h hk).2,KP]
def a'4 (h:A.ok) (hk:A.pk.kind=2):SS.CC 309 [ag] [aO (md F v d),aA A.v]=some (A1 (ev (nE A.pk.value)),[aO (md F v d),aA A.next.v]):=by rw[IV,eX (gJ h)];rw[bY (wF h)];rw[aDG hk,aF,bY (zx h)];rw[aDG hk,aF,bY (Kz h)];rw[aDG hk,aF,show (A.pk.kind==2)=true by simp[hk],aI,eX (next h),KP]
end
variable {j:RA} {d8:List b_}
theorem c9Y {l:List b_} {d:Int} (a:j.ok) (f:j.is [33]=false) (g:j.is [45]=false) (b:j.is [40]=false) (hk:¬j.pk.kind=2):SS.CC 231 [ag] [bH (pc d (dG l)),aA j.v]=aB (j.is mM) (some (A1 (ev tE),[bH (pc d (dG l)),aA (j.take mM).v])) (bW 87 [ag,cEX [102,97,108,115,101]] [aA (j.take mM).v] fun c e=>aB c (oM 155 [] fun h=>some (A1 h,[bH (pc d (dG l)),aA e])) (Pz (pc d (dG l)) e)):=by rw[IR,bY (wF a)];rw[f,aF,bY (zx a)];rw[g,aF,bY (Kz a)];rw[b,aF,eX (gJ a)];rw[show (j.pk.kind==2)=false by grind,aF,bY (tkT a)];rw[eG g_]
theorem b_W {F:MF} {l:List b_} {d:Int} (a:j.ok) (c:j.is [33]=false) (e:j.is [45]=false) (b:j.is [40]=false) (hk:¬j.pk.kind=2):SS.CC 309 [ag] [aO (md F (dG l) d),aA j.v]=aB (j.is mM) (some (A1 (ev tE),[aO (md F (dG l) d),aA j.next.v])) (aB (j.is pM) (some (A1 (ev fE),[aO (md F (dG l) d),aA j.next.v])) (Sz (md F (dG l) d) j.v)):=by rw[IV,eX (gJ a)];rw[bY (wF a)];rw[c,aF,bY (zx a)];rw[e,aF,bY (Kz a)];rw[b,aF,show (j.pk.kind==2)=false by grind,aF,eX (next a)];rw[eG g_,eX (next a)];rw[eG iV,EH,tlT,tlF,Tf a (x:=mM) (by decide),Tf a (x:=pM) (by decide)];cases j.pk.kind==1<;>cases j.pk.text==mM<;>cases j.pk.text==pM<;>simp only[aI,aF,DU,QT]
def Vp (F:MF) (l:List b_) (n:Nat):Prop:=∀ d:Int,0<=d->d<=32->∀ A:RA,A.ok->A.N<=n->∃ a x y,
 SS.CC 231 [ag] [bH (pc d (dG l)),aA A.v]=some (A1 (ev x),[bH (pc d (dG l)),aA a.v]) /\
 SS.CC 309 [ag] [aO (md F (dG l) d),aA A.v]=some (A1 (ev y),[aO (md F (dG l) d),aA a.v])/\aAF l A a x y
def a0K (F:MF) (l:List b_) (n:Nat):Prop:=∀ d:Int,0<=d->d<=32->∀ A:RA,A.ok->A.N<=n->∃ a x y,
 SS.CC 37 [ag] [bH (pc d (dG l)),aA A.v]=some (A1 (ev x),[bH (pc d (dG l)),aA a.v]) /\
 SS.CC 287 [ag] [aO (md F (dG l) d),aA A.v]=some (A1 (ev y),[aO (md F (dG l) d),aA a.v])/\Vk l 0 A a x y
theorem c6Q {F:MF} {l:List b_} (H:l.length<1000000000000) {n:Nat} (t:∀ m,m<n->Vp F l m) (G:∀ m,m<n->a0K F l m):Vp F l n:=by
 intro d j M A a O;cases f:A.is [33] with
 | true =>
  have I:=aVQ a (x := [33]) (by decide) f;have c:=jl a (kY f);by_cases u:d=32
  .subst u;refine ⟨A.fail 3,zE,kS 10 zE,?_,?_,.bad' (.fail a (by decide)) (qw (by decide)) Fv⟩
   .rw[IR,bY (wF a)];rw[f,aI,eX (gJ a)];rw[show (A.pk.kind==3)=true by simp[I.1],aI,Nl (aF2 a aRY)]
   .rw[IV,eX (gJ a)];rw[bY (wF a)];rw[f,aI,zY (b9I a),ev1]
  .obtain ⟨B,x,y,v,z,g⟩:=t A.next.N (by omega) (d+1) (by omega) (by omega) A.next a.next (dO _);refine ⟨B,kS 10 x,kS 10 y,?_,?_,⟨⟨(Le.next a).trans g.toLe,fun e=>by rw[g.eq e],fun e=>Nat.lt_trans (g.lt e) c.2,aNY g.fit⟩,fun e=>by obtain ⟨w,r,J⟩:=g.rd e;have:A.next.W+2=A.W:=oW a f;exact ⟨w+2,by rw[Td f]; exact .sJ r,by omega⟩⟩⟩
   .rw[IR,bY (wF a)];rw[f,aI,eX (gJ a)];rw[show (A.pk.kind==3)=true by simp[I.1],aI,Nl (a7U j (by omega) a aRY (b77 v))]
   .rw[IV,eX (gJ a)];rw[bY (wF a)];rw[f,aI,zY (b9J j (by omega) a z),ev1]
 | false =>
  cases i:A.is [45] with
  | true =>
   have c:=jl a (kY i);by_cases u:d=32
   .subst u;refine ⟨A.fail 3,zE,kS 5 zE,?_,?_,.bad' (.fail a (by decide)) (qw (by decide)) Fv⟩
    .rw[IR,bY (wF a)];rw[f,aF,bY (zx a)];rw[i,aI,Nl (aF2 a aCF)]
    .rw[IV,eX (gJ a)];rw[bY (wF a)];rw[f,aF,bY (zx a)];rw[i,aI,aAB (b9F a false)];rfl
   .by_cases hk:A.next.pk.kind=2
    .have C:=jl a.next (show A.next.pk.kind≠4 by omega);refine ⟨A.next.next,nE (i64.wrap (0-A.next.pk.value)),nE (i64.wrap (0-A.next.pk.value)),?_,?_,⟨⟨(Le.next a).trans (Le.next a.next),fun _=>rfl,fun _=>Nat.lt_trans C.2 c.2,Fv⟩,fun e=>by have k1:A.next.W+2=A.W:=oW a i;have k2:=Gp a.next (show A.next.pk.kind≠4 by omega);obtain ⟨K,L⟩:=PN a.next hk;unfold BZ at k2;rw[ay hk] at k2;exact ⟨_,by rw[Td i,wrap64 (by omega) (by omega)]; exact .UC K L,by omega⟩⟩⟩
     .rw[IR,bY (wF a)];rw[f,aF,bY (zx a)];rw[i,aI,Nl (a7U j (by omega) a aCF (b79 a.next hk))]
     .rw[IV,eX (gJ a)];rw[bY (wF a)];rw[f,aF,bY (zx a)];rw[i,aI,aAB (aML j (by omega) a false (a'4 a.next hk))];rw[show (A.next.pk.kind==2)=true by simp[hk],aI];rfl
    .obtain ⟨B,x,y,v,z,g⟩:=t A.next.N (by omega) (d+1) (by omega) (by omega) A.next a.next (dO _);refine ⟨B,kS 5 x,kS 5 y,?_,?_,⟨⟨(Le.next a).trans g.toLe,fun e=>by rw[g.eq e],fun e=>Nat.lt_trans (g.lt e) c.2,aNY g.fit⟩,fun e=>by obtain ⟨w,r,J⟩:=g.rd e;rw[show (A.next.pk.kind==2)=false by simp[hk]] at r;have:A.next.W+2=A.W:=oW a i;exact ⟨w+2,by rw[Td i]; exact .neg r,by omega⟩⟩⟩
     .rw[IR,bY (wF a)];rw[f,aF,bY (zx a)];rw[i,aI,Nl (a7U j (by omega) a aCF (b78 a.next hk v))]
     .rw[IV,eX (gJ a)];rw[bY (wF a)];rw[f,aF,bY (zx a)];rw[i,aI,aAB (aML j (by omega) a false z)];grind [aF,ev1]
  | false =>
   cases h:A.is [40] with
   | true =>
    have c:=jl a (kY h);by_cases u:d=32
    .subst u;refine ⟨A.fail 3,zE,zE,?_,?_,.bad' (.fail a (by decide)) (qw (by decide)) Fv⟩
     .rw[IR,bY (wF a)];rw[f,aF,bY (zx a)];rw[i,aF,bY (Kz a)];rw[h,aI,Nl (aF2 a aRZ)]
     .rw[IV,eX (gJ a)];rw[bY (wF a)];rw[f,aF,bY (zx a)];rw[i,aF,bY (Kz a)];rw[h,aI,VS (b9G a)]
    .obtain ⟨B,x,y,v,z,g⟩:=G A.next.N (by omega) (d+1) (by omega) (by omega) A.next a.next (dO _);have D:=Le.exp g.ok [41];refine ⟨B.exp [41],x,y,?_,?_,⟨⟨((Le.next a).trans g.toLe).trans D,fun e=>g.eq (D.e0 e),fun e=>Nat.lt_of_le_of_lt D.le (Nat.lt_trans (g.lt (D.e0 e)) c.2),g.fit⟩,fun e=>by obtain ⟨b,w,r,J⟩:=g.rd (D.e0 e);have k1:A.next.W+2=A.W:=oW a h;have k2:(B.exp [41]).W+2=B.W:=o9 g.ok e;exact ⟨w+4,by rw[Td h]; exact .par r,by omega⟩⟩⟩
     .rw[IR,bY (wF a)];rw[f,aF,bY (zx a)];rw[i,aF,bY (Kz a)];rw[h,aI,Nl (a7U j (by omega) a aRZ (b7A g.ok v))]
     .rw[IV,eX (gJ a)];rw[bY (wF a)];rw[f,aF,bY (zx a)];rw[i,aF,bY (Kz a)];rw[h,aI,VS (b9H j (by omega) a g.ok z)]
   | false =>
    by_cases hk:A.pk.kind=2
    .have c:=jl a (show A.pk.kind≠4 by omega);refine ⟨A.next,nE A.pk.value,nE A.pk.value,?_,a'4 a hk,⟨⟨Le.next a,fun _=>rfl,fun _=>c.2,Fv⟩,fun e=>by have k2:=Gp a (show A.pk.kind≠4 by omega);unfold BZ at k2;rw[ay hk] at k2;exact ⟨_,by rw[show (A.pk.kind==2)=true by simp[hk]]; exact .num (PN a hk).1 (PN a hk).2,by omega⟩⟩⟩;rw[IR,bY (wF a)];rw[f,aF,bY (zx a)];rw[i,aF,bY (Kz a)];rw[h,aF,eX (gJ a)];rw[show (A.pk.kind==2)=true by simp[hk],aI,Qs (TY a 0 65536),(a6N a hk).1,(a6N a hk).2,KP]
    .have o:=c9Y (l:=l) (d:=d) a f i h hk;have E:=b_W (F:=F) (l:=l) (d:=d) a f i h hk;cases p:A.is mM with
     | true =>
      have c:=jl a (kY p);refine ⟨A.next,tE,tE,?_,?_,⟨⟨Le.next a,fun _=>rfl,fun _=>c.2,IL Fv Fv⟩,fun e=>⟨5,by rw[Td p]; exact .tt,by have:A.next.W+5=A.W:=oW a p; omega⟩⟩⟩;grind [aI,qc]
      simp_all
     | false =>
      cases q:A.is pM with
      | true =>
       have c:=jl a (kY q);refine ⟨A.next,fE,fE,?_,?_,⟨⟨Le.next a,fun _=>rfl,fun _=>c.2,IL Fv Fv⟩,fun e=>⟨6,by rw[Td q]; exact .ff,by have:A.next.W+6=A.W:=oW a q; omega⟩⟩⟩
       .rw[o,p,aF,mY p,bY (tkF a)];rw[q,aI,eG iV,qc q]
       simp_all
      | false =>
       refine ⟨A.kn l,vE (A.yA l),vE (if (0:Int)>kX (bs (A.kp l).iI) l 0 then 0 else kX (bs (A.kp l).iI) l 0),?_,?_,⟨⟨Le.kn a l,fun e=>by rw[(aDX a e).1],fun e=>(aDX a e).2,Fv⟩,fun e=>by
        obtain ⟨k1,k2,k3,k4,k5⟩:=aDW a e;have k6:=Gp a (show A.pk.kind≠4 by omega);unfold BZ at k6;rw[aX (by omega)] at k6;obtain ⟨_,k7⟩:=aDA (k:=0) k3;have k8:A.yA l=kX (bs A.pk.text) l 0:=by grind [RA.yA]
        refine ⟨_,by rw[show (A.pk.kind==2)=false by simp[k2]]; exact .var (s:=bs A.pk.text) (by omega) (by rw[k8]; grind),?_⟩;rw[k4]; show wl A.pk.text+1+A.next.W<=A.W; omega⟩⟩
       .rw[o,p,aF,mY p,bY (tkF a)];rw[q,aF,mY q,bKE,FO (Tn a (pc d (dG l)) l H),aN2]
       .rw[E,p,aF,q,aF,bOH,FM (Ry a (md F (dG l) d) l H),aN2]
def bW1 (h:j.ok) (q:Sh.V bF) (o:Int):SS.CC 304 [aP o,ag] [some [.ptr 1 0],dh q,aA j.v]=some (.bool (j.is (lW o)),[some [.ptr 1 0],dh q,aA j.v]):=by rw[bKS,nR (MO o),bY (uX h _)];rfl
def aW0 {A:RA} (h:A.ok) (q:Sh.V bF) (all:List Int) (b:all.length<1000000000000):∀ (l:List Int) (k:Nat),all.drop k=l->k<=all.length->a3U (Lj all) q A.v (k:Int)=some (aP (A.ix l k),[some [.ptr 1 0],dh q,aA A.v])
 | [],k,a,hk=>by have:all.length<=k:=NM.1 a;rw[aQV,aU (by rw[aZ]; omega)]; rfl
 | o::l,k,a,hk=>by
  have c:k<all.length:=by
   rcases F9 k all.length with h' | h'
   .exact h'
   .rw[NP h'] at a; cases a
  have d:all[k]? = some o:=by have:=congrArg (fun l=>l[0]?) a;simpa using this
  rw[aQV,aK (by rw[aZ]; omega),nK (by omega) (by rw[nC,nP,d]; rfl),vZ,Dk (bW1 h q o)];rw[RA.ix];cases A.is (lW o) with
  | true=>rfl
  | false =>rw[wrap64 (by omega) (by omega)];exact aW0 h q all b l (k+1) (by rw[<- QW,a]; rfl) (by omega)
def ixc (h:j.ok) (q:Sh.V bF) (l:List Int) (a:l.length<1000000000000):SS.CC 283 [a_ (Lj l),dm 304 [ag]] [some [.ptr 1 0],dh q,aA j.v]=some (aP (j.ix l 0),[some [.ptr 1 0],dh q,aA j.v]):=by rw[bKR]; exact aW0 h q l a l 0 rfl (Dc _)
abbrev Js:=Sh.V bF->Sh.V aC->(Sh.V S1->Sh.V bF->Sh.V aC->R)->R
def aAI:Js:=fun a b K=>qK 309 [ag] [aO a,aA b] K
def J6:Js:=fun a b K=>qK 298 [ag] [aO a,aA b] K
def RF:Js:=fun a b K=>qK 305 [ag] [aO a,aA b] K
def aAG:Js:=fun a b K=>Hq 297 [ag] [some [.ptr 1 0],dh a,aA b] K
def aAH:Js:=fun a b K=>Hq 308 [ag] [some [.ptr 1 0],dh a,aA b] K
abbrev a0B:=Sh.V S1->Sh.V bF->Sh.V aC->R
def bAR:a0B:=fun u a b=>some (A1 u,[aO a,aA b])
def bAT:a0B:=fun u a b=>some (A1 u,[dh a,some [ag],aA b])
def Bh (F:MF) (l:List b_) (n:Nat) (d b:Int) (c:Js):Prop:=∀ A:RA,A.ok->A.N<=n->∃ a x y,
 SS.CC 149 [ag,aP b] [bH (pc d (dG l)),aA A.v]=some (A1 (ev x),[bH (pc d (dG l)),aA a.v]) /\
 (∀ K,c (md F (dG l) d) A.v K=K (ev y) (md F (dG l) d) a.v)/\Vk l b A a x y
def b_V:∀ t,t∈lC->(iR t).1≠3->(iR t).1≠0->((iR t).2.1=2/\(iR t).1=4\/(iR t).2.1=3/\(iR t).1=4\/(iR t).2.1=4/\(iR t).1=5\/(iR t).2.1=11/\(iR t).1=2\/(iR t).2.1=12/\(iR t).1=1)/\(lW (iR t).2.1).length=t.length:=by decide
def Bq (q:Sh.V bF) (A:RA):SS.CC 48 [ag] [aO q,aA A.v]=some (.bool (A.e != 0),[aO q,aA A.v]):=by rw[bIM,Np (OO A)]
section
variable {F:MF} {l:List b_} {d:Int} {a':RA} {y:EX} {e:ai} {d9:Js} {i:Nat} {r:Sh.V bF}
theorem YJ {b:Int} {x:EX} (h:j.ok) (f:0<b) (h6:b<6) (c:j.zC b=true) (i:(iR j.pk.text).2.2=false)
 (a:SS.CC 149 [ag,aP (b+1)] [bH (pc d e),aA j.next.v]=some (A1 (ev y),[bH (pc d e),aA a'.v])) :
 IQ b (pc d e) j.v (ev x)=aB (b==3) (some (A1 (ev (iQ (iR j.pk.text).2.1 x y)),[bH (pc d e),aA a'.v])) (IQ b (pc d e) a'.v (ev (iQ (iR j.pk.text).2.1 x y))):=by
 obtain ⟨o,l,g,m⟩:=opc h d e b f;rw[aBY,aAA g];rw[eX (next h)];rw[wrap64 (by omega) (by omega),zf a];grind [aF,aQ,b88,b86,aQ4,uT]
theorem aXK {a:Int} (h:j.ok) (b:0<a) (c:j.zC a=false):IQ a (pc d e) j.v (ev y)=some (A1 (ev y),[bH (pc d e),aA j.v]):=by obtain ⟨o,g,f,_⟩:=opc h d e a b;rw[aBY,aAA f];simp_all
theorem E8 {g:Int} {f:List Int} {L:Sh.V bF->Sh.V aC->Sh.V S1->R} {o:a0B} (O:0<g) (h6:g<6) (h3:g≠3) (Q:Be g f) (S:f.length<1000000000000)
 (T:∀ U E q,L U E q=Di 48 [ag] [aO U,aA E] fun b1 Y t=>aB (!b1) (Nk 283 [a_ (Lj f),dm 304 [ag]] [some [.ptr 1 0],dh Y,aA t] fun u Z z=>aB (decide (u<0)) (o q Z z) (fU 88 [ag] [aA z] fun a' H=>dD (Lj f) u fun I=>vI .i64 I fun J=>d9 Z H fun K Eu M=>L Eu M (J,0,0,[A1 q,A1 K],()))) (o q Y t))
 (hS:Bh F l i d (g+1) d9) {X:Nat}:∀ (m:Nat) (A:RA) (x y:EX),A.ok->A.N<=m->m<=i->(A.e=0->x=y)->x.Fit->(A.e=0->∃ b w,jX l b g x w/\w+A.W<=X)->∃ h p G,
  IQ g (pc d (dG l)) A.v (ev x)=some (A1 (ev p),[bH (pc d (dG l)),aA h.v])/\L (md F (dG l) d) A.v (ev y)=o (ev G) (md F (dG l) d) h.v/\Le A h/\(h.e=0->p=G)/\p.Fit/\(h.e=0->∃ b w,jX l b g p w/\w+h.W<=X):=by
 intro m;induction m using Nat.strongRecOn with
 | _ m ih =>
  intro A x y a hm b0 C j D;cases c:A.zC g with
  | false =>
   refine ⟨A,x,y,aXK a O c,?_,.refl a,C,j,D⟩;rw[T,Dj (Bq _ A)];cases A.e != 0 with
   | true=>rw[ut,aF]
   | false =>rw[aK9 (ixc a _ f S),b_Y a Q c];rfl
  | true =>
   obtain ⟨k4,⟨k,k1,k2⟩,k3⟩:=b_Z a Q c;have he:=GV k4;have b3:=jl a k4;obtain ⟨B,x1,y1,e1,e2,o1⟩:=hS A.next a.next (by omega);have hB:=o1.le;obtain ⟨h,p,G,f1,f2,f3,f4⟩:=ih B.N (by omega) B (iQ (iR A.pk.text).2.1 x x1) (iQ (iR A.pk.text).2.1 y y1) o1.ok (dO _) (by omega) (fun e=>by rw[o1.eq e,C he]) (IL j o1.fit) fun e=>by
    obtain ⟨b,w,r,hw⟩:=D he;obtain ⟨b2,w2,r2,b4⟩:=o1.rd e;have c':=c;unfold RA.zC at c';have E:(iR A.pk.text).1=g:=by grind
    have q2:A.pk.kind=3:=by grind
    obtain ⟨q3,q⟩:=b_V _ (MG a q2) (by omega) (by omega);rw[E] at q3;have q5:=Gp a k4;unfold BZ at q5;rw[aX (by omega)] at q5;have q6:=aJF _ (MG a q2);exact ⟨_,_,.bin q3 r r2,by omega⟩
   refine ⟨h,p,G,?_,?_,((Le.next a).trans o1.toLe).trans f3,f4⟩
   .rw[YJ a O h6 c k3 e1,show (g==3)=false by grind,aF,f1]
   .rw[T,Dj (Bq _ A)];rw[show (A.e != 0)=false by simp[he],su,aI,aK9 (ixc a _ f S),k1];rw[aU (by omega),aF,eX (next a)];rw[nK (by omega) (by rw[nC,nP,k2]; rfl),vZ,e2,<- f2,uT]
theorem lvl {lv:Int} {c:List Int} {L:Sh.V bF->Sh.V aC->Sh.V S1->R} {fin:a0B} (K:0<lv) (h6:lv<6) (M:lv≠3) (O:Be lv c) (Q:c.length<1000000000000)
 (S:∀ D E m,L D E m=Di 48 [ag] [aO D,aA E] fun T G f=>aB (!T) (Nk 283 [a_ (Lj c),dm 304 [ag]] [some [.ptr 1 0],dh G,aA f] fun g H h=>aB (decide (g<0)) (fin m H h) (fU 88 [ag] [aA h] fun U o=>dD (Lj c) g fun p=>vI .i64 p fun q=>d9 H o fun t X z=>L X z (q,0,0,[A1 m,A1 t],()))) (fin m G f))
 (I:Bh F l i d (lv+1) d9) (A:RA) (Y:A.ok) (J:A.N<=i):∃ j x y,
  SS.CC 149 [ag,aP lv] [bH (pc d (dG l)),aA A.v]=some (A1 (ev x),[bH (pc d (dG l)),aA j.v])/\(d9 (md F (dG l) d) A.v fun u a b=>L a b u)=fin (ev y) (md F (dG l) d) j.v/\Vk l lv A j x y:=by
 obtain ⟨B,Z,y1,e1,e2,o1⟩:=I A Y J;obtain ⟨j,x',y',f1,f2,C,f4,f5,f6⟩:=E8 K h6 M O Q S I B.N B Z y1 o1.ok (dO _) (jO o1.le J) o1.eq o1.fit fun e=>by obtain ⟨b,w,r,hw⟩:=o1.rd e;exact ⟨_,w,.up r (by omega) (by omega),hw⟩
 refine ⟨j,x',y',?_,?_,⟨⟨o1.toLe.trans C,f4,fun e=>Nat.lt_of_le_of_lt C.le (o1.lt (C.e0 e)),f5⟩,f6⟩⟩
 .rw[aBZ,show (lv==6)=false by simp; omega,wrap64 (by omega) (by omega),zf e1];exact f1
 grind
theorem c6P (a:0<=d) (b:d<=32) (c:Vp F l i):Bh F l i d 6 aAI:=by
 intro A f g;obtain ⟨B,x,y,h,j,o⟩:=c d a b A f g;refine ⟨B,x,y,?_,fun K => ?_,⟨o.toOut,fun e=>by obtain ⟨w,r,m⟩:=o.rd e; grind⟩⟩
 .rw[aBZ];show aB true _ _=_;rw[aI,zf h]
 .unfold aAI; rw[zY j]
def c6O (h:Bh F l i d 6 aAI):Bh F l i d 5 aAH:=by
 intro A a b;obtain ⟨B,x,y,c,e,o⟩:=lvl (by decide) (by decide) (by decide) ops5 (by decide) (fun f g j=>bI5 _ f g j) h A a b;refine ⟨B,x,y,c,fun K => ?_,o⟩;have m:SS.CC 296 [ag,a_ [aP 4],.func (.func 309) [ag] []] [aO (md F (dG l) d),aA A.v]=some (A1 (ev y),[aO (md F (dG l) d),aA B.v]):=(bI6 _ _ _).trans e;have p:SS.CC 308 [ag] [some [.ptr 1 0],dh (md F (dG l) d),aA A.v]=some (A1 (ev y),[some [.ptr 1 0],dh (md F (dG l) d),aA B.v]):=by rw[bOG,zY m]
 unfold aAH; rw[aA9 p]
def c6N (h:Bh F l i d 5 aAH):Bh F l i d 4 RF:=by
 intro A a b;obtain ⟨B,x,y,c,e,o⟩:=lvl (by decide) (by decide) (by decide) ops4 (by decide) (fun f g j=>bI0 _ f g j) h A a b;refine ⟨B,x,y,c,fun K => ?_,o⟩;have m:SS.CC 296 [ag,a_ [aP 2,aP 3],dm 308 [.ptr 1 0]] [dh (md F (dG l) d),some [ag],aA A.v]=some (A1 (ev y),[dh (md F (dG l) d),some [ag],aA B.v]):=(bI1 _ _ _).trans e;have p:SS.CC 305 [ag] [aO (md F (dG l) d),aA A.v]=some (A1 (ev y),[aO (md F (dG l) d),aA B.v]):=by rw[bKU,VS m]
 unfold RF; rw[zY p]
def aXJ {x:EX} (h:j.ok) (c:j.zC 3=true) (f:(iR j.pk.text).2.2=true)
 (a:SS.CC 149 [ag,aP 4] [bH (pc d e),aA j.next.v]=some (A1 (ev y),[bH (pc d e),aA a'.v])) :
 IQ 3 (pc d e) j.v (ev x)=some (A1 (ev (iQ (iR j.pk.text).2.1 y x)),[bH (pc d e),aA a'.v]):=by
 obtain ⟨o,m,g,i⟩:=opc h d e 3 (by decide);obtain ⟨l,b⟩:=i c;rw[f] at b;subst l b;rw[aBY,aAA g];rw[c,eX (next h)];rw[wrap64 (by omega) (by omega),zf (show SS.CC 149 [ag,aP (3+1)] [bH (pc d e),aA j.next.v]=_ from a)];rw[b4H (c4N (ev x) (ev y))];rw[aQ4];rfl
theorem wG (h:j.ok) {i:Nat} {o:Int} (b:i<4) (a:([aP 6,aP 7,aP 9,aP 8]:ai)[i]? = some (aP o)) (c:j.is (lW o)=false):Ku r j.v (ev y) (i:Int)=Ku r j.v (ev y) ((i+1:Nat):Int):=by rw[aC1,aK (by omega),aI,nK (by omega) (by exact a),vZ,nR (MO o),bY (jL h (bs (lW o)))];grind [bs,aF,mY,wrap64]
def a7I {a:EX} (h:j.ok) {i:Nat} {o:Int} (d:i<4) (b:([aP 6,aP 7,aP 9,aP 8]:ai)[i]? = some (aP o)) (c:j.is (lW o)=true) (e:∀ K,RF r j.next.v K=K (ev a) r a'.v):Ku r j.v (ev y) (i:Int)=some (A1 (ev (iQ o y a)),[aO r,aA a'.v]):=by rw[aC1,aK (by omega),nK (by omega) (by exact b),vZ,nR (MO o),bY (jL h (bs (lW o)))];rw[show (bs (lW o)).data.toList=lW o from rfl,c,qc c];exact e _
def aEE (h:j.ok):Ku r j.v (ev y) 4=aB (j.is [62,61]) (RF r (j.take [62,61]).v fun b c d=>some (A1 (9,0,0,[A1 b,A1 (ev y)],()),[aO c,aA d])) (bW 87 [ag,cEX [62]] [aA (j.take [62,61]).v] fun e a=>aB e (RF r a fun u64 f g=>some (A1 (8,0,0,[A1 u64,A1 (ev y)],()),[aO f,aA g])) (some (A1 (ev y),[aO r,aA a]))):=by rw[aC1,bY (jL h _)];rfl
theorem c6M {n:Nat} (h:Bh F l n d 4 RF):Bh F l n d 3 J6:=by
 intro A Y Z;obtain ⟨B,x,y,e1,e2,o1⟩:=h A Y Z;have f:=o1.ok;have E:∀ r,IQ 3 (pc d (dG l)) B.v (ev x)=r->SS.CC 149 [ag,aP 3] [bH (pc d (dG l)),aA A.v]=r:=fun r j=>by rw[aBZ];show aB false _ (zZ 149 [ag,aP (i64.wrap (3+1))] _ _)=_;rw[aF,wrap64 (by decide) (by decide),zf (show SS.CC 149 [ag,aP (3+1)] [bH (pc d (dG l)),aA A.v]=_ from e1)];exact j
 have G:∀ {C:RA} {z:EX},Ku (md F (dG l) d) B.v (ev y) 0=some (A1 (ev z),[aO (md F (dG l) d),aA C.v])->∀ K,J6 (md F (dG l) d) A.v K=K (ev z) (md F (dG l) d) C.v:=fun {C z} j K=>by
  have:SS.CC 298 [ag] [aO (md F (dG l) d),aA A.v]=some (A1 (ev z),[aO (md F (dG l) d),aA C.v]):=by rw[bIC]; exact (e2 _).trans j
  unfold J6; rw[zY this]
 cases c:B.zC 3 with
 | false =>
  have D:∀ s,s∈lC->(iR s).1=3->B.is s=false:=fun s N M=>by grind [aVQ,RA.zC]
  refine ⟨B,x,y,E _ (aXK f (by decide) c),G ?_,⟨o1.toOut,fun e=>by obtain ⟨b,w,r,O⟩:=o1.rd e; exact ⟨_,w,.up r (by decide) (by decide),O⟩⟩⟩;rw[show (0:Int)=((0:Nat):Int) from rfl,wG f (i:=0) (o:=6) (by decide) rfl (D _ (by decide) rfl),wG f (i:=1) (o:=7) (by decide) rfl (D _ (by decide) rfl),wG f (i:=2) (o:=9) (by decide) rfl (D _ (by decide) rfl),wG f (i:=3) (o:=8) (by decide) rfl (D _ (by decide) rfl),
   show ((3+1:Nat):Int)=4 from rfl,aEE f,D [62,61] (by decide) rfl,aF,mY (D [62,61] (by decide) rfl),bY (jL f _)]
  rw[D [62] (by decide) rfl,aF,mY (D [62] (by decide) rfl)]
 | true =>
  have Q:=c;unfold RA.zC at Q;rw[bQ] at Q;have M:B.pk.kind=3:=by simp_all
  have a':=jl f (show B.pk.kind≠4 by omega);have b0:=o1.le;obtain ⟨C,t,H,I,J,q⟩:=h B.next f.next (by omega);have he:B.e=0:=GV (by omega);have S:=q.le;have T:=o1.lt he;have mW:∀ s,s∈lC->B.is s=(B.pk.text==s):=fun s N=>by rw[a6P f N,M]; rfl
  have m:∀ {u w:EX},(C.e=0->u=w)->u.Fit->(C.e=0->∃ b w,jX l b 3 u w/\w+C.W<=A.W)->Vk l 3 A C u w:=fun hu hf j=>⟨⟨(o1.toLe.trans (Le.next f)).trans q.toLe,hu,fun _=>by omega,hf⟩,j⟩
  have p:∀ {o:Int},(o=6\/o=7\/o=8\/o=9)->(lW o).length=B.pk.text.length->C.e=0->(∃ b w,jX l b 3 (iQ o x t) w/\w+C.W<=A.W)/\∃ b w,jX l b 3 (iQ o t x) w/\w+C.W<=A.W:=fun U N e=>by obtain ⟨b,w,r,O⟩:=o1.rd he;obtain ⟨b2,w2,V,b1⟩:=q.rd e;have X:=Gp f (show B.pk.kind≠4 by omega);unfold BZ at X;rw[aX (by omega)] at X;have q6:=aJF _ (MG f M);exact ⟨⟨_,_,.cmp U r V,by omega⟩,_,_,.cmp U V r,by omega⟩
  have g:C.e=0->x=y/\t=H:=fun e=>⟨o1.eq he,q.eq e⟩
  rcases bZN _ (MG f M) (by simp_all) with a | a | a | a | a | a
  .have j:=YJ (x:=x) f (by decide) (by decide) c (by rw[a]; rfl) I;rw[a] at j;refine ⟨C,iQ 6 x t,iQ 6 y H,E _ j,G ?_,m (fun e=>by rw[(g e).1,(g e).2]) (IL o1.fit q.fit) fun e=>(p (by decide) (by rw[a]; rfl) e).1⟩;exact a7I f (i:=0) (by decide) rfl (by rw[mW _ (uk _),a]; rfl) J
  .have j:=YJ (x:=x) f (by decide) (by decide) c (by rw[a]; rfl) I;rw[a] at j;refine ⟨C,iQ 7 x t,iQ 7 y H,E _ j,G ?_,m (fun e=>by rw[(g e).1,(g e).2]) (IL o1.fit q.fit) fun e=>(p (by decide) (by rw[a]; rfl) e).1⟩;rw[show (0:Int)=((0:Nat):Int) from rfl,wG f (i:=0) (o:=6) (by decide) rfl (by rw[mW _ (uk _),a]; rfl)];exact a7I f (i:=1) (by decide) rfl (by rw[mW _ (uk _),a]; rfl) J
  .have j:=YJ (x:=x) f (by decide) (by decide) c (by rw[a]; rfl) I;rw[a] at j;refine ⟨C,iQ 9 x t,iQ 9 y H,E _ j,G ?_,m (fun e=>by rw[(g e).1,(g e).2]) (IL o1.fit q.fit) fun e=>(p (by decide) (by rw[a]; rfl) e).1⟩;rw[show (0:Int)=((0:Nat):Int) from rfl,wG f (i:=0) (o:=6) (by decide) rfl (by rw[mW _ (uk _),a]; rfl),wG f (i:=1) (o:=7) (by decide) rfl (by rw[mW _ (uk _),a]; rfl)];exact a7I f (i:=2) (by decide) rfl (by rw[mW _ (uk _),a]; rfl) J
  .have j:=YJ (x:=x) f (by decide) (by decide) c (by rw[a]; rfl) I;rw[a] at j;refine ⟨C,iQ 8 x t,iQ 8 y H,E _ j,G ?_,m (fun e=>by rw[(g e).1,(g e).2]) (IL o1.fit q.fit) fun e=>(p (by decide) (by rw[a]; rfl) e).1⟩;rw[show (0:Int)=((0:Nat):Int) from rfl,wG f (i:=0) (o:=6) (by decide) rfl (by rw[mW _ (uk _),a]; rfl),wG f (i:=1) (o:=7) (by decide) rfl (by rw[mW _ (uk _),a]; rfl),wG f (i:=2) (o:=9) (by decide) rfl (by rw[mW _ (uk _),a]; rfl)];exact a7I f (i:=3) (by decide) rfl (by rw[mW _ (uk _),a]; rfl) J
  .have j:=aXJ (x:=x) f c (by rw[a]; rfl) I;rw[a] at j;refine ⟨C,iQ 9 t x,iQ 9 H y,E _ j,G ?_,m (fun e=>by rw[(g e).1,(g e).2]) (IL q.fit o1.fit) fun e=>(p (by decide) (by rw[a]; rfl) e).2⟩;have L:B.is [62,61]=true:=by rw[mW _ (by decide),a]; rfl
   rw[show (0:Int)=((0:Nat):Int) from rfl,wG f (i:=0) (o:=6) (by decide) rfl (by rw[mW _ (uk _),a]; rfl),wG f (i:=1) (o:=7) (by decide) rfl (by rw[mW _ (uk _),a]; rfl),wG f (i:=2) (o:=9) (by decide) rfl (by rw[mW _ (uk _),a]; rfl),wG f (i:=3) (o:=8) (by decide) rfl (by rw[mW _ (uk _),a]; rfl),
    show ((3+1:Nat):Int)=4 from rfl,aEE f,L,aI,qc L,J,uT]
  .have j:=aXJ (x:=x) f c (by rw[a]; rfl) I;rw[a] at j;refine ⟨C,iQ 8 t x,iQ 8 H y,E _ j,G ?_,m (fun e=>by rw[(g e).1,(g e).2]) (IL q.fit o1.fit) fun e=>(p (by decide) (by rw[a]; rfl) e).2⟩;have L:B.is [62,61]=false:=by rw[mW _ (by decide),a]; rfl
   have cj:B.is [62]=true:=by rw[mW _ (by decide),a]; rfl
   rw[show (0:Int)=((0:Nat):Int) from rfl,wG f (i:=0) (o:=6) (by decide) rfl (by rw[mW _ (uk _),a]; rfl),wG f (i:=1) (o:=7) (by decide) rfl (by rw[mW _ (uk _),a]; rfl),wG f (i:=2) (o:=9) (by decide) rfl (by rw[mW _ (uk _),a]; rfl),wG f (i:=3) (o:=8) (by decide) rfl (by rw[mW _ (uk _),a]; rfl),
    show ((3+1:Nat):Int)=4 from rfl,aEE f,L,aF,mY L,bY (jL f _)]
   grind [aI,qc,uT]
def c6L (h:Bh F l i d 3 J6):Bh F l i d 2 aAG:=by
 intro A a b;obtain ⟨B,x,y,c,e,o⟩:=lvl (lv:=2) (L:=a3L (Lj [11])) (fin:=bAR) (by decide) (by decide) (by decide) ops2 (by decide) (fun f g j=>bHW _ f g j) h A a b;refine ⟨B,x,y,c,fun K => ?_,o⟩;have m:SS.CC 296 [ag,a_ [aP 11],.func (.func 298) [ag] []] [aO (md F (dG l) d),aA A.v]=some (A1 (ev y),[aO (md F (dG l) d),aA B.v]):=(bHX _ _ _).trans e;have p:SS.CC 297 [ag] [some [.ptr 1 0],dh (md F (dG l) d),aA A.v]=some (A1 (ev y),[some [.ptr 1 0],dh (md F (dG l) d),aA B.v]):=by rw[bI7,zY m]
 unfold aAG; rw[aA9 p]
def c6K (h:Bh F l i d 2 aAG) (A:RA) (b:A.ok) (c:A.N<=i):∃ a x y,
 SS.CC 149 [ag,aP 1] [bH (pc d (dG l)),aA A.v]=some (A1 (ev x),[bH (pc d (dG l)),aA a.v]) /\
 SS.CC 296 [ag,a_ [aP 12],dm 297 [.ptr 1 0]] [dh (md F (dG l) d),some [ag],aA A.v]=some (A1 (ev y),[dh (md F (dG l) d),some [ag],aA a.v])/\Vk l 1 A a x y:=by
 obtain ⟨B,x,y,e,f,o⟩:=lvl (lv:=1) (L:=a3K (Lj [12])) (fin:=bAT) (by decide) (by decide) (by decide) b_X (by decide) (fun g j m=>bHR _ g j m) h A b c;exact ⟨B,x,y,e,(bHS _ _ _).trans f,o⟩
theorem c6R (E:Vp F l i) (q:∀ m,m<i->a0K F l m):a0K F l i:=by
 intro d o p A G H;obtain ⟨B,x,y,t,u,o1⟩:=c6K (c6L (c6M (c6N (c6O (c6P o p E))))) A G H;have f:=o1.ok;cases c:B.is [63] with
 | false =>
  refine ⟨B,x,y,?_,?_,⟨o1.toOut,fun e=>by obtain ⟨b,w,r,I⟩:=o1.rd e; exact ⟨_,w,.up r (by decide) (by decide),I⟩⟩⟩
  .rw[aOF,zf t];rw[bY (a9E f)];grind [aI,mY]
  .rw[aOG,VS u];rw[bY (a9E f)];grind [aI,mY]
 | true =>
  have J:=jl f (kY c);have K:=o1.le;obtain ⟨C,L,M,O,Q,a⟩:=q B.next.N (by omega) d o p B.next f.next (dO _);have h:=Le.exp a.ok [58];have v:=a.le;have z:=h.le;obtain ⟨D,S,T,k1,k2,g⟩:=q (C.exp [58]).N (by omega) d o p (C.exp [58]) h.ok (dO _);have U:=g.le;refine ⟨D,.node 13 0 0 [x,L,S],.node 13 0 0 [y,M,T],?_,?_,⟨⟨(((o1.toLe.trans (Le.next f)).trans a.toLe).trans h).trans g.toLe,fun e => ?_,fun e=>by omega,bAV o1.fit a.fit g.fit⟩,fun e=>by have j:=g.e0 e;obtain ⟨a1,w1,V,Z⟩:=o1.rd (GV (kY c));obtain ⟨a2,w2,X,q2⟩:=a.rd (h.e0 j);obtain ⟨a3,w3,Y,q3⟩:=g.rd e;have q4:B.next.W+2=B.W:=oW f c;have q5:(C.exp [58]).W+2=C.W:=o9 a.ok j;exact ⟨_,_,.ite V X Y,by omega⟩⟩⟩
  .rw[aOF,zf t];rw[bY (a9E f)];rw[c,ut,aF,qc c,zf O];rw[bg (aN6 a.ok)];rw[zf k1,ev3]
  .rw[aOG,VS u];rw[bY (a9E f)];rw[c,ut,aF,qc c,zY Q];rw[bg (aN6 a.ok)];rw[zY k2,ev3]
  .have j:=h.e0 (g.e0 e);rw[g.eq e,a.eq j,o1.eq (GV (kY c))]
end
theorem b0Q {F:MF} (c:d8.length<1000000000000):∀ n,Vp F d8 n/\a0K F d8 n:=by
 intro n;induction n using Nat.strongRecOn with
 | _ n b =>have d:=c6Q c (fun m a=>(b m a).1) (fun m a=>(b m a).2);grind [c6R]
section
variable {A B:RA} {x:EX} {d:Int} {v:ai}
end
section
variable {v:ai} {d:Int} {T:List Tok} {x:EX}
end
section
variable {v:ai} {d:Int} {T:List Tok} {x:EX}
end
end Go.Proofs.YtmbehibpfkkjbaaGreatDoor.W.P
namespace Go.Proofs.YtmbehibpfkkjbaaGreatDoor.W
open Go.RowKit
set_option maxRecDepth 1000000
section
variable {T:List Tok} {t:Tok} {s x:Nm} {a b v:Int}
end
theorem aMH (l:List Ins) (a:l.length<=20000):SS.CC 100 [.sl false 3 (l.map dN),eu 200] []=some (a_ (aJ (l.map (·.n))),[]):=by
 rw[bS'];refine lS (n:=l.length) (L:=fun k=>Hl (l.map dN) (aJ ((l.take k).map (·.n))) (k:Int)) (fun k hk => ?_) ?_
 .rw[aTU,aK (by rw[bz]; omega),aI,BD hk,nR (bMN _),aQ (di (sH _ l k a)),sG (·.n) l hk,bK (by omega)]
 grind [aTU,aF]
theorem b8X (l:List Tm) (a:l.length<=20000):SS.CC 102 [.sl false 9 (l.map wM),eu 193] []=some (a_ (aJ (l.map (·.n))),[]):=by
 rw[bT8];refine lS (n:=l.length) (L:=fun k=>Zy (l.map wM) (aJ ((l.take k).map (·.n))) (k:Int)) (fun k hk => ?_) ?_
 .rw[aTW,aK (by rw[bz]; omega),aI,Iq hk,nR (bME _),aQ (di (sH _ l k a)),sG (·.n) l hk,bK (by omega)]
 grind [aTW,aF]
theorem b8Y (l:List qj) (a:l.length<=20000):SS.CC 104 [.sl false 2 (l.map wL),eu 202] []=some (a_ (aJ (l.map (·.n))),[]):=by
 rw[bTH];refine lS (n:=l.length) (L:=fun k=>I_ (l.map wL) (aJ ((l.take k).map (·.n))) (k:Int)) (fun k hk => ?_) ?_
 .rw[aTY,aK (by rw[bz]; omega),aI,Gf hk,nR (bMP _),aQ (di (sH _ l k a)),sG (·.n) l hk,bK (by omega)]
 grind [aTY,aF]
theorem b8W (l:List Cst) (a:l.length<=20000):SS.CC 106 [.sl false 3 (l.map oZ),eu 205] []=some (a_ (aJ (l.map (·.n))),[]):=by
 rw[bTQ];refine lS (n:=l.length) (L:=fun k=>V4 (l.map oZ) (aJ ((l.take k).map (·.n))) (k:Int)) (fun k hk => ?_) ?_
 .rw[aT',aK (by rw[bz]; omega),aI,Ip hk,nR (bNK _),aQ (di (sH _ l k a)),sG (·.n) l hk,bK (by omega)]
 grind [aT',aF]
section
variable {T U B:List Tok} {s x:Nm}
end
section
variable {T U B:List Tok} {s x w:Nm}
abbrev iZ:Nm := [99,111,110,116,114,111,108,108,97,98,108,101]
abbrev lN:Nm := [111,98,115,101,114,118,97,98,108,101]
abbrev uq:Nm := [102,111,114,99,105,98,108,101]
abbrev DL:Nm := [102,97,117,108,116]
variable {j:RA}
def z_ (q:Sh.V dH) (h:j.ok) (w:Nm):SS.CC 270 [.str ⟨w.toArray⟩,.ptr 0 0] [some [.ptr 1 0],ah q,aA j.v]=some (.bool (j.is w),[some [.ptr 1 0],ah q,aA (j.take w).v]):=by have e:=jL h ⟨w.toArray⟩;rw[bP4,bY e]
def bAW (q:Sh.V eY) (h:j.ok):SS.CC 191 [.ptr 0 0,.sl false 1 [.str ⟨iZ.toArray⟩,.str ⟨lN.toArray⟩,.str ⟨uq.toArray⟩]] [bH q,aA j.v] =
 some (.sl false 1 [.bool (j.is iZ),.bool ((j.take iZ).is lN),.bool (((j.take iZ).take lN).is uq)],[bH q,aA (((j.take iZ).take lN).take uq).v]):=by
 have e:SS.CC 269 [.sl false 1 [.str ⟨iZ.toArray⟩,.str ⟨lN.toArray⟩,.str ⟨uq.toArray⟩],.func (.func 270) [] [.ptr 0 0]] [some [.ptr 1 0],ah q,aA j.v] =
  some (.sl false 1 [.bool (j.is iZ),.bool ((j.take iZ).is lN),.bool (((j.take iZ).take lN).is uq)],[some [.ptr 1 0],ah q,aA (((j.take iZ).take lN).take uq).v]):=by
  rw[bP3,a4Z];show aB true (VT 270 [.str ⟨iZ.toArray⟩,.ptr 0 0] [some [.ptr 1 0],ah q,aA j.v] _) _=_;rw[aA8 (z_ q h iZ)];rw[aQ (di (by decide)),a4Z];show aB true (VT 270 [.str ⟨lN.toArray⟩,.ptr 0 0] [some [.ptr 1 0],ah q,aA (j.take iZ).v] _) _=_;rw[aA8 (z_ q (h.take _) lN)];rw[aQ (di (by simp)),a4Z];show aB true (VT 270 [.str ⟨uq.toArray⟩,.ptr 0 0] [some [.ptr 1 0],ah q,aA ((j.take iZ).take lN).v] _) _=_;rw[aA8 (z_ q ((h.take _).take _) uq)];rw[a4Z];rfl
 rw[bMA,b43 e]
theorem b8V (l:List nD) (a:l.length<=20000):SS.CC 189 [.sl false 5 (l.map wK),.func (.func 190) [] []] []=some (.sl false 1 (aJ (l.map (·.n))),[]):=by
 rw[bM8];refine lS (n:=l.length) (L:=fun k=>a4D (l.map wK) (aJ ((l.take k).map (·.n))) (k:Int)) (fun k hk => ?_) ?_
 .rw[aRC,aK (by rw[bz]; omega),aI,P6 hk,nR (bM9 _),aQ (di (sH _ l k a)),sG (·.n) l hk,bK (by omega)]
 grind [aRC,aF]
end
section
variable {T U B:List Tok} {s x w:Nm}
end
section
variable {T U B:List Tok} {s x w:Nm}
abbrev tQ (n:ByteArray) (es ls:List Nm) (I:Int) (mr:List Int) (vs:List Vr) (ms:List Mv):Sh.V dW:=(n,aJ ls,aJ es,[],0,I,fP mr,vs.map jI,ms.map sN,())
abbrev pY:Nm := [105,110,105,116,105,97,108]
abbrev qg:Nm := [109,97,114,107,101,100]
abbrev xZ:Nm := [108,111,99,97,116,105,111,110]
abbrev yO:Nm := [118,97,114]
abbrev Ew:Nm := [101,100,103,101]
end
section
variable {T U B:List Tok} {s x w:Nm}
end
section
variable {T U B:List Tok} {s x w:Nm}
end
section
variable {T:List Tok} {s:Nm} {a0 b0 a1 b1 a2 b2 a3 b3 a4 b4 a5 b5 a6 b6 a7 b7 a8 b8:Int}
end
abbrev CQ:Nm := [99,111,109,112,111,110,101,110,116]
abbrev CW:Nm := [114,101,113,117,105,114,101,109,101,110,116]
abbrev CX:Nm := [101,120,99,108,117,100,101]
abbrev CU:Nm := [108,105,109,105,116]
abbrev CV:Nm := [116,101,109,112,108,97,116,101]
section
variable {T:List Tok} {s:Nm} {a0 b0:Int}
end
def WX (m:Mo) (a b e:Int):R:=some (.tuple [A0 (aV m),aP a,aP b,aP e],[])
abbrev m00:Mo:=⟨[],[],[],[],[],[],[]⟩
section
variable {T U B:List Tok}
end
section
variable {T:List Tok} {s:Nm} {a0 b0 a1 b1 a2 b2 a3 b3 a4 b4 a5 b5 a6 b6 a7 b7 a8 b8:Int}
end
section
variable {T:List Tok} {s:Nm}
end
def bB5 {t:d_} {m:Mo} (a:SS.CC 10 [.str (bs t)] []=WX m 0 0 0) (b:lm m) (c:m.cs.length+m.rs.length<=20000) (d:Bl m=0) (e:(eH (kw m)).length<=30000) :
 SS.CC 18 [.str (bs t)] []=some (.tuple [.str (bs (MZ m)),aP 0,aP 0,aP 0],[]):=by
 rw[aST,Qj a];show aB false _ _=_;rw[aF,VQ (c3M b c d e)];rfl
structure McT (c:Mc):Prop where
 a:U8 c.a
 b:U8 c.b
 i:U8 c.i
 m:U8 c.m
 rg:∀ r,r∈c.rg->I8 r.1/\I8 r.2
 mv:∀ x,x∈c.mv->U8 x.1/\U8 x.2.1/\U8 x.2.2
structure SkT (s:Sk):Prop where
 e:U8 s.e.1/\U8 s.e.2.1/\U8 s.e.2.2.1/\U8 s.e.2.2.2.1/\U8 s.e.2.2.2.2
 ts:∀ c,c∈s.ts->McT c
 is:∀ x,x∈s.is->U8 x.1/\U8 x.2.1/\U8 x.2.2
 xs:∀ x,x∈s.xs->U8 x.1/\U8 x.2.1/\U8 x.2.2.1/\U8 x.2.2.2
 ks:∀ x,x∈s.ks->I8 x.1/\I8 x.2.1/\I8 x.2.2
def McS (c:Mc):Prop:=c.rg.length<=6/\c.mv.length<=8/\c.y.length<=200
def b6T (c:Mc):∃ b,SS.CC 16 [Bd (AU c)] []=some (.bool b,[])/\(b=false->McS c):=by
 rw[bC9];show ∃ b,aB (decide ((6:Int)<((c.rg.map PS).length:Int))) _ (aB (decide ((8:Int)<((c.mv.map Lr).length:Int))) _ (some (.bool (decide ((200:Int)<((zu c.y).length:Int))),[])))=_/\_;rw[aZ,aZ,aZ];by_cases a:(6:Int)<(c.rg.length:Int)
 .rw[aK a,aI]; simp
 rw[aU a,aF];by_cases d:(8:Int)<(c.mv.length:Int)
 .rw[aK d,aI]; simp
 rw[aU d,aF];exact ⟨_,rfl,fun h=>⟨by omega,by omega,by have:=of_decide_eq_false h; omega⟩⟩
theorem b0Z {ts:List Mc} (a:ts.length<=4):∀ (m k:Nat),k+m=ts.length->∃ n,QI (ts.map Ls) (k:Int)=some (aP n,[])/\(n<0->∀ i,k<=i->∀ h:i<ts.length,McS ts[i])
 | 0,k,hk=>by rw[aQC,aU (by rw[aZ]; omega),aF];grind
 | m+1,k,hk=>by
  have c:k<ts.length:=by omega
  obtain ⟨b,e,d⟩:=b6T ts[k];rw[aQC,aK (by rw[aZ]; omega),aI,aEN c,bC e];cases b with
  | true=>rw[aI]; grind
  | false =>rw[aF,bK (by omega)];obtain ⟨n,f,g⟩:=b0Z a m (k+1) (by omega);grind
theorem c7G {s:Sk} (d:SkT s):∃ b,SS.CC 5 [A2 (sV s)] []=some (.bool b,[])/\(b=true->aAK s):=by
 rw[bP6];show ∃ b,aB (decide ((4:Int)<((s.ts.map Ls).length:Int))) _ (aB (decide ((8:Int)<((s.is.map Lr).length:Int))) _ (aB (decide ((4:Int)<((s.xs.map Yn).length:Int))) _ (aB (decide ((4:Int)<((s.ks.map Ym).length:Int))) _ _)))=_/\_;rw[aZ,aZ,aZ,aZ];by_cases j:(4:Int)<(s.ts.length:Int)
 .rw[aK j,aI]; simp
 rw[aU j,aF];by_cases l:(8:Int)<(s.is.length:Int)
 .rw[aK l,aI]; simp
 rw[aU l,aF];by_cases o:(4:Int)<(s.xs.length:Int)
 .rw[aK o,aI]; simp
 rw[aU o,aF];by_cases p:(4:Int)<(s.ks.length:Int)
 .rw[aK p,aI]; simp
 rw[aU p,aF];obtain ⟨n,e,r⟩:=b0Z (ts:=s.ts) (by omega) s.ts.length 0 (by omega);have f:SS.CC 15 [.sl false 7 (s.ts.map Ls),eu 16] []=some (.bool (decide (0<=n)),[]):=by rw[bC8,bn ((bIQ _).trans e)]
 rw[bC f];refine ⟨_,rfl,fun h => ?_⟩;have g:n<0:=by simp_all
 refine ⟨d.e,⟨by omega,fun c t => ?_⟩,⟨by omega,d.is⟩,⟨by omega,d.xs⟩,by omega,d.ks⟩;obtain ⟨i,q,rfl⟩:=aJO t;obtain ⟨u,v,w⟩:=r g i (Dc _) q;have:=d.ts _ (dZ q);exact ⟨this.a,this.b,this.i,this.m,⟨by omega,this.rg⟩,⟨by omega,this.mv⟩,by omega⟩
def RA.ad (A:RA) (l:List Nm):RA:=if A.pk.kind=1/\A.pk.text∈l then A.fail 8 else A
def RA.add (A:RA) (l:List Nm):RA:=(A.ad l).name
def RA.gy (A:RA) (l:List Nm):Nm:=(A.ad l).iI
section
variable {A:RA} {l:List Nm}
def RA.ok.ad (h:A.ok) (l:List Nm):(A.ad l).ok:=by unfold RA.ad; split; exact h.fail 8; exact h
def Le.ad (h:A.ok) (l:List Nm):Le A (A.ad l):=by unfold RA.ad; split; exact .fail h (by decide); exact .refl h
def Le.add (h:A.ok) (l:List Nm):Le A (A.add l):=(Le.ad h l).trans (Le.name (h.ad l))
theorem PG (h:A.ok) (e:A.name.e=0):A.pk.kind=1/\A.name.N<A.N:=by grind [RA.name,jl,qw]
def jQ (h:A.ok) (e:(A.add l).e=0):(A.add l).N<A.N:=by have a:=PG (h.ad l) e;have b:=(Le.ad h l).le;unfold RA.add;omega
def adg {J:Sh.V aC->R} {K:ByteArray->Sh.V aC->R} (b:∀ q,J q=lD 28 [.ptr 0 0] [aA q] fun s u=>K s u) (i:l.length<=20000) (h:A.ok) :
 (fU 30 [.ptr 0 0] [aA A.v] fun g d=>aB (g.1==1) (G3 207 [.sl false 1 (aJ l),.str g.2.1] fun e=>aB e (bP 32 [.ptr 0 0,.int .i64 8] [aA d] fun _ f=>J f) (J d)) (J d))=K (bs (A.gy l)) (A.add l).v:=by
 unfold RA.add RA.gy RA.ad;rw[eX (gJ h)];by_cases hk:A.pk.kind=1
 .rw[show (A.pk.kind==1)=true by simp[hk],aI,bC (a6J l i A.pk.text)];by_cases a:A.pk.text∈l
  .rw[aK a,aI,bg (lu h 8),ay ⟨hk,a⟩,b,lZ (mG (h.fail 8))]
  .rw[aU a,aF,aX (fun c=>a c.2),b,lZ (mG h)]
 .rw[show (A.pk.kind==1)=false by simp[hk],aF,aX (fun c=>hk c.1),b,lZ (mG h)]
def I5 (q:Sh.V eY) (a:l.length<=20000) (h:A.ok):SS.CC 188 [.ptr 0 0,.sl false 1 (aJ l)] [bH q,aA A.v]=some (.str (bs (A.gy l)),[bH q,aA (A.add l).v]):=(bM4 _ _ _).trans (adg (bM2 q) a h)
def KC (q:Sh.V bF) (a:l.length<=20000) (h:A.ok):SS.CC 243 [.ptr 0 0,.sl false 1 (aJ l)] [aO q,aA A.v]=some (.str (bs (A.gy l)),[aO q,aA (A.add l).v]):=(bOR _ _ _).trans (adg (bOP q) a h)
def b5H (q:Sh.V uM) (a:l.length<=20000) (h:A.ok):SS.CC 243 [.ptr 0 0,.sl false 1 (aJ l)] [wZ q,aA A.v]=some (.str (bs (A.gy l)),[wZ q,aA (A.add l).v]):=(bOL _ _ _).trans (adg (bOJ q) a h)
def b5I (q:Sh.V uN) (a:l.length<=20000) (h:A.ok):SS.CC 243 [.ptr 0 0,.sl false 1 (aJ l)] [wo q,aA A.v]=some (.str (bs (A.gy l)),[wo q,aA (A.add l).v]):=(bOO _ _ _).trans (adg (bOM q) a h)
end
variable {O:Type} {j:RA} {d' e1:R} {c9 e2:Sh.V aC->R} {b9:List ByteArray} {D:Bool} {p:Int} {y:EX} {i:Nat}
theorem loops {a b c:Type} {C:RA->O->b} {L:RA->a->c} {P:RA->O->a->Prop} {Q:b->c->Prop}
 (g:∀ A y z,A.ok->P A y z->Q (C A y) (L A z)\/∃ B d e,C A y=C B d/\L A z=L B e/\B.ok/\P B d e/\B.N<A.N) :
 ∀ (A:RA) (y:O) (z:a),A.ok->P A y z->Q (C A y) (L A z):=by
 have:∀ (n:Nat) (A:RA) (y:O) (z:a),A.N<=n->A.ok->P A y z->Q (C A y) (L A z):=by
  intro n;induction n with
  | zero =>grind
  | succ n i =>grind
 exact fun A y z h f=>this A.N A y z (dO _) h f
theorem uC {β γ ρ σ:Type} {C:RA->β->ρ} {L:RA->γ->σ} {EC:RA->β->ρ} {EL:RA->γ->σ} {P:RA->β->γ->Prop}
 (h0:∀ A y z,A.ok->P A y z->A.is [44]=false->C A y=EC A y/\L A z=EL A z)
 (h1:∀ A y z,A.ok->P A y z->A.e=0->A.is [44]=true->∃ B y' z',C A y=C B y'/\L A z=L B z'/\Le A.next B/\P B y' z')
 (A:RA) (y:β) (z:γ) (h:A.ok) (hp:P A y z):∃ B y' z',C A y=EC B y'/\L A z=EL B z'/\Le A B/\P B y' z' :=
 loops (P:=fun B y z=>P B y z/\Le A B) (Q:=fun r s=>∃ B y' z',r=EC B y'/\s=EL B z'/\Le A B/\P B y' z')
  (fun B y z hB hP=>by
   cases c:B.is [44] with
   | false =>grind
   | true =>have hk:=kY c;obtain ⟨D,y',z',e1,e2,hl,hd⟩:=h1 B y z hB hP.1 (GV hk) c;have hlt:=jl hB hk;have:=hl.le;exact .inr ⟨D,y',z',e1,e2,hl.ok,⟨hd,(hP.2.trans (Le.next hB)).trans hl⟩,by omega⟩)
  A y z h ⟨hp,.refl h⟩
def b1Z (h:j.ok):SS.CC 87 [.ptr 0 0,.str ⟨#[44]⟩] [aA j.v]=some (.bool (j.is [44]),[aA (j.take [44]).v]):=jL h _
def aLN:(j.v.2.2.2.1==0)=decide (j.e=0):=by rfl
theorem Gj (h:j.ok) (c:j.is [44]=false) (f:e1=e2 j.v) (b:d'=aB (j.v.2.2.2.1==0) (bW 87 [.ptr 0 0,.str ⟨#[44]⟩] [aA j.v] fun d a=>aB d (c9 a) (e2 a)) e1):d'=e2 j.v:=by
 rw[b];by_cases e:j.e=0
 .rw[aLN,aK e,aI,bY (b1Z h)];grind [aF,mY]
 grind [aF]
theorem Gl (h:j.ok) (c:j.is [44]=true) (b:d'=aB (j.v.2.2.2.1==0) (bW 87 [.ptr 0 0,.str ⟨#[44]⟩] [aA j.v] fun d a=>aB d (c9 a) (e2 a)) e1):d'=c9 j.next.v:=by rw[b,aLN,aK (GV (kY c)),bY (b1Z h)];grind [aI,qc]
theorem FT (h:j.ok) (e:j.e=0):1<=j.N:=by obtain ⟨t,tl,a⟩:=h.ne e;grind [RA.N]
def nw:List Nm->Nat
 | []=>0
 | s::l=>wl s+3+nw l
def aFA (s:Nm):∀ l:List Nm,nw (l ++ [s])=nw l+(wl s+3)
 | []=>by simp[nw]
 | a::l=>by rw[pF,nw,nw,aFA s l]; omega
theorem EE (h:j.ok) {l:List Nm} (e:(j.add l).e=0):(j.add l).W+(wl (j.gy l)+1)=j.W:=by have a:=Iz (h.ad l) e;grind [RA.add,RA.ad,aZ5,qw,RA.gy]
section
variable {A:RA} {l:List Nm} {n:ByteArray}
abbrev zH (n:ByteArray) (l:List Nm):Sh.V dW:=(n,[],aJ l,[],0,0,[],[],[],())
def aVR (q:Sh.V iO) (a:l.length<=20000) (h:A.ok):SS.CC 195 [.ptr 0 0,.ptr 1 0] [dP (zH n l),some [.ptr 2 0],gu q,aA A.v]=some (.tuple [],[dP (zH n (l ++ [A.gy l])),some [.ptr 2 0],gu q,aA (A.add l).v]):=by
 rw[bMF];dsimp only[fV];rw[Ht (I5 _ a h)];rw[aQ (di (by rw[fJ]; omega))];repeat rw[tV]
 rw[show ([.str (bs (A.gy l))]:List PV)=aJ [A.gy l] from rfl,H7]
def aVU (q:Sh.V jc) (a:l.length<=20000) (h:A.ok):SS.CC 244 [.ptr 0 0,.ptr 1 0] [dP (zH n l),some [.ptr 2 0],iq q,aA A.v]=some (.tuple [],[dP (zH n (l ++ [A.gy l])),some [.ptr 2 0],iq q,aA (A.add l).v]):=by
 rw[bOS];dsimp only[fV];rw[Jo (KC _ a h)];rw[aQ (di (by rw[fJ]; omega))];repeat rw[tV]
 rw[show ([.str (bs (A.gy l))]:List PV)=aJ [A.gy l] from rfl,H7]
abbrev b3T (q:Sh.V jg) (n:ByteArray) (A:RA) (l:List Nm):R:=some (.tuple [],[aA A.v,dP (zH n l),some [.ptr 3 0],lh q])
abbrev b3U (q:Sh.V jf) (n:ByteArray) (A:RA) (l:List Nm):R:=some (.tuple [],[aA A.v,dP (zH n l),some [.ptr 3 0],kW q])
theorem bAI (q:Sh.V jg) (z:Sh.V jf) (n:ByteArray) (h:A.ok) (r:A.N<=40000):∃ B l,
 SS.CC 203 [.ptr 0 0,.func (.func 195) [] [.ptr 1 0,.ptr 2 0]] [aA A.v,dP (zH n []),some [.ptr 3 0],lh q]=b3T q n B l /\
 SS.CC 203 [.ptr 0 0,.func (.func 244) [] [.ptr 1 0,.ptr 2 0]] [aA A.v,dP (zH n []),some [.ptr 3 0],kW z]=b3U z n B l /\
 Le A B/\l.length<=20000/\(B.e=0->2*l.length+B.N<=A.N+1/\nw l+B.W<=A.W+2/\2<=nw l):=by
 have d:=Le.add h [];obtain ⟨B,y,t,g,i,a,j,m,o⟩:=uC (C:=fun A l=>a4L A.v (zH n l) q) (L:=fun A l=>Zd A.v (zH n l) z)
  (P:=fun B (l b:List Nm)=>l=b/\l.length<=20000/\(B.e=0->2*l.length+B.N<=A.N+1/\nw l+B.W<=A.W+2/\2<=nw l))
  (fun B l b a f c=>⟨Gj a c rfl (aRP _ _ _),by exact Gj a c rfl (aRS _ _ _)⟩)
  (fun B l b a f he c=>by
   obtain ⟨rfl,u,w⟩:=f;have hk:=kY c;have p:=jl a hk;have x:=FT a.next p.1;have D:B.next.W+2=B.W:=oW a c;have h6:l.length<=20000:=by omega
   refine ⟨B.next.add l,l ++ [B.next.gy l],l ++ [B.next.gy l],?_,?_,Le.add a.next l,rfl,by simp; omega,fun e => ?_⟩
   .exact (Gl a c (aRP _ _ _)).trans (aK6 (aVR q h6 a.next))
   .exact (Gl a c (aRS _ _ _)).trans (aKO (aVU z h6 a.next))
   .have:=jQ a.next e;have:=EE a.next e;rw[aFA];grind)
  (A.add []) [A.gy []] [A.gy []] d.ok ⟨rfl,by simp,fun e=>by have:=jQ h e; have:=EE h e; simp[nw]; omega⟩
 subst j;refine ⟨B,y,?_,?_,d.trans a,m,o⟩
 .rw[bN9,aK6 (aVR q (by simp) h)]; exact g
 .rw[bNI,aKO (aVU z (by simp) h)]; exact i
abbrev tI (n t:ByteArray) (l:List Nm):Sh.V dn:=(n,t,aJ l,())
variable {t:ByteArray}
def aVS (q:Sh.V iO) (a:l.length<=20000) (h:A.ok):SS.CC 201 [.ptr 0 0,.ptr 1 0] [dA (tI n t l),some [.ptr 2 0],gu q,aA A.v]=some (.tuple [],[dA (tI n t (l ++ [A.iI])),some [.ptr 2 0],gu q,aA A.name.v]):=by
 rw[bMO];dsimp only[fV];rw[lZ (mG h)];rw[aQ (di (by rw[fJ]; omega))];repeat rw[tV]
 rw[show ([.str (bs A.iI)]:List PV)=aJ [A.iI] from rfl,H7]
def aVV (q:Sh.V Jv) (a:l.length<=20000) (h:A.ok):SS.CC 247 [.ptr 0 0,.ptr 1 0] [dA (tI n t l),some [.ptr 2 0],Jq q,aA A.v]=some (.tuple [],[dA (tI n t (l ++ [A.iI])),some [.ptr 2 0],Jq q,aA A.name.v]):=by
 rw[bOW];dsimp only[fV];rw[lZ (mG h)];rw[aQ (di (by rw[fJ]; omega))];repeat rw[tV]
 rw[show ([.str (bs A.iI)]:List PV)=aJ [A.iI] from rfl,H7]
def aVW (q:Sh.V jc) (a:l.length<=20000) (h:A.ok):SS.CC 247 [.ptr 0 0,.ptr 1 0] [dA (tI n t l),some [.ptr 2 0],iq q,aA A.v]=some (.tuple [],[dA (tI n t (l ++ [A.iI])),some [.ptr 2 0],iq q,aA A.name.v]):=by
 rw[bOV];dsimp only[fV];rw[lZ (mG h)];rw[aQ (di (by rw[fJ]; omega))];repeat rw[tV]
 rw[show ([.str (bs A.iI)]:List PV)=aJ [A.iI] from rfl,H7]
def aVX (q:Sh.V I4) (a:l.length<=20000) (h:A.ok):SS.CC 247 [.ptr 0 0,.ptr 1 0] [dA (tI n t l),some [.ptr 2 0],Dq q,aA A.v]=some (.tuple [],[dA (tI n t (l ++ [A.iI])),some [.ptr 2 0],Dq q,aA A.name.v]):=by
 rw[aS3];dsimp only[fV];rw[lZ (mG h)];rw[aQ (di (by rw[fJ]; omega))];repeat rw[tV]
 rw[show ([.str (bs A.iI)]:List PV)=aJ [A.iI] from rfl,H7]
theorem b_8 (q:Sh.V jg) (n t:ByteArray) (h:A.ok) (o:A.N<=40000):∃ B l,Le A B/\l.length<=20000/\(B.e=0->2*l.length+B.N<=A.N+1/\nw l+B.W<=A.W+2/\2<=nw l) /\
 SS.CC 203 [.ptr 0 0,.func (.func 201) [] [.ptr 1 0,.ptr 2 0]] [aA A.v,dA (tI n t []),some [.ptr 3 0],lh q]=some (.tuple [],[aA B.v,dA (tI n t l),some [.ptr 3 0],lh q]) /\
 (∀ z,SS.CC 203 [.ptr 0 0,.func (.func 247) [] [.ptr 1 0,.ptr 2 0]] [aA A.v,dA (tI n t []),some [.ptr 3 0],kW z]=some (.tuple [],[aA B.v,dA (tI n t l),some [.ptr 3 0],kW z])) /\
 (∀ z,SS.CC 203 [.ptr 0 0,.func (.func 247) [] [.ptr 1 0,.ptr 2 0]] [aA A.v,dA (tI n t []),some [.ptr 3 0],FW z]=some (.tuple [],[aA B.v,dA (tI n t l),some [.ptr 3 0],FW z])) /\
 (∀ z,SS.CC 203 [.ptr 0 0,.func (.func 247) [] [.ptr 1 0,.ptr 2 0]] [aA A.v,dA (tI n t []),some [.ptr 3 0],FX z]=some (.tuple [],[aA B.v,dA (tI n t l),some [.ptr 3 0],FX z])):=by
 have d:=Le.name h;obtain ⟨B,y,p,g,r,a,u,i,j⟩:=uC (C:=fun A l=>N_ A.v (tI n t l) q)
  (L:=fun A l=>(fun z=>a4G A.v (tI n t l) z,fun z=>a4F A.v (tI n t l) z,fun z=>a4H A.v (tI n t l) z))
  (EL:=fun A l=>(fun z=>some (.tuple [],[aA A.v,dA (tI n t l),some [.ptr 3 0],kW z]),fun z=>some (.tuple [],[aA A.v,dA (tI n t l),some [.ptr 3 0],FW z]),fun z=>some (.tuple [],[aA A.v,dA (tI n t l),some [.ptr 3 0],FX z])))
  (P:=fun B (l b:List Nm)=>l=b/\l.length<=20000/\(B.e=0->2*l.length+B.N<=A.N+1/\nw l+B.W<=A.W+2/\2<=nw l))
  (fun B l b a f c=>⟨Gj a c rfl (aRR _ _ _),by exact Prod.ext (funext fun z=>Gj a c rfl (aRK _ _ _)) (Prod.ext (funext fun z=>Gj a c rfl (aRJ _ _ _)) (funext fun z=>Gj a c rfl (aRL _ _ _)))⟩)
  (fun B l b a f he c=>by
   obtain ⟨rfl,w,x⟩:=f;have hk:=kY c;have m:=jl a hk;have D:=FT a.next m.1;have E:B.next.W+2=B.W:=oW a c;have h6:l.length<=20000:=by omega
   refine ⟨B.next.name,l ++ [B.next.iI],l ++ [B.next.iI],?_,?_,Le.name a.next,rfl,by simp; omega,fun e => ?_⟩
   .exact (Gl a c (aRR _ _ _)).trans (aK8 (aVS q h6 a.next))
   .exact Prod.ext (funext fun z=>(Gl a c (aRK _ _ _)).trans (aKQ (aVW z h6 a.next))) (Prod.ext (funext fun z=>(Gl a c (aRJ _ _ _)).trans (aKP (aVV z h6 a.next))) (funext fun z=>(Gl a c (aRL _ _ _)).trans (aKR (aVX z h6 a.next))))
   .have:=(PG a.next e).2;have:=Iz a.next e;rw[aFA];grind)
  A.name [A.iI] [A.iI] d.ok ⟨rfl,by simp,fun e=>by have:=(PG h e).2; have:=Iz h e; simp[nw]; omega⟩
 refine ⟨B,y,d.trans a,i,j,?_,fun z => ?_,fun z => ?_,fun z => ?_⟩
 .rw[bNF,aK8 (aVS q (by simp) h)]; exact g
 .rw[bMV,aKQ (aVW z (by simp) h)]; simp_all
 .rw[bMS,aKP (aVV z (by simp) h)]; simp_all
 .rw[bMY,aKR (aVX z (by simp) h)]; simp_all
end
abbrev cO (m:Mo) (v:List PV):Sh.V bF:=(bs m.n,m.es.map wK,m.ts.map wM,m.cs.map dN,m.rs.map dN,m.xs.map wL,m.ks.map oZ,v,0,())
def RA.ev1 (A:RA) (l:List Nm):RA:=(((A.add l).take iZ).take lN).take uq
def RA.uT (A:RA) (l:List Nm):RA:=bif (A.ev1 l).is DL then (A.ev1 l).next.int 1 4 else A.ev1 l
def RA.EK (A:RA) (l:List Nm):RA:=(A.uT l).exp [59]
def RA.EM (A:RA) (l:List Nm):nD:=⟨A.gy l,(A.add l).is iZ,((A.add l).take iZ).is lN,(((A.add l).take iZ).take lN).is uq,bif (A.ev1 l).is DL then (A.ev1 l).next.EO 1 4 else 0⟩
section
variable {A:RA} {m:Mo}
def RA.ok.add (h:A.ok) (l:List Nm):(A.add l).ok:=(h.ad l).name
def aFF (h:A.ok) (l:List Nm):(A.ev1 l).ok:=(((h.add l).take _).take _).take _
theorem Le.int (h:A.ok) (b c:Int):Le A (A.int b c):=by
 have num:∀ {B:RA} (d:Int),B.ok->Le B (B.num d b c):=fun {B} d a=>by
  unfold RA.num;split
  .split
   .exact .fail a (by decide)
   .exact .next a
  .exact .fail a (by decide)
 unfold RA.int;cases A.mi with
 | true=>exact (Le.next h).trans (num _ h.next)
 | false=>grind
def aEH (h:A.ok) (l:List Nm):Le A (A.uT l):=by
 have a:Le A (A.ev1 l):=((Le.add h l).trans (Le.take (h.add l) _)).trans ((Le.take ((h.add l).take _) _).trans (Le.take (((h.add l).take _).take _) _));unfold RA.uT;cases (A.ev1 l).is DL with
 | true=>exact a.trans ((Le.next a.ok).trans (Le.int a.ok.next 1 4))
 | false=>exact a
def bZD (h:A.ok) (l:List Nm):Le A (A.EK l):=(aEH h l).trans (Le.exp (aEH h l).ok _)
theorem bA8 (q:Sh.V dH) (h:A.ok) (a:m.es.length<=20000):SS.CC 90 [.ptr 0 0,.ptr 1 0] [ah q,bU (aV m),aA A.v] =
 some (.tuple [],[ah q,bU (aV { m with es:=m.es ++ [A.EM (m.es.map (·.n))] }),aA (A.EK (m.es.map (·.n))).v]):=by
 have e:(m.es.map (·.n)).length<=20000:=by rw[aZ]; exact a
 have b:=aFF h (m.es.map (·.n));have d:∀ (B:RA) (n:Int),B.ok->a3P q (aV m) B.v (bs (A.gy (m.es.map (·.n))),(A.add (m.es.map (·.n))).is iZ,((A.add (m.es.map (·.n))).take iZ).is lN,(((A.add (m.es.map (·.n))).take iZ).take lN).is uq,n,()) =
  some (.tuple [],[ah q,bU (aV { m with es:=m.es ++ [⟨A.gy (m.es.map (·.n)),(A.add (m.es.map (·.n))).is iZ,((A.add (m.es.map (·.n))).take iZ).is lN,(((A.add (m.es.map (·.n))).take iZ).take lN).is uq,n⟩] }),aA (B.exp [59]).v]):=fun B n f=>by
  rw[bIY];refine (bg (fA f _)).trans ?_;rw[aQ (di (by rw[aZ]; exact a))];simp
 rw[bI',vk (b8V m.es a),Ht (I5 _ e h)];rw[b4W (bAW q (h.add _))];show bW 87 [.ptr 0 0,.str ⟨DL.toArray⟩] [aA (A.ev1 (m.es.map (·.n))).v] _=_;rw[bY (jL b ⟨DL.toArray⟩)];unfold RA.EK RA.uT RA.EM;cases c:(A.ev1 (m.es.map (·.n))).is DL with
 | true =>rw[aI,NZ];show FI 192 [.ptr 0 0,.int .i64 1,.int .i64 4] [aA ((A.ev1 (m.es.map (·.n))).take DL).v] _=_;rw[qc c,Qs (TY b.next 1 4)];exact d _ _ (b.next.int _ _)
 | false =>rw[aF,FB];grind [mY]
theorem bAE (v:List PV) (h:A.ok) (a:m.es.length<=20000):SS.CC 160 [.ptr 0 0] [aO (cO m v),aA A.v] =
 some (.tuple [],[aO (cO { m with es:=m.es ++ [A.EM (m.es.map (·.n))] } v),aA (A.EK (m.es.map (·.n))).v]):=by
 have e:(m.es.map (·.n)).length<=20000:=by rw[aZ]; exact a
 have b:=aFF h (m.es.map (·.n));have f:SV (cO m v) A.v [] 0=SV (cO m v) A.v (aJ (m.es.map (·.n))) (m.es.length:Int):=by
  refine lS (n:=m.es.length) (L:=fun k=>SV (cO m v) A.v (aJ ((m.es.take k).map (·.n))) (k:Int)) (fun k hk => ?_) ?_
  .rw[aQZ];rw[aK (by rw[bz]; omega),aI,P6 hk,aQ (di (sH _ m.es k a)),sG (·.n) m.es hk,bK (by omega)]
  simp
 have d:∀ (B:RA) (n:Int),B.ok->Ky (cO m v) B.v (bs (A.gy (m.es.map (·.n))),(A.add (m.es.map (·.n))).is iZ,((A.add (m.es.map (·.n))).take iZ).is lN,(((A.add (m.es.map (·.n))).take iZ).take lN).is uq,n,()) =
  some (.tuple [],[aO (cO { m with es:=m.es ++ [⟨A.gy (m.es.map (·.n)),(A.add (m.es.map (·.n))).is iZ,((A.add (m.es.map (·.n))).take iZ).is lN,(((A.add (m.es.map (·.n))).take iZ).take lN).is uq,n⟩] } v),aA (B.exp [59]).v]):=fun B n g=>by
  rw[bKW];refine (bg (fA g _)).trans ?_;rw[aQ (di (by rw[aZ]; exact a))];simp
 rw[bKZ,f,aQZ];rw[aU (by rw[bz]; omega),Jo (KC _ e h)];show bW 87 [.ptr 0 0,.str ⟨iZ.toArray⟩] [aA (A.add (m.es.map (·.n))).v] _=_;rw[bY (jL (h.add _) ⟨iZ.toArray⟩)];show bW 87 [.ptr 0 0,.str ⟨lN.toArray⟩] [aA ((A.add (m.es.map (·.n))).take iZ).v] _=_;rw[bY (jL ((h.add _).take _) ⟨lN.toArray⟩)];show bW 87 [.ptr 0 0,.str ⟨uq.toArray⟩] [aA (((A.add (m.es.map (·.n))).take iZ).take lN).v] _=_;rw[bY (jL (((h.add _).take _).take _) ⟨uq.toArray⟩)];show bW 87 [.ptr 0 0,.str ⟨DL.toArray⟩] [aA (A.ev1 (m.es.map (·.n))).v] _=_;rw[bY (jL b ⟨DL.toArray⟩)];unfold RA.EK RA.uT RA.EM;cases c:(A.ev1 (m.es.map (·.n))).is DL with
 | true =>rw[aI,NZ];show FI 192 [.ptr 0 0,.int .i64 1,.int .i64 4] [aA ((A.ev1 (m.es.map (·.n))).take DL).v] _=_;rw[qc c,Qs (TY b.next 1 4)];exact d _ _ (b.next.int _ _)
 | false =>rw[aF,FB];grind [mY]
end
section
variable {A:RA} {m:Mo}
def b_A (q:Sh.V jg) (n t:ByteArray) (h:A.ok) (d:A.N<=40000):∃ C l,Le (A.exp [40]) C/\l.length<=20000/\(C.e=0->2*l.length+C.N<=(A.exp [40]).N+1/\nw l-2+C.W<=(A.exp [40]).W) /\
 SS.CC 194 [.ptr 0 0,.func (.func 201) [] [.ptr 1 0,.ptr 2 0]] [gu q,dA (tI n t []),some [.ptr 0 0],aA A.v]=some (.tuple [],[gu q,dA (tI n t l),some [.ptr 0 0],aA (C.exp [41]).v]) /\
 (∀ (z:Sh.V jf) (J:Sh.V jf->Sh.V aC->Sh.V dn->R),aB (!(A.exp [40]).is [41]) (H75 203 [.ptr 0 0,.func (.func 247) [] [.ptr 1 0,.ptr 2 0]] [aA (A.exp [40]).v,dA (tI n t []),some [.ptr 3 0],kW z] fun _ u v w=>J w u v) (J z (A.exp [40]).v (tI n t []))=J z C.v (tI n t l)) /\
 (∀ (z:Sh.V Du) (J:Sh.V Du->Sh.V aC->Sh.V dn->R),aB (!(A.exp [40]).is [41]) (H74 203 [.ptr 0 0,.func (.func 247) [] [.ptr 1 0,.ptr 2 0]] [aA (A.exp [40]).v,dA (tI n t []),some [.ptr 3 0],FW z] fun _ u v w=>J w u v) (J z (A.exp [40]).v (tI n t []))=J z C.v (tI n t l)) /\
 (∀ (z:Sh.V Dv) (J:Sh.V Dv->Sh.V aC->Sh.V dn->R),aB (!(A.exp [40]).is [41]) (H77 203 [.ptr 0 0,.func (.func 247) [] [.ptr 1 0,.ptr 2 0]] [aA (A.exp [40]).v,dA (tI n t []),some [.ptr 3 0],FX z] fun _ u v w=>J w u v) (J z (A.exp [40]).v (tI n t []))=J z C.v (tI n t l)):=by
 have a:=Le.exp h [40];cases c:(A.exp [40]).is [41] with
 | true =>
  refine ⟨A.exp [40],[],.refl a.ok,by simp,fun _=>⟨by simp,by simp[nw]⟩,?_,fun z J => ?_,fun z J => ?_,fun z J => ?_⟩
  .rw[aRD,bg (fA h _)];rw[bY (uX a.ok ⟨#[41]⟩)];rw[c,ut,aF,bg (fA a.ok _)]
  all_goals rw[ut,aF]
 | false =>
  obtain ⟨C,l,b,f,g,i,j,m,o⟩:=b_8 q n t a.ok (jO a.le d);refine ⟨C,l,b,f,fun e=>⟨(g e).1,by omega⟩,?_,fun z J => ?_,fun z J => ?_,fun z J => ?_⟩
  .rw[aRD,bg (fA h _)];rw[bY (uX a.ok ⟨#[41]⟩)];rw[c,su,aI,b41 i];rw[bg (fA b.ok _)]
  .rw[su,aI,b4P (j z)]
  .rw[su,aI,b4O (m z)]
  .rw[su,aI,b4R (o z)]
def iw (x:Ins):Nat:=wl x.n+wl x.t+(nw x.es-2)+10
theorem aVD (q:Sh.V dH) (h:A.ok) (I:m.cs.length+m.rs.length<=20000) (J:A.N<=40000):∃ f x,Le A f/\(f.e=0->f.N<A.N/\x.es.length<=20000/\iw x+f.W<=A.W) /\
 SS.CC 94 [.ptr 0 0,.ptr 1 0,.ptr 1 3] [ah q,bU (aV m),aA A.v]=some (.tuple [],[ah q,bU (aV { m with cs:=m.cs ++ [x] }),aA f.v]) /\
 SS.CC 94 [.ptr 0 0,.ptr 1 0,.ptr 1 4] [ah q,bU (aV m),aA A.v]=some (.tuple [],[ah q,bU (aV { m with rs:=m.rs ++ [x] }),aA f.v]) /\
 (∀ v,SS.CC 163 [.ptr 0 0] [aO (cO m v),aA A.v]=some (A8 (He x),[aO (cO m v),aA f.v])) /\
 (∀ v,SS.CC 163 [.ptr 0 0] [wZ (cO m v),aA A.v]=some (A8 (He x),[wZ (cO m v),aA f.v])) /\
 (∀ v,SS.CC 163 [.ptr 0 0] [wo (cO m v),aA A.v]=some (A8 (He x),[wo (cO m v),aA f.v])):=by
 have j:(m.cs ++ m.rs).length<=20000:=by rw[aY]; exact I
 have r:((m.cs ++ m.rs).map (·.n)).length<=20000:=by rw[aZ]; exact j
 have i:=Le.add h ((m.cs ++ m.rs).map (·.n));have d:=Le.exp i.ok [61];have g:=Le.name d.ok;have t:=(i.trans d).trans g;obtain ⟨C,l,k1,k2,k3,z,K,M,O⟩:=b_A q (bs (A.gy ((m.cs ++ m.rs).map (·.n)))) (bs ((A.add ((m.cs ++ m.rs).map (·.n))).exp [61]).iI) g.ok (jO t.le J);have o:=Le.exp g.ok [40];have u:=Le.exp k1.ok [41];have y:=Le.exp u.ok [59];have p:(C.exp [41]).ok:=u.ok;refine ⟨(C.exp [41]).exp [59],⟨A.gy ((m.cs ++ m.rs).map (·.n)),((A.add ((m.cs ++ m.rs).map (·.n))).exp [61]).iI,l⟩,((t.trans o).trans k1).trans (u.trans y),fun e => ?_,?_,?_,fun v => ?_,fun v => ?_,fun v => ?_⟩
 .have B:=y.e0 e;have D:=u.e0 B;have E:=k1.e0 D;have F:=o.e0 E;have G:=g.e0 F;have H:=d.e0 G;have w0:=EE h H;have w1:((A.add ((m.cs ++ m.rs).map (·.n))).exp [61]).W+2=(A.add ((m.cs ++ m.rs).map (·.n))).W:=o9 i.ok G;have w2:=Iz d.ok F;have w3:(((A.add ((m.cs ++ m.rs).map (·.n))).exp [61]).name.exp [40]).W+2=((A.add ((m.cs ++ m.rs).map (·.n))).exp [61]).name.W:=o9 g.ok E;have w4:=(k3 D).2;have w5:(C.exp [41]).W+2=C.W:=o9 k1.ok B;have w6:((C.exp [41]).exp [59]).W+2=(C.exp [41]).W:=o9 p e;have Q:=jQ h H;have S:=d.le;have T:=g.le;have U:=o.le;have X:=k1.le;have Y:=u.le;have Z:=y.le;grind [iw]
 .rw[bJ6];dsimp only[fV];rw[Jk (KL m.cs (by omega)),aQ (EU (by rw[aZ]; omega) (by rw[aZ]; omega)),<- pq,vk (aMH (m.cs ++ m.rs) j),Ht (I5 _ r h)];rw[bg (fA i.ok _)];rw[lZ (mG d.ok)];refine (aKN z).trans ?_;rw[bg (fA p _),aQ (di (by rw[aZ]; omega))];simp
 .rw[bJ7];dsimp only[fV];rw[Jk (KL m.cs (by omega)),aQ (EU (by rw[aZ]; omega) (by rw[aZ]; omega)),<- pq,vk (aMH (m.cs ++ m.rs) j),Ht (I5 _ r h)];rw[bg (fA i.ok _)];rw[lZ (mG d.ok)];refine (aKN z).trans ?_;rw[bg (fA p _),aQ (di (by rw[aZ]; omega))];simp
 .have w:Sj (cO m v) A.v ((m.cs ++ m.rs).map dN) (((m.cs ++ m.rs).map dN).length:Int) [] 0=Sj (cO m v) A.v ((m.cs ++ m.rs).map dN) (((m.cs ++ m.rs).map dN).length:Int) (aJ ((m.cs ++ m.rs).map (·.n))) ((m.cs ++ m.rs).length:Int):=by
   refine lS (n:=(m.cs ++ m.rs).length) (L:=fun k=>Sj (cO m v) A.v ((m.cs ++ m.rs).map dN) (((m.cs ++ m.rs).map dN).length:Int) (aJ (((m.cs ++ m.rs).take k).map (·.n))) (k:Int)) (fun k hk => ?_) ?_
   .rw[aR3,aK (by rw[bz]; omega),aI,BD hk,aQ (di (sH _ (m.cs ++ m.rs) k j)),sG (·.n) (m.cs ++ m.rs) hk,bK (by omega)]
   grind
  rw[bLG];rw[Jk (KL m.cs (by omega)),aQ (EU (by rw[aZ]; omega) (by rw[aZ]; omega)),<- pq,w,aR3,aU (by rw[bz]; omega),aF,Jo (KC _ r h)];rw[bg (fA i.ok _)];rw[lZ (mG d.ok)];rw[bg (fA g.ok _)];rw[bY (uX o.ok ⟨#[41]⟩)];refine (K (cO m v) (fun a b c=>a3Z a b c)).trans ?_;rw[bLD,bg (fA k1.ok _)];rw[bg (fA p _)]
 .have w:Sm (cO m v) A.v ((m.cs ++ m.rs).map dN) (((m.cs ++ m.rs).map dN).length:Int) [] 0=Sm (cO m v) A.v ((m.cs ++ m.rs).map dN) (((m.cs ++ m.rs).map dN).length:Int) (aJ ((m.cs ++ m.rs).map (·.n))) ((m.cs ++ m.rs).length:Int):=by
   refine lS (n:=(m.cs ++ m.rs).length) (L:=fun k=>Sm (cO m v) A.v ((m.cs ++ m.rs).map dN) (((m.cs ++ m.rs).map dN).length:Int) (aJ (((m.cs ++ m.rs).take k).map (·.n))) (k:Int)) (fun k hk => ?_) ?_
   .rw[aR7,aK (by rw[bz]; omega),aI,BD hk,aQ (di (sH _ (m.cs ++ m.rs) k j)),sG (·.n) (m.cs ++ m.rs) hk,bK (by omega)]
   grind
  rw[bLO];rw[Jk (KL m.cs (by omega)),aQ (EU (by rw[aZ]; omega) (by rw[aZ]; omega)),<- pq,w,aR7,aU (by rw[bz]; omega),aF,b4N (b5H _ r h)];rw[bg (fA i.ok _)];rw[lZ (mG d.ok)];rw[bg (fA g.ok _)];rw[bY (uX o.ok ⟨#[41]⟩)];refine (M (cO m v) (fun a b c=>WE a b c)).trans ?_;rw[bLL,bg (fA k1.ok _)];rw[bg (fA p _)]
 .have w:Sl (cO m v) A.v ((m.cs ++ m.rs).map dN) (((m.cs ++ m.rs).map dN).length:Int) [] 0=Sl (cO m v) A.v ((m.cs ++ m.rs).map dN) (((m.cs ++ m.rs).map dN).length:Int) (aJ ((m.cs ++ m.rs).map (·.n))) ((m.cs ++ m.rs).length:Int):=by
   refine lS (n:=(m.cs ++ m.rs).length) (L:=fun k=>Sl (cO m v) A.v ((m.cs ++ m.rs).map dN) (((m.cs ++ m.rs).map dN).length:Int) (aJ (((m.cs ++ m.rs).take k).map (·.n))) (k:Int)) (fun k hk => ?_) ?_
   .rw[aR5,aK (by rw[bz]; omega),aI,BD hk,aQ (di (sH _ (m.cs ++ m.rs) k j)),sG (·.n) (m.cs ++ m.rs) hk,bK (by omega)]
   grind
  rw[bLK];rw[Jk (KL m.cs (by omega)),aQ (EU (by rw[aZ]; omega) (by rw[aZ]; omega)),<- pq,w,aR5,aU (by rw[bz]; omega),aF,b4Q (b5I _ r h)];rw[bg (fA i.ok _)];rw[lZ (mG d.ok)];rw[bg (fA g.ok _)];rw[bY (uX o.ok ⟨#[41]⟩)];refine (O (cO m v) (fun a b c=>a4A a b c)).trans ?_;rw[bLH,bg (fA k1.ok _)];rw[bg (fA p _)]
end
def lw:List (Nm×Nm)->Nat
 | []=>0
 | p::l=>wl p.1+wl p.2+4+lw l
def aYG (p:Nm×Nm):∀ l,lw (l ++ [p])=lw l+(wl p.1+wl p.2+4)
 | []=>by simp[lw]
 | a::l=>by rw[pF,lw,lw,aYG p l]; omega
section
variable {A:RA} {m:Mo} {n:ByteArray} {l:List (Nm×Nm)}
abbrev tX (n:ByteArray) (l:List (Nm×Nm)):Sh.V lq:=(n,l.map yE,())
theorem aVT (q:Sh.V iO) (a:l.length<=20000) (h:A.ok):SS.CC 204 [.ptr 0 0,.ptr 1 0] [some [.ptr 2 0],lg (tX n l),gu q,aA A.v]=some (.tuple [],[some [.ptr 2 0],lg (tX n (l ++ [(A.iI,A.name.iI)])),gu q,aA A.name.name.v]):=by rw[bNJ,lZ (mG h)];rw[lZ (mG h.name)];grind [aQ,di]
theorem aVY (q:Sh.V jc) (a:l.length<=20000) (h:A.ok):SS.CC 248 [.ptr 0 0,.ptr 1 0] [some [.ptr 2 0],lg (tX n l),iq q,aA A.v]=some (.tuple [],[some [.ptr 2 0],lg (tX n (l ++ [(A.iI,A.name.iI)])),iq q,aA A.name.name.v]):=by rw[bOX];dsimp only[fV];rw[lZ (mG h)];rw[lZ (mG h.name)];grind [aQ,di,tV]
def b2I (h:A.ok) (e:A.name.name.e=0):A.name.name.N+2<=A.N/\A.name.name.W+(wl A.iI+wl A.name.iI+2)=A.W:=by have b:=PG h.name e;have c:=Iz h.name e;have a:A.name.e=0:=(Le.name h.name).e0 e;have d:=PG h a;have f:=Iz h a;omega
theorem bZB (q:Sh.V jg) (n:ByteArray) (h:A.ok) (o:A.N<=40000):∃ B l,Le A B/\l.length<=20000/\(B.e=0->2*l.length+B.N<=A.N+1/\lw l+B.W<=A.W+2/\2<=lw l) /\
 SS.CC 203 [.ptr 0 0,.func (.func 204) [] [.ptr 1 0,.ptr 2 0]] [aA A.v,some [.ptr 3 0],lg (tX n []),lh q]=some (.tuple [],[aA B.v,some [.ptr 3 0],lg (tX n l),lh q]) /\
 (∀ z,SS.CC 203 [.ptr 0 0,.func (.func 248) [] [.ptr 1 0,.ptr 2 0]] [aA A.v,some [.ptr 3 0],lg (tX n []),kW z]=some (.tuple [],[aA B.v,some [.ptr 3 0],lg (tX n l),kW z])):=by
 have d:=(Le.name h).trans (Le.name h.name);obtain ⟨B,y,p,g,r,a,t,i,j⟩:=uC (C:=fun A l=>a4J A.v (tX n l) q) (L:=fun A l=>fun z=>a4I A.v (tX n l) z)
  (P:=fun B (l b:List (Nm×Nm))=>l=b/\l.length<=20000/\(B.e=0->2*l.length+B.N<=A.N+1/\lw l+B.W<=A.W+2/\2<=lw l))
  (fun B l b a f c=>⟨Gj a c rfl (aRN _ _ _),by exact funext fun z=>Gj a c rfl (aRM _ _ _)⟩)
  (fun B l b a f he c=>by
   obtain ⟨rfl,u,w⟩:=f;have hk:=kY c;have m:=jl a hk;have x:=FT a.next m.1;have D:B.next.W+2=B.W:=oW a c;have h6:l.length<=20000:=by omega
   refine ⟨B.next.name.name,l ++ [(B.next.iI,B.next.name.iI)],l ++ [(B.next.iI,B.next.name.iI)],?_,?_,(Le.name a.next).trans (Le.name a.next.name),rfl,by simp; omega,fun e => ?_⟩
   .exact (Gl a c (aRN _ _ _)).trans (aK3 (aVT q h6 a.next))
   .exact funext fun z=>(Gl a c (aRM _ _ _)).trans (aKS (aVY z h6 a.next))
   .have:=b2I a.next e;rw[aYG];grind)
  A.name.name [(A.iI,A.name.iI)] [(A.iI,A.name.iI)] d.ok ⟨rfl,by simp,fun e=>by have:=b2I h e; simp[lw]; omega⟩
 refine ⟨B,y,d.trans a,i,j,?_,fun z => ?_⟩
 .rw[bN3,aK3 (aVT q (by simp) h)]; exact g
 .rw[bN0,aKS (aVY z (by simp) h)]; simp_all
def xw (x:qj):Nat:=wl x.n+(lw x.ls-2)+5
theorem bAL (q:Sh.V dH) (h:A.ok) (d:m.xs.length<=20000) (o:A.N<=40000):∃ a x,Le A a/\(a.e=0->a.N<A.N/\x.ls.length<=20000/\xw x+a.W<=A.W) /\
 SS.CC 97 [.ptr 0 0,.ptr 1 0] [ah q,bU (aV m),aA A.v]=some (.tuple [],[ah q,bU (aV { m with xs:=m.xs ++ [x] }),aA a.v]) /\
 (∀ v,SS.CC 164 [.ptr 0 0] [aO (cO m v),aA A.v]=some (.tuple [],[aO (cO { m with xs:=m.xs ++ [x] } v),aA a.v])):=by
 have g:(m.xs.map (·.n)).length<=20000:=by rw[aZ]; exact d
 have b:=Le.add h (m.xs.map (·.n));have c:=Le.exp b.ok [58];obtain ⟨C,l,k1,k2,k3,p,r⟩:=bZB q (bs (A.gy (m.xs.map (·.n)))) c.ok (jO (b.trans c).le o);have f:=Le.exp k1.ok [59];refine ⟨C.exp [59],⟨A.gy (m.xs.map (·.n)),l⟩,((b.trans c).trans k1).trans f,fun e => ?_,?_,fun v => ?_⟩
 .have t:=f.e0 e;have i:=k1.e0 t;have j:=c.e0 i;have w0:=EE h j;have w1:((A.add (m.xs.map (·.n))).exp [58]).W+2=(A.add (m.xs.map (·.n))).W:=o9 b.ok i;have w5:(C.exp [59]).W+2=C.W:=o9 k1.ok e;have w:=jQ h j;have y:=c.le;have z:=k1.le;have B:=f.le;grind [xw]
 .rw[bJA];dsimp only[fV];rw[vk (b8Y m.xs d),Ht (I5 _ g h)];rw[bg (fA b.ok _)];refine (b4V p).trans ?_;rw[bg (fA k1.ok _),aQ (di (by rw[aZ]; omega))];simp
 .have u:Sr (cO m v) A.v [] 0=Sr (cO m v) A.v (aJ (m.xs.map (·.n))) (m.xs.length:Int):=by
   refine lS (n:=m.xs.length) (L:=fun k=>Sr (cO m v) A.v (aJ ((m.xs.take k).map (·.n))) (k:Int)) (fun k hk => ?_) ?_
   .rw[aR8];rw[aK (by rw[bz]; omega),aI,Gf hk,aQ (di (sH _ m.xs k d)),sG (·.n) m.xs hk,bK (by omega)]
   simp
  rw[bLS,u,aR8];rw[aU (by rw[bz]; omega),Jo (KC _ g h)];rw[bg (fA b.ok _)];refine (b4S (r (cO m v))).trans ?_;rw[bg (fA k1.ok _),aQ (di (by rw[aZ]; omega))];simp
end
def qE (v:Int):Nat:=if v < -65536\/65536<v then 1000000 else if v<0 then dl (-v)+3 else dl v+1
def tw:List (Nm×Int)->Nat
 | []=>0
 | p::l=>qE p.2+wl p.1+5+tw l
theorem aIO (p:Nm×Int):∀ l,tw (l ++ [p])=tw l+(qE p.2+wl p.1+5)
 | []=>by simp[tw]
 | a::l=>by rw[pF,tw,tw,aIO p l]; omega
section
variable {A:RA} {m:Mo} {n:ByteArray} {l:List (Nm×Int)}
theorem aVJ {a b:Int} (h:A.ok) (e:(A.int a b).e=0):qE (A.EO a b)+(A.int a b).W<=A.W/\(A.int a b).N<A.N/\a<=A.EO a b/\A.EO a b<=b:=by
 have num:∀ {B:RA} (d:Int),(d=1\/d = -1)->B.ok->(B.num d a b).e=0->B.pk.kind=2/\B.PM d a b=d*B.pk.value/\B.num d a b=B.next/\a<=d*B.pk.value/\d*B.pk.value<=b:=fun {B} d l j e=>by
  unfold RA.num at e;by_cases hk:B.pk.kind=2
  .obtain ⟨g,i⟩:=PN j hk;grind [wrap64,qw,RA.num,RA.PM]
  grind [qw]
 unfold RA.int RA.EO at *;cases c:A.mi with
 | true =>
  rw[c] at e;have f:A.is [45]=true:=by grind [RA.mi,RA.is]
  obtain ⟨k1,k2,k3,k4,k5⟩:=num (-1) (.inr rfl) h.next e;rw[NZ,NZ,k2,k3];have w1:A.next.W+2=A.W:=oW h f;have w2:=Gp h.next (show A.next.pk.kind≠4 by omega);obtain ⟨g,i⟩:=PN h.next k1;unfold BZ at w2;refine ⟨?_,?_,k4,k5⟩;grind [qE]
  .have m:=(jl h (kY f)).2;have n:=(jl h.next (show A.next.pk.kind≠4 by omega)).2;omega
 | false =>rw[c] at e;obtain ⟨k1,k2,k3,k4,k5⟩:=num 1 (.inl rfl) h e;have w2:=Gp h (show A.pk.kind≠4 by omega);obtain ⟨g,i⟩:=PN h k1;grind [BZ,jl,qE]
def RA.iv (A:RA):Int:=A.EO (-65536) 65536
def RA.in (A:RA):RA:=A.int (-65536) 65536
def Y3 (h:A.ok) (e:A.in.e=0):qE A.iv+A.in.W<=A.W/\A.in.N<A.N /\ -65536<=A.iv/\A.iv<=65536:=aVJ h e
def Le.in (h:A.ok):Le A A.in:=Le.int h _ _
def Z8 (q:Sh.V eY) (h:A.ok):SS.CC 206 [.ptr 0 0] [bH q,aA A.v]=some (.int .i64 A.iv,[bH q,aA A.in.v]):=by rw[bNL,Qs (TY h _ _)]; rfl
def Z9 (q:Sh.V bF) (h:A.ok):SS.CC 245 [.ptr 0 0] [aO q,aA A.v]=some (.int .i64 A.iv,[aO q,aA A.in.v]):=by rw[bOT,Qs (TY h _ _)]; rfl
def wX (q:Sh.V eY) (A:RA):SS.CC 29 [.ptr 0 0] [bH q,aA A.v]=some (.bool (A.e==0),[bH q,aA A.v]):=by rw[bCR,Np (OO A)]
abbrev tT (l:List (Nm×Int)):List PV:=l.map PT
def RA.xU (A:RA):RA:=(A.in.exp [42]).name
def RA.Q7 (A:RA):Nm×Int:=((A.in.exp [42]).iI,A.iv)
def Le.xU (h:A.ok):Le A A.xU:=by have a:=Le.in h;have b:=Le.exp a.ok [42];exact (a.trans b).trans (Le.name b.ok)
theorem b2C (h:A.ok) (e:A.xU.e=0):A.xU.N+3<=A.N/\qE A.Q7.2+wl A.Q7.1+3+A.xU.W<=A.W:=by
 have b:=Le.in h;have a:=Le.exp b.ok [42];have d:(A.in.exp [42]).e=0:=(Le.name a.ok).e0 e;have f:=a.e0 d;have w0:=Y3 h f;have w1:(A.in.exp [42]).W+2=A.in.W:=o9 b.ok d;have w2:=Iz a.ok e;have g:=(PG a.ok e).2;have i:(A.in.exp [42]).N<A.in.N:=by
  cases c:A.in.is [42] with
  | true=>unfold RA.exp; rw[c]; exact (jl b.ok (kY c)).2
  | false=>grind [RA.exp,qw]
 grind [RA.xU,RA.Q7]
theorem ctL (q:Sh.V eY) (n:ByteArray) (h:A.ok) (E:A.N<=40000):∃ B l,Le A B/\l.length<=20000/\(B.e=0->tw l+B.W<=A.W+2/\2<=tw l) /\
 XJ q (aV m) A.v n true []=XI q (aV m) B.v n (tT l)/\(fun v=>Su v A.v n true [])=fun v=>XT v B.v n (tT l) :=
 loops (C:=fun B (y:Bool×List (Nm×Int))=>XJ q (aV m) B.v n y.1 (tT y.2)) (L:=fun B (y:Bool×List (Nm×Int)) v=>Su v B.v n y.1 (tT y.2))
  (P:=fun B y z=>y=z/\Le A B/\y.2.length<=20000/\(B.e=0->(y.1=true->3*y.2.length+B.N<=A.N/\tw y.2+B.W<=A.W)/\(y.1=false->tw y.2+B.W<=A.W+2/\2<=tw y.2)))
  (Q:=fun r s=>∃ B l,Le A B/\l.length<=20000/\(B.e=0->tw l+B.W<=A.W+2/\2<=tw l)/\r=XI q (aV m) B.v n (tT l)/\s=fun v=>XT v B.v n (tT l))
  (fun B y z a D=>by
   obtain ⟨rfl,p,t,u⟩:=D;obtain ⟨b,l⟩:=y;dsimp only at t u ⊢;cases b with
   | false =>grind [aC3,aF,aC9]
   | true =>
    by_cases e:B.e=0
    .obtain ⟨F,G⟩:=(u e).1 rfl;have H:=FT a e;have d:=Le.xU a;have g:=Le.in a;have w:=Le.exp g.ok [42];have f:=Le.take d.ok [43];have i:(B.xU.take [43]).N<B.N:=by
      by_cases j:B.xU.e=0
      .have:=b2C a j; have:=f.le; omega
      grind [c89,Ve]
     refine .inr ⟨B.xU.take [43],(B.xU.is [43],l ++ [B.Q7]),(B.xU.is [43],l ++ [B.Q7]),?_,?_,f.ok,⟨rfl,(p.trans d).trans f,by simp; omega,fun o => ?_⟩,i⟩
     .rw[aC3,Jm (wX _ B)];rw[show (B.e==0)=true by simp[e],FO (Z8 _ a)];rw[bg (fA g.ok _)];rw[lZ (mG w.ok)];rw[aQ (di (by rw[aZ]; omega))];show bW 87 [.ptr 0 0,.str ⟨#[43]⟩] [aA B.xU.v] _=_;rw[bY (jL d.ok ⟨#[43]⟩)];simp[RA.Q7]
     .funext v
      rw[aC9,Dj (P.Bq _ B)];rw[show (B.e != 0)=false by simp[e],FM (Z9 _ a)];rw[bg (fA g.ok _)];rw[lZ (mG w.ok)];rw[aQ (di (by rw[aZ]; omega))];show bW 87 [.ptr 0 0,.str ⟨#[43]⟩] [aA B.xU.v] _=_;rw[bY (jL d.ok ⟨#[43]⟩)];simp[RA.Q7]
     .have j:=f.e0 o;have k1:=b2C a j;have k2:=ZN (x := [43]) d.ok;have k3:=f.le;refine ⟨fun c => ?_,fun c => ?_⟩
      .have c:B.xU.is [43]=true:=c;rw[c] at k2;have k2:(B.xU.take [43]).W+2=B.xU.W:=k2;grind [aIO]
      grind [aIO]
    .refine .inl ⟨B,l,p,t,fun o=>absurd o e,?_,?_⟩
     .rw[aC3,aI,Jm (wX _ B)];grind [aF]
     .funext v
      rw[aC9,aI,Dj (P.Bq _ B)];grind [aF])
  A (true,[]) (true,[]) h ⟨rfl,.refl h,by simp,fun _=>⟨fun _=>by simp[tw],fun c=>by cases c⟩⟩
def YE (x:Cst):Nat:=wl x.n+(tw x.ts-2)+qE x.b+8
theorem b97 (q:Sh.V dH) (h:A.ok) (g:m.ks.length<=20000) (w:A.N<=40000):∃ c x,Le A c/\(c.e=0->c.N<A.N/\x.ts.length<=20000/\YE x+c.W<=A.W) /\
 SS.CC 99 [.ptr 0 0,.ptr 1 0] [ah q,bU (aV m),aA A.v]=some (.tuple [],[ah q,bU (aV { m with ks:=m.ks ++ [x] }),aA c.v]) /\
 (∀ v,SS.CC 165 [.ptr 0 0] [aO (cO m v),aA A.v]=some (.tuple [],[aO (cO { m with ks:=m.ks ++ [x] } v),aA c.v])):=by
 have j:(m.ks.map (·.n)).length<=20000:=by rw[aZ]; exact g
 have d:=Le.add h (m.ks.map (·.n));have f:=Le.exp d.ok [58];obtain ⟨C,l,k1,k2,k3,y,z⟩:=ctL (m:=m) q (bs (A.gy (m.ks.map (·.n)))) f.ok (jO (d.trans f).le w);have a:=Le.exp k1.ok [60,61];have b:=Le.in a.ok;have i:=Le.exp b.ok [59];refine ⟨(C.exp [60,61]).in.exp [59],⟨A.gy (m.ks.map (·.n)),l,(C.exp [60,61]).iv⟩,((d.trans f).trans k1).trans ((a.trans b).trans i),fun e => ?_,?_,fun v => ?_⟩
 .have o:=i.e0 e;have p:=b.e0 o;have r:=a.e0 p;have t:=k1.e0 r;have u:=f.e0 t;have w0:=EE h u;have w1:((A.add (m.ks.map (·.n))).exp [58]).W+2=(A.add (m.ks.map (·.n))).W:=o9 d.ok t;have w2:=k3 r;have w3:(C.exp [60,61]).W+3=C.W:=o9 k1.ok p;have w4:=Y3 a.ok o;have w5:((C.exp [60,61]).in.exp [59]).W+2=(C.exp [60,61]).in.W:=o9 b.ok e;have D:=jQ h u;have E:=f.le;have F:=k1.le;have G:=a.le;have H:=b.le;have I:=i.le;grind [YE]
 .rw[bJF,vk (b8W m.ks g),Ht (I5 _ j h)];rw[bg (fA d.ok _)];rw[y,bJC,bg (fA k1.ok _)];rw[FO (Z8 _ a.ok)];rw[bg (fA b.ok _),aQ (di (by rw[aZ]; omega))];simp
 .have B:Sv (cO m v) A.v [] 0=Sv (cO m v) A.v (aJ (m.ks.map (·.n))) (m.ks.length:Int):=by
   refine lS (n:=m.ks.length) (L:=fun k=>Sv (cO m v) A.v (aJ ((m.ks.take k).map (·.n))) (k:Int)) (fun k hk => ?_) ?_
   .rw[aR9];rw[aK (by rw[bz]; omega),aI,Ip hk,aQ (di (sH _ m.ks k g)),sG (·.n) m.ks hk,bK (by omega)]
   simp
  rw[bLY,B,aR9];rw[aU (by rw[bz]; omega),aF,Jo (KC _ j h)];rw[bg (fA d.ok _)];rw[show Su (cO m v) ((A.add (m.ks.map (·.n))).exp [58]).v (bs (A.gy (m.ks.map (·.n)))) true []=_ from congrFun z (cO m v),bLT,bg (fA k1.ok _)];rw[FM (Z9 _ a.ok)];rw[bg (fA b.ok _),aQ (di (by rw[aZ]; omega))];simp
end
section
variable {A:RA} {m:Mo} {n:ByteArray} {es ls:List Nm} {I:Int} {mr:List Int} {vs:List Vr} {ms:List Mv} {b:Bool}
def RA.yB (A:RA) (ls:List Nm) (b:Bool):RA:=bif (A.add ls).is pY then (bif b then (A.add ls).fail 8 else (A.add ls).next) else A.add ls
def RA.ER (A:RA) (ls:List Nm) (b:Bool):RA:=((A.yB ls b).take qg).exp [59]
def RA.GZ (A:RA) (ls:List Nm) (b:Bool) (mr:List Int):List Int:=bif (A.yB ls b).is qg then mr ++ [(ls.length:Int)] else mr
def aXN (h:A.ok) (ls:List Nm) (b:Bool):Le A (A.yB ls b):=by
 have a:=Le.add h ls;unfold RA.yB;cases (A.add ls).is pY with
 | true=>cases b with
  | true=>exact a.trans (Le.fail a.ok (by decide))
  | false=>exact a.trans (Le.next a.ok)
 | false=>exact a
def bZE (h:A.ok) (ls:List Nm) (b:Bool):Le A (A.ER ls b):=by have a:=aXN h ls b;have c:=Le.take a.ok qg;exact (a.trans c).trans (Le.exp c.ok _)
theorem bZA (h:A.ok) (e:(A.ER ls b).e=0):(A.ER ls b).N<A.N/\((A.add ls).is pY=true->b=false)/\wl (A.gy ls)+3+(if (A.add ls).is pY then 8 else 0)+(if (A.yB ls b).is qg then 7 else 0)+(A.ER ls b).W<=A.W:=by
 have f:=aXN h ls b;have a:=Le.take f.ok qg;have g:=Le.exp a.ok [59];have i:=Le.add h ls;have m:=g.e0 e;have d:=a.e0 m;have w3:(A.ER ls b).W+2=((A.yB ls b).take qg).W:=o9 a.ok e;have w2:((A.yB ls b).take qg).W+(if (A.yB ls b).is qg then 7 else 0)=(A.yB ls b).W:=ZN f.ok;have o:=a.le;have p:(A.ER ls b).N<=_:=g.le;cases c:(A.add ls).is pY with
 | true =>
  cases b with
  | true =>grind [RA.yB,qw]
  | false =>
   have j:(A.add ls).e=0:=GV (kY c);have w0:=EE h j;have n:=jQ h j;have l:A.yB ls false=(A.add ls).next:=by grind [RA.yB]
   have w1:(A.add ls).next.W+8=(A.add ls).W:=oW i.ok c;have q:=(Le.next i.ok).le;grind
 | false =>
  have l:A.yB ls b=A.add ls:=by grind [RA.yB]
  rw[l] at d;have w0:=EE h d;have n:=jQ h d;grind
def bZH (a:ls.length<=20000) (s:Nm):i64.wrap (((aJ ls ++ [.str (bs s)]:List PV).length:Int)-1)=(ls.length:Int):=by rw[aY,fJ,xg,wrap64 (by omega) (by omega)]; omega
theorem lcC (q:Sh.V iO) (l:ls.length<=20000) (o:mr.length<=20000) (h:A.ok):SS.CC 196 [.ptr 0 0,.ptr 1 0,.ptr 2 0] [gu q,dP (tQ n es ls I mr vs ms),jR (b,()),aA A.v] =
 some (.tuple [],[gu q,dP (tQ n es (ls ++ [A.gy ls]) (bif (A.add ls).is pY && !b then (ls.length:Int) else I) (A.GZ ls b mr) vs ms),jR (b||(A.add ls).is pY,()),aA (A.ER ls b).v]):=by
 have a:=Le.add h ls;have d:∀ (B:RA) (f:Int) (g:Bool),B.ok->XW (ls.length:Int) q (tQ n es (ls ++ [A.gy ls]) f mr vs ms) B.v g=some (.tuple [],[gu q,dP (tQ n es (ls ++ [A.gy ls]) f (bif B.is qg then mr ++ [(ls.length:Int)] else mr) vs ms),jR (g,()),aA ((B.take qg).exp [59]).v]):=fun B f g e=>by
  rw[bMH];show bW 87 [.ptr 0 0,.str ⟨qg.toArray⟩] [aA B.v] _=_;rw[bY (jL e ⟨qg.toArray⟩)];cases c:B.is qg with
  | true =>rw[aQ (di (by simp_all))];refine (bg (fA (e.take qg) _)).trans ?_;simp
  | false =>exact bg (fA (e.take qg) _)
 have i:∀ (B:RA),B.ok->(b=true->B.is pY=false)->XV q (tQ n es (ls ++ [A.gy ls]) I mr vs ms) b B.v (ls.length:Int) =
  XW (ls.length:Int) q (tQ n es (ls ++ [A.gy ls]) (bif B.is pY then (ls.length:Int) else I) mr vs ms) (B.take pY).v (b||B.is pY):=fun B e p=>by
  rw[bMG];show bW 87 [.ptr 0 0,.str ⟨pY.toArray⟩] [aA B.v] _=_;rw[bY (jL e ⟨pY.toArray⟩)];grind [aI,aF]
 have m:aJ (ls ++ [A.gy ls])=aJ ls ++ [.str (bs (A.gy ls))]:=by rw[<- H7]; rfl
 rw[bMI];dsimp only[fV];rw[Ht (I5 _ l h)];rw[aQ (di (by rw[fJ]; omega)),bZH l,<- m];show au (bW 161 [.ptr 0 0,.str ⟨pY.toArray⟩] [aA (A.add ls).v] _) _=_;rw[bY (uX a.ok ⟨pY.toArray⟩)];repeat rw[tV]
 unfold RA.GZ RA.ER RA.yB;cases c:(A.add ls).is pY with
 | true =>
  rw[aI];cases b with
  | true =>have j:((A.add ls).fail 8).is pY=false:=aDF (qw (by decide)) _;rw[aI,bg (lu a.ok 8)];refine (i _ (a.ok.fail 8) (fun _=>j)).trans ?_;rw[j,mY j];exact d _ _ _ (a.ok.fail 8)
  | false =>rw[aF];refine (i _ a.ok (fun h=>by cases h)).trans ?_;rw[c,qc c];exact d _ _ _ a.ok.next
 | false =>rw[aF];refine (i _ a.ok (fun _=>c)).trans ?_;rw[c,mY c];exact d _ _ _ a.ok
end
section
variable {A:RA} {m:Mo} {n:ByteArray} {es ls:List Nm} {I:Int} {mr:List Int} {vs:List Vr} {ms:List Mv} {b:Bool} {q:Sh.V bF}
def aXS (a:ls.length<=20001):i64.wrap (((aJ ls).length:Int)-1)=(ls.length:Int)-1:=by rw[fJ,wrap64 (by omega) (by omega)]
def aWP (x:Int) (l:List Int):fP (l ++ [x])=fP l ++ [.int .i64 x]:=by simp[fP]
theorem j26 (B:RA) (d:ls.length<=20001) (e:mr.length<=20000) (a:B.ok):XQ q B.v (tQ n es ls I mr vs ms) b=ry q ((B.take qg).exp [59]).v (tQ n es ls I (bif B.is qg then mr ++ [(ls.length:Int)-1] else mr) vs ms) b:=by
 rw[bL1];show bW 87 [.ptr 0 0,.str ⟨qg.toArray⟩] [aA B.v] _=_;rw[bY (jL a ⟨qg.toArray⟩)];cases c:B.is qg with
 | true =>rw[aQ (di (by simp_all)),aXS d];refine (bg (fA (a.take qg) _)).trans ?_;rw[<- aWP];rfl
 | false =>exact bg (fA (a.take qg) _)
theorem aE3 (h:A.ok) (e:A.e=0) (c:A.is [125]=false):∃ X,ry q A.v (tQ n es ls I mr vs ms) b=X /\
 (A.is xZ=true->X=FK 243 [.ptr 0 0,.sl false 1 (aJ ls)] [aO q,aA A.next.v] fun g u32 m=>bJ (decide ((aJ ls).length+1<=aN)) (bW 161 [.ptr 0 0,.str ⟨pY.toArray⟩] [aA m] fun i a=>aB i (aB b (bP 32 [.ptr 0 0,.int .i64 8] [aA a] fun _ o=>SX u32 o (n,(aJ ls ++ ([.str g]:List PV)),aJ es,[],0,I,fP mr,vs.map jI,ms.map sN,())) (SX u32 a (n,(aJ ls ++ ([.str g]:List PV)),aJ es,[],0,I,fP mr,vs.map jI,ms.map sN,()))) (XQ u32 a (n,(aJ ls ++ ([.str g]:List PV)),aJ es,[],0,I,fP mr,vs.map jI,ms.map sN,()) b))) /\
 (A.is xZ=false->A.is yO=true->X=aB (A.next.is mM) (bP 32 [.ptr 0 0,.int .i64 7] [aA A.next.v] fun _ j=>Kv q j (tQ n es ls I mr vs ms) b) (aB (A.next.is pM) (bP 32 [.ptr 0 0,.int .i64 7] [aA A.next.v] fun _ j=>Kv q j (tQ n es ls I mr vs ms) b) (Kv q A.next.v (tQ n es ls I mr vs ms) b))) /\
 (A.is xZ=false->A.is yO=false->A.is Ew=false->X=ry q (A.fail 14).v (tQ n es ls I mr vs ms) b):=by
 refine ⟨_,rfl,fun d => ?_,fun d f => ?_,fun d f l => ?_⟩;all_goals
  rw[a3X];dsimp only[fV];rw[Dj (P.Bq _ A)];rw[show (A.e != 0)=false by simp[e],su,aI,bY (jL h ⟨#[125]⟩)];rw[c,su,aI,mY c];show bW 87 [.ptr 0 0,.str ⟨xZ.toArray⟩] [aA A.v] _=_;rw[bY (jL h ⟨xZ.toArray⟩)];rw[d]
 grind [aI,qc,tV]
 .rw[aF,mY d];show bW 87 [.ptr 0 0,.str ⟨yO.toArray⟩] [aA A.v] _=_;rw[bY (jL h ⟨yO.toArray⟩)];rw[f,aI,qc f];show bW 161 [.ptr 0 0,.str ⟨mM.toArray⟩] [aA A.next.v] _=_;rw[bY (uX h.next ⟨mM.toArray⟩)];show aB (A.next.is mM) _ (bW 161 [.ptr 0 0,.str ⟨pM.toArray⟩] [aA A.next.v] _)=_;rw[bY (uX h.next ⟨pM.toArray⟩)]
 .rw[aF,mY d];show bW 87 [.ptr 0 0,.str ⟨yO.toArray⟩] [aA A.v] _=_;rw[bY (jL h ⟨yO.toArray⟩)];rw[f,aF,mY f];show bW 87 [.ptr 0 0,.str ⟨Ew.toArray⟩] [aA A.v] _=_;rw[bY (jL h ⟨Ew.toArray⟩)];rw[l,aF,mY l,bg (lu h 14)]
theorem lcL (h:A.ok) (e:A.e=0) (c:A.is [125]=false) (p:A.is xZ=true) (q:ls.length<=20000) (i:mr.length<=20000) :
 ry (cO m (aJ (vs.map (·.n)))) A.v (tQ n es ls I mr vs ms) b=ry (cO m (aJ (vs.map (·.n)))) (A.next.ER ls b).v (tQ n es (ls ++ [A.next.gy ls]) (bif (A.next.add ls).is pY then (ls.length:Int) else I) (A.next.GZ ls b mr) vs ms) (b||(A.next.add ls).is pY):=by
 obtain ⟨X,r,t,-⟩:=aE3 h e c;rw[r,t p];have j:=h.next;have d:=Le.add j ls;have l:aJ (ls ++ [A.next.gy ls])=aJ ls ++ [.str (bs (A.next.gy ls))]:=by rw[<- H7]; rfl
 have a:(ls ++ [A.next.gy ls]).length<=20001:=by simp; omega
 have f:((ls ++ [A.next.gy ls]).length:Int)-1=(ls.length:Int):=by simp
 have g:∀ B:RA,B.ok->SX (cO m (aJ (vs.map (·.n)))) B.v (n,aJ ls ++ ([.str (bs (A.next.gy ls))]:List PV),aJ es,[],0,I,fP mr,vs.map jI,ms.map sN,()) =
  ry (cO m (aJ (vs.map (·.n)))) ((B.next.take qg).exp [59]).v (tQ n es (ls ++ [A.next.gy ls]) (ls.length:Int) (bif B.next.is qg then mr ++ [(ls.length:Int)] else mr) vs ms) true:=fun B o=>by
  rw[bL0,eX (next o),<- l];rw[aXS a];refine (j26 B.next a i o.next).trans ?_;rw[f]
 rw[Jo (KC _ q j)];rw[aQ (di (by rw[fJ]; omega)),bY (uX d.ok ⟨pY.toArray⟩)];unfold RA.GZ RA.ER RA.yB;cases u:(A.next.add ls).is pY with
 | true =>
  rw[aI,NZ];cases b with
  | true =>rw[aI,bg (lu d.ok 8)];refine (g _ (d.ok.fail 8)).trans ?_;rw[aF3 (qw (by decide))];rfl
  | false =>rw[aF];exact g _ d.ok
 | false =>rw[aF,FB,FB,Bool.or_false,<- l];refine (j26 _ a i d.ok).trans ?_;rw[f]
def RA.xQ (A:RA):RA:=bif A.is mM||A.is pM then A.fail 7 else A
def RA.JZ (A:RA) (a:List Nm):RA:=(A.xQ.add a).exp [58]
def RA.ND (A:RA) (a:List Nm):RA:=(A.JZ a).in.exp [46,46]
def RA.NE (A:RA) (a:List Nm):RA:=(A.ND a).in.exp [61]
def RA.DK (A:RA) (a:List Nm):RA:=(A.NE a).in.exp [59]
def RA.xY (A:RA) (a:List Nm):Vr:=⟨A.xQ.gy a,(A.JZ a).iv,(A.ND a).iv,(A.NE a).iv⟩
def YL (h:A.ok):Le A A.xQ:=by
 unfold RA.xQ;cases A.is mM||A.is pM with
 | true=>exact .fail h (by decide)
 | false=>exact .refl h
def aEI (h:A.ok) (a:List Nm):Le A (A.JZ a):=by have b:=(YL h).trans (Le.add (YL h).ok a);exact b.trans (Le.exp b.ok _)
def aEJ (h:A.ok) (a:List Nm):Le (A.JZ a) (A.ND a):=by have b:=Le.in (aEI h a).ok;exact b.trans (Le.exp b.ok _)
def aEK (h:A.ok) (a:List Nm):Le (A.ND a) (A.NE a):=by have b:=Le.in (aEJ h a).ok;exact b.trans (Le.exp b.ok _)
def aXO (h:A.ok) (a:List Nm):Le (A.NE a) (A.DK a):=by have b:=Le.in (aEK h a).ok;exact b.trans (Le.exp b.ok _)
def bZF (h:A.ok) (a:List Nm):Le A (A.DK a):=(((aEI h a).trans (aEJ h a)).trans (aEK h a)).trans (aXO h a)
def vw (v:Vr):Nat:=wl v.n+qE v.lo+qE v.hi+qE v.i+10
theorem cA7 {a:List Nm} (h:A.ok) (e:(A.DK a).e=0):(A.DK a).N<A.N/\vw (A.xY a)+(A.DK a).W<=A.W:=by
 have k0:=YL h;have k1:=aEI h a;have k2:=aEJ h a;have k3:=aEK h a;have k4:=aXO h a;have f:=Le.add k0.ok a;have g:=Le.in k1.ok;have i:=Le.in k2.ok;have j:=Le.in k3.ok;have m:(A.NE a).in.e=0:=(Le.exp j.ok [59]).e0 e;have b:=j.e0 m;have n:(A.ND a).in.e=0:=(Le.exp i.ok [61]).e0 b;have c:=i.e0 n;have o:(A.JZ a).in.e=0:=(Le.exp g.ok [46,46]).e0 c;have d:=g.e0 o;have l:(A.xQ.add a).e=0:=(Le.exp f.ok [58]).e0 d;have p:A.xQ.e=0:=f.e0 l;have q:A.xQ=A:=by grind [RA.xQ,qw]
 have w0:=EE k0.ok l;have w1:(A.JZ a).W+2=(A.xQ.add a).W:=o9 f.ok d;have w2:(A.ND a).W+3=(A.JZ a).in.W:=o9 g.ok c;have w3:(A.NE a).W+2=(A.ND a).in.W:=o9 i.ok b;have w4:(A.DK a).W+2=(A.NE a).in.W:=o9 j.ok e;have r:=Y3 k1.ok o;have t:=Y3 k2.ok n;have u:=Y3 k3.ok m;have v:=jQ k0.ok l;have w:(A.JZ a).N<=(A.xQ.add a).N:=(Le.exp f.ok [58]).le;have x:=k2.le;have y:=k3.le;have z:=k4.le;grind [vw,RA.xY]
end
section
variable {A:RA} {m:Mo} {n:ByteArray} {es ls:List Nm} {I:Int} {mr:List Int} {vs:List Vr} {ms:List Mv} {b:Bool} {q:Sh.V bF}
def c54 (s:Nm):SS.CC 42 [.str (bs s)] []=some (.bool (s==mM||s==pM),[]):=by
 rw[aON,EH,NL,NL];cases s==mM with
 | true=>rfl
 | false=>rfl
theorem vrJ (q:Sh.V dH) (hv:vs.length<=20000) (h:A.xQ.ok):XX q (tQ n es ls I mr vs ms) A.xQ.v=some (.tuple [],[ah q,dP (tQ n es ls I mr (vs ++ [A.xY (vs.map (·.n))]) ms),aA (A.DK (vs.map (·.n))).v]):=by have a:=Le.add h (vs.map (·.n));have b:=Le.exp a.ok [58];have c:=Le.in b.ok;have d:=Le.exp c.ok [46,46];have e:=Le.in d.ok;have f:=Le.exp e.ok [61];have g:=Le.in f.ok;rw[bMJ,nS (aJA vs hv),Ht (I5 _ (by rw[aZ]; exact hv) h)];rw[bg (fA a.ok _)];rw[FO (Z8 _ b.ok)];rw[bg (fA c.ok _)];rw[FO (Z8 _ d.ok)];rw[bg (fA e.ok _)];rw[FO (Z8 _ f.ok)];rw[bg (fA g.ok _),aQ (di (by rw[aZ]; omega))];grind [RA.xY,RA.DK,RA.JZ,RA.ND,RA.NE]
def vrC (q:Sh.V dH) (hv:vs.length<=20000) (h:A.ok):SS.CC 197 [.ptr 0 0,.ptr 1 0] [ah q,dP (tQ n es ls I mr vs ms),aA A.v]=some (.tuple [],[ah q,dP (tQ n es ls I mr (vs ++ [A.xY (vs.map (·.n))]) ms),aA (A.DK (vs.map (·.n))).v]):=by
 have d:=(YL h).ok;have e:=vrJ (n:=n) (es:=es) (ls:=ls) (I:=I) (mr:=mr) (ms:=ms) q hv d;have a:A.xQ=bif A.is mM||A.is pM then A.fail 7 else A:=rfl
 rw[bML,eX (gJ h)];rw[bC (c54 A.pk.text)];rw[Tf h (by decide),Tf h (by decide)] at a;cases c:A.pk.kind==1 with
 | true =>
  rw[c,QT,QT] at a;rw[aI];cases b:(A.pk.text==mM||A.pk.text==pM) with
  | true =>rw[b,NZ] at a;rw[aI,bg (lu h 7),<- a];exact e
  | false =>rw[b,FB] at a;rw[aF];rw[a] at e;rw[e]
 | false =>rw[c,DU,DU,Bool.or_false,FB] at a;rw[aF];rw[a] at e;rw[e]
def cA5 (hv:vs.length<=20000) (h:A.xQ.ok):Kv (cO m (aJ (vs.map (·.n)))) A.xQ.v (tQ n es ls I mr vs ms) b =
 ry (cO m (aJ ((vs ++ [A.xY (vs.map (·.n))]).map (·.n)))) (A.DK (vs.map (·.n))).v (tQ n es ls I mr (vs ++ [A.xY (vs.map (·.n))]) ms) b:=by
 have a:=Le.add h (vs.map (·.n));have c:=Le.exp a.ok [58];have d:=Le.in c.ok;have e:=Le.exp d.ok [46,46];have f:=Le.in e.ok;have g:=Le.exp f.ok [61];have j:=Le.in g.ok;have i:(vs.map (·.n)).length<=20000:=by rw[aZ]; exact hv
 rw[bL2];dsimp only[fV];rw[tV,Jo (KC _ i h)];rw[bg (fA a.ok _)];rw[FM (Z9 _ c.ok)];rw[bg (fA d.ok _)];rw[FM (Z9 _ e.ok)];rw[bg (fA f.ok _)];rw[FM (Z9 _ g.ok)];rw[bg (fA j.ok _),aQ (di (by rw[fJ]; exact i)),aQ (di (by rw[aZ]; omega))];have l:aJ ((vs ++ [A.xY (vs.map (·.n))]).map (·.n))=aJ (vs.map (·.n)) ++ [.str (bs (A.xQ.gy (vs.map (·.n))))]:=by rw[pq,<- H7]; rfl
 have o:(vs ++ [A.xY (vs.map (·.n))]).map jI=vs.map jI ++ [jI (A.xY (vs.map (·.n)))]:=by simp
 show _=ry (bs m.n,m.es.map wK,m.ts.map wM,m.cs.map dN,m.rs.map dN,m.xs.map wL,m.ks.map oZ,aJ ((vs ++ [A.xY (vs.map (·.n))]).map (·.n)),0,()) _ (n,aJ ls,aJ es,[],0,I,fP mr,(vs ++ [A.xY (vs.map (·.n))]).map jI,ms.map sN,()) b;rw[l,o];rfl
theorem vrL (h:A.ok) (e:A.e=0) (c:A.is [125]=false) (f:A.is xZ=false) (g:A.is yO=true) (hv:vs.length<=20000) :
 ry (cO m (aJ (vs.map (·.n)))) A.v (tQ n es ls I mr vs ms) b =
 ry (cO m (aJ ((vs ++ [A.next.xY (vs.map (·.n))]).map (·.n)))) (A.next.DK (vs.map (·.n))).v (tQ n es ls I mr (vs ++ [A.next.xY (vs.map (·.n))]) ms) b:=by
 obtain ⟨X,i,-,j,-⟩:=aE3 h e c;have a:A.next.xQ=bif A.next.is mM||A.next.is pM then A.next.fail 7 else A.next:=rfl
 have d:=cA5 (m:=m) (n:=n) (es:=es) (ls:=ls) (I:=I) (mr:=mr) (ms:=ms) (b:=b) hv (YL h.next).ok;rw[i,j f g];cases k1:A.next.is mM with
 | true =>rw[k1,Bool.true_or,NZ] at a;rw[aI,bg (lu h.next 7),<- a];exact d
 | false =>
  cases k2:A.next.is pM with
  | true =>rw[k2,Bool.or_true,NZ] at a;rw[aF,aI,bg (lu h.next 7),<- a];exact d
  | false =>rw[k1,k2,Bool.or_false] at a;rw[a] at d;exact d
end
theorem a_0 (m:b9.length<1000000000000) (h:jX b9 D p y i):y.Len:=by
 have z:zE.Len := .mk (by decide) (by decide) (by decide) (by decide) (by simp);induction h with
 | num f e=>exact .mk (by simp) (by omega) (by decide) (by decide) (by simp)
 | tt=>exact .mk (by simp) (by decide) (by decide) (by decide) (by simp[z])
 | ff=>exact .mk (by simp) (by decide) (by decide) (by decide) (by simp[z])
 | var f e =>have:=(jr.1 e).1;exact .mk (by simp) (by decide) (by decide) (by omega) (by simp)
 | sJ _ a=>exact .mk (by simp) (by decide) (by decide) (by decide) (by simp[a])
 | UC f e=>exact .mk (by simp) (by omega) (by decide) (by decide) (by simp)
 | neg _ a=>exact .mk (by simp) (by decide) (by decide) (by decide) (by simp[a])
 | par _ a=>exact a
 | up _ _ _ a=>exact a
 | bin g _ _ c d=>exact .mk (by simp) (by decide) (by omega) (by decide) (by simp_all)
 | cmp g _ _ c d=>exact .mk (by simp) (by decide) (by omega) (by decide) (by simp_all)
 | ite _ _ _ c d j=>exact .mk (by simp) (by decide) (by decide) (by decide) (by simp_all)
def FY (l:List ByteArray):List (Int×EX)->Nat->Prop
 | [],w=>w=0
 | u::a,w=>∃ s k v r,0<=u.1/\l[u.1.toNat]? = some s/\jX l k 0 u.2 v/\FY l a r/\w=wl s.data.toList+v+6+r
def b2U {l:List ByteArray} {u:Int×EX} {s:ByteArray} {k:Bool} {v:Nat} (c:0<=u.1) (d:l[u.1.toNat]? = some s) (e:jX l k 0 u.2 v):∀ {b:List (Int×EX)} {w:Nat},FY l b w->FY l (b ++ [u]) (w+(wl s.data.toList+v+6))
 | [],w,h=>by have h:w=0:=h;exact ⟨s,k,v,0,c,d,e,rfl,by omega⟩
 | a::b,w,h=>by obtain ⟨f,g,i,r,a0,a1,a2,a3,rfl⟩:=h;exact ⟨f,g,i,_,a0,a1,a2,b2U c d e a3,by omega⟩
theorem Y1 (h:j.ok) (e:(j.kn b9).e=0):∃ s,0<=j.yA b9/\b9[(j.yA b9).toNat]? = some s/\(j.kn b9).W+(wl s.data.toList+1)=j.W/\kX (bs (j.kp b9).iI) b9 0=j.yA b9/\(j.kn b9).N<j.N:=by obtain ⟨k1,k2,k3,k4,k5⟩:=aDW h e;have k6:=Gp h (show j.pk.kind≠4 by omega);unfold BZ at k6;obtain ⟨_,k7⟩:=aDA k3;grind [bs,RA.yA,aDX]
section
variable {A:RA} {l:List ByteArray} {F:MF} {o:Sh.V kP}
abbrev oU (o:Sh.V kP) (us:List (Int×EX)):Sh.V kP:=(o.1,o.2.1,o.2.2.1,o.2.2.2.1,o.2.2.2.2.1,o.2.2.2.2.2.1,o.2.2.2.2.2.2.1,us.map sW,())
theorem upS (f:l.length<1000000000000) (h:A.ok):∃ C x y,Le A C /\
 (∀ o a,a.length<=20000->SS.CC 272 [.ptr 0 0,.ptr 1 0] [some [.ptr 2 0],kN (oU o a),gu (0,dG l,()),aA A.v]=some (.tuple [],[some [.ptr 2 0],kN (oU o (a ++ [x])),gu (0,dG l,()),aA C.v])) /\
 (∀ o a,a.length<=20000->SS.CC 288 [.ptr 0 0,.ptr 1 0] [some [.ptr 2 0],kN (oU o a),iq (P.md F (dG l) 0),aA A.v]=some (.tuple [],[some [.ptr 2 0],kN (oU o (a ++ [y])),iq (P.md F (dG l) 0),aA C.v])) /\
 (C.e=0->x=y/\C.N+3<=A.N/\∃ s k v,0<=x.1/\l[x.1.toNat]? = some s/\jX l k 0 x.2 v/\wl s.data.toList+v+4+C.W<=A.W):=by
 have d:=Le.kn h l;have g:=Le.exp d.ok [58,61];obtain ⟨C,x,y,j,m,o1⟩:=(P.b0Q f ((A.kn l).exp [58,61]).N).2 0 (by decide) (by decide) _ g.ok (dO _);refine ⟨C,(A.yA l,x),(kX (bs (A.kp l).iI) l 0,y),(d.trans g).trans o1.toLe,fun o a n => ?_,fun o a n => ?_,fun e => ?_⟩
 .rw[bP5];dsimp only[fV];rw[tV,FO (P.Tn h _ l f)];rw[bg (fA d.ok _)];refine (zf j).trans ?_;grind [aQ,di]
 .rw[bPS];dsimp only[fV];rw[tV,FM (P.Ry h _ l f)];rw[bg (fA d.ok _)];refine (zY m).trans ?_;grind [aQ,di]
 .have i:=o1.e0 e;have p:=g.e0 i;obtain ⟨s,k1,k2,k3,k4,k5⟩:=Y1 h p;obtain ⟨b,v,r,q⟩:=o1.rd e;have w2:((A.kn l).exp [58,61]).W+3=(A.kn l).W:=o9 d.ok i;have t:((A.kn l).exp [58,61]).N<(A.kn l).N:=by
   cases c:(A.kn l).is [58,61] with
   | true=>unfold RA.exp; rw[c]; exact (jl d.ok (kY c)).2
   | false=>grind [RA.exp,qw]
  have u:=o1.lt e;exact ⟨by rw[o1.eq e,k4],by omega,s,b,v,k1,k2,r,by omega⟩
end
abbrev JY:Nm := [100,111]
abbrev QJ:Nm := [119,104,101,110]
section
variable {A:RA} {l:List ByteArray} {F:MF} {m:Mo} {n:ByteArray} {es ls:List Nm} {I:Int} {mr:List Int} {vs:List Vr} {ms:List Mv} {b:Bool}
def usL (F:MF) (m:l.length<1000000000000) (h:A.ok) (Z:A.N<=40000):∃ B b d,Le A B/\b.length<=20000/\d.length<=20000/\(B.e=0->b=d/\2*b.length+B.N<=A.N+1/\∃ w,FY l b w/\w+B.W<=A.W+2/\2<=w) /\
 (∀ o,SS.CC 203 [.ptr 0 0,.func (.func 272) [] [.ptr 1 0,.ptr 2 0]] [aA A.v,some [.ptr 3 0],kN (oU o []),lh (0,dG l,())]=some (.tuple [],[aA B.v,some [.ptr 3 0],kN (oU o b),lh (0,dG l,())])) /\
 (∀ o,SS.CC 203 [.ptr 0 0,.func (.func 288) [] [.ptr 1 0,.ptr 2 0]] [aA A.v,some [.ptr 3 0],kN (oU o []),kW (P.md F (dG l) 0)]=some (.tuple [],[aA B.v,some [.ptr 3 0],kN (oU o d),kW (P.md F (dG l) 0)])):=by
 obtain ⟨A1,q,r,n,a1,a2,a3⟩:=upS m h;obtain ⟨B,y,t,u,x,a,E,G,H⟩:=uC (C:=fun A b o=>a4M A.v (oU o b) (0,dG l,())) (L:=fun A b o=>a4K A.v (oU o b) (P.md F (dG l) 0))
  (P:=fun B (y z:List (Int×EX))=>y.length<=20000/\z.length<=20000/\(B.e=0->y=z/\2*y.length+B.N<=A.N+1/\∃ w,FY l y w/\w+B.W<=A.W+2/\2<=w))
  (fun B y z a p c=>⟨funext fun o=>Gj a c rfl (aRQ _ _ _),funext fun o=>Gj a c rfl (aRO _ _ _)⟩)
  (fun B y z a p he c=>by
   obtain ⟨I,J,K⟩:=p;obtain ⟨rfl,h5,w,h6,h7,h9⟩:=K he;have hk:=kY c;have M:=jl a hk;have h4:=FT a.next M.1;have h8:B.next.W+2=B.W:=oW a c;obtain ⟨D,O,Q,S,T,U,V⟩:=upS m a.next;refine ⟨D,y ++ [O],y ++ [Q],?_,?_,S,by simp; omega,by simp; omega,fun e => ?_⟩
   .exact funext fun o=>(Gl a c (aRQ _ _ _)).trans (aK7 (T o y I))
   .exact funext fun o=>(Gl a c (aRO _ _ _)).trans (aK5 (U o y J))
   .obtain ⟨f,X,s,k,v,g,i,j,Y⟩:=V e;exact ⟨by rw[f],by simp; omega,_,b2U g i j h6,by omega,by omega⟩)
  A1 [q] [r] n.ok ⟨by simp,by simp,fun e=>by obtain ⟨f,X,s,k,v,g,i,j,Y⟩:=a3 e;exact ⟨by rw[f],by simp; omega,_,⟨s,k,v,0,g,i,j,rfl,rfl⟩,by omega,by omega⟩⟩
 refine ⟨B,y,t,n.trans a,E,G,H,fun o => ?_,fun o => ?_⟩
 .rw[bNC,aK7 (a1 o [] (by simp))]; exact congrFun u o
 .rw[bN6,aK5 (a2 o [] (by simp))]; exact congrFun x o
def UpR (l:List ByteArray) (a:List (Int×EX)) (w:Nat):Prop:=a = []/\w=0\/∃ u,FY l a u/\2<=u/\w=u+1
theorem doS (h:A.ok) (y:A.N<=40000) (hv:vs.length<=20000) (z:ms.length<=20000):∃ C a d,Le A C /\
 (∀ f e t x,OA (0,aJ (vs.map (·.n)),()) (tQ n es ls I mr vs ms) A.v f e t (ev x).1 (ev x).2.1 (ev x).2.2.1 (ev x).2.2.2.1=some (.tuple [],[ah (0,aJ (vs.map (·.n)),()),dP (tQ n es ls I mr vs (ms ++ [⟨f,e,t,x,a⟩])),aA C.v])) /\
 (∀ f e t x,a4Y (cO m (aJ (vs.map (·.n)))) A.v f e t (ev x).1 (ev x).2.1 (ev x).2.2.1 (ev x).2.2.2.1=some (A9 (sU ⟨f,e,t,x,d⟩),[aO (cO m (aJ (vs.map (·.n)))),aA C.v])) /\
 (C.e=0->a=d/\a.length<=20000/\C.N<A.N/\∃ w,UpR (dB (vs.map (·.n))) a w/\w+2+C.W<=A.W):=by
 have i:(dB (vs.map (·.n))).length<1000000000000:=by grind
 cases c:A.is JY with
 | false =>
  have b:=Le.exp h [59];refine ⟨A.exp [59],[],[],b,fun f e t x => ?_,fun f e t x => ?_,fun e=>⟨rfl,by simp,?_,0,.inl ⟨rfl,rfl⟩,?_⟩⟩
  .rw[aRG];show bW 87 [.ptr 0 0,.str ⟨JY.toArray⟩] [aA A.v] _=_;rw[bY (jL h ⟨JY.toArray⟩)];rw[c,mY c,aRH,bg (fA h _),aQ (di (by rw[aZ]; omega))];simp
  .rw[aS1];show bW 87 [.ptr 0 0,.str ⟨JY.toArray⟩] [aA A.v] _=_;rw[bY (jL h ⟨JY.toArray⟩)];rw[c,mY c,aS0,bg (fA h _)];rfl
  grind [RA.exp,jl,kY,qw]
  .have:(A.exp [59]).W+2=A.W:=o9 h e;omega
 | true =>
  have j:=h.next;have l:=jl h (kY c);obtain ⟨B,a,d,k1,k2,o,k3,g,p⟩:=usL (bs m.n,m.es.map wK,m.ts.map wM,m.cs.map dN,m.rs.map dN,m.xs.map wL,m.ks.map oZ) i j (by omega);have b:=Le.exp k1.ok [59];refine ⟨B.exp [59],a,d,((Le.next h).trans k1).trans b,fun f e t x => ?_,fun f e t x => ?_,fun e => ?_⟩
  .rw[aRG];show bW 87 [.ptr 0 0,.str ⟨JY.toArray⟩] [aA A.v] _=_;rw[bY (jL h ⟨JY.toArray⟩)];rw[c,qc c];refine (b4Z (g (f,e,t,(ev x).1,(ev x).2.1,(ev x).2.2.1,(ev x).2.2.2.1,[],()))).trans ?_;rw[aRH,bg (fA k1.ok _),aQ (di (by rw[aZ]; omega))];rw[show tQ n es ls I mr vs (ms ++ [⟨f,e,t,x,a⟩])=(n,aJ ls,aJ es,[],0,I,fP mr,vs.map jI,ms.map sN ++ [sN ⟨f,e,t,x,a⟩],()) from by simp]
  .rw[aS1];show bW 87 [.ptr 0 0,.str ⟨JY.toArray⟩] [aA A.v] _=_;rw[bY (jL h ⟨JY.toArray⟩)];rw[c,qc c];refine (b4X (p (f,e,t,(ev x).1,(ev x).2.1,(ev x).2.2.1,(ev x).2.2.2.1,[],()))).trans ?_;rw[aS0,bg (fA k1.ok _)]
  .have g:=b.e0 e;obtain ⟨q,D,w,r,E,u⟩:=k3 g;have w1:A.next.W+3=A.W:=oW h c;have w2:(B.exp [59]).W+2=B.W:=o9 k1.ok e;have F:=k1.le;have G:=b.le;exact ⟨q,k2,by omega,w+1,.inr ⟨w,r,u,rfl⟩,by omega⟩
def GdR (l:List ByteArray) (g:EX) (w:Nat):Prop:=g=tE/\w=0\/∃ k u,jX l k 0 g u/\w=u+5
structure Qy (L E l:List ByteArray) (x:Mv) (w:Nat):Prop where
 us:x.us.length<=20000
 ex:∃ a b c g u,(0<=x.f/\L[x.f.toNat]? = some a)/\(0<=x.e/\E[x.e.toNat]? = some b)/\(0<=x.t/\L[x.t.toNat]? = some c)/\GdR l x.g g/\UpR l x.us u/\w=wl a.data.toList+wl b.data.toList+wl c.data.toList+g+u+5
theorem edS (h:A.ok) (S:A.N<=40000) (hL:ls.length<=20000) (hE:es.length<=20000) (hv:vs.length<=20000) (T:ms.length<=20000):∃ C x y,Le A C /\
 (∀ v,SS.CC 198 [.ptr 0 0,.ptr 1 0] [ah (0,v,()),dP (tQ n es ls I mr vs ms),aA A.v]=some (.tuple [],[ah (0,aJ (vs.map (·.n)),()),dP (tQ n es ls I mr vs (ms ++ [x])),aA C.v])) /\
 SS.CC 246 [.ptr 0 0,A5 (tQ n es ls I mr vs ms)] [aO (cO m (aJ (vs.map (·.n)))),aA A.v]=some (A9 (sU y),[aO (cO m (aJ (vs.map (·.n)))),aA C.v]) /\
 (C.e=0->x=y/\C.N<A.N/\∃ w,Qy (dB ls) (dB es) (dB (vs.map (·.n))) x w/\w+C.W<=A.W):=by
 have U:(dB (vs.map (·.n))).length<1000000000000:=by grind
 have b:(dB ls).length<1000000000000:=by grind
 have j:(dB es).length<1000000000000:=by grind
 have l:=Le.kn h (dB ls);have i:=Le.kn l.ok (dB es);have a:=Le.kn i.ok (dB ls);have o:=(l.trans i).trans a;have B:(((A.kn (dB ls)).kn (dB es)).kn (dB ls)).N<=40000:=jO o.le S;have X:∃ C x y,Le (((A.kn (dB ls)).kn (dB es)).kn (dB ls)) C /\
  (∀ (K:Sh.V eY->Sh.V aC->Int->Int->Int->List PV->R),(bW 87 [.ptr 0 0,.str ⟨QJ.toArray⟩] [aA (((A.kn (dB ls)).kn (dB es)).kn (dB ls)).v] fun E p=>aB E (zZ 37 [.ptr 0 0] [bH (0,aJ (vs.map (·.n)),()),aA p] fun d G H=>K G H d.1 d.2.1 d.2.2.1 d.2.2.2.1) (K (0,aJ (vs.map (·.n)),()) p (ev tE).1 (ev tE).2.1 (ev tE).2.2.1 (ev tE).2.2.2.1))=K (0,aJ (vs.map (·.n)),()) C.v (ev x).1 (ev x).2.1 (ev x).2.2.1 (ev x).2.2.2.1) /\
  (∀ (K:Sh.V bF->Sh.V aC->Int->Int->Int->List PV->R),(bW 87 [.ptr 0 0,.str ⟨QJ.toArray⟩] [aA (((A.kn (dB ls)).kn (dB es)).kn (dB ls)).v] fun J q=>aB J (qK 287 [.ptr 0 0] [aO (cO m (aJ (vs.map (·.n)))),aA q] fun f Y Z=>K Y Z f.1 f.2.1 f.2.2.1 f.2.2.2.1) (K (cO m (aJ (vs.map (·.n)))) q (ev tE).1 (ev tE).2.1 (ev tE).2.2.1 (ev tE).2.2.2.1))=K (cO m (aJ (vs.map (·.n)))) C.v (ev y).1 (ev y).2.1 (ev y).2.2.1 (ev y).2.2.2.1) /\
  (C.e=0->x=y/\∃ w,GdR (dB (vs.map (·.n))) x w/\w+C.W<=(((A.kn (dB ls)).kn (dB es)).kn (dB ls)).W):=by
  cases c:(((A.kn (dB ls)).kn (dB es)).kn (dB ls)).is QJ with
  | false =>
   refine ⟨_,tE,tE,.refl a.ok,fun K => ?_,fun K => ?_,fun e=>⟨rfl,0,.inl ⟨rfl,rfl⟩,by omega⟩⟩
   .rw[bY (jL a.ok ⟨QJ.toArray⟩)];grind [aF,mY]
   .rw[bY (jL a.ok ⟨QJ.toArray⟩)];grind [aF,mY]
  | true =>
   obtain ⟨C,x,y,L,z,o1⟩:=(P.b0Q (F:=(bs m.n,m.es.map wK,m.ts.map wM,m.cs.map dN,m.rs.map dN,m.xs.map wL,m.ks.map oZ)) U (((A.kn (dB ls)).kn (dB es)).kn (dB ls)).next.N).2 0 (by decide) (by decide) _ a.ok.next (dO _);refine ⟨C,x,y,(Le.next a.ok).trans o1.toLe,fun K => ?_,fun K => ?_,fun e => ?_⟩
   .rw[bY (jL a.ok ⟨QJ.toArray⟩)];rw[c,qc c];exact zf L
   .rw[bY (jL a.ok ⟨QJ.toArray⟩)];rw[c,qc c];exact zY z
   .obtain ⟨k,u,r,hw⟩:=o1.rd e;have w1:(((A.kn (dB ls)).kn (dB es)).kn (dB ls)).next.W+5=(((A.kn (dB ls)).kn (dB es)).kn (dB ls)).W:=oW a.ok c;exact ⟨o1.eq e,_,.inr ⟨k,u,r,rfl⟩,by omega⟩
 obtain ⟨C,x,y,t,g2,g3,g4⟩:=X;obtain ⟨D,us,oq,M,d2,d3,d4⟩:=doS (m:=m) (n:=n) (es:=es) (ls:=ls) (I:=I) (mr:=mr) t.ok (jO t.le B) hv T;refine ⟨D,⟨A.yA (dB ls),(A.kn (dB ls)).yA (dB es),((A.kn (dB ls)).kn (dB es)).yA (dB ls),x,us⟩,⟨kX (bs (A.kp (dB ls)).iI) (dB ls) 0,kX (bs ((A.kn (dB ls)).kp (dB es)).iI) (dB es) 0,kX (bs (((A.kn (dB ls)).kn (dB es)).kp (dB ls)).iI) (dB ls) 0,y,oq⟩,(o.trans t).trans M,fun v => ?_,?_,fun e => ?_⟩
 .rw[bMM,eG g_];rw[FO (P.Tn h _ (dB ls) b)];rw[FO (P.Tn l.ok _ (dB es) j)];rw[FO (P.Tn i.ok _ (dB ls) b)];rw[nS (aJA vs hv)];simp_all
 .rw[bOU,eG g_];rw[FM (P.Ry h _ (dB ls) b)];rw[FM (P.Ry l.ok _ (dB es) j)];rw[FM (P.Ry i.ok _ (dB ls) b)];simp_all
 .have O:=M.e0 e;have Q:=t.e0 O;have z:=a.e0 Q;have L:=i.e0 z;obtain ⟨s1,a1,a2,a3,a4,a5⟩:=Y1 h L;obtain ⟨s2,b1,b2,b3,b4,b5⟩:=Y1 l.ok z;obtain ⟨s3,c1,c2,c3,c4,c5⟩:=Y1 i.ok Q;obtain ⟨q1,g,q2,q3⟩:=g4 O;obtain ⟨r1,r2,r3,u,r4,r5⟩:=d4 e;have n1:=t.le;refine ⟨by rw[a4,b4,c4,q1,r1],by omega,_,⟨r2,s1,s2,s3,g,u,⟨a1,a2⟩,⟨b1,b2⟩,⟨c1,c2⟩,q2,r4,rfl⟩,by omega⟩
end
def a6C {l:List O} (x:List O) {a:O} (h:l[i]? = some a):(l ++ x)[i]? = some a:=by rw[Ba (jr.1 h).1]; exact h
def a_1 (k:List ByteArray) (h:jX b9 D p y i):jX (b9 ++ k) D p y i:=by
 induction h with
 | num f d=>exact .num f d
 | tt=>exact .tt
 | ff=>exact .ff
 | var f d=>exact .var f (a6C k d)
 | sJ _ e=>exact .sJ e
 | UC f d=>exact .UC f d
 | neg _ e=>exact .neg e
 | par _ e=>exact .par e
 | up _ d m e=>exact .up e d m
 | bin g _ _ a c=>exact .bin g a c
 | cmp g _ _ a c=>exact .cmp g a c
 | ite _ _ _ a c j=>exact .ite a c j
def b2W {l:List ByteArray} (k:List ByteArray):∀ {a:List (Int×EX)} {w:Nat},FY l a w->FY (l ++ k) a w
 | [],_,h=>h
 | u::a,w,⟨s,b,v,r,a0,a1,a2,a3,e⟩=>⟨s,b,v,r,a0,a6C k a1,a_1 k a2,b2W k a3,e⟩
def b'S {E l:List ByteArray} (d f:List ByteArray) {x:Mv} (h:Qy b9 E l x i):Qy (b9 ++ d) E (l ++ f) x i:=by
 obtain ⟨j,a,b,c,g,u,⟨a1,a2⟩,m,⟨n,o⟩,p,q,e⟩:=h;refine ⟨j,a,b,c,g,u,⟨a1,a6C d a2⟩,m,⟨n,a6C d o⟩,?_,?_,e⟩
 .rcases p with h | ⟨k,v,h,e⟩
  .exact .inl h
  .exact .inr ⟨k,v,a_1 f h,e⟩
 .rcases q with h | ⟨v,h,e⟩
  .exact .inl h
  .exact .inr ⟨v,b2W f h,e⟩
def Hy (L E l:List ByteArray):List Mv->Nat->Prop
 | [],w=>w=0
 | x::a,w=>∃ u r,Qy L E l x u/\Hy L E l a r/\w=u+5+r
def aE' {L E l:List ByteArray} (a b:List ByteArray):∀ {c:List Mv} {w:Nat},Hy L E l c w->Hy (L ++ a) E (l ++ b) c w
 | [],_,h=>h
 | x::c,w,⟨u,r,d,f,e⟩=>⟨u,r,b'S a b d,aE' a b f,e⟩
def aZ2 {L E l:List ByteArray} {x:Mv} {u:Nat} (c:Qy L E l x u):∀ {b:List Mv} {w:Nat},Hy L E l b w->Hy L E l (b ++ [x]) (w+(u+5))
 | [],w,h=>by have h:w=0:=h;exact ⟨u,0,c,rfl,by omega⟩
 | a::b,w,⟨v,r,d,f,e⟩=>⟨v,_,d,aZ2 c f,by omega⟩
def xI:List Nm->Nat
 | []=>0
 | s::l=>wl s+12+xI l
theorem aYA (s:Nm):∀ l:List Nm,xI (l ++ [s])=xI l+(wl s+12)
 | []=>by simp[xI]
 | a::l=>by rw[pF,xI,xI,aYA s l]; omega
def zN:List Vr->Nat
 | []=>0
 | v::l=>vw v+4+zN l
theorem b34 (v:Vr):∀ l:List Vr,zN (l ++ [v])=zN l+(vw v+4)
 | []=>by simp[zN]
 | a::l=>by rw[pF,zN,zN,b34 v l]; omega
structure TS where
 ls:List Nm
 I:Int
 mr:List Int
 vs:List Vr
 ms:List Mv
 b:Bool
abbrev TS.q (n:ByteArray) (es:List Nm) (y:TS):Sh.V dW:=tQ n es y.ls y.I y.mr y.vs y.ms
structure TS.Ok (y:TS):Prop where
 ls:y.ls.length<=20000
 mr:y.mr.length<=20000
 vs:y.vs.length<=20000
 ms:y.ms.length<=20000
structure TS.Gd (es:List Nm) (y:TS) (N W:Nat) (A:RA):Prop where
 mr:y.mr.length<=y.ls.length
 n:2*(y.ls.length+y.vs.length+y.ms.length)+A.N<=N
 w:∃ u,Hy (dB y.ls) (dB es) (dB (y.vs.map (·.n))) y.ms u/\xI y.ls+7*y.mr.length+(if y.b then 8 else 0)+zN y.vs+u+A.W<=W
def aZH (l k:List Nm):dB (l ++ k)=dB l ++ dB k:=by simp
section
variable {A:RA} {m:Mo} {n:ByteArray} {es:List Nm}
def b53 (v:List PV) (y:TS) (h:A.ok) (e:A.e=0) (c:A.is [125]=false):∃ X,Az (0,v,()) (aV m) A.v (y.q n es) y.b=X /\
 (A.is xZ=true->X=H80 196 [.ptr 0 0,.ptr 1 0,.ptr 2 0] [gu (0,v,()),dP (y.q n es),jR (y.b,()),aA A.next.v] fun _ l o p r=>Az l (aV m) r o p.1) /\
 (A.is xZ=false->A.is yO=true->X=VZ 197 [.ptr 0 0,.ptr 1 0] [ah (0,v,()),dP (y.q n es),aA A.next.v] fun _ a d f=>Az a (aV m) f d y.b) /\
 (A.is xZ=false->A.is yO=false->A.is Ew=true->X=VZ 198 [.ptr 0 0,.ptr 1 0] [ah (0,v,()),dP (y.q n es),aA A.next.v] fun _ a d f=>Az a (aV m) f d y.b) /\
 (A.is xZ=false->A.is yO=false->A.is Ew=false->X=Az (0,v,()) (aV m) (A.fail 14).v (y.q n es) y.b):=by
 refine ⟨_,rfl,fun g => ?_,fun g i => ?_,fun g i j => ?_,fun g i j => ?_⟩;all_goals
  rw[aC2,Jm (wX _ A)];rw[show (A.e==0)=true by simp[e],aI,bY (uX h ⟨#[125]⟩)];rw[c,su,aI];show bW 87 [.ptr 0 0,.str ⟨xZ.toArray⟩] [aA A.v] _=_;rw[bY (jL h ⟨xZ.toArray⟩)];rw[g]
 .rw[aI,qc g]
 all_goals
  rw[aF,mY g];show bW 87 [.ptr 0 0,.str ⟨yO.toArray⟩] [aA A.v] _=_;rw[bY (jL h ⟨yO.toArray⟩)];rw[i]
 .rw[aI,qc i]
 all_goals
  rw[aF,mY i];show bW 87 [.ptr 0 0,.str ⟨Ew.toArray⟩] [aA A.v] _=_;rw[bY (jL h ⟨Ew.toArray⟩)];rw[j]
 .rw[aI,qc j]
 .rw[aF,mY j,bg (lu h 14)]
theorem bYL {f:List Nm} {g:List Int} {i:List Vr} {d:List Mv} {q:Sh.V bF} (h:A.ok) (e:A.e=0) (c:A.is [125]=false) (j:A.is xZ=false) (l:A.is yO=false) (m:A.is Ew=true) (r:d.length<=20000) {y:Mv} {a:RA}
 (o:SS.CC 246 [.ptr 0 0,A5 (tQ n es f p g i d)] [aO q,aA A.next.v]=some (A9 (sU y),[aO q,aA a.v])):ry q A.v (tQ n es f p g i d) D=ry q a.v (tQ n es f p g i (d ++ [y])) D:=by
 rw[a3X];dsimp only[fV];rw[Dj (P.Bq _ A)];rw[show (A.e != 0)=false by simp[e],su,aI,bY (jL h ⟨#[125]⟩)];rw[c,su,aI,mY c];show bW 87 [.ptr 0 0,.str ⟨xZ.toArray⟩] [aA A.v] _=_;rw[bY (jL h ⟨xZ.toArray⟩)];rw[j,aF,mY j];show bW 87 [.ptr 0 0,.str ⟨yO.toArray⟩] [aA A.v] _=_;rw[bY (jL h ⟨yO.toArray⟩)];rw[l,aF,mY l];show bW 87 [.ptr 0 0,.str ⟨Ew.toArray⟩] [aA A.v] _=_;rw[bY (jL h ⟨Ew.toArray⟩)];rw[m,aI,qc m];repeat rw[tV]
 rw[b4M o];grind [aQ,di]
end
theorem aNK (e:j.e≠0) (x:List UInt8):j.exp x=j:=by grind [RA.exp,aDF,aBI]
theorem bAN {x:List UInt8} (c:j.is x=true):j.exp x=j.next:=by grind [RA.exp]
abbrev TS.z:TS:=⟨[],0,[],[],[],false⟩
section
variable {A:RA} {m:Mo} {n:ByteArray} {es:List Nm}
theorem b6Z (v:List PV) (J:es.length<=20000) (h:A.ok) (hN:A.N<=40000):∃ (B:RA) (y z:TS) (K:List PV),Le A B/\y.Ok/\z.Ok/\((B.exp [125]).e=0->y=z/\y.Gd es A.N A.W B) /\
 Az (0,v,()) (aV m) A.v (TS.z.q n es) false=SQ (0,K,()) (aV m) B.v (y.q n es) /\
 ry (cO m []) A.v (TS.z.q n es) false=SY (cO m (aJ (z.vs.map (·.n)))) (B.exp [125]).v (z.q n es) :=
 loops (C:=fun B (y:TS×List PV)=>Az (0,y.2,()) (aV m) B.v (y.1.q n es) y.1.b) (L:=fun B (z:TS)=>ry (cO m (aJ (z.vs.map (·.n)))) B.v (z.q n es) z.b)
  (P:=fun B y z=>y.1.Ok/\z.Ok/\Le A B/\(B.e=0->y.1=z/\y.1.Gd es A.N A.W B))
  (Q:=fun r s=>∃ (B:RA) (y z:TS) (K:List PV),Le A B/\y.Ok/\z.Ok/\((B.exp [125]).e=0->y=z/\y.Gd es A.N A.W B)/\r=SQ (0,K,()) (aV m) B.v (y.q n es)/\s=SY (cO m (aJ (z.vs.map (·.n)))) (B.exp [125]).v (z.q n es))
  (fun B y z a t=>by
   obtain ⟨⟨y,v⟩,d,S,f,E⟩:∃ F:TS×List PV,F.1.Ok/\z.Ok/\Le A B/\(B.e=0->F.1=z/\F.1.Gd es A.N A.W B)/\y=F:=⟨y,t.1,t.2.1,t.2.2.1,t.2.2.2,rfl⟩;obtain ⟨E,rfl⟩:=E;dsimp only at d E ⊢;by_cases e:B.e=0
   .obtain ⟨rfl,M,U,u,G,V⟩:=E e;cases c:B.is [125] with
    | true =>
     refine .inl ⟨B,y,y,v,f,d,S,fun _=>⟨rfl,M,U,u,G,V⟩,?_,?_⟩
     .rw[aC2,Jm (wX _ B)];rw[show (B.e==0)=true by simp[e],aI,bY (uX a ⟨#[125]⟩)];simp_all
     .rw[a3X];dsimp only[fV];rw[Dj (P.Bq _ B)];rw[show (B.e != 0)=false by simp[e],su,aI,bY (jL a ⟨#[125]⟩)];grind [aF,qc,bAN]
    | false =>
     have hn:=FT a e;obtain ⟨X,Z,x1,x2,x3,x4⟩:=b53 (m:=m) (n:=n) (es:=es) v y a e c;rw[Z];cases j:B.is xZ with
     | true =>
      have l:=(jl a (kY j)).2;have w1:B.next.W+9=B.W:=oW a j;have i:=bZE a.next y.ls y.b;have o:y.ls.length<=19999:=by have:=FT a.next (jl a (kY j)).1; omega
      refine .inr ⟨B.next.ER y.ls y.b,(⟨y.ls ++ [B.next.gy y.ls],bif (B.next.add y.ls).is pY && !y.b then (y.ls.length:Int) else y.I,B.next.GZ y.ls y.b y.mr,y.vs,y.ms,y.b||(B.next.add y.ls).is pY⟩,v),⟨y.ls ++ [B.next.gy y.ls],bif (B.next.add y.ls).is pY then (y.ls.length:Int) else y.I,B.next.GZ y.ls y.b y.mr,y.vs,y.ms,y.b||(B.next.add y.ls).is pY⟩,?_,?_,i.ok,⟨?_,?_,f.trans ((Le.next a).trans i),fun g => ?_⟩,?_⟩
      .rw[x1 j];exact b4T (lcC _ d.ls d.mr a.next)
      grind [lcL]
      .refine ⟨by simp; omega,?_,d.vs,d.ms⟩;grind [RA.GZ]
      .refine ⟨by simp; omega,?_,d.vs,d.ms⟩;grind [RA.GZ]
      .obtain ⟨k1,k2,k3⟩:=bZA a.next g;refine ⟨?_,?_,?_,u,?_,?_⟩;grind
       grind [RA.GZ]
       grind
       .dsimp only;rw[aZH];have:=aE' (dB [B.next.gy y.ls]) [] G;rwa [DY] at this
       grind [aYA,RA.GZ]
      .have:=i.le; omega
     | false =>
      cases p:B.is yO with
      | true =>
       have l:=(jl a (kY p)).2;have w1:B.next.W+4=B.W:=oW a p;have i:=bZF a.next (y.vs.map (·.n));have o:y.vs.length<=19999:=by have:=FT a.next (jl a (kY p)).1; omega
       refine .inr ⟨B.next.DK (y.vs.map (·.n)),(⟨y.ls,y.I,y.mr,y.vs ++ [B.next.xY (y.vs.map (·.n))],y.ms,y.b⟩,v),⟨y.ls,y.I,y.mr,y.vs ++ [B.next.xY (y.vs.map (·.n))],y.ms,y.b⟩,?_,?_,i.ok,⟨⟨d.ls,d.mr,by simp; omega,d.ms⟩,⟨d.ls,d.mr,by simp; omega,d.ms⟩,f.trans ((Le.next a).trans i),fun g => ?_⟩,?_⟩
       .rw[x2 j p];exact aKM (vrC _ d.vs a.next)
       grind [vrL]
       .obtain ⟨k1,k2⟩:=cA7 a.next g;refine ⟨rfl,M,?_,u,?_,?_⟩;grind
        .dsimp only;rw[pq,aZH];have:=aE' [] (dB ([B.next.xY (y.vs.map (·.n))].map (·.n))) G;rwa [DY] at this
        grind [b34]
       .have:=i.le; omega
      | false =>
       cases H:B.is Ew with
       | true =>
        have l:=(jl a (kY H)).2;have w1:B.next.W+5=B.W:=oW a H;have o:y.ms.length<=19999:=by have:=FT a.next (jl a (kY H)).1; omega
        obtain ⟨D,x,x',O,d2,d3,d4⟩:=edS (m:=m) (n:=n) (I:=y.I) (mr:=y.mr) a.next (by have:=f.le; omega) d.ls J d.vs d.ms;refine .inr ⟨D,(⟨y.ls,y.I,y.mr,y.vs,y.ms ++ [x],y.b⟩,aJ (y.vs.map (·.n))),⟨y.ls,y.I,y.mr,y.vs,y.ms ++ [x'],y.b⟩,?_,?_,O.ok,⟨⟨d.ls,d.mr,d.vs,by simp; omega⟩,⟨d.ls,d.mr,d.vs,by simp; omega⟩,f.trans ((Le.next a).trans O),fun g => ?_⟩,?_⟩
        .rw[x3 j p H];exact aKM (d2 v)
        grind [bYL]
        .obtain ⟨k1,k2,w,k3,k4⟩:=d4 g;refine ⟨by simp_all,M,?_,_,aZ2 k3 G,?_⟩;grind
         grind
        .have:=O.le; omega
       | false =>
        have T:(B.fail 14).e≠0:=qw (by decide);refine .inr ⟨B.fail 14,(y,v),y,?_,?_,a.fail 14,⟨d,d,f.trans (Le.fail a (by decide)),fun g=>absurd g T⟩,by rw[Ve T]; omega⟩;simp_all
        .obtain ⟨Y,y1,-,-,y2⟩:=aE3 (n:=n) (es:=es) (ls:=y.ls) (I:=y.I) (mr:=y.mr) (vs:=y.vs) (ms:=y.ms) (b:=y.b) (q:=cO m (aJ (y.vs.map (·.n)))) a e c;simp_all
   .refine .inl ⟨B,y,z,v,f,d,S,fun g=>by rw[aNK e] at g; omega,?_,?_⟩
    .rw[aC2,Jm (wX _ B)];grind [aF]
    .rw[a3X];dsimp only[fV];rw[Dj (P.Bq _ B)];grind [aF,aNK])
  A (TS.z,v) TS.z h ⟨⟨by simp,by simp,by simp,by simp⟩,⟨by simp,by simp,by simp,by simp⟩,.refl h,fun e=>⟨rfl,by simp,by simp,0,rfl,by simp[xI,zN]⟩⟩
end
section
variable {A:RA} {m:Mo} {n:ByteArray} {es:List Nm}
def evP (q:Sh.V jg) (z:Sh.V jf) (n:ByteArray) (h:A.ok) (d:A.N<=40000):∃ C l,Le (A.exp [40]) C/\l.length<=20000/\(C.e=0->2*l.length+C.N<=(A.exp [40]).N+1/\nw l-2+C.W<=(A.exp [40]).W) /\
 SS.CC 194 [.ptr 0 0,.func (.func 195) [] [.ptr 1 0,.ptr 2 0]] [gu q,dP (zH n []),some [.ptr 0 0],aA A.v]=some (.tuple [],[gu q,dP (zH n l),some [.ptr 0 0],aA (C.exp [41]).v]) /\
 (∀ (J:Sh.V jf->Sh.V aC->Sh.V dW->R),aB (!(A.exp [40]).is [41]) (H70 203 [.ptr 0 0,.func (.func 244) [] [.ptr 1 0,.ptr 2 0]] [aA (A.exp [40]).v,dP (zH n []),some [.ptr 3 0],kW z] fun _ u v w=>J w u v) (J z (A.exp [40]).v (zH n []))=J z C.v (zH n l)):=by
 have a:=Le.exp h [40];cases c:(A.exp [40]).is [41] with
 | true =>
  refine ⟨A.exp [40],[],.refl a.ok,by simp,fun _=>⟨by simp,by simp[nw]⟩,?_,fun J => ?_⟩
  .rw[aRE,bg (fA h _)];rw[bY (uX a.ok ⟨#[41]⟩)];rw[c,ut,aF,bg (fA a.ok _)]
  rfl
 | false =>
  obtain ⟨C,l,f,g,b,i,j⟩:=bAI q z n a.ok (jO a.le d);refine ⟨C,l,b,i,fun e=>⟨(j e).1,by omega⟩,?_,fun J => ?_⟩
  .rw[aRE,bg (fA h _)];rw[bY (uX a.ok ⟨#[41]⟩)];rw[c,su];refine (b4Y f).trans ?_;rw[bg (fA b.ok _)]
  .exact b4L g
theorem c4S (k:Nat):pV (k+1)=pV k ++ [(k:Int)]:=by grind [pV,List.range_succ]
def c4Q (k:Nat):(fP (pV k)).length=k:=by simp[pV]
def TmR (t:Tm) (w:Nat):Prop:=∃ (s:Nm) (es:List Nm) (y:TS) (u:Nat),t=⟨s,y.ls,es,pV es.length,(y.ls.length:Int),y.I,y.mr,y.vs,y.ms⟩/\es.length<=20000/\y.Ok/\y.mr.length<=y.ls.length /\
 Hy (dB y.ls) (dB es) (dB (y.vs.map (·.n))) y.ms u/\w=wl s+(nw es-2)+9+xI y.ls+7*y.mr.length+(if y.b then 8 else 0)+zN y.vs+u
theorem b4' (v:List PV) {B:RA} (a:B.ok) (y:TS) (s:Nm) (b:es.length<=20000) (d:m.ts.length<=20000):SQ (0,v,()) (aV m) B.v (y.q (bs s) es) =
 some (.tuple [],[ah (0,v,()),bU (aV { m with ts:=m.ts ++ [⟨s,y.ls,es,pV es.length,(y.ls.length:Int),y.I,y.mr,y.vs,y.ms⟩] }),aA (B.exp [125]).v]):=by
 rw[bJ1,bg (fA a _)];have c:SS.CC 199 [.int .i64 (((aJ es).length:Nat):Int)] []=some (.sl false 1 (fP (pV es.length)),[]):=by rw[fJ]; grind [aZS]
 rw[vk c,aQ (di (by rw[aZ]; omega))];grind [fJ]
theorem b51 (w:List PV) {D:RA} (y:TS) (s:Nm) (a:es.length<=20000) (c:m.ts.length<=20000):SY (cO m w) D.v (y.q (bs s) es) =
 some (.tuple [],[aO (cO { m with ts:=m.ts ++ [⟨s,y.ls,es,pV es.length,(y.ls.length:Int),y.I,y.mr,y.vs,y.ms⟩] } w),aA D.v]):=by
 rw[bL3];have b:=lS (n:=es.length) (E:=some (.tuple [],[aO (cO { m with ts:=m.ts ++ [⟨s,y.ls,es,pV es.length,(y.ls.length:Int),y.I,y.mr,y.vs,y.ms⟩] } w),aA D.v]))
  (L:=fun k=>a3Y (cO m w) D.v (bs s) (aJ y.ls) (aJ es) (fP (pV k)) y.I (fP y.mr) (y.vs.map jI) (y.ms.map sN) (k:Int)) (fun k hk=>by
   rw[aR0,aK (by rw[fJ]; omega),aI,aQ (di (by rw[c4Q]; omega)),c4S,aWP,bK (by omega)]) (by
   rw[aR0,aU (by rw[fJ]; omega),aF,aQ (di (by rw[aZ]; omega))];grind [fJ])
 exact b
def tmS (v w:List PV) (h:A.ok) (x:A.N<=40000) (g:m.ts.length<=20000):∃ D t E o M,Le A D/\(D.e=0->t=E/\D.N<A.N/\∃ u,TmR t u/\u+D.W<=A.W) /\
 SS.CC 92 [.ptr 0 0,.ptr 1 0] [ah (0,v,()),bU (aV m),aA A.v]=some (.tuple [],[ah (0,o,()),bU (aV { m with ts:=m.ts ++ [t] }),aA D.v]) /\
 SS.CC 162 [.ptr 0 0] [aO (cO m w),aA A.v]=some (.tuple [],[aO (cO { m with ts:=m.ts ++ [E] } M),aA D.v]):=by
 have F:(m.ts.map (·.n)).length<=20000:=by rw[aZ]; exact g
 have f:=Le.add h (m.ts.map (·.n));obtain ⟨C,l,k1,k2,k3,O,Q⟩:=evP (0,v,()) (cO m w) (bs (A.gy (m.ts.map (·.n)))) f.ok (jO f.le x);have p:=Le.exp f.ok [40];have d:=Le.exp k1.ok [41];have q:=Le.exp d.ok [123];have i:=(((f.trans p).trans k1).trans d).trans q;obtain ⟨B,y,z,o,j,S,oz,T,U,V⟩:=b6Z v k2 q.ok (jO i.le x);have r:=Le.exp j.ok [125];refine ⟨B.exp [125],⟨A.gy (m.ts.map (·.n)),y.ls,l,pV l.length,(y.ls.length:Int),y.I,y.mr,y.vs,y.ms⟩,⟨A.gy (m.ts.map (·.n)),z.ls,l,pV l.length,(z.ls.length:Int),z.I,z.mr,z.vs,z.ms⟩,o,aJ (z.vs.map (·.n)),(i.trans j).trans r,fun e => ?_,?_,?_⟩
 .obtain ⟨rfl,X,g2,u,Y,g4⟩:=T e;have Z:=r.e0 e;have G:=j.e0 Z;have H:=q.e0 G;have q2:=d.e0 H;have J:=k1.e0 q2;have K:=p.e0 J;have w0:=EE h K;have w1:((A.add (m.ts.map (·.n))).exp [40]).W+2=(A.add (m.ts.map (·.n))).W:=o9 f.ok J;have w3:(C.exp [41]).W+2=C.W:=o9 k1.ok H;have w4:((C.exp [41]).exp [123]).W+2=(C.exp [41]).W:=o9 d.ok G;have w5:(B.exp [125]).W+2=B.W:=o9 j.ok e;have n0:=jQ h K;have n1:=p.le;have n2:=k1.le;have n3:=d.le;have n4:=q.le;have n6:=r.le;exact ⟨rfl,by omega,_,⟨_,l,y,u,rfl,k2,S,X,Y,rfl⟩,by omega⟩
 .rw[bJ4];dsimp only[fV];rw[vk (b8X m.ts g),Ht (I5 _ F h)];refine (b4U O).trans ?_;rw[bg (fA d.ok _)];exact U.trans (b4' o j.ok y _ k2 g)
 .have hL:Si (cO m w) A.v [] 0=Si (cO m w) A.v (aJ (m.ts.map (·.n))) (m.ts.length:Int):=by
   refine lS (n:=m.ts.length) (L:=fun k=>Si (cO m w) A.v (aJ ((m.ts.take k).map (·.n))) (k:Int)) (fun k hk => ?_) ?_
   .rw[aR1];rw[aK (by rw[bz]; omega),aI,Iq hk,aQ (di (sH _ m.ts k g)),sG (·.n) m.ts hk,bK (by omega)]
   simp
  rw[bLC,hL,aR1];rw[aU (by rw[bz]; omega),Jo (KC _ F h)];rw[bg (fA f.ok _)];rw[bY (uX p.ok ⟨#[41]⟩)];refine (Q (fun a b c=>a3W a b c)).trans ?_;rw[bK',bg (fA k1.ok _)];rw[bg (fA d.ok _)];exact V.trans (b51 _ z _ k2 g)
end
end Go.Proofs.YtmbehibpfkkjbaaGreatDoor.W
end

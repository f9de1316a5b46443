/- A part of the proof. -/
import Derived.Test.YtmbehibpfkkjbaaGreatDoorPs8
import Derived.Test.YtmbehibpfkkjbaaGreatDoorPs7
import Derived.Test.YtmbehibpfkkjbaaGreatDoorPs5
import Derived.Test.YtmbehibpfkkjbaaGreatDoorPs4
set_option linter.unusedVariables false
set_option linter.defProp false
set_option linter.unusedSimpArgs false
set_option linter.unnecessarySimpa false
set_option linter.unusedSectionVars false
noncomputable section
open Go.IntKind (i64)
namespace Go.Proofs.YtmbehibpfkkjbaaGreatDoor.W
open Go.RowKit
set_option maxRecDepth 1000000
def b71 (b:Bool) (A:R):aB b A A=A:=by cases b<;>rfl
abbrev yu:Nm := [101,118,101,110,116]
abbrev CI (X:aH->R) (q:Sh.V dH) (m:Mo) (A:RA) (q':Sh.V dH) (m':Mo) (D:RA):Prop:=X [ah q,bU (aV m),aA A.v]=some (.tuple [],[ah q',bU (aV m'),aA D.v])
abbrev LI (X:aH->R) (m:Mo) (w:List PV) (A:RA) (m':Mo) (w':List PV) (D:RA):Prop:=X [aO (cO m w),aA A.v]=some (.tuple [],[aO (cO m' w'),aA D.v])
section
variable {A D:RA} {m m':Mo} {q q':Sh.V dH} {w w':List PV}
def nH {x y:List UInt8} (c:A.is x=true) (a:x≠y):A.is y=false:=by unfold RA.is at *;rw[bQ,qi] at c;rw[c.2,show (x==y)=false by simpa using a,Ez]
def EP (h:A.ok) {x:List UInt8} (a:x∉lC) (c:A.is x=true):A.pk.kind=1/\A.pk.text=x:=by rw[Tf h a,bQ,qi,qi] at c; exact c
variable {n j:Int} {e:Ins}
def Ws (h:A.ok) (e:n=j):SS.CC 159 [.int .i64 n,.int .i64 j,.ptr 0 0] [some [.ptr 1 0],dh (cO m w),aA A.v]=some (.bool true,[some [.ptr 1 0],dh (cO m w),aA (A.fail 3).v]):=by rw[aQX,show (n==j)=true by simpa using e,aI,bg (lu h 3)];rw[aQW,eX (next (h.fail 3)),aF3 (qw (by decide)),show (n==j)=true by simpa using e]
def Wq (h:A.ok) (e:n≠j):SS.CC 159 [.int .i64 n,.int .i64 j,.ptr 0 0] [some [.ptr 1 0],dh (cO m w),aA A.v]=some (.bool false,[some [.ptr 1 0],dh (cO m w),aA A.next.v]):=by rw[aQX,show (n==j)=false by simpa using e,aF,aQW,eX (next h),show (n==j)=false by simpa using e]
def sk {x:List UInt8} {F:Bool->Sh.V aC->R} (h:A.ok) {b:Bool} (c:A.is x=b):bW 161 [.ptr 0 0,.str ⟨x.toArray⟩] [aA A.v] F=F b A.v:=by rw[bY (uX h ⟨x.toArray⟩)];rw[c]
def uf {F:Bool->Sh.V aC->R} (h:A.ok) (c:A.is yu=false):bW 87 [.ptr 0 0,.str ⟨yu.toArray⟩] [aA A.v] F=F false A.v:=by rw[bY (jL h ⟨yu.toArray⟩)];rw[c,mY c]
def b8O (h:A.ok) (c:A.is CQ=true) (b:m.cs.length<32) (e:CI (SS.CC 94 [.ptr 0 0,.ptr 1 0,.ptr 1 3]) q m A.next q' m' D):CI (SS.CC 31 [.ptr 0 0,.ptr 1 0]) q m A q' m' D:=by
 obtain ⟨k1,k2⟩:=EP h (by decide) c;unfold CI;rw[Bz,eX (gJ h)];try dsimp only
 rw[k1,k2];rw[aU (by rw[aZ]; omega),eX (next h)];have a:SS.CC 93 [.ptr 0 0,.ptr 1 0] [some [.ptr 2 0],some [.ptr 3 0],mQ q,bU (aV m),aA A.next.v]=some (.tuple [],[some [.ptr 2 0],some [.ptr 3 0],mQ q',bU (aV m'),aA D.v]):=by rw[bJ5];exact (Nq e).trans rfl
 exact (Qr a).trans rfl
def b8I (h:A.ok) (c:A.is CQ=true) (a:32<=m.cs.length):CI (SS.CC 31 [.ptr 0 0,.ptr 1 0]) q m A q m (A.fail 3):=by
 obtain ⟨k1,k2⟩:=EP h (by decide) c;unfold CI;rw[Bz,eX (gJ h)];try dsimp only
 rw[k1,k2];show aB true (aB false _ _) _=_;rw[aI,aF,aK (by rw[aZ]; omega),aI,bg (lu h 3)]
def b8P (h:A.ok) (c:A.is yu=true) (e:CI (SS.CC 90 [.ptr 0 0,.ptr 1 0]) q m A.next q' m' D):CI (SS.CC 31 [.ptr 0 0,.ptr 1 0]) q m A q' m' D:=by
 obtain ⟨k1,k2⟩:=EP h (by decide) c;unfold CI;rw[Bz,eX (gJ h)];try dsimp only
 rw[k1,k2];show aB false _ (aB true (aB false _ _) _)=_;rw[aF,eX (next h)];have a:SS.CC 89 [.ptr 0 0,.ptr 1 0] [some [.ptr 2 0],some [.ptr 3 0],mQ q,bU (aV m),aA A.next.v]=some (.tuple [],[some [.ptr 2 0],some [.ptr 3 0],mQ q',bU (aV m'),aA D.v]):=by rw[bIX];exact (Nq e).trans rfl
 exact (Qr a).trans rfl
def b8T (h:A.ok) (c:A.is CX=true) (b:m.xs.length<32) (e:CI (SS.CC 97 [.ptr 0 0,.ptr 1 0]) q m A.next q' m' D):CI (SS.CC 31 [.ptr 0 0,.ptr 1 0]) q m A q' m' D:=by
 obtain ⟨k1,k2⟩:=EP h (by decide) c;unfold CI;rw[Bz,eX (gJ h)];try dsimp only
 rw[k1,k2];show aB false _ (aB false _ (aB true (aB false _ _) _))=_;rw[aF,aF,aU (by rw[aZ]; omega),eX (next h)];have a:SS.CC 96 [.ptr 0 0,.ptr 1 0] [some [.ptr 2 0],some [.ptr 3 0],mQ q,bU (aV m),aA A.next.v]=some (.tuple [],[some [.ptr 2 0],some [.ptr 3 0],mQ q',bU (aV m'),aA D.v]):=by rw[bJ9];exact (Nq e).trans rfl
 exact (Qr a).trans rfl
def b8M (h:A.ok) (c:A.is CX=true) (a:32<=m.xs.length):CI (SS.CC 31 [.ptr 0 0,.ptr 1 0]) q m A q m (A.fail 3):=by
 obtain ⟨k1,k2⟩:=EP h (by decide) c;unfold CI;rw[Bz,eX (gJ h)];try dsimp only
 rw[k1,k2];show aB false _ (aB false _ (aB true (aB false _ _) _))=_;rw[aF,aF,aI,aF,aK (by rw[aZ]; omega),aI,bg (lu h 3)]
def b8Q (h:A.ok) (c:A.is CU=true) (b:m.ks.length<32) (e:CI (SS.CC 99 [.ptr 0 0,.ptr 1 0]) q m A.next q' m' D):CI (SS.CC 31 [.ptr 0 0,.ptr 1 0]) q m A q' m' D:=by
 obtain ⟨k1,k2⟩:=EP h (by decide) c;unfold CI;rw[Bz,eX (gJ h)];try dsimp only
 rw[k1,k2];show aB false _ (aB false _ (aB false _ (aB true (aB false _ _) _)))=_;rw[aF,aF,aF,aU (by rw[aZ]; omega),eX (next h)];have a:SS.CC 98 [.ptr 0 0,.ptr 1 0] [some [.ptr 2 0],some [.ptr 3 0],mQ q,bU (aV m),aA A.next.v]=some (.tuple [],[some [.ptr 2 0],some [.ptr 3 0],mQ q',bU (aV m'),aA D.v]):=by rw[bJB];exact (Nq e).trans rfl
 exact (Qr a).trans rfl
def b8J (h:A.ok) (c:A.is CU=true) (a:32<=m.ks.length):CI (SS.CC 31 [.ptr 0 0,.ptr 1 0]) q m A q m (A.fail 3):=by
 obtain ⟨k1,k2⟩:=EP h (by decide) c;unfold CI;rw[Bz,eX (gJ h)];try dsimp only
 rw[k1,k2];show aB false _ (aB false _ (aB false _ (aB true (aB false _ _) _)))=_;rw[aF,aF,aF,aI,aF,aK (by rw[aZ]; omega),aI,bg (lu h 3)]
def b8S (h:A.ok) (c:A.is CW=true) (b:m.rs.length<32) (e:CI (SS.CC 94 [.ptr 0 0,.ptr 1 0,.ptr 1 4]) q m A.next q' m' D):CI (SS.CC 31 [.ptr 0 0,.ptr 1 0]) q m A q' m' D:=by
 obtain ⟨k1,k2⟩:=EP h (by decide) c;unfold CI;rw[Bz,eX (gJ h)];try dsimp only
 rw[k1,k2];show aB false _ (aB false _ (aB false _ (aB false _ (aB true (aB false _ _) _))))=_;rw[aF,aF,aF,aF,aU (by rw[aZ]; omega),eX (next h)];have a:SS.CC 95 [.ptr 0 0,.ptr 1 0] [some [.ptr 2 0],some [.ptr 3 0],mQ q,bU (aV m),aA A.next.v]=some (.tuple [],[some [.ptr 2 0],some [.ptr 3 0],mQ q',bU (aV m'),aA D.v]):=by rw[bJ8];exact (Nq e).trans rfl
 exact (Qr a).trans rfl
def b8L (h:A.ok) (c:A.is CW=true) (a:32<=m.rs.length):CI (SS.CC 31 [.ptr 0 0,.ptr 1 0]) q m A q m (A.fail 3):=by
 obtain ⟨k1,k2⟩:=EP h (by decide) c;unfold CI;rw[Bz,eX (gJ h)];try dsimp only
 rw[k1,k2];show aB false _ (aB false _ (aB false _ (aB false _ (aB true (aB false _ _) _))))=_;rw[aF,aF,aF,aF,aI,aF,aK (by rw[aZ]; omega),aI,bg (lu h 3)]
def b8R (h:A.ok) (c:A.is CV=true) (b:m.ts.length<16) (e:CI (SS.CC 92 [.ptr 0 0,.ptr 1 0]) q m A.next q' m' D):CI (SS.CC 31 [.ptr 0 0,.ptr 1 0]) q m A q' m' D:=by
 obtain ⟨k1,k2⟩:=EP h (by decide) c;unfold CI;rw[Bz,eX (gJ h)];try dsimp only
 rw[k1,k2];show aB false _ (aB false _ (aB false _ (aB false _ (aB false _ (aB true (aB false _ _) _)))))=_;rw[aF,aF,aF,aF,aF,aU (by rw[aZ]; omega),eX (next h)];have a:SS.CC 91 [.ptr 0 0,.ptr 1 0] [some [.ptr 2 0],some [.ptr 3 0],mQ q,bU (aV m),aA A.next.v]=some (.tuple [],[some [.ptr 2 0],some [.ptr 3 0],mQ q',bU (aV m'),aA D.v]):=by rw[bJ0];exact (Nq e).trans rfl
 exact (Qr a).trans rfl
def b8K (h:A.ok) (c:A.is CV=true) (a:16<=m.ts.length):CI (SS.CC 31 [.ptr 0 0,.ptr 1 0]) q m A q m (A.fail 3):=by
 obtain ⟨k1,k2⟩:=EP h (by decide) c;unfold CI;rw[Bz,eX (gJ h)];try dsimp only
 rw[k1,k2];show aB false _ (aB false _ (aB false _ (aB false _ (aB false _ (aB true (aB false _ _) _)))))=_;rw[aF,aF,aF,aF,aF,aI,aF,aK (by rw[aZ]; omega),aI,bg (lu h 3)]
def b8N (h:A.ok) (c:∀ x,x ∈ [CQ,yu,CX,CU,CW,CV]->A.is x=false):CI (SS.CC 31 [.ptr 0 0,.ptr 1 0]) q m A q m (A.fail 14):=by
 have d:∀ x,x ∈ [CQ,yu,CX,CU,CW,CV]->(A.pk.kind==1&&A.pk.text==x)=false:=fun x b=>by rw[<- Tf h (show x∉lC by revert b; simp only[jy,zW,zX]; rintro (rfl|rfl|rfl|rfl|rfl|rfl)<;>decide)];exact c x b
 unfold CI;rw[Bz,eX (gJ h)];by_cases hk:A.pk.kind=1
 .have a:∀ x,x ∈ [CQ,yu,CX,CU,CW,CV]->(A.pk.text==x)=false:=fun x b=>by have:=d x b; rwa [show (A.pk.kind==1)=true by simp[hk]] at this
  show aB (A.pk.text==CQ) _ (aB (A.pk.text==yu) _ (aB (A.pk.text==CX) _ (aB (A.pk.text==CU) _ (aB (A.pk.text==CW) _ (aB (A.pk.text==CV) _ _)))))=_;rw[a CQ (by simp),a yu (by simp),a CX (by simp),a CU (by simp),a CW (by simp),a CV (by simp)];simp only[aF];rw[show (A.pk.kind != 1)=false by simp[hk],aF,bg (lu h 14)]
 .rw[show (A.pk.kind != 1)=true by simp[hk]];simp only[aI];rw[bg (lu h 14)];simp only[b71]
def bYU (h:A.ok) (c:A.is yu=true) (e:LI (SS.CC 160 [.ptr 0 0]) m w A.next m' w' D):LI (SS.CC 49 [.ptr 0 0]) m w A m' w' D:=by unfold LI;rw[CB];dsimp only[fV];show bW 87 [.ptr 0 0,.str ⟨yu.toArray⟩] [aA A.v] _=_;rw[bY (jL h ⟨yu.toArray⟩)];rw[c,qc c];exact (VY e).trans rfl
def bYW (h:A.ok) (c:A.is CV=true) (a:m.ts.length<16) (e:LI (SS.CC 162 [.ptr 0 0]) m w A.next m' w' D):LI (SS.CC 49 [.ptr 0 0]) m w A m' w' D:=by unfold LI;rw[CB];dsimp only[fV];rw[uf h (nH c (by decide)),sk h c,Dk (Wq h (by rw[aZ]; omega))];exact (VY e).trans rfl
def bYP (h:A.ok) (c:A.is CV=true) (a:m.ts.length=16):LI (SS.CC 49 [.ptr 0 0]) m w A m w (A.fail 3):=by unfold LI;rw[CB];dsimp only[fV];rw[uf h (nH c (by decide)),aF,sk h c,aI,Dk (Ws h (by rw[aZ]; omega))];rw[ut,aF]
def bYT (h:A.ok) (c:A.is CQ=true) (d:m.cs.length<32) (a:SS.CC 163 [.ptr 0 0] [aO (cO m w),aA A.next.v]=some (A8 (He e),[aO (cO m w),aA D.v])) (b:SS.CC 163 [.ptr 0 0] [wZ (cO m w),aA A.next.v]=some (A8 (He e),[wZ (cO m w),aA D.v])):LI (SS.CC 49 [.ptr 0 0]) m w A { m with cs:=m.cs ++ [e] } w D:=by
 unfold LI;rw[CB];dsimp only[fV];rw[uf h (nH c (by decide)),aF,sk h (nH c (by decide)),aF,sk h c,aI,Dk (Wq h (by rw[aZ]; omega))];rw[b4I b,Zq a,Zq a];rw[aQ (di (by rw[aZ]; omega))];repeat rw[tV]
 simp
def bYN (h:A.ok) (c:A.is CQ=true) (a:m.cs.length=32):LI (SS.CC 49 [.ptr 0 0]) m w A m w (A.fail 3):=by unfold LI;rw[CB];dsimp only[fV];rw[uf h (nH c (by decide)),aF,sk h (nH c (by decide)),aF,sk h c,aI,Dk (Ws h (by rw[aZ]; omega))];rw[ut,aF]
def bYX (h:A.ok) (c:A.is CW=true) (d:m.rs.length<32) (a:SS.CC 163 [.ptr 0 0] [aO (cO m w),aA A.next.v]=some (A8 (He e),[aO (cO m w),aA D.v])) (b:SS.CC 163 [.ptr 0 0] [wo (cO m w),aA A.next.v]=some (A8 (He e),[wo (cO m w),aA D.v])):LI (SS.CC 49 [.ptr 0 0]) m w A { m with rs:=m.rs ++ [e] } w D:=by
 unfold LI;rw[CB];dsimp only[fV];rw[uf h (nH c (by decide)),aF,sk h (nH c (by decide)),aF,sk h (nH c (by decide)),aF,sk h c,Dk (Wq h (by rw[aZ]; omega))];rw[b4J b,Zq a,Zq a];rw[aQ (di (by rw[aZ]; omega))];repeat rw[tV]
 simp
def bYQ (h:A.ok) (c:A.is CW=true) (a:m.rs.length=32):LI (SS.CC 49 [.ptr 0 0]) m w A m w (A.fail 3):=by unfold LI;rw[CB];dsimp only[fV];rw[uf h (nH c (by decide)),aF,sk h (nH c (by decide)),aF,sk h (nH c (by decide)),aF,sk h c,aI,Dk (Ws h (by rw[aZ]; omega))];rw[ut,aF]
def bYY (h:A.ok) (c:A.is CX=true) (a:m.xs.length<32) (e:LI (SS.CC 164 [.ptr 0 0]) m w A.next m' w' D):LI (SS.CC 49 [.ptr 0 0]) m w A m' w' D:=by unfold LI;rw[CB];dsimp only[fV];rw[uf h (nH c (by decide)),aF,sk h (nH c (by decide)),aF,sk h (nH c (by decide)),aF,sk h (nH c (by decide)),aF,sk h c,Dk (Wq h (by rw[aZ]; omega))];exact (VY e).trans rfl
def bYR (h:A.ok) (c:A.is CX=true) (a:m.xs.length=32):LI (SS.CC 49 [.ptr 0 0]) m w A m w (A.fail 3):=by unfold LI;rw[CB];dsimp only[fV];rw[uf h (nH c (by decide)),aF,sk h (nH c (by decide)),aF,sk h (nH c (by decide)),aF,sk h (nH c (by decide)),aF,sk h c,aI,Dk (Ws h (by rw[aZ]; omega))];rw[ut,aF]
def bYV (h:A.ok) (c:A.is CU=true) (a:m.ks.length<32) (e:LI (SS.CC 165 [.ptr 0 0]) m w A.next m' w' D):LI (SS.CC 49 [.ptr 0 0]) m w A m' w' D:=by unfold LI;rw[CB];dsimp only[fV];rw[uf h (nH c (by decide)),aF,sk h (nH c (by decide)),aF,sk h (nH c (by decide)),aF,sk h (nH c (by decide)),aF,sk h (nH c (by decide)),aF,sk h c,Dk (Wq h (by rw[aZ]; omega))];exact (VY e).trans rfl
def bYO (h:A.ok) (c:A.is CU=true) (a:m.ks.length=32):LI (SS.CC 49 [.ptr 0 0]) m w A m w (A.fail 3):=by unfold LI;rw[CB];dsimp only[fV];rw[uf h (nH c (by decide)),aF,sk h (nH c (by decide)),aF,sk h (nH c (by decide)),aF,sk h (nH c (by decide)),aF,sk h (nH c (by decide)),aF,sk h c,aI,Dk (Ws h (by rw[aZ]; omega))];rw[ut,aF]
def bYS (h:A.ok) (a:∀ x,x ∈ [CQ,yu,CX,CU,CW,CV]->A.is x=false):LI (SS.CC 49 [.ptr 0 0]) m w A m w (A.fail 14):=by unfold LI;rw[CB];dsimp only[fV];rw[uf h (a _ (by simp)),aF,sk h (a _ (by simp)),aF,sk h (a _ (by simp)),aF,sk h (a _ (by simp)),aF,sk h (a _ (by simp)),aF,sk h (a _ (by simp)),aF,bg (lu h 14)]
end
def LR {a:Type} (R:a->Nat->Prop):List a->Nat->Prop
 | [],w=>w=0
 | x::l,w=>∃ u r,R x u/\LR R l r/\w=u+r
def Nu {b:Type} {R:b->Nat->Prop} {x:b} {u:Nat} (c:R x u):∀ {l:List b} {w:Nat},LR R l w->LR R (l ++ [x]) (w+u)
 | [],w,h=>by have h:w=0:=h;exact ⟨u,0,c,rfl,by omega⟩
 | a::l,w,⟨v,r,d,f,e⟩=>⟨v,_,d,Nu c f,by omega⟩
def OQ (e:nD):Nat:=wl e.n+(if e.c then 13 else 0)+(if e.o then 11 else 0)+(if e.f then 9 else 0)+(if e.k=0 then 0 else 6+qE e.k)+9
def EvR (e:nD) (w:Nat):Prop:=w=OQ e
def TmW (t:Tm) (w:Nat):Prop:=∃ u,TmR t u/\w=u+9
def InW (k:Nat) (x:Ins) (w:Nat):Prop:=x.es.length<=20000/\w=iw x+k
def XcW (x:qj) (w:Nat):Prop:=x.ls.length<=20000/\w=xw x+8
def CtW (x:Cst) (w:Nat):Prop:=x.ts.length<=20000/\w=YE x+6
structure Hw (m:Mo) (N W:Nat) (A:RA):Prop where
 n:m.n.length<=100
 es:2*m.es.length+A.N<=N
 ts:m.ts.length<=16
 cs:m.cs.length<=32
 rs:m.rs.length<=32
 xs:m.xs.length<=32
 ks:m.ks.length<=32
 w:∃ a b c d f g,LR EvR m.es a/\LR TmW m.ts b/\LR (InW 10) m.cs c/\LR (InW 12) m.rs d/\LR XcW m.xs f/\LR CtW m.ks g/\a+b+c+d+f+g+A.W<=W
section
variable {A:RA} {m:Mo}
theorem bAG {l:List Nm} (h:A.ok) (e:(A.EK l).e=0):(A.EK l).N<A.N/\OQ (A.EM l)+(A.EK l).W<=A.W+6:=by
 have m:=Le.add h l;have a:=Le.take m.ok iZ;have b:=Le.take a.ok lN;have d:=Le.take b.ok uq;have i:=aEH h l;have w5:(A.EK l).W+2=(A.uT l).W:=o9 i.ok e;have g:(A.uT l).e=0:=(Le.exp i.ok [59]).e0 e;have n:(A.EK l).N<=(A.uT l).N:=(Le.exp i.ok [59]).le;have w1:((A.add l).take iZ).W+(if (A.add l).is iZ then 13 else 0)=(A.add l).W:=ZN m.ok;have w2:(((A.add l).take iZ).take lN).W+(if ((A.add l).take iZ).is lN then 11 else 0)=((A.add l).take iZ).W:=ZN a.ok;have w3:(A.ev1 l).W+(if (((A.add l).take iZ).take lN).is uq then 9 else 0)=(((A.add l).take iZ).take lN).W:=ZN b.ok;have q:=a.le;have r:=b.le;have t:(A.ev1 l).N<=_:=d.le;cases c:(A.ev1 l).is DL with
 | true =>
  have j:A.uT l=(A.ev1 l).next.int 1 4:=by grind [RA.uT]
  have hv:(A.EM l).k=(A.ev1 l).next.EO 1 4:=by grind [RA.EM]
  have w4:(A.ev1 l).next.W+6=(A.ev1 l).W:=oW d.ok c;have u:=(jl (A:=A.ev1 l) d.ok (kY c)).2;rw[j] at g w5 n;obtain ⟨k1,k2,k3,k4⟩:=aVJ (aFF h l).next g;have o:(A.ev1 l).e=0:=GV (kY c);have f:(A.add l).e=0:=a.e0 (b.e0 (d.e0 o));have w0:=EE h f;have p:=jQ h f;refine ⟨by omega,?_⟩;unfold OQ;rw[aX (show (A.EM l).k≠0 by omega),hv];show wl (A.gy l)+(if (A.add l).is iZ then 13 else 0)+(if ((A.add l).take iZ).is lN then 11 else 0)+(if (((A.add l).take iZ).take lN).is uq then 9 else 0)+_+9+_<=_;omega
 | false =>
  have j:A.uT l=A.ev1 l:=by grind [RA.uT]
  have hv:(A.EM l).k=0:=by grind [RA.EM]
  rw[j] at g w5 n;have f:(A.add l).e=0:=a.e0 (b.e0 (d.e0 g));have w0:=EE h f;have p:=jQ h f;refine ⟨by omega,?_⟩;unfold OQ;rw[ay hv];show wl (A.gy l)+(if (A.add l).is iZ then 13 else 0)+(if ((A.add l).take iZ).is lN then 11 else 0)+(if (((A.add l).take iZ).take lN).is uq then 9 else 0)+0+9+(A.EK l).W<=A.W+6;omega
theorem bWW {N W:Nat} (v w:List PV) (h:A.ok) (e:A.e=0) (hN:N<=40000) (hg:Hw m N W A):∃ D m1 m2 v' w',Le A D/\D.N<A.N/\(D.e=0->m1=m2/\Hw m1 N W D) /\
 SS.CC 31 [.ptr 0 0,.ptr 1 0] [ah (0,v,()),bU (aV m),aA A.v]=some (.tuple [],[ah (0,v',()),bU (aV m1),aA D.v]) /\
 LI (SS.CC 49 [.ptr 0 0]) m w A m2 w' D:=by
 obtain ⟨C,ge,S,T,U,V,X,a,b,c,d,f,g,E,F,G,H,I,J,a'⟩:=hg;have hn:=FT h e;have j:∀ n:Int,n≠0->Le A (A.fail n)/\(A.fail n).N<A.N/\(A.fail n).e≠0:=fun n B=>⟨.fail h B,by rw[Ve (qw B)]; omega,qw B⟩
 by_cases K:A.is CQ=true
 .have w0:A.next.W+10=A.W:=oW h K;have o:=(jl h (kY K)).2;by_cases l:m.cs.length<32
  .obtain ⟨D,x,k1,k2,z,-,e3,e4,-⟩:=aVD (m:=m) (0,v,()) h.next (by omega) (by omega);refine ⟨D,_,{ m with cs:=m.cs ++ [x] },v,w,(Le.next h).trans k1,by have:=k1.le; omega,fun i => ?_,b8O h K l z,bYT h K l (e3 w) (e4 w)⟩;obtain ⟨Y,y,q3⟩:=k2 i;exact ⟨rfl,C,by grind,S,by simp; omega,U,V,X,a,b,_,d,f,g,E,F,Nu ⟨y,rfl⟩ G,H,I,J,by omega⟩
  .obtain ⟨p,q,r⟩:=j 3 (by decide);exact ⟨_,m,m,v,w,p,q,fun i=>absurd i r,b8I h K (by omega),bYN h K (by omega)⟩
 by_cases cE:A.is yu=true
 .have w0:A.next.W+6=A.W:=oW h cE;have o:=(jl h (kY cE)).2;have k1:=bZD h.next (m.es.map (·.n));have l:m.es.length<=20000:=by omega
  refine ⟨_,_,{ m with es:=m.es ++ [A.next.EM (m.es.map (·.n))] },v,w,(Le.next h).trans k1,by have:=k1.le; omega,fun i => ?_,b8P h cE (bA8 (0,v,()) h.next l),bYU h cE (bAE w h.next l)⟩;obtain ⟨Y,y⟩:=bAG h.next i;exact ⟨rfl,C,by simp; omega,S,T,U,V,X,_,b,c,d,f,g,Nu (R:=EvR) rfl E,F,G,H,I,J,by omega⟩
 by_cases L:A.is CX=true
 .have w0:A.next.W+8=A.W:=oW h L;have o:=(jl h (kY L)).2;by_cases l:m.xs.length<32
  .obtain ⟨D,x,k1,k2,z,Z⟩:=bAL (m:=m) (0,v,()) h.next (by omega) (by omega);refine ⟨D,_,{ m with xs:=m.xs ++ [x] },v,w,(Le.next h).trans k1,by have:=k1.le; omega,fun i => ?_,b8T h L l z,bYY h L l (Z w)⟩;obtain ⟨Y,y,q3⟩:=k2 i;exact ⟨rfl,C,by grind,S,T,U,by simp; omega,X,a,b,c,d,_,g,E,F,G,H,Nu ⟨y,rfl⟩ I,J,by omega⟩
  .obtain ⟨p,q,r⟩:=j 3 (by decide);exact ⟨_,m,m,v,w,p,q,fun i=>absurd i r,b8M h L (by omega),bYR h L (by omega)⟩
 by_cases M:A.is CU=true
 .have w0:A.next.W+6=A.W:=oW h M;have o:=(jl h (kY M)).2;by_cases l:m.ks.length<32
  .obtain ⟨D,x,k1,k2,z,Z⟩:=b97 (m:=m) (0,v,()) h.next (by omega) (by omega);refine ⟨D,_,{ m with ks:=m.ks ++ [x] },v,w,(Le.next h).trans k1,by have:=k1.le; omega,fun i => ?_,b8Q h M l z,bYV h M l (Z w)⟩;obtain ⟨Y,y,q3⟩:=k2 i;exact ⟨rfl,C,by grind,S,T,U,V,by simp; omega,a,b,c,d,f,_,E,F,G,H,I,Nu ⟨y,rfl⟩ J,by omega⟩
  .obtain ⟨p,q,r⟩:=j 3 (by decide);exact ⟨_,m,m,v,w,p,q,fun i=>absurd i r,b8J h M (by omega),bYO h M (by omega)⟩
 by_cases O:A.is CW=true
 .have w0:A.next.W+12=A.W:=oW h O;have o:=(jl h (kY O)).2;by_cases l:m.rs.length<32
  .obtain ⟨D,x,k1,k2,-,z,e3,-,e4⟩:=aVD (m:=m) (0,v,()) h.next (by omega) (by omega);refine ⟨D,_,{ m with rs:=m.rs ++ [x] },v,w,(Le.next h).trans k1,by have:=k1.le; omega,fun i => ?_,b8S h O l z,bYX h O l (e3 w) (e4 w)⟩;obtain ⟨Y,y,q3⟩:=k2 i;exact ⟨rfl,C,by show 2*m.es.length+D.N<=N; omega,S,T,by simp; omega,V,X,a,b,c,_,f,g,E,F,G,Nu ⟨y,rfl⟩ H,I,J,by omega⟩
  .obtain ⟨p,q,r⟩:=j 3 (by decide);exact ⟨_,m,m,v,w,p,q,fun i=>absurd i r,b8L h O (by omega),bYQ h O (by omega)⟩
 by_cases Q:A.is CV=true
 .have w0:A.next.W+9=A.W:=oW h Q;have o:=(jl h (kY Q)).2;by_cases l:m.ts.length<16
  .obtain ⟨D,t,t',v',w',k1,k2,z,Z⟩:=tmS (m:=m) v w h.next (by omega) (by omega);refine ⟨D,_,{ m with ts:=m.ts ++ [t'] },v',w',(Le.next h).trans k1,by have:=k1.le; omega,fun i => ?_,b8R h Q l z,bYW h Q l Z⟩;obtain ⟨rfl,Y,u,y,q3⟩:=k2 i;exact ⟨rfl,C,by show 2*m.es.length+D.N<=N; omega,by simp; omega,T,U,V,X,a,_,c,d,f,g,E,Nu ⟨u,y,rfl⟩ F,G,H,I,J,by omega⟩
  .obtain ⟨p,q,r⟩:=j 3 (by decide);exact ⟨_,m,m,v,w,p,q,fun i=>absurd i r,b8K h Q (by omega),bYP h Q (by omega)⟩
 have hc:∀ x,x ∈ [CQ,yu,CX,CU,CW,CV]->A.is x=false:=fun x hx=>by simp only[jy,zW,zX] at hx;rcases hx with rfl|rfl|rfl|rfl|rfl|rfl<;>simp_all
 obtain ⟨p,q,r⟩:=j 14 (by decide);exact ⟨_,m,m,v,w,p,q,fun i=>absurd i r,b8N h hc,bYS h hc⟩
end
section
variable {A:RA} {m:Mo}
def PQ (B:Mo->Prop) (r s:R):Prop:=∃ M a b e,r=WX M a b e/\s=WX M a b e/\(e=0->a=0/\b=0/\Bl M=0/\B M)/\(e≠0->M=m00)
theorem aNT (B:Mo->Prop) (a:Sh.V jT) (b:Sh.V eY) (w:Sh.V bF) (e:A.e≠0):PQ B (Xh a A.v b) (X0 A.v w):=by
 refine ⟨m00,A.line,A.uS,A.e,?_,?_,fun h=>absurd h e,fun _=>rfl⟩
 .rw[aSR,Np (OO A),aX e,aX e];rw[show (A.e != 0)=true by grind];rfl
 .rw[aOP,Np (OO A),aX e,aX e];rw[show (A.e != 0)=true by grind];rfl
theorem aNU (a:Sh.V eY) (w:List PV) (e:A.e=0):Xh (aV m) A.v a=WX m 0 0 0/\X0 A.v (cO m w)=WX m 0 0 0:=by
 constructor
 .rw[aSR,Np (OO A)];rw[show (A.e != 0)=false by grind];rfl
 .rw[aOP,Np (OO A)];rw[show (A.e != 0)=false by grind];rfl
theorem b9S (B:Mo->Prop) (a:Sh.V jT) (b:Sh.V eY) (w:Sh.V bF) (e:A.e≠0):PQ B (Xi a A.v b) (X3 A.v w):=by rw[aSS,Jm (wX _ _),aOQ,Dj (P.Bq _ _)];grind [aF,aNT]
theorem b9T (B:Mo->Prop) (f:B m) (a:Sh.V eY) (w:List PV) (h:A.ok) (e:A.e=0) (b:lm m) (c:m.cs.length+m.rs.length<=20000):PQ B (Xi (aV m) A.v a) (X3 A.v (cO m w)):=by
 have g:=aMG m b c;have i:SS.CC 50 [A0 ((cO m w).1,(cO m w).2.1,(cO m w).2.2.1,(cO m w).2.2.2.1,(cO m w).2.2.2.2.1,(cO m w).2.2.2.2.2.1,(cO m w).2.2.2.2.2.2.1,())] []=bV (Bl m):=bY' m b c;rw[aSS,Jm (wX _ _),aOQ,Dj (P.Bq _ _)];rw[show (A.e==0)=true by grind,aI,show (!(A.e != 0))=true by grind,aI,bn g,bn i,bg (lu h _),bg (lu h _)];by_cases d:Bl m=0
 .rw[d,show A.fail 0=A by grind [RA.fail]];exact ⟨m,0,0,0,(aNU a w e).1,(aNU a w e).2,fun _=>⟨rfl,rfl,d,f⟩,fun h=>absurd rfl h⟩
 grind [aNT,qw]
theorem dQ {N W:Nat} (c:N<=40000) (b:∀ m A,Hw m N W A->lm m) (v w:List PV) (h:A.ok) (a:A.e=0->Hw m N W A) :
 PQ (fun m=>∃ D,Hw m N W D) (Xj (aV m) A.v (0,v,())) (X4 A.v (cO m w)):=by
 refine loops (C:=fun A (y:Mo×List PV)=>Xj (aV y.1) A.v (0,y.2,())) (L:=fun A (z:Mo×List PV)=>X4 A.v (cO z.1 z.2))
  (P:=fun A y z=>A.e=0->y.1=z.1/\Hw y.1 N W A) (fun A y z h d => ?_) A (m,v) (m,w) h (fun e=>⟨rfl,a e⟩)
 obtain ⟨n,v⟩:=y;obtain ⟨o,w⟩:=z;rw[bQD,Jm (wX _ _),bC6,Dj (P.Bq _ _)];by_cases e:A.e=0
 .obtain ⟨f,a⟩:=d e;subst f;rw[show (A.e==0)=true by grind,aI,show (!(A.e != 0))=true by grind,aI,eX (gJ h),eX (gJ h)];by_cases hk:A.pk.kind=4
  .left;rw[show (A.pk.kind != 4)=false by grind,aF,aF];have:=a.cs;have:=a.rs;exact b9T _ ⟨A,a⟩ _ w h e (b _ _ a) (by omega)
  .right;obtain ⟨D,g,i,j,l,k1,k2,k3,k4,k5⟩:=bWW v w h e c a;rw[show (A.pk.kind != 4)=true by grind,Nq k4,VY k5];exact ⟨D,(g,j),(i,l),rfl,rfl,k1.ok,k3,k2⟩
 grind [aF,b9S]
end
section
variable {ns:List Nm} {B:List Tok} {a b c:EX} {v o lv i:Int}
theorem Jc {n:Int} (h:n<=mF a):wp a n B=B:=by grind [wp]
theorem wp_mono {m n:Int} (h:m<=n):jw (wp a m B)<=jw (wp a n B):=by grind [wp,nX,gz]
theorem a'O (h:PB ns (nE v) B):B=gU v:=by cases h<;>grind [nE,vE,tE,fE]
theorem c2Y (h:PB ns tE B):B = [tW mM]:=by cases h<;>grind [nE,vE,tE,fE,EJ]
theorem c2Q (h:PB ns fE B):B = [tW pM]:=by cases h<;>grind [nE,vE,tE,fE,EJ]
theorem c2Z (h:PB ns (vE i) B):∃ s,ns[i.toNat]? = some s/\B = [tW s]:=by cases h<;>grind [nE,vE,tE,fE]
theorem c2X (h:PB ns (kS 10 a) B):∃ A,PB ns a A/\B=tS [33]::wp a 6 A:=by cases h<;>grind [nE,vE,tE,fE]
theorem c2W (h:PB ns (kS 5 a) B):(∃ v,0<=v/\a=nE v/\B=tS [45]::tS [40]::(gU v ++ [tS [41]]))\/∃ A,PB ns a A/\B=tS [45]::wp a 6 A:=by cases h<;>grind [nE,vE,tE,fE]
theorem c2O (c:o=6\/o=7\/o=8\/o=9) (h:PB ns (iQ o a b) B):(a=nE 0/\b=nE 0/\(B = [tW mM]\/B = [tW pM]))\/∃ A C,PB ns a A/\PB ns b C/\B=wp a 4 A ++ tS (lW o)::wp b 4 C:=by cases h<;>grind [nE,vE,tE,fE,zE]
theorem c2N (c:o=2/\lv=4\/o=3/\lv=4\/o=4/\lv=5\/o=11/\lv=2\/o=12/\lv=1) (h:PB ns (iQ o a b) B):∃ A C,PB ns a A/\PB ns b C/\B=wp a lv A ++ tS (lW o)::wp b (lv+1) C:=by cases h<;>grind [nE,vE,tE,fE]
theorem c2R (h:PB ns (.node 13 0 0 [c,a,b]) B):∃ C A D,PB ns c C/\PB ns a A/\PB ns b D/\B=wp c 1 C ++ tS [63]::(wp a 0 A ++ tS [58]::wp b 0 D):=by cases h<;>grind [nE,vE,tE,fE]
end
theorem dl0:dl 0=1:=by grind [Lib.decDigits]
variable {d:Bool} {n:Int} {x E:EX} {p:Nat} {g:Nm} {r:List Nm} {l:List PV} {y:Sh.V S3}
theorem aF8 {l:List ByteArray} (h:jX l d n x p):∀ v:Int,0<=v->x=nE v->dl v+1<=p/\(d=false->n=6->dl v+5<=p\/dl v=1/\4<=p):=by
 induction h with
 | num i f=>intro v hv e; injection e with _ e; grind
 | tt=>intro v hv e; injection e with e; omega
 | ff=>intro v hv e; injection e with e; omega
 | var i f=>intro v hv e; injection e with e; omega
 | sJ _ g=>intro v hv e; injection e with e; omega
 | UC i f =>
  intro v hv e;injection e with _ e
  grind [dl0]
 | neg _ g=>intro v hv e; injection e with e; omega
 | par _ g=>grind
 | up _ f o g=>grind
 | bin j _ _ a c=>intro v hv e; injection e with e; omega
 | cmp j _ _ a c=>intro v hv e; injection e with e; omega
 | ite _ _ _ a c m=>intro v hv e; injection e with e; omega
theorem a7W (h:0<=n):jw (gU n)=dl n+1:=by grind [gU,nX,kZ]
theorem aZP (h:n<0):jw (gU n)=dl (-n)+3:=by grind [gU,nX,kZ]
theorem AZ (h:wl g<=p) (a:p<1000000):g.length<=wl g/\g.length<=100:=by grind [wl]
theorem aYF (o v i:Int) (l:List EX):mF (.node o v i l)=7\/mF (.node o v i l)=if o=0 then (if v<0 then 6 else 7) else if o=1 then 7 else if o=2 then 4 else if o=3 then 4 else if o=4 then 5 else if o=5 then 6 else if o=6 then 3 else if o=7 then 3 else if o=8 then 3 else if o=9 then 3 else if o=10 then 6 else if o=11 then 2 else if o=12 then 1 else 0:=by grind [mF]
def b'3 {c:Int} (d:n=2/\c=4\/n=3/\c=4\/n=4/\c=5\/n=11/\c=2\/n=12/\c=1):c<=mF (iQ n x E):=by
 rcases aYF n 0 0 [x,E] with e | e<;>rw[e]
 .omega
 omega
theorem aYD (c:n=6\/n=7\/n=8\/n=9):3<=mF (iQ n x E):=by
 rcases aYF n 0 0 [x,E] with e | e<;>rw[e]
 .omega
 omega
theorem c3T (h:jX (dB r) d n x p):p<1000000->∀ B,PB r x B->3*jw (wp x n B)<=4*p:=by
 induction h with
 | num l g =>intro j B f;have e:=a'O f;grind [Jc,mF,nE,a7W]
 | tt =>
  intro j B f;have:3*jw (wp tE 6 B)<=4*5:=by have:=c2Y f;subst this;decide
  exact this
 | ff =>
  intro j B f;have:3*jw (wp fE 6 B)<=4*6:=by have:=c2Q f;subst this;decide
  exact this
 | @var i s l g =>grind [c2Z,Jc,mF,vE,nX,kZ,bs,wl]
 | @sJ d x p _ D =>grind [c2X,Jc,mF,nX]
 | @UC v l g =>intro j B f;have e:=a'O f;grind [Jc,mF,nE,a7W,aZP]
 | @neg x p F D =>
  intro j B f;rw[Jc (by unfold mF; grind)];rcases c2W f with ⟨v,l,rfl,rfl⟩|⟨A,g,rfl⟩
  .have:=(aF8 F v l rfl).2 rfl rfl;rw[nX,nX,gz,nX,kZ,a7W l];grind
  grind [nX]
 | @par d x p _ D =>grind [aJG,Uy]
 | @up d n m x p _ g G D =>intro j B f;have:=D (by omega) B f;have:=wp_mono (a:=x) (B:=B) g;omega
 | @bin d c o L x y p u E _ _ q t =>intro j B f;obtain ⟨A,C,g,G,rfl⟩:=c2N E f;rw[Jc (b'3 E),gz,nX];grind
 | @cmp d c o x y p u E F H q t =>
  intro j B f;rcases c2O E f with ⟨rfl,rfl,h⟩|⟨A,C,g,G,rfl⟩
  .have I:=(aF8 F 0 (by omega) rfl).1;have J:=(aF8 H 0 (by omega) rfl).1;rw[dl0] at I J;grind [jw,Jc,aYD]
  grind [Jc,aYD,gz,nX]
 | @ite a d c x y z p u v _ _ _ q t K =>grind [c2R,Jc,U4,gz,nX]
theorem a6S {b:Type} {f:b->List Tok} {g:b->Nat} {G:List b->Nat} (d:∀ a l,G (a::l)=g a+G l) (s:UInt8):∀ l:List b,(∀ a,a∈l->3*jw (f a)+6<=4*g a)->3*jw (iL (tS [s]) (l.map f))<=4*G l-6
 | [],_=>by simp[iL,kZ]
 | [a],h=>by have:=h a (by simp);have e:=d a [];show 3*jw (f a)<=_;omega
 | a::c::l,h=>by
  have j:=a6S d s (c::l) fun x i=>h x (by simp[i])
  rw[zV,zV,iL,gz,nX];grind
def Nv {a:Type} {R:a->Nat->Prop} {f:a->List Tok} {W:Nat}:∀ {l:List a} {w:Nat},(∀ x u,x∈l->R x u->u<=W->3*jw (f x)<=4*u)->LR R l w->w<=W->3*jw (l.flatMap f)<=4*w
 | [],_,_,h,_=>by simp[kZ]
 | x::l,w,b,⟨u,r,c,d,e⟩,i=>by have j:=b x u (by simp) c (by omega);have m:=Nv (fun y v g=>b y v (by simp[g])) d (by omega);rw[NQ,gz];omega
theorem Qx {d:Type} {R:d->Nat->Prop}:∀ {l:List d} {w:Nat},LR R l w->∀ x,x∈l->∃ u,R x u/\u<=w
 | [],_,_,_,c=>by simp at c
 | y::l,w,⟨u,r,f,g,e⟩,x,c=>by
  rcases jy.1 c with rfl | c
  .exact ⟨u,f,by omega⟩
  .obtain ⟨v,a,b⟩:=Qx g x c;exact ⟨v,a,by omega⟩
def a7X:∀ {l:List Nm} {s:Nm},s∈l->wl s+3<=nw l
 | a::l,s,h=>by
  rw[nw];rcases jy.1 h with rfl | h
  .omega
  .have:=a7X h; omega
def aEX:∀ {l:List (Nm×Nm)} {p:Nm×Nm},p∈l->wl p.1+wl p.2+4<=lw l
 | a::l,s,h=>by
  rw[lw];rcases jy.1 h with rfl | h
  .omega
  .have:=aEX h; omega
def aIP:∀ {l:List (Nm×Int)} {p:Nm×Int},p∈l->qE p.2+wl p.1+5<=tw l
 | a::l,s,h=>by
  rw[tw];rcases jy.1 h with rfl | h
  .omega
  .have:=aIP h; omega
def aYB:∀ {l:List Nm} {s:Nm},s∈l->wl s+12<=xI l
 | a::l,s,h=>by
  rw[xI];rcases jy.1 h with rfl | h
  .omega
  .have:=aYB h; omega
def b39:∀ {l:List Vr} {v:Vr},v∈l->vw v+4<=zN l
 | a::l,s,h=>by
  rw[zN];rcases jy.1 h with rfl | h
  .omega
  .have:=b39 h; omega
theorem b_G (h:qE n<=p) (a:p<1000000):p_ n:=by grind [qE]
theorem UH (h:qE n<=p) (a:p<1000000):jw (gU n)=qE n:=by grind [qE,aZP,a7W]
section
variable {w:Nat}
theorem bAD {e:nD} (h:EvR e w) (a:w<999000):jw (tu e)<=w:=by
 subst h;unfold OQ at a ⊢;have b:=(AZ (dO (wl e.n)) (by omega)).1;have a1:jw (if e.c then [tW [99,111,110,116,114,111,108,108,97,98,108,101]] else [])=if e.c then 13 else 0:=by split<;>rfl
 have a2:jw (if e.o then [tW [111,98,115,101,114,118,97,98,108,101]] else [])=if e.o then 11 else 0:=by split<;>rfl
 have a3:jw (if e.f then [tW [102,111,114,99,105,98,108,101]] else [])=if e.f then 9 else 0:=by split<;>rfl
 have a4:jw (if e.k=0 then [] else tW [102,97,117,108,116]::gU e.k)=if e.k=0 then 0 else 6+qE e.k:=by
  split
  .rfl
  .rename_i c;rw[aX c] at a;rw[ku,UH (dO _) (by omega)];rfl
 grind [tu,gz,ku,pR]
theorem aZJ {l:List Nm} (c:nw l<=w) (d:w<1000000):3*jw (xJ l)<=4*(nw l-2+4):=by
 have:=a6S (f:=fun s:Nm => [tW s]) (G:=nw) (fun a l=>rfl) 44 l fun a b=>by have:=a7X b;have:=(AZ (dO (wl a)) (by omega)).1;rw[ku,kZ];omega
 grind [xJ,gz,jw]
theorem aV6 {x:Ins} {k:Nat} (a:g.length+1=k) (h:InW k x w) (b:w<999000):3*jw (kJ g x)<=4*w:=by obtain ⟨_,e⟩:=h;unfold iw at e;have c:=(AZ (dO (wl x.n)) (by omega)).1;have d:=(AZ (dO (wl x.t)) (by omega)).1;have:=aZJ (w:=w+2) (l:=x.es) (by omega) (by omega);grind [kJ,gz,ku,pR]
theorem cB4 {x:qj} (h:XcW x w) (c:w<999000):3*jw (sZ x)<=4*w:=by
 obtain ⟨_,e⟩:=h;unfold xw at e;have d:=(AZ (dO (wl x.n)) (by omega)).1;have:=a6S (f:=fun l:Nm×Nm => [tW l.1,tW l.2]) (G:=lw) (fun a l=>rfl) 44 x.ls fun a b=>by have:=aEX b;have:=(AZ (dO (wl a.1)) (by omega)).1;have:=(AZ (dO (wl a.2)) (by omega)).1;rw[ku,ku,kZ];omega
 unfold sZ;rw[gz,gz,ku,ku,pR,pR,kZ];grind
theorem b98 {x:Cst} (h:CtW x w) (d:w<999000):3*jw (ru x)<=4*w:=by
 obtain ⟨_,e⟩:=h;unfold YE at e;have g:=(AZ (dO (wl x.n)) (by omega)).1;have:=a6S (f:=fun l:Nm×Int=>gU l.2 ++ [tS [42],tW l.1]) (G:=tw) (fun a l=>rfl) 43 x.ts fun a c=>by have:=aIP c;have:=(AZ (dO (wl a.1)) (by omega)).1;have:=UH (dO (qE a.2)) (by omega);rw[gz,pR,ku,kZ];grind
 have i:=UH (dO (qE x.b)) (by omega);grind [ru,gz,ku,pR]
theorem aXM (I:Int) (b:List Int) (g:w<999000):∀ (l:List Nm) (i:Nat) (d:List Int),(∀ j,j∈b->(i:Int)<=j->j∈d)->xI l<=w->3*jw (xG I b i l)<=3*xI l+21*d.length+(if l = []\/I<(i:Int) then 0 else 24)
 | [],i,d,_,_=>by rw[xG,kZ]; omega
 | s::l,i,d,h,m=>by
  have e:xI (s::l)=wl s+12+xI l:=rfl;have n:=(AZ (dO (wl s)) (by omega)).1;have a1:jw (if (i:Int)=I then [tW [105,110,105,116,105,97,108]] else [])=if (i:Int)=I then 8 else 0:=by split<;>rfl
  have a2:jw (if (i:Int)∈b then [tW [109,97,114,107,101,100]] else [])=if (i:Int)∈b then 7 else 0:=by split<;>rfl
  have f:∃ a:List Int,(∀ j,j∈b->((i+1:Nat):Int)<=j->j∈a)/\(if (i:Int)∈b then 1 else 0)+a.length<=d.length:=by
   by_cases c:(i:Int)∈b
   .refine ⟨d.erase (i:Int),fun j o p => ?_,?_⟩;grind
    grind
   grind
  obtain ⟨a,k1,k2⟩:=f;have q:=aXM I b g l (i+1) a k1 (by omega);rw[xG];unfold CY;rw[gz,gz,gz,gz,ku,ku,pR,kZ];grind
theorem cA6 {v:Vr} (a:vw v<999000):jw (qf v)<=vw v+4:=by unfold vw at a ⊢;have b:=(AZ (dO (wl v.n)) (by omega)).1;have c:=UH (dO (qE v.lo)) (by omega);have d:=UH (dO (qE v.hi)) (by omega);have e:=UH (dO (qE v.i)) (by omega);grind [qf,gz,ku,pR]
def b2Z:∀ {l:List Vr},zN l<999000->jw (l.flatMap qf)<=zN l
 | [],_=>by simp[kZ]
 | v::l,h=>by have e:zN (v::l)=vw v+4+zN l:=rfl;have a:=cA6 (v:=v) (by omega);have b:=b2Z (l:=l) (by omega);rw[NQ,gz];omega
end
section
variable {w:Nat} {ns:List Nm}
def aNI {u:Nat} (a:uy ns.length x) (h:jX (dB ns) d 0 x u) (b:u<1000000):3*jw (vK ns x)<=4*u:=by have:=c3T h b _ (OX a).1;rwa [aJG] at this
variable {G:ByteArray} {C:Tm}
theorem a6D {l:List Nm} {i:Nat} (h:(dB l)[i]? = some G) (b:wl G.data.toList<999000):(l.getD i []).length<=wl G.data.toList:=by grind [wl,bs]
theorem b2Q {a:Int×EX} {v:Nat} (b:(dB ns)[a.1.toNat]? = some G) (c:jX (dB ns) d 0 a.2 v) (e:uy ns.length a.2) (f:wl G.data.toList+v<999000):3*jw (lY ns a)+6<=4*(wl G.data.toList+v+6):=by have g:=a6D b (by omega);have h:=aNI e c (by omega);grind [lY,ku,pR]
theorem b2T:∀ {d:List (Int×EX)} {u:Nat},FY (dB ns) d u->u<999000->(∀ x,x∈d->uy ns.length x.2)->3*jw (iL (tS [44]) (d.map (lY ns)))<=4*u-6
 | [],_,_,_,_=>by simp[iL,kZ]
 | [a],u,⟨s,k,v,r,_,f,g,h,e⟩,i,b=>by have j:=b2Q f g (b a (by simp)) (by omega);show 3*jw (lY ns a)<=_;omega
 | a::c::l,u,⟨s,k,v,r,_,f,g,h,e⟩,i,b=>by
  have j:=b2Q f g (b a (by simp)) (by omega);have q:=b2T h (by omega) fun x m=>b x (by simp[m])
  obtain ⟨t,w,y,z,_,n,o,p,A⟩:=h;rw[zV,zV,iL,gz,nX];grind
theorem b'U {x:Mv} (h:Qy (dB C.ls) (dB C.es) (dB (C.vs.map (·.n))) x w) (i:VR C x) (o:w<999000):3*jw (nN C x)<=4*(w+5):=by
 obtain ⟨_,a,b,c,g,u,⟨_,a1⟩,⟨_,j⟩,⟨_,l⟩,d,f,e⟩:=h;have p:=a6D a1 (by omega);have q:=a6D j (by omega);have r:=a6D l (by omega);have hv:(C.vs.map (·.n)).length=C.vs.length:=aZ _;have a2:3*jw (if gX x.g tE then [] else tW [119,104,101,110]::vK (C.vs.map (·.n)) x.g)<=4*g:=by
  rcases d with ⟨d,_⟩|⟨k,v,d,h6⟩
  grind [EJ,kZ]
  .have:=aNI (by rw[hv]; exact i.g) d (by omega);grind [kZ,ku]
 have a3:3*jw (if x.us = [] then [] else tW [100,111]::iL (tS [44]) (x.us.map (lY (C.vs.map (·.n)))))<=4*u:=by
  rcases f with ⟨f,_⟩|⟨v,f,h6,z⟩
  grind [kZ]
  .have:=b2T f (by omega) fun y m=>by rw[hv]; exact (i.us y m).2
   grind [kZ,ku]
 grind [nN,gz,ku,pR]
def aZ4 {t:Tm}:∀ {a:List Mv} {w:Nat},Hy (dB t.ls) (dB t.es) (dB (t.vs.map (·.n))) a w->(∀ x,x∈a->VR t x)->w<999000->3*jw (a.flatMap (nN t))<=4*w
 | [],_,_,_,_=>by simp[kZ]
 | x::a,w,⟨u,r,c,d,e⟩,b,g=>by have h:=b'U c (b x (by simp)) (by omega);have i:=aZ4 d (fun y f=>b y (by simp[f])) (by omega);rw[NQ,gz];omega
theorem c8I (h:TmW C w) (b:Df C) (c:w<999000):3*jw (mZ C)<=4*w:=by
 obtain ⟨g,⟨s,d,y,u,rfl,_,_,_,f,i⟩,e⟩:=h;have m:=(AZ (dO (wl s)) (by omega)).1;have n:=aZJ (w:=w+2) (l:=d) (by omega) (by omega);have o:=aXM y.I y.mr c y.ls 0 y.mr (fun j h _=>h) (by omega);have p:=b2Z (l:=y.vs) (by omega);have q:=aZ4 f b.ms (by omega);unfold mZ;rw[gz,gz,gz,gz,gz,gz,ku,ku,pR,pR,kZ];have r:12*(if y.ls = []\/y.I<((0:Nat):Int) then 0 else 1)<=xI y.ls:=by
  split
  .omega
  .cases v:y.ls with
   | nil=>simp_all
   | cons a l=>rw[xI]; omega
 grind
theorem b'P {m:Mo} {N W:Nat} {A:RA} (h:Hw m N W A) (i:FD m) (t:W<=22400):(eH (kw m)).length<=30000:=by obtain ⟨v,w,y,z,B,C,D,a,b,c,d,f,g,j,l,n,o,p,q,E⟩:=h;have F:=Nv (f:=tu) (W:=W) (fun x u _ h e=>by have:=bAD h (by omega); omega) j (by omega);have G:=Nv (W:=W) (fun x u r h e=>c8I h (i.ts x r).2 (by omega)) l (by omega);have H:=Nv (f:=kJ wC) (W:=W) (fun x u _ h e=>aV6 (by rfl) h (by omega)) n (by omega);have I:=Nv (f:=kJ wR) (W:=W) (fun x u _ h e=>aV6 (by rfl) h (by omega)) o (by omega);have J:=Nv (W:=W) (fun x u _ h e=>cB4 h (by omega)) p (by omega);have K:=Nv (W:=W) (fun x u _ h e=>b98 h (by omega)) q (by omega);have:=Yf (kw m);grind [kw,gz,ku,pR]
end
section
variable {w:Nat}
def BJ (h:wl g<=w) (a:w<999000):g.length<=20000:=by have:=(AZ h (by omega)).2;omega
def aV3 (h:qE n<=w) (c:w<999000):Va n:=by obtain ⟨a,b⟩:=b_G h (by omega);omega
theorem c88:tE.Len:=by have z:zE.Len := .mk (by decide) (by decide) (by decide) (by decide) (by simp);exact .mk (by simp) (by decide) (by decide) (by decide) (by simp[z])
def b2V {l:List ByteArray} (d:l.length<1000000000000):∀ {c:List (Int×EX)} {u:Nat},FY l c u->∀ x,x∈c->x.2.Len
 | [],_,_,_,b=>by simp at b
 | a::c,_,⟨s,k,v,r,_,_,e,f,_⟩,x,b=>by
  rcases jy.1 b with rfl | b
  .exact a_0 d e
  .exact b2V d f x b
theorem aZ3 {L E l:List ByteArray} (e:l.length<1000000000000):∀ {f:List Mv} {u:Nat},Hy L E l f u->∀ x,x∈f->x.g.Len/\x.us.length<=20000/\∀ u,u∈x.us->u.2.Len
 | [],_,_,_,b=>by simp at b
 | a::f,_,⟨u,r,h,i,_⟩,x,b=>by
  rcases jy.1 b with rfl | b
  .obtain ⟨j,_,_,_,_,_,_,_,_,c,d,_⟩:=h;refine ⟨?_,j,?_⟩
   .rcases c with ⟨c,_⟩|⟨k,v,c,_⟩
    grind [c88]
    .exact a_0 e c
   .rcases d with ⟨d,_⟩|⟨v,d,_⟩
    simp_all
    .exact b2V e d
  .exact aZ3 e i x b
theorem c8K {t:Tm} (h:TmW t w) (a:w<999000):t.n.length<=20000/\uz t:=by
 obtain ⟨i,⟨s,d,y,u,rfl,f,b,j,g,l⟩,e⟩:=h;have hv:(dB (y.vs.map (·.n))).length<1000000000000:=by have:=b.vs;grind
 have k1:s.length<=20000:=BJ (by omega) a;have k2:∀ z,z∈y.ls->z.length<=20000:=fun z c=>BJ (by have:=aYB c; omega) a
 have k3:∀ z,z∈d->z.length<=20000:=fun z c=>BJ (by have:=a7X c; omega) a
 have k4:∀ v,v∈y.vs->v.n.length<=20000/\Va v.lo/\Va v.hi:=fun v hv=>by have:=b39 hv;unfold vw at this;exact ⟨BJ (by omega) a,aV3 (by omega) a,aV3 (by omega) a⟩
 refine ⟨k1,⟨b.ls,k2⟩,⟨f,k3⟩,?_,b.mr,⟨b.vs,k4⟩,⟨b.ms,aZ3 hv g⟩⟩;grind [pV]
theorem bWM {x:Ins} {k:Nat} (h:InW k x w) (a:w<999000):x.n.length<=20000/\x.t.length<=20000/\Ai x.es:=by obtain ⟨b,e⟩:=h;unfold iw at e;exact ⟨BJ (by omega) a,BJ (by omega) a,b,fun s c=>BJ (by have:=a7X c; omega) a⟩
theorem aYS {m:Mo} {N W:Nat} {A:RA} (y:N<=40000) (z:W<=900000) (h:Hw m N W A):lm m:=by
 obtain ⟨B,C,D,E,F,G,H,a,b,c,d,f,g,q,I,J,K,r,v,L⟩:=h;refine ⟨by omega,⟨by omega,fun e he => ?_⟩,⟨by omega,fun t M => ?_⟩,⟨by omega,by omega,fun x j => ?_⟩,⟨by omega,fun x j => ?_⟩,⟨by omega,fun x j => ?_⟩⟩
 .obtain ⟨u,i,p⟩:=Qx q e he;have i:u=OQ e:=i;unfold OQ at i;exact BJ (w:=u) (by omega) (by omega)
 grind [Qx,c8K]
 grind [Qx,bWM]
 .obtain ⟨u,⟨i,n⟩,p⟩:=Qx r x j;unfold xw at n;exact ⟨BJ (w:=u) (by omega) (by omega),i,fun l o=>by have:=aEX o;exact ⟨BJ (w:=u) (by omega) (by omega),BJ (w:=u) (by omega) (by omega)⟩⟩
 .obtain ⟨u,⟨i,n⟩,p⟩:=Qx v x j;unfold YE at n;exact ⟨BJ (w:=u) (by omega) (by omega),i,fun l o=>by have:=aIP o;exact BJ (w:=u) (by omega) (by omega)⟩
end
def c3Y {b:UInt8} {r:List UInt8} (h:(dw (b::r)).2=0) (c l:Int):BZ ((dw (b::r)).1.at c l)+om ((b::r).drop (dw (b::r)).1.text.length)<=om (b::r):=by
 have a:=(Pg h).1;rw[show dw (b::r)=if gq b.toNat then Cm (b::r) else if iU b.toNat then DN (b::r) else Es (b::r) from rfl] at h a ⊢;split at h
 .rename_i e;rw[ay e] at a ⊢;unfold Cm at h a ⊢;split at h
  .cases h
  .rename_i d;rw[aX d] at a ⊢;split at h
   .cases h
   .rename_i m;rw[aX m] at a ⊢;split at h
    .cases h
    .rename_i n j;rw[j] at a;dsimp only at a;have:=b_F d j a;show (Lib.decDigits ((n:Nat):Int).toNat).length+1+_<=_;rw[nC];exact this
 .rename_i e;rw[aX e] at a ⊢;split at h
  .rename_i f;rw[ay f] at a ⊢;unfold DN at h a ⊢;split at h
   .cases h
   .rename_i d;rw[aX d] at a ⊢;dsimp only at a ⊢;have g:∀ s:List UInt8,s.length<=32->wl s<=s.length:=fun s o=>by rw[wl,ay (by omega)]; exact dO _
    exact jO (Nat.add_le_add_right (Nat.add_le_add_right (g _ (Nat.le_of_not_lt d)) 1) _) (b3D a)
  .rename_i f;rw[aX f] at a ⊢;unfold Es at h a ⊢;split at h
   .rename_i x i;rw[i] at a;dsimp only at a;have p:=c82 i;have q:=aJF x (QH i).1;show wl x+1+om ((b::r).drop x.length)<=_;omega
   .cases h
def aJH:∀ (A B:List Tok),zQ (A ++ B)=zQ A+zQ B
 | [],B=>by simp[zQ]
 | a::A,B=>by rw[pF,zQ,zQ,aJH A B]; omega
def b09:∀ (f:Nat) (a:List UInt8) (i d start:Nat) (bZ e:List Tok),uj f a i d start bZ = .ok e->e.length<=bZ.length+a.length+1/\zQ e<=zQ bZ+om a+1
 | 0,_,_,_,_,_,_,h=>by cases h
 | f+1,a,i,d,start,bZ,e,h=>by
  rw[uj] at h;split at h
  .injection h with h
   subst h;rw[aJH];show _/\_+(0+1+0)<=_;simp
  .split at h
   .rename_i b r j c;have m:=Pg c;have g:=b09 f _ _ _ _ _ _ h;have n:=c3Y c (((vT (a.take (jJ false a)) i (d,start)).1:Nat):Int) ((i+jJ false a-(vT (a.take (jJ false a)) i (d,start)).2+1:Nat):Int);have l:=aFH (a.take (jJ false a)) (a.drop (jJ false a));rw[NR,j] at l;have o:(b::r).length<=a.length:=by rw[<- j,qH]; omega
    rw[aJH] at g;rw[aY,qH] at g;refine ⟨?_,?_⟩
    .have:=g.1;simp only[xg] at this;omega
    .have:=g.2;simp only[zQ] at this;omega
   .cases h
theorem aZ7 {t:List UInt8} (h:t.length<=40000):(zA t).N<=40001/\(zA t).W<=om t+1:=by
 unfold zA;cases e:vX t with
 | ok c =>unfold vX at e;rw[aX (by omega)] at e;have:=b09 _ _ _ _ _ _ _ e;grind [RA.N,RA.W,zQ]
 | err a b e =>unfold RA.N RA.W;simp[zQ]
abbrev rM:R:=some (.bool true,[])
def bZU:(((l.length:Nat):Int) !=((l.length:Nat):Int))=false:=by simp
def sl {X:R} {L:Nat->R} {E:R} (a:∀ k,k<l.length->L k=L (k+1)) (he:L l.length=E):aB (((l.length:Nat):Int) !=((l.length:Nat):Int)) X (L 0)=E:=by rw[bZU];exact lS a he
def aI2 (b:r.length<=20000):SS.CC 56 [.sl false 1 (aJ r),.sl false 1 (aJ r)] []=rM:=by rw[bD3];refine sl (L:=fun k=>a2O (aJ r) (aJ r) (k:Int)) (fun k hk => ?_) (by rw[aOZ,aU (by omega),aF]);rw[fJ] at hk;rw[aOZ,aK (by rw[fJ]; omega),yx hk,je,yx hk,bK (by omega)];simp[aB]
theorem a_Y {a:List Int} (b:a.length<=20000):SS.CC 57 [.sl false 1 (fP a),.sl false 1 (fP a)] []=rM:=by rw[aO'];refine sl (L:=fun k=>X5 (fP a) (fP a) (k:Int)) (fun k hk => ?_) (by rw[a2P,aU (by omega),aF]);grind [a2P,LK,vZ,bK,aB]
theorem c5N {a:List Vr} (b:a.length<=20000):SS.CC 58 [.sl false 4 (a.map jI),.sl false 4 (a.map jI)] []=rM:=by
 rw[bDA];refine sl (L:=fun k=>a2Q (a.map jI) (a.map jI) (k:Int)) (fun k hk => ?_) (by rw[aP0,aU (by omega),aF]);have hk:k<a.length:=by grind
 rw[aP0,aK (by omega),Ir hk,Ir hk,bK (by omega)];simp[aB]
theorem c5O {a:List nD} (b:a.length<=20000):SS.CC 61 [.sl false 5 (a.map wK),.sl false 5 (a.map wK)] []=rM:=by
 rw[bDJ];refine sl (L:=fun k=>a2S (a.map wK) (a.map wK) (k:Int)) (fun k hk => ?_) (by rw[aP2,aU (by omega),aF]);have hk:k<a.length:=by grind
 rw[aP2,aK (by omega),P6 hk,P6 hk,bK (by omega)];simp[aB]
theorem c5Q {a:List (Nm×Nm)} (b:a.length<=20000):SS.CC 66 [.sl false 2 (a.map yE),.sl false 2 (a.map yE)] []=rM:=by
 rw[bD'];refine sl (L:=fun k=>KD (a.map yE) (a.map yE) (k:Int)) (fun k hk => ?_) (by rw[aP6,aU (by omega),aF]);have hk:k<a.length:=by grind
 rw[aP6,aK (by omega),P7 hk,P7 hk,bK (by omega)];simp[aB]
theorem c5R {a:List (Nm×Int)} (b:a.length<=20000):SS.CC 69 [.sl false 2 (a.map PT),.sl false 2 (a.map PT)] []=rM:=by
 rw[bEC];refine sl (L:=fun k=>NH (a.map PT) (a.map PT) (k:Int)) (fun k hk => ?_) (by rw[aP9,aU (by omega),aF]);have hk:k<a.length:=by grind
 rw[aP9,aK (by omega),P8 hk,P8 hk,bK (by omega)];simp[aB]
theorem sUs {a:List (Int×EX)} (b:a.length<=20000) (h:∀ u,u∈a->u.2.Len):SS.CC 53 [.sl false 5 (a.map sW),.sl false 5 (a.map sW),.func (.func 54) [] []] []=rM:=by
 rw[bCY];refine sl (L:=fun k=>RD (a.map sW) (a.map sW) (k:Int)) (fun k hk => ?_) (by rw[aOY,aU (by omega),aF]);have hk:k<a.length:=by grind
 have e:SS.CC 54 [sW a[k],sW a[k]] []=rM:=by rw[bCZ,bC (fZ (h _ (dZ hk)) _),EJ,D5,aI]
 rw[aOY,aK (by omega),LQ hk,LQ hk,bC e,bK (by omega)];simp[aB]
theorem sMs {a:List Mv} (f:a.length<=20000) (h:∀ x,x∈a->x.g.Len/\x.us.length<=20000/\∀ u,u∈x.us->u.2.Len):SS.CC 59 [.sl false 8 (a.map sN),.sl false 8 (a.map sN),.func (.func 51) [] []] []=rM:=by
 rw[bDE];refine sl (L:=fun k=>a2R (a.map sN) (a.map sN) (k:Int)) (fun k hk => ?_) (by rw[aP1,aU (by omega),aF]);have hk:k<a.length:=by grind
 obtain ⟨b,c,d⟩:=h _ (dZ hk);have e:SS.CC 51 [sN a[k],sN a[k]] []=rM:=by rw[bCU,bC (fZ b _),bC (sUs c d),EJ];simp_all
 rw[aP1,aK (by omega),U1 hk,U1 hk,bC e,bK (by omega)];simp[aB]
theorem sTs {a:List Tm} (b:a.length<=20000) (h:∀ x,x∈a->uz x):SS.CC 62 [.sl false 9 (a.map wM),.sl false 9 (a.map wM),.func (.func 55) [] [.ptr 0 0]] [some [.func (.func 51) [] []]]=some (.bool true,[some [.func (.func 51) [] []]]):=by
 rw[bDN];refine sl (L:=fun k=>Zt (a.map wM) (a.map wM) (k:Int)) (fun k hk => ?_) (by rw[aP3,aU (by omega),aF]);have hk:k<a.length:=by grind
 have q:=h _ (dZ hk);have e:SS.CC 55 [wM a[k],wM a[k],.ptr 0 0] [some [.func (.func 51) [] []]]=some (.bool true,[some [.func (.func 51) [] []]]):=by
  rw[bC'];try dsimp only[fV]
  rw[bC (aI2 q.ls.1),bC (aI2 q.es.1),bC (a_Y q.al),bC (a_Y q.mr),bC (c5N q.vs.1),bC (sMs q.ms.1 q.ms.2)];simp_all
 rw[aP3,aK (by omega),Iq hk,Iq hk,aKD e,bK (by omega)];simp[aB]
theorem sIs {a:List Ins} (b:a.length<=20000) (h:∀ x,x∈a->x.es.length<=20000):SS.CC 63 [.sl false 3 (a.map dN),.sl false 3 (a.map dN),.func (.func 60) [] []] []=rM:=by
 rw[bDR];refine sl (L:=fun k=>a2U (a.map dN) (a.map dN) (k:Int)) (fun k hk => ?_) (by rw[aP4,aU (by omega),aF]);have hk:k<a.length:=by grind
 have e:SS.CC 60 [dN a[k],dN a[k]] []=rM:=by rw[bDF,bC (aI2 (h _ (dZ hk)))];simp_all
 rw[aP4,aK (by omega),BD hk,BD hk,bC e,bK (by omega)];simp[aB]
theorem sXs {a:List qj} (b:a.length<=20000) (h:∀ x,x∈a->x.ls.length<=20000):SS.CC 64 [.sl false 2 (a.map wL),.sl false 2 (a.map wL),.func (.func 65) [] []] []=rM:=by
 rw[bDV];refine sl (L:=fun k=>NG (a.map wL) (a.map wL) (k:Int)) (fun k hk => ?_) (by rw[aP5,aU (by omega),aF]);have hk:k<a.length:=by grind
 have e:SS.CC 65 [wL a[k],wL a[k]] []=rM:=by rw[bDW,bC (c5Q (h _ (dZ hk)))];simp_all
 rw[aP5,aK (by omega),Gf hk,Gf hk,bC e,bK (by omega)];simp[aB]
theorem sCs {a:List Cst} (b:a.length<=20000) (h:∀ x,x∈a->x.ts.length<=20000):SS.CC 67 [.sl false 3 (a.map oZ),.sl false 3 (a.map oZ),.func (.func 68) [] []] []=rM:=by
 rw[bE3];refine sl (L:=fun k=>a2X (a.map oZ) (a.map oZ) (k:Int)) (fun k hk => ?_) (by rw[aP7,aU (by omega),aF]);have hk:k<a.length:=by grind
 have e:SS.CC 68 [oZ a[k],oZ a[k]] []=rM:=by rw[bE8,bC (c5R (h _ (dZ hk)))];simp_all
 rw[aP7,aK (by omega),Ip hk,Ip hk,bC e,bK (by omega)];simp[aB]
theorem sMo {m:Mo} (h:lm m):SS.CC 19 [A0 (aV m),A0 (aV m)] []=rM:=by
 rw[bQF,bC (c5O h.es.1),aKD (sTs h.ts.1 fun t b=>(h.ts.2 t b).2),bC (sIs h.is.1 fun x a=>(h.is.2.2 x (VB _ a)).2.2.1),bC (sIs h.is.2.1 fun x a=>(h.is.2.2 x (VC _ a)).2.2.1),
  bC (sXs h.xs.1 fun x a=>(h.xs.2 x a).2.1),bC (sCs h.ks.1 fun x a=>(h.ks.2 x a).2.1)]
 simp_all
section
end
section
variable {t:List UInt8}
theorem c2C (o:t.length<=40000) (p:(zA t).W<=22400):PQ (fun m=>∃ N W D,N<=40000/\W<=22400/\Hw m N W D) (SS.CC 10 [.str (bs t)] []) (SS.CC 17 [.str (bs t)] []):=by
 have w:=(aZ7 o).1;have w0:=p;have f:=b'Y t;have c:=Le.exp f [109,111,100,101,108];have d:=Le.name c.ok;have g:=Le.exp d.ok [59];rw[bQE,aKC (aZA t),bC7,aKC (aZA t)];try dsimp only
 rw[bg (fA f _),bg (fA f _)];try dsimp only
 rw[lZ (mG c.ok),lZ (mG c.ok)];try dsimp only
 rw[bg (fA d.ok _),bg (fA d.ok _)];try dsimp only
 have n:((((zA t).exp [109,111,100,101,108]).name).exp [59]).N<=40000:=by
  by_cases e:(((zA t).exp [109,111,100,101,108]).name).e=0
  .have:=(PG c.ok e).2;have:=c.le;have:=g.le;omega
  .rw[Ve (fun q=>e (g.e0 q))];omega
 have r:((((zA t).exp [109,111,100,101,108]).name).exp [59]).W<=22400:=by
  by_cases e:((((zA t).exp [109,111,100,101,108]).name).exp [59]).e=0
  .have i:=g.e0 e;have j:=d.e0 i;have:=o9 d.ok e;have:=Iz c.ok i;have:=o9 f j;omega
  grind [RA.W]
 have l:=dQ (m:=⟨((zA t).exp [109,111,100,101,108]).iI,[],[],[],[],[],[]⟩) n (fun m A u=>aYS n (jO r (by decide)) u) [] [] g.ok fun e=>by have i:=g.e0 e;have j:=d.e0 i;have x:=Iz c.ok i;have y:=o9 f j;have v:=(AZ (dO (wl ((zA t).exp [109,111,100,101,108]).iI)) (by omega)).2;refine ⟨v,by simp,by simp,by simp,by simp,by simp,by simp,0,0,0,0,0,0,rfl,rfl,rfl,rfl,rfl,rfl,by omega⟩
 obtain ⟨M,a,b,e,k1,k2,k3,k4⟩:=l;exact ⟨M,a,b,e,k1,k2,fun h=>by grind,k4⟩
def b'4:lm m00:=⟨by simp,by simp,by simp,by simp,by simp,by simp⟩
theorem D_ (j:t.length<=40000) (l:(zA t).W<=22400):SS.CC 6 [.str (bs t)] []=some (.bool true,[]):=by
 obtain ⟨M,a,b,e,k1,k2,k3,k4⟩:=c2C j l;by_cases he:e=0
 .subst he;obtain ⟨rfl,rfl,f,N,W,D,m,g,c⟩:=k3 rfl;have d:=aYS m (jO g (by decide)) c;have h:M.cs.length+M.rs.length<=20000:=by have:=c.cs; have:=c.rs; omega
  have i:=b'P c (a6B d f) (jO g (by decide));have s1:=sMo d;rw[aS4,Qj k1,Qj k2,aJY (bB5 k1 d h f i)];show aB false _ (aB false _ (aB false _ _))=_;rw[aF,aF,aF,bC s1,ut,aF];show aB false _ (aB true (aB true (aB true _ _) _) _)=_;rw[aF,aI,aI,aI,nR (b1W d h f i),D5]
 .obtain rfl:=k4 he;have n:SS.CC 18 [.str (bs t)] []=some (.tuple [.str ⟨#[]⟩,.int .i64 a,.int .i64 b,.int .i64 e],[]):=by rw[aST,Qj k1];grind [aI]
  have s1:=sMo b'4;rw[aS4,Qj k1,Qj k2,aJY n];show aB (e != e) _ (aB (a != a) _ (aB (b != b) _ _))=_;rw[bne_self_eq_false,aF,bne_self_eq_false,aF,bne_self_eq_false,aF,bC s1,ut,aF];grind [aI]
end
section
def PU:List (d_) := [[],[59],[32,101,118,101,110,116,32,97,59],[32,116,101,109,112,108,97,116,101,32,116,48,40,41,32,123,125],[32,105,110,105,116,105,97,108],[116,114,117,101],[49],[45],[40],[41],[32,120,48],[32,119,104,101,110],[32,100,111],[44],[125],[32,47,47,32,99,10],[32,102,97,117,108,116,32,53],[32,99,111,109,112,111,110,101,110,116,32,99,48,32,61,32,116,40,41,59],[63],[58],[36],[46,46],[32,118,97,114,32,116,114,117,101,32,58,32,48,32,46,46,32,49,32,61,32,48,59]]
abbrev aFZ:ai:=PU.map fun l => .str ⟨l.toArray⟩
abbrev DF (s:b_) (n:Int):Int:=Int.tmod (i64.wrap n) (i64.wrap ((s.size:Int)+1))
abbrev MQ (s:b_) (n:Int):b_:=s.extract (DF s n).toNat s.size
abbrev ZH (s:b_) (n m:Int):Int:=if i64.wrap (Int.tmod m 12)<((MQ s n).size:Int) then i64.wrap (Int.tmod m 12) else ((MQ s n).size:Int)
def bUU (a0:Sh.V S2) (a1 a2:Sh.V S3):SS.CC 3 [A2 a0,A3 a1,A3 a2] []=G3 4 [] fun d=>aB (!d) (G3 4 [] fun e=>some (.bool e,[])) (G3 5 [A2 a0] fun f=>aB (!f) (G3 4 [] fun g=>some (.bool g,[])) (G8 9 [A2 a0] fun h=>G2 8 [A0 h] fun a=>G2 7 [.str a,A3 a1] fun b=>G2 7 [.str b,A3 a2] fun c=>G3 6 [.str c] fun i=>some (.bool i,[]))):=cc
def bPQ:KT:=SS.rK Tryz.f7 7 0 []
def a5E (a:b_) (b:Sh.V S3) (c:b_):R:=bD (SS.xX 7 46 0) (cS Tryz.f7 63) bPQ ⟨[(0,.str a),(3,.cst (A3 b)),(5,.sl true 1 aFZ),(6,aP (DF a b.1)),(7,.str c)],[]⟩
def bPP (a:b_) (b:Sh.V S3) (c:b_):a5E a b c=bJ (decide (0<=(DF a b.1))&&decide ((DF a b.1)<=(a.size:Int))) (dD aFZ (Int.tmod (i64.wrap b.2.2.1) 23) fun e=>vS e fun d=>bJ (decide ((a.extract 0 (DF a b.1).toNat).size+d.size<=aN)) (bJ (decide (((a.extract 0 (DF a b.1).toNat) ++ d).size+c.size<=aN)) (some (.str (((a.extract 0 (DF a b.1).toNat) ++ d) ++ c),[])))):=by kernel_rfl
def bPR (a0:b_) (a1:Sh.V S3):SS.CC 7 [.str a0,A3 a1] []=bJ (!((i64.wrap ((a0.size:Int)+1))==0)) (bJ (decide (0<=(DF a0 a1.1))&&decide ((DF a0 a1.1)<=(a0.size:Int))) (aB (decide (128<=a1.2.2.1)) (bJ (decide (0<=(ZH a0 a1.1 a1.2.1))&&decide ((ZH a0 a1.1 a1.2.1)<=((MQ a0 a1.1).size:Int))) (a5E a0 a1 ((MQ a0 a1.1).extract (ZH a0 a1.1 a1.2.1).toNat (MQ a0 a1.1).size))) (a5E a0 a1 (MQ a0 a1.1)))):=cc
end
def aLT (a b:List UInt8):bs a ++ bs b=bs (a ++ b):=by apply ByteArray.ext;rw[ByteArray.data_append];show a.toArray ++ b.toArray=(a ++ b).toArray;simp
def c8N (h:0<=n):Int.tmod n ((p:Int)+1)=((n.toNat % (p+1):Nat):Int):=by obtain ⟨a,rfl⟩:=Int.eq_ofNat_of_zero_le h;rw[QU h,nC];norm_cast
def Vq (a:Sh.V S3):Prop:=(0<=a.1/\a.1<65536)/\(0<=a.2.1/\a.2.1<65536)/\0<=a.2.2.1/\a.2.2.1<256
def a'P:∀ q,q∈PU->q.length<=23:=by decide
def slJ (c:Vq y) (j:g.length<=39000) (d:DF (bs g) y.1=(p:Int)) (f:p<=g.length) (r:Nm) (l:r.length<=39000) :
 ∃ q,q∈PU/\a5E (bs g) y (bs r)=some (.str (bs (g.take p ++ q ++ r)),[]):=by
 obtain ⟨_,_,h,m⟩:=c;have e:Int.tmod (i64.wrap y.2.2.1) 23=((y.2.2.1.toNat % 23:Nat):Int):=by rw[wrap64 (by omega) (by omega),QU h]; omega
 have b:y.2.2.1.toNat % 23<PU.length:=Nat.mod_lt _ (by decide);refine ⟨PU[y.2.2.1.toNat % 23],dZ b,?_⟩;have n:=a'P _ (dZ b);have i:(aFZ)[(((y.2.2.1.toNat % 23:Nat):Int)).toNat]? = some (.str (bs PU[y.2.2.1.toNat % 23])):=by rw[nC,nP,kV b]; rfl
 rw[bPP,d,e,lH,aQ (by simp; omega),nK (by omega) i,je,nC,RY];rw[aQ (aK (by simp only[lH,ve,qH]; show _<=1073741824; omega))];rw[aLT,aQ (aK (by simp only[lH,aY,ve,qH]; show _<=1073741824; omega)),aLT];simp
def b0X {s:Nm} (d:Vq y) (i:s.length<=39000):∃ t,SS.CC 7 [.str (bs s),A3 y] []=some (.str (bs t),[])/\t.length<=s.length+23/\om t<=om s+47:=by
 have o:=d.1;have b:DF (bs s) y.1=((y.1.toNat % (s.length+1):Nat):Int):=by unfold DF;rw[lH,wrap64 (by omega) (by omega),wrap64 (by omega) (by omega),c8N o.1]
 have f:y.1.toNat % (s.length+1)<=s.length:=by have:=Nat.mod_lt y.1.toNat (show 0<s.length+1 by omega); omega
 generalize y.1.toNat % (s.length+1)=p at b f;have j:MQ (bs s) y.1=bs (s.drop p):=by unfold MQ; rw[b,nC,RZ]
 have c:∀ k,∀ q,q∈PU->(s.take p ++ q ++ (s.drop p).drop k).length<=s.length+23/\om (s.take p ++ q ++ (s.drop p).drop k)<=om s+47:=fun k q hq=>by have v:=a'P q hq;have w:=Lh (s.take p ++ q) ((s.drop p).drop k);have l:=Lh (s.take p) q;have x:=aFG q;have h6:=aZ' (s.take p) (s.drop p);have r:=aFH ((s.drop p).take k) ((s.drop p).drop k);rw[NR] at h6 r;refine ⟨?_,by omega⟩;simp only[aY,ve,qH];omega
 rw[bPR,j,b,lH,lH,aQ (by rw[wrap64 (by omega) (by omega)]; simp; omega),aQ (by simp; omega)];by_cases m:128<=y.2.2.1
 .have u:∃ k:Nat,ZH (bs s) y.1 y.2.1=(k:Int)/\k<=(s.drop p).length:=by
   have l:=d.2.1;have e:i64.wrap (Int.tmod y.2.1 12)=((y.2.1.toNat % 12:Nat):Int):=by rw[QU l.1,wrap64 (by omega) (by omega)]; omega
   unfold ZH;rw[e,j,lH];split
   .exact ⟨_,rfl,by omega⟩
   .exact ⟨_,rfl,dO _⟩
  obtain ⟨k,k1,k2⟩:=u;have k3:k<=s.length-p:=by rwa [qH] at k2
  rw[aK m,aI,k1,aQ (by simp; omega),nC];have n:(bs (s.drop p)).extract k (bs (s.drop p)).size=bs ((s.drop p).drop k):=RZ _ _;rw[lH] at n;rw[n];obtain ⟨q,g,h⟩:=slJ d i b f ((s.drop p).drop k) (by simp only[qH]; omega);exact ⟨_,h,c k q g⟩
 .rw[aU m,aF];obtain ⟨q,g,h⟩:=slJ d i b f (s.drop p) (by simp only[qH]; omega);exact ⟨_,h,c 0 q g⟩
def c8 {s:Sk} (f:SkT s) {b:Sh.V S3} (g:Vq y) (h:Vq b):SS.CC 3 [A2 (sV s),A3 y,A3 b] []=some (.bool true,[]):=by
 obtain ⟨c,e,i⟩:=c7G f;rw[bUU,bC wI,ut,aF,bC e];cases c with
 | false=>rw[su,aI,bC wI]
 | true =>
  obtain ⟨m,j,d⟩:=Ce (i rfl);have l:=okm d;have n:m.cs.length+m.rs.length<=20000:=by have:=d.is.1; omega
  have o:=aM6 d;have p:=b'O d;have v:=txl d;have w:=b_R d;obtain ⟨t,q,x,z⟩:=b0X (s:=MZ m) g (by omega);obtain ⟨u,r,A,B⟩:=b0X (s:=t) h (by omega);have C:=(aZ7 (t:=u) (by omega)).2;rw[ut,aF,b3Y j,nR (b1W l n o p)];try dsimp only
  rw[nR q,nR r,bC (D_ (by omega) (by omega))]
end Go.Proofs.YtmbehibpfkkjbaaGreatDoor.W
namespace Go.Proofs.YtmbehibpfkkjbaaGreatDoor
open Go.RowKit Go.ChangeShapes Go.WideShapes Go.ChangeAt
set_option maxRecDepth 100000
def b95:List TypeId := [5,95,30,71,251,70,96,27,86,25,89,26,23,73,24,29,32]
def aB7:aB4 Tryz.prog b95=true:=by kernel_rfl
def Rl:Tryz.prog.cellsOf 5=1:=by kernel_rfl
def aM9:Tryz.prog.cellsOf 95=1:=by kernel_rfl
variable {p f:Nat} {l:List PV} {h:TypeId} {I:List (Nat×TypeId)}
theorem xR (h:jW Tryz.prog p 5 l):∃ n,l = [.int .u8 n]/\W.U8 n:=by obtain ⟨c,rfl⟩:=b0O h;have:=c.toNat_lt;grind
def ZG (h:jW Tryz.prog p 95 l):∃ n,l = [.int .i8 n]/\W.I8 n:=by
 cases p with
 | zero=>exact h.elim
 | succ p =>simp only[jW,Tryz.underlying95] at h;obtain ⟨n,rfl,a⟩:=h;refine ⟨n,rfl,?_⟩;simp[Lit.wf,IntKind.min,IntKind.max,IntKind.signed,IntKind.bits] at a;exact a
def b0J (h:jW Tryz.prog p 30 l):∃ n,l = [.int .u16 n]/\0<=n/\n<65536:=by
 cases p with
 | zero=>exact h.elim
 | succ p =>simp only[jW,Tryz.underlying30] at h;obtain ⟨n,rfl,a⟩:=h;refine ⟨n,rfl,?_⟩;simp[Lit.wf,IntKind.min,IntKind.max,IntKind.signed,IntKind.bits] at a;omega
theorem kQ (h:l.length=p+1):∃ a b,l=a::b/\b.length=p:=by
 match l,h with
 | a::b,h=>grind
def ZF {a b:_} (e:Tryz.prog.underlying h=some (.array a b)) (g:ed Tryz.prog h=I) (hk:Tryz.prog.cellsOf h=p) (c:jW Tryz.prog f h l) :
 l.length=p/\∃ d,∀ x,x∈I->jW Tryz.prog d x.2 ((l.drop x.1).take (Tryz.prog.cellsOf x.2)):=by
 cases f with
 | zero=>exact c.elim
 | succ f =>simp only[jW,e,g,hk] at c;exact ⟨c.1,f,c.2⟩
def aIC {a:_} (d:Tryz.prog.underlying h=some (.struct a)) (e:ed Tryz.prog h=I) (hk:Tryz.prog.cellsOf h=p) (b:jW Tryz.prog f h l) :
 l.length=p/\∃ c,∀ x,x∈I->jW Tryz.prog c x.2 ((l.drop x.1).take (Tryz.prog.cellsOf x.2)):=by
 cases f with
 | zero=>exact b.elim
 | succ f =>simp only[jW,d,e,hk] at b;exact ⟨b.1,f,b.2⟩
theorem Ud {e:TypeId} {k:Nat} {d:Type} {f:d->PV} {Q:d->Prop} (i:Tryz.prog.underlying h=some (.slice e)) (hk:Tryz.prog.cellsOf e=k)
 (m:∀ {p:Nat} {g:List PV},jW Tryz.prog p e g->∃ x,zt Tryz.prog e g=f x/\Q x) (a:jW Tryz.prog p h l):∃ b:List d,l = [.sl false k (b.map f)]/\∀ x,x∈b->Q x:=by
 cases p with
 | zero=>exact a.elim
 | succ p =>
  simp only[jW,i] at a;obtain ⟨es,rfl,n,j⟩:=a;obtain ⟨b,rfl,hq⟩:=aXZ (f:=f) (Q:=Q) (es:=es) fun c o=>by grind
  grind
theorem x_ (a:I7 Tryz.prog h=true):zt Tryz.prog h l = .agg l:=by grind [zt]
def aMB:Tryz.prog.cellsOf 251=2:=by kernel_rfl
def c2I:ed Tryz.prog 251 = [(0,95),(1,95)]:=by kernel_rfl
def c6A (h:jW Tryz.prog p 251 l):∃ x:Int×Int,l = [.int .i8 x.1,.int .i8 x.2]/\W.I8 x.1/\W.I8 x.2:=by obtain ⟨c,p,h⟩:=ZF Tryz.underlying251 c2I aMB h;obtain ⟨a0,n,rfl,l0⟩:=kQ c;obtain ⟨a1,o,rfl,d⟩:=kQ l0;obtain rfl:=oK d;have a:=h (0,95) (by simp);have b:=h (1,95) (by simp);simp only[aM9,List.drop,List.take] at a b;obtain ⟨e,f,g⟩:=ZG a;obtain ⟨i,j,m⟩:=ZG b;cases f;cases j;exact ⟨(e,i),rfl,g,m⟩
def aMC:Tryz.prog.cellsOf 96=3:=by kernel_rfl
def c2J:ed Tryz.prog 96 = [(0,95),(1,95),(2,95)]:=by kernel_rfl
def c6C (h:jW Tryz.prog p 96 l):∃ x:Int×Int×Int,l = [.int .i8 x.1,.int .i8 x.2.1,.int .i8 x.2.2]/\W.I8 x.1/\W.I8 x.2.1/\W.I8 x.2.2:=by obtain ⟨d,p,h⟩:=ZF Tryz.underlying96 c2J aMC h;obtain ⟨a0,u,rfl,l0⟩:=kQ d;obtain ⟨a1,v,rfl,e⟩:=kQ l0;obtain ⟨a2,w,rfl,f⟩:=kQ e;obtain rfl:=oK f;have a:=h (0,95) (by simp);have b:=h (1,95) (by simp);have c:=h (2,95) (by simp);simp only[aM9,List.drop,List.take] at a b c;obtain ⟨g,i,j⟩:=ZG a;obtain ⟨m,n,o⟩:=ZG b;obtain ⟨q,r,t⟩:=ZG c;cases i;cases n;cases r;exact ⟨(g,m,q),rfl,j,o,t⟩
def aMD:Tryz.prog.cellsOf 86=3:=by kernel_rfl
def c2K:ed Tryz.prog 86 = [(0,5),(1,5),(2,5)]:=by kernel_rfl
def c6E (h:jW Tryz.prog p 86 l):∃ x:Int×Int×Int,l = [.int .u8 x.1,.int .u8 x.2.1,.int .u8 x.2.2]/\W.U8 x.1/\W.U8 x.2.1/\W.U8 x.2.2:=by obtain ⟨d,p,h⟩:=ZF Tryz.underlying86 c2K aMD h;obtain ⟨a0,u,rfl,l0⟩:=kQ d;obtain ⟨a1,v,rfl,e⟩:=kQ l0;obtain ⟨a2,w,rfl,f⟩:=kQ e;obtain rfl:=oK f;have a:=h (0,5) (by simp);have b:=h (1,5) (by simp);have c:=h (2,5) (by simp);simp only[Rl,List.drop,List.take] at a b c;obtain ⟨g,i,j⟩:=xR a;obtain ⟨m,n,o⟩:=xR b;obtain ⟨q,r,t⟩:=xR c;cases i;cases n;cases r;exact ⟨(g,m,q),rfl,j,o,t⟩
def aMF:Tryz.prog.cellsOf 89=4:=by kernel_rfl
def c2M:ed Tryz.prog 89 = [(0,5),(1,5),(2,5),(3,5)]:=by kernel_rfl
def c6F (h:jW Tryz.prog p 89 l):∃ x:Int×Int×Int×Int,l = [.int .u8 x.1,.int .u8 x.2.1,.int .u8 x.2.2.1,.int .u8 x.2.2.2]/\W.U8 x.1/\W.U8 x.2.1/\W.U8 x.2.2.1/\W.U8 x.2.2.2:=by obtain ⟨e,p,h⟩:=ZF Tryz.underlying89 c2M aMF h;obtain ⟨a0,A,rfl,l0⟩:=kQ e;obtain ⟨a1,B,rfl,f⟩:=kQ l0;obtain ⟨a2,C,rfl,g⟩:=kQ f;obtain ⟨a3,D,rfl,i⟩:=kQ g;obtain rfl:=oK i;have a:=h (0,5) (by simp);have b:=h (1,5) (by simp);have c:=h (2,5) (by simp);have d:=h (3,5) (by simp);simp only[Rl,List.drop,List.take] at a b c d;obtain ⟨j,m,n⟩:=xR a;obtain ⟨o,q,r⟩:=xR b;obtain ⟨t,u,v⟩:=xR c;obtain ⟨w,y,z⟩:=xR d;cases m;cases q;cases u;cases y;exact ⟨(j,o,t,w),rfl,n,r,v,z⟩
def aM8:Tryz.prog.cellsOf 23=5:=by kernel_rfl
def c2E:ed Tryz.prog 23 = [(0,5),(1,5),(2,5),(3,5),(4,5)]:=by kernel_rfl
def c65 (h:jW Tryz.prog p 23 l):∃ x:Int×Int×Int×Int×Int,l = [.int .u8 x.1,.int .u8 x.2.1,.int .u8 x.2.2.1,.int .u8 x.2.2.2.1,.int .u8 x.2.2.2.2]/\W.U8 x.1/\W.U8 x.2.1/\W.U8 x.2.2.1/\W.U8 x.2.2.2.1/\W.U8 x.2.2.2.2:=by obtain ⟨f,p,h⟩:=ZF Tryz.underlying23 c2E aM8 h;obtain ⟨a0,F,rfl,l0⟩:=kQ f;obtain ⟨a1,G,rfl,g⟩:=kQ l0;obtain ⟨a2,H,rfl,i⟩:=kQ g;obtain ⟨a3,I,rfl,j⟩:=kQ i;obtain ⟨a4,J,rfl,m⟩:=kQ j;obtain rfl:=oK m;have a:=h (0,5) (by simp);have b:=h (1,5) (by simp);have c:=h (2,5) (by simp);have d:=h (3,5) (by simp);have e:=h (4,5) (by simp);simp only[Rl,List.drop,List.take] at a b c d e;obtain ⟨n,o,q⟩:=xR a;obtain ⟨r,t,u⟩:=xR b;obtain ⟨v,w,y⟩:=xR c;obtain ⟨z,A,B⟩:=xR d;obtain ⟨C,D,E⟩:=xR e;cases o;cases t;cases w;cases A;cases D;exact ⟨(n,r,v,z,C),rfl,q,u,y,B,E⟩
def b8E:Tryz.prog.cellsOf 70=1:=by kernel_rfl
def c6B (h:jW Tryz.prog p 70 l):∃ a:List (Int×Int),l = [.sl false 2 (a.map W.PS)]/\∀ x,x∈a->(fun x=>W.I8 x.1/\W.I8 x.2) x:=by refine Ud (e:=251) Tryz.underlying70 aMB (fun h => ?_) h;obtain ⟨x,rfl,b⟩:=c6A h;exact ⟨x,x_ (by kernel_rfl),b⟩
def b8F:Tryz.prog.cellsOf 27=1:=by kernel_rfl
def c6D (h:jW Tryz.prog p 27 l):∃ a:List (Int×Int×Int),l = [.sl false 3 (a.map W.Ym)]/\∀ x,x∈a->(fun x=>W.I8 x.1/\W.I8 x.2.1/\W.I8 x.2.2) x:=by refine Ud (e:=96) Tryz.underlying27 aMC (fun h => ?_) h;obtain ⟨x,rfl,b⟩:=c6C h;exact ⟨x,x_ (by kernel_rfl),b⟩
def aME:Tryz.prog.cellsOf 25=1:=by kernel_rfl
def b0K (h:jW Tryz.prog p 25 l):∃ a:List (Int×Int×Int),l = [.sl false 3 (a.map W.Lr)]/\∀ x,x∈a->(fun x=>W.U8 x.1/\W.U8 x.2.1/\W.U8 x.2.2) x:=by refine Ud (e:=86) Tryz.underlying25 aMD (fun h => ?_) h;obtain ⟨x,rfl,b⟩:=c6E h;exact ⟨x,x_ (by kernel_rfl),b⟩
def b8H:Tryz.prog.cellsOf 26=1:=by kernel_rfl
def c6G (h:jW Tryz.prog p 26 l):∃ a:List (Int×Int×Int×Int),l = [.sl false 4 (a.map W.Yn)]/\∀ x,x∈a->(fun x=>W.U8 x.1/\W.U8 x.2.1/\W.U8 x.2.2.1/\W.U8 x.2.2.2) x:=by refine Ud (e:=89) Tryz.underlying26 aMF (fun h => ?_) h;obtain ⟨x,rfl,b⟩:=c6F h;exact ⟨x,x_ (by kernel_rfl),b⟩
def b8C:Tryz.prog.cellsOf 71=1:=by kernel_rfl
theorem c68 (h:jW Tryz.prog p 71 l):∃ a:List UInt8,l = [.sl false 1 (W.zu a)]:=by obtain ⟨a,e,_⟩:=Ud (k:=1) (f:=fun c:UInt8=>PV.int .u8 (c.toNat:Int)) (Q:=fun _=>True) (e:=5) Tryz.underlying71 Rl c6I h;grind
def aMA:Tryz.prog.cellsOf 73=7:=by kernel_rfl
def c2F:ed Tryz.prog 73 = [(0,5),(1,5),(2,5),(3,5),(4,70),(5,25),(6,71)]:=by kernel_rfl
def c66 (h:jW Tryz.prog p 73 l):∃ c:W.Mc,.agg l=W.Ls c/\W.McT c:=by obtain ⟨i,p,h⟩:=aIC Tryz.underlying73 c2F aMA h;obtain ⟨a0,M,rfl,l0⟩:=kQ i;obtain ⟨a1,N,rfl,j⟩:=kQ l0;obtain ⟨a2,O,rfl,m⟩:=kQ j;obtain ⟨a3,Q,rfl,n⟩:=kQ m;obtain ⟨a4,S,rfl,o⟩:=kQ n;obtain ⟨a5,T,rfl,q⟩:=kQ o;obtain ⟨a6,U,rfl,l6⟩:=kQ q;obtain rfl:=oK l6;have a:=h (0,5) (by simp);have b:=h (1,5) (by simp);have d:=h (2,5) (by simp);have e:=h (3,5) (by simp);have f:=h (4,70) (by simp);have g:=h (5,25) (by simp);have h6:=h (6,71) (by simp);simp only[Rl,b8E,aME,b8C,List.drop,List.take] at a b d e f g h6;obtain ⟨r,t,u⟩:=xR a;obtain ⟨v,w,x⟩:=xR b;obtain ⟨z,A,B⟩:=xR d;obtain ⟨C,D,E⟩:=xR e;obtain ⟨F,G,H⟩:=c6B f;obtain ⟨I,J,K⟩:=b0K g;obtain ⟨y,L⟩:=c68 h6;cases t;cases w;cases A;cases D;cases G;cases J;cases L;exact ⟨⟨r,v,z,C,F,I,y⟩,rfl,u,x,B,E,H,K⟩
def b89:Tryz.prog.cellsOf 24=1:=by kernel_rfl
def c67 (h:jW Tryz.prog p 24 l):∃ a:List W.Mc,l = [.sl false 7 (a.map W.Ls)]/\∀ x,x∈a->W.McT x:=by refine Ud (e:=73) Tryz.underlying24 aMA (fun h => ?_) h;obtain ⟨x,e,b⟩:=c66 h;exact ⟨x,(x_ (by kernel_rfl)).trans e,b⟩
def b8A:Tryz.prog.cellsOf 29=9:=by kernel_rfl
def c2G:ed Tryz.prog 29 = [(0,23),(5,24),(6,25),(7,26),(8,27)]:=by kernel_rfl
def c6H (h:jW Tryz.prog p 29 l):∃ s:W.Sk,zt Tryz.prog 29 l=W.A2 (W.sV s)/\W.SkT s:=by obtain ⟨g,p,h⟩:=aIC Tryz.underlying29 c2G b8A h;obtain ⟨a0,H,rfl,l0⟩:=kQ g;obtain ⟨a1,I,rfl,i⟩:=kQ l0;obtain ⟨a2,J,rfl,j⟩:=kQ i;obtain ⟨a3,K,rfl,m⟩:=kQ j;obtain ⟨a4,L,rfl,n⟩:=kQ m;obtain ⟨a5,M,rfl,o⟩:=kQ n;obtain ⟨a6,N,rfl,l6⟩:=kQ o;obtain ⟨a7,O,rfl,q⟩:=kQ l6;obtain ⟨a8,Q,rfl,r⟩:=kQ q;obtain rfl:=oK r;have a:=h (0,23) (by simp);have b:=h (5,24) (by simp);have c:=h (6,25) (by simp);have d:=h (7,26) (by simp);have f:=h (8,27) (by simp);simp only[aM8,b89,aME,b8H,b8F,List.drop,List.take] at a b c d f;obtain ⟨e,t,u⟩:=c65 a;obtain ⟨v,w,x⟩:=c67 b;obtain ⟨y,z,A⟩:=b0K c;obtain ⟨B,C,D⟩:=c6G d;obtain ⟨E,F,G⟩:=c6D f;cases t;cases w;cases z;cases C;cases F;exact ⟨⟨e,v,y,B,E⟩,x_ (by kernel_rfl),u,x,A,D,G⟩
def b8G:Tryz.prog.cellsOf 30=1:=by kernel_rfl
def b8B:Tryz.prog.cellsOf 32=3:=by kernel_rfl
def c2H:ed Tryz.prog 32 = [(0,30),(1,30),(2,5)]:=by kernel_rfl
def b0M (h:jW Tryz.prog p 32 l):∃ a:Sh.V W.S3,zt Tryz.prog 32 l=W.A3 a/\W.Vq a:=by obtain ⟨g,p,h⟩:=aIC Tryz.underlying32 c2H b8B h;obtain ⟨a0,v,rfl,l0⟩:=kQ g;obtain ⟨a1,w,rfl,i⟩:=kQ l0;obtain ⟨a2,x,rfl,j⟩:=kQ i;obtain rfl:=oK j;have b:=h (0,30) (by simp);have c:=h (1,30) (by simp);have d:=h (2,5) (by simp);simp only[Rl,b8G,List.drop,List.take] at b c d;obtain ⟨m,n,o⟩:=b0J b;obtain ⟨q,r,t⟩:=b0J c;obtain ⟨e,u,f⟩:=xR d;cases n;cases r;cases u;exact ⟨(m,q,e,()),x_ (by kernel_rfl),o,t,f.1,by have h:=f.2; show e<256; omega⟩
end Go.Proofs.YtmbehibpfkkjbaaGreatDoor
namespace Go.Proofs.YtmbehibpfkkjbaaGreatDoor
open Go.ChangeShapes Go.WideShapes Go.ChangeAt Go.RowKit
set_option maxRecDepth 100000 in
theorem c74 (D:Os) (c:D.Started) (H:Type) (enc:TypeId×Value->H) (F:Stop.Interp) :
 ReturnsInHanded {} Tryz.checked D 3 .any ((OpenSpec.ofChange Rows.parserSlipsSpec).preRow enc Tryz.prog Tryz.f3 Rows.parserSlipsRow.domain false Rows.parserSlipsRow.laid) (((OpenSpec.ofChange Rows.parserSlipsSpec).at F).post enc Tryz.prog Tryz.f3 false true false false):=by
 obtain ⟨x,hx⟩:=Option.isSome_iff_exists.1 (show (DataW.whole enc Tryz.prog ((laidWorld6 D).forCall (fun _ _=>0) ⟨#[],#[.agg #[.int .u8 0,.int .u8 0,.int .u8 0,.int .u8 0,.int .u8 0,.slice none 0 0,.slice none 0 0,.slice none 0 0,.slice none 0 0],.agg #[.int .u16 0,.int .u16 0,.int .u8 0],.agg #[.int .u16 0,.int .u16 0,.int .u8 0]],[]⟩).memory Tryz.f3.params.toList Rows.parserSlipsSpec.vars false (#[.agg #[.int .u8 0,.int .u8 0,.int .u8 0,.int .u8 0,.int .u8 0,.slice none 0 0,.slice none 0 0,.slice none 0 0,.slice none 0 0],.agg #[.int .u16 0,.int .u16 0,.int .u8 0],.agg #[.int .u16 0,.int .u16 0,.int .u8 0]]:Array Value).toList 8).isSome=true by kernel_rfl);refine returnsInHanded_of_row (C:=Tryz.checked) (s:=OpenSpec.ofChange Rows.parserSlipsSpec) b_' c (by kernel_rfl) Tryz.func3
  (witness_row_at (enc:=enc) (C:=Tryz.checked) false (laidWorld6 D) #[.agg #[.int .u8 0,.int .u8 0,.int .u8 0,.int .u8 0,.int .u8 0,.slice none 0 0,.slice none 0 0,.slice none 0 0,.slice none 0 0],.agg #[.int .u16 0,.int .u16 0,.int .u8 0],.agg #[.int .u16 0,.int .u16 0,.int .u8 0]] rfl (by kernel_rfl) (by kernel_rfl) (by kernel_rfl)
   (OpenSpec.preRow_of_cond 8 hx (by kernel_rfl) (fun k hk=>by cases hk) (by kernel_rfl) (laidMet_of_run' 8 (by kernel_rfl) (by kernel_rfl)))) ?_
 intro W o args G gs E f hW U _ g l I _;have a:∀ (j:Nat) t v,Tryz.f3.params[j]? = some t->args[j]? = some v->Value.okWide Tryz.prog W .any o t v:=f;have r:(DataW.weightsEach Tryz.prog (Tryz.f3.params.toList ++ Rows.parserSlipsSpec.plain.varTypes Tryz.prog) (G ++ gs)).all (· <= reachBytes)=true:=g;have J:=hW;obtain ⟨p,q,u,hV,rfl,a',b0⟩:=hW;have V:DataW.TrodAll enc Tryz.prog W 0 (fun _=>true) true Tryz.f3.params.toList args.toList G p:=u;rw[Tryz.params3] at V a r;have b:∀ (j:Nat) t d,(Tryz.f3.params.toList)[j]? = some t->G[j]? = some d->∀ n,n∈d.weights Tryz.prog t->n<=reachBytes:=fun j t d X Y n hn=>Qc (jq.1 g _ (DataW.weights_mem_each (j:=j) (t:=t) (d:=d) (by rw[Ba (jr.1 X).1]; exact X) (by rw[Ba (jr.1 Y).1]; exact Y) n hn))
 rw[Tryz.params3] at b;clear r g;have K:GW W:=bVV l.tail.tail I;obtain ⟨Z,b1,d0,b2,p0,q0,L,rfl,rfl,h0,r0⟩:=trodAll_cons V;obtain ⟨v1,b3,d1,b4,p1,q1,rfl,rfl,rfl,h1,r1⟩:=trodAll_cons r0;obtain ⟨v2,b5,d2,b6,p2,q2,rfl,rfl,rfl,h2,r2⟩:=trodAll_cons r1;obtain ⟨rfl,rfl,rfl⟩:=trodAll_nil r2;obtain rfl:args = #[Z,v1,v2]:=by cases args; simp_all
 obtain ⟨rfl,rfl⟩:=trodVars_none hV;have k0:=h0;have M:∀ x∈p0,x.block<W.heap.size:=by obtain ⟨m,w⟩:=k0; exact DataW.trod_lt m _ _ _ w
 obtain ⟨f0,q0,s0,y⟩:=qB (hW:=K) aB7 (by decide) (a 0 29 Z rfl rfl) h0 (b 0 29 d0 rfl rfl);obtain ⟨e0,N,x0⟩:=c6H s0;rw[N] at y;have k1:=h1;have O:∀ x∈p1,x.block<W.heap.size:=by obtain ⟨m,w⟩:=k1; exact DataW.trod_lt m _ _ _ w
 obtain ⟨f1,q1,s1,z⟩:=qB (hW:=K) aB7 (by decide) (a 1 32 v1 rfl rfl) h1 (b 1 32 d1 rfl rfl);obtain ⟨e1,Q,x1⟩:=b0M s1;rw[Q] at z;have k2:=h2;have S:∀ x∈p2,x.block<W.heap.size:=by obtain ⟨m,w⟩:=k2; exact DataW.trod_lt m _ _ _ w
 obtain ⟨f2,q2,s2,A⟩:=qB (hW:=K) aB7 (by decide) (a 2 32 v2 rfl rfl) h2 (b 2 32 d2 rfl rfl);obtain ⟨e2,T,x2⟩:=b0M s2;rw[T] at A;clear u f;refine (Ev.top (bAF (Go.Proofs.YtmbehibpfkkjbaaGreatDoor.W.c8 x0 x1 x2)) (aHO y (aHO z (aHO A c4B)))).mono fun e W' ⟨vr,M',he,B,_,i⟩ => ?_
 subst he;obtain rfl:=oh.1 B;exact ⟨_,rfl,_,_,_,[],_,[],J,trodAll_mk1 (shut_bool Tryz.underlying4 _),(trodAll_cons_mk (Below.trod aEF (by kernel_rfl) (Qc (by kernel_rfl)) k0 i M) (trodAll_cons_mk (Below.trod aEF (by kernel_rfl) (Qc (by kernel_rfl)) k1 i O) (trodAll_cons_mk (Below.trod aEF (by kernel_rfl) (Qc (by kernel_rfl)) k2 i S) trodAll_mk0))),rfl,i.frame _,fun h=>by cases h⟩
def c71:(Rows.parserSlipsRow.inPlace==Tryz.prog.inPlace 3)=true:=by kernel_rfl
def c7D:(Rows.parserSlipsRow.unfollowed==Tryz.prog.unfollowed 3)=true:=by kernel_rfl
def c7B:(Rows.parserSlipsRow.recurses==Tryz.prog.recurses 3)=true:=by kernel_rfl
def c7E:(Rows.parserSlipsRow.named==Tryz.prog.varsNamed 3)=true:=by kernel_rfl
def c73:joinedFacts Tryz.prog 3 Tryz.f3 (OpenSpec.ofChange Rows.parserSlipsSpec).bare Rows.parserSlipsRow=true :=bXB (by kernel_rfl) c71 c7D c7B c7E (by kernel_rfl)
def c7F:Tryz.f3.isWrapper Tryz.prog Rows.parserSlipsRow.wrapper Rows.parserSlipsRow.mainSum:=by unfold Func.isWrapper;first | (rw[ay (by decide +kernel)]; kernel_rfl) | (rw[aX (by decide +kernel)]; exact ⟨rfl,rfl⟩)
def c7C:Rows.ParserSlipsSaid :=
 OpenClaim.holds_of_cond 3 Tryz.f3 rfl rfl rfl rfl rfl rfl rfl ⟨rfl,rfl,rfl,rfl,rfl⟩ rfl rfl rfl rfl rfl (by kernel_rfl) Tryz.func3 c73
  (Qc (by kernel_rfl)) c7F
  (fun c a H b _ F=>by rw[OpenClaim.pre_eq_preRow]; exact c74 c a H b F)
end Go.Proofs.YtmbehibpfkkjbaaGreatDoor
end

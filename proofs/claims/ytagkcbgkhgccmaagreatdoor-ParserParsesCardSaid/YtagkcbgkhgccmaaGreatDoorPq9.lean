/- A part of the proof. -/
import Derived.Test.YtagkcbgkhgccmaaGreatDoorPq8
import Derived.Test.YtagkcbgkhgccmaaGreatDoorPq5
import Derived.Test.YtagkcbgkhgccmaaGreatDoorPq4
import Derived.Lib.ItoaNum
set_option linter.unusedVariables false
set_option linter.defProp false
set_option linter.unusedSimpArgs false
set_option linter.unnecessarySimpa false
set_option linter.unusedSectionVars false
noncomputable section
namespace Go.Proofs.YtagkcbgkhgccmaaGreatDoor.W
open Go.RowKit
set_option maxRecDepth 1000000
abbrev Ia:Nm := [100,111]
abbrev OX:Nm := [119,104,101,110]
section
variable {A:RA} {l:List ByteArray} {F:MF} {m:Mo} {n:ByteArray} {es ls:List Nm} {I:Int} {mr:List Int} {vs:List Vr} {ms:List Mv} {b:Bool}
def usL (F:MF) (m:l.length<1000000000000) (h:A.ok) (Z:A.N<=40000):∃ B a d,Le A B/\a.length<=20000/\d.length<=20000/\(B.e=0->a=d/\2*a.length+B.N<=A.N+1/\∃ w,Ed l a w/\w+B.W<=A.W+2/\2<=w) /\
 (∀ o,SS.CC 175 [.ptr 0 0,.func (.func 241) [] [.ptr 1 0,.ptr 2 0]] [aA A.v,some [.ptr 3 0],jv (oU o []),kX (0,dD l,())]=some (.tuple [],[aA B.v,some [.ptr 3 0],jv (oU o a),kX (0,dD l,())])) /\
 (∀ o,SS.CC 175 [.ptr 0 0,.func (.func 263) [] [.ptr 1 0,.ptr 2 0]] [aA A.v,some [.ptr 3 0],jv (oU o []),jy (P.md F (dD l) 0)]=some (.tuple [],[aA B.v,some [.ptr 3 0],jv (oU o d),jy (P.md F (dD l) 0)])):=by
 obtain ⟨A1,q,r,n,a1,a2,a3⟩:=upS (F:=F) m h;obtain ⟨B,y,t,u,x,b,E,G,H⟩:=zT (C:=fun A a o=>OV A.v (oU o a) (0,dD l,())) (L:=fun A a o=>a0I A.v (oU o a) (P.md F (dD l) 0))
  (EC:=fun A a o=>some (.tuple [],[aA A.v,some [.ptr 3 0],jv (oU o a),kX (0,dD l,())])) (EL:=fun A a o=>some (.tuple [],[aA A.v,some [.ptr 3 0],jv (oU o a),jy (P.md F (dD l) 0)]))
  (P:=fun B (y z:List (Int×EX))=>y.length<=20000/\z.length<=20000/\(B.e=0->y=z/\2*y.length+B.N<=A.N+1/\∃ w,Ed l y w/\w+B.W<=A.W+2/\2<=w))
  (fun B y z b p c=>⟨funext fun o=>FO b c rfl (aN3 _ _ _),funext fun o=>FO b c rfl (aN1 _ _ _)⟩)
  (fun B y z b p he c=>by
   obtain ⟨I,J,K⟩:=p;obtain ⟨rfl,h5,w,h6,h7,h9⟩:=K he;have hk:=kD c;have M:=jY b hk;have h4:=Ce b.next M.1;have h8:B.next.W+2=B.W:=nV b c;obtain ⟨D,O,Q,S,T,U,V⟩:=upS (F:=F) m b.next;refine ⟨D,y ++ [O],y ++ [Q],?_,?_,S,by simp; omega,by simp; omega,fun e => ?_⟩
   .exact funext fun o=>(FP b c (aN3 _ _ _)).trans (aGD (T o y I))
   .exact funext fun o=>(FP b c (aN1 _ _ _)).trans (aGB (U o y J))
   .obtain ⟨f,X,s,k,v,g,i,j,Y⟩:=V e;exact ⟨by rw[f],by simp; omega,_,aYR g i j h6,by omega,by omega⟩)
  A1 [q] [r] n.ok ⟨by simp,by simp,fun e=>by obtain ⟨f,X,s,k,v,g,i,j,Y⟩:=a3 e;exact ⟨by rw[f],by simp; omega,_,⟨s,k,v,0,g,i,j,rfl,rfl⟩,by omega,by omega⟩⟩
 refine ⟨B,y,t,n.trans b,E,G,H,fun o => ?_,fun o => ?_⟩
 .rw[bG',aGD (a1 o [] (by simp))]; exact congrFun u o
 .rw[bGU,aGB (a2 o [] (by simp))]; exact congrFun x o
def UpR (l:List ByteArray) (a:List (Int×EX)) (w:Nat):Prop:=a = []/\w=0\/∃ u,Ed l a u/\2<=u/\w=u+1
theorem doS (h:A.ok) (z:A.N<=40000) (hv:vs.length<=20000) (D:ms.length<=20000):∃ C a d,Le A C /\
 (∀ f e t x,a0C (0,aJ (vs.map (·.n)),()) (tQ n es ls I mr vs ms) A.v f e t (ev x).1 (ev x).2.1 (ev x).2.2.1 (ev x).2.2.2.1=some (.tuple [],[aX (0,aJ (vs.map (·.n)),()),dW (tQ n es ls I mr vs (ms ++ [⟨f,e,t,x,a⟩])),aA C.v])) /\
 (∀ f e t x,MG (bz m (aJ (vs.map (·.n)))) A.v f e t (ev x).1 (ev x).2.1 (ev x).2.2.1 (ev x).2.2.2.1=some (A9 (rJ ⟨f,e,t,x,d⟩),[aK (bz m (aJ (vs.map (·.n)))),aA C.v])) /\
 (C.e=0->a=d/\a.length<=20000/\C.N<A.N/\∃ w,UpR (cZ (vs.map (·.n))) a w/\w+2+C.W<=A.W):=by
 have i:(cZ (vs.map (·.n))).length<1000000000000:=by grind
 cases c:A.is Ia with
 | false =>
  have b:=Le.exp h [59];refine ⟨A.exp [59],[],[],b,fun f e t x => ?_,fun f e t x => ?_,fun e=>⟨rfl,by simp,?_,0,.inl ⟨rfl,rfl⟩,?_⟩⟩
  .rw[aMU];show bP 62 [.ptr 0 0,.str ⟨Ia.toArray⟩] [aA A.v] _=_;rw[bQ (jH h ⟨Ia.toArray⟩)];try dsimp only
   rw[c,aF,lZ c,aMV,bW (eY h _),aQ (fV (by rw[bM]; omega))];simp
  .rw[aNF];show bP 62 [.ptr 0 0,.str ⟨Ia.toArray⟩] [aA A.v] _=_;rw[bQ (jH h ⟨Ia.toArray⟩)];try dsimp only
   rw[c,aF,lZ c,aNE,bW (eY h _)];rfl
  grind [RA.exp,jY,kD,qM]
  .have:(A.exp [59]).W+2=A.W:=nC h e;omega
 | true =>
  have j:=h.next;have o:=jY h (kD c);obtain ⟨B,a,d,k1,k2,p,k3,g,q⟩:=usL (l:=cZ (vs.map (·.n))) (bs m.n,m.es.map zK,m.ts.map xG,m.cs.map dN,m.rs.map dN,m.xs.map xE,m.ks.map og) i j (by omega);have b:=Le.exp k1.ok [59];refine ⟨B.exp [59],a,d,((Le.next h).trans k1).trans b,fun f e t x => ?_,fun f e t x => ?_,fun e => ?_⟩
  .rw[aMU];show bP 62 [.ptr 0 0,.str ⟨Ia.toArray⟩] [aA A.v] _=_;rw[bQ (jH h ⟨Ia.toArray⟩)];try dsimp only
   rw[c,aI,qC c];refine (a'C (g (f,e,t,(ev x).1,(ev x).2.1,(ev x).2.2.1,(ev x).2.2.2.1,[],()))).trans ?_;try dsimp only
   rw[aMV,bW (eY k1.ok _),aQ (fV (by rw[bM]; omega))];rw[show tQ n es ls I mr vs (ms ++ [⟨f,e,t,x,a⟩])=(n,aJ ls,aJ es,[],0,I,jC mr,vs.map mM,ms.map ut ++ [ut ⟨f,e,t,x,a⟩],()) from by simp]
  .rw[aNF];show bP 62 [.ptr 0 0,.str ⟨Ia.toArray⟩] [aA A.v] _=_;rw[bQ (jH h ⟨Ia.toArray⟩)];try dsimp only
   rw[c,aI,qC c];refine (a'A (q (f,e,t,(ev x).1,(ev x).2.1,(ev x).2.2.1,(ev x).2.2.2.1,[],()))).trans ?_;try dsimp only
   rw[aNE,bW (eY k1.ok _)]
  .have g:=b.e0 e;obtain ⟨r,E,w,u,F,y⟩:=k3 g;have w1:A.next.W+3=A.W:=nV h c;have w2:(B.exp [59]).W+2=B.W:=nC k1.ok e;have G:=k1.le;have H:=b.le;exact ⟨r,k2,by omega,w+1,.inr ⟨w,u,y,rfl⟩,by omega⟩
def GdR (l:List ByteArray) (g:EX) (w:Nat):Prop:=g=tE/\w=0\/∃ k u,jT l k 0 g u/\w=u+5
structure PM (L E l:List ByteArray) (x:Mv) (w:Nat):Prop where
 us:x.us.length<=20000
 ex:∃ a b c g u,(0<=x.f/\L[x.f.toNat]? = some a)/\(0<=x.e/\E[x.e.toNat]? = some b)/\(0<=x.t/\L[x.t.toNat]? = some c)/\GdR l x.g g/\UpR l x.us u/\w=wl a.data.toList+wl b.data.toList+wl c.data.toList+g+u+5
theorem edS (h:A.ok) (S:A.N<=40000) (hL:ls.length<=20000) (hE:es.length<=20000) (hv:vs.length<=20000) (T:ms.length<=20000):∃ C x y,Le A C /\
 (∀ v,SS.CC 170 [.ptr 0 0,.ptr 1 0] [aX (0,v,()),dW (tQ n es ls I mr vs ms),aA A.v]=some (.tuple [],[aX (0,aJ (vs.map (·.n)),()),dW (tQ n es ls I mr vs (ms ++ [x])),aA C.v])) /\
 SS.CC 226 [.ptr 0 0,A5 (tQ n es ls I mr vs ms)] [aK (bz m (aJ (vs.map (·.n)))),aA A.v]=some (A9 (rJ y),[aK (bz m (aJ (vs.map (·.n)))),aA C.v]) /\
 (C.e=0->x=y/\C.N<A.N/\∃ w,PM (cZ ls) (cZ es) (cZ (vs.map (·.n))) x w/\w+C.W<=A.W):=by
 have U:(cZ (vs.map (·.n))).length<1000000000000:=by grind
 have b:(cZ ls).length<1000000000000:=by grind
 have j:(cZ es).length<1000000000000:=by grind
 have l:=Le.kn h (cZ ls);have i:=Le.kn l.ok (cZ es);have a:=Le.kn i.ok (cZ ls);have o:=(l.trans i).trans a;have B:(((A.kn (cZ ls)).kn (cZ es)).kn (cZ ls)).N<=40000:=lD o.le S;have X:∃ C x y,Le (((A.kn (cZ ls)).kn (cZ es)).kn (cZ ls)) C /\
  (∀ (K:Sh.V eQ->Sh.V aC->Int->Int->Int->List PV->R),(bP 62 [.ptr 0 0,.str ⟨OX.toArray⟩] [aA (((A.kn (cZ ls)).kn (cZ es)).kn (cZ ls)).v] fun E p=>aB E (yZ 27 [.ptr 0 0] [bF (0,aJ (vs.map (·.n)),()),aA p] fun d G H=>K G H d.1 d.2.1 d.2.2.1 d.2.2.2.1) (K (0,aJ (vs.map (·.n)),()) p (ev tE).1 (ev tE).2.1 (ev tE).2.2.1 (ev tE).2.2.2.1))=K (0,aJ (vs.map (·.n)),()) C.v (ev x).1 (ev x).2.1 (ev x).2.2.1 (ev x).2.2.2.1) /\
  (∀ (K:Sh.V ay->Sh.V aC->Int->Int->Int->List PV->R),(bP 62 [.ptr 0 0,.str ⟨OX.toArray⟩] [aA (((A.kn (cZ ls)).kn (cZ es)).kn (cZ ls)).v] fun J q=>aB J (pO 262 [.ptr 0 0] [aK (bz m (aJ (vs.map (·.n)))),aA q] fun f Y Z=>K Y Z f.1 f.2.1 f.2.2.1 f.2.2.2.1) (K (bz m (aJ (vs.map (·.n)))) q (ev tE).1 (ev tE).2.1 (ev tE).2.2.1 (ev tE).2.2.2.1))=K (bz m (aJ (vs.map (·.n)))) C.v (ev y).1 (ev y).2.1 (ev y).2.2.1 (ev y).2.2.2.1) /\
  (C.e=0->x=y/\∃ w,GdR (cZ (vs.map (·.n))) x w/\w+C.W<=(((A.kn (cZ ls)).kn (cZ es)).kn (cZ ls)).W):=by
  cases c:(((A.kn (cZ ls)).kn (cZ es)).kn (cZ ls)).is OX with
  | false =>
   refine ⟨_,tE,tE,.refl a.ok,fun K => ?_,fun K => ?_,fun e=>⟨rfl,0,.inl ⟨rfl,rfl⟩,by omega⟩⟩
   .rw[bQ (jH a.ok ⟨OX.toArray⟩)];grind [aF,lZ]
   .rw[bQ (jH a.ok ⟨OX.toArray⟩)];grind [aF,lZ]
  | true =>
   obtain ⟨C,x,y,L,z,o1⟩:=(P.aX8 (F:=(bs m.n,m.es.map zK,m.ts.map xG,m.cs.map dN,m.rs.map dN,m.xs.map xE,m.ks.map og)) U (((A.kn (cZ ls)).kn (cZ es)).kn (cZ ls)).next.N).2 0 (by decide) (by decide) _ a.ok.next (dG _);refine ⟨C,x,y,(Le.next a.ok).trans o1.toLe,fun K => ?_,fun K => ?_,fun e => ?_⟩
   .rw[bQ (jH a.ok ⟨OX.toArray⟩)];try dsimp only
    rw[c,aI,qC c];exact yc L
   .rw[bQ (jH a.ok ⟨OX.toArray⟩)];try dsimp only
    rw[c,aI,qC c];exact yY z
   .obtain ⟨k,u,r,hw⟩:=o1.rd e;have w1:(((A.kn (cZ ls)).kn (cZ es)).kn (cZ ls)).next.W+5=(((A.kn (cZ ls)).kn (cZ es)).kn (cZ ls)).W:=nV a.ok c;exact ⟨o1.eq e,_,.inr ⟨k,u,r,rfl⟩,by omega⟩
 obtain ⟨C,x,y,t,g2,g3,g4⟩:=X;obtain ⟨D,us,ng,M,d2,d3,d4⟩:=doS (m:=m) (n:=n) (es:=es) (ls:=ls) (I:=I) (mr:=mr) t.ok (lD t.le B) hv T;refine ⟨D,⟨A.wz (cZ ls),(A.kn (cZ ls)).wz (cZ es),((A.kn (cZ ls)).kn (cZ es)).wz (cZ ls),x,us⟩,⟨kK (bs (A.kp (cZ ls)).gz) (cZ ls) 0,kK (bs ((A.kn (cZ ls)).kp (cZ es)).gz) (cZ es) 0,kK (bs (((A.kn (cZ ls)).kn (cZ es)).kp (cZ ls)).gz) (cZ ls) 0,y,ng⟩,(o.trans t).trans M,fun v => ?_,?_,fun e => ?_⟩
 .rw[bG9,eX kF];try dsimp only
  rw[EY (P.Qu h _ (cZ ls) b)];try dsimp only
  rw[EY (P.Qu l.ok _ (cZ es) j)];try dsimp only
  rw[EY (P.Qu i.ok _ (cZ ls) b)];try dsimp only
  rw[mQ (aFI vs hv)];simp_all
 .rw[bIH,eX kF];try dsimp only
  rw[EU (P.Q4 h _ (cZ ls) b)];try dsimp only
  rw[EU (P.Q4 l.ok _ (cZ es) j)];try dsimp only
  rw[EU (P.Q4 i.ok _ (cZ ls) b)];simp_all
 .have O:=M.e0 e;have Q:=t.e0 O;have z:=a.e0 Q;have L:=i.e0 z;obtain ⟨s1,a1,a2,a3,a4,a5⟩:=a2T h L;obtain ⟨s2,b1,b2,b3,b4,b5⟩:=a2T l.ok z;obtain ⟨s3,c1,c2,c3,c4,c5⟩:=a2T i.ok Q;obtain ⟨q1,g,q2,q3⟩:=g4 O;obtain ⟨r1,r2,r3,u,r4,r5⟩:=d4 e;have n1:=t.le;refine ⟨by rw[a4,b4,c4,q1,r1],by omega,_,⟨r2,s1,s2,s3,g,u,⟨a1,a2⟩,⟨b1,b2⟩,⟨c1,c2⟩,q2,r4,rfl⟩,by omega⟩
end
variable {e:Nat}
def NG {b:Type} {l:List b} (x:List b) {a:b} (h:l[e]? = some a):(l ++ x)[e]? = some a:=by rw[vJ (iY.1 h).1]; exact h
variable {L:List ByteArray} {f:Bool} {d:Int} {x:EX}
def aVR (k:List ByteArray) (h:jT L f d x e):jT (L ++ k) f d x e:=by
 induction h with
 | num j g=>exact .num j g
 | tt=>exact .tt
 | ff=>exact .ff
 | var j g=>exact .var j (NG k g)
 | Dl _ i=>exact .Dl i
 | RQ j g=>exact .RQ j g
 | neg _ i=>exact .neg i
 | par _ i=>exact .par i
 | up _ g p i=>exact .up i g p
 | bin m _ _ a c=>exact .bin m a c
 | cmp m _ _ a c=>exact .cmp m a c
 | ite _ _ _ a c o=>exact .ite a c o
def aYT {l:List ByteArray} (k:List ByteArray):∀ {a:List (Int×EX)} {w:Nat},Ed l a w->Ed (l ++ k) a w
 | [],_,h=>h
 | u::a,w,⟨s,b,v,r,a0,a1,a2,a3,e⟩=>⟨s,b,v,r,a0,NG k a1,aVR k a2,aYT k a3,e⟩
def bTS {E l:List ByteArray} (f i:List ByteArray) {x:Mv} (h:PM L E l x e):PM (L ++ f) E (l ++ i) x e:=by
 obtain ⟨j,a,b,c,g,u,⟨a1,a2⟩,m,⟨n,o⟩,p,q,d⟩:=h;refine ⟨j,a,b,c,g,u,⟨a1,NG f a2⟩,m,⟨n,NG f o⟩,?_,?_,d⟩
 .rcases p with h | ⟨k,v,h,d⟩
  .exact .inl h
  .exact .inr ⟨k,v,aVR i h,d⟩
 .rcases q with h | ⟨v,h,d⟩
  .exact .inl h
  .exact .inr ⟨v,aYT i h,d⟩
def GX (L E l:List ByteArray):List Mv->Nat->Prop
 | [],w=>w=0
 | x::a,w=>∃ u r,PM L E l x u/\GX L E l a r/\w=u+5+r
def aBK {L E l:List ByteArray} (a b:List ByteArray):∀ {c:List Mv} {w:Nat},GX L E l c w->GX (L ++ a) E (l ++ b) c w
 | [],_,h=>h
 | x::c,w,⟨u,r,d,f,e⟩=>⟨u,r,bTS a b d,aBK a b f,e⟩
def aTU {L E l:List ByteArray} {x:Mv} {u:Nat} (c:PM L E l x u):∀ {b:List Mv} {w:Nat},GX L E l b w->GX L E l (b ++ [x]) (w+(u+5))
 | [],w,h=>by have h:w=0:=h;exact ⟨u,0,c,rfl,by omega⟩
 | a::b,w,⟨v,r,d,f,e⟩=>⟨v,_,d,aTU c f,by omega⟩
def ve:List Nm->Nat
 | []=>0
 | s::l=>wl s+12+ve l
theorem aT2 (s:Nm):∀ l:List Nm,ve (l ++ [s])=ve l+(wl s+12)
 | []=>by simp[ve]
 | a::l=>by rw[qF,ve,ve,aT2 s l]; omega
def yP:List Vr->Nat
 | []=>0
 | v::l=>vw v+4+yP l
theorem aYW (v:Vr):∀ l:List Vr,yP (l ++ [v])=yP l+(vw v+4)
 | []=>by simp[yP]
 | a::l=>by rw[qF,yP,yP,aYW v l]; omega
structure TS where
 ls:List Nm
 I:Int
 mr:List Int
 vs:List Vr
 ms:List Mv
 b:Bool
abbrev TS.q (n:ByteArray) (es:List Nm) (y:TS):Sh.V dP:=tQ n es y.ls y.I y.mr y.vs y.ms
structure TS.Ok (y:TS):Prop where
 ls:y.ls.length<=20000
 mr:y.mr.length<=20000
 vs:y.vs.length<=20000
 ms:y.ms.length<=20000
structure TS.Gd (es:List Nm) (y:TS) (N W:Nat) (A:RA):Prop where
 mr:y.mr.length<=y.ls.length
 n:2*(y.ls.length+y.vs.length+y.ms.length)+A.N<=N
 w:∃ u,GX (cZ y.ls) (cZ es) (cZ (y.vs.map (·.n))) y.ms u/\ve y.ls+7*y.mr.length+(if y.b then 8 else 0)+yP y.vs+u+A.W<=W
def aU8 (l k:List Nm):cZ (l ++ k)=cZ l ++ cZ k:=by simp
section
variable {A:RA} {m:Mo} {n:ByteArray} {es:List Nm}
def a'G (v:List PV) (y:TS) (h:A.ok) (e:A.e=0) (c:A.is [125]=false):∃ X,AL (0,v,()) (aU m) A.v (y.q n es) y.b=X /\
 (A.is wK=true->X=H80 168 [.ptr 0 0,.ptr 1 0,.ptr 2 0] [gY (0,v,()),dW (y.q n es),jM (y.b,()),aA A.next.v] fun _ l o p r=>AL l (aU m) r o p.1) /\
 (A.is wK=false->A.is xP=true->X=Tn 169 [.ptr 0 0,.ptr 1 0] [aX (0,v,()),dW (y.q n es),aA A.next.v] fun _ a d f=>AL a (aU m) f d y.b) /\
 (A.is wK=false->A.is xP=false->A.is EK=true->X=Tn 170 [.ptr 0 0,.ptr 1 0] [aX (0,v,()),dW (y.q n es),aA A.next.v] fun _ a d f=>AL a (aU m) f d y.b) /\
 (A.is wK=false->A.is xP=false->A.is EK=false->X=AL (0,v,()) (aU m) (A.fail 14).v (y.q n es) y.b):=by
 refine ⟨_,rfl,fun g => ?_,fun g i => ?_,fun g i j => ?_,fun g i j => ?_⟩;all_goals
  rw[a8U,Iq (Bv _ A)];try dsimp only
  rw[show (A.e==0)=true by simp[e],aI,bQ (sU h ⟨#[125]⟩)];try dsimp only
  rw[c,pG,aI];show bP 62 [.ptr 0 0,.str ⟨wK.toArray⟩] [aA A.v] _=_;rw[bQ (jH h ⟨wK.toArray⟩)];try dsimp only
  rw[g]
 .rw[aI,qC g]
 all_goals
  rw[aF,lZ g];show bP 62 [.ptr 0 0,.str ⟨xP.toArray⟩] [aA A.v] _=_;rw[bQ (jH h ⟨xP.toArray⟩)];try dsimp only
  rw[i]
 .rw[aI,qC i]
 all_goals
  rw[aF,lZ i];show bP 62 [.ptr 0 0,.str ⟨EK.toArray⟩] [aA A.v] _=_;rw[bQ (jH h ⟨EK.toArray⟩)];try dsimp only
  rw[j]
 .rw[aI,qC j]
 .rw[aF,lZ j,bW (lG h 14)]
theorem bRG {g:List Nm} {i:List Int} {j:List Vr} {a:List Mv} {q:Sh.V ay} (h:A.ok) (e:A.e=0) (c:A.is [125]=false) (l:A.is wK=false) (m:A.is xP=false) (o:A.is EK=true) (r:a.length<=20000) {y:Mv} {D:RA}
 (p:SS.CC 226 [.ptr 0 0,A5 (tQ n es g d i j a)] [aK q,aA A.next.v]=some (A9 (rJ y),[aK q,aA D.v])):qy q A.v (tQ n es g d i j a) f=qy q D.v (tQ n es g d i j (a ++ [y])) f:=by
 rw[X_];dsimp only[gQ];rw[CY (P.BM _ A)];try dsimp only
 rw[show (A.e != 0)=false by simp[e],pG,aI,bQ (jH h ⟨#[125]⟩)];try dsimp only
 rw[c,pG,aI,lZ c];show bP 62 [.ptr 0 0,.str ⟨wK.toArray⟩] [aA A.v] _=_;rw[bQ (jH h ⟨wK.toArray⟩)];try dsimp only
 rw[l,aF,lZ l];show bP 62 [.ptr 0 0,.str ⟨xP.toArray⟩] [aA A.v] _=_;rw[bQ (jH h ⟨xP.toArray⟩)];try dsimp only
 rw[m,aF,lZ m];show bP 62 [.ptr 0 0,.str ⟨EK.toArray⟩] [aA A.v] _=_;rw[bQ (jH h ⟨EK.toArray⟩)];try dsimp only
 rw[o,aI,qC o];repeat rw[uD]
 rw[aZ' p];grind [aQ,fV]
end
variable {g:RA}
theorem aJG (e:g.e≠0) (x:List UInt8):g.exp x=g:=by grind [RA.exp,aA7,a7']
theorem b4F {x:List UInt8} (c:g.is x=true):g.exp x=g.next:=by grind [RA.exp]
abbrev TS.z:TS:=⟨[],0,[],[],[],false⟩
section
variable {A:RA} {m:Mo} {n:ByteArray} {es:List Nm}
theorem a_' (v:List PV) (J:es.length<=20000) (h:A.ok) (hN:A.N<=40000):∃ (B:RA) (y z:TS) (K:List PV),Le A B/\y.Ok/\z.Ok/\((B.exp [125]).e=0->y=z/\y.Gd es A.N A.W B) /\
 AL (0,v,()) (aU m) A.v (TS.z.q n es) false=QE (0,K,()) (aU m) B.v (y.q n es) /\
 qy (bz m []) A.v (TS.z.q n es) false=QH (bz m (aJ (z.vs.map (·.n)))) (B.exp [125]).v (z.q n es) :=
 loops (C:=fun B (y:TS×List PV)=>AL (0,y.2,()) (aU m) B.v (y.1.q n es) y.1.b) (L:=fun B (z:TS)=>qy (bz m (aJ (z.vs.map (·.n)))) B.v (z.q n es) z.b)
  (P:=fun B y z=>y.1.Ok/\z.Ok/\Le A B/\(B.e=0->y.1=z/\y.1.Gd es A.N A.W B))
  (Q:=fun r s=>∃ (B:RA) (y z:TS) (K:List PV),Le A B/\y.Ok/\z.Ok/\((B.exp [125]).e=0->y=z/\y.Gd es A.N A.W B)/\r=QE (0,K,()) (aU m) B.v (y.q n es)/\s=QH (bz m (aJ (z.vs.map (·.n)))) (B.exp [125]).v (z.q n es))
  (fun B y z a t=>by
   obtain ⟨⟨y,v⟩,d,S,f,E⟩:∃ F:TS×List PV,F.1.Ok/\z.Ok/\Le A B/\(B.e=0->F.1=z/\F.1.Gd es A.N A.W B)/\y=F:=⟨y,t.1,t.2.1,t.2.2.1,t.2.2.2,rfl⟩;obtain ⟨E,rfl⟩:=E;dsimp only at d E ⊢;by_cases e:B.e=0
   .obtain ⟨rfl,M,U,u,G,V⟩:=E e;cases c:B.is [125] with
    | true =>
     refine .inl ⟨B,y,y,v,f,d,S,fun _=>⟨rfl,M,U,u,G,V⟩,?_,?_⟩
     .rw[a8U,Iq (Bv _ B)];try dsimp only
      rw[show (B.e==0)=true by simp[e],aI,bQ (sU a ⟨#[125]⟩)];simp_all
     .rw[X_];dsimp only[gQ];rw[CY (P.BM _ B)];try dsimp only
      rw[show (B.e != 0)=false by simp[e],pG,aI,bQ (jH a ⟨#[125]⟩)];grind [aF,qC,b4F]
    | false =>
     have hn:=Ce a e;obtain ⟨X,Z,x1,x2,x3,x4⟩:=a'G (m:=m) (n:=n) (es:=es) v y a e c;rw[Z];cases j:B.is wK with
     | true =>
      have l:=(jY a (kD j)).2;have w1:B.next.W+9=B.W:=nV a j;have i:=bSC a.next y.ls y.b;have o:y.ls.length<=19999:=by have:=Ce a.next (jY a (kD j)).1; omega
      refine .inr ⟨B.next.DV y.ls y.b,(⟨y.ls ++ [B.next.gZ y.ls],bif (B.next.add y.ls).is oM && !y.b then (y.ls.length:Int) else y.I,B.next.FI y.ls y.b y.mr,y.vs,y.ms,y.b||(B.next.add y.ls).is oM⟩,v),⟨y.ls ++ [B.next.gZ y.ls],bif (B.next.add y.ls).is oM then (y.ls.length:Int) else y.I,B.next.FI y.ls y.b y.mr,y.vs,y.ms,y.b||(B.next.add y.ls).is oM⟩,?_,?_,i.ok,⟨?_,?_,f.trans ((Le.next a).trans i),fun g => ?_⟩,?_⟩
      .rw[x1 j];exact a'6 (lcC _ d.ls d.mr a.next)
      grind [lcL]
      .refine ⟨by simp; omega,?_,d.vs,d.ms⟩;grind [RA.FI]
      .refine ⟨by simp; omega,?_,d.vs,d.ms⟩;grind [RA.FI]
      .obtain ⟨k1,k2,k3⟩:=bS8 a.next g;refine ⟨?_,?_,?_,u,?_,?_⟩;grind
       grind [RA.FI]
       grind
       .dsimp only;rw[aU8];have:=aBK (cZ [B.next.gZ y.ls]) [] G;rwa [BB] at this
       grind [aT2,RA.FI]
      .have:=i.le; omega
     | false =>
      cases p:B.is xP with
      | true =>
       have l:=(jY a (kD p)).2;have w1:B.next.W+4=B.W:=nV a p;have i:=bSD a.next (y.vs.map (·.n));have o:y.vs.length<=19999:=by have:=Ce a.next (jY a (kD p)).1; omega
       refine .inr ⟨B.next.C9 (y.vs.map (·.n)),(⟨y.ls,y.I,y.mr,y.vs ++ [B.next.wJ (y.vs.map (·.n))],y.ms,y.b⟩,v),⟨y.ls,y.I,y.mr,y.vs ++ [B.next.wJ (y.vs.map (·.n))],y.ms,y.b⟩,?_,?_,i.ok,⟨⟨d.ls,d.mr,by simp; omega,d.ms⟩,⟨d.ls,d.mr,by simp; omega,d.ms⟩,f.trans ((Le.next a).trans i),fun g => ?_⟩,?_⟩
       .rw[x2 j p];exact aGS (vrC _ d.vs a.next)
       grind [vrL]
       .obtain ⟨k1,k2⟩:=c05 a.next g;refine ⟨rfl,M,?_,u,?_,?_⟩;grind
        .dsimp only;rw[yT,aU8];have:=aBK [] (cZ ([B.next.wJ (y.vs.map (·.n))].map (·.n))) G;rwa [BB] at this
        grind [aYW]
       .have:=i.le; omega
      | false =>
       cases H:B.is EK with
       | true =>
        have l:=(jY a (kD H)).2;have w1:B.next.W+5=B.W:=nV a H;have o:y.ms.length<=19999:=by have:=Ce a.next (jY a (kD H)).1; omega
        obtain ⟨D,x,x',O,d2,d3,d4⟩:=edS (m:=m) (n:=n) (I:=y.I) (mr:=y.mr) a.next (by have:=f.le; omega) d.ls J d.vs d.ms;refine .inr ⟨D,(⟨y.ls,y.I,y.mr,y.vs,y.ms ++ [x],y.b⟩,aJ (y.vs.map (·.n))),⟨y.ls,y.I,y.mr,y.vs,y.ms ++ [x'],y.b⟩,?_,?_,O.ok,⟨⟨d.ls,d.mr,d.vs,by simp; omega⟩,⟨d.ls,d.mr,d.vs,by simp; omega⟩,f.trans ((Le.next a).trans O),fun g => ?_⟩,?_⟩
        .rw[x3 j p H];exact aGS (d2 v)
        grind [bRG]
        .obtain ⟨k1,k2,w,k3,k4⟩:=d4 g;refine ⟨by simp_all,M,?_,_,aTU k3 G,?_⟩;grind
         grind
        .have:=O.le; omega
       | false =>
        have T:(B.fail 14).e≠0:=qM (by decide);refine .inr ⟨B.fail 14,(y,v),y,?_,?_,a.fail 14,⟨d,d,f.trans (Le.fail a (by decide)),fun g=>absurd g T⟩,by rw[Tz T]; omega⟩;simp_all
        .obtain ⟨Y,y1,-,-,y2⟩:=aAS (n:=n) (es:=es) (ls:=y.ls) (I:=y.I) (mr:=y.mr) (vs:=y.vs) (ms:=y.ms) (b:=y.b) (q:=bz m (aJ (y.vs.map (·.n)))) a e c;simp_all
   .refine .inl ⟨B,y,z,v,f,d,S,fun g=>by rw[aJG e] at g; omega,?_,?_⟩
    .rw[a8U,Iq (Bv _ B)];grind [aF]
    .rw[X_];dsimp only[gQ];rw[CY (P.BM _ B)];grind [aF,aJG])
  A (TS.z,v) TS.z h ⟨⟨by simp,by simp,by simp,by simp⟩,⟨by simp,by simp,by simp,by simp⟩,.refl h,fun e=>⟨rfl,by simp,by simp,0,rfl,by simp[ve,yP]⟩⟩
end
section
variable {A:RA} {m:Mo} {n:ByteArray} {es:List Nm}
def evP (q:Sh.V jc) (z:Sh.V jb) (n:ByteArray) (h:A.ok) (d:A.N<=40000):∃ C l,Le (A.exp [40]) C/\l.length<=20000/\(C.e=0->2*l.length+C.N<=(A.exp [40]).N+1/\nw l-2+C.W<=(A.exp [40]).W) /\
 SS.CC 166 [.ptr 0 0,.func (.func 167) [] [.ptr 1 0,.ptr 2 0]] [gY q,dW (yL n []),some [.ptr 0 0],aA A.v]=some (.tuple [],[gY q,dW (yL n l),some [.ptr 0 0],aA (C.exp [41]).v]) /\
 (∀ (J:Sh.V jb->Sh.V aC->Sh.V dP->R),aB (!(A.exp [40]).is [41]) (H70 175 [.ptr 0 0,.func (.func 224) [] [.ptr 1 0,.ptr 2 0]] [aA (A.exp [40]).v,dW (yL n []),some [.ptr 3 0],jy z] fun _ u v w=>J w u v) (J z (A.exp [40]).v (yL n []))=J z C.v (yL n l)):=by
 have a:=Le.exp h [40];cases c:(A.exp [40]).is [41] with
 | true =>
  refine ⟨A.exp [40],[],.refl a.ok,by simp,fun _=>⟨by simp,by simp[nw]⟩,?_,fun J => ?_⟩
  .rw[aMR,bW (eY h _)];rw[bQ (sU a.ok ⟨#[41]⟩)];rw[c,uY,aF,bW (eY a.ok _)]
  rfl
 | false =>
  obtain ⟨C,l,f,g,b,i,j⟩:=b4A q z n a.ok (lD a.le d);refine ⟨C,l,b,i,fun e=>⟨(j e).1,by omega⟩,?_,fun J => ?_⟩
  .rw[aMR,bW (eY h _)];rw[bQ (sU a.ok ⟨#[41]⟩)];rw[c,pG];refine (a'B f).trans ?_;rw[bW (eY b.ok _)]
  .exact aZZ g
theorem bYC (k:Nat):oK (k+1)=oK k ++ [(k:Int)]:=by grind [oK,List.range_succ]
def bYA (k:Nat):(jC (oK k)).length=k:=by simp[oK]
def TmR (t:Tm) (w:Nat):Prop:=∃ (s:Nm) (es:List Nm) (y:TS) (u:Nat),t=⟨s,y.ls,es,oK es.length,(y.ls.length:Int),y.I,y.mr,y.vs,y.ms⟩/\es.length<=20000/\y.Ok/\y.mr.length<=y.ls.length /\
 GX (cZ y.ls) (cZ es) (cZ (y.vs.map (·.n))) y.ms u/\w=wl s+(nw es-2)+9+ve y.ls+7*y.mr.length+(if y.b then 8 else 0)+yP y.vs+u
theorem a'D (v:List PV) {B:RA} (a:B.ok) (y:TS) (s:Nm) (b:es.length<=20000) (d:m.ts.length<=20000):QE (0,v,()) (aU m) B.v (y.q (bs s) es) =
 some (.tuple [],[aX (0,v,()),bZ (aU { m with ts:=m.ts ++ [⟨s,y.ls,es,oK es.length,(y.ls.length:Int),y.I,y.mr,y.vs,y.ms⟩] }),aA (B.exp [125]).v]):=by
 rw[bCO,bW (eY a _)];have c:SS.CC 171 [.int .i64 (((aJ es).length:Nat):Int)] []=some (.sl false 1 (jC (oK es.length)),[]):=by rw[iR]; grind [aUI]
 rw[wP c,aQ (fV (by rw[bM]; omega))];grind [iR]
theorem a'E (w:List PV) {D:RA} (y:TS) (s:Nm) (a:es.length<=20000) (c:m.ts.length<=20000):QH (bz m w) D.v (y.q (bs s) es) =
 some (.tuple [],[aK (bz { m with ts:=m.ts ++ [⟨s,y.ls,es,oK es.length,(y.ls.length:Int),y.I,y.mr,y.vs,y.ms⟩] } w),aA D.v]):=by
 rw[bER];have b:=mG (n:=es.length) (E:=some (.tuple [],[aK (bz { m with ts:=m.ts ++ [⟨s,y.ls,es,oK es.length,(y.ls.length:Int),y.I,y.mr,y.vs,y.ms⟩] } w),aA D.v]))
  (L:=fun k=>K_ (bz m w) D.v (bs s) (aJ y.ls) (aJ es) (jC (oK k)) y.I (jC y.mr) (y.vs.map mM) (y.ms.map ut) (k:Int)) (fun k hk=>by
   rw[aME,aP (by rw[iR]; omega),aI,aQ (fV (by rw[bYA]; omega)),bYC,aRJ,bU (by omega)]) (by
   rw[aME,bG (by rw[iR]; omega),aF,aQ (fV (by rw[bM]; omega))];grind [iR])
 exact b
def tmS (v w:List PV) (h:A.ok) (x:A.N<=40000) (g:m.ts.length<=20000):∃ D t E o M,Le A D/\(D.e=0->t=E/\D.N<A.N/\∃ u,TmR t u/\u+D.W<=A.W) /\
 SS.CC 67 [.ptr 0 0,.ptr 1 0] [aX (0,v,()),bZ (aU m),aA A.v]=some (.tuple [],[aX (0,o,()),bZ (aU { m with ts:=m.ts ++ [t] }),aA D.v]) /\
 SS.CC 145 [.ptr 0 0] [aK (bz m w),aA A.v]=some (.tuple [],[aK (bz { m with ts:=m.ts ++ [E] } M),aA D.v]):=by
 have F:(m.ts.map (·.n)).length<=20000:=by rw[bM]; exact g
 have f:=Le.add h (m.ts.map (·.n));obtain ⟨C,l,k1,k2,k3,O,Q⟩:=evP (0,v,()) (bz m w) (bs (A.gZ (m.ts.map (·.n)))) f.ok (lD f.le x);have p:=Le.exp f.ok [40];have d:=Le.exp k1.ok [41];have q:=Le.exp d.ok [123];have i:=(((f.trans p).trans k1).trans d).trans q;obtain ⟨B,y,z,o,j,S,oz,T,U,V⟩:=a_' v k2 q.ok (lD i.le x);have r:=Le.exp j.ok [125];refine ⟨B.exp [125],⟨A.gZ (m.ts.map (·.n)),y.ls,l,oK l.length,(y.ls.length:Int),y.I,y.mr,y.vs,y.ms⟩,⟨A.gZ (m.ts.map (·.n)),z.ls,l,oK l.length,(z.ls.length:Int),z.I,z.mr,z.vs,z.ms⟩,o,aJ (z.vs.map (·.n)),(i.trans j).trans r,fun e => ?_,?_,?_⟩
 .obtain ⟨rfl,X,g2,u,Y,g4⟩:=T e;have Z:=r.e0 e;have G:=j.e0 Z;have H:=q.e0 G;have q2:=d.e0 H;have J:=k1.e0 q2;have K:=p.e0 J;have w0:=DF h K;have w1:((A.add (m.ts.map (·.n))).exp [40]).W+2=(A.add (m.ts.map (·.n))).W:=nC f.ok J;have w3:(C.exp [41]).W+2=C.W:=nC k1.ok H;have w4:((C.exp [41]).exp [123]).W+2=(C.exp [41]).W:=nC d.ok G;have w5:(B.exp [125]).W+2=B.W:=nC j.ok e;have n0:=l_ h K;have n1:=p.le;have n2:=k1.le;have n3:=d.le;have n4:=q.le;have n6:=r.le;exact ⟨rfl,by omega,_,⟨_,l,y,u,rfl,k2,S,X,Y,rfl⟩,by omega⟩
 .rw[bCR];dsimp only[gQ];rw[wP (b2C m.ts g),GR (Gg _ F h)];refine (a'7 O).trans ?_;rw[bW (eY d.ok _)];exact U.trans (a'D o j.ok y _ k2 g)
 .have hL:QI (bz m w) A.v [] 0=QI (bz m w) A.v (aJ (m.ts.map (·.n))) (m.ts.length:Int):=by
   refine mG (n:=m.ts.length) (L:=fun k=>QI (bz m w) A.v (aJ ((m.ts.take k).map (·.n))) (k:Int)) (fun k hk => ?_) ?_
   .rw[aMF];rw[aP (by rw[bn]; omega),aI,Hr hk,aQ (fV (rE _ m.ts k g)),rD (·.n) m.ts hk,bU (by omega)]
   simp
  rw[bE',hL,aMF];rw[bG (by rw[bn]; omega),Iu (J9 _ F h)];rw[bW (eY f.ok _)];rw[bQ (sU p.ok ⟨#[41]⟩)];refine (Q (fun a b c=>V_ a b c)).trans ?_;rw[bEN,bW (eY k1.ok _)];rw[bW (eY d.ok _)];exact V.trans (a'E _ z _ k2 g)
end
section
variable {T:List Tok} {s:Nm}
end
def b05 (b:Bool) (A:R):aB b A A=A:=by cases b<;>rfl
abbrev vY:Nm := [101,118,101,110,116]
abbrev CI (X:aH->R) (q:Sh.V dF) (m:Mo) (A:RA) (q':Sh.V dF) (m':Mo) (D:RA):Prop:=X [aX q,bZ (aU m),aA A.v]=some (.tuple [],[aX q',bZ (aU m'),aA D.v])
abbrev LI (X:aH->R) (m:Mo) (w:List PV) (A:RA) (m':Mo) (w':List PV) (D:RA):Prop:=X [aK (bz m w),aA A.v]=some (.tuple [],[aK (bz m' w'),aA D.v])
section
variable {A D:RA} {m m':Mo} {q q':Sh.V dF} {w w':List PV}
def mD {x y:List UInt8} (c:A.is x=true) (a:x≠y):A.is y=false:=by unfold RA.is at *;rw[bH,qG] at c;rw[c.2,show (x==y)=false by simpa using a,Bool.and_false]
def DT (h:A.ok) {x:List UInt8} (a:x∉kM) (c:A.is x=true):A.pk.kind=1/\A.pk.text=x:=by rw[Qo h a,bH,qG,qG] at c; exact c
variable {C:Int}
def Ug (h:A.ok) (e:d=C):SS.CC 142 [.int .i64 d,.int .i64 C,.ptr 0 0] [some [.ptr 1 0],dQ (bz m w),aA A.v]=some (.bool true,[some [.ptr 1 0],dQ (bz m w),aA (A.fail 3).v]):=by
 rw[aMA,show (d==C)=true by simpa using e,aI,bW (lG h 3)];try dsimp only
 rw[aM9,eP (next (h.fail 3)),aBN (qM (by decide)),show (d==C)=true by simpa using e]
def Uf (h:A.ok) (e:d≠C):SS.CC 142 [.int .i64 d,.int .i64 C,.ptr 0 0] [some [.ptr 1 0],dQ (bz m w),aA A.v]=some (.bool false,[some [.ptr 1 0],dQ (bz m w),aA A.next.v]):=by rw[aMA,show (d==C)=false by simpa using e,aF,aM9,eP (next h),show (d==C)=false by simpa using e]
def sk {x:List UInt8} {F:Bool->Sh.V aC->R} (h:A.ok) (c:A.is x=f):bP 144 [.ptr 0 0,.str ⟨x.toArray⟩] [aA A.v] F=F f A.v:=by rw[bQ (sU h ⟨x.toArray⟩)];show F (A.is x) A.v=_;rw[c]
def z_ {F:Bool->Sh.V aC->R} (h:A.ok) (c:A.is vY=false):bP 62 [.ptr 0 0,.str ⟨vY.toArray⟩] [aA A.v] F=F false A.v:=by rw[bQ (jH h ⟨vY.toArray⟩)];show F (A.is vY) (A.take vY).v=_;rw[c,lZ c]
def b1T (h:A.ok) (c:A.is uK=true) (b:m.cs.length<32) (e:CI (SS.CC 69 [.ptr 0 0,.ptr 1 0,.ptr 1 3]) q m A.next q' m' D):CI (SS.CC 20 [.ptr 0 0,.ptr 1 0]) q m A q' m' D:=by
 obtain ⟨k1,k2⟩:=DT h (by decide) c;unfold CI;rw[BN,eP (iW h)];try dsimp only
 rw[k1,k2];show aB true (aB false _ _) _=_;rw[aI,aF,bG (by rw[bM]; omega),aF,eP (next h)];try dsimp only
 have a:SS.CC 68 [.ptr 0 0,.ptr 1 0] [some [.ptr 2 0],some [.ptr 3 0],lU q,bZ (aU m),aA A.next.v]=some (.tuple [],[some [.ptr 2 0],some [.ptr 3 0],lU q',bZ (aU m'),aA D.v]):=by rw[bCS];exact (Ll e).trans rfl
 exact (PG a).trans rfl
def b1N (h:A.ok) (c:A.is uK=true) (a:32<=m.cs.length):CI (SS.CC 20 [.ptr 0 0,.ptr 1 0]) q m A q m (A.fail 3):=by
 obtain ⟨k1,k2⟩:=DT h (by decide) c;unfold CI;rw[BN,eP (iW h)];try dsimp only
 rw[k1,k2];show aB true (aB false _ _) _=_;rw[aI,aF,aP (by rw[bM]; omega),aI,bW (lG h 3)]
def b1U (h:A.ok) (c:A.is vY=true) (e:CI (SS.CC 65 [.ptr 0 0,.ptr 1 0]) q m A.next q' m' D):CI (SS.CC 20 [.ptr 0 0,.ptr 1 0]) q m A q' m' D:=by
 obtain ⟨k1,k2⟩:=DT h (by decide) c;unfold CI;rw[BN,eP (iW h)];try dsimp only
 rw[k1,k2];show aB false _ (aB true (aB false _ _) _)=_;rw[aF,aI,aF,eP (next h)];try dsimp only
 have a:SS.CC 64 [.ptr 0 0,.ptr 1 0] [some [.ptr 2 0],some [.ptr 3 0],lU q,bZ (aU m),aA A.next.v]=some (.tuple [],[some [.ptr 2 0],some [.ptr 3 0],lU q',bZ (aU m'),aA D.v]):=by rw[bCJ];exact (Ll e).trans rfl
 exact (PG a).trans rfl
def b1Y (h:A.ok) (c:A.is yA=true) (b:m.xs.length<32) (e:CI (SS.CC 72 [.ptr 0 0,.ptr 1 0]) q m A.next q' m' D):CI (SS.CC 20 [.ptr 0 0,.ptr 1 0]) q m A q' m' D:=by
 obtain ⟨k1,k2⟩:=DT h (by decide) c;unfold CI;rw[BN,eP (iW h)];try dsimp only
 rw[k1,k2];show aB false _ (aB false _ (aB true (aB false _ _) _))=_;rw[aF,aF,aI,aF,bG (by rw[bM]; omega),aF,eP (next h)];try dsimp only
 have a:SS.CC 71 [.ptr 0 0,.ptr 1 0] [some [.ptr 2 0],some [.ptr 3 0],lU q,bZ (aU m),aA A.next.v]=some (.tuple [],[some [.ptr 2 0],some [.ptr 3 0],lU q',bZ (aU m'),aA D.v]):=by rw[bCW];exact (Ll e).trans rfl
 exact (PG a).trans rfl
def b1R (h:A.ok) (c:A.is yA=true) (a:32<=m.xs.length):CI (SS.CC 20 [.ptr 0 0,.ptr 1 0]) q m A q m (A.fail 3):=by
 obtain ⟨k1,k2⟩:=DT h (by decide) c;unfold CI;rw[BN,eP (iW h)];try dsimp only
 rw[k1,k2];show aB false _ (aB false _ (aB true (aB false _ _) _))=_;rw[aF,aF,aI,aF,aP (by rw[bM]; omega),aI,bW (lG h 3)]
def b1V (h:A.ok) (c:A.is AV=true) (b:m.ks.length<32) (e:CI (SS.CC 74 [.ptr 0 0,.ptr 1 0]) q m A.next q' m' D):CI (SS.CC 20 [.ptr 0 0,.ptr 1 0]) q m A q' m' D:=by
 obtain ⟨k1,k2⟩:=DT h (by decide) c;unfold CI;rw[BN,eP (iW h)];try dsimp only
 rw[k1,k2];show aB false _ (aB false _ (aB false _ (aB true (aB false _ _) _)))=_;rw[aF,aF,aF,aI,aF,bG (by rw[bM]; omega),aF,eP (next h)];try dsimp only
 have a:SS.CC 73 [.ptr 0 0,.ptr 1 0] [some [.ptr 2 0],some [.ptr 3 0],lU q,bZ (aU m),aA A.next.v]=some (.tuple [],[some [.ptr 2 0],some [.ptr 3 0],lU q',bZ (aU m'),aA D.v]):=by rw[bCY];exact (Ll e).trans rfl
 exact (PG a).trans rfl
def b1O (h:A.ok) (c:A.is AV=true) (a:32<=m.ks.length):CI (SS.CC 20 [.ptr 0 0,.ptr 1 0]) q m A q m (A.fail 3):=by
 obtain ⟨k1,k2⟩:=DT h (by decide) c;unfold CI;rw[BN,eP (iW h)];try dsimp only
 rw[k1,k2];show aB false _ (aB false _ (aB false _ (aB true (aB false _ _) _)))=_;rw[aF,aF,aF,aI,aF,aP (by rw[bM]; omega),aI,bW (lG h 3)]
def b1X (h:A.ok) (c:A.is vZ=true) (b:m.rs.length<32) (e:CI (SS.CC 69 [.ptr 0 0,.ptr 1 0,.ptr 1 4]) q m A.next q' m' D):CI (SS.CC 20 [.ptr 0 0,.ptr 1 0]) q m A q' m' D:=by
 obtain ⟨k1,k2⟩:=DT h (by decide) c;unfold CI;rw[BN,eP (iW h)];try dsimp only
 rw[k1,k2];show aB false _ (aB false _ (aB false _ (aB false _ (aB true (aB false _ _) _))))=_;rw[aF,aF,aF,aF,aI,aF,bG (by rw[bM]; omega),aF,eP (next h)];try dsimp only
 have a:SS.CC 70 [.ptr 0 0,.ptr 1 0] [some [.ptr 2 0],some [.ptr 3 0],lU q,bZ (aU m),aA A.next.v]=some (.tuple [],[some [.ptr 2 0],some [.ptr 3 0],lU q',bZ (aU m'),aA D.v]):=by rw[bCV];exact (Ll e).trans rfl
 exact (PG a).trans rfl
def b1Q (h:A.ok) (c:A.is vZ=true) (a:32<=m.rs.length):CI (SS.CC 20 [.ptr 0 0,.ptr 1 0]) q m A q m (A.fail 3):=by
 obtain ⟨k1,k2⟩:=DT h (by decide) c;unfold CI;rw[BN,eP (iW h)];try dsimp only
 rw[k1,k2];show aB false _ (aB false _ (aB false _ (aB false _ (aB true (aB false _ _) _))))=_;rw[aF,aF,aF,aF,aI,aF,aP (by rw[bM]; omega),aI,bW (lG h 3)]
def b1W (h:A.ok) (c:A.is rX=true) (b:m.ts.length<16) (e:CI (SS.CC 67 [.ptr 0 0,.ptr 1 0]) q m A.next q' m' D):CI (SS.CC 20 [.ptr 0 0,.ptr 1 0]) q m A q' m' D:=by
 obtain ⟨k1,k2⟩:=DT h (by decide) c;unfold CI;rw[BN,eP (iW h)];try dsimp only
 rw[k1,k2];show aB false _ (aB false _ (aB false _ (aB false _ (aB false _ (aB true (aB false _ _) _)))))=_;rw[aF,aF,aF,aF,aF,aI,aF,bG (by rw[bM]; omega),aF,eP (next h)];try dsimp only
 have a:SS.CC 66 [.ptr 0 0,.ptr 1 0] [some [.ptr 2 0],some [.ptr 3 0],lU q,bZ (aU m),aA A.next.v]=some (.tuple [],[some [.ptr 2 0],some [.ptr 3 0],lU q',bZ (aU m'),aA D.v]):=by rw[bCN];exact (Ll e).trans rfl
 exact (PG a).trans rfl
def b1P (h:A.ok) (c:A.is rX=true) (a:16<=m.ts.length):CI (SS.CC 20 [.ptr 0 0,.ptr 1 0]) q m A q m (A.fail 3):=by
 obtain ⟨k1,k2⟩:=DT h (by decide) c;unfold CI;rw[BN,eP (iW h)];try dsimp only
 rw[k1,k2];show aB false _ (aB false _ (aB false _ (aB false _ (aB false _ (aB true (aB false _ _) _)))))=_;rw[aF,aF,aF,aF,aF,aI,aF,aP (by rw[bM]; omega),aI,bW (lG h 3)]
def b1S (h:A.ok) (c:∀ x,x ∈ [uK,vY,yA,AV,vZ,rX]->A.is x=false):CI (SS.CC 20 [.ptr 0 0,.ptr 1 0]) q m A q m (A.fail 14):=by
 have d:∀ x,x ∈ [uK,vY,yA,AV,vZ,rX]->(A.pk.kind==1&&A.pk.text==x)=false:=fun x b=>by rw[<- Qo h (show x∉kM by revert b; simp only[jr,yU,yX]; rintro (rfl|rfl|rfl|rfl|rfl|rfl)<;>decide)];exact c x b
 unfold CI;rw[BN,eP (iW h)];try dsimp only
 by_cases hk:A.pk.kind=1
 .have a:∀ x,x ∈ [uK,vY,yA,AV,vZ,rX]->(A.pk.text==x)=false:=fun x b=>by have:=d x b; rwa [show (A.pk.kind==1)=true by simp[hk],LG] at this
  show aB (A.pk.text==uK) _ (aB (A.pk.text==vY) _ (aB (A.pk.text==yA) _ (aB (A.pk.text==AV) _ (aB (A.pk.text==vZ) _ (aB (A.pk.text==rX) _ _)))))=_;rw[a uK (by simp),a vY (by simp),a yA (by simp),a AV (by simp),a vZ (by simp),a rX (by simp)];simp only[aF];rw[show (A.pk.kind != 1)=false by simp[hk],aF,bW (lG h 14)]
 .rw[show (A.pk.kind != 1)=true by simp[hk]];simp only[aI];rw[bW (lG h 14)];try dsimp only
  simp only[b05]
def bRQ (h:A.ok) (c:A.is vY=true) (e:LI (SS.CC 143 [.ptr 0 0]) m w A.next m' w' D):LI (SS.CC 38 [.ptr 0 0]) m w A m' w' D:=by
 unfold LI;rw[BP];dsimp only[gQ];show bP 62 [.ptr 0 0,.str ⟨vY.toArray⟩] [aA A.v] _=_;rw[bQ (jH h ⟨vY.toArray⟩)];try dsimp only
 rw[c,aI,qC c];exact (Tj e).trans rfl
def bRS (h:A.ok) (c:A.is rX=true) (a:m.ts.length<16) (e:LI (SS.CC 145 [.ptr 0 0]) m w A.next m' w' D):LI (SS.CC 38 [.ptr 0 0]) m w A m' w' D:=by
 unfold LI;rw[BP];dsimp only[gQ];rw[z_ h (mD c (by decide)),aF,sk h c,aI,CZ (Uf h (by rw[bM]; omega))];try dsimp only
 rw[pG,aI];exact (Tj e).trans rfl
def bRL (h:A.ok) (c:A.is rX=true) (a:m.ts.length=16):LI (SS.CC 38 [.ptr 0 0]) m w A m w (A.fail 3):=by
 unfold LI;rw[BP];dsimp only[gQ];rw[z_ h (mD c (by decide)),aF,sk h c,aI,CZ (Ug h (by rw[bM]; omega))];try dsimp only
 rw[uY,aF]
def bRP {x:Ins} (h:A.ok) (c:A.is uK=true) (b:m.cs.length<32) (e:SS.CC 146 [.ptr 0 0] [aK (bz m w),aA A.next.v]=some (A8 (G8 x),[aK (bz m w),aA D.v])) (a:SS.CC 146 [.ptr 0 0] [vO (bz m w),aA A.next.v]=some (A8 (G8 x),[vO (bz m w),aA D.v])):LI (SS.CC 38 [.ptr 0 0]) m w A { m with cs:=m.cs ++ [x] } w D:=by
 unfold LI;rw[BP];dsimp only[gQ];rw[z_ h (mD c (by decide)),aF,sk (x:=rX) h (mD c (by decide)),aF,sk h c,aI,CZ (Uf h (by rw[bM]; omega))];try dsimp only
 rw[pG,aI,aZW a,Xz e,Xz e];try dsimp only
 rw[aQ (fV (by rw[bM]; omega))];repeat rw[uD]
 show some _=some _;simp
def bRJ (h:A.ok) (c:A.is uK=true) (a:m.cs.length=32):LI (SS.CC 38 [.ptr 0 0]) m w A m w (A.fail 3):=by
 unfold LI;rw[BP];dsimp only[gQ];rw[z_ h (mD c (by decide)),aF,sk (x:=rX) h (mD c (by decide)),aF,sk h c,aI,CZ (Ug h (by rw[bM]; omega))];try dsimp only
 rw[uY,aF]
def bRT {x:Ins} (h:A.ok) (c:A.is vZ=true) (b:m.rs.length<32) (e:SS.CC 146 [.ptr 0 0] [aK (bz m w),aA A.next.v]=some (A8 (G8 x),[aK (bz m w),aA D.v])) (a:SS.CC 146 [.ptr 0 0] [vP (bz m w),aA A.next.v]=some (A8 (G8 x),[vP (bz m w),aA D.v])):LI (SS.CC 38 [.ptr 0 0]) m w A { m with rs:=m.rs ++ [x] } w D:=by
 unfold LI;rw[BP];dsimp only[gQ];rw[z_ h (mD c (by decide)),aF,sk (x:=rX) h (mD c (by decide)),aF,sk (x:=uK) h (mD c (by decide)),aF,sk h c,aI,CZ (Uf h (by rw[bM]; omega))];try dsimp only
 rw[pG,aI,aZX a,Xz e,Xz e];try dsimp only
 rw[aQ (fV (by rw[bM]; omega))];repeat rw[uD]
 show some _=some _;simp
def bRM (h:A.ok) (c:A.is vZ=true) (a:m.rs.length=32):LI (SS.CC 38 [.ptr 0 0]) m w A m w (A.fail 3):=by
 unfold LI;rw[BP];dsimp only[gQ];rw[z_ h (mD c (by decide)),aF,sk (x:=rX) h (mD c (by decide)),aF,sk (x:=uK) h (mD c (by decide)),aF,sk h c,aI,CZ (Ug h (by rw[bM]; omega))];try dsimp only
 rw[uY,aF]
def bRU (h:A.ok) (c:A.is yA=true) (a:m.xs.length<32) (e:LI (SS.CC 147 [.ptr 0 0]) m w A.next m' w' D):LI (SS.CC 38 [.ptr 0 0]) m w A m' w' D:=by
 unfold LI;rw[BP];dsimp only[gQ];rw[z_ h (mD c (by decide)),aF,sk (x:=rX) h (mD c (by decide)),aF,sk (x:=uK) h (mD c (by decide)),aF,sk (x:=vZ) h (mD c (by decide)),aF,sk h c,aI,CZ (Uf h (by rw[bM]; omega))];try dsimp only
 rw[pG,aI];exact (Tj e).trans rfl
def bRN (h:A.ok) (c:A.is yA=true) (a:m.xs.length=32):LI (SS.CC 38 [.ptr 0 0]) m w A m w (A.fail 3):=by
 unfold LI;rw[BP];dsimp only[gQ];rw[z_ h (mD c (by decide)),aF,sk (x:=rX) h (mD c (by decide)),aF,sk (x:=uK) h (mD c (by decide)),aF,sk (x:=vZ) h (mD c (by decide)),aF,sk h c,aI,CZ (Ug h (by rw[bM]; omega))];try dsimp only
 rw[uY,aF]
def bRR (h:A.ok) (c:A.is AV=true) (a:m.ks.length<32) (e:LI (SS.CC 148 [.ptr 0 0]) m w A.next m' w' D):LI (SS.CC 38 [.ptr 0 0]) m w A m' w' D:=by
 unfold LI;rw[BP];dsimp only[gQ];rw[z_ h (mD c (by decide)),aF,sk (x:=rX) h (mD c (by decide)),aF,sk (x:=uK) h (mD c (by decide)),aF,sk (x:=vZ) h (mD c (by decide)),aF,sk (x:=yA) h (mD c (by decide)),aF,sk h c,aI,CZ (Uf h (by rw[bM]; omega))];try dsimp only
 rw[pG,aI];exact (Tj e).trans rfl
def bRK (h:A.ok) (c:A.is AV=true) (a:m.ks.length=32):LI (SS.CC 38 [.ptr 0 0]) m w A m w (A.fail 3):=by
 unfold LI;rw[BP];dsimp only[gQ];rw[z_ h (mD c (by decide)),aF,sk (x:=rX) h (mD c (by decide)),aF,sk (x:=uK) h (mD c (by decide)),aF,sk (x:=vZ) h (mD c (by decide)),aF,sk (x:=yA) h (mD c (by decide)),aF,sk h c,aI,CZ (Ug h (by rw[bM]; omega))];try dsimp only
 rw[uY,aF]
def bRO (h:A.ok) (a:∀ x,x ∈ [uK,vY,yA,AV,vZ,rX]->A.is x=false):LI (SS.CC 38 [.ptr 0 0]) m w A m w (A.fail 14):=by unfold LI;rw[BP];dsimp only[gQ];rw[z_ h (a _ (by simp)),aF,sk (x:=rX) h (a _ (by simp)),aF,sk (x:=uK) h (a _ (by simp)),aF,sk (x:=vZ) h (a _ (by simp)),aF,sk (x:=yA) h (a _ (by simp)),aF,sk (x:=AV) h (a _ (by simp)),aF,bW (lG h 14)]
end
def LR {a:Type} (R:a->Nat->Prop):List a->Nat->Prop
 | [],w=>w=0
 | x::l,w=>∃ u r,R x u/\LR R l r/\w=u+r
def Lr {b:Type} {R:b->Nat->Prop} {x:b} {u:Nat} (c:R x u):∀ {l:List b} {w:Nat},LR R l w->LR R (l ++ [x]) (w+u)
 | [],w,h=>by have h:w=0:=h;exact ⟨u,0,c,rfl,by omega⟩
 | a::l,w,⟨v,r,d,f,e⟩=>⟨v,_,d,Lr c f,by omega⟩
def JJ (e:oN):Nat:=wl e.n+(if e.c then 13 else 0)+(if e.o then 11 else 0)+(if e.f then 9 else 0)+(if e.k=0 then 0 else 6+oI e.k)+9
def EvR (e:oN) (w:Nat):Prop:=w=JJ e
def Y9 (t:Tm) (w:Nat):Prop:=∃ u,TmR t u/\w=u+9
def PI (k:Nat) (x:Ins) (w:Nat):Prop:=x.es.length<=20000/\w=iw x+k
def XcW (x:uf) (w:Nat):Prop:=x.ls.length<=20000/\w=xw x+8
def CtW (x:Cst) (w:Nat):Prop:=x.ts.length<=20000/\w=Vt x+6
structure GV (m:Mo) (N W:Nat) (A:RA):Prop where
 n:m.n.length<=100
 es:2*m.es.length+A.N<=N
 ts:m.ts.length<=16
 cs:m.cs.length<=32
 rs:m.rs.length<=32
 xs:m.xs.length<=32
 ks:m.ks.length<=32
 w:∃ a b c d f g,LR EvR m.es a/\LR Y9 m.ts b/\LR (PI 10) m.cs c/\LR (PI 12) m.rs d/\LR XcW m.xs f/\LR CtW m.ks g/\a+b+c+d+f+g+A.W<=W
section
variable {A:RA} {m:Mo}
theorem b45 {l:List Nm} (h:A.ok) (e:(A.DL l).e=0):(A.DL l).N<A.N/\JJ (A.DN l)+(A.DL l).W<=A.W+6:=by
 have m:=Le.add h l;have a:=Le.take m.ok iT;have b:=Le.take a.ok kW;have d:=Le.take b.ok tu;have i:=aB3 h l;have w5:(A.DL l).W+2=(A.vU l).W:=nC i.ok e;have g:(A.vU l).e=0:=(Le.exp i.ok [59]).e0 e;have n:(A.DL l).N<=(A.vU l).N:=(Le.exp i.ok [59]).le;have w1:((A.add l).take iT).W+(if (A.add l).is iT then 13 else 0)=(A.add l).W:=XN m.ok;have w2:(((A.add l).take iT).take kW).W+(if ((A.add l).take iT).is kW then 11 else 0)=((A.add l).take iT).W:=XN a.ok;have w3:(A.ev1 l).W+(if (((A.add l).take iT).take kW).is tu then 9 else 0)=(((A.add l).take iT).take kW).W:=XN b.ok;have q:=a.le;have r:=b.le;have t:(A.ev1 l).N<=_:=d.le;cases c:(A.ev1 l).is zW with
 | true =>
  have j:A.vU l=(A.ev1 l).next.int 1 4:=by grind [RA.vU]
  have hv:(A.DN l).k=(A.ev1 l).next.DR 1 4:=by grind [RA.DN]
  have w4:(A.ev1 l).next.W+6=(A.ev1 l).W:=nV d.ok c;have u:=(jY (A:=A.ev1 l) d.ok (kD c)).2;rw[j] at g w5 n;obtain ⟨k1,k2,k3,k4⟩:=aQE (aBX h l).next g;have o:(A.ev1 l).e=0:=FH (kD c);have f:(A.add l).e=0:=a.e0 (b.e0 (d.e0 o));have w0:=DF h f;have p:=l_ h f;refine ⟨by omega,?_⟩;unfold JJ;rw[aV (show (A.DN l).k≠0 by omega),hv];show wl (A.gZ l)+(if (A.add l).is iT then 13 else 0)+(if ((A.add l).take iT).is kW then 11 else 0)+(if (((A.add l).take iT).take kW).is tu then 9 else 0)+_+9+_<=_;omega
 | false =>
  have j:A.vU l=A.ev1 l:=by grind [RA.vU]
  have hv:(A.DN l).k=0:=by grind [RA.DN]
  rw[j] at g w5 n;have f:(A.add l).e=0:=a.e0 (b.e0 (d.e0 g));have w0:=DF h f;have p:=l_ h f;refine ⟨by omega,?_⟩;unfold JJ;rw[ah hv];show wl (A.gZ l)+(if (A.add l).is iT then 13 else 0)+(if ((A.add l).take iT).is kW then 11 else 0)+(if (((A.add l).take iT).take kW).is tu then 9 else 0)+0+9+(A.DL l).W<=A.W+6;omega
theorem bPT {W:Nat} (v w:List PV) (h:A.ok) (i:A.e=0) (hN:e<=40000) (hg:GV m e W A):∃ D m1 m2 v' w',Le A D/\D.N<A.N/\(D.e=0->m1=m2/\GV m1 e W D) /\
 SS.CC 20 [.ptr 0 0,.ptr 1 0] [aX (0,v,()),bZ (aU m),aA A.v]=some (.tuple [],[aX (0,v',()),bZ (aU m1),aA D.v]) /\
 LI (SS.CC 38 [.ptr 0 0]) m w A m2 w' D:=by
 obtain ⟨E,ge,T,U,V,X,Y,a,b,c,d,f,g,F,G,H,I,J,K,a'⟩:=hg;have hn:=Ce h i;have l:∀ n:Int,n≠0->Le A (A.fail n)/\(A.fail n).N<A.N/\(A.fail n).e≠0:=fun n C=>⟨.fail h C,by rw[Tz (qM C)]; omega,qM C⟩
 have b0:A.N<=40000:=by omega
 by_cases L:A.is uK=true
 .have w0:A.next.W+10=A.W:=nV h L;have p:=(jY h (kD L)).2;by_cases o:m.cs.length<32
  .obtain ⟨D,x,k1,k2,B,-,e3,e4,-⟩:=aQ8 (m:=m) (0,v,()) h.next (by omega) (by omega);refine ⟨D,_,{ m with cs:=m.cs ++ [x] },v,w,(Le.next h).trans k1,by have:=k1.le; omega,fun j => ?_,b1T h L o B,bRP h L o (e3 w) (e4 w)⟩;obtain ⟨Z,z,q3⟩:=k2 j;exact ⟨rfl,E,by grind,T,by simp; omega,V,X,Y,a,b,_,d,f,g,F,G,Lr (R:=PI 10) ⟨z,rfl⟩ H,I,J,K,by omega⟩
  .obtain ⟨q,r,y⟩:=l 3 (by decide);exact ⟨_,m,m,v,w,q,r,fun j=>absurd j y,b1N h L (by omega),bRJ h L (by omega)⟩
 by_cases cE:A.is vY=true
 .have w0:A.next.W+6=A.W:=nV h cE;have p:=(jY h (kD cE)).2;have n1:=Ce h.next (jY h (kD cE)).1;have k1:=bSB h.next (m.es.map (·.n));have o:m.es.length<=20000:=by omega
  refine ⟨_,_,{ m with es:=m.es ++ [A.next.DN (m.es.map (·.n))] },v,w,(Le.next h).trans k1,by have:=k1.le; omega,fun j => ?_,b1U h cE (b3U (0,v,()) h.next o),bRQ h cE (b41 w h.next o)⟩;obtain ⟨Z,z⟩:=b45 h.next j;exact ⟨rfl,E,by simp; omega,T,U,V,X,Y,_,b,c,d,f,g,Lr (R:=EvR) rfl F,G,H,I,J,K,by omega⟩
 by_cases M:A.is yA=true
 .have w0:A.next.W+8=A.W:=nV h M;have p:=(jY h (kD M)).2;by_cases o:m.xs.length<32
  .obtain ⟨D,x,k1,k2,B,e2⟩:=b4D (m:=m) (0,v,()) h.next (by omega) (by omega);refine ⟨D,_,{ m with xs:=m.xs ++ [x] },v,w,(Le.next h).trans k1,by have:=k1.le; omega,fun j => ?_,b1Y h M o B,bRU h M o (e2 w)⟩;obtain ⟨Z,z,q3⟩:=k2 j;exact ⟨rfl,E,by grind,T,U,V,by simp; omega,Y,a,b,c,d,_,g,F,G,H,I,Lr (R:=XcW) ⟨z,rfl⟩ J,K,by omega⟩
  .obtain ⟨q,r,y⟩:=l 3 (by decide);exact ⟨_,m,m,v,w,q,r,fun j=>absurd j y,b1R h M (by omega),bRN h M (by omega)⟩
 by_cases O:A.is AV=true
 .have w0:A.next.W+6=A.W:=nV h O;have p:=(jY h (kD O)).2;by_cases o:m.ks.length<32
  .obtain ⟨D,x,k1,k2,B,e2⟩:=b2O (m:=m) (0,v,()) h.next (by omega) (by omega);refine ⟨D,_,{ m with ks:=m.ks ++ [x] },v,w,(Le.next h).trans k1,by have:=k1.le; omega,fun j => ?_,b1V h O o B,bRR h O o (e2 w)⟩;obtain ⟨Z,z,q3⟩:=k2 j;exact ⟨rfl,E,by grind,T,U,V,X,by simp; omega,a,b,c,d,f,_,F,G,H,I,J,Lr (R:=CtW) ⟨z,rfl⟩ K,by omega⟩
  .obtain ⟨q,r,y⟩:=l 3 (by decide);exact ⟨_,m,m,v,w,q,r,fun j=>absurd j y,b1O h O (by omega),bRK h O (by omega)⟩
 by_cases Q:A.is vZ=true
 .have w0:A.next.W+12=A.W:=nV h Q;have p:=(jY h (kD Q)).2;by_cases o:m.rs.length<32
  .obtain ⟨D,x,k1,k2,-,B,e3,-,e4⟩:=aQ8 (m:=m) (0,v,()) h.next (by omega) (by omega);refine ⟨D,_,{ m with rs:=m.rs ++ [x] },v,w,(Le.next h).trans k1,by have:=k1.le; omega,fun j => ?_,b1X h Q o B,bRT h Q o (e3 w) (e4 w)⟩;obtain ⟨Z,z,q3⟩:=k2 j;exact ⟨rfl,E,by show 2*m.es.length+D.N<=e; omega,T,U,by simp; omega,X,Y,a,b,c,_,f,g,F,G,H,Lr (R:=PI 12) ⟨z,rfl⟩ I,J,K,by omega⟩
  .obtain ⟨q,r,y⟩:=l 3 (by decide);exact ⟨_,m,m,v,w,q,r,fun j=>absurd j y,b1Q h Q (by omega),bRM h Q (by omega)⟩
 by_cases S:A.is rX=true
 .have w0:A.next.W+9=A.W:=nV h S;have p:=(jY h (kD S)).2;by_cases o:m.ts.length<16
  .obtain ⟨D,t,t',v',w',k1,k2,B,e2⟩:=tmS (m:=m) v w h.next (by omega) (by omega);refine ⟨D,_,{ m with ts:=m.ts ++ [t'] },v',w',(Le.next h).trans k1,by have:=k1.le; omega,fun j => ?_,b1W h S o B,bRS h S o e2⟩;obtain ⟨rfl,Z,u,z,q3⟩:=k2 j;exact ⟨rfl,E,by show 2*m.es.length+D.N<=e; omega,by simp; omega,U,V,X,Y,a,_,c,d,f,g,F,Lr (R:=Y9) ⟨u,z,rfl⟩ G,H,I,J,K,by omega⟩
  .obtain ⟨q,r,y⟩:=l 3 (by decide);exact ⟨_,m,m,v,w,q,r,fun j=>absurd j y,b1P h S (by omega),bRL h S (by omega)⟩
 have hc:∀ x,x ∈ [uK,vY,yA,AV,vZ,rX]->A.is x=false:=fun x hx=>by simp only[jr,yU,yX] at hx;rcases hx with rfl|rfl|rfl|rfl|rfl|rfl<;>simp_all
 obtain ⟨q,r,y⟩:=l 14 (by decide);exact ⟨_,m,m,v,w,q,r,fun j=>absurd j y,b1S h hc,bRO h hc⟩
end
section
variable {A:RA} {m:Mo}
def PQ (B:Mo->Prop) (r s:R):Prop:=∃ M a b e,r=UV M a b e/\s=UV M a b e/\(e=0->a=0/\b=0/\Em M=0/\B M)/\(e≠0->M=m00)
theorem aJP (B:Mo->Prop) (a:Sh.V jO) (b:Sh.V eQ) (w:Sh.V ay) (e:A.e≠0):PQ B (VJ a A.v b) (Uj A.v w):=by
 refine ⟨m00,A.line,A.sN,A.e,?_,?_,fun h=>absurd h e,fun _=>rfl⟩
 .rw[aNU,Lj (MQ A),aV e,aV e];rw[show (A.e != 0)=true by grind];rfl
 .rw[aKF,Lj (MQ A),aV e,aV e];rw[show (A.e != 0)=true by grind];rfl
theorem aJQ (a:Sh.V eQ) (w:List PV) (e:A.e=0):VJ (aU m) A.v a=UV m 0 0 0/\Uj A.v (bz m w)=UV m 0 0 0:=by
 constructor
 .rw[aNU,Lj (MQ A)];rw[show (A.e != 0)=false by grind];rfl
 .rw[aKF,Lj (MQ A)];rw[show (A.e != 0)=false by grind];rfl
theorem b3E (B:Mo->Prop) (a:Sh.V jO) (b:Sh.V eQ) (w:Sh.V ay) (e:A.e≠0):PQ B (VK a A.v b) (Uk A.v w):=by rw[aNV,Iq (Bv _ _),aKG,CY (P.BM _ _)];grind [aF,aJP]
theorem b3F (B:Mo->Prop) (f:B m) (a:Sh.V eQ) (w:List PV) (h:A.ok) (e:A.e=0) (b:lV m) (c:m.cs.length+m.rs.length<=20000):PQ B (VK (aU m) A.v a) (Uk A.v (bz m w)):=by
 have g:=aIG m b c;have i:SS.CC 39 [A0 ((bz m w).1,(bz m w).2.1,(bz m w).2.2.1,(bz m w).2.2.2.1,(bz m w).2.2.2.2.1,(bz m w).2.2.2.2.2.1,(bz m w).2.2.2.2.2.2.1,())] []=bK (Em m):=bRW m b c;rw[aNV,Iq (Bv _ _),aKG,CY (P.BM _ _)];rw[show (A.e==0)=true by grind,aI,show (!(A.e != 0))=true by grind,aI,bu g,bu i,bW (lG h _),bW (lG h _)];by_cases d:Em m=0
 .rw[d,show A.fail 0=A by grind [RA.fail]];exact ⟨m,0,0,0,(aJQ a w e).1,(aJQ a w e).2,fun _=>⟨rfl,rfl,d,f⟩,fun h=>absurd rfl h⟩
 grind [aJP,qM]
theorem dJ {W:Nat} (d:e<=40000) (c:∀ m A,GV m e W A->lV m) (v w:List PV) (h:A.ok) (b:A.e=0->GV m e W A) :
 PQ (fun m=>∃ D,GV m e W D) (VM (aU m) A.v (0,v,())) (Ul A.v (bz m w)):=by
 refine loops (C:=fun A (y:Mo×List PV)=>VM (aU y.1) A.v (0,y.2,())) (L:=fun A (z:Mo×List PV)=>Ul A.v (bz z.1 z.2))
  (P:=fun A y z=>A.e=0->y.1=z.1/\GV y.1 e W A) (fun A y z h f => ?_) A (m,v) (m,w) h (fun a=>⟨rfl,b a⟩)
 obtain ⟨o,v⟩:=y;obtain ⟨p,w⟩:=z;rw[bJB,Iq (Bv _ _),b63,CY (P.BM _ _)];by_cases a:A.e=0
 .obtain ⟨g,b⟩:=f a;subst g;rw[show (A.e==0)=true by grind,aI,show (!(A.e != 0))=true by grind,aI,eP (iW h),eP (iW h)];by_cases hk:A.pk.kind=4
  .left;rw[show (A.pk.kind != 4)=false by grind,aF,aF];have:=b.cs;have:=b.rs;exact b3F _ ⟨A,b⟩ _ w h a (c _ _ b) (by omega)
  .right;obtain ⟨D,i,j,l,n,k1,k2,k3,k4,k5⟩:=bPT v w h a d b;rw[show (A.pk.kind != 4)=true by grind,Ll k4,Tj k5];exact ⟨D,(i,l),(j,n),rfl,rfl,k1.ok,k3,k2⟩
 grind [aF,b3E]
end
section
end
section
variable {nv n:Int} {lv:Nat}
end
section
variable {u:List UInt8} {T:List Tok} {b:UInt8} {t:Tok}
end
theorem ww (t:Tok) (B:List Tok):jw (t::B)=t.text.length+1+jw B:=by rw[jw]
theorem qP:jw []=0:=rfl
def aQ':∀ T:List Tok,(g_ T).length<=jw T
 | []=>by simp[g_]
 | [t]=>by rw[g_,jw,jw]; omega
 | t::u::l=>by have:=aQ' (u::l);rw[g_,ww,aZ,bT];omega
theorem c0W (x:EX) (a:Int) (B:List Tok):jw (wp x a B)<=jw B+4:=by grind [wp,ww,jf,qP]
theorem aZ1 (x:EX) (B:List Tok):jw (wp x 0 B)=jw B:=by have:=WN x;grind [wp]
theorem bZC (o:Int):(kz o).length<=2:=by grind [kz]
section
variable {ns:List Nm} {B:List Tok} {a b c:EX} {v o lv i:Int}
theorem EM {n:Int} (h:n<=lI a):wp a n B=B:=by grind [wp]
theorem wp_mono {m n:Int} (h:m<=n):jw (wp a m B)<=jw (wp a n B):=by grind [wp,ww,jf]
theorem aVF (h:PB ns (nE v) B):B=gX v:=by generalize a:nE v=x at h;cases h<;>grind [nE,vE,tE,fE,zE]
theorem bWX (h:PB ns tE B):B = [tW lM]:=by generalize a:tE=x at h;cases h<;>grind [nE,vE,tE,fE,zE,DK]
theorem bWS (h:PB ns fE B):B = [tW o9]:=by generalize a:fE=x at h;cases h<;>grind [nE,vE,tE,fE,zE,DK]
theorem bWY (h:PB ns (vE i) B):∃ s,ns[i.toNat]? = some s/\B = [tW s]:=by generalize a:vE i=x at h;cases h<;>grind [nE,vE,tE,fE,zE]
theorem bWW (h:PB ns (nY 10 a) B):∃ A,PB ns a A/\B=tS [33]::wp a 6 A:=by generalize b:nY 10 a=x at h;cases h<;>grind [nE,vE,tE,fE,zE]
theorem bWV (h:PB ns (nY 5 a) B):(∃ v,0<=v/\a=nE v/\B=tS [45]::tS [40]::(gX v ++ [tS [41]]))\/∃ A,PB ns a A/\B=tS [45]::wp a 6 A:=by generalize b:nY 5 a=x at h;cases h<;>grind [nE,vE,tE,fE,zE]
theorem bWQ (c:o=6\/o=7\/o=8\/o=9) (h:PB ns (jU o a b) B):(a=nE 0/\b=nE 0/\(B = [tW lM]\/B = [tW o9]))\/∃ A C,PB ns a A/\PB ns b C/\B=wp a 4 A ++ tS (kz o)::wp b 4 C:=by generalize d:jU o a b=x at h;cases h<;>grind [nE,vE,tE,fE,zE]
theorem bWP (c:o=2/\lv=4\/o=3/\lv=4\/o=4/\lv=5\/o=11/\lv=2\/o=12/\lv=1) (h:PB ns (jU o a b) B):∃ A C,PB ns a A/\PB ns b C/\B=wp a lv A ++ tS (kz o)::wp b (lv+1) C:=by generalize d:jU o a b=x at h;cases h<;>grind [nE,vE,tE,fE,zE]
theorem bWT (h:PB ns (.node 13 0 0 [c,a,b]) B):∃ C A D,PB ns c C/\PB ns a A/\PB ns b D/\B=wp c 1 C ++ tS [63]::(wp a 0 A ++ tS [58]::wp b 0 D):=by generalize d:EX.node 13 0 0 [c,a,b]=x at h;cases h<;>grind [nE,vE,tE,fE,zE]
end
theorem dl0:dl 0=1:=by grind [Lib.decDigits]
theorem a3Q (h:jT L f d x e):∀ v:Int,0<=v->x=nE v->dl v+1<=e/\(f=false->d=6->dl v+5<=e\/dl v=1/\4<=e):=by
 induction h with
 | num m i=>intro v hv a; injection a with _ a; grind
 | tt=>intro v hv a; injection a with a; omega
 | ff=>intro v hv a; injection a with a; omega
 | var m i=>intro v hv a; injection a with a; omega
 | Dl _ j=>intro v hv a; injection a with a; omega
 | RQ m i =>
  rename_i q;intro v hv a;injection a with _ a
  grind [dl0]
 | neg _ j=>intro v hv a; injection a with a; omega
 | par _ j=>grind
 | up _ i r j=>grind
 | bin o _ _ c g=>intro v hv a; injection a with a; omega
 | cmp o _ _ c g=>intro v hv a; injection a with a; omega
 | ite _ _ _ c g p=>intro v hv a; injection a with a; omega
theorem XZ (h:0<=d):jw (gX d)=dl d+1:=by grind [gX,ww,qP]
theorem aUF (h:d<0):jw (gX d)=dl (-d)+3:=by grind [gX,ww,qP]
theorem zY {s:Nm} (h:wl s<=e) (a:e<1000000):s.length<=wl s/\s.length<=100:=by grind [wl]
theorem aT7 (o v i:Int) (l:List EX):lI (.node o v i l)=7\/lI (.node o v i l)=if o=0 then (if v<0 then 6 else 7) else if o=1 then 7 else if o=2 then 4 else if o=3 then 4 else if o=4 then 5 else if o=5 then 6 else if o=6 then 3 else if o=7 then 3 else if o=8 then 3 else if o=9 then 3 else if o=10 then 6 else if o=11 then 2 else if o=12 then 1 else 0:=by grind [lI]
variable {H:EX}
def bT1 {c:Int} (f:d=2/\c=4\/d=3/\c=4\/d=4/\c=5\/d=11/\c=2\/d=12/\c=1):c<=lI (jU d x H):=by
 rcases aT7 d 0 0 [x,H] with e | e<;>rw[e]
 .omega
 omega
theorem aT5 (c:d=6\/d=7\/d=8\/d=9):3<=lI (jU d x H):=by
 rcases aT7 d 0 0 [x,H] with e | e<;>rw[e]
 .omega
 omega
theorem bXM {H:List Nm} (h:jT (cZ H) f d x e):e<1000000->∀ B,PB H x B->3*jw (wp x d B)<=4*e:=by
 induction h with
 | num t l =>intro p B j;have g:=aVF j;grind [EM,lI,nE,XZ]
 | tt =>
  intro p B j;have:3*jw (wp tE 6 B)<=4*5:=by rw[EM (by decide)];have:=bWX j;subst this;decide
  exact this
 | ff =>
  intro p B j;have:3*jw (wp fE 6 B)<=4*6:=by rw[EM (by decide)];have:=bWS j;subst this;decide
  exact this
 | @var i s t l =>grind [bWY,EM,lI,vE,ww,qP,bs,wl]
 | @Dl f x e _ D =>grind [bWW,EM,lI,ww]
 | @RQ v t l =>intro p B j;have g:=aVF j;grind [EM,lI,nE,XZ,aUF]
 | @neg x e E D =>
  intro p B j;rw[EM (by unfold lI; grind)];rcases bWV j with ⟨v,t,rfl,rfl⟩|⟨A,l,rfl⟩
  .have:=(a3Q E v t rfl).2 rfl rfl;have:=(a3Q E v t rfl).1;rw[ww,ww,jf,ww,qP,XZ t];grind
  grind [ww]
 | @par f x e _ D =>grind [aZ1,c0W]
 | @up f d m x e _ l G D =>intro p B j;have:=D (by omega) B j;have:=wp_mono (a:=x) (B:=B) l;omega
 | @bin f c o M x y e u F _ _ q r =>intro p B j;obtain ⟨A,C,l,G,rfl⟩:=bWP F j;have N:=q (by omega) A l;have O:=r (by omega) C G;rw[EM (bT1 F),jf,ww];grind
 | @cmp f c o x y e u F E I q r =>
  intro p B j;rcases bWQ F j with ⟨rfl,rfl,h⟩|⟨A,C,l,G,rfl⟩
  .have J:=(a3Q E 0 (by omega) rfl).1;have K:=(a3Q I 0 (by omega) rfl).1;rw[dl0] at J K;have:=bZC o;grind [jw,EM,aT5]
  grind [EM,aT5,jf,ww]
 | @ite a f c x y z e u v _ _ _ q r L =>grind [bWT,EM,WN,jf,ww]
abbrev U8 (n:Int):Prop:=0<=n/\n<=255
abbrev I8 (n:Int):Prop := -128<=n/\n<=127
structure Mc where
 a:Int
 b:Int
 i:Int
 m:Int
 rg:List (Int×Int)
 mv:List (Int×Int×Int)
 y:f_
structure a'L (c:Mc):Prop where
 a:U8 c.a
 b:U8 c.b
 i:U8 c.i
 m:U8 c.m
 rg:c.rg.length<=1000/\∀ r,r∈c.rg->I8 r.1/\I8 r.2
 mv:c.mv.length<=1000/\∀ x,x∈c.mv->U8 x.1/\U8 x.2.1/\U8 x.2.2
 y:c.y.length<=10000
section
variable {x3:Sh.V S26} {n:fQ} {ls es:List Nm} {vs:List Vr} (hv:vs.length<=3)
include hv
end
section
variable {c:Mc} {n:fQ} {ls es:List Nm} {o4:ai}
end
structure Sk where
 e:Int×Int×Int×Int×Int
 ts:List Mc
 is:List (Int×Int×Int)
 xs:List (Int×Int×Int×Int)
 ks:List (Int×Int×Int)
structure aH1 (s:Sk):Prop where
 e:U8 s.e.1/\U8 s.e.2.1/\U8 s.e.2.2.1/\U8 s.e.2.2.2.1/\U8 s.e.2.2.2.2
 ts:s.ts.length<=1000/\∀ c,c∈s.ts->a'L c
 is:s.is.length<=1000/\∀ x,x∈s.is->U8 x.1/\U8 x.2.1/\U8 x.2.2
 xs:s.xs.length<=1000/\∀ x,x∈s.xs->U8 x.1/\U8 x.2.1/\U8 x.2.2.1/\U8 x.2.2.2
 ks:s.ks.length<=1000/\∀ x,x∈s.ks->I8 x.1/\I8 x.2.1/\I8 x.2.2
section
variable {s:Sk} (hs:aH1 s) {o1:ai}
include hs
end
section
variable {s:Sk} (hs:aH1 s) {o1 o2:ai}
include hs
end
theorem sV (s:Nm) (T:List Tok):jw (tW s::T)=s.length+1+jw T:=by rw[jw]
theorem AU (s:Nm) (T:List Tok):jw (tS s::T)=s.length+1+jw T:=by rw[jw]
theorem R_ {b:Type} {f:b->List Tok} {g:b->Nat} {G:List b->Nat} (d:∀ a l,G (a::l)=g a+G l) (s:UInt8):∀ l:List b,(∀ a,a∈l->3*jw (f a)+6<=4*g a)->3*jw (jI (tS [s]) (l.map f))<=4*G l-6
 | [],_=>by simp[jI,qP]
 | [a],h=>by have:=h a (by simp);have e:=d a [];show 3*jw (f a)<=_;omega
 | a::c::l,h=>by
  have m:=h a (by simp);have i:=R_ d s (c::l) fun x j=>h x (by simp[j])
  have n:=h c (by simp);have e:=d a (c::l);have o:=d c l;rw[wM,wM,jI,jf,ww];rw[wM] at i;grind
def Ls {a:Type} {R:a->Nat->Prop} {f:a->List Tok} {W:Nat}:∀ {l:List a} {w:Nat},(∀ x u,x∈l->R x u->u<=W->3*jw (f x)<=4*u)->LR R l w->w<=W->3*jw (l.flatMap f)<=4*w
 | [],_,_,h,_=>by simp[qP]
 | x::l,w,b,⟨u,r,c,d,e⟩,i=>by have j:=b x u (by simp) c (by omega);have m:=Ls (fun y v g=>b y v (by simp[g])) d (by omega);rw[TC,jf];omega
theorem PL {d:Type} {R:d->Nat->Prop}:∀ {l:List d} {w:Nat},LR R l w->∀ x,x∈l->∃ u,R x u/\u<=w
 | [],_,_,_,c=>by simp at c
 | y::l,w,⟨u,r,f,g,e⟩,x,c=>by
  rcases jr.1 c with rfl | c
  .exact ⟨u,f,by omega⟩
  .obtain ⟨v,a,b⟩:=PL g x c;exact ⟨v,a,by omega⟩
def XR:∀ {l:List Nm} {s:Nm},s∈l->wl s+3<=nw l
 | a::l,s,h=>by
  rw[nw];rcases jr.1 h with rfl | h
  .omega
  .have:=XR h; omega
def aBH:∀ {l:List (Nm×Nm)} {p:Nm×Nm},p∈l->wl p.1+wl p.2+4<=lw l
 | a::l,s,h=>by
  rw[lw];rcases jr.1 h with rfl | h
  .omega
  .have:=aBH h; omega
def aET:∀ {l:List (Nm×Int)} {p:Nm×Int},p∈l->oI p.2+wl p.1+5<=tw l
 | a::l,s,h=>by
  rw[tw];rcases jr.1 h with rfl | h
  .omega
  .have:=aET h; omega
def aT3:∀ {l:List Nm} {s:Nm},s∈l->wl s+12<=ve l
 | a::l,s,h=>by
  rw[ve];rcases jr.1 h with rfl | h
  .omega
  .have:=aT3 h; omega
def aYX:∀ {l:List Vr} {v:Vr},v∈l->vw v+4<=yP l
 | a::l,s,h=>by
  rw[yP];rcases jr.1 h with rfl | h
  .omega
  .have:=aYX h; omega
theorem bU7 (h:oI d<=e) (a:e<1000000):rM d:=by grind [oI]
theorem RX (h:oI d<=e) (a:e<1000000):jw (gX d)=oI d:=by grind [oI,aUF,XZ]
section
variable {w:Nat}
theorem b3Z {e:oN} (h:EvR e w) (a:w<999000):jw (vV e)<=w:=by
 have h:w=JJ e:=h;subst h;unfold JJ at a ⊢;have b:=(zY (dG (wl e.n)) (by omega)).1;have a1:jw (if e.c then [tW [99,111,110,116,114,111,108,108,97,98,108,101]] else [])=if e.c then 13 else 0:=by split<;>rfl
 have a2:jw (if e.o then [tW [111,98,115,101,114,118,97,98,108,101]] else [])=if e.o then 11 else 0:=by split<;>rfl
 have a3:jw (if e.f then [tW [102,111,114,99,105,98,108,101]] else [])=if e.f then 9 else 0:=by split<;>rfl
 have a4:jw (if e.k=0 then [] else tW [102,97,117,108,116]::gX e.k)=if e.k=0 then 0 else 6+oI e.k:=by
  split
  .rfl
  .rename_i c;rw[aV c] at a;rw[sV,RX (dG _) (by omega)];rfl
 grind [vV,jf,sV,AU]
theorem aUA {l:List Nm} (c:nw l<=w) (d:w<1000000):3*jw (yD l)<=4*(nw l-2+4):=by
 have:=R_ (f:=fun s:Nm => [tW s]) (g:=fun s=>wl s+3) (G:=nw) (fun a l=>rfl) 44 l fun a b=>by have:=XR b;have:=(zY (dG (wl a)) (by omega)).1;rw[sV,qP];omega
 grind [yD,jf,jw]
theorem aQ4 {x:Ins} {k:Nat} {s:Nm} (a:s.length+1=k) (h:PI k x w) (b:w<999000):3*jw (nU s x)<=4*w:=by obtain ⟨_,e⟩:=h;unfold iw at e;have c:=(zY (dG (wl x.n)) (by omega)).1;have d:=(zY (dG (wl x.t)) (by omega)).1;have:=aUA (w:=w+2) (l:=x.es) (by omega) (by omega);grind [nU,jf,sV,AU]
theorem c0X {x:uf} (h:XcW x w) (c:w<999000):3*jw (vH x)<=4*w:=by
 obtain ⟨_,e⟩:=h;unfold xw at e;have d:=(zY (dG (wl x.n)) (by omega)).1;have:=R_ (f:=fun l:Nm×Nm => [tW l.1,tW l.2]) (g:=fun p=>wl p.1+wl p.2+4) (G:=lw) (fun a l=>rfl) 44 x.ls fun a b=>by have:=aBH b;have:=(zY (dG (wl a.1)) (by omega)).1;have:=(zY (dG (wl a.2)) (by omega)).1;rw[sV,sV,qP];omega
 unfold vH;rw[jf,jf,sV,sV,AU,qP,AU,qP];grind
theorem b2P {x:Cst} (h:CtW x w) (d:w<999000):3*jw (ug x)<=4*w:=by
 obtain ⟨_,e⟩:=h;unfold Vt at e;have i:=(zY (dG (wl x.n)) (by omega)).1;have:=R_ (f:=fun l:Nm×Int=>gX l.2 ++ [tS [42],tW l.1]) (g:=fun p=>oI p.2+wl p.1+5) (G:=tw) (fun a l=>rfl) 43 x.ts fun a c=>by have:=aET c;have:=(zY (dG (wl a.1)) (by omega)).1;have:=RX (dG (oI a.2)) (by omega);rw[jf,AU,sV,qP];grind
 have j:=RX (dG (oI x.b)) (by omega);grind [ug,jf,sV,AU]
theorem aSG (I:Int) (b:List Int) (g:w<999000):∀ (l:List Nm) (i:Nat) (d:List Int),(∀ j,j∈b->(i:Int)<=j->j∈d)->ve l<=w->3*jw (zH I b i l)<=3*ve l+21*d.length+(if l = []\/I<(i:Int) then 0 else 24)
 | [],i,d,_,_=>by rw[zH,qP]; omega
 | s::l,i,d,h,m=>by
  have e:ve (s::l)=wl s+12+ve l:=rfl;have n:=(zY (dG (wl s)) (by omega)).1;have a1:jw (if (i:Int)=I then [tW [105,110,105,116,105,97,108]] else [])=if (i:Int)=I then 8 else 0:=by split<;>rfl
  have a2:jw (if (i:Int)∈b then [tW [109,97,114,107,101,100]] else [])=if (i:Int)∈b then 7 else 0:=by split<;>rfl
  have f:∃ a:List Int,(∀ j,j∈b->((i+1:Nat):Int)<=j->j∈a)/\(if (i:Int)∈b then 1 else 0)+a.length<=d.length:=by
   by_cases c:(i:Int)∈b
   .refine ⟨d.erase (i:Int),fun j o p => ?_,?_⟩;grind
    grind
   grind
  obtain ⟨a,k1,k2⟩:=f;have q:=aSG I b g l (i+1) a k1 (by omega);rw[zH];unfold DW;rw[jf,jf,jf,jf,a1,a2,sV,sV,qP,AU,qP];grind
theorem c04 {v:Vr} (a:vw v<999000):jw (tq v)<=vw v+4:=by unfold vw at a ⊢;have b:=(zY (dG (wl v.n)) (by omega)).1;have c:=RX (dG (oI v.lo)) (by omega);have d:=RX (dG (oI v.hi)) (by omega);have e:=RX (dG (oI v.i)) (by omega);grind [tq,jf,sV,AU]
def aYV:∀ {l:List Vr},yP l<999000->jw (l.flatMap tq)<=yP l
 | [],_=>by simp[qP]
 | v::l,h=>by have e:yP (v::l)=vw v+4+yP l:=rfl;have a:=c04 (v:=v) (by omega);have b:=aYV (l:=l) (by omega);rw[TC,jf];omega
end
section
variable {w:Nat} {ns:List Nm}
def aJF {u:Nat} (a:vN ns.length x) (h:jT (cZ ns) f 0 x u) (b:u<1000000):3*jw (xu ns x)<=4*u:=by have:=bXM h b _ (UX a).1;rwa [aZ1] at this
variable {K:ByteArray}
theorem Xj {l:List Nm} {i:Nat} (h:(cZ l)[i]? = some K) (b:wl K.data.toList<999000):(l.getD i []).length<=wl K.data.toList:=by grind [wl,bs]
theorem aYN {a:Int×EX} {v:Nat} (b:(cZ ns)[a.1.toNat]? = some K) (c:jT (cZ ns) f 0 a.2 v) (d:vN ns.length a.2) (e:wl K.data.toList+v<999000):3*jw (nZ ns a)+6<=4*(wl K.data.toList+v+6):=by have g:=Xj b (by omega);have h:=aJF d c (by omega);grind [nZ,sV,AU]
theorem aYQ:∀ {d:List (Int×EX)} {u:Nat},Ed (cZ ns) d u->u<999000->(∀ x,x∈d->vN ns.length x.2)->3*jw (jI (tS [44]) (d.map (nZ ns)))<=4*u-6
 | [],_,_,_,_=>by simp[jI,qP]
 | [a],u,⟨s,k,v,r,_,f,g,h,e⟩,i,b=>by have j:=aYN f g (b a (by simp)) (by omega);show 3*jw (nZ ns a)<=_;omega
 | a::c::l,u,⟨s,k,v,r,_,f,g,h,e⟩,i,b=>by
  have j:=aYN f g (b a (by simp)) (by omega);have q:=aYQ h (by omega) fun x m=>b x (by simp[m])
  obtain ⟨t,w,y,z,_,n,o,p,A⟩:=h;rw[wM,wM,jI,jf,ww];grind
variable {G:Tm}
theorem bTT {x:Mv} (h:PM (cZ G.ls) (cZ G.es) (cZ (G.vs.map (·.n))) x w) (i:TZ G x) (o:w<999000):3*jw (pg G x)<=4*(w+5):=by
 obtain ⟨_,a,b,c,g,u,⟨_,a1⟩,⟨_,j⟩,⟨_,l⟩,d,f,e⟩:=h;have p:=Xj a1 (by omega);have q:=Xj j (by omega);have r:=Xj l (by omega);have hv:(G.vs.map (·.n)).length=G.vs.length:=bM _;have a2:3*jw (if gW x.g tE then [] else tW [119,104,101,110]::xu (G.vs.map (·.n)) x.g)<=4*g:=by
  rcases d with ⟨d,_⟩|⟨k,v,d,h6⟩
  grind [DK,qP]
  .have:=aJF (by rw[hv]; exact i.g) d (by omega);grind [qP,sV]
 have a3:3*jw (if x.us = [] then [] else tW [100,111]::jI (tS [44]) (x.us.map (nZ (G.vs.map (·.n)))))<=4*u:=by
  rcases f with ⟨f,_⟩|⟨v,f,h6,z⟩
  grind [qP]
  .have:=aYQ f (by omega) fun y m=>by rw[hv]; exact (i.us y m).2
   grind [qP,sV]
 grind [pg,jf,sV,AU]
def aTW {t:Tm}:∀ {a:List Mv} {w:Nat},GX (cZ t.ls) (cZ t.es) (cZ (t.vs.map (·.n))) a w->(∀ x,x∈a->TZ t x)->w<999000->3*jw (a.flatMap (pg t))<=4*w
 | [],_,_,_,_=>by simp[qP]
 | x::a,w,⟨u,r,c,d,e⟩,b,g=>by have h:=bTT c (b x (by simp)) (by omega);have i:=aTW d (fun y f=>b y (by simp[f])) (by omega);rw[TC,jf];omega
theorem b'S (h:Y9 G w) (b:CV G) (c:w<999000):3*jw (pF G)<=4*w:=by
 obtain ⟨g,⟨s,d,y,u,rfl,_,_,_,f,i⟩,e⟩:=h;have m:=(zY (dG (wl s)) (by omega)).1;have n:=aUA (w:=w+2) (l:=d) (by omega) (by omega);have o:=aSG y.I y.mr c y.ls 0 y.mr (fun j h _=>h) (by omega);have p:=aYV (l:=y.vs) (by omega);have q:=aTW f b.ms (by omega);unfold pF;rw[jf,jf,jf,jf,jf,jf,sV,sV,AU,AU,qP];have r:12*(if y.ls = []\/y.I<((0:Nat):Int) then 0 else 1)<=ve y.ls:=by
  split
  .omega
  .cases v:y.ls with
   | nil=>simp_all
   | cons a l=>rw[ve]; omega
 grind
theorem bTP {m:Mo} {N W:Nat} (h:GV m N W g) (j:EQ m) (v:W<=22400):(g_ (oH m)).length<=30000:=by obtain ⟨w,y,z,B,C,D,E,a,b,c,d,f,e,l,n,o,p,q,r,F⟩:=h;have G:=Ls (f:=vV) (W:=W) (fun x u _ h i=>by have:=b3Z h (by omega); omega) l (by omega);have H:=Ls (W:=W) (fun x u t h i=>b'S h (j.ts x t).2 (by omega)) n (by omega);have I:=Ls (f:=nU wC) (W:=W) (fun x u _ h i=>aQ4 (by rfl) h (by omega)) o (by omega);have J:=Ls (f:=nU wR) (W:=W) (fun x u _ h i=>aQ4 (by rfl) h (by omega)) p (by omega);have K:=Ls (W:=W) (fun x u _ h i=>c0X h (by omega)) q (by omega);have L:=Ls (W:=W) (fun x u _ h i=>b2P h (by omega)) r (by omega);have:=aQ' (oH m);grind [oH,jf,sV,AU]
end
section
variable {w:Nat}
def Ag {s:Nm} (h:wl s<=w) (a:w<999000):s.length<=20000:=by have:=(zY h (by omega)).2;omega
def aQ1 (h:oI d<=w) (c:w<999000):Tq d:=by obtain ⟨a,b⟩:=bU7 h (by omega);omega
theorem b'G:tE.Len:=by have z:zE.Len := .mk (by decide) (by decide) (by decide) (by decide) (by simp);exact .mk (by simp) (by decide) (by decide) (by decide) (by simp[z])
def aYS {l:List ByteArray} (d:l.length<1000000000000):∀ {c:List (Int×EX)} {u:Nat},Ed l c u->∀ x,x∈c->x.2.Len
 | [],_,_,_,b=>by simp at b
 | a::c,_,⟨s,k,v,r,_,_,e,f,_⟩,x,b=>by
  rcases jr.1 b with rfl | b
  .exact aVQ d e
  .exact aYS d f x b
theorem aTV {L E l:List ByteArray} (e:l.length<1000000000000):∀ {f:List Mv} {u:Nat},GX L E l f u->∀ x,x∈f->x.g.Len/\x.us.length<=20000/\∀ u,u∈x.us->u.2.Len
 | [],_,_,_,b=>by simp at b
 | a::f,_,⟨u,r,h,i,_⟩,x,b=>by
  rcases jr.1 b with rfl | b
  .obtain ⟨j,_,_,_,_,_,_,_,_,c,d,_⟩:=h;refine ⟨?_,j,?_⟩
   .rcases c with ⟨c,_⟩|⟨k,v,c,_⟩
    grind [b'G]
    .exact aVQ e c
   .rcases d with ⟨d,_⟩|⟨v,d,_⟩
    simp_all
    .exact aYS e d
  .exact aTV e i x b
theorem b'T {t:Tm} (h:Y9 t w) (a:w<999000):t.n.length<=20000/\uC t:=by
 obtain ⟨i,⟨s,d,y,u,rfl,f,b,j,g,l⟩,e⟩:=h;have hv:(cZ (y.vs.map (·.n))).length<1000000000000:=by have:=b.vs;grind
 have k1:s.length<=20000:=Ag (by omega) a;have k2:∀ z,z∈y.ls->z.length<=20000:=fun z c=>Ag (by have:=aT3 c; omega) a
 have k3:∀ z,z∈d->z.length<=20000:=fun z c=>Ag (by have:=XR c; omega) a
 have k4:∀ v,v∈y.vs->v.n.length<=20000/\Tq v.lo/\Tq v.hi:=fun v hv=>by have:=aYX hv;unfold vw at this;exact ⟨Ag (by omega) a,aQ1 (by omega) a,aQ1 (by omega) a⟩
 refine ⟨k1,⟨b.ls,k2⟩,⟨f,k3⟩,?_,b.mr,⟨b.vs,k4⟩,⟨b.ms,aTV hv g⟩⟩;grind [oK]
theorem bPJ {x:Ins} {k:Nat} (h:PI k x w) (a:w<999000):x.n.length<=20000/\x.t.length<=20000/\zq x.es:=by obtain ⟨b,e⟩:=h;unfold iw at e;exact ⟨Ag (by omega) a,Ag (by omega) a,b,fun s c=>Ag (by have:=XR c; omega) a⟩
theorem aTJ {m:Mo} {N W:Nat} (z:N<=40000) (B:W<=900000) (h:GV m N W g):lV m:=by
 obtain ⟨C,D,E,F,G,H,I,a,b,c,d,f,i,r,J,K,L,v,y,M⟩:=h;refine ⟨by omega,⟨by omega,fun e he => ?_⟩,⟨by omega,fun t O => ?_⟩,⟨by omega,by omega,fun x n => ?_⟩,⟨by omega,fun x n => ?_⟩,⟨by omega,fun x n => ?_⟩⟩
 .obtain ⟨u,j,q⟩:=PL r e he;have j:u=JJ e:=j;unfold JJ at j;exact Ag (w:=u) (by omega) (by omega)
 grind [PL,b'T]
 grind [PL,bPJ]
 .obtain ⟨u,⟨j,o⟩,q⟩:=PL v x n;unfold xw at o;exact ⟨Ag (w:=u) (by omega) (by omega),j,fun l p=>by have:=aBH p;exact ⟨Ag (w:=u) (by omega) (by omega),Ag (w:=u) (by omega) (by omega)⟩⟩
 .obtain ⟨u,⟨j,o⟩,q⟩:=PL y x n;unfold Vt at o;exact ⟨Ag (w:=u) (by omega) (by omega),j,fun l p=>by have:=aET p;exact Ag (w:=u) (by omega) (by omega)⟩
end
end Go.Proofs.YtagkcbgkhgccmaaGreatDoor.W
namespace Go.Proofs.YtagkcbgkhgccmaaGreatDoor
open Go.RowKit
set_option maxRecDepth 1000000
def hdW:List UInt8->Bool
 | []=>false
 | c::_=>jB c.toNat
def Jq (b:UInt8) (l:List UInt8):Nat:=if jB b.toNat then (if hdW l then 1 else 2) else if y8 b.toNat then 0 else 2
def om:List UInt8->Nat
 | []=>0
 | b::l=>Jq b l+om l
def aUP:∀ a b:List UInt8,om b<=om (a ++ b)
 | [],b=>by simp
 | x::a,b=>by have:=aUP a b; rw[qF,om]; omega
theorem aUN:∀ a:List UInt8,om a<=2*a.length
 | []=>by simp[om]
 | x::a=>by
  have:=aUN a;have h:Jq x a<=2:=by grind [Jq]
  rw[om,bT];omega
def aUO:∀ l:List UInt8,dJ jB l ≠ []->om l=(dJ jB l).length+1+om (l.drop (dJ jB l).length)
 | [],h=>by simp[dJ] at h
 | b::l,h=>by
  have f:jB b.toNat=true:=by
   cases e:jB b.toNat with
   | true=>rfl
   | false=>simp[dJ,zi,e] at h
  have e:dJ jB (b::l)=b::dJ jB l:=by simp[dJ,zi,f]
  rw[e,om,bT,List.drop_succ_cons];by_cases a:dJ jB l = []
  .have:hdW l=false:=by
    cases l with
    | nil=>rfl
    | cons c l =>
     cases d:jB c.toNat with
     | false=>exact d
     | true=>simp[dJ,zi,d] at a
   rw[a];simp[Jq,f,this]
  .have g:hdW l=true:=by
    cases l with
    | nil=>simp[dJ] at a
    | cons c l =>
     cases d:jB c.toNat with
     | true=>exact d
     | false=>simp[dJ,zi,d] at a
   have:=aUO l a;have i:Jq b l=1:=by simp[Jq,f,g]
   omega
def aUQ:∀ (x r:List UInt8),(∀ c,c∈x->jB c.toNat=false/\y8 c.toNat=false)->om (x ++ r)=2*x.length+om r
 | [],r,_=>by simp
 | c::x,r,h=>by
  have a:=h c (by simp);have e:Jq c (x ++ r)=2:=by simp[Jq,a]
  rw[qF,om,aUQ x r fun d b=>h d (by simp[b]),bT];omega
def b'F:∀ x∈kM,∀ c,c∈x->jB c.toNat=false/\y8 c.toNat=false:=by decide
def aWD:∀ l:List UInt8,(dJ gm l).length<=(dJ jB l).length
 | []=>by simp[dJ]
 | b::l=>by
  have:=aWD l;cases e:gm b.toNat with
  | false=>simp[dJ,zi,e]
  | true =>
   have a:jB b.toNat=true:=by simp[jB,e]
   simp only[dJ] at this;simp[dJ,zi,e,a,this]
def aUG:∀ {l:List UInt8} {n m:Nat},(∀ b,b∈l->gm b.toNat=true)->rF l n=some m->m<(n+1)*10 ^ l.length
 | [],n,m,_,h=>by
  rw[rF] at h;injection h with h
  simp; omega
 | b::l,n,m,a,h=>by
  rw[rF] at h;split at h
  .cases h
  .have d:=aUG (fun c e=>a c (by simp[e])) h;have i:=aA5.1 (a b (by simp));have f:10*n+(b.toNat-48)+1<=(n+1)*10:=by omega
   have g:=wO (10 ^ l.length) f;rw[bT,Nat.pow_succ];calc m<_:=d
    _<=_:=g
    _=_:=by rw[Nat.mul_assoc,Nat.mul_comm 10]
def aIO:∀ {k n:Nat},1<=k->n<10 ^ k->(Lib.decDigits n).length<=k
 | 0,_,h,_=>by omega
 | k+1,n,_,h=>by
  rw[Lib.decDigits];split
  .simp
  .rename_i a;rw[Nat.pow_succ] at h;have hk:1<=k:=by
    cases k with
    | zero=>simp at h; omega
    | succ k=>omega
   have:=aIO hk (show n / 10<10 ^ k by omega);simp; omega
def aZ0 {l:List UInt8} (h:0<(dJ jB l).length):(dJ jB l).length+1+om (l.drop (dJ jB l).length)<=om l:=by rw[aUO l fun e=>by rw[e] at h; simp at h];omega
def bU6 {l:List UInt8} {n:Nat} (g:¬ (dJ gm l).length<(dJ jB l).length) (a:rF (dJ gm l) 0=some n) (h:0<(dJ gm l).length):(Lib.decDigits n).length+1+om (l.drop (dJ gm l).length)<=om l:=by
 have b:(dJ gm l).length=(dJ jB l).length:=by have:=aWD l; omega
 have d:=aUG (fun c e=>aWB e) a;have f:=aIO h (by simpa using d);have i:=aZ0 (l:=l) (by omega);rw[b] at f ⊢;omega
def b'C {l x:List UInt8} (h:Fv l=some x):2*x.length+om (l.drop x.length)<=om l:=by
 obtain ⟨c,d⟩:=a5F h;obtain ⟨t,a⟩:=List.isPrefixOf_iff_prefix.1 d;have e:l.drop x.length=t:=by rw[<- a]; simp
 have b:=aUQ x t (b'F x c);rw[a] at b;rw[e,b];exact dG _
end Go.Proofs.YtagkcbgkhgccmaaGreatDoor
namespace Go.Proofs.YtagkcbgkhgccmaaGreatDoor.W
open Go.RowKit
set_option maxRecDepth 1000000
def bXQ {b:UInt8} {r:List UInt8} (h:(dh (b::r)).2=0) (c l:Int):Az ((dh (b::r)).1.at c l)+om ((b::r).drop (dh (b::r)).1.text.length)<=om (b::r):=by
 have a:=(Ny h).1;rw[show dh (b::r)=if gm b.toNat then Be (b::r) else if kJ b.toNat then CB (b::r) else EH (b::r) from rfl] at h a ⊢;split at h
 .rename_i e;rw[ah e] at a ⊢;unfold Be at h a ⊢;split at h
  .cases h
  .rename_i d;rw[aV d] at a ⊢;split at h
   .cases h
   .rename_i m;rw[aV m] at a ⊢;split at h
    .cases h
    .rename_i n j;rw[j] at a;dsimp only at a;have:=bU6 d j a;show (Lib.decDigits ((n:Nat):Int).toNat).length+1+_<=_;rw[qf];exact this
 .rename_i e;rw[aV e] at a ⊢;split at h
  .rename_i f;rw[ah f] at a ⊢;unfold CB at h a ⊢;split at h
   .cases h
   .rename_i d;rw[aV d] at a ⊢;dsimp only at a ⊢;have g:∀ s:List UInt8,s.length<=32->wl s<=s.length:=fun s o=>by rw[wl,ah (by omega)]; exact dG _
    exact lD (Nat.add_le_add_right (Nat.add_le_add_right (g _ (Nat.le_of_not_lt d)) 1) _) (aZ0 a)
  .rename_i f;rw[aV f] at a ⊢;unfold EH at h a ⊢;split at h
   .rename_i x i;rw[i] at a;dsimp only at a;have p:=b'C i;have q:=aFN x (a5F i).1;show wl x+1+om ((b::r).drop x.length)<=_;omega
   .cases h
def aFO:∀ (A B:List Tok),yR (A ++ B)=yR A+yR B
 | [],B=>by simp[yR]
 | a::A,B=>by rw[qF,yR,yR,aFO A B]; omega
def aWX:∀ (f:Nat) (a:List UInt8) (i d start:Nat) (dC e:List Tok),tJ f a i d start dC = .ok e->e.length<=dC.length+a.length+1/\yR e<=yR dC+om a+1
 | 0,_,_,_,_,_,_,h=>by cases h
 | f+1,a,i,d,start,dC,e,h=>by
  rw[tJ] at h;split at h
  .injection h with h
   subst h;rw[aFO];show _/\_+(0+1+0)<=_;simp
  .split at h
   .rename_i b r j c;have m:=Ny c;have g:=aWX f _ _ _ _ _ _ h;have n:=bXQ c (((uN (a.take (jF false a)) i (d,start)).1:Nat):Int) ((i+jF false a-(uN (a.take (jF false a)) i (d,start)).2+1:Nat):Int);have l:=aUP (a.take (jF false a)) (a.drop (jF false a));rw[Om,j] at l;have o:(b::r).length<=a.length:=by rw[<- j,xR]; omega
    rw[aFO] at g;rw[aZ,xR] at g;refine ⟨?_,?_⟩
    .have:=g.1;simp only[BD] at this;omega
    .have:=g.2;simp only[yR] at this;omega
   .cases h
theorem aTZ {t:List UInt8} (h:t.length<=40000):(yC t).N<=40001/\(yC t).W<=om t+1:=by
 unfold yC;cases e:uV t with
 | ok c =>unfold uV at e;rw[aV (by omega)] at e;have:=aWX _ _ _ _ _ _ _ e;grind [RA.N,RA.W,yR]
 | err a b e =>unfold RA.N RA.W;simp[yR]
abbrev v_:R:=some (.bool true,[])
variable {M:List PV}
def bSS:(((M.length:Nat):Int) !=((M.length:Nat):Int))=false:=by simp
def sl {X:R} {L:Nat->R} {E:R} (a:∀ k,k<M.length->L k=L (k+1)) (he:L M.length=E):aB (((M.length:Nat):Int) !=((M.length:Nat):Int)) X (L 0)=E:=by rw[bSS];exact mG a he
def aE6 {a:List Nm} (b:a.length<=20000):SS.CC 45 [.sl false 1 (aJ a),.sl false 1 (aJ a)] []=v_:=by rw[b6P];refine sl (L:=fun k=>ZU (aJ a) (aJ a) (k:Int)) (fun k hk => ?_) (by rw[aKI,bG (by omega),aF]);rw[iR] at hk;rw[aKI,aP (by rw[iR]; omega),BZ hk,kG,BZ hk,bU (by omega)];simp[aB]
theorem aWO {a:List Int} (b:a.length<=20000):SS.CC 46 [.sl false 1 (jC a),.sl false 1 (jC a)] []=v_:=by rw[aKJ];refine sl (L:=fun k=>Um (jC a) (jC a) (k:Int)) (fun k hk => ?_) (by rw[ZV,bG (by omega),aF]);grind [ZV,NT,zU,bU,aB]
theorem bYZ {a:List Vr} (b:a.length<=20000):SS.CC 47 [.sl false 4 (a.map mM),.sl false 4 (a.map mM)] []=v_:=by
 rw[b6W];refine sl (L:=fun k=>ZW (a.map mM) (a.map mM) (k:Int)) (fun k hk => ?_) (by rw[aKK,bG (by omega),aF]);have hk:k<a.length:=by grind
 rw[aKK,aP (by omega),Ht hk,Ht hk,bU (by omega)];simp[aB]
theorem bY' {a:List oN} (b:a.length<=20000):SS.CC 50 [.sl false 5 (a.map zK),.sl false 5 (a.map zK)] []=v_:=by
 rw[b74];refine sl (L:=fun k=>ZY (a.map zK) (a.map zK) (k:Int)) (fun k hk => ?_) (by rw[aKM,bG (by omega),aF]);have hk:k<a.length:=by grind
 rw[aKM,aP (by omega),NR hk,NR hk,bU (by omega)];simp[aB]
theorem bZ0 {a:List (Nm×Nm)} (b:a.length<=20000):SS.CC 55 [.sl false 2 (a.map zL),.sl false 2 (a.map zL)] []=v_:=by
 rw[b7L];refine sl (L:=fun k=>Zc (a.map zL) (a.map zL) (k:Int)) (fun k hk => ?_) (by rw[aKQ,bG (by omega),aF]);have hk:k<a.length:=by grind
 rw[aKQ,aP (by omega),NU hk,NU hk,bU (by omega)];simp[aB]
theorem bZ1 {a:List (Nm×Int)} (b:a.length<=20000):SS.CC 58 [.sl false 2 (a.map Np),.sl false 2 (a.map Np)] []=v_:=by
 rw[b7Y];refine sl (L:=fun k=>Ze (a.map Np) (a.map Np) (k:Int)) (fun k hk => ?_) (by rw[aKT,bG (by omega),aF]);have hk:k<a.length:=by grind
 rw[aKT,aP (by omega),NV hk,NV hk,bU (by omega)];simp[aB]
theorem sUs {a:List (Int×EX)} (b:a.length<=20000) (h:∀ u,u∈a->u.2.Len):SS.CC 42 [.sl false 5 (a.map zZ),.sl false 5 (a.map zZ),.func (.func 43) [] []] []=v_:=by
 rw[b6J];refine sl (L:=fun k=>ZT (a.map zZ) (a.map zZ) (k:Int)) (fun k hk => ?_) (by rw[aKH,bG (by omega),aF]);have hk:k<a.length:=by grind
 have e:SS.CC 43 [zZ a[k],zZ a[k]] []=v_:=by rw[b6K,aj (fK (h _ (fZ hk)) _),DK,Dv,aI]
 rw[aKH,aP (by omega),Jg hk,Jg hk,aj e,bU (by omega)];simp[aB]
theorem sMs {a:List Mv} (f:a.length<=20000) (h:∀ x,x∈a->x.g.Len/\x.us.length<=20000/\∀ u,u∈x.us->u.2.Len):SS.CC 48 [.sl false 8 (a.map ut),.sl false 8 (a.map ut),.func (.func 40) [] []] []=v_:=by
 rw[b6'];refine sl (L:=fun k=>ZX (a.map ut) (a.map ut) (k:Int)) (fun k hk => ?_) (by rw[aKL,bG (by omega),aF]);have hk:k<a.length:=by grind
 obtain ⟨b,c,d⟩:=h _ (fZ hk);have e:SS.CC 40 [ut a[k],ut a[k]] []=v_:=by rw[b6F,aj (fK b _),aj (sUs c d),DK];simp_all
 rw[aKL,aP (by omega),RF hk,RF hk,aj e,bU (by omega)];simp[aB]
theorem sTs {a:List Tm} (b:a.length<=20000) (h:∀ x,x∈a->uC x):SS.CC 51 [.sl false 9 (a.map xG),.sl false 9 (a.map xG),.func (.func 44) [] [.ptr 0 0]] [some [.func (.func 40) [] []]]=some (.bool true,[some [.func (.func 40) [] []]]):=by
 rw[b78];refine sl (L:=fun k=>ZZ (a.map xG) (a.map xG) (k:Int)) (fun k hk => ?_) (by rw[aKN,bG (by omega),aF]);have hk:k<a.length:=by grind
 have q:=h _ (fZ hk);have e:SS.CC 44 [xG a[k],xG a[k],.ptr 0 0] [some [.func (.func 40) [] []]]=some (.bool true,[some [.func (.func 40) [] []]]):=by
  rw[b6L];try dsimp only[gQ]
  rw[aj (aE6 q.ls.1),aj (aE6 q.es.1),aj (aWO q.al),aj (aWO q.mr),aj (bYZ q.vs.1),aj (sMs q.ms.1 q.ms.2)];simp_all
 rw[aKN,aP (by omega),Hr hk,Hr hk,aGK e,bU (by omega)];simp[aB]
theorem sIs {a:List Ins} (b:a.length<=20000) (h:∀ x,x∈a->x.es.length<=20000):SS.CC 52 [.sl false 3 (a.map dN),.sl false 3 (a.map dN),.func (.func 49) [] []] []=v_:=by
 rw[b7C];refine sl (L:=fun k=>Za (a.map dN) (a.map dN) (k:Int)) (fun k hk => ?_) (by rw[aKO,bG (by omega),aF]);have hk:k<a.length:=by grind
 have e:SS.CC 49 [dN a[k],dN a[k]] []=v_:=by rw[b70,aj (aE6 (h _ (fZ hk)))];simp_all
 rw[aKO,aP (by omega),AZ hk,AZ hk,aj e,bU (by omega)];simp[aB]
theorem sXs {a:List uf} (b:a.length<=20000) (h:∀ x,x∈a->x.ls.length<=20000):SS.CC 53 [.sl false 2 (a.map xE),.sl false 2 (a.map xE),.func (.func 54) [] []] []=v_:=by
 rw[b7G];refine sl (L:=fun k=>Zb (a.map xE) (a.map xE) (k:Int)) (fun k hk => ?_) (by rw[aKP,bG (by omega),aF]);have hk:k<a.length:=by grind
 have e:SS.CC 54 [xE a[k],xE a[k]] []=v_:=by rw[b7H,aj (bZ0 (h _ (fZ hk)))];simp_all
 rw[aKP,aP (by omega),FK hk,FK hk,aj e,bU (by omega)];simp[aB]
theorem sCs {a:List Cst} (b:a.length<=20000) (h:∀ x,x∈a->x.ts.length<=20000):SS.CC 56 [.sl false 3 (a.map og),.sl false 3 (a.map og),.func (.func 57) [] []] []=v_:=by
 rw[b7P];refine sl (L:=fun k=>Zd (a.map og) (a.map og) (k:Int)) (fun k hk => ?_) (by rw[aKR,bG (by omega),aF]);have hk:k<a.length:=by grind
 have e:SS.CC 57 [og a[k],og a[k]] []=v_:=by rw[b7U,aj (bZ1 (h _ (fZ hk)))];simp_all
 rw[aKR,aP (by omega),Hq hk,Hq hk,aj e,bU (by omega)];simp[aB]
variable {j:Mo}
theorem sMo (h:lV j):SS.CC 13 [A0 (aU j),A0 (aU j)] []=v_:=by
 rw[bJD,aj (bY' h.es.1),aGK (sTs h.ts.1 fun t b=>(h.ts.2 t b).2),aj (sIs h.is.1 fun x a=>(h.is.2.2 x (EI _ a)).2.2.1),aj (sIs h.is.2.1 fun x a=>(h.is.2.2 x (Du _ a)).2.2.1),
  aj (sXs h.xs.1 fun x a=>(h.xs.2 x a).2.1),aj (sCs h.ks.1 fun x a=>(h.ks.2 x a).2.1)]
 simp_all
def b4V {t:f_} (a:SS.CC 6 [.str (bs t)] []=UV j 0 0 0) (b:lV j) (c:j.cs.length+j.rs.length<=20000) (d:Em j=0) (e:(g_ (oH j)).length<=30000) :
 SS.CC 12 [.str (bs t)] []=some (.tuple [.str (bs (txM j)),af 0,af 0,af 0],[]):=by
 rw[aNW,Oz a];show aB false _ _=_;rw[aF,TW (bXE b c d e)];rfl
section
def bN8 (a0:fQ):SS.CC 3 [.str a0] []=G3 4 [] fun a=>aB (!a) (G3 4 [] fun b=>some (.bool b,[])) (aB (decide (2000<(a0.size:Int))) (G3 4 [] fun c=>some (.bool c,[])) (G3 5 [.str a0] fun d=>some (.bool d,[]))):=cc
end
section
variable {t:List UInt8}
theorem bWC (o:t.length<=40000) (p:(yC t).W<=22400):PQ (fun m=>∃ N W D,N<=40000/\W<=22400/\GV m N W D) (SS.CC 6 [.str (bs t)] []) (SS.CC 11 [.str (bs t)] []):=by
 have w:=(aTZ o).1;have w0:=p;have f:=bTV t;have c:=Le.exp f [109,111,100,101,108];have d:=Le.name c.ok;have g:=Le.exp d.ok [59];rw[bJC,aGI (aU3 t),b69,aGI (aU3 t)];try dsimp only
 rw[bW (eY f _),bW (eY f _)];try dsimp only
 rw[lF (lJ c.ok),lF (lJ c.ok)];try dsimp only
 rw[bW (eY d.ok _),bW (eY d.ok _)];try dsimp only
 have n:((((yC t).exp [109,111,100,101,108]).name).exp [59]).N<=40000:=by
  by_cases e:(((yC t).exp [109,111,100,101,108]).name).e=0
  .have:=(NY c.ok e).2;have:=c.le;have:=g.le;omega
  .rw[Tz (fun q=>e (g.e0 q))];omega
 have r:((((yC t).exp [109,111,100,101,108]).name).exp [59]).W<=22400:=by
  by_cases e:((((yC t).exp [109,111,100,101,108]).name).exp [59]).e=0
  .have i:=g.e0 e;have j:=d.e0 i;have:=nC d.ok e;have:=Hw c.ok i;have:=nC f j;omega
  grind [RA.W]
 have l:=dJ (m:=⟨((yC t).exp [109,111,100,101,108]).gz,[],[],[],[],[],[]⟩) n (fun m A u=>aTJ n (lD r (by decide)) u) [] [] g.ok fun e=>by have i:=g.e0 e;have j:=d.e0 i;have x:=Hw c.ok i;have y:=nC f j;have v:=(zY (dG (wl ((yC t).exp [109,111,100,101,108]).gz)) (by omega)).2;refine ⟨v,by simp,by simp,by simp,by simp,by simp,by simp,0,0,0,0,0,0,rfl,rfl,rfl,rfl,rfl,rfl,by omega⟩
 obtain ⟨M,a,b,e,k1,k2,k3,k4⟩:=l;exact ⟨M,a,b,e,k1,k2,fun h=>by grind,k4⟩
def bT2:lV m00:=⟨by simp,by simp,by simp,by simp,by simp,by simp⟩
theorem JD (j:t.length<=40000) (l:(yC t).W<=22400):SS.CC 5 [.str (bs t)] []=some (.bool true,[]):=by
 obtain ⟨M,a,b,e,k1,k2,k3,k4⟩:=bWC j l;by_cases he:e=0
 .subst he;obtain ⟨rfl,rfl,f,N,W,D,m,g,c⟩:=k3 rfl;have d:=aTJ m (lD g (by decide)) c;have h:M.cs.length+M.rs.length<=20000:=by have:=c.cs; have:=c.rs; omega
  have i:=bTP c (a9P d f) (lD g (by decide));have s1:=sMo d;rw[aNI,Oz k1,Oz k2,aG6 (b4V k1 d h f i)];show aB false _ (aB false _ (aB false _ _))=_;rw[aF,aF,aF,aj s1,uY,aF];show aB false _ (aB true (aB true (aB true _ _) _) _)=_;rw[aF,aI,aI,aI,o6 (b'J d h f i),Dv]
 .obtain rfl:=k4 he;have n:SS.CC 12 [.str (bs t)] []=some (.tuple [.str ⟨#[]⟩,.int .i64 a,.int .i64 b,.int .i64 e],[]):=by rw[aNW,Oz k1];grind [aI]
  have s1:=sMo bT2;rw[aNI,Oz k1,Oz k2,aG6 n];show aB (e != e) _ (aB (a != a) _ (aB (b != b) _ _))=_;rw[bne_self_eq_false,aF,bne_self_eq_false,aF,bne_self_eq_false,aF,aj s1,uY,aF];grind [aI]
def c7 (t:List UInt8):SS.CC 3 [.str (bs t)] []=lm (.bool true):=by
 have a:((bs t).size:Int)=(t.length:Int):=by rw[nR]
 rw[bN8,aj Bf,uY,aF,a];by_cases h:2000<t.length
 .rw[aP (by omega),aI,aj Bf]
 .rw[bG (by omega),aF,aj (JD (by omega) (by have:=(aTZ (t:=t) (by omega)).2; have:=aUN t; omega))]
def c7b (b:ByteArray):SS.CC 3 [.str b] []=lm (.bool true):=by
 have h:=c7 b.data.toList;have e:bs b.data.toList=b:=by rfl
 rwa [e] at h
end
end Go.Proofs.YtagkcbgkhgccmaaGreatDoor.W
namespace Go.Proofs.YtagkcbgkhgccmaaGreatDoor
open Go.ChangeShapes Go.WideShapes Go.ChangeAt Go.RowKit
set_option maxRecDepth 100000 in
theorem bWI (z:Os) (a:z.Started) (H:Type) (enc:TypeId×Value->H) (F:Stop.Interp) :
 ReturnsInHanded {} Tryz.checked z 3 .any ((OpenSpec.ofChange Rows.parserParsesSpec).preRow enc Tryz.prog Tryz.f3 Rows.parserParsesRow.domain false Rows.parserParsesRow.laid) (((OpenSpec.ofChange Rows.parserParsesSpec).at F).post enc Tryz.prog Tryz.f3 false true false false):=by
 obtain ⟨x,S⟩:=Option.isSome_iff_exists.1 (show (DataW.whole enc Tryz.prog ((t_ z).forCall (fun _ _=>0) ⟨#[],#[.string .empty],[]⟩).memory Tryz.f3.params.toList Rows.parserParsesSpec.vars false (#[.string .empty]:Array Value).toList 8).isSome=true by kernel_rfl);refine returnsInHanded_of_row (C:=Tryz.checked) (s:=OpenSpec.ofChange Rows.parserParsesSpec) bUO a (by kernel_rfl) Tryz.func3
  (witness_row_at (enc:=enc) (C:=Tryz.checked) false (t_ z) #[.string .empty] rfl (by kernel_rfl) (by kernel_rfl) (by kernel_rfl)
   (OpenSpec.preRow_of_cond 8 S (by kernel_rfl) (fun k hk=>by cases hk) (by kernel_rfl) (laidMet_of_run' 8 (by kernel_rfl) (by kernel_rfl)))) ?_
 intro W l args B T A b hW K _ c i D _;have f:∀ (j:Nat) t v,Tryz.f3.params[j]? = some t->args[j]? = some v->Value.okWide Tryz.prog W .any l t v:=b;have o:(DataW.weightsEach Tryz.prog (Tryz.f3.params.toList ++ Rows.parserParsesSpec.plain.varTypes Tryz.prog) (B ++ T)).all (· <= reachBytes)=true:=c;have E:=hW;obtain ⟨p,q,r,U,rfl,V,X⟩:=hW;have L:DataW.TrodAll enc Tryz.prog W 0 (fun _=>true) true Tryz.f3.params.toList args.toList B p:=r;rw[Tryz.params3] at L f o;have g:∀ (j:Nat) t d,(Tryz.f3.params.toList)[j]? = some t->B[j]? = some d->∀ n,n∈d.weights Tryz.prog t->n<=reachBytes:=fun j t d M N n Y=>TM (ja.1 c _ (DataW.weights_mem_each (j:=j) (t:=t) (d:=d) (by rw[vJ (iY.1 M).1]; exact M) (by rw[vJ (iY.1 N).1]; exact N) n Y))
 rw[Tryz.params3] at g;clear o c;have Z:GW W:=bOP i.tail.tail D;obtain ⟨O,a',d0,b0,p0,q0,G,rfl,rfl,Q,r0⟩:=trodAll_cons L;obtain ⟨rfl,rfl,rfl⟩:=trodAll_nil r0;obtain rfl:args = #[O]:=by cases args; simp_all
 obtain ⟨rfl,rfl⟩:=trodVars_none U;have k0:=Q;have I:∀ x∈p0,x.block<W.heap.size:=by obtain ⟨m,hm⟩:=k0; exact DataW.trod_lt m _ _ _ hm
 obtain ⟨f0,q0,s0,u⟩:=Ai (hW:=Z) b2N (by decide) (f 0 9 O rfl rfl) Q (g 0 9 d0 rfl rfl);obtain ⟨e0,J,x0⟩:=bZE s0;rw[J] at u;clear r b;refine (Ev.top (b43 (Go.Proofs.YtagkcbgkhgccmaaGreatDoor.W.c7b e0)) (bX' u bXZ)).mono fun e W' ⟨vr,M',he,w,_,y⟩ => ?_
 subst he;obtain rfl:=kw.1 w;exact ⟨_,rfl,_,_,_,[],_,[],E,trodAll_mk1 (shut_bool Tryz.underlying4 _),(trodAll_cons_mk (Below.trod bRH (by kernel_rfl) (TM (by kernel_rfl)) k0 y I) trodAll_mk0),rfl,y.frame _,fun h=>by cases h⟩
def bWG:(Rows.parserParsesRow.inPlace==Tryz.prog.inPlace 3)=true:=by kernel_rfl
def bWM:(Rows.parserParsesRow.unfollowed==Tryz.prog.unfollowed 3)=true:=by kernel_rfl
def bWK:(Rows.parserParsesRow.recurses==Tryz.prog.recurses 3)=true:=by kernel_rfl
def bWN:(Rows.parserParsesRow.named==Tryz.prog.varsNamed 3)=true:=by kernel_rfl
def bWH:joinedFacts Tryz.prog 3 Tryz.f3 (OpenSpec.ofChange Rows.parserParsesSpec).bare Rows.parserParsesRow=true :=bQ4 (by kernel_rfl) bWG bWM bWK bWN (by kernel_rfl)
def bWO:Tryz.f3.isWrapper Tryz.prog Rows.parserParsesRow.wrapper Rows.parserParsesRow.mainSum:=by unfold Func.isWrapper;first | (rw[ah (by decide +kernel)]; kernel_rfl) | (rw[aV (by decide +kernel)]; exact ⟨rfl,rfl⟩)
def bWL:Rows.ParserParsesSaid :=
 OpenClaim.holds_of_cond 3 Tryz.f3 rfl rfl rfl rfl rfl rfl rfl ⟨rfl,rfl,rfl,rfl,rfl⟩ rfl rfl rfl rfl rfl (by kernel_rfl) Tryz.func3 bWH
  (TM (by kernel_rfl)) bWO
  (fun c a H b _ F=>by rw[OpenClaim.pre_eq_preRow]; exact bWI c a H b F)
end Go.Proofs.YtagkcbgkhgccmaaGreatDoor
end

/- A part of the proof. -/
import Derived.Test.YtagkcbgkhgccmaaGreatDoorPq5
set_option linter.unusedVariables false
set_option linter.defProp false
set_option linter.unusedSimpArgs false
set_option linter.unnecessarySimpa false
set_option linter.unusedSectionVars false
noncomputable section
open Go.IntKind (i64)
namespace Go.Proofs.YtagkcbgkhgccmaaGreatDoor.W
open Go.RowKit
set_option maxRecDepth 1000000
def bg (T:List Tok):ai:=T.map fun t => .str (bs t.text)
theorem nK (T:List Tok):(bg T).length=T.length:=by grind [bg]
theorem tV (a b:List Tok):bg (a ++ b)=bg a ++ bg b:=by grind [bg]
def XT (t:Tok) (a:List Tok):bg (t::a) = .str (bs t.text)::bg a:=rfl
def MW (b:List (f_)) (x:EX) (B:List Tok):Prop:=∀ a:Int,a<=7->B.length+2<=1000000->SS.CC 237 [a_ (NS b),A1 (ev x),af a] []=some (.sl true 1 (bg (wp x a B)),[])
def MB (b:List (f_)) (x:EX) (B:List Tok):Prop:=B.length+2<=1000000->∀ a:Int,a<=lI x->SS.CC 237 [a_ (NS b),A1 (ev x),af a] []=some (.sl true 1 (bg B),[])
theorem WN (x:EX):0<=lI x:=by obtain ⟨o,v,i,l⟩:=x;unfold lI;dsimp only;omega
section
variable {ns:List (f_)} {a:EX}
theorem Jl {B:List Tok} (f:a.Len) (g:0<=a.op) (h:a.op<=13) (d:MB ns a B):MW ns a B:=fun b _ e=>by
 unfold wp;by_cases c:lI a<b
 .have j:SS.CC 273 [A1 (ev a)] []=some (af (lI a),[]):=by obtain ⟨o,v,i,l⟩:=a;exact (Dh f rfl g h).2
  rw[ah c,F6,bu j,aP c,mQ (d e 0 (WN a)),aQ (aP (by rw[nK]; unfold aO; omega)),aQ (aP (by rw[aZ,nK]; grind [aO])),XT,tV];rfl
 .rw[aV c]; exact d e b (by omega)
theorem bTK (a:tE.Len):MB ns tE [tW lM]:=fun _ b c=>by rw[F6,bu (Dh a rfl (by decide) (by decide)).2,bG (by omega),eX kF,aj (fK a tE),DK];rfl
theorem bTE (a:fE.Len):MB ns fE [tW o9]:=fun _ b c=>by rw[F6,bu (Dh a rfl (by decide) (by decide)).2,bG (by omega),eX kF,aj (fK a tE),eX kY,aj (fK a fE),DK];rfl
variable {o:Int}
def RV (a : -65536<=o) (b:o<=65536):SS.CC 159 [af o] []=some (.sl true 1 (bg (gX o)),[]):=by
 rw[bL3];unfold gX;by_cases hv:o<0
 .rw[aP hv,ah hv,show i64.wrap (0-o)=((-o).toNat:Int) by rw[wrap64 (by omega) (by omega)]; omega,o6 (a2J _ (by omega))];rfl
 .rw[show o=(o.toNat:Int) by omega,o6 (a2J _ (by omega))];rfl
theorem bTJ (d : -65536<=o) (e:o<=65536) (a:(EX.node 0 o 0 []).Len):MB ns (nE o) (gX o):=fun _ b f=>by have g:gW (.node 0 o 0 []) tE=false:=Af (by decide);have h:gW (.node 0 o 0 []) fE=false:=Bc (by decide);have c:=(Dh a rfl (by decide) (by decide)).2;unfold nE at f ⊢;rw[F6,bu c,bG (by omega),aF,eX kF,aj (fK a tE),g,aF,eX kY,aj (fK a fE),h,aF,bu c,lW];rw[show ((0:Int)==0)=true from rfl,aI,mQ (RV d e)]
theorem bTL {i:Nat} {s:f_} (f:ns[i]? = some s) (a:(EX.node 1 0 (i:Int) []).Len):MB ns (vE (i:Int)) [tW s]:=fun _ b d=>by
 have c:=(Dh a rfl (by decide) (by decide)).2;have e:(NS ns)[(i:Int).toNat]? = some (.str (bs s)):=by grind [aBQ]
 unfold vE at d ⊢;rw[F6,bu c,bG (by omega),eX kF,aj (fK a tE),eX kY,aj (fK a fE),bu c,lW];rw[nD (by omega) e];rfl
theorem bTI {A:List Tok} (e:MW ns a A) (b:(EX.node 10 0 0 [a]).Len):MB ns (nY 10 a) (tS [33]::wp a 6 A):=fun f c g=>by
 rw[bT] at f;have d:=(Dh b rfl (by decide) (by decide)).2;have h:A.length<=(wp a 6 A).length:=by grind [wp]
 unfold nY at g ⊢;rw[F6,bu d,bG (by omega),eX kF,aj (fK b tE),eX kY,aj (fK b fE),bu d,lW];rw[um,mQ (e 6 (by decide) (by omega)),aQ (aP (by rw[nK]; unfold aO; omega))];rfl
theorem bTH (e:0<=o) (f:MW ns (nE o) (gX o)) (g:wp (nE o) 0 (gX o)=gX o) (b:(EX.node 5 0 0 [nE o]).Len):MB ns (nY 5 (nE o)) (tS [45]::tS [40]::(gX o ++ [tS [41]])):=fun h c i=>by rw[bT,bT,aZ] at h;have j:gW (.node 5 0 0 [nE o]) tE=false:=Af (by decide);have l:gW (.node 5 0 0 [nE o]) fE=false:=Bc (by decide);have d:=(Dh b rfl (by decide) (by decide)).2;have a:=f 0 (by decide) (by omega);rw[g,MR] at a;unfold nY at i ⊢;rw[F6,bu d,bG (by omega),aF,eX kF,aj (fK b tE),j,aF,eX kY,aj (fK b fE),l,aF,bu d,lW];rw[show ((5:Int)==0)=false from rfl,aF,show ((5:Int)==1)=false from rfl,aF,show ((5:Int)==10)=false from rfl,aF,um,MR];rw[aP e,mQ a,aQ (aP (by rw[nK]; unfold aO; omega)),aQ (aP (by rw[aZ,nK]; grind [aO])),XT,XT,tV];rfl
variable {b e:Int}
theorem bTG {l:List EX} {A:List Tok} (n:o≠0\/b<0) (f:MW ns (.node o b e l) A) (a:(EX.node 5 0 0 [.node o b e l]).Len):MB ns (nY 5 (.node o b e l)) (tS [45]::wp (.node o b e l) 6 A):=fun g c h=>by
 rw[bT] at g;have j:gW (.node 5 0 0 [.node o b e l]) tE=false:=Af (by decide);have m:gW (.node 5 0 0 [.node o b e l]) fE=false:=Bc (by decide);have d:=(Dh a rfl (by decide) (by decide)).2;have p:A.length<=(wp (.node o b e l) 6 A).length:=by grind [wp]
 have q:a0O (NS ns) (5,0,0,qx [.node o b e l],())=some (.sl true 1 (bg (tS [45]::wp (.node o b e l) 6 A)),[]):=by rw[bHI];rw[um,mQ (f 6 (by decide) (by omega)),aQ (aP (by rw[nK]; unfold aO; omega))];rfl
 unfold nY at h ⊢;rw[F6,bu d,bG (by omega),aF,eX kF,aj (fK a tE),j,aF,eX kY,aj (fK a fE),m,aF,bu d,lW];rw[show ((5:Int)==0)=false from rfl,aF,show ((5:Int)==1)=false from rfl,aF,show ((5:Int)==10)=false from rfl,aF,um,lW];grind [aI,bG,aF]
variable {f:EX}
theorem bTF {b:EX} {C A B:List Tok} (h:MW ns a C) (i:MW ns f A) (j:MW ns b B) (d:(EX.node 13 0 0 [a,f,b]).Len):MB ns (.node 13 0 0 [a,f,b]) (wp a 1 C ++ tS [63]::(wp f 0 A ++ tS [58]::wp b 0 B)):=fun l e p=>by
 rw[aZ,bT,aZ,bT] at l;have m:gW (.node 13 0 0 [a,f,b]) tE=false:=Af (by decide);have n:gW (.node 13 0 0 [a,f,b]) fE=false:=Bc (by decide);have g:=(Dh d rfl (by decide) (by decide)).2;have q:C.length<=(wp a 1 C).length:=by grind [wp]
 have r:A.length<=(wp f 0 A).length:=by grind [wp]
 have t:B.length<=(wp b 0 B).length:=by grind [wp]
 have o:SS.CC 237 [a_ (NS ns),A1 (ev f),af 0] []=_:=i 0 (by decide) (by omega);rw[F6,bu g,bG (by omega),aF,eX kF,aj (fK d tE),m,aF,eX kY,aj (fK d fE),n,aF,bu g,lW];rw[show ((13:Int)==0)=false from rfl,aF,show ((13:Int)==1)=false from rfl,aF,show ((13:Int)==10)=false from rfl,aF,show ((13:Int)==5)=false from rfl,aF,um,mQ (h 1 (by decide) (by omega)),aQ (aP (by rw[nK]; unfold aO; omega)),show (1:Int)=((1:Nat):Int) from rfl,Ho (by simp)];rw[show [a,f,b][1]=f from rfl,mQ o,aQ (aP (by rw[aZ,nK,nK]; grind [aO])),aQ (aP (by rw[aZ,aZ,nK,nK]; grind [aO])),show (2:Int)=((2:Nat):Int) from rfl,Ho (by simp)];rw[show [a,f,b][2]=b from rfl,mQ (j 0 (by decide) (by omega)),aQ (aP (by rw[aZ,aZ,aZ,nK,nK,nK]; grind [aO])),tV,XT,tV];simp;exact ⟨rfl,rfl⟩
theorem aTH {A B:List Tok} {c:Int} (L:o=2\/o=3\/o=4\/o=6\/o=7\/o=8\/o=9\/o=11\/o=12) (l:lI (jU o a f)=b) (t:(o=6\/o=7\/o=8\/o=9)/\e=4/\c=4\/(o=2\/o=3\/o=4\/o=11\/o=12)/\0<=b/\b<=6/\e=b/\c=b+1)
 (u:gW (.node o 0 0 [a,f]) tE=false) (v:gW (.node o 0 0 [a,f]) fE=false) (w:MW ns a A) (x:MW ns f B) (m:(EX.node o 0 0 [a,f]).Len):MB ns (jU o a f) (wp a e A ++ tS (kz o)::wp f c B):=fun y r z=>by
 rw[aZ,bT] at y;have M:A.length<=(wp a e A).length:=by grind [wp]
 have N:B.length<=(wp f c B).length:=by grind [wp]
 have d:=(Dh m rfl (by omega) (by omega)).2;have n:lI (.node o 0 0 [a,f])=b:=l;have C:bg (wp a e A ++ tS (kz o)::wp f c B)=bg (wp a e A) ++ [.str (bs (kz o))] ++ bg (wp f c B):=by rw[tV,XT]; simp
 have CG:=w e (by omega) (by omega);have g:=x c (by omega) (by omega);have k1:∀ K,ak S1 (qx [a,f]) 1 K=K (ev f):=fun K=>Ho (by simp) K
 have i:decide ((bg (wp a e A)).length+1<=aO)=true:=aP (by rw[nK]; unfold aO; omega);have j:decide ((bg (wp a e A) ++ ([.str (bs (kz o))]:ai)).length+(bg (wp f c B)).length<=aO)=true:=aP (by rw[aZ,nK,nK]; grind [aO]);rw[F6,bu d,bG (by omega),aF,eX kF,aj (fK m tE),u,aF,eX kY,aj (fK m fE),v,aF,bu d,lW,C,n];have D:(o==0)=false:=by simp; omega
 have E:(o==1)=false:=by simp; omega
 have F:(o==5)=false:=by simp; omega
 have p:(o==10)=false:=by simp; omega
 have q:(o==13)=false:=by simp; omega
 rw[D,aF,E,aF,p,aF,F,aF,q,aF];rcases t with ⟨h,rfl,rfl⟩|⟨h,O,h6,rfl,rfl⟩
 .rcases h with rfl|rfl|rfl|rfl
  .rw[show ((6:Int)==6)=true from rfl,aI,um,mQ CG,o6 (KO 6),aQ i,k1,mQ g,aQ j]
  .rw[show ((7:Int)==6)=false from rfl,aF,show ((7:Int)==7)=true from rfl,aI,um,mQ CG,o6 (KO 7),aQ i,k1,mQ g,aQ j]
  .rw[show ((8:Int)==6)=false from rfl,aF,show ((8:Int)==7)=false from rfl,aF,show ((8:Int)==8)=true from rfl,aI,um,mQ CG,o6 (KO 8),aQ i,k1,mQ g,aQ j]
  .rw[show ((9:Int)==6)=false from rfl,aF,show ((9:Int)==7)=false from rfl,aF,show ((9:Int)==8)=false from rfl,aF,show ((9:Int)==9)=true from rfl,aI,um,mQ CG,o6 (KO 9),aQ i,k1,mQ g,aQ j]
 .have G:(o==6)=false:=by simp; omega
  have H:(o==7)=false:=by simp; omega
  have I:(o==8)=false:=by simp; omega
  have J:(o==9)=false:=by simp; omega
  rw[G,aF,H,aF,I,aF,J,aF,um,mQ CG,o6 (KO o),aQ i,k1,wrap64 (by omega) (by omega),mQ g,aQ j]
end
variable {B:List Tok}
theorem bWU (i:List (f_)) {x:EX} (h:PB i x B):x.Len->MB i x B/\0<=x.op/\x.op<=13:=by
 induction h with
 | tt=>grind [bTK,EX.op,tE]
 | ff=>grind [bTE,EX.op,fE]
 | num n o=>grind [bTJ,EX.op,nE]
 | var q=>grind [bTL,EX.op,vE]
 | @a3M v n o _ j =>grind [Len.arg,wp,nE,lI,bTH,Jl,EX.op]
 | neg r _ j =>grind [Len.arg,bTG,Jl,EX.op]
 | Dl _ j =>grind [Len.arg,bTI,Jl,EX.op]
 | cmp d l m _ _ b c =>
  intro a;obtain ⟨k1,k2,k3⟩:=b (Len.arg a (by simp));obtain ⟨e,f,g⟩:=c (Len.arg a (by simp));refine ⟨aTH (by omega) (aT6 d l m) (.inl ⟨d,rfl,rfl⟩) l m (Jl (Len.arg a (by simp)) k2 k3 k1) (Jl (Len.arg a (by simp)) f g e) a,?_,?_⟩;grind [EX.op]
  grind [EX.op]
 | bin d _ _ b c =>
  intro a;obtain ⟨k1,k2,k3⟩:=b (Len.arg a (by simp));obtain ⟨e,f,g⟩:=c (Len.arg a (by simp));refine ⟨aTH (by omega) (aT4 d) (.inr ⟨by omega,by omega,by omega,rfl,rfl⟩) (Af (by omega)) (Bc (by omega)) (Jl (Len.arg a (by simp)) k2 k3 k1) (Jl (Len.arg a (by simp)) f g e) a,?_,?_⟩;grind [EX.op]
  grind [EX.op]
 | ite _ _ _ p b c =>grind [Len.arg,bTF,Jl,EX.op]
abbrev o8 (t:Tok):Int×f_×Int:=(t.kind,t.text,t.value)
def Tv (t:Tok):Prop:=t.text ≠ []/\(dh t.text).2=0/\o8 (dh t.text).1=o8 t/\t.kind≠4
theorem b'B:∀ x∈kM,∀ c∈x.head?,y8 c.toNat=false/\c≠47:=by decide
variable {g:UInt8} {r:f_}
theorem b4L (h:(dh (g::r)).2=0):y8 g.toNat=false/\g≠47:=by
 unfold dh at h;cases e:gm g.toNat with
 | true =>simp only[gm,bH] at e;refine ⟨?_,fun c=>by simp_all⟩;grind [y8]
 | false =>
  cases f:kJ g.toNat with
  | true =>simp only[kJ,pJ] at f;refine ⟨?_,fun c=>by simp_all⟩;grind [y8]
  | false =>
   unfold EH at h;cases i:Fv (g::r) with
   | none=>simp_all
   | some x =>
    obtain ⟨a,d⟩:=a5F i;have j:=(aEL x a).1;match x,a,d,j with
    | c::x,a,d,_ =>grind [b'B]
theorem aX9 (h:(dh (g::r)).2=0) (u:f_):jF false (g::u)=0:=by obtain ⟨a,c⟩:=b4L h;grind [bZO]
def g_:List Tok->f_
 | [] => []
 | [t]=>t.text
 | t::u::l=>t.text ++ 32::g_ (u::l)
theorem aWW:∀ (T:List Tok),T ≠ []->(∀ t,t∈T->Tv t)->∀ (i a start:Nat) (dC:List Tok),∃ f e,zN false (g_ T) i a start dC = .ok (dC ++ f ++ [e])/\f.map o8=T.map o8/\e.kind=4
 | [],h,_,_,_,_,_=>absurd rfl h
 | [t],_,j,i,a,start,dC=>by
  obtain ⟨m,c,g,_⟩:=j t (by simp);show ∃ f e,zN false t.text i a start dC=_/\_;match n:t.text,m with
  | b::r,_ =>
   rw[n] at c g;have o:(dh (b::r)).1.text=b::r:=by simp_all
   have p:zN false (b::r) i a start dC = .ok (dC ++ [(dh (b::r)).1.at (a:Nat) ((i-start+1:Nat):Int)] ++ [(⟨4,[],0,(a:Nat),((i+(b::r).length-start+1:Nat):Int)⟩:Tok)]):=by rw[aG5 (aX9 c r),ah c,o,List.drop_length,aZD]
   refine ⟨_,_,p,?_,rfl⟩;show [o8 (dh (b::r)).1] = [o8 t];rw[g]
 | t::u::l,_,j,i,a,start,dC=>by
  obtain ⟨m,c,g,_⟩:=j t (by simp);show ∃ f e,zN false (t.text ++ 32::g_ (u::l)) i a start dC=_/\_;match n:t.text,m with
  | b::r,_ =>
   rw[n] at c g;have o:(dh (b::r)).1.text=b::r:=by simp_all
   have q:dh (b::(r ++ 32::g_ (u::l)))=dh (b::r):=bXO (by decide) b'E _ b r;obtain ⟨f,e,k1,k2,k3⟩:=aWW (u::l) (by simp) (fun t h=>j t (by simp[h])) (i+(b::r).length+1) a start (dC ++ [(dh (b::r)).1.at (a:Nat) ((i-start+1:Nat):Int)]);refine ⟨(dh (b::r)).1.at (a:Nat) ((i-start+1:Nat):Int)::f,e,?_,?_,k3⟩
   .have d:(b::(r ++ 32::g_ (u::l))).drop (b::r).length=32::g_ (u::l):=by rw[<- qF,List.drop_left]
    rw[qF,aG5 (by rw[aX9 c]),q,ah c,o,d,
     DC (by rw[jF,ah (by decide)]),aV (by decide),aV (by decide),k1]
    simp
   .rw[wM,wM,k2,<- g];rfl
theorem a7O:∀ (n:Nat) (b:UInt8),b∈Lib.decDigits n->gm b.toNat=true:=by
 intro n;induction n using Nat.strongRecOn with
 | _ n e =>
  intro b a;have c:∀ d:Nat,d<10->gm (UInt8.ofNat (48+d)).toNat=true:=fun d f=>by
   have:d=0\/d=1\/d=2\/d=3\/d=4\/d=5\/d=6\/d=7\/d=8\/d=9:=by omega
   rcases this with rfl|rfl|rfl|rfl|rfl|rfl|rfl|rfl|rfl|rfl<;>rfl
  rw[Lib.decDigits] at a;grind
theorem aUE:∀ (l:f_) (b:UInt8) (a m:Nat),rF l a=some m->10*m+(b.toNat-48)<=65536->rF (l ++ [b]) a=some (10*m+(b.toNat-48))
 | [],b,a,m,h,d=>by grind [rF]
 | c::l,b,a,m,h,d=>by
  rw[rF] at h;rw[qF,rF];split at h
  .cases h
  .rename_i e;rw[aV e];exact aUE l b _ m h d
theorem b2S:∀ (n:Nat),n<=65536->rF (Lib.decDigits n) 0=some n:=by
 intro n;induction n using Nat.strongRecOn with
 | _ n b =>
  intro e;have a:∀ d:Nat,d<10->(UInt8.ofNat (48+d)).toNat-48=d:=fun d c=>by
   have:d=0\/d=1\/d=2\/d=3\/d=4\/d=5\/d=6\/d=7\/d=8\/d=9:=by omega
   rcases this with rfl|rfl|rfl|rfl|rfl|rfl|rfl|rfl|rfl|rfl<;>rfl
  rw[Lib.decDigits];split;grind [rF]
  .have c:=a (n % 10) (by omega);have:=aUE (Lib.decDigits (n / 10)) (UInt8.ofNat (48+n % 10)) 0 (n / 10) (b (n / 10) (by omega) (by omega)) (by omega);grind
theorem b2R:∀ (n:Nat),0<n->∃ b r,Lib.decDigits n=b::r/\b≠48:=by
 intro n;induction n using Nat.strongRecOn with
 | _ n a =>
  intro c;rw[Lib.decDigits];split
  .refine ⟨_,[],rfl,?_⟩;have:n=1\/n=2\/n=3\/n=4\/n=5\/n=6\/n=7\/n=8\/n=9:=by omega
   rcases this with rfl|rfl|rfl|rfl|rfl|rfl|rfl|rfl|rfl<;>decide
  .obtain ⟨b,r,d,e⟩:=a (n / 10) (by omega) (by omega);simp_all
theorem OC {p:Nat->Bool}:∀ {l:f_},(∀ b,b∈l->p b.toNat=true)->dJ p l=l
 | [],_=>rfl
 | b::l,h=>by
  have:=OC (l:=l) fun c a=>h c (by simp[a])
  grind [dJ,List.takeWhile_cons]
theorem aYC {n:Nat} (h:n<=65536):Tv (tN n):=by
 have a:Lib.decDigits n ≠ []:=by rw[Lib.decDigits]; split<;>simp
 have c:dJ gm (Lib.decDigits n)=Lib.decDigits n:=OC (a7O n);have d:dJ jB (Lib.decDigits n)=Lib.decDigits n:=OC fun b f=>by grind [jB,a7O]
 have g:Be (Lib.decDigits n)=(⟨2,Lib.decDigits n,n,0,0⟩,0):=by
  unfold Be;rw[c,d,aV (by omega)];have e:¬ (1<(Lib.decDigits n).length/\(Lib.decDigits n)[0]? = some 48):=by
   rcases Nat.eq_zero_or_pos n with rfl | i
   grind [Lib.decDigits_one]
   grind [b2R]
  rw[aV e,b2S n h]
 have j:dh (Lib.decDigits n)=(⟨2,Lib.decDigits n,n,0,0⟩,0):=by
  unfold dh;match l:Lib.decDigits n,a with
  | b::r,_ =>grind [a7O]
 refine ⟨a,?_,?_,show (2:Int)≠4 by decide⟩;simp_all;simp_all
theorem b_2:∀ s,s∈kM->Tv (tS s):=by
 have:∀ s,s∈kM->s ≠ []/\(dh s).2=0/\o8 (dh s).1=(3,s,0):=by decide
 intro s a;obtain ⟨b,c,d⟩:=this s a;exact ⟨b,c,d,show (3:Int)≠4 by decide⟩
theorem b_3 (h:kH r=true):Tv (tW r):=by
 unfold kH at h;simp only[bH] at h;obtain ⟨e,f,i⟩:=h;have d:∀ (l:f_) (k:Nat),Bd l k=true->∀ b,b∈l->jB b.toNat=true:=by
  intro l;induction l with
  | nil=>simp
  | cons c l j =>grind [Bd,Dw,jB]
 match m:r,f with
 | b::a,_ =>
  have n:kJ b.toNat=true:=by rw[Bd] at e;grind [Dw]
  have g:gm b.toNat=false:=by grind [gm,kJ]
  have o:CB (b::a)=(⟨1,b::a,0,0,0⟩,0):=by grind [CB,OC]
  have p:dh (b::a)=(⟨1,b::a,0,0,0⟩,0):=by grind [dh]
  refine ⟨by simp,?_,?_,show (1:Int)≠4 by decide⟩;simp_all;simp_all
def aQF:∀ (T:List Tok),([32]:f_).intercalate (T.map (·.text))=g_ T
 | []=>rfl
 | [t]=>by simp[List.intercalate,g_]
 | t::u::l=>by have:=aQF (u::l);rw[g_,<- this];rfl
def aXW:∀ (l:List (f_)),nG (l.map fun s=>PV.str (bs s))=some (l.map bs)
 | []=>rfl
 | s::l=>by rw[wM,nG,aXW l]; rfl
def bQ1 (c:ai) (a:fQ):CS 60 [a_ c,.str a] []=(match nG c with
 | some b=>(match Nat.ble (Hg b a).length 140737488355328&&Nat.ble b.length 140737488355328 with
  | true=>some (PV.str ⟨(Hg b a).toArray⟩,([]:aH))
  | false=>none)
 | none=>none):=rfl
def bP' (T:List Tok):Hg (T.map fun t=>bs t.text) ⟨#[32]⟩=g_ T:=by unfold Hg Lib.join;rw[Xp,<- aQF];rfl
def sjc (T:List Tok) (b:T.length<=1000000) (c:(g_ T).length<=1000000):SS.CC 60 [a_ (T.map fun t=>PV.str (bs t.text)),c5V [32]] []=some (.str (bs (g_ T)),[]):=by
 refine TQ ?_;have a:nG (T.map fun t=>PV.str (bs t.text))=some (T.map fun t=>bs t.text):=by have:=aXW (T.map (·.text));rw[Xp,Xp] at this;exact this
 rw[bQ1,a];dsimp only;rw[bP',bM,Xr (by omega),Xr (by omega)];rfl
theorem aIJ {a:List Tok} (h:a.map o8=B.map o8) (hk:∀ t,t∈B->t.kind≠4):∀ t,t∈a->t.kind≠4:=by grind [List.mem_map_of_mem]
theorem aIZ (T a:List Tok) (c:T.length<=1000000) (h:a.map o8=T.map o8):∀ (m k:Nat),k+m=T.length->Zw (T.map bI) (a.map bI) (k:Int)=vG
 | 0,k,hk=>by grind [aLR,List.length_map,aF]
 | m+1,k,hk=>by
  have g:a.length=T.length:=by have:=congrArg List.length h; grind
  have d:k<a.length:=by omega
  have f:k<T.length:=by omega
  have e:o8 a[k]=o8 T[k]:=by have:=congrArg (fun l=>l[k]?) h;grind
  have i:a[k].kind=T[k].kind:=congrArg (·.1) e;have j:a[k].text=T[k].text:=congrArg (·.2.1) e;have n:a[k].value=T[k].value:=congrArg (·.2.2) e;have b:SS.CC 140 [qj (tk a[k]),qj (tk T[k])] []=vG:=by rw[bCE];simp_all
  rw[aLR,aP (by rw[bM]; omega),aI,WI d,WI f,aj b,uY,aF,bU (by omega)];exact aIZ T a c h m (k+1) (by omega)
theorem b3P (T a:List Tok) (b:T.length<=1000000) (h:a.map o8=T.map o8):SS.CC 139 [.sl false 5 (a.map bI),.sl false 5 (T.map bI),h_ 140] []=vG:=by
 have c:a.length=T.length:=by have:=congrArg List.length h; grind
 rw[bCD,bM,bM,show ((a.length:Int) !=(T.length:Int))=false by simp[c],aF];exact aIZ T a b h T.length 0 (by omega)
theorem aQY (T:List Tok) (b:T.length<=1000000):∀ (m k:Nat),k+m=T.length->Ui (T.map bI) ((T.take k).map fun t=>PV.str (bs t.text)) (k:Int)=Ui (T.map bI) (T.map fun t=>PV.str (bs t.text)) (T.length:Int)
 | 0,k,hk=>by simp_all
 | m+1,k,hk=>by
  have a:k<T.length:=by omega
  rw[aKE,aP (by rw[bM]; omega),aI,WI a,aQ (aP (by rw[bM,vK]; unfold aO; omega)),bU (by omega)];have:=aQY T b m (k+1) (by omega);rw[Oo a,yT] at this;exact this
theorem aWU (a:B ≠ []) (c:∀ t,t∈B->Tv t) (d:(g_ B).length<=65536):∃ b e,uV (g_ B) = .ok (b ++ [e])/\b.map o8=B.map o8/\e.kind=4:=by obtain ⟨b,e,f,g,h⟩:=aWW B a c 0 1 0 [];grind [uV,bZA]
def aIK:∀ (k n:Nat),n<10 ^ (k+1)->(Lib.decDigits n).length<=k+1
 | 0,n,h=>by rw[Lib.decDigits_one (by omega)]; simp
 | k+1,n,h=>by
  rw[Lib.decDigits];split
  .simp
  .rw[aZ,BD];have:=aIK k (n / 10) (by rw[Nat.pow_succ] at h; omega);omega
section
variable {v:ai} {d:Int} {T:List Tok} {x:EX}
end
section
variable {v:ai} {d:Int} {T:List Tok} {x:EX}
end
def b04 {b:f_} (h:bs r=bs b):r=b:=by have:=congrArg ByteArray.toList h;rwa [DJ,DJ] at this
end Go.Proofs.YtagkcbgkhgccmaaGreatDoor.W
end

/- A part of the proof. -/
import Derived.Test.YtmbehibpfkkjbaaGreatDoorPs1
import Derived.LoopN
import Derived.Defers
import Derived.Scope
import Derived.Orders
import Derived.IntWalk
import Derived.Test.YtmbehibpfkkjbaaGreatDoorChecked
set_option linter.unusedVariables false
set_option linter.defProp false
set_option linter.unusedSimpArgs false
set_option linter.unnecessarySimpa false
set_option linter.unusedSectionVars false
noncomputable section
open Go.IntKind (i64)
namespace Go.Proofs.YtmbehibpfkkjbaaGreatDoor
open Go.RowKit
mutual
def PV.blw (m:Nat):PV->Bool
 | .ptr i _=>decide (i<m)
 | .eU _ i=>decide (i<m)
 | .slh i _ _ _=>decide (i<m)
 | .func _ f c=>PV.blws m f&&PV.blws m c
 | .agg a=>PV.blws m a
 | .tuple a=>PV.blws m a
 | _=>true
def PV.blws (m:Nat):ai->Bool
 | []=>true
 | p::a=>p.blw m&&PV.blws m a
end
section
variable {M:Mem} {B:aT}
mutual
theorem b0A (m:Nat):∀ p:PV,p.blw m=true->bG M B p=bG M (B.take m) p
 | .int _ _,_=>by simp only[bG]
 | .bool _,_=>by simp only[bG]
 | .str _,_=>by simp only[bG]
 | .nilp,_=>by simp only[bG]
 | .raw _,_=>by simp only[bG]
 | .ptr i _,h=>by
  have:(B.take m)[i]? = B[i]? := by rw[qh,ay (by simpa[PV.blw] using h)]
  simp only[bG,this]
 | .eU _ i,h=>by
  have:(B.take m)[i]? = B[i]? := by rw[qh,ay (by simpa[PV.blw] using h)]
  simp only[bG,this]
 | .slh i _ _ _,h=>by
  have:(B.take m)[i]? = B[i]? := by rw[qh,ay (by simpa[PV.blw] using h)]
  simp only[bG,this]
 | .cst e,_=>by simp only[bG]
 | .eF _,_=>by simp only[bG]
 | .pW _ _ _ _,_=>by simp only[bG]
 | .mp _,_=>by simp only[bG]
 | .sl _ _ b,_=>by simp only[bG]
 | .func _ f c,h=>by simp only[PV.blw,bQ] at h;simp only[bG,Ua m f h.1,Ua m c h.2]
 | .agg a,h=>by simp only[bG,Ua m a (by simpa[PV.blw] using h)]
 | .tuple a,h=>by simp only[bG,Ua m a (by simpa[PV.blw] using h)]
theorem Ua (m:Nat):∀ a:ai,PV.blws m a=true->jB M B a=jB M (B.take m) a
 | [],_=>by simp only[jB]
 | p::a,h=>by simp only[PV.blws,bQ] at h;simp only[jB,b0A m p h.1,Ua m a h.2]
end
variable {j:Nat}
theorem dC.blw {p:PV} {v:Value} (a:p.blw j=true) (h:dC M B p v):dC M (B.take j) p v:=by grind [dC,b0A]
theorem bI.blw {a:ai} {b:List Value} (c:PV.blws j a=true) (h:bI M B a b):bI M (B.take j) a b:=by grind [bI,Ua]
def a1F {m:Nat}:∀ {a:ai},PV.blws m a=true↔∀ p,p∈a->p.blw m=true
 | []=>by simp[PV.blws]
 | p::a=>by simp[PV.blws,a1F]
mutual
theorem aO3 (m:Nat):∀ p:PV,p.flat=true->p.blw m=true
 | .int _ _,_=>rfl
 | .bool _,_=>rfl
 | .str _,_=>rfl
 | .nilp,_=>rfl
 | .raw _,_=>rfl
 | .ptr i _,h=>by simp[PV.flat] at h
 | .eU _ i,h=>by simp[PV.flat] at h
 | .slh i _ _ _,h=>by simp[PV.flat] at h
 | .cst e,_=>by simp only[PV.blw]
 | .eF _,_=>by simp only[PV.blw]
 | .pW _ _ _ _,_=>by simp only[PV.blw]
 | .mp _,_=>by simp only[PV.blw]
 | .sl _ _ b,_=>by simp only[PV.blw]
 | .func _ f c,h=>by simp only[PV.flat,bQ] at h;simp only[PV.blw,Wh m f h.1,Wh m c h.2,NK]
 | .agg a,h=>by simp only[PV.blw]; exact Wh m a (by simpa[PV.flat] using h)
 | .tuple a,h=>by simp only[PV.blw]; exact Wh m a (by simpa[PV.flat] using h)
theorem Wh (m:Nat):∀ a:ai,PV.flats a=true->PV.blws m a=true
 | [],_=>rfl
 | p::a,h=>by simp only[PV.flats,bQ] at h;simp only[PV.blws,aO3 m p h.1,Wh m a h.2,NK]
end
end
def Bj (m:Nat) (h:aH):Bool:=h.all fun o=>match o with | some a=>PV.blws m a | none=>true
def BH (M:Mem) (w:World):Prop:=∀ (b o:Nat) (v:Value),M b o=some v->w.cell? ⟨b,o,none⟩=some v/\v.oneCell'=true
structure Post (h:aH) (B:aT) (out:Nat->Nat) (M:Mem) (w:World) (r:PV) (h':aH) (v:Value) (M':Mem) (B':aT) (w':World):Prop where
 mem:BH M' w'
 le:gQ M M' B B'
 fr:Fr (aW w h B) M w M' w'
 heap:tK M' B' w' h'
 rep:dC M' B' r v
 tl:Tl M' w' r v
 own:∀ b,b<w.heap.size->aW w' h' B' b+cu r v b<=aW w h B b
 cnt:∀ b,aW w' h' B' b+cu r v b+out b<=1
 new:∀ b,w'.heap.size<=b->aW w' h' B' b+cu r v b+out b=0
def j_ (P:Program) (g:FuncId):Bool:=match P.funcs[g]? with | some a=>a.name != "runtime.NumGoroutine" && a.body.isSome | none=>false
abbrev CP:=FuncId->Array Value->World->(Ending->World->Prop)->Prop
def uw (P:Program) (d:CP) (g:FuncId) (args:ai) (h:aH) (r:PV) (h':aH):Prop :=
 j_ P g=true/\∀ (c:Nat->Nat) (M:Mem) (B:aT) (w:World) (a:Array Value),BH M w->tK M B w h->(∀ b,aW w h B b+c b<=1)->(∀ b,w.heap.size<=b->aW w h B b+c b=0) ->
  bI M B args a.toList->d g a w fun e f=>∃ v i j,e = .returned v/\Post h B c M w r h' v i j f
def Ev (P:Program) (g:FuncId) (args:ai) (h:aH) (r:PV) (h':aH):Prop:=uw P (Calls P) g args h r h'
def VN (b:CP):Prop:=∀ ⦃g:FuncId⦄ ⦃a:Array Value⦄ ⦃w:World⦄ ⦃R c:Ending->World->Prop⦄,b g a w R->(∀ e d,R e d->c e d)->b g a w c
def aA' (P:Program):VN (Calls P):=fun _ _ _ _ _ h k=>h.mono k
def CD (P:Program):CP:=fun g a w R=>CallsD P g a .returning w fun e b c=>b = .returning/\R e c
def aM3 (P:Program):VN (CD P):=fun _ _ _ _ _ h k=>CallsD.mono h fun _ _ _ a=>⟨a.1,k _ _ a.2⟩
variable {D:Program} {r:FuncId} {p:PV} {u:Option Nat} {b5:gp} {A:AE} {I:Oper} {J d2:ASt} {c':Array Oper} {Z b8:ASt->Prop} {T:List Nat} {j:Nat} {H:aH} {f:ai} {U:PV×aH} {G:Bool} {b9:Int}
theorem Ev.frame' {args:ai} (h:Ev D r args [] p []) (K:p.flat=true) (V:PV.flats args=true) (m:aH):Ev D r args m p m:=by
 refine ⟨h.1,fun L M B w z A d C E hv => ?_⟩;have x:∀ w b,aW w [] [] b=0:=fun w b=>by simp[aW]
 refine (h.2 (fun b=>L b+aW w m B b) M [] w z A ⟨rfl,fun i n F=>by simp at F⟩ (fun b=>by rw[x]; have:=C b; omega) (fun b l=>by rw[x]; have:=E b l; omega) (bI.flat [] V hv)).mono fun e S he => ?_
 obtain ⟨v,N,X,rfl,f⟩:=he;have O:X = []:=oK (by have:=f.heap.1; simp_all);subst O;have q:∀ b,b<w.heap.size->S.heap[b]? = w.heap[b]? /\ ∀ o,N b o=M b o:=fun b l=>f.fr.blk b l (x w b)
 have t:∀ b,1<=aW w m B b->b<w.heap.size:=fun b l=>by grind
 have T:∀ (i:Nat) n c,m[i]? = some (some n)->B[i]? = some c->1<=aW w m B c.1:=fun i n c y G=>by have:=nY (w:=w) c.1 y G;grind
 have H:gQ M N B B:=⟨f.le.mem,fun _ _ h=>h⟩;have u:∀ b,aW S m B b=aW w m B b:=fun b=>J8 b fun i n c y G=>Ri (q c.1 (t _ (T i n c y G))).1
 refine ⟨v,N,B,rfl,f.mem,H,f.fr.mono fun b l _=>x w b,⟨d.1,fun i n F => ?_⟩,f.rep.flat B K,f.tl,fun b l => ?_,fun b => ?_,fun b l => ?_⟩
 .obtain ⟨c,Q,Y,Z,y,G,h3,h4,h5⟩:=d.2 i n F;have I:=q c.1 (t _ (T i n c F Q));refine ⟨c,Q,Y,Z,by rw[Px I.1,y],G,h3,fun j a U => ?_,fun o=>by rw[I.2]; exact h5 o⟩;obtain ⟨v,hv,K,hT,J⟩:=h4 j a U;refine ⟨v,hv,K.mono H,hT.kept fun b ho=>q b (t b ?_),J⟩;have e1:=nY (w:=w) b F Q;have e2:=BN b U (by rw[ww y]; grind:(jk w c.1)[j]? = some v);omega
 .have:=f.own b l; rw[x,x] at this; rw[u]; omega
 .have:=f.cnt b; rw[u]; omega
 .have:=f.new b l; rw[u]; omega
def CG (a:Array Oper) (c:ASt) (j:Nat):Option (Option Bool) :=
 match (a[j]?).bind (·.dst) with
 | none=>some none
 | some d=>match dF d c.s with
  | some (.bool b)=>some (some b)
  | some (.tuple [])=>some none
  | _=>none
def jd (E:AE) (a:Option Nat) (p:PV) (c:ASt) (K:ASt->Prop):Prop:=match ASt.put E a p c with | some b=>K b | none=>False
def AO (E:AE) (o:Oper) (K:ASt->Prop) (b:ASt):Prop :=
 match dS E o b with
 | some (p,a)=>mX E o b/\jd E o.dst p a K
 | none=>False
def aF4 (E:AE) (o:Oper) (b:ASt):Option (ai×Bool):=match o.op with
 | .binOp c t x (.const (.slice none 0 0)) _=>(match E.P.underlying t,b.rd x,c with
  | some (.slice _),some (.sl _ _ a),.eql=>some (a,true)
  | some (.slice _),some (.sl _ _ a),.neq=>some (a,false)
  | _,_,_=>none)
 | _=>none
def YZ (E:AE) (o:Oper) (K:ASt->Prop) (c:ASt):Prop:=match aF4 E o c with
 | some (d,a)=>∀ b:Bool,(b=true->d = [])->jd E o.dst (.bool (b==a)) c K
 | none=>False
def Uk (E:AE) (o:Oper) (K:ASt->Prop) (a:ASt):Prop:=AO E o K a\/YZ E o K a
def WH (E:AE) (g:FuncId) (args:ai) (a:Option Nat) (K:ASt->Prop) (b:ASt):Prop:=∃ r h',Ev E.P g args b.h r h'/\jd E a r { b with h:=h' } K
def yY (E:AE) (o:Oper) (K:ASt->Prop) (a:ASt):Prop :=
 match o.op with
 | .call c=>match c.callee with
  | .value f=>(match a.rd f,lG (c.args.toList.map a.rd) with
   | some (.func (.func g) first b),some d=>WH E g (first ++ d ++ b) o.dst K a
   | _,_=>False)
  | _=>Uk E o K a
 | _=>Uk E o K a
def nT (E:AE) (a:Array Oper):List Oper->(ASt->Prop)->ASt->Prop
 | [],Q,d=>Q d
 | o::l,Q,d =>
  match o.guard with
  | none=>yY E o (nT E a l Q) d
  | some (j,c)=>match CG a d j with
   | some none=>jd E o.dst (.tuple []) d (nT E a l Q)
   | some (some b)=>(b=c->yY E o (nT E a l Q) d)/\(b≠c->jd E o.dst (.tuple []) d (nT E a l Q))
   | none=>False
section
variable {out:Nat->Nat} {M:Mem} {B:aT} {σ:ASt} {a:Act} {w:World} {E:AE} {o:Oper}
theorem b1H (m:Inv E.n M B out σ a.tmps w) {K:ASt->Prop} (h:AO E o K σ) {g:Act->World->Prop} {Q:Exit->Act->World->Prop}
 (x:∀ v b i j f,K b->Good E.n out M B σ a.tmps w i j b (a.put o.dst v).tmps f->g (a.put o.dst v) f):o.wp E.P a w g Q:=by
 unfold AO at h;split at h
 .rename_i p q r;obtain ⟨c,l⟩:=h;unfold jd at l;split at l
  .rename_i b d;obtain ⟨v,f,i,j,e,t⟩:=c7L m r c;have y:=t.put d;unfold Oper.wp;rcases e with e | ⟨e,u⟩
   grind [Oper.upon_value]
   .rw[e,Oper.upon_skip];have:a.put o.dst undef=a.put o.dst v:=by rw[u]; rfl
    grind
  simp_all
 simp_all
theorem b_1 (L:Inv E.n M B out σ a.tmps w) {K:ASt->Prop} (h:YZ E o K σ) {G:Act->World->Prop} {Q:Exit->Act->World->Prop}
 (Y:∀ v j U V N,K j->Good E.n out M B σ a.tmps w U V j (a.put o.dst v).tmps N->G (a.put o.dst v) N):o.wp E.P a w G Q:=by
 obtain ⟨l,Z,g,p,f,guard⟩:=o;unfold YZ at h;split at h
 case h_2=>exact h.elim
 rename_i O ps i;unfold aF4 at i;simp only at i;split at i
 case h_2=>cases i
 rename_i q t x S;have u:∀ e,E.P.underlying t=some (.slice e)->∀ m z,σ.rd x=some (.sl m z O)->∃ b:Bool,(b=true->O = [])/\(Op.equal t (a.eval x) (.slice none 0 0)).run E.P w = .ok b w/\∃ A n c,a.eval x = .slice A n c:=by
  intro e y m z C;obtain ⟨A,H,hv,X,hs,hz,hA⟩:=lM.1 (L.rd x _ C).1;refine ⟨A.isNone,fun hn => ?_,?_,A,_,H,hv⟩;simp_all
  .rw[hv];refine OM fun d => ?_
   rw[Op.equalIn,oL,gm y w];cases A<;>rfl
 have D:∀ (r:Bool),(execOp a.eval ⟨l,.binOp q t x (.const (.slice none 0 0)) S,g,p,f,guard⟩).run E.P w = .ok (.value (.bool r)) w->jd E l (.bool r) σ K->Oper.wp E.P ⟨l,.binOp q t x (.const (.slice none 0 0)) S,g,p,f,guard⟩ a w G Q:=by
  intro r hr T;unfold jd at T;split at T
  .rename_i j F;have hG:=(Pre.plain L (oh.2 rfl) (fun b=>gY rfl _ _) (ig rfl)).put F;grind [Oper.wp,Oper.upon_value]
  simp_all
 split at i
 .rename_i e m z I y C;cases i;obtain ⟨b,J,he,A,n,c,hv⟩:=u e y m z C;refine D b ?_ (by have:=h b J; simp_all);refine EN (s:=do eqGuard .eql t x (.const (.slice none 0 0)) (a.eval x) (.slice none 0 0); binOp .eql t (a.eval x) (.slice none 0 0)) rfl ?_;rw[oL,hv,Fj ⟨by simp,by simp⟩ w];rw[hv] at he;have:binOp .eql t (.slice A n c) (.slice none 0 0)=(do pure (.bool (<- Op.equal t (.slice A n c) (.slice none 0 0)))):=rfl;rw[this]; simp[he]
 .rename_i e m z I y C;cases i;obtain ⟨b,J,he,A,n,c,hv⟩:=u e y m z C;refine D (!b) ?_ (by have:=h b J; simp_all);refine EN (s:=do eqGuard .neq t x (.const (.slice none 0 0)) (a.eval x) (.slice none 0 0); binOp .neq t (a.eval x) (.slice none 0 0)) rfl ?_;rw[oL,hv,Fj ⟨by simp,by simp⟩ w];rw[hv] at he;have:binOp .neq t (.slice A n c) (.slice none 0 0)=(do pure (.bool (!(<- Op.equal t (.slice A n c) (.slice none 0 0))))):=rfl;rw[this]; simp[he]
 .cases i
theorem b1J (g:Inv E.n M B out σ a.tmps w) {K:ASt->Prop} (h:Uk E o K σ) {c:Act->World->Prop} {Q:Exit->Act->World->Prop}
 (i:∀ v b e f d,K b->Good E.n out M B σ a.tmps w e f b (a.put o.dst v).tmps d->c (a.put o.dst v) d):o.wp E.P a w c Q:=by
 rcases h with h | h
 grind [b1H]
 grind [b_1]
variable {b':Array Value}
theorem aLW {x:CP} (z:VN x) (f:Inv E.n M B out σ a.tmps w) {args:ai} (hv:bI M B args b'.toList) {h':aH} (y:uw E.P x r args σ.h p h') {j:Option Nat} {l:ASt} (A:ASt.put E j p { σ with h:=h' }=some l)
 {R:Ending->World->Prop} (C:∀ v q u m,Good E.n out M B σ a.tmps w q u l (a.put j v).tmps m->R (.returned v) m):x r b' w R:=by
 obtain ⟨_,y⟩:=y;have D:=y (fun b=>out b+jZ σ.s a.tmps b) M B w b' f.mem f.heap (fun b=>by have:=f.cnt b; grind [fp]) (fun b i=>by have:=f.new b i; grind [fp]) hv;refine z D fun e m he => ?_
 obtain ⟨v,q,u,rfl,d⟩:=he;refine C v q u m ?_;have o:Pre E.n out M B σ a.tmps w q u { σ with h:=h' } m p v:=by
  refine ⟨⟨f.size,d.mem,f.jo,fun k c hk => ?_,d.heap,fun b => ?_,fun b i => ?_⟩,d.le,?_,fun b i => ?_,d.rep,d.tl,fun b => ?_,fun b i => ?_⟩
  .obtain ⟨s1,F,G⟩:=f.slots k c hk;refine ⟨s1,F.mono d.le,G.kept fun b i => ?_⟩;have H:=J9 (s:=σ.s) (t:=a.tmps) (k:=k) (b:=b);simp only[uD,hk] at H;have I:=f.cnt b;simp only[fp] at I;exact d.fr.blk b (UL f (by simp only[fp]; omega)) (by omega)
  .have:=d.cnt b; simp only[fp]; omega
  .have:=d.new b i; simp only[fp]; omega
  .exact d.fr.mono fun b i J=>by grind [fp]
  .have:=d.own b i; simp only[fp]; omega
  .have:=d.cnt b; simp only[fp]; omega
  .have:=d.new b i; omega
 exact o.put A
def b7W (e:Inv E.n M B out σ a.tmps w) {args:ai} (hv:bI M B args b'.toList) {h':aH} (f:Ev E.P r args σ.h p h') {b:Option Nat} {c:ASt} (i:ASt.put E b p { σ with h:=h' }=some c)
 {R:Ending->World->Prop} (j:∀ v l m d,Good E.n out M B σ a.tmps w l m c (a.put b v).tmps d->R (.returned v) d):Calls E.P r b' w R:=aLW (aA' E.P) e hv f i j
theorem a1A (p:Inv E.n M B out σ a.tmps w) {K:ASt->Prop} (h:yY E o K σ) {y:Act->World->Prop} {Q:Exit->Act->World->Prop}
 (D:∀ v d q t l,K d->Good E.n out M B σ a.tmps w q t d (a.put o.dst v).tmps l->y (a.put o.dst v) l):o.wp E.P a w y Q:=by
 unfold yY at h;split at h
 .rename_i c u;split at h
  .rename_i f F;split at h
   .rename_i g first z Y e has
    obtain ⟨r,h',A,x⟩:=h;unfold jd at x;split at x
    .rename_i d i;obtain ⟨G,H,I,J,L⟩:=DC.1 (p.rd _ _ e).1;obtain ⟨N,_⟩:=Pj p.rd has;have b:=A.1;unfold j_ at b;split at b
     .rename_i C O;unfold Oper.wp;have j:(execOp a.eval o).run E.P w = .ok (.enter g (G ++ c.args.map a.eval ++ H)) w:=by
       obtain ⟨m,S,T⟩:=c;subst F;unfold execOp;rw[u];simp only[resolve,I,Deferred.ofValue,oL,NY,yP,invoke,callFunc,run_program];have U:C.body.isNone=false:=by cases V:C.body<;>simp[V] at b ⊢
       grind [Sem.run_pure]
      rw[j];refine b7W p ?_ A i fun v q t l X=>D v d q t l x X
      simpa using Gw (Gw J N) L
     grind
    simp_all
   simp_all
  grind [b1J]
 grind [b1J]
theorem TR (e:Inv E.n M B out σ a.tmps w) {c:Array Oper} {j:Nat} {x:Option Bool} (h:CG c σ j=some x):yielded c a.tmps j=x:=by
 unfold CG at h;unfold yielded;split at h
 grind
 .rename_i d m;split at h
  .rename_i b f;obtain ⟨g,i,_⟩:=e.slots _ _ f;have:=oh.1 i;have l:d<a.tmps.size:=by rw[e.size]; exact g
   simp_all
  .rename_i f;obtain ⟨g,i,_⟩:=e.slots _ _ f;obtain ⟨o,p,q⟩:=xO.1 i;have l:d<a.tmps.size:=by rw[e.size]; exact g
   simp_all
  .cases h
def Act.JF (a:Act) (d:Option Nat) (v:Value):(a.put d v).defers=a.defers:=by cases d<;>rfl
def P_ (e:Inv E.n M B out σ a.tmps w) {c:Option Nat} {d:ASt} (h:ASt.put E c (.tuple []) σ=some d):Good E.n out M B σ a.tmps w M B d (a.put c undef).tmps w :=(Pre.plain e (xO.2 ⟨#[],rfl,gZ.2 rfl⟩) (fun b=>gY rfl _ _) (ig rfl)).put h
theorem WC {b:Array Oper} {Q:Exit->Act->World->Prop}:∀ (l:List Oper) {M:Mem} {B:aT} {σ:ASt} {a:Act} {w:World} {K:ASt->Prop},Inv E.n M B out σ a.tmps w->nT E b l K σ ->
 (∀ c t u j m,K c->Good E.n out M B σ a.tmps w t u c j.tmps m->j.defers=a.defers->Q .normal j m)->wpList E.P b Q l a w
 | [],M,B,σ,a,w,K,g,h,i=>i σ M B a w h (Good.refl g) rfl
 | o::l,M,B,σ,a,w,K,g,h,i=>by
  have run:yY E o (nT E b l K) σ->o.wp E.P a w (wpList E.P b Q l) Q:=fun h =>a1A g h fun v c t u m x f=>WC l f.inv x fun d p q a2 w2 hk e r=>i d p q a2 w2 hk (f.trans e) (by rw[r,Act.JF])
  have skip:jd E o.dst (.tuple []) σ (nT E b l K)->wpList E.P b Q l (a.put o.dst undef) w:=fun h=>by
   unfold jd at h;split at h
   .rename_i c y;have f:=P_ g y;exact WC l f.inv h fun d p q a2 w2 hk e r=>i d p q a2 w2 hk (f.trans e) (by rw[r,Act.JF])
   simp_all
  rw[nT] at h;grind [wpList,Region.wanted,TR]
theorem aAU {b:Array Oper} {Q:Exit->Act->World->Prop} {c:List Oper}:∀ (l:List Oper) {M:Mem} {B:aT} {σ:ASt} {a:Act} {w:World} {K:ASt->Prop},Inv E.n M B out σ a.tmps w->nT E b l K σ ->
 (∀ d u x m p,K d->Good E.n out M B σ a.tmps w u x d m.tmps p->m.defers=a.defers->wpList E.P b Q c m p)->wpList E.P b Q (l ++ c) a w
 | [],M,B,σ,a,w,K,i,h,j=>j σ M B a w h (Good.refl i) rfl
 | o::l,M,B,σ,a,w,K,i,h,j=>by
  have run:yY E o (nT E b l K) σ->o.wp E.P a w (wpList E.P b Q (l ++ c)) Q:=fun h =>a1A i h fun v d u x p y g=>aAU l g.inv y fun e q r a2 w2 hk f t=>j e q r a2 w2 hk (g.trans f) (by rw[t,Act.JF])
  have skip:jd E o.dst (.tuple []) σ (nT E b l K)->wpList E.P b Q (l ++ c) (a.put o.dst undef) w:=fun h=>by
   unfold jd at h;split at h
   .rename_i d z;have g:=P_ i z;exact aAU l g.inv h fun e q r a2 w2 hk f t=>j e q r a2 w2 hk (g.trans f) (by rw[t,Act.JF])
   simp_all
  rw[nT] at h;grind [wpList,Region.wanted,TR]
end
def Q8:Operand->Option Nat
 | .tmp t=>some t
 | _=>none
def vJ (E:AE) (o:Oper):Option Nat :=
 match o.op with
 | .move x=>if fB E.mv o.dst then Q8 x else none
 | .assign x=>Q8 x
 | .store _ _ x=>Q8 x
 | .call c=>match c.callee with
  | .builtin .append=>(match c.args.toList with | [x,_]=>Q8 x | _=>none)
  | _=>none
 | _=>none
def Pq (E:AE):Bool:=E.ln.any fun k=>Nat.ble 1000000 k
def Gy (E:AE) (H a:aH):Prop:=∀ i,fB E.ln (some (1000000+i))=true->H[i]? = a[i]?
def hk (E:AE) (o:Oper):Nat :=
 match o.op with
 | .load _ _=>if fB E.ln o.dst then (if Pq E then 5 else 0) else if fB E.mv o.dst then 3 else 1
 | .alloc _=>if fB E.ln o.dst then (if Pq E then 6 else 2) else 2
 | .box _ _=>if fB E.fz o.dst then 0 else 2
 | .store _ a _=>if fB E.mu (iR a) then 6 else 2
 | .buildSlice _ _ _=>if fB E.mu o.dst then 2 else 0
 | .makeMap _ _=>if fB E.ln o.dst then (if Pq E then 6 else 2) else 2
 | .lookup _ _ _ _=>2
 | .mapUpdate _ _ _ _=>2
 | .insert _ m _ _=>if fB E.mu ((iR m).map (6000000 + ·)) then 6 else 2
 | .call c=>match c.callee with
  | .builtin .clear=>2
  | .value _=>if fB E.sy o.dst then (if Pq E then 6 else 2) else 0
  | _=>0
 | _=>0
def y7 (c:Option Nat) (s:gp):gp :=
 match c with
 | none=>s
 | some t=>match dF t s with | some p=>kG t p.un s | none=>s
theorem IE (a:ASt) (x:Operand):(a.clr x).s=y7 (Q8 x) a.s/\(a.clr x).h=a.h:=by
 cases x with
 | tmp t=>grind [ASt.clr,y7,Q8]
 | _=>exact ⟨rfl,rfl⟩
def pX (h:aH):aH:=h.map fun o=>o.map fun a=>a.map PV.un
def agree (o:Oper) (s a:gp):Prop:=∀ t,Operand.tmp t∈o.op.operands->dF t a=dF t s
section
variable {E:AE} {o:Oper} {σ σ':ASt} {a':Operand} {c6:TI} {c4:PV}
theorem Rn (h:agree o σ.s σ'.s) (a:a'∈o.op.operands):σ'.ev a'=σ.ev a':=by
 cases a' with
 | tmp t=>exact h t a
 | _=>rfl
theorem rE (h:agree o σ.s σ'.s) (a:a'∈o.op.operands):σ'.rd a'=σ.rd a':=by grind [ASt.rd,Rn]
theorem UF {rd a:Operand->Option PV} {b:List Operand} (h:∀ x,x∈b->a x=rd x):lG (b.map a)=lG (b.map rd):=by rw[List.map_congr_left h]
theorem aFX {rd a:Operand->Option PV}:∀ {b:List (Nat×Operand)},(∀ x,x∈b.map (·.2)->a x=rd x)->wO a b=wO rd b
 | [],_=>rfl
 | (i,x)::l,h=>by rw[wO,wO,h x (by simp),aFX (fun y c=>h y (by simp_all))]
theorem a'U {P:Program} {rd rd':Operand->Option PV} {op:Op} (h:∀ x,x∈op.operands->rd' x=rd x):pop P rd' op=pop P rd op:=by
 cases op with
 | call c =>
  obtain ⟨e,args,n⟩:=c;have o:∀ x,x∈args.toList->rd' x=rd x:=fun x f=>h x (by grind [Op.operands,Call.operands])
  grind [pop,JC,UF]
 | makeFunc p first d =>
  have q:∀ x,x∈first.toList->rd' x=rd x:=fun x f=>h x (by grind [Op.operands])
  have r:∀ x,x∈d.toList->rd' x=rd x:=fun x f=>h x (by grind [Op.operands])
  grind [pop,UF]
 | build t g =>
  have:wO rd' g.toList=wO rd g.toList:=aFX fun x f=>h x (by grind [Op.operands])
  simp only[pop,this]
 | slice t x i j l =>
  cases l with
  | some m =>
   cases i with
   | none=>simp[pop]
   | some a =>
    cases j with
    | none=>simp[pop]
    | some b=>grind [pop,Op.operands]
  | none =>
   cases i with
   | none =>grind [pop,Op.operands]
   | some a =>
    cases j with
    | none=>grind [pop,Op.operands]
    | some b=>grind [pop,Op.operands]
 | _=>simp_all[pop,Op.operands]
theorem c9U {h':aH} (e:pX h'=pX H) (c:H[j]? = some (some f)):∃ a,h'[j]? = some (some a)/\a.map PV.un=f.map PV.un:=by
 have b:=congrArg (·[j]?) e;simp only[pX,nP,c] at b;cases d:h'[j]? with
 | none=>rw[d] at b; simp at b
 | some x =>simp_all
theorem bZW {a:ASt} (h:qO false c6 p σ=some (c4,a)) (g:pX σ'.h=pX σ.h):a=σ/\qO false c6 p σ'=some (c4,σ'):=by
 unfold qO at *;cases p with
 | cst e =>simp_all
 | ptr i b =>
  cases j:σ.h[i]? with
  | none=>grind
  | some x =>
   cases x with
   | none=>grind
   | some d =>
    obtain ⟨c,l,f⟩:=c9U g j;have m:c.length=d.length:=by have:=congrArg List.length f; grind
    simp_all
    .cases n:d[b]? with
     | none=>grind
     | some o =>have r:=congrArg (·[b]?) f;grind
 | _=>simp at h
theorem c9V {b:Nat} (c:H[j]? = some (some f)) (e:f[b]? = some p):pX (H.set j (some (f.set b p.un)))=pX H:=by
 simp only[pX];apply QX;intro a;rw[nP,nP];by_cases d:j=a
 .subst d;rw[QZ (jr.1 c).1,c];simp only[A_,E5];apply QX;grind [cA0]
 simp_all
theorem bZV {a:ASt} (h:qO true c6 p σ=some (c4,a)):a.s=σ.s/\(∀ σ':ASt,σ'.h=σ.h->qO true c6 p σ'=some (c4,⟨σ'.s,a.h⟩))/\pX a.h=pX σ.h:=by
 have b:∀ σ':ASt,σ'.h=σ.h->(⟨σ'.s,σ.h⟩:ASt)=σ':=fun σ' e=>by cases σ'; simp_all
 unfold qO at *;cases p with
 | cst e =>simp_all
 | ptr i c =>
  cases d:σ.h[i]? with
  | none=>grind
  | some x =>
   cases x with
   | none=>grind
   | some f =>grind [c9V]
 | _=>simp at h
theorem c4V {E:AE} (h:fB E.ln (some (1000000+j))=true):Pq E=true:=by grind [Pq,fB,Nat.ble_eq]
theorem aY3 {σ a:ASt} (h:qO false c6 p σ=some (c4,a)):a=σ/\∀ c:ASt,(∀ i b,p = .ptr i b->c.h[i]? = σ.h[i]?)->qO false c6 p c=some (c4,c):=by
 unfold qO at h ⊢;cases p with
 | cst e =>simp_all
 | ptr i b =>
  simp only at h ⊢;cases d:σ.h[i]? with
  | none=>rw[d] at h; cases h
  | some o =>
   rw[d] at h;cases o with
   | none=>cases h
   | some f =>grind
 | _=>cases h
theorem b1L {H:ASt} (h:dS E o σ=some (p,H)) (B:agree o σ.s σ'.s) (N:hk E o=0\/σ'.h=σ.h\/(hk E o=1/\pX σ'.h=pX σ.h)) :
 ∃ G,dS E o σ'=some (p,G)/\H.s=y7 (vJ E o) σ.s/\G.s=y7 (vJ E o) σ'.s/\((hk E o=0\/hk E o=1)->H.h=σ.h/\G.h=σ'.h)/\(σ'.h=σ.h->G.h=H.h)/\(hk E o=3->pX H.h=pX σ.h):=by
 obtain ⟨g,op,f,v,a,guard⟩:=o;cases op with
 | move x =>
  have C:σ'.ev x=σ.ev x:=Rn B (by simp[Op.operands]);simp only[dS] at h ⊢;split at h
  .rename_i w;cases he:σ.ev x with
   | none=>grind
   | some q =>grind [IE,vJ]
  .rename_i w;cases he:σ.rd x with
   | none=>grind
   | some q =>
    simp[he] at h; obtain ⟨rfl,rfl⟩:=h;have hr:σ'.rd x=σ.rd x:=rE B (by simp[Op.operands]);have M:vJ E ⟨g,.move x,f,v,a,guard⟩=none:=by simp[vJ,w]
    rw[aX w,hr,he,M];exact ⟨_,rfl,rfl,rfl,fun _=>⟨rfl,rfl⟩,fun e=>e,fun _=>rfl⟩
 | assign x =>
  have C:σ'.ev x=σ.ev x:=Rn B (by simp[Op.operands]);simp only[dS] at h ⊢;cases he:σ.ev x with
  | none=>grind
  | some q =>grind [IE,vJ]
 | alloc t =>
  simp only[dS] at h ⊢;have A:hk E ⟨g,.alloc t,f,v,a,guard⟩≠0/\hk E ⟨g,.alloc t,f,v,a,guard⟩≠1/\hk E ⟨g,.alloc t,f,v,a,guard⟩≠3:=by simp only[hk]; grind
  have l:σ'.h=σ.h:=by rcases N with h | h | h<;>first | exact h | omega | omega
  rw[l];split at h
  .cases h
  rename_i T;cases M:ti E.P t with
  | none=>grind
  | some I =>simp[M] at h; obtain ⟨rfl,rfl⟩:=h;exact ⟨⟨σ'.s,σ.h ++ [some (OD (fB E.mu g) t σ.h.length I.zero)]⟩,by rfl,rfl,rfl,fun e=>e.elim (fun e=>absurd e A.1) (fun e=>absurd e A.2.1),fun e=>rfl,fun e=>absurd e A.2.2⟩
 | box t x =>
  simp only[dS] at h ⊢;have hr:σ'.rd x=σ.rd x:=rE B (by simp[Op.operands]);split at h
  .rename_i w;rw[ay w];cases hb:(σ.rd x).bind SB with
   | none=>grind
   | some e =>simp[hb] at h; obtain ⟨rfl,rfl⟩:=h;exact ⟨σ',by grind,rfl,rfl,fun _=>⟨rfl,rfl⟩,fun e=>e,fun _=>rfl⟩
  .rename_i w;rw[aX w];have l:σ'.h=σ.h:=by rcases N with h | h | h<;>first | exact h | (simp[hk,w] at h)
   cases hb:(σ.rd x).bind PV.newCells with
   | none=>grind
   | some U =>simp[hb] at h; obtain ⟨rfl,rfl⟩:=h;exact ⟨⟨σ'.s,σ'.h ++ [some U]⟩,by simp_all,rfl,rfl,fun e=>by simp[hk,w] at e,fun e=>by simp[e],fun e=>by simp[hk,w] at e⟩
 | load t x =>
  simp only[dS] at h ⊢;have hr:σ'.rd x=σ.rd x:=rE B (by simp[Op.operands]);rw[hr];cases hI:ti E.P t with
  | none=>grind
  | some I =>
   cases hq:σ.rd x with
   | none=>simp_all
   | some q =>
    simp only[hI,hq] at h ⊢;cases J:fB E.ln g with
    | true =>
     rw[J] at h;simp only at h ⊢;split at h
     .rename_i b2;have Q:=aY3 h;refine ⟨σ',?_,by rw[Q.1]; rfl,rfl,fun _=>⟨by rw[Q.1],rfl⟩,fun e=>by rw[Q.1]; exact e,fun e=>by simp_all⟩;refine Q.2 σ' ?_;cases q with
      | ptr i S =>
       have w:fB E.ln (some (1000000+i))=true:=b2;have T:Pq E=true:=c4V w;have b3:hk E ⟨g,.load t x,f,v,a,guard⟩=5:=by simp only[hk,J,FC,T]
       simp_all
      | _=>intro j o' e; cases e
     .cases h
    | false =>
    rw[J] at h;simp only at h ⊢;cases w:fB E.mv g with
    | false =>
     rw[w] at h;have b4:pX σ'.h=pX σ.h:=by
      rcases N with h | h | h
      .simp[hk,J,w] at h
      .rw[h]
      .exact h.2
     obtain ⟨rfl,h2⟩:=bZW h b4;exact ⟨σ',h2,rfl,rfl,fun _=>⟨rfl,rfl⟩,fun e=>e,fun e=>by rfl⟩
    | true =>
     rw[w] at h;have l:σ'.h=σ.h:=by rcases N with h | h | h<;>first | exact h | (simp[hk,J,w] at h)
     obtain ⟨k1,k2,k3⟩:=bZV h;exact ⟨⟨σ'.s,H.h⟩,k2 σ' l,k1,rfl,fun e=>by simp[hk,J,w] at e,fun _=>rfl,fun _=>k3⟩
 | store t x y =>
  simp only[dS] at h ⊢;have b8:hk E ⟨g,.store t x y,f,v,a,guard⟩=2\/hk E ⟨g,.store t x y,f,v,a,guard⟩=6:=by simp only[hk];simp
  have l:σ'.h=σ.h:=by rcases N with h | h | h<;>first | exact h | omega | (exfalso; have:=h.1; omega)
  have hr:σ'.rd x=σ.rd x:=rE B (by simp[Op.operands]);have hy:σ'.ev y=σ.ev y:=Rn B (by simp[Op.operands]);have c1:=IE σ y;have c2:=IE σ' y;have M:vJ E ⟨g,.store t x y,f,v,a,guard⟩=Q8 y:=rfl;rw[hr,hy];cases V:Uj E.mu E.ln (iR x) (σ.rd x) with
  | false=>rw[V] at h; cases h
  | true =>
  rw[V] at h;simp only at h ⊢;cases hI:ti E.P t with
  | none=>grind
  | some I =>
   cases hq:σ.rd x with
   | none=>simp_all
   | some q =>
    cases Q:σ.ev y with
    | none=>simp_all
    | some p' =>
     cases g with
     | some d=>simp_all
     | none =>
      simp only[hI,hq,Q] at h ⊢;have b5:∀ τ:ASt,τ.h=σ.h->∀ D,AP I q p' τ=some D->D.s=τ.s/\∀ X:ASt,X.h=σ.h->AP I q p' X=some ⟨X.s,D.h⟩:=by
       intro τ b6 D K;unfold AP at K ⊢;cases q with
       | ptr i S =>
        simp only[b6] at K;split at K
        grind
        .cases K
       | _=>simp at K
      cases a':AP I q p' (σ.clr y) with
      | none=>simp_all
      | some D =>simp[a'] at h; obtain ⟨rfl,rfl⟩:=h;obtain ⟨k1,k2⟩:=b5 (σ.clr y) c1.2 D a';have k3:=k2 (σ'.clr y) (by rw[c2.2,l]);refine ⟨⟨(σ'.clr y).s,D.h⟩,by rw[k3]; rfl,by rw[k1,M]; exact c1.1,by rw[M]; exact c2.1,fun e=>by omega,fun _=>rfl,fun e=>by omega⟩
 | buildSlice t b9 ps =>
  have Q:∀ zs,wO (σ'.rdT zs) ps.toList=wO (σ.rdT zs) ps.toList:=fun zs=>aFX fun x C=>by grind [ASt.rdT,rE,Op.operands]
  simp only[dS,Q] at h ⊢;cases hT:nV E.P t with
  | none=>grind
  | some I =>
   cases hq:wO (σ.rdT (elT E.P t)) ps.toList with
   | none=>simp_all
   | some qs =>
    simp only[hT,hq] at h ⊢;cases he:Fh I.size 0 qs with
    | none=>grind
    | some es =>
     simp only[he] at h ⊢;split at h
     .rename_i hc;rw[ay hc];split at h
      .rename_i w;have l:σ'.h=σ.h:=by rcases N with h | h | h<;>first | exact h | (simp[hk,w] at h)
       cases h;rw[ay w];exact ⟨⟨σ'.s,σ'.h ++ [some (nG es)]⟩,by simp[l],rfl,rfl,fun e=>by simp[hk,w] at e,fun e=>by simp[e],fun e=>by simp[hk,w] at e⟩
      .rename_i w;rw[aX w];cases h;exact ⟨σ',by simp_all,rfl,rfl,fun _=>⟨rfl,rfl⟩,fun e=>e,fun _=>rfl⟩
     .cases h
 | call c =>
  obtain ⟨n,args,ts⟩:=c;have F:∀ x,x∈args.toList->x∈(Op.call ⟨n,args,ts⟩).operands:=fun x C=>by grind [Op.operands,Call.operands]
  simp only[dS] at h ⊢;split at h
  .have l:σ'.h=σ.h:=by rcases N with h | h | h<;>first | exact h | (simp[hk] at h)
   split at h
   .rename_i x t K h2;have C:σ'.rd x=σ.rd x:=rE B (F x (by rw[K]; simp));split at h
    .rename_i I j S m sz hT Y;split at h
     .rename_i U Z;split at h
      .rename_i hc;cases h;exact ⟨⟨σ'.s,σ'.h.set j (some (U.take S ++ (F5 m I).map PV.un ++ U.drop (S+m*sz)))⟩,by rw[C,Y,l,hT]; simp_all,rfl,rfl,fun e=>by simp[hk] at e,fun e=>by rw[e],fun e=>by simp[hk] at e⟩
      .cases h
     .cases h
    .rename_i I o' z' hT Y;cases h;exact ⟨σ',by rw[C,Y,hT],rfl,rfl,fun e=>by grind,fun e=>e,fun e=>by rfl⟩
    .cases h
   .cases h
  .split at h
   .rename_i s x t u K h2;have hs:σ'.ev s=σ.ev s:=Rn B (F s (by rw[K]; simp));have C:σ'.rd x=σ.rd x:=rE B (F x (by rw[K]; simp));rw[hs,C];split at h
    grind [IE,vJ]
    grind [IE,vJ]
    grind [IE,vJ]
    grind [IE,vJ]
    .cases h
   .cases h
  .rename_i b3;have b7:JC E.P σ'.rd ⟨n,args,ts⟩=JC E.P σ.rd ⟨n,args,ts⟩:=by
    have:=a'U (P:=E.P) (rd:=σ.rd) (rd':=σ'.rd) (op := .call ⟨n,args,ts⟩) fun x C=>rE B C
    grind [pop]
   rw[b7];cases Q:JC E.P σ.rd ⟨n,args,ts⟩ with
   | none=>grind
   | some q =>
    simp[Q] at h; obtain ⟨rfl,rfl⟩:=h;have M:vJ E ⟨g,.call ⟨n,args,ts⟩,f,v,a,guard⟩=none:=by simp only[vJ]
    rw[M];exact ⟨σ',rfl,rfl,rfl,fun _=>⟨rfl,rfl⟩,fun e=>e,fun _=>rfl⟩
 | makeMap t r =>
  simp only[dS] at h ⊢;have A:hk E ⟨g,.makeMap t r,f,v,a,guard⟩≠0/\hk E ⟨g,.makeMap t r,f,v,a,guard⟩≠1/\hk E ⟨g,.makeMap t r,f,v,a,guard⟩≠3:=by simp only[hk]; grind
  have l:σ'.h=σ.h:=by rcases N with h | h | h<;>first | exact h | omega | omega
  rw[l];split at h
  .cases h
  rename_i T;split at h
  .rename_i M;cases h;exact ⟨⟨σ'.s,σ.h ++ [some [qQ (fB E.mu g) []]]⟩,by rfl,rfl,rfl,fun e=>e.elim (fun e=>absurd e A.1) (fun e=>absurd e A.2.1),fun e=>rfl,fun e=>absurd e A.2.2⟩
  .cases h
 | lookup t m k ok =>
  have l:σ'.h=σ.h:=by rcases N with h | h | h<;>first | exact h | (simp[hk] at h)
  have w:σ'.rd m=σ.rd m:=rE B (by simp[Op.operands]);have O:σ'.rd k=σ.rd k:=rE B (by simp[Op.operands]);simp only[dS] at h ⊢;rw[l,w,O];split at h
  .rename_i s z i q M K h2;split at h
   .rename_i U Z;split at h
    .rename_i b L b0;split at h
     .rename_i r b1 hg;cases h;exact ⟨σ',by rfl,rfl,rfl,fun e=>by grind,fun _=>l,fun e=>by rfl⟩
     .cases h
    .cases h
   .cases h
  .cases h
 | mapUpdate t m k x =>
  have l:σ'.h=σ.h:=by rcases N with h | h | h<;>first | exact h | (simp[hk] at h)
  have w:σ'.rd m=σ.rd m:=rE B (by simp[Op.operands]);have O:σ'.rd k=σ.rd k:=rE B (by simp[Op.operands]);have C:σ'.rd x=σ.rd x:=rE B (by simp[Op.operands]);simp only[dS] at h ⊢;rw[l,w,O,C];split at h
  .rename_i s z i q y M K h2 h3;split at h
   .rename_i U Z;split at h
    .rename_i b L b0;split at h
     .rename_i b1;cases h;exact ⟨⟨σ'.s,σ.h.set i (some [qQ b (lJ s L q y)])⟩,by rfl,rfl,rfl,fun e=>by simp[hk] at e,fun _=>rfl,fun e=>by simp[hk] at e⟩
     .cases h
    .cases h
   .cases h
  .cases h
 | insert t m k x =>
  have A:hk E ⟨g,.insert t m k x,f,v,a,guard⟩≠0/\hk E ⟨g,.insert t m k x,f,v,a,guard⟩≠1/\hk E ⟨g,.insert t m k x,f,v,a,guard⟩≠3:=by simp only[hk]; split<;>simp
  have l:σ'.h=σ.h:=by rcases N with h | h | h<;>first | exact h | omega | omega
  have w:σ'.rd m=σ.rd m:=rE B (by simp[Op.operands]);have O:σ'.rd k=σ.rd k:=rE B (by simp[Op.operands]);have C:σ'.rd x=σ.rd x:=rE B (by simp[Op.operands]);simp only[dS] at h ⊢;rw[l,w,O,C];split at h
  .cases h
  rename_i V;split at h
  .rename_i s z i q y M K h2 h3;split at h
   .rename_i U Z;split at h
    .rename_i b L b0;split at h
     .rename_i b1;cases h;exact ⟨⟨σ'.s,σ.h.set i (some [qQ b (lJ s L q y)])⟩,by rfl,rfl,rfl,fun e=>e.elim (fun e=>absurd e A.1) (fun e=>absurd e A.2.1),fun _=>rfl,fun e=>absurd e A.2.2⟩
     .cases h
    .cases h
   .cases h
  .cases h
 | _ =>
  simp only[dS] at h ⊢;rw[a'U (P:=E.P) (rd:=σ.rd) (rd':=σ'.rd) fun x C=>rE B C];generalize pop E.P σ.rd _=r at h ⊢;cases r with
  | none=>simp at h
  | some q =>simp at h; obtain ⟨rfl,rfl⟩:=h;exact ⟨σ',rfl,rfl,rfl,fun _=>⟨rfl,rfl⟩,fun e=>e,fun _=>rfl⟩
end
def b1D:∀ {s c:gp},kD s->kD c->(∀ k,dF k s=dF k c)->s=c
 | [],[],_,_,_=>rfl
 | [],(j,q)::l,_,_,h=>by have:=h j; simp[dF] at this
 | (j,q)::l,[],_,_,h=>by have:=h j; simp[dF] at this
 | (j,q)::l,(d,g)::r,i,m,h=>by
  obtain ⟨a1,a2⟩:=Ep.1 i;obtain ⟨f,n⟩:=Ep.1 m;have o:j=d:=by
   rcases Nat.lt_trichotomy j d with p | he | hgt
   .have:=h j;rw[dF,ay rfl,dF,aX (by omega),Uc (fun a b=>by have:=f a b; omega)] at this;cases this
   .exact he
   .have:=h d;rw[dF,aX (by omega),Uc (fun a b=>by have:=a1 a b; omega),dF,ay rfl] at this;cases this
  subst o;have hq:q=g:=by have:=h j; simpa[dF] using this
  subst hq;congr 1
  refine b1D a2 n fun k => ?_
  by_cases e:j=k
  .subst e;rw[Uc (fun a b=>by have:=a1 a b; simpa using this),Uc (fun a b=>by have:=f a b; simpa using this)]
  .have:=h k;rwa [dF,aX e,dF,aX e] at this
def wS (d:Option Nat) (p:PV) (s:gp):gp:=match d with | some k=>kG k p s | none=>s
theorem JE (h:kD b5):kD (wS u p b5):=by cases u<;>first | exact h | exact JO h
theorem KO {c:Option Nat} (h:kD b5):kD (y7 c b5):=by unfold y7; grind [JO]
theorem ZE (h:kD b5) (k:Nat):dF k (wS u p b5)=if u=some k then some p else dF k b5:=by
 cases u with
 | none=>simp[wS]
 | some j=>grind [wS,JM]
theorem ZC (h:kD b5) (k:Nat):dF k (y7 u b5)=if u=some k then (dF k b5).map PV.un else dF k b5:=by
 cases u with
 | none=>simp[y7]
 | some j =>grind [y7,JM]
theorem b9Q {b d a:Option Nat} {f:PV} (h:kD b5) (g:∀ k,u=some k->b≠some k/\a≠some k) (i:∀ k,d=some k->b≠some k/\a≠some k) :
 wS u p (y7 d (wS b f (y7 a b5)))=wS b f (y7 a (wS u p (y7 d b5))):=by
 have s1:=KO (c:=d) h;have e:=KO (c:=a) h;refine b1D (JE (KO (JE e))) (JE (KO (JE s1))) fun k => ?_
 rw[ZE (KO (JE e)),ZC (JE e),ZE e,ZC h,ZE (KO (JE s1)),ZC (JE s1),ZE s1,ZC h];grind
def uV (b:Array Oper) (c:ASt) (o:Oper):Option Bool :=
 match o.guard with
 | none=>some true
 | some (j,a)=>(CG b c j).map fun x=>x==some a
theorem hk5 (h:hk A I=5):∃ t x,I.op = .load t x/\fB A.ln I.dst=true:=by unfold hk at h;grind
theorem b1K {b:ASt} (h:dS A I J=some (p,b)) (m:hk A I=5) (n:agree I J.s d2.s) (r:Gy A d2.h J.h):b=J/\dS A I d2=some (p,d2)/\vJ A I=none:=by
 obtain ⟨t,x,c,u⟩:=hk5 m;obtain ⟨v,B,j,w,d,guard⟩:=I;subst c;simp only[dS] at h ⊢;have f:d2.rd x=J.rd x:=rE n (by simp[Op.operands]);rw[f];cases y:ti A.P t with
 | none=>grind
 | some a =>
  cases hq:J.rd x with
  | none=>simp_all
  | some q =>
   simp only[y,hq,u] at h ⊢;split at h
   .rename_i g;have l:=aY3 h;refine ⟨l.1,?_,rfl⟩;refine l.2 d2 fun i z e => ?_
    subst e;exact r i g
   .cases h
def Dy (E:AE) (o:Oper) (c b:ASt):Prop:=∃ p a,dS E o c=some (p,a)/\mX E o c/\ASt.put E o.dst p a=some b
def b7U (E:AE) (o:Oper) (f:Operand) (args:List Operand) (b c:ASt):Prop :=
 ∃ g first a d r,b.rd f=some (.func (.func g) first a)/\lG (args.map b.rd)=some d /\
  ((Ev E.P g (first ++ d ++ a) [] r []/\r.flat=true/\PV.flats (first ++ d ++ a)=true/\ASt.put E o.dst r b=some c) \/
   (fB E.sy o.dst=true/\∃ h',Ev E.P g (first ++ d ++ a) b.h r h'/\Gy E h' b.h/\ASt.put E o.dst r { b with h:=h' }=some c))
abbrev CJ (o:Oper):Option (Operand×List Operand) :=
 match o.op with
 | .call c=>match c.callee with
  | .value f=>some (f,c.args.toList)
  | _=>none
 | _=>none
theorem hk6 (h:hk A I=6):CJ I≠none\/(∃ t a x,I.op = .store t a x/\fB A.mu (iR a)=true)\/(∃ t,I.op = .alloc t/\fB A.ln I.dst=true)\/(∃ t r,I.op = .makeMap t r/\fB A.ln I.dst=true)\/∃ t m k x,I.op = .insert t m k x/\fB A.mu ((iR m).map (6000000 + ·))=true:=by
 obtain ⟨i,j,g,l,e,guard⟩:=I;cases j with
 | call c =>
  obtain ⟨d,n,p⟩:=c;cases d with
  | value f=>grind
  | builtin b =>cases b<;>simp[hk] at h
  | _=>simp[hk] at h
 | store t a x =>simp only[hk] at h;grind
 | alloc t =>simp only[hk] at h;grind
 | makeMap t r =>simp only[hk] at h;grind
 | insert t m k x =>simp only[hk] at h;grind
 | load t x =>simp only[hk] at h;grind
 | _=>simp only[hk] at h<;>first | omega | (split at h<;>omega)
theorem c7J (h:dS A I J=some (p,d2)) (h6:hk A I=6) (Y:CJ I=none):Gy A d2.h J.h:=by
 have N:∀ {n:Nat},aHU A.ln n=true->∀ i,fB A.ln (some (1000000+i))=true->i<n:=fun {n} C i D=>by
  have F:1000000+i∈A.ln:=by simpa[fB] using D
  have:=jq.1 C _ F;rw[show Nat.ble 1000000 (1000000+i)=true by rw[Nat.ble_eq]; omega] at this;simp_all
 rcases hk6 h6 with h' | ⟨t,a,x,c,w⟩|⟨t,c,w⟩|⟨t,r,c,w⟩|⟨t,m,k,x,c,w⟩
 simp_all;case inr.inr.inr.inl =>
  obtain ⟨u,G,g,v,f,guard⟩:=I;subst c;simp only[dS,w] at h;split at h
  .cases h
  .split at h
   .intro i D;grind
   .cases h
 case inr.inr.inr.inr =>
  obtain ⟨u,G,g,v,f,guard⟩:=I;subst c;simp only[dS] at h;split at h
  .cases h
  rename_i l;unfold a99 at l;split at h
  .rename_i s z i q y O Z h2 h3;split at h
   .split at h
    .split at h
     .cases h;intro j Q;have B:i≠j:=fun e=>by simp_all
      simp_all
     .cases h
    .cases h
   .cases h
  .cases h
 case inr.inr.inl =>
  obtain ⟨u,G,g,v,f,guard⟩:=I;subst c;simp only[dS,w] at h;split at h
  .cases h
  .cases O:ti A.P t with
   | none=>grind
   | some b =>intro i D;grind [fB]
 obtain ⟨u,G,g,v,f,guard⟩:=I;subst c;simp only[dS] at h;split at h
 .cases h
 rename_i l;cases S:ti A.P t with
 | none=>grind
 | some b =>
  cases hq:J.rd a with
  | none=>simp_all
  | some q =>
   cases T:J.ev x with
   | none=>simp_all
   | some U =>
    cases u with
    | some d=>simp_all
    | none =>
     simp only[S,hq,T] at h;cases H:AP b q U (J.clr x) with
     | none=>simp_all
     | some V =>
      simp[H] at h;obtain ⟨_,rfl⟩:=h;have K:=(IE J x).2;unfold Uj at l;rw[w,hq] at l;cases q with
      | ptr i X =>
       have L:∃ M,V.h=(J.clr x).h.set i M:=by grind [AP]
       obtain ⟨M,hk⟩:=L;intro j Q;have B:i≠j:=fun e=>by simp_all
       rw[hk,Ad B,K]
      | _=>simp at l
def JK (E:AE) (o:Oper) (b a:ASt):Prop :=
 match CJ o with
 | some (f,args)=>b7U E o f args b a
 | none=>Dy E o b a
def ny (E:AE) (a:Array Oper) (o:Oper) (c b:ASt):Prop :=(uV a c o=some true/\JK E o c b)\/(uV a c o=some false/\ASt.put E o.dst (.tuple []) c=some b)
section
variable {E:AE} {ops:Array Oper} {o:Oper} {σ σ' τ:ASt}
theorem a8D (h:ASt.put E u p σ=some σ'):σ'.s=wS u p σ.s/\σ'.h=σ.h/\∀ k,u=some k->k<E.n:=by
 cases u with
 | none=>simp[ASt.put] at h; subst h; exact ⟨rfl,rfl,by simp⟩
 | some k =>
  simp only[ASt.put] at h;split at h
  .cases h; exact ⟨rfl,rfl,fun j e=>by simp_all⟩
  .cases h
def Yq (h:∀ k,u=some k->k<E.n):ASt.put E u p σ=some ⟨wS u p σ.s,σ.h⟩:=by
 cases u with
 | none=>rfl
 | some k=>simp only[ASt.put,ay (h k rfl)]; rfl
theorem aEV (h:Operand.tmp j∈o.op.operands):j∈o.looksAt ops:=VB _ (List.mem_filterMap.2 ⟨.tmp j,by grind,rfl⟩)
theorem Xu (h:∀ t,t∈o.looksAt ops->dF t τ.s=dF t σ.s):uV ops τ o=uV ops σ o:=by
 unfold uV;cases b:o.guard with
 | none=>rfl
 | some jw =>
  obtain ⟨j,a⟩:=jw;have:CG ops τ j=CG ops σ j:=by
   unfold CG;cases c:(ops[j]?).bind (·.dst) with
   | none=>rfl
   | some d=>simp only[h d (VC _ (by grind))]
  simp_all
theorem b0P (h:agree o σ.s τ.s) (l:mX E o σ):mX E o τ:=by
 obtain ⟨f,g,e,i,b,guard⟩:=o;cases g with
 | call c =>
  obtain ⟨a,args,j⟩:=c;have d:∀ x,x∈args.toList->x∈(Op.call ⟨a,args,j⟩).operands:=fun x m=>by grind [Op.operands,Call.operands]
  grind [mX,Rn,rE]
 | _=>trivial
theorem aAS (h:ny E ops o σ σ'):∃ c p,(c=none\/c=vJ E o)/\σ'.s=wS o.dst p (y7 c σ.s)/\((hk E o=0\/hk E o=1\/hk E o=5)->σ'.h=σ.h)/\(hk E o=3->pX σ'.h=pX σ.h)/\(hk E o=6->Gy E σ'.h σ.h) /\
 ∀ τ:ASt,(∀ t,t∈o.looksAt ops->dF t τ.s=dF t σ.s)->(hk E o=0\/τ.h=σ.h\/(hk E o=1/\pX τ.h=pX σ.h)\/(hk E o=5/\Gy E τ.h σ.h))->∃ j,ny E ops o τ j/\j.s=wS o.dst p (y7 c τ.s)/\((hk E o=0\/hk E o=1\/hk E o=5)->j.h=τ.h)/\(τ.h=σ.h->j.h=σ'.h):=by
 rcases h with ⟨C,D⟩|⟨C,U⟩
 .unfold JK at D;cases l:CJ o with
  | some V =>
   obtain ⟨f,args⟩:=V;rw[l] at D;obtain ⟨g,first,u,O,r,v,F,y⟩:=D;have m:f∈o.op.operands/\∀ x,x∈args->x∈o.op.operands:=by grind [Op.operands,Call.operands]
   rcases y with ⟨y,X,I,h6⟩|⟨G,h',y,n,h6⟩
   .obtain ⟨z,b,w⟩:=a8D h6;refine ⟨none,r,.inl rfl,z,fun _=>b,fun _=>by rw[b],fun _ i _=>by rw[b],fun τ d _=>⟨⟨wS o.dst r τ.s,τ.h⟩,.inl ⟨by rw[Xu d]; exact C,?_⟩,rfl,fun _=>rfl,fun e=>by rw[b]; exact e⟩⟩;unfold JK;rw[l];have a:agree o σ.s τ.s:=fun t h=>d t (aEV h)
    exact ⟨g,first,u,O,r,by rw[rE a m.1]; exact v,by rw[UF fun x J=>rE a (m.2 x J)]; exact F,.inl ⟨y,X,I,Yq w⟩⟩
   .obtain ⟨z,b,w⟩:=a8D h6;have Y:hk E o=2\/hk E o=6:=by
     obtain ⟨Z,op,Q,a',K,guard⟩:=o;cases op<;>simp[CJ] at l
     rename_i c;obtain ⟨q,b0,ts⟩:=c;cases q<;>simp at l
     simp only[hk,G];simp
    refine ⟨none,r,.inl rfl,z,fun e=>by omega,fun e=>by omega,fun _=>by rw[b]; exact n,fun τ d S => ?_⟩;have H:τ.h=σ.h:=by grind
    refine ⟨⟨wS o.dst r τ.s,h'⟩,.inl ⟨by rw[Xu d]; exact C,?_⟩,rfl,fun e=>by omega,fun _=>by rw[b]⟩;unfold JK;rw[l];have a:agree o σ.s τ.s:=fun t h=>d t (aEV h)
    exact ⟨g,first,u,O,r,by rw[rE a m.1]; exact v,by rw[UF fun x J=>rE a (m.2 x J)]; exact F,.inr ⟨G,h',by rw[H]; exact y,by rw[H]; exact n,Yq w⟩⟩
  | none =>
   rw[l] at D;obtain ⟨p,L,v,F,y⟩:=D;obtain ⟨z,b,w⟩:=a8D y;have A:=b1L v (fun _ _=>rfl) (.inr (.inl rfl));obtain ⟨_,_,s1,_,s3,_,s5⟩:=A;have e5:hk E o=5->L.h=σ.h:=fun e=>by rw[(b1K v e (fun _ _=>rfl) (fun _ _=>rfl)).1]
   refine ⟨vJ E o,p,.inr rfl,by rw[z,s1],fun e=>by grind,fun e=>by rw[b]; exact s5 e,fun e=>by rw[b]; exact c7J v e l,fun τ d S => ?_⟩;have a:agree o σ.s τ.s:=fun t h=>d t (aEV h)
   by_cases I:hk E o=5
   .have n:Gy E τ.h σ.h:=by
     rcases S with h | h | h | h
     .omega
     .intro i _; rw[h]
     .omega
     .exact h.2
    obtain ⟨l0,M,T⟩:=b1K v I a n;refine ⟨⟨wS o.dst p τ.s,τ.h⟩,.inl ⟨by rw[Xu d]; exact C,?_⟩,by rw[T]; rfl,fun _=>rfl,fun e=>by rw[b,e5 I]; exact e⟩;unfold JK;rw[l];exact ⟨p,τ,M,b0P a F,Yq w⟩
   have N:hk E o=0\/τ.h=σ.h\/(hk E o=1/\pX τ.h=pX σ.h):=by simp_all
   obtain ⟨B,M,T,l3,l4,l5,_⟩:=b1L v a N;refine ⟨⟨wS o.dst p B.s,B.h⟩,.inl ⟨by rw[Xu d]; exact C,?_⟩,by grind,fun e=>by simp_all,fun e=>by rw[b]; exact l5 e⟩;unfold JK;rw[l];exact ⟨p,B,M,b0P a F,Yq w⟩
 .obtain ⟨z,b,w⟩:=a8D U;exact ⟨none,.tuple [],.inl rfl,z,fun _=>b,fun _=>by rw[b],fun _ i _=>by rw[b],fun τ d _=>⟨⟨wS o.dst (.tuple []) τ.s,τ.h⟩,.inr ⟨by rw[Xu d]; exact C,Yq w⟩,rfl,fun _=>rfl,fun e=>by rw[b]; exact e⟩⟩
theorem ny.jo (h:ny E ops o σ σ') (a:kD σ.s):kD σ'.s:=by grind [aAS,JE,KO]
def oQ (E:AE) (o:Oper):List Nat:=o.dst.toList ++ (vJ E o).toList
def aUW (a b:Nat):Bool:=a==0||b==0||(a==1&&b==1)||(a==1&&b==3)||(a==3&&b==1)||(a==5&&(b==1||b==5||b==6))||(b==5&&(a==1||a==6))
def Y5 (o:Oper):Option ByteArray:=match o.op,o.dst,o.guard with
 | .insert _ _ (.const (.string k)) _,none,none=>some k
 | _,_,_=>none
def aDB (x y:Oper):Bool:=match Y5 x,Y5 y with
 | some a,some b => !(a.data.toList==b.data.toList)
 | _,_=>false
def aB6 (E:AE) (ops:Array Oper) (x y:Oper):Bool :=(oQ E x).all (fun d => !(y.looksAt ops).contains d && !(oQ E y).contains d)&&(oQ E y).all (fun d => !(x.looksAt ops).contains d)&&aUW (hk E x) (hk E y)
def OI (E:AE) (ops:Array Oper) (x y:Oper):Bool:=aB6 E ops x y||aDB x y
def aLP:∀ {a b c:d_},Fb a b=true->Fb b c=true->Fb a c=true
 | [],[],_,h,_=>by cases h
 | [],_::_,[],_,h=>by cases h
 | [],_::_,_::_,_,_=>rfl
 | _::_,[],_,h,_=>by cases h
 | _::_,_::_,[],_,h=>by cases h
 | a::i,b::bs,c::j,d,e=>by
  simp only[Fb,Jg,bQ,Qa,NU] at d e ⊢;rcases d with d | ⟨d,f⟩<;>rcases e with e | ⟨e,g⟩
  .omega
  .omega
  .omega
  .right; exact ⟨by omega,aLP f g⟩
def aAW:∀ {a b:d_},a≠b->Fb b a = !Fb a b
 | [],[],h=>absurd rfl h
 | [],_::_,_=>rfl
 | _::_,[],_=>rfl
 | a::d,b::bs,h=>by
  simp only[Fb];rcases Nat.lt_trichotomy a.toNat b.toNat with f | he | g
  .rw[show Nat.blt a.toNat b.toNat=true by rw[Qa]; exact f,show Nat.blt b.toNat a.toNat=false by rw[<- Dx,Qa]; omega,show Nat.beq b.toNat a.toNat=false by rw[<- Dx,NU]; omega]; rfl
  .have c:a=b:=UInt8.toNat_inj.1 he;subst c;have i:d≠bs:=fun e=>h (by rw[e])
   rw[show Nat.blt a.toNat a.toNat=false by rw[<- Dx,Qa]; omega,show Nat.beq a.toNat a.toNat=true by rw[NU],aAW i]; rfl
  .rw[show Nat.blt a.toNat b.toNat=false by rw[<- Dx,Qa]; omega,show Nat.blt b.toNat a.toNat=true by rw[Qa]; exact g,show Nat.beq a.toNat b.toNat=false by rw[<- Dx,NU]; omega]; rfl
section
variable {a b:ByteArray} {x y:PV}
def yX:ai->Prop
 | k::_::L=>(∃ c,k = .str c)/\yX L
 | []=>True
 | [_]=>False
theorem aAQ:∀ {L:ai},uZ none L (.str a)=true↔yX L
 | []=>⟨fun _=>trivial,fun _=>rfl⟩
 | [_]=>⟨fun h=>(by simp[uZ] at h),fun h=>h.elim⟩
 | k::v::L=>by rw[uZ,bQ,aAQ];refine and_congr ⟨fun h => ?_,fun ⟨c,b⟩=>by subst b; rfl⟩ Iff.rfl;cases k<;>first | exact ⟨_,rfl⟩ | (simp[m_] at h)
theorem aUU (e:a.data.toList≠b.data.toList):∀ {L:ai},yX L->vP none (pU none L (.str a) x) (.str b)=vP none L (.str b)
 | [],_=>rfl
 | [_],h=>h.elim
 | k::v::L,⟨⟨c,f⟩,h⟩=>by
  subst f;simp only[pU,m_];by_cases d:a.data.toList=c.data.toList
  .rw[show (a.data.toList==c.data.toList)=true by rw[qi]; exact d];simp only[vP,m_];rw[d]
  .rw[show (a.data.toList==c.data.toList)=false from tH.2 d];simp only[vP];rw[aUU e h]
theorem aUS (d:a.data.toList≠b.data.toList):∀ {L:ai},yX L->vP none (qR L (.str a) x) (.str b)=vP none L (.str b)
 | [],_=>by grind [qR,vP,m_]
 | [_],h=>h.elim
 | k::v::L,⟨⟨c,e⟩,h⟩=>by
  subst e;simp only[qR];cases qP (.str a) (.str c) with
  | true =>simp only[vP,m_];rw[show (b.data.toList==a.data.toList)=false from tH.2 (Ne.symm d)]
  | false =>simp only[vP];rw[aUS d h]
theorem aYZ (d:a.data.toList≠b.data.toList):∀ {L:ai},yX L->pU none (pU none L (.str a) x) (.str b) y=pU none (pU none L (.str b) y) (.str a) x
 | [],_=>rfl
 | [_],h=>h.elim
 | k::v::L,⟨⟨c,n⟩,h⟩=>by
  subst n;by_cases g:a.data.toList=c.data.toList
  .have f:(b.data.toList==c.data.toList)=false:=tH.2 fun e=>d (g.trans e.symm)
   have j:(b.data.toList==a.data.toList)=false:=tH.2 (Ne.symm d);simp only[pU,m_,show (a.data.toList==c.data.toList)=true by rw[qi]; exact g,f,j]
  .have m:(a.data.toList==c.data.toList)=false:=tH.2 g;by_cases f:b.data.toList=c.data.toList
   .have i:(a.data.toList==b.data.toList)=false:=tH.2 d;simp only[pU,m_,m,show (b.data.toList==c.data.toList)=true by rw[qi]; exact f,i]
   .have l:(b.data.toList==c.data.toList)=false:=tH.2 f;simp only[pU,m_,m,l,aYZ d h]
theorem aYX (f:a.data.toList≠b.data.toList):∀ {L:ai},yX L->vP none L (.str a)=true->qR (pU none L (.str a) x) (.str b) y=pU none (qR L (.str b) y) (.str a) x
 | [],_,h=>by cases h
 | [_],h,_=>h.elim
 | k::v::L,⟨⟨c,j⟩,h⟩,i=>by
  subst j;have e:(a.data.toList==b.data.toList)=false:=tH.2 f;by_cases d:a.data.toList=c.data.toList
  .have l:qP (.str b) (.str a)=qP (.str b) (.str c):=by simp only[qP,d]
   simp only[pU,m_,show (a.data.toList==c.data.toList)=true by rw[qi]; exact d,qR,l];cases qP (.str b) (.str c) with
   | true=>simp only[pU,m_,e,show (a.data.toList==c.data.toList)=true by rw[qi]; exact d]
   | false=>simp only[pU,m_,show (a.data.toList==c.data.toList)=true by rw[qi]; exact d]
  .have g:(a.data.toList==c.data.toList)=false:=tH.2 d;simp only[vP,m_,g] at i;simp only[pU,m_,g,qR];cases qP (.str b) (.str c) with
   | true=>simp only[pU,m_,e,g]
   | false=>simp only[pU,m_,g,aYX f h i]
theorem aVF (e:a.data.toList≠b.data.toList):∀ {L:ai},yX L->qR (qR L (.str a) x) (.str b) y=qR (qR L (.str b) y) (.str a) x
 | [],_=>by have j:qP (.str b) (.str a) = !qP (.str a) (.str b):=aAW e;grind [qR]
 | [_],h=>h.elim
 | k::v::L,⟨⟨c,m⟩,h⟩=>by
  subst m;have j:qP (.str b) (.str a) = !qP (.str a) (.str b):=aAW e;have l:∀ {p q r:ByteArray},qP (.str p) (.str q)=true->qP (.str q) (.str r)=true->qP (.str p) (.str r)=true:=fun n o=>aLP n o
  cases f:qP (.str a) (.str c) with
  | true =>
   cases d:qP (.str b) (.str c) with
   | true =>simp only[qR,f,d,j];cases qP (.str a) (.str b)<;>simp
   | false =>
    have g:qP (.str b) (.str a)=false:=by
     cases i:qP (.str b) (.str a) with
     | false=>rfl
     | true=>rw[l i f] at d; cases d
    simp only[qR,f,d,g]
  | false =>
   cases d:qP (.str b) (.str c) with
   | true =>
    have g:qP (.str a) (.str b)=false:=by
     cases i:qP (.str a) (.str b) with
     | false=>rfl
     | true=>rw[l i d] at f; cases f
    simp only[qR,f,d,g]
   | false=>simp only[qR,f,d,aVF e h]
theorem c3R (c:a.data.toList≠b.data.toList) (h:yX f):lJ none (lJ none f (.str a) x) (.str b) y=lJ none (lJ none f (.str b) y) (.str a) x:=by grind [lJ,aUU,aUS,aVF,aYX,aYZ]
theorem aYW:∀ {L:ai},yX L->yX (pU none L (.str a) x)
 | [],_=>trivial
 | [_],h=>h.elim
 | k::v::L,⟨⟨c,b⟩,h⟩=>by
  subst b;simp only[pU];split
  .exact ⟨⟨_,rfl⟩,h⟩
  .exact ⟨⟨_,rfl⟩,aYW h⟩
theorem aVE:∀ {L:ai},yX L->yX (qR L (.str a) x)
 | [],_=>⟨⟨_,rfl⟩,trivial⟩
 | [_],h=>h.elim
 | k::v::L,⟨⟨c,b⟩,h⟩=>by
  subst b;simp only[qR];cases qP (.str a) (.str c) with
  | true=>exact ⟨⟨_,rfl⟩,⟨_,rfl⟩,h⟩
  | false=>exact ⟨⟨_,rfl⟩,aVE h⟩
theorem c3P (h:yX f):yX (lJ none f (.str a) x):=by grind [lJ,aYW,aVE]
end
variable {b4:ByteArray} {Y:Nat->Nat} {b2:Mem} {b3:aT} {b6:Act} {b7:World} {c5:Exit->Act->World->Prop} {b1:Nat}
theorem bWO {o:Oper} (h:Y5 o=some b4):∃ t m v,o.op = .insert t m (.const (.string b4)) v/\o.dst=none/\o.guard=none:=by grind [Y5]
theorem TU {o:Oper} (hk:Y5 o=some b4):ny E ops o σ σ'↔∃ t m v,o.op = .insert t m (.const (.string b4)) v/\∃ i q d b L z,a99 E.mu E.ln (iR m) (σ.rd m)=true/\Eb E.P t=some (none,z)/\σ.rd m=some (.eU 0 i)/\σ.rd v=some q/\σ.h[i]? = some (some d)/\Cc d=some (b,L)/\yX L/\(!b||q.flat)=true /\
 σ' = { σ with h:=σ.h.set i (some [qQ b (lJ none L (.str b4) q)]) }:=by
 obtain ⟨t,m,v,C,D,F⟩:=bWO hk;obtain ⟨G,N,r,H,l,guard⟩:=o;subst C; subst D; subst F;have I:σ.rd (.const (.string b4))=some (.str b4):=rfl;constructor
 .rintro (⟨_,h⟩|⟨h,_⟩)
  .obtain ⟨p,J,a,_,u⟩:=h;simp only[ASt.put,E5] at u;subst u;simp only[dS] at a;split at a
   .cases a
   rename_i f;split at a
   .rename_i s z i q y w x A B O;rw[I] at A;cases A;split at a
    .rename_i d g;split at a
     .rename_i b L j;split at a
      .rename_i c;cases a;simp only[bQ] at c;have n:s=none:=by
        cases s with
        | none=>rfl
        | some Q=>have:=c.1; simp[zy] at this
       subst n;exact ⟨t,m,v,rfl,i,y,d,b,L,z,f,w,x,B,g,j,aAQ.1 c.2.1,c.2.2,rfl⟩
      .cases a
     .cases a
    .cases a
   .cases a
  .simp[uV] at h
 .rintro ⟨S,T,U,e,i,q,d,b,L,z,f,w,x,B,g,j,K,M,rfl⟩;refine .inl ⟨rfl,?_⟩;refine ⟨.tuple [],{ σ with h:=σ.h.set i (some [qQ b (lJ none L (.str b4) q)]) },?_,trivial,rfl⟩;grind [dS,zy,aAQ]
def aYK:Cc [qQ G f]=some (G,f):=by cases G<;>rfl
theorem b9L {x y:Oper} {e f:ASt} (h1:ny E ops x σ e) (h2:ny E ops y e f) (o:aDB x y=true):∃ τ,ny E ops y σ τ/\ny E ops x τ f:=by
 unfold aDB at o;split at o
 .rename_i a b p r;obtain ⟨t,m,v,C,i,q,D,g,L,z,s1,F,G,H,I,J,u,K,rfl⟩:=(TU p).1 h1;obtain ⟨M,N,O,Q,j,d,w,S,T,U,V,X,Y,Z,c,l,u7,u8,rfl⟩:=(TU r).1 h2;by_cases n:i=j
  .subst n;have A:i<σ.h.length:=(jr.1 I).1;rw[QZ A] at c;injection c with c; injection c with c; subst c
   rw[aYK] at l;injection l with l; injection l with B a'
   subst B; refine ⟨{ σ with h:=σ.h.set i (some [qQ g (lJ none L (.str b) d)]) },(TU r).2 ⟨M,N,O,Q,i,d,D,g,L,U,V,X,Y,Z,I,J,u,u8,rfl⟩,(TU p).2 ⟨t,m,v,C,i,q,[qQ g (lJ none L (.str b) d)],g,lJ none L (.str b) d,z,s1,F,G,H,?_,aYK,c3P u,K,?_⟩⟩;simp_all;grind [List.set_set,c3R]
  .rw[Ad n] at c;refine ⟨{ σ with h:=σ.h.set j (some [qQ S (lJ none T (.str b) d)]) },(TU r).2 ⟨M,N,O,Q,j,d,w,S,T,U,V,X,Y,Z,c,l,u7,u8,rfl⟩,(TU p).2 ⟨t,m,v,C,i,q,D,g,L,z,s1,F,G,H,?_,J,u,K,?_⟩⟩;grind
   grind [List.set_comm]
 .cases o
theorem b9K {x y:Oper} {b a:ASt} (m:kD σ.s) (F:ny E ops x σ b) (u:ny E ops y b a) (v:aB6 E ops x y=true):∃ τ,ny E ops y σ τ/\ny E ops x τ a:=by
 unfold aB6 at v;simp only[bQ,jq,F6,List.contains_eq_mem,aJV] at v;obtain ⟨⟨d,w⟩,z⟩:=v;obtain ⟨S,T,k1,C,a1,U,G,H⟩:=aAS F;obtain ⟨V,X,k2,I,a2,Y,Z,J⟩:=aAS u;have q:∀ {o:Oper} {c:Option Nat} {k:Nat},(c=none\/c=vJ E o)->c=some k->k∈oQ E o:=fun hk e=>by
  rcases hk with h | h
  simp_all
  .exact VC _ (by rw[<- h,e]; simp)
 have r:∀ {o:Oper} {k:Nat},o.dst=some k->k∈oQ E o:=fun e=>VB _ (by rw[e]; simp)
 have f:∀ {o:Oper} {c:Option Nat} {p:PV} {s:gp} {t:Nat},kD s->(c=none\/c=vJ E o)->t∉oQ E o->dF t (wS o.dst p (y7 c s))=dF t s:=fun m hk n=>by rw[ZE (KO m),aX (fun e=>n (r e)),ZC m,aX (fun e=>n (q hk e))]
 unfold aUW at z;simp only[Jg,bQ,qi] at z;have j:hk E y=0\/σ.h=b.h\/(hk E y=1/\pX σ.h=pX b.h)\/(hk E y=5/\Gy E σ.h b.h):=by
  rcases z with (((((h | h) | h) | h) | h) | h) | h
  simp_all;omega;simp_all;simp_all;simp_all;simp_all
  .rcases h.2 with u | u
   simp_all
   .exact .inr (.inr (.inr ⟨h.1,fun i K=>(G u i K).symm⟩))
 obtain ⟨τ,L,D,y3,y4⟩:=J σ (fun t n=>by rw[C,f m k1 fun A=>(d t A).1 n]) j;have B:hk E x=0\/τ.h=σ.h\/(hk E x=1/\pX τ.h=pX σ.h)\/(hk E x=5/\Gy E τ.h σ.h):=by grind
 obtain ⟨g,M,N,x3,x4⟩:=H τ (fun t n=>by rw[D,f m k2 fun A=>w t A n]) B;refine ⟨τ,L,?_⟩;have O:g.s=a.s:=by rw[N,D,I,C];exact b9Q m (fun k e=>⟨fun l=>(d k (r e)).2 (r l),fun l=>(d k (r e)).2 (q k2 l)⟩) (fun k e=>⟨fun l=>(d k (q k1 e)).2 (r l),fun l=>(d k (q k1 e)).2 (q k2 l)⟩)
 have Q:g.h=a.h:=by grind
 have:g=a:=by cases g; cases a; simp_all
 rw[<- this]; exact M
theorem aMN {x y:Oper} {a b:ASt} (c:kD σ.s) (d:ny E ops x σ a) (e:ny E ops y a b) (f:OI E ops x y=true):∃ τ,ny E ops y σ τ/\ny E ops x τ b:=by grind [OI,b9K,b9L]
def o_ (E:AE) (ops:Array Oper):List Nat->ASt->ASt->Prop
 | [],σ,σ'=>σ=σ'
 | i::l,σ,σ'=>∃ o,ops[i]? = some o/\∃ a,ny E ops o σ a/\o_ E ops l a σ'
theorem aM5 {i:Nat} {b:Oper} (m:ops[i]? = some b):∀ (p q:List Nat) {σ σ':ASt},kD σ.s->o_ E ops (p ++ i::q) σ σ'->(∀ k,k∈p->∀ g,ops[k]? = some g->OI E ops g b=true)->∃ a,ny E ops b σ a/\o_ E ops (p ++ q) a σ'
 | [],q,σ,σ',c,h,_=>by obtain ⟨o,d,a,e,j⟩:=h;grind
 | k::p,q,σ,σ',c,h,l=>by
  obtain ⟨o,d,a,e,j⟩:=h;obtain ⟨f,n,r⟩:=aM5 m p q (e.jo c) j fun k hk=>l k (by simp[hk])
  obtain ⟨τ,t,u⟩:=aMN c e n (l k (by simp) o d);exact ⟨τ,t,o,d,f,u,r⟩
def aLC (bZ:List Nat) (o:Oper):Nat:=o.after.toList.foldl (fun s e=>if Region.binds .any e then s ||| (2 ^ e.on ||| bZ.getD e.on 0) else s) 0
def O5:List Nat->List Oper->List Nat
 | bZ,[]=>bZ
 | bZ,o::l=>O5 (bZ ++ [aLC bZ o]) l
def r_ (ops:Array Oper) (L:Nat->Prop):Prop:=∀ (j:Nat) o,ops[j]? = some o->L j->∀ e,e∈o.after->Region.binds .any e=true->L e.on
theorem b5P {bZ:List Nat} {o:Oper} (h:(aLC bZ o).testBit j=true):∃ e,e∈o.after/\Region.binds .any e=true/\(j=e.on\/(bZ.getD e.on 0).testBit j=true):=by
 have a:∀ (l:List Edge) (s:Nat),(l.foldl (fun s e=>if Region.binds .any e then s ||| (2 ^ e.on ||| bZ.getD e.on 0) else s) s).testBit j=true->s.testBit j=true\/∃ e,e∈l/\Region.binds .any e=true/\(j=e.on\/(bZ.getD e.on 0).testBit j=true):=by
  intro l;induction l with
  | nil=>simp
  | cons e l c =>grind
 rcases a o.after.toList 0 h with b | ⟨e,b,d⟩
 grind
 grind
def aA2 (ops:Array Oper) (bZ:List Nat):Prop:=∀ (j:Nat) o,j<bZ.length->ops[j]? = some o->∀ L,r_ ops L->(∀ e,e∈o.after->Region.binds .any e=true->L e.on)->∀ k,(bZ.getD j 0).testBit k=true->L k
theorem aLD {ops:Array Oper}:∀ (l:List Oper) (bZ:List Nat),aA2 ops bZ->(∀ j,l[j]? = ops[bZ.length+j]?)->aA2 ops (O5 bZ l)
 | [],bZ,h,_=>h
 | o::l,bZ,h,m=>by
  have n:ops[bZ.length]? = some o:=by have:=m 0; simp_all
  refine aLD l _ (fun j t w a L f p k hk => ?_) (fun j=>by have:=m (j+1); grind);rcases F9 j bZ.length with c | u
  .refine h j t c a L f p k ?_;rwa [aJM,Ba c] at hk
  .have g:j=bZ.length:=by grind
   subst g;rw[n] at a; cases a;simp at hk;obtain ⟨e,he,v,d⟩:=b5P hk;rcases d with rfl | d
   simp_all
   .have i:=p e he v;rcases F9 e.on bZ.length with q | q
    .cases b:ops[e.on]? with
     | none =>have x:=(DW.1 n).1;rw[Array.getElem?_eq_none_iff] at b; omega
     | some r=>exact h e.on r q b L f (f e.on r b i) k (by omega)
    simp_all
def zK (E:AE) (ops:Array Oper):Bool :=
 let A:=O5 [] ops.toList
 (List.range ops.size).all fun j=>match ops[j]? with
  | some a=>a.after.toList.all (fun e => !Region.binds .any e||decide (e.on<j))&&(List.range j).all fun i=>match ops[i]? with
   | some b=>(A.getD j 0).testBit i||OI E ops b a
   | none=>true
  | none=>true
theorem b_L (h:zK E ops=true):(∀ (j:Nat) o,ops[j]? = some o->∀ e,e∈o.after->Region.binds .any e=true->e.on<j) /\
 ∀ (i j:Nat) c a,i<j->ops[i]? = some c->ops[j]? = some a->∀ L,r_ ops L->(∀ e,e∈a.after->Region.binds .any e=true->L e.on)->¬ L i->OI E ops c a=true:=by
 unfold zK at h;simp only[jq,Aa] at h;have n:aA2 ops (O5 [] ops.toList):=aLD ops.toList [] (fun j o b=>by simp at b) (fun j=>by simp);have m:∀ (l:List Oper) (bZ:List Nat),(O5 bZ l).length=bZ.length+l.length:=by
  intro l;induction l with
  | nil=>simp[O5]
  | cons o l u=>grind [O5]
 constructor;grind
 .intro i j c a d p b L q r t;have f:=(DW.1 b).1;have:=h j f;simp only[b,bQ,jq,Aa] at this;have:=this.2 i d;simp only[p,Jg] at this;rcases this with g | g
  .exact absurd (n j a (by simp_all) b L q r i g) t
  .exact g
theorem aU7 (c:Inv E.n b2 b3 Y σ b6.tmps b7) (h:uV ops σ o=some G):Region.wanted o (yielded ops b6.tmps)=G:=by unfold uV at h;grind [Region.wanted,CG,TR]
theorem b3E (f:Inv E.n b2 b3 Y σ b6.tmps b7) (F:ops[j]? = some o) (h:ny E ops o σ σ') {K:Act->World->Prop} 
 (G:∀ v t u q,Good E.n Y b2 b3 σ b6.tmps b7 t u σ' (b6.put o.dst v).tmps q->K (b6.put o.dst v) q):wpOp E.P ops c5 j K b6 b7:=by
 unfold wpOp;simp only[F];rcases h with ⟨x,l⟩|⟨x,H⟩
 .rw[ay (aU7 f x)];refine .inl ?_;unfold JK at l;cases m:CJ o with
  | some V =>
   rw[m] at l;obtain ⟨g,first,z,X,r,A,C,d⟩:=l;refine a1A (K:=fun τ=>τ=σ') f ?_ fun v τ t u q e I=>by grind
   unfold yY;obtain ⟨J,L,D,N,y,guard⟩:=o;cases L<;>simp[CJ] at m
   rename_i c;obtain ⟨b,O,Z⟩:=c;cases b<;>simp at m
   obtain ⟨rfl,rfl⟩:=m;simp only[A,C];rcases d with ⟨d,S,T,h6⟩|⟨_,h',d,_,h6⟩
   .refine ⟨r,σ.h,d.frame' S T _,?_⟩;unfold jd;simp_all
   .refine ⟨r,h',d,?_⟩;grind [jd]
  | none =>
   rw[m] at l;obtain ⟨p,U,A,C,d⟩:=l;refine b1H (K:=fun τ=>τ=σ') f ?_ fun v τ t u q e I=>by grind
   grind [AO,jd]
 .rw[aX (by rw[aU7 f x]; simp)];exact G undef b2 b3 b7 (P_ f H)
def rG (n:Nat) (L:Array Bool):List Nat:=(List.range n).filter fun i => !L.getD i true
theorem U9 {L:Array Bool}:b1∈rG j L↔b1<j/\L.getD b1 true=false:=by grind [rG]
theorem cA2 {L:Array Bool} (b:L.size=j) (e:b1<j) (f:L.getD b1 true=false):∃ p q,rG j L=p ++ b1::q/\rG j (L.setIfInBounds b1 true)=p ++ q/\∀ k,k∈p->k<b1:=by
 have g:List.range j=List.range b1 ++ b1::(List.range' (b1+1) (j-b1-1)):=by
  have:j=b1+(j-b1-1+1):=by omega
  rw[aJQ,aJQ,this,<- List.range'_append_1,aJP];simp
 have c:∀ a,a≠b1->(L.setIfInBounds b1 true).getD a true=L.getD a true:=fun a h=>by simp[b3L (Ne.symm h)]
 have d:(L.setIfInBounds b1 true).getD b1 true=true:=by simp[b]
 refine ⟨(List.range b1).filter fun b1 => !L.getD b1 true,(List.range' (b1+1) (j-b1-1)).filter fun b1 => !L.getD b1 true,?_,?_,fun k hk => ?_⟩;grind [rG]
 grind [rG,List.filter_congr]
 simp_all
theorem aLF (z:zK E ops=true):∀ (b:Nat) (L:Array Bool) {M:Mem} {B:aT} {σ:ASt} {a:Act} {w:World} {K:ASt->Prop} {σ':ASt},L.size=ops.size->(rG ops.size L).length=b->r_ ops (fun i=>L.getD i false=true) ->
 Inv E.n M B Y σ a.tmps w->o_ E ops (rG ops.size L) σ σ'->K σ' ->
 (∀ M' B' A C,K σ'->Good E.n Y M B σ a.tmps w M' B' σ' A.tmps C->A.defers=a.defers->c5 .normal A C)->wpAny E.P .any ops c5 b L a w:=by
 obtain ⟨g,D⟩:=b_L z;have F:∀ (L:Array Bool),L.size=ops.size->Region.ready .any ops L = []->rG ops.size L = []:=by
  intro L x h;cases hu:rG ops.size L with
  | nil=>rfl
  | cons i l =>
   exfalso;have G:i∈rG ops.size L:=by rw[hu]; simp
   obtain ⟨m,h2⟩:=U9.1 G;have d:ops[i]? = some ops[i]:=Array.getElem?_eq_getElem m;have r:∀ k,k<i->L.getD k true=true:=fun k hk=>by grind [rG,List.filter_sublist,List.pairwise_lt_range]
   have:i∈Region.ready .any ops L:=VH.2 ⟨h2,_,d,fun e he H=>by have I:=g i _ d e he H;have:=r _ I;grind⟩;rw[h] at this; cases this
 intro b;induction b with
 | zero =>
  intro L M B σ a w K σ' x c _ y t hk J;have f:rG ops.size L = []:=oK c;rw[f] at t;have:σ=σ':=t;subst this;refine ⟨?_,J M B a w hk (Good.refl y) rfl⟩;cases hr:Region.ready .any ops L with
  | nil=>rfl
  | cons i l =>
   exfalso;have N:i∈Region.ready .any ops L:=by rw[hr]; simp
   obtain ⟨m,o,d,_⟩:=VH.1 N;have:i∈rG ops.size L:=U9.2 ⟨(DW.1 d).1,m⟩;rw[f] at this; cases this
 | succ b ih =>
  intro L M B σ a w K σ' x c O y t hk J;refine ⟨fun h=>by rw[F L x h] at c; simp at c,fun i N => ?_⟩;obtain ⟨m,o,d,hd⟩:=VH.1 N;have S:=(DW.1 d).1;obtain ⟨p,q,T,u2,u3⟩:=cA2 x S m;rw[T] at t;obtain ⟨b2,s1,s2⟩:=aM5 d p q y.jo t fun k b3 ok b1=>by
   have wB:k∈rG ops.size L:=by rw[T]; simp_all
   obtain ⟨k1,k2⟩:=U9.1 wB;grind
  refine b3E y d s1 fun v M' B' C hG => ?_
  refine ih (L.setIfInBounds i true) (by grind) (by rw[u2]; rw[T] at c; grind) (fun j oj hj U e he H => ?_) hG.inv (by rw[u2]; exact s2) hk fun M2 B2 a2 w2 V X Z=>J M2 B2 a2 w2 V (hG.trans X) (by rw[Z,Act.JF])
  by_cases b0:i=j;grind [getD_set_true]
  .have u:(L.setIfInBounds i true).getD j false=true:=U;rw[getD_set_ne false b0] at u;exact getD_set_true (O j oj hj u e he H)
def aAY (E:AE) (g:FuncId) (args:ai) (a:Option Nat) (K:ASt->Prop) (σ:ASt):Prop:=(∃ r,Ev E.P g args [] r []/\r.flat=true/\PV.flats args=true/\jd E a r σ K)\/(fB E.sy a=true/\∃ r h',Ev E.P g args σ.h r h'/\Gy E h' σ.h/\jd E a r { σ with h:=h' } K)
def EF (E:AE) (o:Oper) (K:ASt->Prop) (σ:ASt):Prop :=
 match CJ o with
 | some (f,args)=>(match σ.rd f,lG (args.map σ.rd) with
  | some (.func (.func g) first a),some b=>aAY E g (first ++ b ++ a) o.dst K σ
  | _,_=>False)
 | none=>AO E o K σ
def vC (E:AE) (ops:Array Oper):List Oper->(ASt->Prop)->ASt->Prop
 | [],Q,σ=>Q σ
 | o::l,Q,σ =>
  match o.guard with
  | none=>EF E o (vC E ops l Q) σ
  | some (j,a)=>match CG ops σ j with
   | some none=>jd E o.dst (.tuple []) σ (vC E ops l Q)
   | some (some b)=>(b=a->EF E o (vC E ops l Q) σ)/\(b≠a->jd E o.dst (.tuple []) σ (vC E ops l Q))
   | none=>False
def a0X (E:AE) (ops:Array Oper) (K:ASt->Prop) (σ:ASt):Prop:=zK E ops=true/\vC E ops ops.toList K σ
theorem ZP {K:ASt->Prop} (h:jd E u p σ K):∃ σ',ASt.put E u p σ=some σ'/\K σ':=by grind [jd]
theorem aLM {K:ASt->Prop} (h:EF E o K σ):∃ σ',JK E o σ σ'/\K σ':=by
 unfold EF at h;unfold JK;split at h
 .rename_i f args l;split at h
  .rename_i g first a e i j
   rcases h with ⟨r,a1,a2,a3,a4⟩|⟨b,r,h',a1,c,a4⟩
   .obtain ⟨σ',a5,a6⟩:=ZP a4;exact ⟨σ',⟨g,first,a,e,r,i,j,.inl ⟨a1,a2,a3,a5⟩⟩,a6⟩
   .obtain ⟨σ',a5,a6⟩:=ZP a4;exact ⟨σ',⟨g,first,a,e,r,i,j,.inr ⟨b,h',a1,c,a5⟩⟩,a6⟩
  simp_all
 .rename_i l;unfold AO at h;split at h
  .rename_i p d m;obtain ⟨σ',a5,a6⟩:=ZP h.2;exact ⟨σ',⟨p,d,m,h.1,a5⟩,a6⟩
  simp_all
theorem aAT {K:ASt->Prop}:∀ (l:List Oper) (k:Nat) {σ:ASt},(∀ j,l[j]? = ops[k+j]?)->vC E ops l K σ->∃ σ',o_ E ops (List.range' k l.length) σ σ'/\K σ'
 | [],k,σ,_,h=>⟨σ,rfl,h⟩
 | o::l,k,σ,g,h=>by
  have n:ops[k]? = some o:=by have:=g 0; simp_all
  have i:∀ a,ny E ops o σ a->vC E ops l K a->∃ σ',o_ E ops (List.range' k (o::l).length) σ σ'/\K σ':=fun a c d=>by obtain ⟨σ',p,q⟩:=aAT l (k+1) (fun j=>by have:=g (j+1); grind) d;exact ⟨σ',by rw[bT,aJP]; exact ⟨o,n,a,c,p⟩,q⟩
  have run:uV ops σ o=some true->EF E o (vC E ops l K) σ->∃ σ',o_ E ops (List.range' k (o::l).length) σ σ'/\K σ':=fun e h=>by obtain ⟨a,c,d⟩:=aLM h;exact i a (.inl ⟨e,c⟩) d
  have skip:uV ops σ o=some false->jd E o.dst (.tuple []) σ (vC E ops l K)->∃ σ',o_ E ops (List.range' k (o::l).length) σ σ'/\K σ':=fun e h=>by obtain ⟨a,c,d⟩:=ZP h;exact i a (.inr ⟨e,c⟩) d
  rw[vC] at h;split at h
  grind [uV]
  .rename_i j f e;split at h
   grind [uV]
   .rename_i b hv;by_cases m:b=f;grind [uV]
    .exact skip (by simp[uV,e,hv,m]) (h.2 m)
   simp_all
theorem b6B (q:E.P.follows .mixedOrders=true) {id:Nat} {K:ASt->Prop} (r:Inv E.n b2 b3 Y σ b6.tmps b7) (h:a0X E ops K σ)
 (t:∀ σ' d e b c,K σ'->Good E.n Y b2 b3 σ b6.tmps b7 d e σ' b.tmps c->b.defers=b6.defers->c5 .normal b c):(Code.region id ops true).wp E.P c5 b6 b7:=by
 obtain ⟨f,h⟩:=h;obtain ⟨σ',u,hk⟩:=aAT ops.toList 0 (fun j=>by simp) h;have m:=r.drew;have p:rG ops.size (Array.replicate ops.size false)=List.range' 0 ops.toList.length:=by unfold rG;rw[List.filter_eq_self.2 (fun i v=>by have:=Aa.1 v; simp[this]),aJQ]; simp
 refine wp_region_any q ?_;refine aLF f ops.size (Array.replicate ops.size false) (K:=K) (σ':=σ') (by simp) (by rw[p]; simp) (fun j o _ h => ?_) m.1 (by rw[p]; exact u) hk fun d e b c g x l=>t σ' d e b c g (m.2.trans x) l
 have h':(Array.replicate ops.size false).getD j false=true:=h;simp[Array.getElem?_replicate] at h';split at h'<;>simp at h'
end
def VK (E:AE) (a:Array Oper) (d:ASt->Prop):Nat->Array Bool->ASt->Prop
 | 0,L,c=>Region.ready .any a L = []/\d c
 | fuel+1,L,c=>(Region.ready .any a L = []->d c)/\∀ i,i∈Region.ready .any a L->∃ o,a[i]? = some o/\∃ b,ny E a o c b/\VK E a d fuel (L.setIfInBounds i true) b
def aMM (j:Nat) (o:Oper):Bool:=o.after.toList.any fun e=>Region.binds .any e&&e.on==j
def aBO (E:AE) (a:Array Oper) (L:Array Bool) (j:Nat):Bool:=match a[j]? with
 | none=>false
 | some o=>(rG a.size L).all fun k=>k==j||(match a[k]? with | none=>false | some b=>aMM j b||OI E a o b)
def KU (E:AE) (a:Array Oper) (L:Array Bool):List Nat->Option Nat
 | []=>none
 | j::l=>match aBO E a L j with | true=>some j | false=>KU E a L l
def Na (E:AE) (a:Array Oper) (d:ASt->Prop):Nat->Array Bool->ASt->Prop
 | 0,L,c=>Region.ready .any a L = []/\d c
 | fuel+1,L,c=>(Region.ready .any a L = []->d c)/\∀ i,i∈(match KU E a L (Region.ready .any a L) with | some j => [j] | none=>Region.ready .any a L)->∃ o,a[i]? = some o/\∃ b,ny E a o c b/\Na E a d fuel (L.setIfInBounds i true) b
section
variable {E:AE} {ops:Array Oper} {Kp:ASt->Prop}
def aJW {d:ASt->Prop} (b:∀ a,Kp a->d a):∀ (fuel:Nat) {L:Array Bool} {a:ASt},Na E ops Kp fuel L a->Na E ops d fuel L a
 | 0,L,a,h=>⟨h.1,b a h.2⟩
 | fuel+1,L,a,h=>⟨fun e=>b a (h.1 e),fun i f=>by obtain ⟨o,g,c,j,l⟩:=h.2 i f;exact ⟨o,g,c,j,aJW b fuel l⟩⟩
def aAO {c:Nat->Nat} {Q:Exit->Act->World->Prop}:∀ (fuel:Nat) (L:Array Bool) {M:Mem} {B:aT} {b:ASt} {a:Act} {w:World},Inv E.n M B c b a.tmps w->VK E ops Kp fuel L b ->
 (∀ d r t j l,Kp d->Good E.n c M B b a.tmps w r t d j.tmps l->j.defers=a.defers->Q .normal j l)->wpAny E.P .any ops Q fuel L a w
 | 0,L,M,B,b,a,w,f,h,g=>⟨h.1,g b M B a w h.2 (Good.refl f) rfl⟩
 | fuel+1,L,M,B,b,a,w,f,h,g=>by
  refine ⟨fun e=>g b M B a w (h.1 e) (Good.refl f) rfl,fun i x => ?_⟩;obtain ⟨o,y,z,A,C⟩:=h.2 i x;refine b3E f y A fun v r t l u => ?_
  exact aAO fuel _ u.inv C fun m D F a3 w3 p q G=>g m D F a3 w3 p (u.trans q) (by rw[G,Act.JF])
def aOD {L:Array Bool} {j:Nat}:∀ {l:List Nat},KU E ops L l=some j->j∈l/\aBO E ops L j=true
 | [],h=>by cases h
 | i::l,h=>by
  unfold KU at h;split at h
  .rename_i a; cases h; exact ⟨by simp,a⟩
  .have:=aOD h; exact ⟨by simp[this.1],this.2⟩
variable {b1:Nat}
theorem c63 {L:Array Bool}:(L.setIfInBounds j true).setIfInBounds b1 true=(L.setIfInBounds b1 true).setIfInBounds j true:=by grind
theorem aHI {L:Array Bool} (b:j∈Region.ready .any ops L) (a:j≠b1):j∈Region.ready .any ops (L.setIfInBounds b1 true):=by obtain ⟨c,o,d,f⟩:=VH.1 b;refine VH.2 ⟨?_,o,d,fun e he g=>getD_set_true (f e he g)⟩;rw[getD_set_ne true (Ne.symm a)]; exact c
theorem cA1 {L:Array Bool} {k:Nat} (h:k∈rG j (L.setIfInBounds b1 true)):k∈rG j L:=by obtain ⟨a,c⟩:=U9.1 h;refine U9.2 ⟨a,?_⟩;by_cases b:b1=k;simp_all;simp_all
theorem bB8 {o:Oper} (D:ops[j]? = some o):∀ (a:Nat) {L:Array Bool} {g b:ASt},kD g.s->j∈Region.ready .any ops L->(∀ k,k∈rG ops.size L->k≠j->∀ n,ops[k]? = some n->aMM j n=true\/OI E ops o n=true) ->
 ny E ops o g b->VK E ops Kp a (L.setIfInBounds j true) b->VK E ops Kp (a+1) L g:=by
 intro a;induction a with
 | zero =>
  intro L g b x f v y p;refine ⟨fun e=>(by rw[e] at f; cases f),fun i m => ?_⟩;by_cases c:i=j;grind
  .have h:=aHI m c;rw[p.1] at h; cases h
 | succ a F =>
  intro L g b x f v y p;refine ⟨fun e=>(by rw[e] at f; cases f),fun i m => ?_⟩;by_cases c:i=j;grind
  .obtain ⟨z,d,w,G,H⟩:=p.2 i (aHI m c);obtain ⟨q,A,l,r⟩:=VH.1 m;rw[d] at l; cases l;have t:=(v i (U9.2 ⟨(DW.1 d).1,q⟩) c z d).resolve_left fun B=>by obtain ⟨e,he,u⟩:=List.any_eq_true.1 B;simp only[bQ,qi] at u;have C:=r e (by grind) u.1;rw[u.2] at C;have h6:=(VH.1 f).1;grind
   grind [aMN,ny.jo,aHI,cA1,c63]
def a0P:∀ (fuel:Nat) {L:Array Bool} {a:ASt},kD a.s->Na E ops Kp fuel L a->VK E ops Kp fuel L a
 | 0,L,a,_,h=>h
 | fuel+1,L,a,e,h=>by
  unfold Na at h;cases f:KU E ops L (Region.ready .any ops L) with
  | some j =>rw[f] at h;obtain ⟨p,c⟩:=aOD f;obtain ⟨o,d,q,b,g⟩:=h.2 j (by simp);unfold aBO at c;rw[d] at c;simp only[jq,Jg,qi] at c;refine bB8 d fuel e p (fun k hk l t m => ?_) b (a0P fuel (b.jo e) g);have:=(c k hk).resolve_left l;rw[m] at this;exact (Jg _ _).mp this
  | none =>rw[f] at h;refine ⟨h.1,fun i r => ?_⟩;obtain ⟨o,d,n,b,g⟩:=h.2 i r;exact ⟨o,d,n,b,a0P fuel (b.jo e) g⟩
theorem b6D {o:Oper} {d:ASt} (h:vC E ops [o] Kp d):∃ a,ny E ops o d a/\Kp a:=by
 have run:uV ops d o=some true->EF E o Kp d->∃ a,ny E ops o d a/\Kp a:=fun c h=>by obtain ⟨e,i,l⟩:=aLM h;exact ⟨e,.inl ⟨c,i⟩,l⟩
 have skip:uV ops d o=some false->jd E o.dst (.tuple []) d Kp->∃ a,ny E ops o d a/\Kp a:=fun c h=>by obtain ⟨e,i,l⟩:=ZP h;exact ⟨e,.inr ⟨c,i⟩,l⟩
 rw[vC] at h;split at h
 .rename_i c; exact run (by simp[uV,c]) h
 .rename_i j f c;split at h
  .rename_i hv; exact skip (by simp[uV,c,hv]) h
  .rename_i b hv;by_cases g:b=f
   .exact run (by simp[uV,c,hv,g]) (h.1 g)
   .exact skip (by simp[uV,c,hv,g]) (h.2 g)
  simp_all
end
def aLL (E:AE) (a:Array Oper) (K:ASt->Prop) (b:ASt):Prop:=a0X E a K b\/Na E a K a.size (Array.replicate a.size false) b
theorem b69 (m:A.P.follows .mixedOrders=true) {b:Nat->Nat} {M:Mem} {B:aT} {a:Act} {w:World} {id:Nat} {Q:Exit->Act->World->Prop} (o:Inv A.n M B b J a.tmps w) (h:aLL A c' Z J)
 (p:∀ c f g d e,Z c->Good A.n b M B J a.tmps w f g c d.tmps e->d.defers=a.defers->Q .normal d e):(Code.region id c' true).wp A.P Q a w:=by
 rcases h with h | h
 grind [b6B]
 .have i:=o.drew;exact wp_region_any m (aAO c'.size _ i.1 (a0P _ i.1.jo h) fun j f g d e hk q l=>p j f g d e hk (i.2.trans q) l)
inductive AX where
 | normal
 | ret
 | exit (id:Nat)
def AX.toExit:AX->Exit
 | .normal => .normal
 | .ret => .ret
 | .exit i => .exit i
def ASt.keep (l:List Nat) (a:ASt):ASt := { a with s:=a.s.filter fun b=>l.contains b.1 }
def xP (a:List (Nat×List Nat)):gp->gp
 | [] => []
 | (k,p)::l=>(match a.lookup k with | some z=>(k,p.BQ z) | none=>(k,p))::xP a l
def aFL (a:List Nat) (p:PV) (h:aH):aH:=match p with
 | .ptr i 0=>(match h[i]? with | some (some b)=>h.set i (some (AB a b)) | _=>h)
 | _=>h
def aFI (s:gp):List (Nat×List Nat)->aH->aH
 | [],h=>h
 | (k,a)::l,h=>aFI s l (match dF k s with | some p=>aFL a p h | none=>h)
def ASt.head (E:AE) (a:ASt):ASt:=⟨xP E.sz (a.keep E.vars).s,aFI (xP E.sz (a.keep E.vars).s) E.pt a.h⟩
def ASt.gc (l:List Nat) (m:Nat) (a:ASt):ASt:=⟨a.s.filter fun b=>l.contains b.1,a.h.take m⟩
def GK (l:List Nat) (m:Nat) (a:ASt):Bool:=(a.gc l m).s.all (fun b=>b.2.blw m)&&Bj m (a.gc l m).h
def Ff (K:ASt->Prop) (Q:AX->ASt->Prop):AX->ASt->Prop
 | .normal,a=>K a
 | e,a=>Q e a
def qM (a:Nat) (b:ai) (n:Nat):ai:=match a with
 | 1=>(b.take n).map PV.un
 | _=>(List.range n).map fun j => .agg (((b.drop (j*a)).take a).map PV.un)
def a2I (k:Nat) (a:ASt):ASt:=match dF k a.s with
 | some (.slh i 0 n b)=>(match a.h[i]? with
  | some (some c)=>(match decide (n*b<=c.length)&&decide (0<b)&&c.all fun p=>p.one&&p.flat with
   | true=>⟨kG k (.sl false b (qM b c n)) a.s,a.h.set i none⟩
   | false=>a)
  | _=>a)
 | _=>a
def aBP (k:Nat) (a:ASt):ASt:=match dF k a.s with
 | some (.slh i 0 n 1)=>(match a.h[i]? with
  | some (some b)=>(match Nat.beq b.length n&&b.all fun p=>p.one&&p.flat with
   | true=>⟨kG k (.sl true 1 (b.map PV.un)) a.s,a.h.set i none⟩
   | false=>a)
  | _=>a)
 | _=>a
def a2H (k:Nat) (a:ASt):ASt:=match dF k a.s with
 | some (.ptr i 0)=>(match a.h[i]? with
  | some (some b)=>(match decide (0<b.length)&&b.all fun p=>p.one&&p.flat with
   | true=>⟨kG k (.cst ((qM b.length b 1).headD .nilp)) a.s,a.h.set i none⟩
   | false=>a)
  | _=>a)
 | _=>a
def KW (k:Nat) (a:ASt):ASt:=match Nat.ble 9000000 k with
 | true=>a2H (k-9000000) a
 | false=>match Nat.ble 1000000 k with
  | true=>a2I (k-1000000) a
  | false=>aBP k a
def KX:List Nat->ASt->ASt
 | [],a=>a
 | k::b,a=>KX b (KW k a)
def jA (c:Nat) (K:ASt->Prop) (a:ASt):Prop:=∃ b,K (KX b a)\/∃ l m,c<=m/\GK l m (KX b a)=true/\K ((KX b a).gc l m)
def RV (id:Nat) (Q:AX->ASt->Prop):AX->ASt->Prop
 | .exit i,a=>if i=id then Q .normal a else Q (.exit i) a
 | e,a=>Q e a
def Pv (b:Nat) (a:(AX->ASt->Prop)->ASt->Prop) (Q:AX->ASt->Prop):Nat->ASt->Prop
 | 0,_=>False
 | n+1,c=>∃ l m,b<=m/\GK l m c=true/\a (Ff (Pv b a Q n) Q) (c.gc l m)
def aY7 (b:Nat) (a:(AX->ASt->Prop)->ASt->Prop) (Q:AX->ASt->Prop) (c:ASt):Prop:=∃ n,Pv b a Q n c
def fH (E:AE) (d:Nat):Code->(AX->ASt->Prop)->ASt->Prop
 | .skip,Q,a=>Q .normal a
 | .region _ e f,Q,a=>if f then aLL E e (Q .normal) (a.head E) else nT E e e.toList (Q .normal) (a.head E)
 | .seq x y,Q,a=>fH E d x (Ff (jA d (fH E d y Q)) Q) a
 | .cond c x y,Q,a=>match a.rd c with
  | some (.bool b)=>(b=true->fH E d x Q a)/\(b=false->fH E d y Q a)
  | _=>False
 | .block id x,Q,a=>fH E d x (RV id Q) a
 | .loop x,Q,a=>aY7 d (fH E d x) Q a
 | .exit id,Q,a=>Q (.exit id) a
 | .ret,Q,a=>Q .ret a
 | .scope x,Q,a=>fH E d x Q a
 | .label _,Q,a=>Q .normal a
 | .rangeFunc _ _ _ _,_,_=>False
 | .goto _,_,_=>False
 | .refuse _,_,_=>False
structure fM (n:Nat) (out:Nat->Nat) (m0:Nat) (M:Mem) (B:aT) (σ:ASt) (t:Array Value) (w:World) (M':Mem) (B':aT) (σ':ASt) (t':Array Value) (w':World):Prop where
 inv:Inv n M' B' out σ' t' w'
 mem:∀ (b o:Nat) (v:Value),M b o=some v->M' b o=some v
 pre:∀ (i:Nat) (c:Nat×Nat×TypeId),i<m0->B[i]? = some c->B'[i]? = some c
 fr:Fr (fp B σ t w) M w M' w'
 own:∀ b,b<w.heap.size->fp B' σ' t' w' b<=fp B σ t w b
section
variable {n:Nat} {out:Nat->Nat} {m0:Nat} {M M1 M2:Mem} {B B1 B2:aT} {σ σ1 σ2:ASt} {t t1 t2:Array Value} {w w1 w2:World} {E:AE}
def fM.trans (h:fM n out m0 M B σ t w M1 B1 σ1 t1 w1) (k:fM n out m0 M1 B1 σ1 t1 w1 M2 B2 σ2 t2 w2):fM n out m0 M B σ t w M2 B2 σ2 t2 w2 :=⟨k.inv,fun b o v e=>k.mem b o v (h.mem b o v e),fun i c d e=>k.pre i c d (h.pre i c d e),h.fr.trans k.fr (fun b a f=>by have:=h.own b a; omega),fun b a=>jO (k.own b (VF a h.fr.size)) (h.own b a)⟩
def Good.c (h:Good n out M B σ t w M1 B1 σ1 t1 w1):fM n out m0 M B σ t w M1 B1 σ1 t1 w1:=⟨h.inv,h.le.mem,fun i c _ e=>h.le.blk i c e,h.fr,h.own⟩
def fM.refl (h:Inv n M B out σ t w):fM n out m0 M B σ t w M B σ t w:=(Good.refl h).c
theorem aFM (f:Nat×PV->Bool) (b:Nat):∀ s:gp,jZ (s.filter f) t b<=jZ s t b
 | []=>dO _
 | (k,p)::l=>by have:=aFM f b l;rw[List.filter_cons];grind [jZ]
theorem a8Y (f:Nat->Bool) {k:Nat} {p:PV}:∀ {s:gp},dF k (s.filter fun a=>f a.1)=some p->dF k s=some p
 | [],h=>by simp_all
 | (j,q)::l,h=>by
  rw[List.filter_cons] at h;split at h
  .rw[dF] at h ⊢;split at h
   simp_all
   .rename_i e; rw[aX e]; exact a8Y f h
  .rename_i c;have:=a8Y f h;rw[dF];split
   .rename_i e; subst e;have b:=a8Z h;rw[List.mem_filter] at b;simp_all
   omega
def aFK (m b:Nat):∀ (h:aH) (B:aT),aW w (h.take m) (B.take m) b<=aW w h B b:=by
 induction m with
 | zero=>intro h B; simp[aW]
 | succ m a =>
  intro h B;cases h with
  | nil=>simp[aW]
  | cons x h =>
   cases B with
   | nil=>cases x<;>simp[aW]
   | cons c B =>have:=a h B;cases x<;>simp only[List.take_succ_cons,aW]<;>omega
theorem bYH (a:Inv n M B out σ t w) (l:List Nat):Good n out M B σ t w M B (σ.keep l) t w:=by
 have c:∀ b,fp B (σ.keep l) t w b<=fp B σ t w b:=fun b=>by have:=aFM (t:=t) (fun d=>l.contains d.1) b σ.s;grind [fp,ASt.keep]
 exact ⟨⟨a.size,a.mem,List.Pairwise.sublist List.filter_sublist a.jo,fun k p e=>a.slots k p (a8Y (fun k=>l.contains k) e),a.heap,fun b=>by have:=c b; have:=a.cnt b; omega,fun b f=>by have:=c b; have:=a.new b f; omega⟩,gQ.refl _ _,Fr.refl _ _ _,fun b _=>c b⟩
theorem aFN {k:Nat} {p:PV} {b:Nat} (hk:k<t.size) (c:kD σ.s):jZ (kG k p σ.s) t b+uD σ.s t k b=jZ σ.s t b+cu p (t.getD k undef) b:=by
 have a:t.setIfInBounds k (t.getD k undef)=t:=by apply Array.ext (by simp);intro i d e;by_cases h:k=i;simp_all;simp_all
 have:=Yk (p:=p) (v:=t.getD k undef) (b:=b) hk c;rwa [a] at this
theorem Lp {b:Nat}:∀ {h:aH} {B:aT} {i:Nat} {cs:ai} {c:Nat×Nat×TypeId},h[i]? = some (some cs)->B[i]? = some c->aW w (h.set i none) B b+((if c.1=b then 1 else 0)+iP cs (jk w c.1) b)=aW w h B b
 | [],_,_,_,_,h,_=>by simp at h
 | _::_,[],_,_,_,_,h=>by simp at h
 | some f::h,d::B,0,cs,c,a,e=>by grind [aW]
 | none::h,d::B,0,cs,c,a,e=>by simp at a
 | some f::h,d::B,i+1,cs,c,a,e=>by have:=Lp (b:=b) (h:=h) (B:=B) (i:=i) (cs:=cs) (c:=c) (by grind) (by grind); grind [aW]
 | none::h,d::B,i+1,cs,c,a,e=>by have:=Lp (b:=b) (h:=h) (B:=B) (i:=i) (cs:=cs) (c:=c) (by grind) (by grind); grind [aW]
theorem bB9 (a:Inv n M B out σ t w) (k:Nat):∃ g,fM n out m0 M B σ t w g B (aBP k σ) t w:=by
 unfold aBP;split;case h_2=>exact ⟨M,fM.refl a⟩
 rename_i i m hk;split;case h_2=>exact ⟨M,fM.refl a⟩
 rename_i C N;split;case h_2=>exact ⟨M,fM.refl a⟩
 rename_i F;simp only[bQ,jq] at F;obtain ⟨S,G⟩:=F;have hm:C.length=m:=Bc S;obtain ⟨H,I,_⟩:=a.slots k _ hk;obtain ⟨c,T,⟨O,U⟩,hv,b5,b2⟩:=BP.1 I;obtain ⟨vs,ty,r1,o2,o3,o4,o5⟩:=a.heap.at N O;obtain ⟨ty,rfl,o1⟩:=MK r1 (by rw[o2.2]; exact U);have V:k<t.size:=by rw[a.size]; exact H
 have b3:1<=aW w σ.h B c.1:=by have:=nY (w:=w) c.1 N O;grind
 obtain ⟨g,r⟩:∃ g:Mem,∀ b o,g b o=if b=c.1 then (if o<m then vs[o]? else none) else M b o:=⟨Ce _ _,Iy (a6E o5)⟩
 have d:gQ M g B B:=⟨fun b o v h=>by
  have:b≠c.1:=fun e=>by simp_all
  rw[r]; simp_all,fun _ _ h=>h⟩
 have u:∀ b,b≠c.1->∀ o,g b o=M b o:=fun b h o=>by rw[r]; simp_all
 have D:∀ o,w.cell? ⟨c.1,o,none⟩=vs[o]? := fun o=>by simp[World.cell?,o1]
 have hS:=fun b=>aFN (t:=t) (p := .sl true 1 (C.map PV.un)) (b:=b) V a.jo
 have hH:=fun b=>Lp (w:=w) (b:=b) N O
 have X:∀ b,cu (.sl true 1 (C.map PV.un)) (t.getD k undef) b=if c.1=b then 1 else 0:=fun b=>by rw[hv]; rfl
 have E:∀ b,fp B ⟨kG k (.sl true 1 (C.map PV.un)) σ.s,σ.h.set i none⟩ t w b<=fp B σ t w b:=fun b=>by have Y:=hS b;have h2:=hH b;rw[X] at Y;simp only[fp]; omega
 have Z:∀ b,1<=jZ σ.s t b->b≠c.1:=fun b h e=>by subst e;have:=a.cnt c.1;grind [fp]
 have TT:∀ (j:Nat) e,(C.map PV.un)[j]? = some e->Loc g [] e c.1 (0+j*1):=fun j e he=>by
  rw[nP] at he;cases x:C[j]? with
  | none=>rw[x] at he; cases he
  | some q =>
   rw[x] at he;cases he;obtain ⟨v,b6,hr,_,_⟩:=o4 j q x;have f:j<m:=by rw[<- hm]; grind
   have hq:=G q (tC x);have Y:g c.1 (0+j*1)=some v:=by rw[r]; simp_all
   have z:q.isAgg=false/\∀ ds,q ≠ .tuple ds:=by have:=hq.1;cases q<;>first | (simp[PV.one] at this; done) | exact ⟨rfl,fun ds h=>by cases h⟩
   rw[aEU,BF z.1 z.2];exact ⟨v,Y,dC.flat [] hq.2 (hr.mono d)⟩
 refine ⟨g,⟨⟨a.size,fun b o v h => ?_,JO a.jo,fun j p f => ?_,⟨by simp[a.heap.1],fun i' J y => ?_⟩,fun b=>by have:=E b; have:=a.cnt b; omega,fun b F=>by have:=E b; have:=a.new b F; omega⟩,d.mem,fun _ _ _ h=>h,⟨rfl,rfl,rfl,dO _,fun b F h0=>⟨rfl,fun o=>u b (fun e=>by grind [fp]) o⟩⟩,fun b _=>E b⟩⟩
 .by_cases e:b=c.1
  .subst e;rw[r] at h;simp only[FC] at h;split at h
   .rename_i ho;rw[D];refine ⟨h,?_⟩;obtain ⟨q,hq⟩:∃ q,C[o]? = some q:=⟨_,kV (by omega)⟩;grind
   .cases h
  .rw[u b e] at h; exact a.mem b o v h
 .rw[JM j a.jo] at f;split at f
  .rename_i e; subst e; injection f with f; subst f
   refine ⟨H,?_,?_⟩
   .rw[hv];refine lM.2 ⟨some ⟨c.1,0,none⟩,T,by simp[hm],by simp_all,fun e he => ?_,(fun h=>by cases h),fun _=>⟨c.1,0,rfl,Cb TT⟩⟩;obtain ⟨q,hq,rfl⟩:=uu.1 he;have:=(G q hq).1;rw[aJ8];cases q<;>first | (simp[PV.one] at this; done) | rfl
   .refine Ul (fun l h=>by cases h) ?_;intro sz es A n' b4 e1 e2;rw[hv] at e2;grind
  .rename_i b7;obtain ⟨s1,s2,s3⟩:=a.slots j p f;refine ⟨s1,s2.mono d,s3.kept fun b ho=>⟨rfl,u b (Z b ?_)⟩⟩;have:=J9 (s:=σ.s) (t:=t) (k:=j) (b:=b);grind [uD]
 .have K:i'≠i:=fun e=>by grind
  simp only at y;rw[Ad (Ne.symm K)] at y;obtain ⟨Q,L,a',b0,q1,q2,q3,q4,q5⟩:=a.heap.2 i' J y;have b1:∀ b,1<=(if Q.1=b then 1 else 0)+iP J (jk w Q.1) b->b≠c.1:=fun b h e=>by subst e;have h2:=Lp (w:=w) (b:=c.1) N O;have h3:=nY (w:=w) (h:=σ.h.set i none) c.1 (by rw[Ad (Ne.symm K)]; exact y) L;have:=a.cnt c.1;grind [fp]
  refine ⟨Q,L,a',b0,q1,q2,q3,fun j p f => ?_,fun o => ?_⟩
  .obtain ⟨v,a1,a2,a3,a4⟩:=q4 j p f;refine ⟨v,a1,a2.mono d,a3.kept fun b ho=>⟨rfl,u b (b1 b ?_)⟩,a4⟩;have:=BN b f (by rw[ww q1]; grind:(jk w Q.1)[j]? = some v);omega
  simp_all
theorem aB3 {a n:Nat} (y:0<a) (z:n*a<=f.length) (o:∀ p,p∈f->p.one=true):(qM a f n).length=n/\(∀ e,e∈qM a f n->e.size=a) /\
 ∀ (M:Mem) (b:Nat),(∀ (j:Nat) p,f[j]? = some p->j<n*a->Loc M [] p b j)->nz M [] a (qM a f n) b 0:=by
 by_cases h:a=1
 .subst h;have e:qM 1 f n=(f.take n).map PV.un:=rfl;rw[e];refine ⟨by simp; omega,fun e he => ?_,fun M b t=>Cb fun j p c => ?_⟩
  .obtain ⟨q,hq,rfl⟩:=uu.1 he;have:=o q (ED hq);rw[aJ8];cases q<;>first | (simp[PV.one] at this; done) | rfl
  grind [aEU]
 .have e:qM a f n=(List.range n).map fun j => .agg (((f.drop (j*a)).take a).map PV.un):=by grind [qM]
  rw[e];have v:∀ j,j<n->j*a+a<=f.length:=fun j c=>by have:(j+1)*a<=n*a:=NV _ c;rw[C_] at this; omega
  refine ⟨by simp,fun e he => ?_,fun M b t=>Cb fun j p c => ?_⟩;grind [PV.size]
  .rw[nP] at c;cases hq:(List.range n)[j]? with
   | none=>simp_all
   | some q =>
    obtain ⟨d,g⟩:=jr.1 hq;simp at d g;subst g;rw[hq] at c; injection c with c; subst c
    refine CZ.2 (OH fun k r i => ?_);rw[nP] at i;cases l:((f.drop (j*a)).take a)[k]? with
    | none=>simp_all
    | some w =>simp[l] at i; subst i;have hk:=(jr.1 l).1;simp at hk;rw[qh,ay (by omega),Oq] at l;have m:=o w (tC l);have:=t (j*a+k) w l (by have:(j+1)*a<=n*a:=NV _ d;rw[C_] at this; omega);obtain ⟨u,x,i⟩:=(LU m).1 this;exact ⟨u,by rw[xh]; exact x,uh.2 i⟩
theorem bBC (a:Inv n M B out σ t w) (k:Nat):∃ u,fM n out m0 M B σ t w u B (a2I k σ) t w:=by
 unfold a2I;split;case h_2=>exact ⟨M,fM.refl a⟩
 rename_i i m z hk;split;case h_2=>exact ⟨M,fM.refl a⟩
 rename_i N J;split;case h_2=>exact ⟨M,fM.refl a⟩
 rename_i A;simp only[bQ,jq,tJ] at A;obtain ⟨⟨O,Q⟩,C⟩:=A;obtain ⟨D,E,_⟩:=a.slots k _ hk;obtain ⟨c,S,⟨K,T⟩,hv,U,b0⟩:=BP.1 E;obtain ⟨vs,ty,r1,o2,o3,o4,o5⟩:=a.heap.at J K;obtain ⟨ty,rfl,o1⟩:=MK r1 (by rw[o2.2]; exact T);have V:k<t.size:=by rw[a.size]; exact D
 have b1:1<=aW w σ.h B c.1:=by have:=nY (w:=w) c.1 J K;grind
 obtain ⟨u,f⟩:∃ u:Mem,∀ b o,u b o=if b=c.1 then (if o<m*z then vs[o]? else none) else M b o:=⟨Ce _ _,Iy (a6E o5)⟩
 have d:gQ M u B B:=⟨fun b o v h=>by
  have:b≠c.1:=fun e=>by simp_all
  rw[f]; simp_all,fun _ _ h=>h⟩
 have g:∀ b,b≠c.1->∀ o,u b o=M b o:=fun b h o=>by rw[f]; simp_all
 have x:∀ o,w.cell? ⟨c.1,o,none⟩=vs[o]? := fun o=>by simp[World.cell?,o1]
 obtain ⟨k1,k2,k3⟩:=aB3 Q O fun p hp=>(C p hp).1
 have hH:=fun b=>Lp (w:=w) (b:=b) J K
 have hS:=fun b=>aFN (t:=t) (p := .sl false z (qM z N m)) (b:=b) V a.jo
 have y:∀ b,fp B ⟨kG k (.sl false z (qM z N m)) σ.s,σ.h.set i none⟩ t w b<=fp B σ t w b:=fun b=>by have h1:=hS b;have h2:=hH b;rw[gY rfl] at h1;simp only[fp]; omega
 have X:∀ b,1<=jZ σ.s t b->b≠c.1:=fun b h e=>by subst e;have:=a.cnt c.1;grind [fp]
 refine ⟨u,⟨⟨a.size,fun b o v h => ?_,JO a.jo,fun j p l => ?_,⟨by simp[a.heap.1],fun i' F r => ?_⟩,fun b=>by have:=y b; have:=a.cnt b; omega,fun b A=>by have:=y b; have:=a.new b A; omega⟩,d.mem,fun _ _ _ h=>h,⟨rfl,rfl,rfl,dO _,fun b A h0=>⟨rfl,g b (fun e=>by grind [fp])⟩⟩,fun b _=>y b⟩⟩
 .by_cases e:b=c.1
  .subst e;rw[f] at h;simp only[FC] at h;split at h
   .rename_i ho;rw[x];refine ⟨h,?_⟩;obtain ⟨q,hq⟩:∃ q,N[o]? = some q:=⟨_,kV (by omega)⟩;grind
   .cases h
  .rw[g b e] at h; exact a.mem b o v h
 .rw[JM j a.jo] at l;split at l
  .rename_i e; subst e; injection l with l; subst l
   refine ⟨D,?_,ig rfl⟩;rw[hv];refine lM.2 ⟨some ⟨c.1,0,none⟩,S,by rw[k1],by rw[k1]; exact U,k2,(fun h=>by omega),fun _=>⟨c.1,0,rfl,k3 u c.1 fun j q hq b2 => ?_⟩⟩;obtain ⟨v,b3,hr,_,_⟩:=o4 j q hq;have G:=C q (tC hq);refine (LU G.1).2 ⟨v,?_,dC.flat [] G.2 (hr.mono d)⟩;rw[f]; simp_all
  .rename_i b4;obtain ⟨s1,s2,s3⟩:=a.slots j p l;refine ⟨s1,s2.mono d,s3.kept fun b ho=>⟨rfl,g b (X b ?_)⟩⟩;have:=J9 (s:=σ.s) (t:=t) (k:=j) (b:=b);grind [uD]
 .have H:i'≠i:=fun e=>by grind
  simp only at r;rw[Ad (Ne.symm H)] at r;obtain ⟨L,I,Y,Z,q1,q2,q3,q4,q5⟩:=a.heap.2 i' F r;have a':∀ b,1<=(if L.1=b then 1 else 0)+iP F (jk w L.1) b->b≠c.1:=fun b h e=>by subst e;have h2:=Lp (w:=w) (b:=c.1) J K;have h3:=nY (w:=w) (h:=σ.h.set i none) c.1 (by rw[Ad (Ne.symm H)]; exact r) I;have:=a.cnt c.1;grind [fp]
  refine ⟨L,I,Y,Z,q1,q2,q3,fun j p l => ?_,fun o => ?_⟩
  .obtain ⟨v,a1,a2,a3,a4⟩:=q4 j p l;refine ⟨v,a1,a2.mono d,a3.kept fun b ho=>⟨rfl,g b (a' b ?_)⟩,a4⟩;have:=BN b l (by rw[ww q1]; grind:(jk w L.1)[j]? = some v);omega
  simp_all
theorem bBA (a:Inv n M B out σ t w) (k:Nat):∃ f,fM n out m0 M B σ t w f B (a2H k σ) t w:=by
 unfold a2H;split;case h_2=>exact ⟨M,fM.refl a⟩
 rename_i i hk;split;case h_2=>exact ⟨M,fM.refl a⟩
 rename_i z K;split;case h_2=>exact ⟨M,fM.refl a⟩
 rename_i A;simp only[bQ,jq,tJ] at A;obtain ⟨C,D⟩:=A;generalize b0:z.length=L at C ⊢;have Q:1*L<=z.length:=by omega
 obtain ⟨E,F,_⟩:=a.slots k _ hk;obtain ⟨c,⟨N,S⟩,hv⟩:=yH.1 F;obtain ⟨Z,ty,r1,o2,o3,o4,o5⟩:=a.heap.at K N;obtain ⟨ty,rfl,o1⟩:=MK r1 (by rw[o2.2]; exact S);have T:k<t.size:=by rw[a.size]; exact E
 have a':1<=aW w σ.h B c.1:=by have:=nY (w:=w) c.1 K N;grind
 obtain ⟨f,g⟩:∃ f:Mem,∀ b o,f b o=if b=c.1 then (if o<1*L then Z[o]? else none) else M b o:=⟨Ce _ _,Iy (a6E o5)⟩
 have d:gQ M f B B:=⟨fun b o v h=>by
  have:b≠c.1:=fun e=>by simp_all
  rw[g]; simp_all,fun _ _ h=>h⟩
 have l:∀ b,b≠c.1->∀ o,f b o=M b o:=fun b h o=>by rw[g]; simp_all
 have u:∀ o,w.cell? ⟨c.1,o,none⟩=Z[o]? := fun o=>by simp[World.cell?,o1]
 obtain ⟨k1,k2,k3⟩:=aB3 C Q fun p hp=>(D p hp).1
 obtain ⟨x,hx⟩:∃ x,qM L z 1 = [x]:=by
  match hh:qM L z 1,k1 with
  | [x],_=>simp
 rw[hx] at k3 ⊢;show ∃ f,fM n out m0 M B σ t w f B ⟨kG k (.cst x) σ.s,σ.h.set i none⟩ t w;have hH:=fun b=>Lp (w:=w) (b:=b) K N
 have hS:=fun b=>aFN (t:=t) (p := .cst x) (b:=b) T a.jo
 have y:∀ b,fp B ⟨kG k (.cst x) σ.s,σ.h.set i none⟩ t w b<=fp B σ t w b:=fun b=>by have h1:=hS b;have h2:=hH b;rw[gY rfl] at h1;simp only[fp]; omega
 have U:∀ b,1<=jZ σ.s t b->b≠c.1:=fun b h e=>by subst e;have:=a.cnt c.1;grind [fp]
 refine ⟨f,⟨⟨a.size,fun b o v h => ?_,JO a.jo,fun j p m => ?_,⟨by simp[a.heap.1],fun i' G r => ?_⟩,fun b=>by have:=y b; have:=a.cnt b; omega,fun b A=>by have:=y b; have:=a.new b A; omega⟩,d.mem,fun _ _ _ h=>h,⟨rfl,rfl,rfl,dO _,fun b A h0=>⟨rfl,l b (fun e=>by grind [fp])⟩⟩,fun b _=>y b⟩⟩
 .by_cases e:b=c.1
  .subst e;rw[g] at h;simp only[FC] at h;split at h
   .rename_i ho;rw[u];refine ⟨h,?_⟩;obtain ⟨q,hq⟩:∃ q,z[o]? = some q:=⟨_,kV (by omega)⟩;grind
   .cases h
  .rw[l b e] at h; exact a.mem b o v h
 .rw[JM j a.jo] at m;split at m
  .rename_i e; subst e; injection m with m; subst m
   refine ⟨E,?_,ig rfl⟩;rw[hv];refine D9.2 ⟨c.1,0,rfl,(YT.1 (k3 f c.1 fun j q hq b1 => ?_)).1⟩;obtain ⟨v,b2,hr,_,_⟩:=o4 j q hq;have H:=D q (tC hq);refine (LU H.1).2 ⟨v,?_,dC.flat [] H.2 (hr.mono d)⟩;rw[g]; simp_all
  .rename_i b3;obtain ⟨s1,s2,s3⟩:=a.slots j p m;refine ⟨s1,s2.mono d,s3.kept fun b ho=>⟨rfl,l b (U b ?_)⟩⟩;have:=J9 (s:=σ.s) (t:=t) (k:=j) (b:=b);grind [uD]
 .have I:i'≠i:=fun e=>by grind
  simp only at r;rw[Ad (Ne.symm I)] at r;obtain ⟨O,J,V,X,q1,q2,q3,q4,q5⟩:=a.heap.2 i' G r;have Y:∀ b,1<=(if O.1=b then 1 else 0)+iP G (jk w O.1) b->b≠c.1:=fun b h e=>by subst e;have h2:=Lp (w:=w) (b:=c.1) K N;have h3:=nY (w:=w) (h:=σ.h.set i none) c.1 (by rw[Ad (Ne.symm I)]; exact r) J;have:=a.cnt c.1;grind [fp]
  refine ⟨O,J,V,X,q1,q2,q3,fun j p m => ?_,fun o => ?_⟩
  .obtain ⟨v,a1,a2,a3,a4⟩:=q4 j p m;refine ⟨v,a1,a2.mono d,a3.kept fun b ho=>⟨rfl,l b (Y b ?_)⟩,a4⟩;have:=BN b m (by rw[ww q1]; grind:(jk w O.1)[j]? = some v);omega
  simp_all
theorem bBB (b:Inv n M B out σ t w) (k:Nat):∃ a c,fM n out m0 M B σ t w a c (KW k σ) t w:=by
 unfold KW;split
 .obtain ⟨a,h⟩:=bBA (m0:=m0) b (k-9000000);grind
 split
 .obtain ⟨a,h⟩:=bBC (m0:=m0) b (k-1000000);grind
 .obtain ⟨a,h⟩:=bB9 (m0:=m0) b k;grind
def a2G:∀ (a:List Nat) {M:Mem} {B:aT} {σ:ASt},Inv n M B out σ t w->∃ d e,fM n out m0 M B σ t w d e (KX a σ) t w
 | [],M,B,_,b=>⟨M,B,fM.refl b⟩
 | k::a,M,B,σ,b=>by obtain ⟨M1,B1,c⟩:=bBB (m0:=m0) b k;obtain ⟨M2,B2,f⟩:=a2G a c.inv;exact ⟨M2,B2,c.trans f⟩
theorem IZ (a:Inv n M B out σ t w) {l:List Nat} {m:Nat} (L:m0<=m) (f:GK l m σ=true):fM n out m0 M B σ t w M (B.take m) (σ.gc l m) t w:=by
 unfold GK at f;simp only[bQ,jq] at f;obtain ⟨x,y⟩:=f;have d:∀ b,fp (B.take m) (σ.gc l m) t w b<=fp B σ t w b:=fun b=>by have N:=aFM (t:=t) (fun z=>l.contains z.1) b σ.s;have O:=aFK (w:=w) m b σ.h B;grind [fp,ASt.gc]
 refine ⟨⟨a.size,a.mem,List.Pairwise.sublist List.filter_sublist a.jo,fun k p r => ?_,⟨by simp[ASt.gc,a.heap.1],fun i A e => ?_⟩,fun b=>by have:=d b; have:=a.cnt b; omega,fun b C=>by have:=d b; have:=a.new b C; omega⟩,fun _ _ _ h=>h,fun i c e g=>by rw[qh,ay (by omega)]; exact g,Fr.refl _ _ _,fun b _=>d b⟩
 .obtain ⟨s1,D,E⟩:=a.slots k p (a8Y (fun k=>l.contains k) r);exact ⟨s1,D.blw (x _ (a8Z r)),E⟩
 .have o:=e;simp only[ASt.gc] at e;rw[qh] at e;split at e
  .rename_i q;obtain ⟨c,g,F,G,o1,H,I,J,K⟩:=a.heap.2 i A e;refine ⟨c,by rw[qh,ay q]; exact g,F,G,o1,H,I,fun j p u => ?_,K⟩;obtain ⟨v,a1,a2,a3,a4⟩:=J j p u;refine ⟨v,a1,a2.blw ?_,a3,a4⟩;have:=jq.1 y _ (tC o);exact a1F.1 this p (tC u)
  .cases e
theorem c4G (d:List (Nat×List Nat)) (h:kD b5):kD (xP d b5):=by
 induction b5 with
 | nil=>exact h
 | cons a l e =>
  obtain ⟨k,p⟩:=a;obtain ⟨g,f⟩:=Ep.1 h;have i:∀ (l:gp) (b:Nat×PV),b∈xP d l->∃ c,c∈l/\c.1=b.1:=by
   intro l;induction l with
   | nil=>grind [xP]
   | cons a l e =>grind [xP]
  rw[xP];refine Ep.2 ⟨fun b j => ?_,e f⟩;grind
def b0H {a:List (Nat×List Nat)} {k:Nat} {p:PV}:∀ {s:gp},dF k (xP a s)=some p->∃ q,dF k s=some q/\(p=q\/∃ z,p=q.BQ z)
 | [],h=>by simp[xP,dF] at h
 | (j,q)::l,h=>by
  rw[xP] at h;by_cases e:j=k
  .refine ⟨q,by rw[dF,ay e],?_⟩;split at h<;>(rw[dF,ay e] at h; injection h with h)
   .exact .inr ⟨_,h.symm⟩
   .exact .inl h.symm
  .have h':dF k (xP a l)=some p:=by split at h<;>(rw[dF,aX e] at h; exact h)
   obtain ⟨r,b,c⟩:=b0H h';exact ⟨r,by rw[dF,aX e]; exact b,c⟩
def a'C {a:List (Nat×List Nat)} {t:Array Value} {b:Nat}:∀ {s:gp},jZ (xP a s) t b=jZ s t b
 | []=>rfl
 | (j,q)::l=>by rw[xP];split<;>simp only[jZ,a'D,a'C]
theorem c4H (a:Inv n M B out σ t w) (d:List (Nat×List Nat)):Good n out M B σ t w M B { σ with s:=xP d σ.s } t w:=by
 have c:∀ b,fp B { σ with s:=xP d σ.s } t w b=fp B σ t w b:=fun b=>by simp only[fp,a'C]
 refine ⟨⟨a.size,a.mem,c4G _ a.jo,fun k p e => ?_,a.heap,fun b=>by have:=c b; have:=a.cnt b; omega,fun b f=>by have:=c b; have:=a.new b f; omega⟩,gQ.refl _ _,Fr.refl _ _ _,fun b _=>by rw[c b]; omega⟩;obtain ⟨q,g,h⟩:=b0H e;obtain ⟨i,j,l⟩:=a.slots k q g;grind [Yy,b2A]
theorem a'6:∀ {b:List Nat} {a:ai} {j:Nat} {p:PV},(AB b a)[j]? = some p->∃ q,a[j]? = some q/\(p=q\/∃ z,p=q.Ll z)
 | [],a,j,p,h=>by cases a<;>exact ⟨p,h,.inl rfl⟩
 | z::b,[],j,p,h=>by simp[AB] at h
 | z::b,c::a,0,p,h=>by grind [AB]
 | z::b,c::a,j+1,p,h=>by rw[AB,DV] at h; simpa using a'6 h
def a'7:∀ (b:List Nat) (a:ai),(AB b a).length=a.length
 | [],a=>by cases a<;>rfl
 | _::_,[]=>rfl
 | z::b,c::a=>by simp[AB,a'7 b a]
theorem a'9:∀ {e:List Nat} {a:ai} {d:List Value} {b:Nat},(∀ (j:Nat) p v,a[j]? = some p->d[j]? = some v->dC M B p v)->iP (AB e a) d b=iP a d b
 | [],a,d,b,_=>by cases a<;>rfl
 | _::_,[],d,b,_=>rfl
 | z::e,c::a,[],b,_=>by rfl
 | z::e,c::a,v::d,b,h=>by rw[AB,iP,iP,c02 (M:=M) (B:=B) z (h 0 c v rfl rfl),a'9 fun j p u f g=>h (j+1) p u (by grind) (by grind)]
theorem b_I (e:Inv n M B out σ t w) {i:Nat} (A:σ.h[i]? = some (some f)) (r:List Nat):Good n out M B σ t w M B { σ with h:=σ.h.set i (some (AB r f)) } t w:=by
 obtain ⟨c,E,C,F,o1,G,H,N,I⟩:=e.heap.2 i f A;have m:∀ (j:Nat) p v,f[j]? = some p->C.toList[j]? = some v->dC M B p v:=fun j p v J hv=>by grind
 have o:∀ b,aW w (σ.h.set i (some (AB r f))) B b=aW w σ.h B b:=fun b=>by
  have K:∀ (h:aH) (l:aT) (i:Nat),h[i]? = some (some f)->l[i]? = some c->aW w (h.set i (some (AB r f))) l b=aW w h l b:=by
   intro h;induction h with
   | nil=>simp
   | cons x h O =>
    intro l i y u;cases l with
    | nil=>simp at u
    | cons d l =>
     cases i with
     | zero =>simp at y u; subst y; subst u;simp only[List.set_cons_zero,aW];rw[ww o1,a'9 m]
     | succ i =>
      simp at y u;cases x with
      | none=>grind [aW]
      | some Q=>grind [aW]
  simp_all
 have g:∀ b,fp B { σ with h:=σ.h.set i (some (AB r f)) } t w b=fp B σ t w b:=fun b=>by simp only[fp,o]
 refine ⟨⟨e.size,e.mem,e.jo,e.slots,⟨by simp[e.heap.1],fun D z a => ?_⟩,fun b=>by rw[g]; exact e.cnt b,fun b L=>by rw[g]; exact e.new b L⟩,gQ.refl _ _,Fr.refl _ _ _,fun b _=>by rw[g]; omega⟩;by_cases q:D=i
 .subst q;rw[QZ (jr.1 A).1] at a;injection a with a; injection a with a; subst a
  refine ⟨c,E,C,F,o1,G,by rw[a'7]; exact H,fun j p J => ?_,I⟩;grind [a'6,c44,c8F]
 .rw[Ad (Ne.symm q)] at a;exact e.heap.2 D z a
theorem a'8 (s:gp):∀ (l:List (Nat×List Nat)) {σ:ASt},Inv n M B out σ t w->Good n out M B σ t w M B { σ with h:=aFI s l σ.h } t w
 | [],σ,a=>Good.refl a
 | (k,c)::l,σ,a=>by
  have b:Good n out M B σ t w M B { σ with h:=match dF k s with | some p=>aFL c p σ.h | none=>σ.h } t w:=by
   split
   .rename_i p d;unfold aFL;split
    .rename_i i;split;grind [b_I]
     .exact Good.refl a
    .exact Good.refl a
   .exact Good.refl a
  exact b.trans (a'8 s l b.inv)
def a6K {E:AE} (b:Inv n M B out σ t w):Good n out M B σ t w M B (σ.head E) t w:=by have hk:=bYH b E.vars;have a:=c4H hk.inv E.sz;exact (hk.trans a).trans (a'8 (xP E.sz (σ.keep E.vars).s) E.pt a.inv)
def rZ (E:AE) (out:Nat->Nat) (m0:Nat) (M:Mem) (B:aT) (σ:ASt) (t:Array Value) (w:World) (d:List Deferred) (Q:AX->ASt->Prop) (e:Exit) (b:Act) (f:World):Prop :=∃ c a g h,e=c.toExit/\Q c a/\b.defers=d/\fM E.n out m0 M B σ t w g h a b.tmps f
def a7O {b:List Deferred} {Q:AX->ASt->Prop} (h:fM E.n out m0 M B σ t w M1 B1 σ1 t1 w1) {e:Exit} {c:Act} {d:World} (k:rZ E out m0 M1 B1 σ1 t1 w1 b Q e c d):rZ E out m0 M B σ t w b Q e c d:=by obtain ⟨f,a,g,i,j,l,m,o⟩:=k;exact ⟨f,a,g,i,j,l,m,h.trans o⟩
theorem yZ (u:E.P.follows .mixedOrders=true):∀ (c:Code) {M:Mem} {B:aT} {σ:ASt} {a:Act} {w:World} {Q:AX->ASt->Prop},Inv E.n M B out σ a.tmps w->fH E m0 c Q σ->c.wp E.P (rZ E out m0 M B σ a.tmps w a.defers Q) a w
 | .skip,M,B,σ,a,w,Q,j,h=>wp_skip ⟨.normal,σ,M,B,rfl,h,rfl,fM.refl j⟩
 | .label l,M,B,σ,a,w,Q,j,h=>wp_label ⟨.normal,σ,M,B,rfl,h,rfl,fM.refl j⟩
 | .exit id,M,B,σ,a,w,Q,j,h=>wp_exit ⟨.exit id,σ,M,B,rfl,h,rfl,fM.refl j⟩
 | .ret,M,B,σ,a,w,Q,j,h=>wp_ret ⟨.ret,σ,M,B,rfl,h,rfl,fM.refl j⟩
 | .region id N I,M,B,σ,a,w,Q,j,h=>by
  have hk:=a6K (E:=E) j;rw[fH] at h;cases I with
  | false =>simp only[V8,if_false] at h;exact wp_region_list (WC _ hk.inv h fun d p q G H hq g o=>⟨.normal,d,p,q,rfl,hq,o,(hk.trans g).c⟩)
  | true =>simp only[FC] at h;exact b69 u hk.inv h fun d p q G H hq g o=>⟨.normal,d,p,q,rfl,hq,o,(hk.trans g).c⟩
 | .seq x y,M,B,σ,a,w,Q,j,h=>by
  rw[fH] at h;refine wp_seq (wp_mono (yZ u x j h) fun e G H v => ?_);obtain ⟨z,d,p,q,rfl,hq,o,g⟩:=v;cases z with
  | normal =>
   obtain ⟨O,hq⟩:=hq;obtain ⟨M2,B2,S⟩:=a2G (m0:=m0) O g.inv;have g:=g.trans S;rcases hq with hq | ⟨l,m,A,J,hq⟩
   .exact wp_mono (yZ u y g.inv hq) fun e a2 w2 r=>by rw[o] at r; exact a7O g r
   .have t:=g.trans (IZ g.inv A J);exact wp_mono (yZ u y t.inv hq) fun e a2 w2 r=>by rw[o] at r; exact a7O t r
  | ret=>exact ⟨.ret,d,p,q,rfl,hq,o,g⟩
  | exit i=>exact ⟨.exit i,d,p,q,rfl,hq,o,g⟩
 | .cond c x y,M,B,σ,a,w,Q,j,h=>by
  rw[fH] at h;split at h
  .rename_i b C;have he:=oh.1 (j.rd _ _ C).1;refine wp_cond_split he (fun C=>yZ u x j (h.1 C)) (fun C=>yZ u y j (h.2 C))
  simp_all
 | .block id x,M,B,σ,a,w,Q,j,h=>by
  rw[fH] at h;refine wp_block (wp_mono (yZ u x j h) fun e G H v => ?_);obtain ⟨z,d,p,q,rfl,hq,o,g⟩:=v;cases z with
  | normal=>exact ⟨.normal,d,p,q,rfl,hq,o,g⟩
  | ret=>exact ⟨.ret,d,p,q,rfl,hq,o,g⟩
  | exit i =>
   simp only[AX.toExit,Exit.inBlock];simp only[RV] at hq;split
   .rename_i e; rw[ay e] at hq; exact ⟨.normal,d,p,q,rfl,hq,o,g⟩
   .rename_i e; rw[aX e] at hq; exact ⟨.exit i,d,p,q,rfl,hq,o,g⟩
 | .scope x,M,B,σ,a,w,Q,j,h=>by rw[fH] at h;refine wp_scope_straight (wp_mono (yZ u x j h) fun e G H v => ?_);obtain ⟨z,d,p,q,rfl,hq,o,g⟩:=v;cases z<;>exact ⟨_,d,p,q,rfl,hq,o,g⟩
 | .loop x,M,B,σ,a,w,Q,j,h=>by
  rw[fH] at h;obtain ⟨k,hk⟩:=h;refine wp_loop_rounds k ?_;have K:∀ (k:Nat) (M1:Mem) (B1:aT) (σ1:ASt) (a1:Act) (w1:World),fM E.n out m0 M B σ a.tmps w M1 B1 σ1 a1.tmps w1->a1.defers=a.defers->Pv m0 (fH E m0 x) Q k σ1->Code.rounds E.P x (rZ E out m0 M B σ a.tmps w a.defers Q) k a1 w1:=by
   intro k;induction k with
   | zero=>intro M1 B1 σ1 a1 w1 _ _ h; exact h.elim
   | succ k T =>
    intro M1 B1 σ1 a1 w1 g o h;obtain ⟨l,m,A,J,C⟩:=h;have t:=IZ g.inv A J;rw[rounds_succ];refine wp_mono (yZ u x t.inv C) fun e G H v => ?_
    obtain ⟨z,d,p,q,rfl,hq,D,L⟩:=v;have F:=(g.trans t).trans L;cases z with
    | normal=>exact T p q d G H F (by rw[D,o]) hq
    | ret=>exact ⟨.ret,d,p,q,rfl,hq,by rw[D,o],F⟩
    | exit i=>exact ⟨.exit i,d,p,q,rfl,hq,by rw[D,o],F⟩
  exact K k M B σ a w (fM.refl j) rfl hk
 | .rangeFunc f U V b,_,_,_,_,_,_,_,h=>by rw[fH] at h; exact h.elim
 | .goto l,_,_,_,_,_,_,_,h=>by rw[fH] at h; exact h.elim
 | .refuse l,_,_,_,_,_,_,_,h=>by rw[fH] at h; exact h.elim
end
def oH:Nat->ai->gp
 | _,[] => []
 | k,p::a=>(k,p.un)::oH (k+1) a
def resV (P:Program) (a:ASt):ResultVar->Option PV
 | .tmp t=>dF t a.s
 | .cell t b=>match ti P b,dF t a.s with
  | some I,some q=>(qO false I q a).map (·.1)
  | _,_=>none
def Po (P:Program) (rs:List ResultVar) (b:Nat) (r:PV) (h':aH) (a:ASt):Prop :=
 b<=h'.length/\a.h.take h'.length=h'/\r.blw h'.length=true/\Bj h'.length h'=true /\
  match rs with
  | [x]=>resV P a x=some r
  | rs=>(lG (rs.map (resV P a))).map (fun c=>PV.tuple (c.map PV.un))=some r
section
variable {n:Nat} {out:Nat->Nat} {m0:Nat} {M:Mem} {B:aT} {σ:ASt} {a:Act} {w:World} {P:Program}
def PO (b:Array Value):ResultVar->Sem Value
 | .tmp t=>pure (b.getD t undef)
 | .cell a t=>do loadVar t (<- asAddr (b.getD a undef))
def c4J (c:Func) (a:Array Value):results c a=(do let b<-c.results.mapM (PO a); pure (if h:b.size=1 then b[0] else .tuple b)):=by rfl
theorem a_D (o:Inv n M B out σ a.tmps w) {x:ResultVar} (h:resV P σ x=some p) :
 ∃ v,(PO a.tmps x).run P w = .ok v w/\dC M B p v/\Tl M w p v/\∀ b,cu p v b<=jZ σ.s a.tmps b:=by
 cases x with
 | tmp t =>obtain ⟨C,m,E⟩:=o.slots t p h;refine ⟨_,rfl,m,E,fun b => ?_⟩;have:=J9 (s:=σ.s) (t:=a.tmps) (k:=t) (b:=b);have h':dF t σ.s=some p:=h;grind [uD]
 | cell c t =>
  simp only[resV] at h;split at h
  .rename_i I q r hq;cases d:qO false I q σ with
   | none=>grind
   | some u =>
    obtain ⟨D,y⟩:=u;simp[d] at h; subst h;have j:σ.rd (.tmp c)=some q.un:=by simp[ASt.rd,ASt.ev,hq]
    have f:qO false I q.un σ=some (D,y):=by
     have:qO false I q.un σ=qO false I q σ:=by cases q<;>rfl
     rw[this,d]
    obtain ⟨v,C,m⟩:=aES o r j f;have z:D.own=false:=by
     unfold qO at d;split at d
     grind [uG]
     .split at d
      .split at d
       .split at d
        .cases d; rfl
        .cases d
       grind [uG]
      .cases d
     .cases d
    refine ⟨v,?_,m.rep,m.tl,fun b=>by rw[gY z]; omega⟩;show (do loadVar t (<- asAddr (a.tmps.getD c undef)):Sem Value).run P w=_;have he:a.eval (.tmp c)=a.tmps.getD c undef:=rfl;rw[he] at C;have l:=(o.rd _ _ j).1;rw[he] at l;have F:∃ G,a.tmps.getD c undef = .pointer (some G):=by
     unfold qO at f;split at f
     .rename_i e g; rw[g] at l; obtain ⟨b,A,H,_⟩:=D9.1 l; simp_all
     .rename_i i A g; rw[g] at l; obtain ⟨cc,_,H⟩:=yH.1 l; simp_all
     .cases f
    grind [Instr.loadAt,Instr.sureAddr,asAddr]
  .cases h
def a_E (d:Inv n M B out σ a.tmps w):∀ {rs:List ResultVar} {ps:ai},lG (rs.map (resV P σ))=some ps ->
 ∃ b,(rs.mapM (PO a.tmps)).run P w = .ok b w/\bI M B ps b
 | [],ps,h=>by simp[lG] at h; subst h; exact ⟨[],by simp,gZ.2 rfl⟩
 | x::rs,ps,h=>by
  have h':=QO h;cases ps with
  | nil=>simp at h'
  | cons p ps =>
   simp only[zV,List.cons.injEq] at h';obtain ⟨v,e,f,_,_⟩:=a_D d h'.1;have c:∀ ps:ai,lG (ps.map some)=some ps:=by
    intro ps; induction ps with
    | nil=>rfl
    | cons a l g=>simp[lG,g]
   obtain ⟨b,i,j⟩:=a_E d (rs:=rs) (ps:=ps) (by rw[h'.2]; exact c ps);refine ⟨v::b,?_,eP.2 ⟨v,b,rfl,f,j⟩⟩;rw[List.mapM_cons,oL,e,yP,oL,i]; rfl
variable {c7:Func} {b0:Value} {b':Array Value}
theorem a_I (i:Inv n M B out σ a.tmps w) {m0:Nat} {h':aH} (m:Po P c7.results.toList m0 p h' σ) :
 ∃ v,(results c7 a.tmps).run P w = .ok v w/\dC M B p v/\Tl M w p v/\∀ b,cu p v b<=jZ σ.s a.tmps b:=by
 obtain ⟨_,_,_,_,c⟩:=m;have f:∀ d:List Value,(c7.results.toList.mapM (PO a.tmps)).run P w = .ok d w->(results c7 a.tmps).run P w = .ok (if h:d.toArray.size=1 then d.toArray[0] else .tuple d.toArray) w:=fun d h=>by rw[c4J,Array.mapM_eq_mapM_toList,oL,Sem.run_map,h]; rfl
 split at c
 .rename_i x o;obtain ⟨v,j,g,u,z⟩:=a_D i c;simp_all
 .rename_i o;obtain ⟨A,e,rfl⟩:=NW.1 c;obtain ⟨d,j,g⟩:=a_E i e;have q:d.length≠1:=by
   have C:=sS g;have t:=congrArg List.length (QO e);simp only[aZ] at t;intro h;generalize c7.results.toList=L at *;match L with
   | []=>simp_all
   | [x]=>grind
   | x::y::l=>simp_all
  refine ⟨.tuple d.toArray,?_,xO.2 ⟨_,rfl,by simpa using Pn g⟩,ig rfl,fun b=>by rw[gY rfl]; omega⟩;rw[f d j,dif_neg (by omega)]
theorem aIE:∀ {args:ai} {k j:Nat} {p:PV},dF j (oH k args)=some p->∃ i q,j=k+i/\args[i]? = some q/\p=q.un
 | [],_,_,_,h=>by simp[oH,dF] at h
 | q::c,k,j,p,h=>by
  rw[oH,dF] at h;split at h
  simp_all
  .obtain ⟨i,a,d,e,b⟩:=aIE h;exact ⟨i+1,a,by omega,by grind,b⟩
def aIF:∀ {args:ai} {k:Nat},kD (oH k args)/\∀ x,x∈oH k args->k<=x.1
 | [],k=>⟨by simp[oH,kD],by simp[oH]⟩
 | q::c,k=>by
  obtain ⟨d,b⟩:=aIF (args:=c) (k:=k+1);rw[oH];refine ⟨Ep.2 ⟨fun x a=>by have:=b x a; show k<x.1; omega,d⟩,fun x a => ?_⟩;rcases jy.1 a with rfl | a
  .exact dO _
  .have:=b x a; omega
theorem ZI {t:Array Value} {b:Nat}:∀ {args:ai} {k:Nat},jZ (oH k args) t b=0
 | [],_=>rfl
 | q::a,k=>by rw[oH,jZ,UM,ZI]
def t_ (p:PV) (z:List Nat×Bool):PV:=match z.2 with | true=>p.BQ z.1 | false=>(p.BQ z.1).un
def aBK:List (List Nat×Bool)->ai->ai
 | z::b,p::a=>t_ p z::aBK b a
 | _,a=>a
def yg (a:List (List Nat×Bool)) (r:PV):PV:=match a,r with
 | [],r=>r
 | _,.tuple b => .tuple (aBK a b)
 | z::_,r=>t_ r z
def aNO {z:List Nat×Bool} (h:dC M B p b0):dC M B (t_ p z) b0:=by
 unfold t_; split
 .exact Yy _ h
 .exact uh.2 (Yy _ h)
def aNP:∀ {c:List (List Nat×Bool)} {a:ai} {b:List Value},bI M B a b->bI M B (aBK c a) b
 | [],a,b,h=>by cases a<;>exact h
 | z::c,[],b,h=>h
 | z::c,p::a,b,h=>by obtain ⟨u,d,rfl,e,f⟩:=eP.1 h;exact eP.2 ⟨u,d,rfl,aNO e,aNP f⟩
def aNR {a:List (List Nat×Bool)} (h:dC M B p b0):dC M B (yg a p) b0:=by
 unfold yg; split
 .exact h
 .obtain ⟨b,rfl,c⟩:=xO.1 h;exact xO.2 ⟨b,rfl,aNP c⟩
 .exact aNO h
theorem bAS {z:List Nat×Bool} (a:dC M B p b0) (h:Tl M w p b0):Tl M w (t_ p z) b0:=by grind [t_,b2A,ig,uG]
def aNS {a:List (List Nat×Bool)} (b:dC M B p b0) (h:Tl M w p b0):Tl M w (yg a p) b0:=by
 unfold yg; split
 .exact h
 .exact ig rfl
 .exact bAS b h
theorem aNQ {ro:List (List Nat×Bool)} {r:PV} {v:Value} {b:Nat}:cu (yg ro r) v b<=cu r v b:=by
 unfold yg; split;omega
 .rw[gY rfl]; omega
 grind [t_,a'D,UM]
theorem aVL {n:Nat} {args:ai} {out:Nat->Nat} {M:Mem} {B:aT} {w:World} (l:args.length<=n) (c:BH M w) (a:tK M B w H) (d:∀ b,aW w H B b+out b<=1) (m:∀ b,w.heap.size<=b->aW w H B b+out b=0)
 (hv:bI M B args b'.toList):Inv n M B out ⟨oH 0 args,H⟩ (b' ++ Array.replicate (n-b'.size) undef) w:=by
 have f:=sS hv;simp only[Array.length_toList] at f;have e:∀ t b,fp B ⟨oH 0 args,H⟩ t w b=aW w H B b:=fun t b=>by grind [fp,ZI]
 refine ⟨by simp; omega,c,aIF.1,fun k p hk => ?_,a,fun b=>by rw[e]; exact d b,fun b r=>by rw[e]; simp_all⟩;obtain ⟨i,q,rfl,hq,rfl⟩:=aIE hk;obtain ⟨v,o,g⟩:=yI hv hq;have u:=(jr.1 hq).1;refine ⟨by omega,?_,ig (uG _)⟩;have j:b'[i]? = some v:=by simp_all
 have:(b' ++ Array.replicate (n-b'.size) undef).getD (0+i) undef=v:=by rw[xh,V6,Dz (by omega),j]; rfl
 rw[this]; exact uh.2 g
theorem aNV {n:Nat} {h':aH} {args:ai} {out:Nat->Nat} {M U:Mem} {B y:aT} {w f:World} {I:Act} {d:ASt} {ro:List (List Nat×Bool)} (q:tK M B w H)
 (e:fM n out H.length M B ⟨oH 0 args,H⟩ b' w U y d I.tmps f) (g:Po P c7.results.toList H.length p h' d):∃ v,(results c7 I.tmps).run P f = .ok v f/\∃ J K,Post H B out M w (yg ro p) h' v J K f:=by
 have z:∀ b' b,fp B ⟨oH 0 args,H⟩ b' w b=aW w H B b:=fun b' b=>by grind [fp,ZI]
 obtain ⟨v,V,l,L,A⟩:=a_I e.inv g;obtain ⟨Y,N,C,O,_⟩:=g;generalize Z:h'.length=m at *;subst N;have Q:Post H B out M w (yg ro p) (d.h.take m) v U (y.take m) f:=by
  have b0:B.length=H.length:=q.1.symm;have x:=fun b=>aFK (w:=f) m b d.h y
  have o:∀ b,aW f (d.h.take m) (y.take m) b+cu (yg ro p) v b<=fp y d I.tmps f b:=fun b=>by have:=x b; have:=A b; have:=aNQ (ro:=ro) (r:=p) (v:=v) (b:=b); simp only[fp]; omega
  refine ⟨e.inv.mem,⟨e.mem,fun i c F => ?_⟩,e.fr.mono fun b G h0=>by rw[z]; exact h0,⟨by simp[e.inv.heap.1],fun i cs D => ?_⟩,aNR (l.blw C),aNS (l.blw C) L,fun b G => ?_,fun b => ?_,fun b G => ?_⟩
  .have E:=(jr.1 F).1;rw[qh,ay (by omega)];exact e.pre i c (by omega) F
  .have S:=D;rw[qh] at D;split at D
   .rename_i E;obtain ⟨c,F,vs,ty,o1,o2,o3,o4,o5⟩:=e.inv.heap.2 i cs D;refine ⟨c,by rw[qh,ay E]; exact F,vs,ty,o1,o2,o3,fun j a X => ?_,o5⟩;obtain ⟨u,a1,a2,a3,a4⟩:=o4 j a X;refine ⟨u,a1,a2.blw ?_,a3,a4⟩;have:=jq.1 O _ (tC S);exact a1F.1 this a (tC X)
   .cases D
  .have T:=e.own b G; rw[z] at T; grind
  .have T:=e.inv.cnt b; have:=o b; omega
  .have T:=e.inv.new b G; have:=o b; omega
 grind
theorem uw.aFD {D:CP} {c:Code} (A:∀ {b:Array Value} {w:World} {R:Ending->World->Prop},c.wp P (bodyPost P c7 R) { tmps:=b ++ Array.replicate (c7.ntmps-b.size) undef,defers := [] } w->D r b w R) (S:P.follows .mixedOrders=true) (hf:P.funcs[r]? = some c7) (hb:c7.body=some c) (hn:(c7.name != "runtime.NumGoroutine")=true) {args:ai} {h':aH} (j F G:List Nat) (I J lt K:List (Nat×List Nat)) (L:List Nat) (ro:List (List Nat×Bool)) (N:List (Nat×List Nat)) (O ln:List Nat) (m:args.length<=c7.ntmps)
 (T:fH ⟨P,c7.ntmps,j,F,G,I,J,lt,K,L,N,O,ln⟩ H.length c (fun e o=>(match e with | .exit _=>False | _=>True)/\∃ C,Po P c7.results.toList H.length C h' o/\yg ro C=p) ⟨oH 0 args,H⟩):uw P D r args H p h':=by
 refine ⟨by grind [j_],fun out M B w b q d t u hv => ?_⟩;have U:=aVL (n:=c7.ntmps) m q d t u hv;refine A (wp_mono (yZ (E:=⟨P,c7.ntmps,j,F,G,I,J,lt,K,L,N,O,ln⟩) (out:=out) (a := { tmps:=b ++ Array.replicate (c7.ntmps-b.size) undef,defers := [] }) S c U T) fun e a' w' V => ?_);obtain ⟨X,o,M',B',rfl,⟨Y,C,x,rfl⟩,Q,Z⟩:=V;obtain ⟨v,l,y,z,f⟩:=aNV (ro:=ro) d Z x;cases X with
 | normal=>exact ⟨Q,v,l,v,y,z,rfl,f⟩
 | ret=>exact ⟨Q,v,l,v,y,z,rfl,f⟩
 | exit i=>grind
end
def Ev.frame {args:ai} (h:Ev D r args [] p []) (b:p.flat=true) (c:PV.flats args=true) (a:aH):Ev D r args a p a:=h.frame' b c a
theorem aAZ {args:ai} (h:Ev A.P r args [] p []) (a:p.flat=true) (b:PV.flats args=true) (hk:jd A u p J Z):WH A r args u Z J:=⟨p,J.h,h.frame a b _,hk⟩
theorem wrap64 {n:Int} (a : -9223372036854775808<=n) (b:n<=9223372036854775807):i64.wrap n=n:=IntWalk.i64_in n ⟨a,b⟩
theorem zI (hk:∀ J,Z J->b8 J) (h:jd A u p J Z):jd A u p J b8:=by grind [jd]
theorem b1G (hk:∀ J,Z J->b8 J) (h:AO A I Z J):AO A I b8 J:=by grind [AO,zI]
theorem b1I (hk:∀ J,Z J->b8 J) (h:Uk A I Z J):Uk A I b8 J:=by
 rcases h with h | h
 .exact .inl (b1G hk h)
 .refine .inr ?_;unfold YZ at *;split at h
  .exact fun b a=>zI hk (h b a)
  omega
theorem a0Z (hk:∀ J,Z J->b8 J) (h:yY A I Z J):yY A I b8 J:=by
 unfold yY at *;split
 .rename_i c d;simp only[d] at h;split
  .rename_i f e;simp only[e] at h;split at h
   .rename_i g i;obtain ⟨r,h',a,b⟩:=h;exact ⟨r,h',a,zI hk b⟩
   omega
  grind [b1I]
 grind [b1I]
theorem FZ {E:AE} {d:Array Oper} {K g:ASt->Prop} (hk:∀ c,K c->g c):∀ (l:List Oper) {c:ASt},nT E d l K c->nT E d l g c
 | [],c,h=>hk c h
 | o::l,c,h=>by
  rw[nT] at h ⊢;split
  .rename_i f;simp only[f] at h;exact a0Z (fun c a=>FZ hk l a) h
  .rename_i j i f;simp only[f] at h;split
   .rename_i hv;rw[hv] at h;exact zI (fun c a=>FZ hk l a) h
   .rename_i b hv;rw[hv] at h;exact ⟨fun e=>a0Z (fun c a=>FZ hk l a) (h.1 e),fun e=>zI (fun c a=>FZ hk l a) (h.2 e)⟩
   .rename_i hv;rw[hv] at h;exact h.elim
theorem a0Y (hk:∀ J,Z J->b8 J) (h:EF A I Z J):EF A I b8 J:=by
 unfold EF at *;split
 .rename_i f args g;simp only[g] at h;split at h
  .rename_i j l;rcases h with ⟨r,a,b,c,d⟩|⟨e,r,h',a,i,d⟩
   .exact .inl ⟨r,a,b,c,zI hk d⟩
   .exact .inr ⟨e,r,h',a,i,zI hk d⟩
  omega
 grind [b1G]
def WA {E:AE} {d:Array Oper} {K g:ASt->Prop} (hk:∀ c,K c->g c):∀ (l:List Oper) {c:ASt},vC E d l K c->vC E d l g c
 | [],c,h=>hk c h
 | o::l,c,h=>by
  rw[vC] at h ⊢;split
  .rename_i f;simp only[f] at h;exact a0Y (fun c a=>WA hk l a) h
  .rename_i j i f;simp only[f] at h;split
   .rename_i hv;rw[hv] at h;exact zI (fun c a=>WA hk l a) h
   .rename_i b hv;rw[hv] at h;exact ⟨fun e=>a0Y (fun c a=>WA hk l a) (h.1 e),fun e=>zI (fun c a=>WA hk l a) (h.2 e)⟩
   .rename_i hv;rw[hv] at h;exact h.elim
def b6A (hk:∀ J,Z J->b8 J) (h:a0X A c' Z J):a0X A c' b8 J:=⟨h.1,WA hk _ h.2⟩
def a_K {d:Nat} {b:(AX->ASt->Prop)->ASt->Prop} {Q c:AX->ASt->Prop} (f:∀ (Q c:AX->ASt->Prop) (a:ASt),(∀ e a,Q e a->c e a)->b Q a->b c a) (hq:∀ e a,Q e a->c e a):∀ (k:Nat) (a:ASt),Pv d b Q k a->Pv d b c k a
 | 0,_,h=>h.elim
 | k+1,a,⟨l,m,g,j,n⟩=>⟨l,m,g,j,f _ _ _ (fun e a he=>by
  cases e with
  | normal=>exact a_K f hq k a he
  | ret=>exact hq _ _ he
  | exit i=>exact hq _ _ he) n⟩
theorem zo {E:AE} {g:Nat}:∀ (c:Code) {Q j:AX->ASt->Prop} {a:ASt},(∀ e a,Q e a->j e a)->fH E g c Q a->fH E g c j a
 | .skip,_,_,_,hq,h=>hq _ _ h
 | .label _,_,_,_,hq,h=>hq _ _ h
 | .exit _,_,_,_,hq,h=>hq _ _ h
 | .ret,_,_,_,hq,h=>hq _ _ h
 | .region _ p d,_,_,_,hq,h=>by
  rw[fH] at h ⊢;cases d with
  | false=>grind [FZ]
  | true=>simp only[FC] at h ⊢; exact h.elim (fun h => .inl (b6A (fun a=>hq _ a) h)) fun h => .inr (aJW (fun a=>hq _ a) _ h)
 | .seq x y,Q,j,_,hq,h=>by
  rw[fH] at h ⊢;refine zo x (fun e a he => ?_) h;cases e with
  | normal =>
   obtain ⟨o,he⟩:=he;rcases he with he | ⟨l,m,a1,a2,he⟩
   .exact ⟨o,.inl (zo y hq he)⟩
   .exact ⟨o,.inr ⟨l,m,a1,a2,zo y hq he⟩⟩
  | ret=>exact hq _ _ he
  | exit i=>exact hq _ _ he
 | .cond c x y,_,_,_,hq,h=>by
  rw[fH] at h ⊢;split
  .rename_i b f;rw[f] at h;exact ⟨fun e=>zo x hq (h.1 e),fun e=>zo y hq (h.2 e)⟩
  .rename_i f;split at h
   .rename_i b n; exact absurd n (f b)
   .exact h
 | .block id x,_,_,_,hq,h=>by
  rw[fH] at h ⊢;refine zo x (fun e a he => ?_) h;cases e with
  | normal=>exact hq _ _ he
  | ret=>exact hq _ _ he
  | exit i =>grind [RV]
 | .loop x,_,_,_,hq,h=>by rw[fH] at h ⊢;obtain ⟨k,hk⟩:=h;exact ⟨k,a_K (b:=fH E g x) (fun _ _ _ hq f=>zo x hq f) hq k _ hk⟩
 | .scope x,_,_,_,hq,h=>by rw[fH] at h ⊢; exact zo x hq h
 | .rangeFunc ..,_,_,_,_,h=>by rw[fH] at h; exact h.elim
 | .goto _,_,_,_,_,h=>by rw[fH] at h; exact h.elim
 | .refuse _,_,_,_,_,h=>by rw[fH] at h; exact h.elim
theorem aLV {args:ai} (h:Ev A.P r args [] p []) (a:p.flat=true) (b:PV.flats args=true) (hk:jd A u p J Z):aAY A r args u Z J := .inl ⟨p,h,a,b,hk⟩
section
variable {E:AE} {m0:Nat} {Q:AX->ASt->Prop} {σ:ASt}
end
section
variable {E:AE} {ops:Array Oper} {l:List Oper} {Q:ASt->Prop} {σ:ASt} {o:Oper}
@[simp] def cBC : nT E ops [] Q σ = Q σ := rfl
@[simp] def cBB : vC E ops [] Q σ = Q σ := rfl
theorem b6C (a:CJ o=none):yY E o Q σ=Uk E o Q σ:=by grind [yY]
end
@[simp] def cEC (k : IntKind) (n : Int) : PV.un (.int k n) = .int k n := rfl
@[simp] def size_int (k : IntKind) (n : Int) : PV.size (.int k n) = 1 := rfl
@[simp] def cCQ (k : IntKind) (n : Int) : PV.isAgg (.int k n) = false := rfl
@[simp] def cDP (k : IntKind) (n : Int) : PV.one (.int k n) = true := rfl
@[simp] def cDD (k : IntKind) (n : Int) : PV.okE (.int k n) = true := rfl
@[simp] def cD1 (k : IntKind) (n : Int) : PV.newCells (.int k n) = some [.int k n] := rfl
@[simp] def cBH (m : Nat) (k : IntKind) (n : Int) : PV.blw m (.int k n) = true := by rfl
@[simp] def cBY (k : IntKind) (n : Int) : PV.flat (.int k n) = true := by rfl
@[simp] def cE9 (b : Bool) : PV.un (.bool b) = .bool b := rfl
@[simp] def DI (b : Bool) : PV.size (.bool b) = 1 := rfl
@[simp] def cCN (b : Bool) : PV.isAgg (.bool b) = false := rfl
@[simp] def cDM (b : Bool) : PV.one (.bool b) = true := rfl
@[simp] def cDA (b : Bool) : PV.okE (.bool b) = true := rfl
@[simp] def cCZ (b : Bool) : PV.newCells (.bool b) = some [.bool b] := rfl
@[simp] def cBE (m : Nat) (b : Bool) : PV.blw m (.bool b) = true := by rfl
@[simp] def cBV (b : Bool) : PV.flat (.bool b) = true := by rfl
@[simp] def cEI (s : ByteArray) : PV.un (.str s) = .str s := rfl
@[simp] def cE5 (s : ByteArray) : PV.size (.str s) = 1 := rfl
@[simp] def cCW (s : ByteArray) : PV.isAgg (.str s) = false := rfl
@[simp] def cDV (s : ByteArray) : PV.one (.str s) = true := rfl
@[simp] def cDJ (s : ByteArray) : PV.okE (.str s) = true := rfl
@[simp] def cD7 (s : ByteArray) : PV.newCells (.str s) = some [.str s] := rfl
@[simp] def cBN (m : Nat) (s : ByteArray) : PV.blw m (.str s) = true := by rfl
@[simp] def cC5 (s : ByteArray) : PV.flat (.str s) = true := by rfl
@[simp] def cED : PV.un (.nilp) = .nilp := rfl
@[simp] def cE0 : PV.size (.nilp) = 1 := rfl
@[simp] def cCR : PV.isAgg (.nilp) = false := rfl
@[simp] def cDQ : PV.one (.nilp) = true := rfl
@[simp] def cDE : PV.okE (.nilp) = true := rfl
@[simp] def cD2 : PV.newCells (.nilp) = some [.nilp] := rfl
@[simp] def cBI (m : Nat) : PV.blw m (.nilp) = true := by rfl
@[simp] def cBZ : PV.flat (.nilp) = true := by rfl
@[simp] def cEF (v : Value) : PV.un (.raw v) = .raw v := rfl
@[simp] def cE2 (v : Value) : PV.size (.raw v) = 1 := rfl
@[simp] def cCT (v : Value) : PV.isAgg (.raw v) = false := rfl
@[simp] def cDS (v : Value) : PV.one (.raw v) = true := rfl
@[simp] def cDG (v : Value) : PV.okE (.raw v) = true := rfl
@[simp] def cD4 (v : Value) : PV.newCells (.raw v) = some [.raw v] := rfl
@[simp] def cBK (m : Nat) (v : Value) : PV.blw m (.raw v) = true := by rfl
@[simp] def cC1 (v : Value) : PV.flat (.raw v) = true := by rfl
@[simp] def cEE (i a : Nat) : PV.un (.ptr i a) = .ptr i a := rfl
@[simp] def cE1 (i a : Nat) : PV.size (.ptr i a) = 1 := rfl
@[simp] def cCS (i a : Nat) : PV.isAgg (.ptr i a) = false := rfl
@[simp] def cDR (i a : Nat) : PV.one (.ptr i a) = true := rfl
@[simp] def cDF (i a : Nat) : PV.okE (.ptr i a) = false := rfl
@[simp] def cD3 (i a : Nat) : PV.newCells (.ptr i a) = some [.ptr i a] := rfl
@[simp] def cBJ (m  i a : Nat) : PV.blw m (.ptr i a) = decide (i < m) := by rfl
@[simp] def cC0 (i a : Nat) : PV.flat (.ptr i a) = false := by rfl
@[simp] def cEA (e : PV) : PV.un (.cst e) = .cst e := rfl
@[simp] def cDZ (e : PV) : PV.size (.cst e) = 1 := rfl
@[simp] def cCO (e : PV) : PV.isAgg (.cst e) = false := rfl
@[simp] def cDN (e : PV) : PV.one (.cst e) = true := rfl
@[simp] def cDB (e : PV) : PV.okE (.cst e) = true := rfl
@[simp] def cC' (e : PV) : PV.newCells (.cst e) = some [.cst e] := rfl
@[simp] def cBF (m : Nat) (e : PV) : PV.blw m (.cst e) = true := by rfl
@[simp] def cBW (e : PV) : PV.flat (.cst e) = true := by rfl
@[simp] def cEG (o : Bool) (z : Nat) (a : ai) : PV.un (.sl o z a) = .sl false z a := rfl
@[simp] def cE3 (o : Bool) (z : Nat) (a : ai) : PV.size (.sl o z a) = 1 := rfl
@[simp] def cCU (o : Bool) (z : Nat) (a : ai) : PV.isAgg (.sl o z a) = false := rfl
@[simp] def cDT (o : Bool) (z : Nat) (a : ai) : PV.one (.sl o z a) = true := rfl
@[simp] def cDH (o : Bool) (z : Nat) (a : ai) : PV.okE (.sl o z a) = true := rfl
@[simp] def cD5 (o : Bool) (z : Nat) (a : ai) : PV.newCells (.sl o z a) = some [.sl false z a] := rfl
@[simp] def cBL (m : Nat) (o : Bool) (z : Nat) (a : ai) : PV.blw m (.sl o z a) = true := by rfl
@[simp] def cC3 (o : Bool) (z : Nat) (a : ai) : PV.flat (.sl o z a) = true := by rfl
@[simp] def cEH (i a n z : Nat) : PV.un (.slh i a n z) = .slh i a n z := rfl
@[simp] def cE4 (i a n z : Nat) : PV.size (.slh i a n z) = 1 := rfl
@[simp] def cCV (i a n z : Nat) : PV.isAgg (.slh i a n z) = false := rfl
@[simp] def cDU (i a n z : Nat) : PV.one (.slh i a n z) = true := rfl
@[simp] def cDI (i a n z : Nat) : PV.okE (.slh i a n z) = false := rfl
@[simp] def cD6 (i a n z : Nat) : PV.newCells (.slh i a n z) = some [.slh i a n z] := rfl
@[simp] def cBM (m  i a n z : Nat) : PV.blw m (.slh i a n z) = decide (i < m) := by rfl
@[simp] def cC4 (i a n z : Nat) : PV.flat (.slh i a n z) = false := by rfl
@[simp] def cEB (f : Fn) (a c : ai) : PV.un (.func f a c) = .func f a c := rfl
@[simp] def cD' (f : Fn) (a c : ai) : PV.size (.func f a c) = 1 := rfl
@[simp] def cCP (f : Fn) (a c : ai) : PV.isAgg (.func f a c) = false := rfl
@[simp] def cDO (f : Fn) (a c : ai) : PV.one (.func f a c) = true := rfl
@[simp] def cDC (f : Fn) (a c : ai) : PV.okE (.func f a c) = (PV.flats a && PV.flats c) := rfl
@[simp] def cD0 (f : Fn) (a c : ai) : PV.newCells (.func f a c) = some [.func f a c] := rfl
@[simp] def cBG (m : Nat) (f : Fn) (a c : ai) : PV.blw m (.func f a c) = (PV.blws m a && PV.blws m c) := by rfl
@[simp] def cBX (f : Fn) (a c : ai) : PV.flat (.func f a c) = (PV.flats a && PV.flats c) := by rfl
@[simp] def cE8 (a : ai) : PV.un (.agg a) = .agg a := rfl
@[simp] def cDY (a : ai) : PV.size (.agg a) = a.length := rfl
@[simp] def cCM (a : ai) : PV.isAgg (.agg a) = true := rfl
@[simp] def cDL (a : ai) : PV.one (.agg a) = false := rfl
@[simp] def cD9 (a : ai) : PV.okE (.agg a) = (a.all PV.one && PV.flats a) := rfl
@[simp] def cCY (a : ai) : PV.newCells (.agg a) = if a.all PV.one then some (a.map PV.un) else none := rfl
@[simp] def cBD (m : Nat) (a : ai) : PV.blw m (.agg a) = PV.blws m a := by rfl
@[simp] def Ey (a : ai) : PV.flat (.agg a) = PV.flats a := by rfl
@[simp] def cEJ (a : ai) : PV.un (.tuple a) = .tuple a := rfl
@[simp] def cE6 (a : ai) : PV.size (.tuple a) = 1 := rfl
@[simp] def cCX (a : ai) : PV.isAgg (.tuple a) = false := rfl
@[simp] def cDX (a : ai) : PV.one (.tuple a) = false := rfl
@[simp] def cDK (a : ai) : PV.okE (.tuple a) = false := rfl
@[simp] def cD8 (a : ai) : PV.newCells (.tuple a) = none := rfl
@[simp] def cBO (m : Nat) (a : ai) : PV.blw m (.tuple a) = PV.blws m a := by rfl
@[simp] def cC6 (a : ai) : PV.flat (.tuple a) = PV.flats a := by rfl
@[simp] def cBQ (m : Nat) : PV.blws m [] = true := rfl
@[simp] def cBP (m : Nat) (p : PV) (a : ai) : PV.blws m (p :: a) = (p.blw m && PV.blws m a) := by rw [PV.blws]
@[simp] theorem cC8 : PV.flats [] = true := rfl
@[simp] def cC7 (p : PV) (a : ai) : PV.flats (p :: a) = (p.flat && PV.flats a) := by rw [PV.flats]
attribute [simp] ASt.rdT Ff RV ASt.keep AO dS ASt.put jd kG oH mX wO pop JC ASt.rd ASt.ev dF IK Fh a7Z pg Value.oneCell' AP ASt.clr fB Po resV qO zG ZM TW Ue ZL aLR J4 Fa a9L a2C a7L WO a7T a7S yJ lG GK ASt.gc Bj CJ CG nG
mutual
def lL (f:Nat->Nat):PV->PV
 | .ptr i o => .ptr (f i) o
 | .eU T i => .eU T (f i)
 | .slh i o n z => .slh (f i) o n z
 | .func g a c => .func g (mJ f a) (mJ f c)
 | .agg d => .agg (mJ f d)
 | .tuple d => .tuple (mJ f d)
 | .int k n => .int k n
 | .bool b => .bool b
 | .str s => .str s
 | .nilp => .nilp
 | .raw v => .raw v
 | .cst e => .cst e
 | .eF l => .eF l
 | .pW o n z d => .pW o n z d
 | .mp l => .mp l
 | .sl o z h => .sl o z h
def mJ (f:Nat->Nat):ai->ai
 | [] => []
 | p::a=>lL f p::mJ f a
end
mutual
def PV.allI (D:Nat->Bool):PV->Bool
 | .ptr i _=>D i
 | .eU _ i=>D i
 | .slh i _ _ _=>D i
 | .func _ a c=>PV.qA D a&&PV.qA D c
 | .agg b=>PV.qA D b
 | .tuple b=>PV.qA D b
 | _=>true
def PV.qA (D:Nat->Bool):ai->Bool
 | []=>true
 | p::a=>p.allI D&&PV.qA D a
end
def oG (f:Nat->Nat):Option (ai)->Option (ai)
 | some a=>some (mJ f a)
 | none=>none
def wQ:List Nat->Nat->Nat
 | [],_=>0
 | j::l,i=>bif Nat.beq j i then 0 else wQ l i+1
def pO:List Nat->Nat->Bool
 | [],_=>false
 | j::l,i=>Nat.beq j i||pO l i
def uP (a:List Nat) (n m:Nat):Nat:=match a[m]? with | some i=>i | none=>n+(m-a.length)
def vY:List Nat->aH->aH->aH
 | i::a,o::b,H=>vY a b (H.set i o)
 | _,_,H=>H
def l_:List Nat->Bool
 | []=>true
 | i::l => !(pO l i)&&l_ l
def sD (H:aH) (i:Nat):Option (ai):=match H[i]? with | some o=>o | none=>none
def zq (a:List Nat) (H h':aH):aH:=vY a ((h'.take a.length).map (oG (uP a H.length))) H ++ (h'.drop a.length).map (oG (uP a H.length))
theorem a6L:pO T j=true↔j∈T:=by
 induction T with
 | nil=>simp[pO]
 | cons a T b =>
  rw[pO,Jg,b,jy];constructor;grind [Nat.eq_of_beq_eq_true]
  .rintro (h | h);simp_all;simp_all
theorem c3B (h:j∈T):T[wQ T j]? = some j:=by
 induction T with
 | nil=>simp at h
 | cons a T d =>
  rw[wQ];cases b:Nat.beq a j with
  | true=>have:=Bc b; simp_all
  | false =>
   have c:a≠j:=fun e=>by simp_all
   grind
section
variable {M:Mem} {B B':aT} {w w':World}
mutual
theorem a_9 {f:Nat->Nat} {D:Nat->Bool} (d:∀ i c,D i=true->B[i]? = some c->B'[f i]? = some c):∀ p:PV,p.allI D=true->∀ v,(bG M B p).1 v->(bG M B' (lL f p)).1 v
 | .int _ _,_,v,h=>by simpa only[lL,bG] using h
 | .bool _,_,v,h=>by simpa only[lL,bG] using h
 | .str _,_,v,h=>by simpa only[lL,bG] using h
 | .nilp,_,v,h=>by simpa only[lL,bG] using h
 | .raw _,_,v,h=>by simpa only[lL,bG] using h
 | .cst _,_,v,h=>by simpa only[lL,bG] using h
 | .sl _ _ _,_,v,h=>by simpa only[lL,bG] using h
 | .eF _,_,v,h=>by simpa only[lL,bG] using h
 | .pW _ _ _ _,_,v,h=>by simpa only[lL,bG] using h
 | .mp _,_,v,h=>by simpa only[lL,bG] using h
 | .ptr i o,b,v,h=>by simp only[bG,kF] at h;simp only[lL,bG,kF];obtain ⟨c,g,e⟩:=h;exact ⟨c,⟨d i c (by simpa only[PV.allI] using b) g.1,g.2⟩,e⟩
 | .eU T i,b,v,h=>by simp only[bG,kF] at h;simp only[lL,bG,kF];obtain ⟨c,g,e⟩:=h;exact ⟨c,d i c (by simpa only[PV.allI] using b) g,e⟩
 | .slh i o n z,b,v,h=>by simp only[bG,kF] at h;simp only[lL,bG,kF];obtain ⟨c,l,g,e⟩:=h;exact ⟨c,l,⟨d i c (by simpa only[PV.allI] using b) g.1,g.2⟩,e⟩
 | .func t a c,b,v,h=>by simp only[PV.allI,bQ] at b;simp only[bG,kF] at h;simp only[lL,bG,kF];obtain ⟨x,y,e,j,r⟩:=h;exact ⟨x,y,e,UX d a b.1 _ j,UX d c b.2 _ r⟩
 | .agg m,b,v,h=>by simp only[bG] at h;simp only[lL,bG];obtain ⟨q,e,j⟩:=h;exact ⟨q,e,UX d m (by simpa only[PV.allI] using b) _ j⟩
 | .tuple m,b,v,h=>by simp only[bG] at h;simp only[lL,bG];obtain ⟨q,e,j⟩:=h;exact ⟨q,e,UX d m (by simpa only[PV.allI] using b) _ j⟩
theorem UX {f:Nat->Nat} {D:Nat->Bool} (e:∀ i c,D i=true->B[i]? = some c->B'[f i]? = some c):∀ b:ai,PV.qA D b=true->∀ a,qI (jB M B b) a->qI (jB M B' (mJ f b)) a
 | [],_,a,h=>by simpa only[mJ,jB] using h
 | p::b,d,a,h=>by
  simp only[PV.qA,bQ] at d;cases a with
  | nil=>simp[jB,qI] at h
  | cons v a =>simp only[jB,qI] at h;simp only[mJ,jB,qI];exact ⟨a_9 e p d.1 v h.1,UX e b d.2 a h.2⟩
end
variable {Y:Nat->Nat} {c9:Nat->Bool} {b0:Value}
theorem aHM (a:∀ i c,c9 i=true->B[i]? = some c->B'[Y i]? = some c) (b:p.allI c9=true) (h:dC M B p b0):dC M B' (lL Y p) b0:=a_9 a p b b0 h
def c4E (b:∀ i c,c9 i=true->B[i]? = some c->B'[Y i]? = some c) (d:PV.qA c9 f=true) {a:List Value} (h:bI M B f a):bI M B' (mJ Y f) a:=UX b f d a h
mutual
theorem aAP:∀ p:PV,p.allI (fun _=>true)=true
 | .func _ a c=>by simp only[PV.allI,Vx a,Vx c,NK]
 | .agg b=>by simp only[PV.allI,Vx b]
 | .tuple b=>by simp only[PV.allI,Vx b]
 | .ptr _ _=>rfl
 | .eU _ _=>rfl
 | .slh _ _ _ _=>rfl
 | .int _ _=>rfl
 | .bool _=>rfl
 | .str _=>rfl
 | .nilp=>rfl
 | .raw _=>rfl
 | .cst _=>rfl
 | .sl _ _ _=>rfl
 | .eF _=>rfl
 | .pW _ _ _ _=>rfl
 | .mp _=>rfl
theorem Vx:∀ a:ai,PV.qA (fun _=>true) a=true
 | []=>rfl
 | p::a=>by simp only[PV.qA,aAP p,Vx a,NK]
end
def c42 (f:Nat->Nat) (p:PV):(lL f p).own=p.own:=by cases p<;>rfl
def a88 (f:Nat->Nat) (p:PV) (v:Value) (b:Nat):cu (lL f p) v b=cu p v b:=by unfold cu; rw[c42]
theorem aIM (h:Tl M w p b0):Tl M w (lL Y p) b0:=by cases p<;>first | exact h | exact ig rfl
def aHJ {f:Nat->Nat}:∀ {a:ai} {j:Nat},(mJ f a)[j]? =(a[j]?).map (lL f)
 | [],j=>by simp[mJ]
 | p::a,0=>by simp[mJ]
 | p::a,j+1=>by rw[mJ,DV,DV]; exact aHJ
theorem aHK {f:Nat->Nat}:∀ a:ai,(mJ f a).length=a.length
 | []=>rfl
 | p::a=>by simp[mJ,aHK a]
def a'A {f:Nat->Nat} {b:Nat}:∀ (c:ai) (a:List Value),iP (mJ f c) a b=iP c a b
 | [],_=>by rfl
 | p::d,[]=>by rfl
 | p::d,v::a=>by rw[mJ,iP,iP,a88,a'A d a]
def Yj {f:Nat->Nat} {b:Nat}:∀ (h:aH) (B:aT),aW w (h.map (oG f)) B b=aW w h B b
 | [],_=>by simp[aW]
 | some a::h,[]=>by rfl
 | none::h,[]=>by rfl
 | some a::h,c::B=>by simp only[zV,oG,aW,a'A,Yj h B]
 | none::h,c::B=>by simp only[zV,oG,aW,Yj h B]
def o1 (w:World) (b:Nat) (o:Option (ai)) (c:Nat×Nat×TypeId):Nat:=match o with | some a=>(if c.1=b then 1 else 0)+iP a (jk w c.1) b | none=>0
theorem Lm (o:Option (ai)) (h:aH) (c:Nat×Nat×TypeId) (B:aT) (b:Nat):aW w (o::h) (c::B) b=o1 w b o c+aW w h B b:=by
 cases o with
 | none=>grind [aW,o1]
 | some a=>rfl
theorem a'B {b:Nat} {o:Option (ai)}:∀ {H:aH} {B:aT} {i:Nat} {a:Option (ai)} {c:Nat×Nat×TypeId},H[i]? = some a->B[i]? = some c->aW w (H.set i o) B b+o1 w b a c=aW w H B b+o1 w b o c
 | [],_,_,_,_,h,_=>by simp at h
 | _::_,[],_,_,_,_,h=>by simp at h
 | x::H,d::B,0,a,c,e,f=>by grind [Lm]
 | x::H,d::B,i+1,a,c,e,f=>by have:=a'B (b:=b) (o:=o) (H:=H) (B:=B) (i:=i) (by simpa using e) (by simpa using f);rw[List.set_cons_succ,Lm,Lm]; omega
theorem aFJ {b:Nat}:∀ {h k:aH} {B C:aT},h.length=B.length->aW w (h ++ k) (B ++ C) b=aW w h B b+aW w k C b
 | [],k,[],C,_=>by simp[aW]
 | o::h,k,c::B,C,e=>by rw[pF,pF,Lm,Lm,aFJ (by grind)]; omega
 | [],_,_::_,_,e=>by simp at e
 | _::_,_,[],_,e=>by simp at e
theorem Q4:∀ (b:List Nat) (a H:aH),(vY b a H).length=H.length
 | [],a,H=>by cases a<;>rfl
 | i::b,[],H=>rfl
 | i::b,o::a,H=>by rw[vY,Q4]; simp
theorem ZB {i:Nat}:∀ {a:List Nat} {b H:aH},i∉a->(vY a b H)[i]? = H[i]?
 | [],b,H,_=>by cases b<;>rfl
 | j::a,[],H,_=>rfl
 | j::a,o::b,H,h=>by rw[vY,ZB (fun e=>h (by simp[e])),Ad (fun e=>h (by simp[e]))]
theorem b0G:∀ {a:List Nat} {b H:aH} {j i:Nat} {o:Option (ai)},a.Nodup->a[j]? = some i->b[j]? = some o->i<H.length->(vY a b H)[i]? = some o
 | [],_,_,_,_,_,_,h,_,_=>by simp at h
 | _::_,[],_,_,_,_,_,_,h,_=>by simp at h
 | k::a,q::b,H,0,i,o,c,d,e,f=>by grind [vY,ZB]
 | k::a,q::b,H,j+1,i,o,c,d,e,f=>by rw[vY]; exact b0G (List.nodup_cons.1 c).2 (by simpa using d) (by simpa using e) (by simpa using f)
def a8X {b:Nat}:∀ {is:List Nat} {os H:aH},is.Nodup->os.length=is.length->(∀ i,i∈is->i<H.length/\i<B.length) ->
 aW w (vY is os H) B b+aW w (is.map (sD H)) (is.map fun i=>B.getD i (0,0,0)) b=aW w H B b+aW w os (is.map fun i=>B.getD i (0,0,0)) b
 | [],[],H,_,_,_=>by rfl
 | [],_::_,_,_,h,_=>by simp at h
 | _::_,[],_,_,h,_=>by simp at h
 | i::is,o::os,H,g,l,f=>by
  obtain ⟨a,c⟩:=List.nodup_cons.1 g;obtain ⟨m,n⟩:=f i (by simp);have p:=a8X (b:=b) (is:=is) (os:=os) (H:=H.set i o) c (by simpa using l) fun j d=>by simpa using f j (by simp[d])
  have q:is.map (sD (H.set i o))=is.map (sD H):=List.map_congr_left fun j d=>by unfold sD; rw[Ad (fun e=>a (by rw[e]; exact d))]
  rw[q] at p;have r:B[i]? = some (B.getD i (0,0,0)):=by rw[aJM,kV n]; rfl
  have t:H[i]? = some (sD H i):=by unfold sD; rw[kV m]
  have u:=a'B (w:=w) (b:=b) (o:=o) t r;rw[vY,zV,zV,Lm,Lm];omega
theorem b_C (h:l_ T=true):T.Nodup:=by
 induction T with
 | nil=>simp
 | cons i T a =>simp only[l_,bQ,F6] at h;refine List.nodup_cons.2 ⟨fun b => ?_,a h.2⟩;rw[a6L.2 b] at h; simp_all
theorem aCW:sD H j=some f↔H[j]? = some (some f):=by grind [sD]
end
theorem uw.sub {P:Program} {cp:CP} (J:VN cp) {g:FuncId} {ids:List Nat} {H:aH} {rP:ai} {r:PV} {h':aH}
 (k:uw P cp g (mJ (wQ ids) rP) ((ids.map (sD H)).map (oG (wQ ids))) r h') (t:l_ ids=true) (b9:∀ i,i∈ids->i<H.length)
 (b0:PV.qA (pO ids) rP=true) (b':∀ i a,i∈ids->H[i]? = some (some a)->PV.qA (pO ids) a=true):uw P cp g rP H (lL (uP ids H.length) r) (zq ids H h'):=by
 have t:=b_C t;refine ⟨k.1,fun c0 M B w b1 b2 f O b3 hv => ?_⟩;have U:H.length=B.length:=f.1;let x:aT:=ids.map fun i=>B.getD i (0,0,0)
 let z:aH:=vY ids (ids.map fun _=>none) H
 have c9:∀ i,i∈ids->B[i]? = some (B.getD i (0,0,0)):=fun i K=>by rw[aJM,kV (by rw[<- U]; grind)]; rfl
 have V:∀ i,i∈ids->i<H.length/\i<B.length:=fun i K=>⟨b9 i K,by rw[<- U]; grind⟩
 have b4:∀ i c,pO ids i=true->B[i]? = some c->x[wQ ids i]? = some c:=fun i c K Q=>by have J:=a6L.1 K;grind [c3B]
 have A:∀ (l:List Nat) (C:aT) (w:World) b,aW w (l.map fun _=>(none:Option (ai))) C b=0:=by
  intro l;induction l with
  | nil=>grind [aW]
  | cons i l ih=>intro C w b; cases C with
   | nil=>simp[aW]
   | cons c C=>rw[zV,Lm,ih]; simp[o1]
 have b5:∀ (w:World) (os:aH),os.length=ids.length->∀ b,aW w (vY ids os H) B b=aW w z B b+aW w os x b:=fun w os hl b=>by have e1:=a8X (w:=w) (b:=b) (is:=ids) (os:=os) t hl V;have e2:=a8X (w:=w) (b:=b) (is:=ids) (os:=ids.map fun _=>none) t (by simp) V;rw[A] at e2;grind
 have D:∀ b,aW w z B b+aW w ((ids.map (sD H)).map (oG (wQ ids))) x b=aW w H B b:=fun b=>by have e2:=a8X (w:=w) (b:=b) (is:=ids) (os:=ids.map fun _=>none) t (by simp) V;rw[A] at e2;rw[Yj];omega
 have c1:tK M x w ((ids.map (sD H)).map (oG (wQ ids))):=by
  refine ⟨by simp[x],fun j c' L => ?_⟩;rw[nP,nP] at L;cases K:ids[j]? with
  | none=>simp_all
  | some i =>
   have J:i∈ids:=tC K;cases ho:sD H i with
   | none=>grind [oG]
   | some a =>
    simp[K,ho,oG] at L; subst L;have b6:=aCW.1 ho;obtain ⟨c,Q,vs,ty,n,G,h3,h4,h5⟩:=f.2 i a b6;refine ⟨c,by grind,vs,ty,n,G,by rw[aHK]; exact h3,fun l p X => ?_,h5⟩;rw[aHJ] at X;cases hq:a[l]? with
    | none=>simp_all
    | some q =>
     simp[hq] at X; subst X;obtain ⟨u,a1,a2,a3,a4⟩:=h4 l q hq;have hd:q.allI (pO ids)=true:=by
      have:=b' i a J b6;have c2:∀ (a:ai) (l:Nat),PV.qA (pO ids) a=true->a[l]? = some q->q.allI (pO ids)=true:=by
       intro a;induction a with
       | nil=>simp
       | cons c a ih =>grind [PV.qA]
      grind
     grind [aHM,aIM]
 refine J (k.2 (fun b=>c0 b+aW w z B b) M x w b1 b2 c1 (fun b=>by have:=D b; have:=O b; omega) (fun b I=>by have:=D b; have:=b3 b I; omega) (c4E b4 b0 hv)) fun e Y he => ?_
 obtain ⟨v,M',N,rfl,y⟩:=he;have d1:x.length=ids.length:=by simp[x]
 have c3:∀ (m:Nat) c,x[m]? = some c->N[m]? = some c:=y.le.blk;have d2:h'.length=N.length:=y.heap.1;have hk:ids.length<=N.length:=by
  rcases Nat.eq_zero_or_pos ids.length with h0 | h0
  .omega
  .have:x[ids.length-1]? = some x[ids.length-1]:=kV (by omega);have:=(jr.1 (c3 _ _ this)).1;omega
 have c4:N.take ids.length=x:=by apply QX;grind
 let B':aT:=B ++ N.drop ids.length
 have E:∀ m c,(fun _=>true) m=true->N[m]? = some c->B'[uP ids H.length m]? = some c:=fun m c _ Q=>by unfold uP;grind
 have S:∀ b,1<=aW w z B b->b<w.heap.size/\aW w ((ids.map (sD H)).map (oG (wQ ids))) x b=0:=fun b I=>by have n:=D b;have G:=O b;grind
 have Z:∀ b,1<=aW w z B b->Y.heap[b]? = w.heap[b]? /\ ∀ o,M' b o=M b o:=fun b I=>y.fr.blk b (S b I).1 (S b I).2
 have GR:∀ (i:Nat) a c,z[i]? = some (some a)->B[i]? = some c->1<=aW w z B c.1:=fun i a c n G=>by have:=nY (w:=w) c.1 n G;grind
 have c5:∀ b,aW Y z B b=aW w z B b:=fun b=>J8 b fun i a c n G=>Ri (Z c.1 (GR i a c n G)).1
 have a':gQ M M' B B':=⟨y.le.mem,fun i c Q=>by grind⟩;have F:∀ b,aW Y (zq ids H h') B' b=aW w z B b+aW Y h' N b:=fun b=>by show aW Y (vY ids ((h'.take ids.length).map (oG (uP ids H.length))) H ++ (h'.drop ids.length).map (oG (uP ids H.length))) (B ++ N.drop ids.length) b=_;rw[aFJ (by rw[Q4]; exact U),b5 Y _ (by simp; omega),Yj,Yj,c5];grind [List.take_append_drop,aFJ]
 refine ⟨v,M',B',rfl,y.mem,a',y.fr.mono fun b I h0=>by have:=D b; omega,⟨?_,fun i a K => ?_⟩,aHM E (aAP r) y.rep,aIM y.tl,fun b I => ?_,fun b => ?_,fun b I => ?_⟩
 .show (vY ids _ H ++ (h'.drop ids.length).map _).length=(B ++ N.drop ids.length).length;grind [Q4]
 .have c2:∀ (m:Nat) (h:ai),h'[m]? = some (some h)->a=mJ (uP ids H.length) h->i=uP ids H.length m->∃ c,B'[i]? = some c/\aAE M' B' Y a c:=fun m h J e1 e2=>by
   obtain ⟨c,Q,vs,ty,n,G,h3,h4,h5⟩:=y.heap.2 m h J;refine ⟨c,by rw[e2]; grind,vs,ty,n,G,by rw[e1,aHK]; exact h3,fun l p X => ?_,h5⟩;rw[e1,aHJ] at X;cases hq:h[l]? with
   | none=>simp_all
   | some q =>simp[hq] at X; subst X;obtain ⟨u,a1,a2,a3,a4⟩:=h4 l q hq;exact ⟨u,a1,aHM E (aAP q) a2,aIM a3,a4⟩
  have d:(vY ids ((h'.take ids.length).map (oG (uP ids H.length))) H ++ (h'.drop ids.length).map (oG (uP ids H.length)))[i]? = some (some a):=K;rcases F9 i H.length with T | c6
  .rw[Ba (by rw[Q4]; exact T)] at d;by_cases J:i∈ids
   .obtain ⟨j,L⟩:=Jh.1 J;have c7:=(jr.1 L).1;have ho:((h'.take ids.length).map (oG (uP ids H.length)))[j]? = some (oG (uP ids H.length) h'[j]):=by rw[nP,qh,ay c7,kV (by omega)]; rfl
    rw[b0G t L ho T] at d;injection d with d
    cases hx:h'[j] with
    | none=>rw[hx] at d; cases d
    | some h =>rw[hx] at d;grind [oG,uP]
   .rw[ZB J] at d;obtain ⟨c,Q,vs,ty,n,G,h3,h4,h5⟩:=f.2 i a d;have b7:z[i]? = some (some a):=by grind [ZB]
    have b8:=Z c.1 (GR i a c b7 Q);refine ⟨c,a'.blk _ _ Q,vs,ty,by rw[Px b8.1,n],G,h3,fun j p L => ?_,fun o=>by rw[b8.2]; exact h5 o⟩;obtain ⟨u,a1,a2,a3,a4⟩:=h4 j p L;refine ⟨u,a1,a2.mono a',a3.kept fun b ho=>Z b ?_,a4⟩;have e1:=nY (w:=w) b b7 Q;have e2:=BN b L (by rw[ww n]; grind:(jk w c.1)[j]? = some u);omega
  .rw[QY (by rw[Q4]; exact c6),Q4,nP,Oq] at d;cases hx:h'[ids.length+(i-H.length)]? with
   | none=>simp_all
   | some o =>
    cases o with
    | none=>simp[hx,oG] at d
    | some h =>grind [oG,uP]
 .have n:=y.own b I; rw[a88,F]; have:=D b; omega
 .have n:=y.cnt b; rw[a88,F]; omega
 .have n:=y.new b I; rw[a88,F]; omega
def Ev.sub {P:Program} {g:FuncId} {ids:List Nat} {H:aH} {rP:ai} {r:PV} {h':aH}
 (k:Ev P g (mJ (wQ ids) rP) ((ids.map (sD H)).map (oG (wQ ids))) r h') (b:l_ ids=true) (c:∀ i,i∈ids->i<H.length)
 (a:PV.qA (pO ids) rP=true) (d:∀ i e,i∈ids->H[i]? = some (some e)->PV.qA (pO ids) e=true):Ev P g rP H (lL (uP ids H.length) r) (zq ids H h') :=
 uw.sub (aA' P) k b c a d
mutual
def PV.xK:PV->Bool
 | .int _ _=>true
 | .bool _=>true
 | .str _=>true
 | .nilp=>true
 | .raw _=>true
 | .agg a=>Yb a
 | .tuple a=>Yb a
 | _=>false
def Yb:ai->Bool
 | []=>true
 | p::a=>p.xK&&Yb a
end
mutual
theorem UW {M e:Mem} {B f:aT}:∀ (p:PV) {v:Value},p.xK=true->dC M B p v->dC e f p v
 | .int _ _,_,_,h=>iK.2 (iK.1 h)
 | .bool _,_,_,h=>oh.2 (oh.1 h)
 | .str _,_,_,h=>kz.2 (kz.1 h)
 | .nilp,_,_,h=>MI.2 (MI.1 h)
 | .raw _,_,_,h=>Ej.2 (Ej.1 h)
 | .agg b,_,a,h=>by obtain ⟨c,hv,d⟩:=rF.1 h;exact rF.2 ⟨c,hv,aHP b a d⟩
 | .tuple b,_,a,h=>by obtain ⟨c,hv,d⟩:=xO.1 h;exact xO.2 ⟨c,hv,aHP b a d⟩
 | .ptr _ _,_,a,_=>by simp[PV.xK] at a
 | .eU _ _,_,a,_=>by simp[PV.xK] at a
 | .cst _,_,a,_=>by simp[PV.xK] at a
 | .sl _ _ _,_,a,_=>by simp[PV.xK] at a
 | .slh _ _ _ _,_,a,_=>by simp[PV.xK] at a
 | .func _ _ _,_,a,_=>by simp[PV.xK] at a
theorem aHP {M d:Mem} {B e:aT}:∀ (a:ai) {c:List Value},Yb a=true->bI M B a c->bI d e a c
 | [],_,_,h=>by rw[gZ] at h ⊢; exact h
 | p::a,_,b,h=>by simp only[Yb,bQ] at b;obtain ⟨u,f,rfl,g,i⟩:=eP.1 h;exact eP.2 ⟨u,f,rfl,UW p b.1 g,aHP a b.2 i⟩
end
theorem La (h:p.xK=true):p.own=false:=by cases p<;>first | rfl | (simp[PV.xK] at h)
def wP (p:PV):Bool:=p.one&&p.xK
def UR (h:wP p=true):p.isAgg=false/\(∀ a,p ≠ .tuple a)/\p.xK=true/\p.size=1:=by unfold wP at h;simp only[bQ] at h;obtain ⟨b,c⟩:=h;cases p<;>first | (simp[PV.one] at b; done) | exact ⟨rfl,(fun a h=>by cases h),c,rfl⟩
def Io (h:aH) (p:PV):PV:=match p with
 | .slh i 0 n 1=>(match h[i]? with | some (some a) => .sl false 1 (a.take n) | _=>p)
 | .slh i 0 n b=>(match h[i]? with | some (some a) => .sl false b (qM b a n) | _=>p)
 | _=>p
def aEL (h:aH) (p:PV):Bool:=match p with
 | .slh i 0 n 1=>(match h[i]? with | some (some a)=>decide (n<=a.length)&&a.all wP | _=>false)
 | .slh i 0 n b=>(match h[i]? with | some (some a)=>decide (n*b<=a.length)&&decide (0<b)&&a.all wP | _=>false)
 | p=>p.flat
def a7M (h:aH):ai->ai
 | [] => []
 | p::a=>Io h p::a7M h a
def YN (h:aH):ai->Bool
 | []=>true
 | p::a=>aEL h p&&YN h a
section
variable {M:Mem} {B:aT} {w:World} {h:aH}
def U0 (h:aH) (B:aT) (b:Nat):Prop:=∃ (i:Nat) (a:ai) (c:Nat×Nat×TypeId),h[i]? = some (some a)/\(B[i]? = some c/\c.2.2≠0)/\c.1=b/\a.all wP=true
open Classical in
def ES (M:Mem) (h:aH) (B:aT) (w:World):Mem:=Ce M.m fun b o=>if ∃ (i:Nat) (a:ai) (c:Nat×Nat×TypeId),h[i]? = some (some a)/\(B[i]? = some c/\c.2.2≠0)/\c.1=b/\a.all wP=true/\o<a.length then w.cell? ⟨b,o,none⟩ else M b o
variable {d9:Nat×Nat×TypeId}
theorem a7N (b:tK M B w h) (d:h[j]? = some (some f)) (e:B[j]? = some d9/\d9.2.2≠0) (o:Nat):M d9.1 o=none:=by obtain ⟨g,a,_,_,_,_,_,_,l⟩:=b.2 j f d;rw[e.1] at a; simp_all
theorem aEM (b:tK M B w h) (d:h[j]? = some (some f)) (e:B[j]? = some d9/\d9.2.2≠0) {o:Nat} (g:f[o]? = some p):∃ v,w.cell? ⟨d9.1,o,none⟩=some v/\dC M B p v/\v.oneCell'=true:=by obtain ⟨l,a,m,n,q,r,t,u,x⟩:=b.2 j f d;rw[e.1] at a; grind [MK,World.cell?]
open Classical in
def YO (d:tK M B w h) (b o:Nat):ES M h B w b o=if ∃ (i:Nat) (a:ai) (c:Nat×Nat×TypeId),h[i]? = some (some a)/\(B[i]? = some c/\c.2.2≠0)/\c.1=b/\a.all wP=true/\o<a.length then w.cell? ⟨b,o,none⟩ else M b o:=by
 unfold ES;refine Iy (fun b o v e => ?_) b o;split
 .rename_i f;obtain ⟨i,a,c,j,l,rfl,_⟩:=f;have:=M.g _ _ _ e;rw[a7N d j l] at this; cases this
 .exact M.g _ _ _ e
theorem bZK (a:tK M B w h):gQ M (ES M h B w) B B:=⟨fun b o v e=>by rw[YO a];grind [a7N],fun _ _ e=>e⟩
theorem bZL (d:BH M w) (a:tK M B w h):BH (ES M h B w) w:=fun b o v e=>by
 rw[YO a] at e;split at e
 .rename_i f;obtain ⟨i,n,c,g,j,rfl,_,l⟩:=f;obtain ⟨p,m,_,q⟩:=aEM a g j (kV l);rw[m] at e; simp_all
 .exact d b o v e
theorem bZJ (o:tK M B w h) {v:Value} (z:dC M B p v) (b:aEL h p=true):dC (ES M h B w) [] (Io h p) v:=by
 have G:p.flat=true->Io h p=p->dC (ES M h B w) [] (Io h p) v:=fun H I=>by rw[I]; exact dC.flat [] H (z.mono (bZK o))
 unfold aEL at b;split at b
 .rename_i i n;split at b
  .rename_i q l;simp only[bQ,tJ] at b;obtain ⟨A,m⟩:=b;have e:Io h (.slh i 0 n 1) = .sl false 1 (q.take n):=by simp only[Io,l]
   rw[e];obtain ⟨c,g,r,hv,t,x⟩:=BP.1 z;have f:=fun p a=>UR (jq.1 m p a)
   refine lM.2 ⟨some ⟨c.1,0,none⟩,g,by rw[hv,ve,Nat.min_eq_left A],by rw[ve]; omega,fun e he=>(f e (ED he)).2.2.2,(fun h=>by cases h),fun _=>⟨c.1,0,rfl,Cb fun j p d => ?_⟩⟩;rw[qh] at d;split at d
   .have y:=(jr.1 d).1;obtain ⟨a1,a2,a3,a4⟩:=f p (tC d);obtain ⟨u,C,D,_⟩:=aEM o l r d;rw[BF a1 a2];refine ⟨u,?_,UW p a3 D⟩;rw[YO o,ay ⟨i,q,c,l,r,rfl,m,by omega⟩,show 0+j*1=j by omega]; exact C
   .cases d
  .cases b
 .rename_i i n E F;split at b
  .rename_i q l;simp only[bQ,tJ] at b;obtain ⟨⟨A,J⟩,m⟩:=b;have e:Io h (.slh i 0 n E) = .sl false E (qM E q n):=by grind [Io]
   rw[e];obtain ⟨c,g,r,hv,t,x⟩:=BP.1 z;have f:=fun p a=>UR (jq.1 m p a)
   obtain ⟨k1,k2,k3⟩:=aB3 J A fun p a=>by have:=jq.1 m p a;grind [wP]
   refine lM.2 ⟨some ⟨c.1,0,none⟩,g,by rw[hv,k1],by rw[k1]; exact t,k2,(fun h=>by omega),fun _=>⟨c.1,0,rfl,k3 _ c.1 fun j p d K => ?_⟩⟩;have y:=(jr.1 d).1;obtain ⟨a1,a2,a3,a4⟩:=f p (tC d);obtain ⟨u,C,D,_⟩:=aEM o l r d;rw[BF a1 a2];refine ⟨u,?_,UW p a3 D⟩;rw[YO o,ay ⟨i,q,c,l,r,rfl,m,y⟩]; exact C
  .cases b
 grind [Io]
def aXT (d:tK M B w h):∀ {a:ai} {e:List Value},bI M B a e->YN h a=true->bI (ES M h B w) [] (a7M h a) e
 | [],_,b,_=>by rw[gZ] at b; subst b; exact gZ.2 rfl
 | p::a,_,b,c=>by obtain ⟨u,f,rfl,g,i⟩:=eP.1 b;simp only[YN,bQ] at c;exact eP.2 ⟨u,f,rfl,bZJ d g c.1,aXT d i c.2⟩
end
theorem Ev.bZI {args:ai} (Z:Ev D r (a7M H args) [] p []) (hr:p.xK=true) (hc:YN H args=true):Ev D r args H p H:=by
 classical
 refine ⟨Z.1,fun S M B w F t d G I hv => ?_⟩;have T:∀ w b,aW w [] [] b=0:=fun w b=>by simp[aW]
 refine (Z.2 (fun b=>S b+aW w H B b) (ES M H B w) [] w F (bZL t d) ⟨rfl,fun i f J=>by simp at J⟩ (fun b=>by rw[T]; have:=G b; omega) (fun b n=>by rw[T]; have:=I b n; omega) (aXT d hv hc)).mono fun e w' he => ?_
 obtain ⟨v,U,B1,rfl,q⟩:=he;have V:B1 = []:=oK (by have:=q.heap.1; simp_all);subst V;have GR:∀ (i:Nat) f c,H[i]? = some (some f)->B[i]? = some c->1<=aW w H B c.1:=fun i f c l m=>by have:=nY (w:=w) c.1 l m;grind
 have x:∀ b,1<=aW w H B b->b<w.heap.size:=fun b n=>by grind
 have y:∀ b,b<w.heap.size->w'.heap[b]? = w.heap[b]? /\ ∀ o,U b o=ES M H B w b o:=fun b n=>q.fr.blk b n (T w b)
 obtain ⟨z,K⟩:∃ z:Mem,∀ b o,z b o=if U0 H B b then none else U b o:=⟨Ce _ _,Iy fun b o v e=>by rw[aX (fun ⟨i,f,c,l,m,E,_⟩=>by subst E; have:=M.g _ _ _ e; rw[a7N d l m] at this; cases this)]; exact q.le.mem _ _ _ ((ES M H B w).g _ _ _ e)⟩
 have hL:∀ b o,U0 H B b->z b o=none:=fun b o L=>by rw[K]; simp_all
 have hN:∀ b o,¬ U0 H B b->z b o=U b o:=fun b o L=>by rw[K]; simp_all
 have a':∀ b o,U0 H B b->M b o=none:=fun b o ⟨i,f,c,l,m,E,_⟩=>by grind [a7N]
 have b0:∀ b o,¬ U0 H B b->ES M H B w b o=M b o:=fun b o L=>by rw[YO d,aX (fun ⟨i,f,c,l,m,E,X,_⟩=>L ⟨i,f,c,l,m,E,X⟩)]
 have A:∀ b o,b<w.heap.size->z b o=M b o:=fun b o n=>by simp_all
 have N:gQ M z B B:=⟨fun b o v e=>by have:=Af _ _ (t b o v e).1;rw[A b o this]; exact e,fun _ _ H=>H⟩;have b1:∀ b,aW w' H B b=aW w H B b:=fun b=>J8 b fun i f c l m=>Ri (y c.1 (x _ (GR i f c l m))).1
 refine ⟨v,z,B,rfl,fun b o u e => ?_,N,⟨q.fr.os,q.fr.tape,q.fr.output,q.fr.size,fun b n _=>⟨(y b n).1,fun o=>A b o n⟩⟩,⟨d.1,fun i f J => ?_⟩,UW p hr q.rep,ig (La hr),fun b _ => ?_,fun b => ?_,fun b n => ?_⟩
 .by_cases L:U0 H B b;simp_all
  .rw[hN b o L] at e; exact q.mem b o u e
 .obtain ⟨c,C,vs,ty,l,m,E,X,h5⟩:=d.2 i f J;have O:=x _ (GR i f c J C);refine ⟨c,C,vs,ty,by rw[Px (y c.1 O).1,l],m,E,fun j a hj => ?_,fun o=>by rw[A c.1 o O]; exact h5 o⟩;obtain ⟨u,hu,Y,hT,Q⟩:=X j a hj;refine ⟨u,hu,Y.mono N,hT.kept fun b ho => ?_,Q⟩;have e1:=nY (w:=w) b J C;have e2:=BN b hj (by rw[ww l]; grind:(jk w c.1)[j]? = some u);have b2:=x b (by omega);simp_all
 grind [gY,La]
 grind [gY,La]
 grind [gY,La]
theorem Ev.c8B {args:ai} (h0:Ev D r args [] (.sl true 1 f) []) (C:0<f.length) (N:f.all wP=true):Ev D r args [] (.slh 0 0 f.length 1) [some f]:=by
 refine ⟨h0.1,fun O M B w G n t H I hv => ?_⟩;have hz:∀ w b,aW w [] B b=0:=fun w b=>by simp[aW]
 refine (h0.2 O M B w G n t H I hv).mono fun e w' he => ?_
 obtain ⟨v,M1,B1,rfl,d⟩:=he;have Q:B1 = []:=oK (by have:=d.heap.1; simp_all);have S:B = []:=oK (by have:=t.1; simp_all);subst Q;subst S;have m:∀ w b,aW w [] [] b=0:=fun w b=>by simp[aW]
 obtain ⟨A,T,E,U,hs,_,hA⟩:=lM.1 d.rep;obtain ⟨b,a',rfl,hL⟩:=hA (fun e=>by rw[e] at C; simp at C);obtain ⟨_,_,ht⟩:=d.tl.s 1 f _ _ _ rfl E;obtain ⟨J,K,t1,t2,t3,_,t4⟩:=ht _ rfl;simp only at t1 t2 t3 t4;subst t4;have x:∀ a,cu (.sl true 1 f) v a=if b=a then 1 else 0:=fun a=>by rw[E]; rfl
 have b0:w.heap.size<=b:=by
  rcases F9 b w.heap.size with h | h
  .have:=d.own b h;rw[m,m,x,ay rfl] at this;omega
  .exact h
 have L:=fun p hp=>UR (jq.1 N p hp)
 have V:∀ (y:List Value) a,iP f y a=0:=by
  intro y a;have:∀ (l:ai) (y:List Value),(∀ p,p∈l->p.own=false)->iP l y a=0:=by
   intro l;induction l with
   | nil=>intro y _; cases y<;>rfl
   | cons p l ih =>
    intro y hl;cases y with
    | nil=>rfl
    | cons u y=>rw[iP,gY (hl p (by simp)),ih y fun q hq=>hl q (by simp[hq])]
  grind [La]
 have X:∀ a,aW w' [some f] [(b,J.size,K+1)] a=if b=a then 1 else 0:=fun a=>by grind [aW]
 obtain ⟨Y,F⟩:∃ Y:Mem,∀ a o,Y a o=if a=b then none else M1 a o:=⟨Ce _ _,Iy fun a o u e=>by have:=Af _ _ (n a o u (M.g _ _ _ e)).1;simp only at this;rw[aX (by omega)]; exact d.le.mem _ _ _ (M.g _ _ _ e)⟩
 refine ⟨v,Y,[(b,J.size,K+1)],rfl,fun a o u e => ?_,⟨fun a o u e => ?_,fun i c e=>by simp at e⟩,⟨d.fr.os,d.fr.tape,d.fr.output,d.fr.size,fun a z _ => ?_⟩,⟨rfl,fun i b1 Z => ?_⟩,BP.2 ⟨(b,J.size,K+1),T,⟨rfl,by simp⟩,E,U,by omega⟩,ig rfl,fun a z => ?_,fun a => ?_,fun a z => ?_⟩
 .rw[F] at e;split at e
  .cases e
  .exact d.mem a o u e
 .have:=Af _ _ (n a o u e).1;simp only at this;rw[F,aX (by omega)]; exact d.le.mem a o u e
 .have h1:=d.fr.blk a z (m w a);grind
 .cases i with
  | succ i=>simp at Z
  | zero =>simp at Z;subst Z;refine ⟨(b,J.size,K+1),rfl,J,K+1,JJ t1,⟨rfl,rfl⟩,by omega,fun j p hj => ?_,fun o=>by rw[F,ay rfl]⟩;obtain ⟨a1,a2,a3,a4⟩:=L p (tC hj);obtain ⟨u,hu,hr⟩:=(BF a1 a2).1 (Gh hL hj);have hc:=(d.mem _ _ _ hu);grind [UW,ig,La,World.cell?]
 .rw[X,m,aX (by omega),gY rfl]; omega
 .have:=d.cnt a;rw[m,x] at this;rw[X,gY rfl]; omega
 .have:=d.new a z;rw[m,x] at this;rw[X,gY rfl]; omega
def AC (b:Nat) (e:PV):Bool:=match e with
 | .agg a=>Nat.beq a.length b&&a.all wP
 | _=>false
def aNZ {b:Nat}:∀ {a:ai},a.all (AC b)=true->(nG a).length=a.length*b
 | [],_=>by simp[nG]
 | e::a,h=>by
  simp only[DX,bQ] at h;cases e with
  | agg c =>have:=Bc (by have:=h.1; simp only[AC,bQ] at this; exact this.1);rw[nG,aY,aNZ h.2,aZ,this,bT,C_]; omega
  | _=>simp[AC] at h
theorem aBL {c:Nat}:∀ {a:ai},a.all (AC c)=true->(nG a).all wP=true
 | [],_=>rfl
 | e::a,h=>by
  simp only[DX,bQ] at h;cases e with
  | agg f =>
   have b:=h.1;simp only[AC,bQ] at b;rw[nG,List.all_append,aBL h.2,Bool.and_true,List.all_map];refine jq.2 fun p d => ?_
   have:=jq.1 b.2 p d;obtain ⟨a1,a2,a3,a4⟩:=UR this;show wP p.un=true;cases p<;>first | exact this | (simp[PV.xK] at a3; done)
  | _=>simp[AC] at h
theorem aY5 {M:Mem} {B:aT} {i b:Nat}:∀ {a:ai} {o:Nat},nz M B i a b o->a.all (AC i)=true->∀ {q:Nat} {p:PV},(nG a)[q]? = some p->∃ u,M b (o+q)=some u/\dC M B p u
 | [],_,_,_,q,p,h=>by simp_all
 | e::a,o,m,c,q,p,h=>by
  simp only[DX,bQ] at c;obtain ⟨n,r⟩:=YT.1 m;cases e with
  | agg j =>
   have l:=c.1;simp only[AC,bQ] at l;have t:=Bc l.1;rw[nG] at h;rcases F9 q j.length with hq | hq
   .rw[Ba (by simpa using hq),nP] at h;cases d:j[q]? with
    | none=>simp[d] at h
    | some x =>
     rw[d] at h; injection h with h; subst h
     obtain ⟨u,f,g⟩:=WL (CZ.1 n) d;exact ⟨u,f,uh.2 g⟩
   .rw[QY (by simpa using hq)] at h;simp only[aZ] at h;obtain ⟨u,f,g⟩:=aY5 r c.2 h;exact ⟨u,by rw[<- f]; congr 1; omega,g⟩
  | _=>have:=c.1; simp[AC] at this
theorem Ev.c8D {args:ai} (h0:Ev D r args [] (.sl true j f) []) (E:0<f.length) (F:f.all (AC j)=true):Ev D r args [] (.slh 0 0 f.length j) [some (nG f)]:=by
 refine ⟨h0.1,fun T M B w J t x K L hv => ?_⟩;have hz:∀ w b,aW w [] B b=0:=fun w b=>by simp[aW]
 refine (h0.2 T M B w J t x K L hv).mono fun e w' he => ?_
 obtain ⟨v,M1,B1,rfl,m⟩:=he;have U:B1 = []:=oK (by have:=m.heap.1; simp_all);have V:B = []:=oK (by have:=x.1; simp_all);subst U;subst V;have n:∀ w b,aW w [] [] b=0:=fun w b=>by simp[aW]
 obtain ⟨A,X,G,N,hs,_,hA⟩:=lM.1 m.rep;obtain ⟨b,a',rfl,hL⟩:=hA (fun e=>by rw[e] at E; simp at E);obtain ⟨_,_,ht⟩:=m.tl.s j f _ _ _ rfl G;obtain ⟨I,O,t1,t2,t3,_,t4⟩:=ht _ rfl;simp only at t1 t2 t3 t4;subst t4;have y:∀ d,cu (.sl true j f) v d=if b=d then 1 else 0:=fun d=>by rw[G]; rfl
 have b0:w.heap.size<=b:=by
  rcases F9 b w.heap.size with h | h
  .have:=m.own b h;rw[n,n,y,ay rfl] at this;omega
  .exact h
 have Y:=aNZ F;have Q:=fun p hp=>UR (jq.1 (aBL F) p hp)
 have Z:∀ (z:List Value) d,iP (nG f) z d=0:=by
  intro z d;have:∀ (l:ai) (z:List Value),(∀ p,p∈l->p.own=false)->iP l z d=0:=by
   intro l;induction l with
   | nil=>intro z _; cases z<;>rfl
   | cons p l ih =>
    intro z hl;cases z with
    | nil=>rfl
    | cons u z=>rw[iP,gY (hl p (by simp)),ih z fun q hq=>hl q (by simp[hq])]
  grind [La]
 have hH:∀ d,aW w' [some (nG f)] [(b,I.size,O+1)] d=if b=d then 1 else 0:=fun d=>by grind [aW]
 have S:f.length*j<=I.size:=jO (NV _ N) (by omega);obtain ⟨M2,H⟩:∃ M2:Mem,∀ d o,M2 d o=if d=b then none else M1 d o:=⟨Ce _ _,Iy fun d o u e=>by have:=Af _ _ (t d o u (M.g _ _ _ e)).1;simp only at this;rw[aX (by omega)]; exact m.le.mem _ _ _ (M.g _ _ _ e)⟩
 refine ⟨v,M2,[(b,I.size,O+1)],rfl,fun d o u e => ?_,⟨fun d o u e => ?_,fun i c e=>by simp at e⟩,⟨m.fr.os,m.fr.tape,m.fr.output,m.fr.size,fun d C _ => ?_⟩,⟨rfl,fun i b1 hi => ?_⟩,BP.2 ⟨(b,I.size,O+1),X,⟨rfl,by simp⟩,G,N,by omega⟩,ig rfl,fun d C => ?_,fun d => ?_,fun d C => ?_⟩
 .rw[H] at e;split at e
  .cases e
  .exact m.mem d o u e
 .have:=Af _ _ (t d o u e).1;simp only at this;rw[H,aX (by omega)]; exact m.le.mem d o u e
 .have h1:=m.fr.blk d C (n w d);grind
 .cases i with
  | succ i=>simp at hi
  | zero =>simp at hi;subst hi;refine ⟨(b,I.size,O+1),rfl,I,O+1,JJ t1,⟨rfl,rfl⟩,by rw[Y]; exact S,fun a p hj => ?_,fun o=>by rw[H,ay rfl]⟩;obtain ⟨a1,a2,a3,a4⟩:=Q p (tC hj);obtain ⟨u,hu,hr⟩:=aY5 hL F hj;rw[xh] at hu;have hc:=(m.mem _ _ _ hu);grind [UW,ig,La,World.cell?]
 .rw[hH,n,aX (by omega),gY rfl]; omega
 .have:=m.cnt d;rw[n,y] at this;rw[hH,gY rfl]; omega
 .have:=m.new d C;rw[n,y] at this;rw[hH,gY rfl]; omega
theorem c41 (f:Nat->Nat):∀ {p:PV},wP p=true->lL f p=p:=fun {p} h=>by obtain ⟨b,c,a,_⟩:=UR h;cases p<;>first | rfl | (simp[PV.xK] at a; done) | simp_all | simp_all
theorem aHL (f:Nat->Nat):∀ {a:ai},a.all wP=true->mJ f a=a
 | [],_=>rfl
 | p::a,h=>by simp only[DX,bQ] at h;rw[mJ,c41 f h.1,aHL f h.2]
mutual
theorem a_2 (f:Nat->Nat):∀ p:PV,p.flat=true->lL f p=p
 | .func _ a c,h=>by simp only[PV.flat,bQ] at h; simp only[lL,Ph f a h.1,Ph f c h.2]
 | .agg b,h=>by simp only[PV.flat] at h; simp only[lL,Ph f b h]
 | .tuple b,h=>by simp only[PV.flat] at h; simp only[lL,Ph f b h]
 | .ptr _ _,h=>by simp[PV.flat] at h
 | .eU _ _,h=>by simp[PV.flat] at h
 | .slh _ _ _ _,h=>by simp[PV.flat] at h
 | .int _ _,_=>rfl
 | .bool _,_=>rfl
 | .str _,_=>rfl
 | .nilp,_=>rfl
 | .raw _,_=>rfl
 | .cst _,_=>rfl
 | .sl _ _ _,_=>rfl
 | .eF _,_=>rfl
 | .pW _ _ _ _,_=>rfl
 | .mp _,_=>rfl
theorem Ph (f:Nat->Nat):∀ a:ai,PV.flats a=true->mJ f a=a
 | [],_=>rfl
 | p::a,h=>by simp only[PV.flats,bQ] at h;rw[mJ,a_2 f p h.1,Ph f a h.2]
end
mutual
theorem aLA {D:Nat->Bool}:∀ p:PV,p.flat=true->p.allI D=true
 | .func _ a c,h=>by simp only[PV.flat,bQ] at h; simp only[PV.allI,O3 a h.1,O3 c h.2,NK]
 | .agg b,h=>by simp only[PV.flat] at h; simp only[PV.allI,O3 b h]
 | .tuple b,h=>by simp only[PV.flat] at h; simp only[PV.allI,O3 b h]
 | .ptr _ _,h=>by simp[PV.flat] at h
 | .eU _ _,h=>by simp[PV.flat] at h
 | .slh _ _ _ _,h=>by simp[PV.flat] at h
 | .int _ _,_=>rfl
 | .bool _,_=>rfl
 | .str _,_=>rfl
 | .nilp,_=>rfl
 | .raw _,_=>rfl
 | .cst _,_=>rfl
 | .sl _ _ _,_=>rfl
 | .eF _,_=>rfl
 | .pW _ _ _ _,_=>rfl
 | .mp _,_=>rfl
theorem O3 {D:Nat->Bool}:∀ a:ai,PV.flats a=true->PV.qA D a=true
 | [],_=>rfl
 | p::a,h=>by simp only[PV.flats,bQ] at h;simp only[PV.qA,aLA p h.1,O3 a h.2,NK]
end
theorem Ev.thaw {P:Program} {g:FuncId} {args a:ai} {H:aH} (f:Ev P g args [] (.sl true 1 a) []) (j:PV.flats args=true) (b:0<a.length) (d:a.all wP=true):Ev P g args H (.slh H.length 0 a.length 1) (H ++ [some a]):=by
 have l:=Ev.c8B f b d;have m:mJ (wQ []) args=args:=Ph _ _ j;have n:=Ev.sub (ids := []) (H:=H) (rP:=args) (r := .slh 0 0 a.length 1) (h' := [some a]) (by rw[m]; exact l) rfl (fun i e=>by simp at e) (by
  have:∀ c:ai,PV.flats c=true->PV.qA (pO []) c=true:=fun c h=>O3 c h
  simp_all) (fun i o e=>by simp at e)
 grind [zq,oG,vY,aHL,lL,uP]
theorem Ev.c8C {P:Program} {g:FuncId} {args:ai} {c:Nat} {a:ai} {H:aH} (j:Ev P g args [] (.sl true c a) []) (l:PV.flats args=true) (b:0<a.length) (e:a.all (AC c)=true):Ev P g args H (.slh H.length 0 a.length c) (H ++ [some (nG a)]):=by
 have m:=Ev.c8D j b e;have n:mJ (wQ []) args=args:=Ph _ _ l;have o:=Ev.sub (ids := []) (H:=H) (rP:=args) (r := .slh 0 0 a.length c) (h' := [some (nG a)]) (by rw[n]; exact m) rfl (fun i f=>by simp at f) (by
  have:∀ d:ai,PV.flats d=true->PV.qA (pO []) d=true:=fun d h=>O3 d h
  simp_all) (fun i p f=>by simp at f)
 grind [zq,oG,vY,aHL,aBL,lL,uP]
abbrev R:=Option (PV×aH)
abbrev l7:=FuncId->ai->aH->R
def aB (b:Bool) (A B:R):R:=match b with | true=>A | false=>B
def bJ (b:Bool) (A:R):R:=match b with | true=>A | false=>none
def dD (a:ai) (n:Int) (K:PV->R):R:=if 0<=n then (match a[n.toNat]? with | some e=>K e | none=>none) else none
def xx (s:ByteArray) (n:Int) (K:Int->R):R:=if 0<=n then (match s[n.toNat]? with | some b=>K b.toNat | none=>none) else none
mutual
def PV.qo:PV->PV->Bool
 | .int k n,q=>(match q with | .int t j=>decide (k=t)&&decide (n=j) | _=>false)
 | .bool b,q=>(match q with | .bool u=>b==u | _=>false)
 | .str s,q=>(match q with | .str w=>s.data.toList==w.data.toList | _=>false)
 | .nilp,q=>(match q with | .nilp=>true | _=>false)
 | .raw v,q=>(match v,q with | .nilFunc,.raw .nilFunc=>true | .nilIface,.raw .nilIface=>true | _,_=>false)
 | .ptr i o,q=>(match q with | .ptr m h=>Nat.beq i m&&Nat.beq o h | _=>false)
 | .eU i o,q=>(match q with | .eU m h=>Nat.beq i m&&Nat.beq o h | _=>false)
 | .cst e,q=>(match q with | .cst x=>PV.qo e x | _=>false)
 | .sl o z l,q=>(match q with | .sl h p d=>(o==h&&Nat.beq z p)&&PV.Ar l d | _=>false)
 | .slh i o n z,q=>(match q with | .slh m h j p=>(Nat.beq i m&&Nat.beq o h)&&(Nat.beq n j&&Nat.beq z p) | _=>false)
 | .eF l,q=>(match q with | .eF d=>l==d | _=>false)
 | .pW o n z l,q=>(match q with | .pW h j p d=>((o==h&&Nat.beq n j)&&Nat.beq z p)&&PV.Ar l d | _=>false)
 | .mp l,q=>(match q with | .mp d=>PV.Ar l d | _=>false)
 | .func f a c,q=>(match q with | .func y A B=>(match f,y with | .func g,.func r=>Nat.beq g r | .yield g,.yield r=>Nat.beq g r | _,_=>false)&&(PV.Ar a A&&PV.Ar c B) | _=>false)
 | .agg l,q=>(match q with | .agg d=>PV.Ar l d | _=>false)
 | .tuple l,q=>(match q with | .tuple d=>PV.Ar l d | _=>false)
def PV.Ar:ai->ai->Bool
 | [],l=>(match l with | []=>true | _::_=>false)
 | p::a,l=>(match l with | []=>false | q::b=>PV.qo p q&&PV.Ar a b)
end
mutual
theorem PV.a1X:∀ {p q:PV},PV.qo p q=true->p=q
 | .int k n,q,h=>by cases q<;>simp[PV.qo] at h; rw[h.1,h.2]
 | .bool b,q,h=>by cases q<;>simp[PV.qo] at h; rw[h]
 | .str s,q,h=>by
  cases q<;>simp[PV.qo] at h
  rename_i g;cases s; cases g; simp only at h; rw[h]
 | .nilp,q,h=>by cases q<;>simp[PV.qo] at h; rfl
 | .raw v,q,h=>by
  unfold PV.qo at h;split at h
  .rfl
  .rfl
  .cases h
 | .ptr i o,q,h=>by cases q<;>simp[PV.qo] at h; rw[h.1,h.2]
 | .eU i o,q,h=>by cases q<;>simp[PV.qo] at h; rw[h.1,h.2]
 | .cst e,q,h=>by cases q<;>simp[PV.qo] at h; rw[PV.a1X h]
 | .sl o z l,q,h=>by cases q<;>simp[PV.qo] at h; rw[h.1.1,h.1.2,PV.Fp h.2]
 | .slh i o n z,q,h=>by cases q<;>simp[PV.qo] at h; rw[h.1.1,h.1.2,h.2.1,h.2.2]
 | .eF l,q,h=>by cases q<;>simp[PV.qo] at h; rw[h]
 | .pW o n z l,q,h=>by cases q<;>simp[PV.qo] at h; rw[h.1.1.1,h.1.1.2,h.1.2,PV.Fp h.2]
 | .mp l,q,h=>by cases q<;>simp[PV.qo] at h; rw[PV.Fp h]
 | .func f a c,q,h=>by
  cases q<;>simp[PV.qo] at h
  obtain ⟨d,j,m⟩:=h;rw[PV.Fp j,PV.Fp m];split at d
  .simp at d; rw[d]
  .simp at d; rw[d]
  .cases d
 | .agg l,q,h=>by cases q<;>simp[PV.qo] at h; rw[PV.Fp h]
 | .tuple l,q,h=>by cases q<;>simp[PV.qo] at h; rw[PV.Fp h]
theorem PV.Fp:∀ {l a:ai},PV.Ar l a=true->l=a
 | [],a,h=>by cases a<;>simp[PV.Ar] at h; rfl
 | p::b,a,h=>by
  cases a<;>simp[PV.Ar] at h
  rw[PV.a1X h.1,PV.Fp h.2]
end
def Fq:aH->aH->Bool
 | [],l=>(match l with | []=>true | _::_=>false)
 | o::d,l=>(match l with
  | []=>false
  | e::c=>(match o,e with | none,none=>true | some a,some b=>PV.Ar a b | _,_=>false)&&Fq d c)
theorem X_:∀ {l a:aH},Fq l a=true->l=a
 | [],a,h=>by cases a<;>simp[Fq] at h; rfl
 | o::d,a,h=>by
  cases a with
  | nil=>simp[Fq] at h
  | cons e c =>
   simp only[Fq,bQ] at h;rw[X_ h.2];have b:=h.1;split at b
   .rfl
   .rw[PV.Fp b]
   .cases b
def OL (a b:PV×aH):R:=open Classical in match PV.qo a.1 b.1&&Fq a.2 b.2 with | true=>some a | false=>if a=b then some a else none
theorem bA0 (a:PV×aH):OL a a=some a:=by grind [OL]
theorem bA1 {b v:PV×aH} (h:OL U b=some v):U=v/\U=b:=by grind [OL,PV.a1X,X_]
def LZ (a:ai) (K:Bool->R):R:=match K false with
 | some (r,h)=>(match a.isEmpty with | false=>some (r,h) | true=>match K true with | some (b,h')=>OL (r,h) (b,h') | none=>none)
 | none=>none
def J3 (a:ai) (n:Nat) (K:PV->R):R:=match a[n]? with | some e=>K e | none=>none
def kE (C:l7) (g:FuncId) (args:ai) (K:PV->R):R:=match C g args [] with | some (r,[])=>K r | _=>none
def Bo (C:l7) (g:FuncId) (args:ai) (h:aH) (K:PV->aH->R):R:=match C g args h with | some (r,h')=>K r h' | none=>none
def Wi (p:PV) (K:Bool->R):R:=match p with | .func _ _ _=>K false | .raw .nilFunc=>K true | _=>none
def SC (p:PV) (K:FuncId->ai->ai->R):R:=match p with | .func (.func g) first a=>K g first a | _=>none
def W9:ai->Nat->Int->(PV->R)->R
 | [],_,_,_=>none
 | p::r,k,n,K=>aB (n==(k:Int)) (K p) (W9 r (k+1) n K)
def LW (s:Option IntKind) (L:ai) (q:PV) (A:PV->R) (B:R):R:=match yz s L q with
 | some (some p)=>A p
 | some none=>B
 | none=>none
def U5 (s:Option IntKind):ai->PV->(PV->R)->R->R
 | k::v::L,q,A,B=>(match m_ s q k with | some b=>aB b (A v) (U5 s L q A B) | none=>none)
 | [],_,_,B=>B
 | [_],_,_,_=>none
structure XE where
 E:AE
 C:l7
 V:TypeId->PV->(PV->R)->R
 W:FuncId->aH->PV->aH->(PV->aH->R)->R
 L:List Nat->Nat->Code->(AX->ASt->R)->ASt->R
 m0:Nat
def a97 (d:Nat) (v:Bool):gp->gp
 | [] => []
 | (j,q)::l=>bif Nat.beq j d then (j,.bool v)::l else (j,q)::a97 d v l
def ASt.lit (d:Nat) (v:Bool) (a:ASt):ASt := { a with s:=a97 d v a.s }
theorem aID {d:Nat} {v:Bool}:∀ {s:gp},dF d s=some (.bool v)->a97 d v s=s
 | [],h=>by rfl
 | (j,q)::l,h=>by
  rw[dF] at h;rw[a97];by_cases e:j=d;simp_all
  .rw[aX e] at h;have a:Nat.beq j d=false:=by
    cases h:Nat.beq j d
    .rfl
    .exact absurd (Bc h) e
   rw[a,aID h]; rfl
def fD (E:AE) (a:Option Nat) (p:PV) (K:ASt->R) (c:ASt):R:=match ASt.put E a p c with | some b=>K b | none=>none
def Yp (E:AE) (a:Option Nat) (p:Option PV) (K:ASt->R) (b:ASt):R:=match p with | some p=>fD E a p K b | none=>none
def qp (X:XE) (o:Oper) (K:ASt->R) (b:ASt):R:=match dS X.E o b with | some (p,a)=>fD X.E o.dst p K a | none=>none
def OV (X:XE) (c:Option Nat) (f:Nat) (e:ai) (g i:Option Operand) (K:ASt->R) (d:ASt):R :=
 match g,i with
 | none,none=>fD X.E c (.sl false f e) K d
 | some l,none=>(match d.rd l with | some (.int _ a)=>bJ (decide (0<=a)&&decide (a<=e.length)) (fD X.E c (.sl false f (e.drop a.toNat)) K d) | _=>none)
 | none,some h=>(match d.rd h with | some (.int _ b)=>bJ (decide (0<=b)&&decide (b<=e.length)) (fD X.E c (.sl false f (e.take b.toNat)) K d) | _=>none)
 | some l,some h=>(match d.rd l,d.rd h with | some (.int _ a),some (.int _ b)=>bJ (decide (0<=a)&&decide (a<=b)&&decide (b<=e.length)) (fD X.E c (.sl false f ((e.take b.toNat).drop a.toNat)) K d) | _,_=>none)
def OW (X:XE) (c:Option Nat) (s:ByteArray) (e f:Option Operand) (K:ASt->R) (d:ASt):R :=
 match e,f with
 | none,none=>fD X.E c (.str (s.extract 0 s.size)) K d
 | some l,none=>(match d.rd l with | some (.int _ a)=>bJ (decide (0<=a)&&decide (a<=s.size)) (fD X.E c (.str (s.extract a.toNat s.size)) K d) | _=>none)
 | none,some h=>(match d.rd h with | some (.int _ b)=>bJ (decide (0<=b)&&decide (b<=s.size)) (fD X.E c (.str (s.extract 0 b.toNat)) K d) | _=>none)
 | some l,some h=>(match d.rd l,d.rd h with | some (.int _ a),some (.int _ b)=>bJ (decide (0<=a)&&decide (a<=b)&&decide (b<=s.size)) (fD X.E c (.str (s.extract a.toNat b.toNat)) K d) | _,_=>none)
def aBF (X:XE) (a:Option Nat) (t:TypeId) (b:Nat) (c:ai) (n:Int) (K:ASt->R) (d:ASt):R :=
 match yf X.E.P t,nV X.E.P t with
 | some e,some I=>if I.size=b then dD c n fun p=>X.V e p fun q=>fD X.E a (.cst q) K d else none
 | _,_=>none
def Rq (X:XE) (a:Option Nat) (k c:IntKind) (b r:Int) (K:ASt->R) (d:ASt):R:=if k=c then bJ (!(b==0)) (fD X.E a (.int k r) K d) else none
def aNG (X:XE) (a:Option Nat) (k:IntKind) (b r:Int) (K:ASt->R) (c:ASt):R:=bJ (decide (0<=b)) (fD X.E a (.int k r) K c)
def a0V (P:Program) (t:TypeId):Option (Nat×TypeId):=match P.underlying t with
 | some (.array m e)=>(match ti P e with | some I=>(match Nat.beq I.size 1 && !I.agg with | true=>some (m,e) | false=>none) | none=>none)
 | _=>none
def aVP (E:AE):Operand->Bool
 | .tmp t=>pO E.sy t
 | _=>false
def WY (X:XE) (c:Option Nat) (t:TypeId) (i e n d:Nat) (g j:Option Operand) (K:ASt->R) (f:ASt):R :=
 match nV X.E.P t with
 | some I=>(match Nat.beq I.size d&&Nat.blt 0 d with
  | true=>(match g,j with
   | none,some h=>(match f.rd h with | some (.int _ b)=>bJ (decide (0<=b)&&decide (b<=(n:Int))&&decide (0<n)) (fD X.E c (.slh i e b.toNat d) K f) | _=>none)
   | some l,none=>(match f.rd l with | some (.int _ a)=>bJ (decide (0<=a)&&decide (a<=(n:Int))) (aB (decide (a<(n:Int))) (fD X.E c (.slh i (e+a.toNat*d) (n-a.toNat) d) K f) (fD X.E c (.sl false d []) K f)) | _=>none)
   | _,_=>none)
  | false=>none)
 | none=>none
def cBS (X:XE) (f:Option Nat) (t:TypeId) (x y:Operand) (K:ASt->R) (c:ASt):R :=
 match nV X.E.P t,c.rd x,c.rd y with
 | some I,some (.slh i a n b),some (.sl _ d o)=>(match c.h[i]? with
  | some (some e)=>(match Nat.beq I.size b&&(Nat.blt 0 b&&(Nat.beq d b||Nat.beq d 0)) with
   | true=>bJ (decide (a+n*b<=e.length)) (fD X.E f (.int .i64 ((Nat.min o.length n:Nat):Int)) K { c with h:=c.h.set i (some (e.take a ++ (nG o).take (Nat.min o.length n*b) ++ e.drop (a+Nat.min o.length n*b))) })
   | false=>none)
  | _=>none)
 | some I,some (.slh i a n b),some (.slh j g m d)=>(match c.h[i]?,c.h[j]? with
  | some (some e),some (some l)=>(match Nat.beq I.size b&&(Nat.blt 0 b&&Nat.beq d b) with
   | true=>bJ (decide (a+n*b<=e.length)&&decide (g+m*b<=l.length)) (fD X.E f (.int .i64 ((Nat.min m n:Nat):Int)) K { c with h:=c.h.set i (some (e.take a ++ (((l.drop g).take (m*b)).map PV.un).take (Nat.min m n*b) ++ e.drop (a+Nat.min m n*b))) })
   | false=>none)
  | _,_=>none)
 | _,_,_=>none
def WF (X:XE) (c:Option Nat) (t:TypeId) (x:Operand) (K:ASt->R) (b:ASt):R :=
 match nV X.E.P t,b.rd x,c with
 | some I,some (.slh i a n d),none=>(match b.h[i]? with
  | some (some e)=>(match Nat.beq I.size d with
   | true=>bJ (decide (a+n*d<=e.length)) (K { b with h:=b.h.set i (some (e.take a ++ (F5 n I).map PV.un ++ e.drop (a+n*d))) })
   | false=>none)
  | _=>none)
 | some _,some (.sl _ _ []),none=>K b
 | _,_,_=>none
def Rt (X:XE) (a:Option Nat) (t:TypeId) (p:PV) (c:Bool) (K:ASt->R) (d:ASt):R:=match Tc X.E.P t with
 | true=>Wi p fun b=>fD X.E a (.bool (b==c)) K d
 | false=>none
def aFE (b:Bool) (a:Nat) (n:Int) (c:Nat):Nat:=match b with
 | true=>a+n.toNat*c
 | false=>(match a,c with | 0,1=>n.toNat | _,_=>a+n.toNat*c)
theorem b_K (b:Bool) (a:Nat) (n:Int) (c:Nat):aFE b a n c=a+n.toNat*c:=by unfold aFE;grind
def b'9 (P:Program) (t:TypeId):TypeId:=match P.underlying t with | some (.map _ e)=>e | _=>0
def a2B (X:XE) (a:Option Nat) (t:TypeId) (c:Bool) (m q:PV) (K:ASt->R) (b:ASt):R :=
 match Eb X.E.P t,m with
 | some (s,z),.eU 0 i=>(match b.h[i]? with
  | some (some d)=>(match Cc d with
   | some (_,L)=>(match zy s q with
    | true=>(match fB X.E.sy a with
     | true=>U5 s L q (fun p=>fD X.E a (EY c z (some p)) K b) (fD X.E a (EY c z none) K b)
     | false=>LW s L q (fun p=>X.V (b'9 X.E.P t) p fun e=>fD X.E a (EY c z (some e)) K b) (fD X.E a (EY c z none) K b))
    | false=>none)
   | none=>none)
  | _=>none)
 | _,_=>none
def Rw (X:XE) (a:Option Nat) (t:TypeId) (m q x:PV) (K:ASt->R) (c:ASt):R :=
 match Eb X.E.P t,m,a with
 | some (s,_),.eU 0 i,none=>(match c.h[i]? with
  | some (some d)=>(match Cc d with
   | some (b,L)=>(match zy s q with
    | true=>bJ (uZ s L q&&(!b||x.flat)) (K { c with h:=c.h.set i (some [qQ b (lJ s L q x)]) })
    | false=>none)
   | none=>none)
  | _=>none)
 | _,_,_=>none
def cBT (X:XE) (a:Option Nat) (b:Bool) (q:Option PV) (K:ASt->R) (c:ASt):R:=match b,q with
 | true,some (.eU T i)=>(match c.h[i]? with
  | some (some d)=>(match bWY d with
   | some (s,p)=>(match Nat.beq T Vd with
    | true=>bJ (decide (0<=p)) (aB (decide (p<(s.size:Int))) (fD X.E a (.tuple [.bool true,.int .i64 p,.int .i32 (bW' s p)]) K { c with h:=c.h.set i (some [bWX s (bWZ s p)]) }) (fD X.E a (.tuple [.bool false]) K c))
    | false=>none)
   | none=>none)
  | _=>none)
 | _,_=>none
def Ru (X:XE) (o:Oper) (K:ASt->R) (g:ASt):R :=
 match o.op with
 | .convert s d x=>(match g.rd x with
  | some (.sl _ _ w)=>(match TZ X.E.P s&&yj X.E.P d with | true=>bJ (vF w) (fD X.E o.dst (.str (strOf w)) K g) | false=>none)
  | _=>qp X o K g)
 | .indexAddr t x i=>(match g.rd x,g.rd i with
  | some (.sl _ A w),some (.int _ n)=>aBF X o.dst t A w n K g
  | some (.slh i j m A),some (.int _ n)=>(match fB X.E.sy o.dst with
   | true=>(match nV X.E.P t with
    | some I=>(match Nat.beq I.size A with | true=>bJ (decide (0<=n)&&decide (n<(m:Int))) (fD X.E o.dst (.ptr i (aFE (fB X.E.sy (o.dst.map (8000000 + ·))) j n A)) K g) | false=>none)
    | none=>none)
   | false=>qp X o K g)
  | some (.ptr i j),some (.int _ n)=>(match fB X.E.sy o.dst with
   | true=>(match IA X.E.P t with
    | some (m,I)=>bJ (decide (0<=n)&&decide (n<(m:Int))) (fD X.E o.dst (.ptr i (j+n.toNat*I.size)) K g)
    | none=>none)
   | false=>qp X o K g)
  | some (.cst (.agg r)),some (.int _ n)=>(match a0V X.E.P t with
   | some (m,e)=>bJ (decide (n<(m:Int))) (dD r n fun p=>X.V e p fun q=>(match q.one with | true=>fD X.E o.dst (.cst q.un) K g | false=>none))
   | none=>qp X o K g)
  | _,_=>qp X o K g)
 | .load t a=>(match aVP X.E a && !fB X.E.ln o.dst with
  | true=>(match ti X.E.P t,g.rd a with
   | some I,some (.ptr i j)=>(match g.h[i]? with
    | some (some r)=>(match I.agg with
     | true=>bJ (decide (j+I.size<=r.length)) (X.V t (.agg (((r.drop j).take I.size).map PV.un)) fun q=>fD X.E o.dst q K g)
     | false=>(match !fB X.E.mv o.dst with | true=>J3 r j fun p=>X.V t p fun q=>fD X.E o.dst q.un K g | false=>none))
    | _=>none)
   | _,_=>none)
  | false=>(match g.rd a,ti X.E.P t with
   | some (.cst e),some I=>bJ (decide (e.isAgg=I.agg)&&decide (e.size=I.size)) (fD X.E o.dst e.un K g)
   | _,_=>qp X o K g))
 | .store t a x=>(match aVP X.E a && !fB X.E.mu (iR a) with
  | true=>(match ti X.E.P t,g.rd a,g.ev x,o.dst with
   | some I,some (.ptr i j),some p,none=>(match g.h[i]? with
    | some (some r)=>(match p with
     | .agg B=>(match Nat.beq B.length I.size&&B.all PV.one with | true=>bJ (decide (j+I.size<=r.length)) (K { g.clr x with h:=(g.clr x).h.set i (some (r.take j ++ B.map PV.un ++ r.drop (j+I.size))) }) | false=>none)
     | p=>(match p.one&&Nat.beq I.size 1 with | true=>bJ (decide (j<r.length)) (K { g.clr x with h:=(g.clr x).h.set i (some (r.set j p)) }) | false=>none))
    | _=>none)
   | _,_,_,_=>none)
  | false=>(match g.ev x with
   | some (.agg B)=>(match ti X.E.P t,g.rd a,o.dst with
    | some I,some (.ptr i j),none=>(match g.h[i]? with
     | some (some r)=>(match Uj X.E.mu X.E.ln (iR a) (g.rd a)&&(Nat.beq B.length I.size&&Nat.ble (j+I.size) r.length) with
      | true=>bJ (B.all PV.one) (K { g.clr x with h:=(g.clr x).h.set i (some (r.take j ++ B.map PV.un ++ r.drop (j+I.size))) })
      | false=>none)
     | _=>none)
    | _,_,_=>none)
   | _=>qp X o K g))
 | .index t x i=>(match g.rd x,g.rd i with
  | some (.str s),some (.int _ n)=>(match yj X.E.P t with | true=>xx s n fun b=>fD X.E o.dst (.int .u8 b) K g | false=>none)
  | some (.agg r),some (.int _ n)=>(match fB X.E.sy o.dst with
   | true=>(match a0V X.E.P t with
    | some (m,_)=>bJ (decide (0<=n)&&decide (n<(m:Int))) (W9 r 0 n fun p=>(match p.one with | true=>fD X.E o.dst p.un K g | false=>none))
    | none=>none)
   | false=>qp X o K g)
  | _,_=>qp X o K g)
 | .pick c a b=>(match g.rd c with
  | some (.bool v)=>aB v (Yp X.E o.dst (g.rd a) K g) (Yp X.E o.dst (g.rd b) K g)
  | _=>none)
 | .slice t x F G none=>(match g.rd x with
  | some (.sl _ A w)=>(match nV X.E.P t with | some I=>if I.size=A then OV X o.dst A w F G K g else none | none=>none)
  | some (.str s)=>(match yj X.E.P t with | true=>OW X o.dst s F G K g | false=>none)
  | some (.slh i j n A)=>WY X o.dst t i j n A F G K g
  | _=>qp X o K g)
 | .slice t x (some l) (some u) (some m)=>(match g.rd x,g.rd l,g.rd u,g.rd m with
  | some (.sl _ A w),some (.int _ a),some (.int _ b),some (.int _ c)=>(match nV X.E.P t with
   | some I=>(match Nat.beq I.size A with | true=>bJ (decide (0<=a)&&decide (a<=b)&&decide (b<=c)&&decide (c<=(w.length:Int))) (fD X.E o.dst (.sl false A ((w.take b.toNat).drop a.toNat)) K g) | false=>none)
   | none=>none)
  | _,_,_,_=>none)
 | .lookup t m k J=>(match g.rd m,g.rd k with
  | some D,some q=>a2B X o.dst t J D q K g
  | _,_=>none)
 | .mapUpdate t m k x=>(match g.rd m,g.rd k,g.rd x with
  | some D,some q,some y=>Rw X o.dst t D q y K g
  | _,_,_=>none)
 | .insert t m k x=>(match a99 X.E.mu X.E.ln (iR m) (g.rd m) with
  | false=>none
  | true=>(match g.rd m,g.rd k,g.rd x with
   | some D,some q,some y=>Rw X o.dst t D q y K g
   | _,_,_=>none))
 | .fieldAddr s x f=>(match g.rd x,fieldsOf X.E.P s with
  | some (.cst (.agg r)),some L=>(match L[f]? with
   | some (j,z,false)=>(match Nat.beq z 0,r[j]? with
    | false,some p=>bJ p.one (fD X.E o.dst (.cst p.un) K g)
    | _,_=>none)
   | _=>qp X o K g)
  | _,_=>qp X o K g)
 | .box t x=>(match fB X.E.fz o.dst,g.rd x with
  | true,some (.agg B)=>bJ (B.all PV.one&&PV.flats B) (fD X.E o.dst (.cst (.agg (B.map PV.un))) K g)
  | _,_=>qp X o K g)
 | .binOp M t x y _=>(match M,g.rd x,g.rd y with
  | .quo,some (.int k a),some (.int H b)=>Rq X o.dst k H b (k.wrap (a.tdiv b)) K g
  | .rem,some (.int k a),some (.int H b)=>Rq X o.dst k H b (a.tmod b) K g
  | .shl,some (.int k a),some (.int _ b)=>aNG X o.dst k b (k.wrap (a*2 ^ min b.toNat k.bits)) K g
  | .shr,some (.int k a),some (.int _ b)=>aNG X o.dst k b (a.fdiv (2 ^ min b.toNat k.bits)) K g
  | .add,some (.str a),some (.str b)=>bJ (decide (a.size+b.size<=aN)) (fD X.E o.dst (.str (a ++ b)) K g)
  | .eql,some p,some (.raw .nilFunc)=>Rt X o.dst t p true K g
  | .neq,some p,some (.raw .nilFunc)=>Rt X o.dst t p false K g
  | _,_,_=>qp X o K g)
 | .call c=>(match c.callee with
  | .builtin .clear=>(match c.args.toList,c.argTypes.toList with
   | [x],[t]=>WF X o.dst t x K g
   | _,_=>none)
  | .builtin .append=>(match c.args.toList with
   | [s,x]=>(match g.ev s,g.rd x with
    | some (.sl _ _ w),some (.sl _ _ C)=>bJ (decide (w.length+C.length<=aN)) (qp X o K g)
    | some (.sl _ _ w),some (.str b)=>bJ (decide (w.length+b.size<=aN)) (qp X o K g)
    | some (.eF l),some (.str b)=>bJ (decide (l.length+b.size<=aN)) (qp X o K g)
    | some (.eF l),some (.sl _ _ C)=>(match Yh C with
     | some c=>bJ (decide (l.length+1<=aN)&&decide (0<=c)&&decide (c<256)) (qp X o K g)
     | none=>none)
    | _,_=>none)
   | _=>none)
  | .builtin _=>qp X o K g
  | _=>none)
 | _=>qp X o K g
def a8T (a:List Nat) (p:PV):PV:=match a.all (Nat.beq · 0) with | true=>p | false=>p.BQ a
def qm (P:Program):List TypeId->ai->ai
 | t::b,p::a=>a8T (Rh P 8 t) p::qm P b a
 | _,a=>a
def vG (E:AE) (o:Oper):List TypeId:=match fB E.sy (o.dst.map (9000000 + ·)) with | true => [] | false=>(match o.op with | .call c=>c.argTypes.toList | _ => [])
mutual
def PV.ids:PV->List Nat
 | .ptr i _ => [i]
 | .eU _ i => [i]
 | .slh i _ _ _ => [i]
 | .func _ a c=>PV.yh a ++ PV.yh c
 | .agg b=>PV.yh b
 | .tuple b=>PV.yh b
 | _ => []
def PV.yh:ai->List Nat
 | [] => []
 | p::a=>p.ids ++ PV.yh a
end
def yU (l:List Nat):List Nat->List Nat
 | []=>l
 | i::a=>yU (match pO l i with | true=>l | false=>l ++ [i]) a
def aM4 (H:aH):List Nat->List Nat
 | [] => []
 | i::l=>(match sD H i with | some a=>PV.yh a | none => []) ++ aM4 H l
def KN (H:aH):Nat->List Nat->List Nat
 | 0,l=>l
 | n+1,l=>KN H n (yU l (aM4 H l))
def b1S (a:List Nat) (H:aH) (b:ai):Bool :=l_ a&&(a.all (fun i=>Nat.blt i H.length)&&(PV.qA (pO a) b&&a.all fun i=>match sD H i with | some c=>PV.qA (pO a) c | none=>true))
def Aw (X:XE) (d:Option Nat) (g:FuncId) (b:ai) (a:List Nat) (K:ASt->R) (c:ASt):R :=
 match b1S a c.h b with
 | true=>Bo X.C g (mJ (wQ a) b) ((a.map (sD c.h)).map (oG (wQ a))) fun r h'=>X.W g ((a.map (sD c.h)).map (oG (wQ a))) r h' fun f e=>fD X.E d (lL (uP a c.h.length) f) K ⟨c.s,zq a c.h e⟩
 | false=>none
def oP (p:PV):Bool:=p.one&&p.flat
def PX:Option (ai)->Bool
 | some a=>a.all oP
 | none=>true
def aIB (a:List Nat) (H h':aH):aH:=vY a (h'.take a.length) H ++ h'.drop a.length
def OU (X:XE) (e:Option Nat) (g:FuncId) (b:ai) (a:List Nat) (K:ASt->R) (c:ASt):R :=
 match l_ a&&(a.all (fun i=>Nat.blt i c.h.length)&&PV.qA (pO a) b) with
 | true=>bJ ((a.map (sD c.h)).all PX) (Bo X.C g (mJ (wQ a) b) (a.map (sD c.h)) fun r h'=>X.W g (a.map (sD c.h)) r h' fun f d=>bJ (d.all PX) (fD X.E e (lL (uP a c.h.length) f) K ⟨c.s,aIB a c.h d⟩))
 | false=>none
def aBH (X:XE) (b:Option Nat) (r:PV) (K:ASt->R) (c:ASt):R:=match r with
 | .sl true 1 a=>bJ (decide (0<a.length)&&a.all wP) (fD X.E b (.slh c.h.length 0 a.length 1) K ⟨c.s,c.h ++ [some a]⟩)
 | .sl true d a=>aB (decide (0<a.length)) (bJ (a.all (AC d)) (fD X.E b (.slh c.h.length 0 a.length d) K ⟨c.s,c.h ++ [some (nG a)]⟩)) (fD X.E b (.sl true d []) K c)
 | _=>none
def aND (X:XE) (b:Option Nat) (g:FuncId) (a:ai) (K:ASt->R) (c:ASt):R :=bJ (YN c.h a) (kE X.C g (a7M c.h a) fun r=>X.W g [] r [] fun d _=>(match d.xK with | true=>fD X.E b d K c | false=>none))
def a_J (l a:List Nat) (n:Nat):Bool:=l.all fun k=>match Nat.ble 1000000 k with
 | true=>Nat.blt (k-1000000) n && !pO a (k-1000000)
 | false=>true
def OT (X:XE) (d:Bool) (o:Oper) (f:Operand) (args:List Operand) (K:ASt->R) (b:ASt):R :=
 match b.rd f,lG (args.map b.rd) with
 | some (.func (.func g) first a),some c=>(match !d&&(fB X.E.ln o.dst&&fB X.E.sy o.dst) with
  | true=>(match fB X.E.sy (o.dst.map (6000000 + ·)) with
   | true=>OU X o.dst g (first ++ qm X.E.P (vG X.E o) c ++ a) (yU [] (PV.yh (first ++ qm X.E.P (vG X.E o) c ++ a))) K b
   | false=>Aw X o.dst g (first ++ qm X.E.P (vG X.E o) c ++ a) (KN b.h 3 (yU [] (PV.yh (first ++ qm X.E.P (vG X.E o) c ++ a)))) K b)
  | false=>match PV.flats (first ++ qm X.E.P (vG X.E o) c ++ a) with
   | true=>kE X.C g (first ++ qm X.E.P (vG X.E o) c ++ a) fun r=>X.W g [] r [] fun e _=>(match !d&&fB X.E.mu o.dst with
    | true=>aBH X o.dst e K b
    | false=>(match PV.flat e with | true=>fD X.E o.dst e K b | false=>none))
   | false=>(match d with
    | true=>match fB X.E.sy o.dst&&a_J X.E.ln (KN b.h 3 (yU [] (PV.yh (first ++ qm X.E.P (vG X.E o) c ++ a)))) b.h.length with
     | true=>Aw X o.dst g (first ++ qm X.E.P (vG X.E o) c ++ a) (KN b.h 3 (yU [] (PV.yh (first ++ qm X.E.P (vG X.E o) c ++ a)))) K b
     | false=>none
    | false=>match fB X.E.ln o.dst with
     | true=>aND X o.dst g (first ++ qm X.E.P (vG X.E o) c ++ a) K b
     | false=>match fB X.E.sy o.dst with
     | true=>OU X o.dst g (first ++ qm X.E.P (vG X.E o) c ++ a) (yU [] (PV.yh (first ++ qm X.E.P (vG X.E o) c ++ a))) K b
     | false=>Aw X o.dst g (first ++ qm X.E.P (vG X.E o) c ++ a) (KN b.h 3 (yU [] (PV.yh (first ++ qm X.E.P (vG X.E o) c ++ a)))) K b))
 | _,_=>none
def a1Z (X:XE) (o:Oper) (f:Operand) (args:List Operand) (K:ASt->R) (b:ASt):R :=
 match b.rd f,lG (args.map b.rd) with
 | some p,some c=>SC p fun g first a=>bJ (PV.flats (first ++ qm X.E.P (vG X.E o) c ++ a)) (kE X.C g (first ++ qm X.E.P (vG X.E o) c ++ a) fun r=>X.V o.type r fun d=>(match PV.flat d with | true=>fD X.E o.dst d K b | false=>none))
 | _,_=>none
def KQ (X:XE) (a:Bool) (o:Oper) (K:ASt->R) (c:ASt):R :=
 match CJ o with
 | some (f,args)=>(match fB X.E.sy (o.dst.map (2000000 + ·)) with | true=>a1Z X o f args K c | false=>OT X a o f args K c)
 | none=>match a with
  | true=>Ru X o K c
  | false=>match aF4 X.E o c with
   | some (e,d)=>LZ e fun b=>fD X.E o.dst (.bool (b==d)) K c
   | none=>Ru X o K c
def KR (X:XE) (a:Bool) (o:Oper) (d:Nat) (b v:Bool) (K:ASt->R) (c:ASt):R :=
 match v==b with
 | true=>KQ X a o K (c.lit d v)
 | false=>fD X.E o.dst (.tuple []) K (c.lit d v)
def lI (X:XE) (a:Bool) (c:Array Oper):List Oper->(ASt->R)->ASt->R
 | [],K,e=>K e
 | o::l,K,e=>match o.guard with
  | none=>KQ X a o (lI X a c l K) e
  | some (j,f)=>match (c[j]?).bind (·.dst) with
   | none=>fD X.E o.dst (.tuple []) (lI X a c l K) e
   | some d=>match dF d e.s with
    | some (.bool b)=>aB b (KR X a o d f true (lI X a c l K) e) (KR X a o d f false (lI X a c l K) e)
    | some (.tuple [])=>fD X.E o.dst (.tuple []) (lI X a c l K) e
    | _=>none
def yM (k:ASt->R) (K:AX->ASt->R):AX->ASt->R
 | .normal,a=>k a
 | .ret,a=>K .ret a
 | .exit i,a=>K (.exit i) a
def aS (id:Nat) (K:AX->ASt->R):AX->ASt->R
 | .exit i,a=>if i=id then K .normal a else K (.exit i) a
 | .normal,a=>K .normal a
 | .ret,a=>K .ret a
def ASt.keys (E:AE) (a:ASt):List Nat:=(a.keep E.vars).s.map (·.1)
def Em:Code->Nat
 | .region id _ _=>id+1
 | .seq .skip y=>Em y
 | .seq (.label _) y=>Em y
 | .seq x _=>Em x
 | .block _ x=>Em x
 | .scope x=>Em x
 | .loop x=>Em x
 | _=>0
mutual
def PV.b2F:PV->Nat
 | .ptr i _=>i+1
 | .eU _ i=>i+1
 | .slh i _ _ _=>i+1
 | .func _ f c=>Nat.max (PV.JU f) (PV.JU c)
 | .agg a=>PV.JU a
 | .tuple a=>PV.JU a
 | _=>0
def PV.JU:ai->Nat
 | []=>0
 | p::a=>Nat.max p.b2F (PV.JU a)
end
def b2G:gp->Nat
 | []=>0
 | (_,p)::l=>Nat.max p.b2F (b2G l)
def aIN:Nat->aH->Nat
 | 0,_=>0
 | _,[]=>0
 | n+1,o::h=>Nat.max (match o with | some a=>PV.JU a | none=>0) (aIN n h)
def b0V:PV->List Nat
 | .slh i _ _ _ => [i]
 | _ => []
def Fz:ai->List Nat
 | [] => []
 | p::a=>yU (b0V p) (Fz a)
def aFB:List Nat->List Nat
 | [] => []
 | k::l=>(match Nat.ble 8500000 k with | true=>(k-8500000)::aFB l | false=>aFB l)
def WZ (l:List Nat):gp->List Nat
 | []=>aFB l
 | (k,p)::s=>(match pO l k with | true=>yU (match pO l (7000000+k) with | true=>p.ids | false=>b0V p) (WZ l s) | false=>WZ l s)
def MP (a:List Nat):Nat->aH->aH
 | _,[] => []
 | j,o::h=>(match pO a j with | true=>none | false=>o)::MP a (j+1) h
def n_ (h:aH):List Nat->Bool
 | []=>true
 | i::a=>(match h[i]? with | some (some b)=>b.all oP | _=>true)&&n_ h a
def YX (d:Nat) (l:List Nat) (c:ASt):Nat :=
 let h:=MP (WZ l c.s) 0 c.h
 let a:=Nat.max d (b2G (c.keep l).s)
 let b:=Nat.max a (aIN a h)
 Nat.max b (aIN b h)
def JB (l:List Nat) (m:Nat) (a:ASt):Bool:=n_ (a.gc l m).h (WZ l (a.gc l m).s)
def GL (l:List Nat) (m:Nat) (a:ASt):Bool:=(a.gc l m).s.all (fun b=>b.2.blw m)&&Bj m (MP (WZ l (a.gc l m).s) 0 (a.gc l m).h)
theorem b0S (b:List Nat):∀ (h:aH) (j k:Nat) (o:Option (ai)),h[k]? = some o->(MP b j h)[k]? = some (match pO b (j+k) with | true=>none | false=>o)
 | [],_,_,_,h=>by simp at h
 | a::h,j,0,o,e=>by grind [MP]
 | a::h,j,k+1,o,e=>by rw[MP,DV,b0S b h (j+1) k o (by grind),show j+1+k=j+(k+1) by omega]
def a'S {h:aH}:∀ {b:List Nat} {i:Nat} {c:ai},n_ h b=true->i∈b->h[i]? = some (some c)->c.all oP=true
 | a::b,i,c,d,f,e=>by
  simp only[n_,bQ] at d;rcases jy.1 f with rfl | f
  .have:=d.1; rw[e] at this; exact this
  .exact a'S d.2 f e
def a'T (m:Nat):∀ {a:ai},a.all oP=true->PV.blws m a=true
 | [],_=>rfl
 | p::a,h=>by simp only[DX,bQ,oP] at h;simp only[PV.blws,aO3 m p h.1.2,a'T m h.2,NK]
theorem aLQ (b:n_ H T=true) (a:Bj j (MP T 0 H)=true):Bj j H=true:=by
 unfold Bj at a ⊢;rw[jq] at a ⊢;intro o c;obtain ⟨k,hk⟩:=Jh.1 c;have e:=b0S T H 0 k o hk;cases d:pO T k with
 | true =>
  cases o with
  | none=>rfl
  | some f=>exact a'T j (a'S b (a6L.1 d) hk)
 | false =>grind
def aCU (b:JB T j J=true) (a:GL T j J=true):GK T j J=true:=by unfold GL at a;unfold GK;rw[bQ] at a ⊢;exact ⟨a.1,aLQ b a.2⟩
def GU (E:AE) (b:Nat) (y:Code) (k:ASt->R) (a:ASt):R:=match E.jt.lookup (Em y) with
 | some l=>bJ (JB l (YX b l a) a) (match decide (b<=YX b l a)&&GL l (YX b l a) a with | true=>k (a.gc l (YX b l a)) | false=>none)
 | none=>k a
def Bv (k:ASt->R):List Nat->ASt->R
 | [],a=>k a
 | d::c,a=>match Nat.ble 9000000 d with
  | true=>(match dF (d-9000000) a.s with
   | some (.ptr i 0)=>(match a.h[i]? with
    | some (some b)=>bJ (decide (0<b.length)&&b.all fun p=>p.one&&p.flat) (Bv k c ⟨kG (d-9000000) (.cst ((qM b.length b 1).headD .nilp)) a.s,a.h.set i none⟩)
    | _=>Bv k c a)
   | _=>Bv k c a)
  | false=>match Nat.ble 1000000 d with
   | true=>(match dF (d-1000000) a.s with
    | some (.slh i 0 n e)=>(match a.h[i]? with
     | some (some b)=>bJ (decide (n*e<=b.length)&&decide (0<e)&&b.all fun p=>p.one&&p.flat) (Bv k c ⟨kG (d-1000000) (.sl false e (qM e b n)) a.s,a.h.set i none⟩)
     | _=>Bv k c a)
    | _=>Bv k c a)
   | false=>Bv k c (KW d a)
def y9 (E:AE) (a:Nat) (y:Code) (k:ASt->R) (b:ASt):R:=match E.ft.lookup (Em y) with
 | some c=>Bv (GU E a y k) c b
 | none=>GU E a y k b
def lS (E:AE) (b:Nat) (x:Code) (a:ASt):List Nat×Nat:=match E.lt.lookup (Em x) with
 | some l=>(l,YX b l a)
 | none=>(a.keys E,a.h.length)
open Classical in
def au (a b:R):R:=match a with
 | some (r,h)=>(match b with | some (c,h')=>(match PV.qo r c&&Fq h h' with | true=>some (r,h) | false=>if r=c/\h=h' then some (r,h) else none) | none=>none)
 | none=>none
theorem tV (a:R):au a a=a:=by unfold au;grind
theorem b5L {a b:R} (h:au a b=some U):a=some U/\b=some U:=by unfold au at h;grind [PV.a1X,X_]
def ML:List R->R
 | []=>none
 | x::l=>match l with | []=>x | _::_=>au x (ML l)
def IJ (X:XE) (a:Array Oper) (K:ASt->R):Nat->Array Bool->ASt->R
 | 0,L,b=>(match Region.ready .any a L with | []=>K b | _::_=>none)
 | fuel+1,L,b=>(match Region.ready .any a L with
  | []=>K b
  | i::c=>ML ((match KU X.E a L (i::c) with | some j => [j] | none=>i::c).map fun i=>match a[i]? with
   | none=>none
   | some o=>lI X true a [o] (IJ X a K fuel (L.setIfInBounds i true)) b))
def aN7 (X:XE) (a:Array Oper) (K:ASt->R) (b:ASt):R:=IJ X a K a.size (Array.replicate a.size false) b
def aL7 {v:PV×aH}:∀ {l:List R},ML l=some v->∀ x,x∈l->x=some v
 | [],_,x,a=>by cases a
 | y::l,h,x,a=>by
  cases l with
  | nil=>rw[F8] at a; subst a; exact h
  | cons z d =>
   obtain ⟨b,c⟩:=b5L h;rcases jy.1 a with a | a
   .subst a; exact b
   .exact aL7 c x a
def bD (X:XE):Code->(AX->ASt->R)->ASt->R
 | .skip,K,a=>K .normal a
 | .label _,K,a=>K .normal a
 | .exit id,K,a=>K (.exit id) a
 | .ret,K,a=>K .ret a
 | .region _ e f,K,a=>(match f with
  | true=>(match zK X.E e with | true=>lI X true e e.toList (K .normal) (a.head X.E) | false=>aN7 X e (K .normal) (a.head X.E))
  | false=>lI X false e e.toList (K .normal) (a.head X.E))
 | .seq x y,K,a=>bD X x (yM (y9 X.E X.m0 y (bD X y K)) K) a
 | .cond c x y,K,a=>(match a.rd c with
  | some (.bool b)=>(match c with
   | .tmp d=>aB b (bD X x K (a.lit d true)) (bD X y K (a.lit d false))
   | _=>aB b (bD X x K a) (bD X y K a))
  | _=>none)
 | .block id x,K,a=>bD X x (aS id K) a
 | .scope x,K,a=>bD X x K a
 | .loop x,K,a=>X.L (lS X.E X.m0 x a).1 (lS X.E X.m0 x a).2 x K (a.gc (lS X.E X.m0 x a).1 (lS X.E X.m0 x a).2)
 | _,_,_=>none
section
variable {ι:Type} (Good:(ι->R)->Prop)
structure Nc:Prop where
 const:∀ c:R,Good fun _=>c
 bind:∀ (c:ι->R) (k:ι->PV->aH->R),Good c->(∀ r h,Good fun i=>k i r h)->Good fun i=>match c i with | some (r,h)=>k i r h | none=>none
variable {Good} (F:Nc Good)
theorem Nc.no (F:Nc Good):Good fun _=>none:=F.const none
include F
theorem jY {A:ι->R} (h:Good A):Good fun i=>bJ G (A i):=by
 cases G
 .exact F.no
 .exact h
theorem Ia {A B:ι->R} (h:Good A) (h':Good B):Good fun i=>aB G (A i) (B i):=by
 cases G
 .exact h'
 .exact h
open Classical in
theorem bVF {A B:ι->R} (h:Good A) (h':Good B):Good fun i=>au (A i) (B i) :=
 F.bind A (fun i r a=>match B i with | some (b,h')=>(match PV.qo r b&&Fq a h' with | true=>some (r,a) | false=>if r=b/\a=h' then some (r,a) else none) | none=>none) h
  (fun r a=>F.bind B (fun _ b h'=>(match PV.qo r b&&Fq a h' with | true=>some (r,a) | false=>if r=b/\a=h' then some (r,a) else none)) h' fun b h'=>F.const _)
theorem aUB {b:Type} {f:ι->b->R} (h:∀ a,Good fun i=>f i a):∀ l:List b,Good fun i=>ML (l.map (f i))
 | []=>F.no
 | x::l=>by
  cases l with
  | nil=>exact h x
  | cons y l=>exact bVF F (h x) (aUB h (y::l))
theorem jD {a:Option Nat} {K:ι->ASt->R} {σ:ASt} (h:∀ σ,Good fun i=>K i σ):Good fun i=>fD A a p (K i) σ:=by
 unfold fD; split
 .exact h _
 .exact F.no
theorem aUL {a:Option Nat} {p:Option PV} {K:ι->ASt->R} {σ:ASt} (h:∀ σ,Good fun i=>K i σ):Good fun i=>Yp A a p (K i) σ:=by
 cases p
 .exact F.no
 .exact jD F h
theorem aUI {K:ι->PV->R} (h:∀ p,Good fun i=>K i p):Good fun i=>dD f b9 (K i):=by
 unfold dD; split
 .split
  .exact h _
  .exact F.no
 .exact F.no
theorem bVO {n:Nat} {K:ι->PV->R} (h:∀ p,Good fun i=>K i p):Good fun i=>J3 f n (K i):=by
 unfold J3; split
 .exact h _
 .exact F.no
theorem bVN {s:Option IntKind} {l:ai} {A:ι->PV->R} {B:ι->R} (h:∀ a,Good fun i=>A i a) (h':Good B):Good fun i=>LW s l p (A i) (B i):=by
 unfold LW; split
 .exact h _
 .exact h'
 .exact F.no
theorem aUJ {s:Option IntKind} {q:PV} {A:ι->PV->R} {B:ι->R} (h:∀ p,Good fun i=>A i p) (h':Good B):∀ (l:ai),Good fun i=>U5 s l q (A i) (B i)
 | k::v::L=>by
  simp only[U5];split
  .exact Ia F (h _) (aUJ h h' L)
  .exact F.no
 | []=>h'
 | [_]=>F.no
theorem bVP {K:ι->Bool->R} (h:∀ b,Good fun i=>K i b):Good fun i=>LZ f (K i):=by
 have:=F.bind (fun i=>K i false) (fun i r a=>match f.isEmpty with | false=>some (r,a) | true=>match K i true with | some (c,h')=>OL (r,a) (c,h') | none=>none) (h false) (fun r a=>by
  cases f.isEmpty
  .exact F.const _
  .exact F.bind (fun i=>K i true) (fun _ c h'=>OL (r,a) (c,h')) (h true) fun c h'=>F.const _)
 exact this
variable {b4:ByteArray} {O:TypeId} {c0 c1:Option Operand}
theorem bVG {K:ι->Int->R} (h:∀ p,Good fun i=>K i p):Good fun i=>xx b4 b9 (K i):=by
 unfold xx; split
 .split
  .exact h _
  .exact F.no
 .exact F.no
theorem aCY {C:ι->l7} {g:FuncId} {args:ai} {K:ι->PV->R} (hC:∀ g args h,Good fun i=>C i g args h) (h:∀ p,Good fun i=>K i p):Good fun i=>kE (C i) g args (K i):=by
 have:=F.bind (fun i=>C i g args []) (fun i r h=>match h with | []=>K i r | _=>none) (hC _ _ _) (fun r a=>by
  cases a
  .exact h r
  .exact F.no)
 grind [kE]
theorem a6G {C:ι->l7} {g:FuncId} {args:ai} {K:ι->PV->aH->R} (hC:∀ g args h,Good fun i=>C i g args h) (h:∀ p q,Good fun i=>K i p q):Good fun i=>Bo (C i) g args H (K i) :=F.bind (fun i=>C i g args H) K (hC _ _ _) h
def XE.up (X:XE) (C:l7) (L:List Nat->Nat->Code->(AX->ASt->R)->ASt->R):XE := { X with C:=C,L:=L }
def AV (V:TypeId->PV->(PV->R)->R):Prop:=∀ t p,(∀ K,V t p K=K p)\/(∀ K,V t p K=none)
def wJ (W:FuncId->aH->PV->aH->(PV->aH->R)->R):Prop:=∀ g h r h',(∀ K,W g h r h' K=K r h')\/(∀ K,W g h r h' K=none)
variable {X:XE} {C:ι->l7} {L:ι->List Nat->Nat->Code->(AX->ASt->R)->ASt->R} (hV:AV X.V) (hW:wJ X.W) (hC:∀ g args h,Good fun i=>C i g args h)
 (hL:∀ (l:List Nat) (m:Nat) (x:Code) (K:ι->AX->ASt->R) (σ:ASt),(∀ e σ,Good fun i=>K i e σ)->Good fun i=>L i l m x (K i) σ)
theorem aUG {K:ι->Bool->R} (h:∀ b,Good fun i=>K i b):Good fun i=>Wi p (K i):=by
 unfold Wi;split
 .exact h _
 .exact h _
 .exact F.no
theorem bVL {K:ι->FuncId->ai->ai->R} (h:∀ g a b,Good fun i=>K i g a b):Good fun i=>SC p (K i):=by
 unfold SC;split;simp_all
 .exact F.no
theorem aUC {n:Int} {K:ι->PV->R} (h:∀ p,Good fun i=>K i p):∀ (a:ai) (k:Nat),Good fun i=>W9 a k n (K i)
 | [],_=>F.no
 | p::r,k=>Ia F (h p) (aUC h r (k+1))
theorem bVK {o:Oper} {K:ι->ASt->R} {σ:ASt} (h:∀ σ,Good fun i=>K i σ):Good fun i=>qp (X.up (C i) (L i)) o (K i) σ:=by
 show Good fun i=>match dS X.E o σ with | some (p,a)=>fD X.E o.dst p (K i) a | none=>none
 split
 .exact jD F h
 .exact F.no
include hV in
theorem TN {K:ι->PV->R} (h:∀ p,Good fun i=>K i p):Good fun i=>X.V O p (K i):=by
 rcases hV O p with e | e
 .simp only[e]; exact h p
 .simp only[e]; exact F.no
include hW in
theorem TP {g:FuncId} {h':aH} {K:ι->PV->aH->R} (h:∀ a q,Good fun i=>K i a q):Good fun i=>X.W g H p h' (K i):=by
 rcases hW g H p h' with e | e
 .simp only[e]; exact h _ _
 .simp only[e]; exact F.no
theorem bVS {a:Option Nat} {b:Nat} {K:ι->ASt->R} {σ:ASt} (h:∀ σ,Good fun i=>K i σ):Good fun i=>OV (X.up (C i) (L i)) a b f c0 c1 (K i) σ:=by
 cases c0<;>cases c1<;>simp only[OV]
 .exact jD F h
 all_goals
  split
  .exact jY F (jD F h)
  .exact F.no
theorem bVT {a:Option Nat} {K:ι->ASt->R} {σ:ASt} (h:∀ σ,Good fun i=>K i σ):Good fun i=>OW (X.up (C i) (L i)) a b4 c0 c1 (K i) σ:=by
 cases c0<;>cases c1<;>simp only[OW]
 .exact jD F h
 all_goals
  split
  .exact jY F (jD F h)
  .exact F.no
theorem bVR {a:Option Nat} {i b n c:Nat} {K:ι->ASt->R} {σ:ASt} (h:∀ σ,Good fun i=>K i σ):Good fun j=>WY (X.up (C j) (L j)) a O i b n c c0 c1 (K j) σ:=by
 simp only[WY,XE.up];split
 .split
  .split
   .split
    .exact jY F (jD F h)
    .exact F.no
   .split
    .exact jY F (Ia F (jD F h) (jD F h))
    .exact F.no
   .exact F.no
  .exact F.no
 .exact F.no
theorem bVH {a:Option Nat} {x:Operand} {K:ι->ASt->R} {σ:ASt} (h:∀ σ,Good fun i=>K i σ):Good fun j=>WF (X.up (C j) (L j)) a O x (K j) σ:=by
 simp only[WF,XE.up];split
 .split
  .split
   .exact jY F (h _)
   .exact F.no
  .exact F.no
 .exact h _
 .exact F.no
theorem aUM {a:Option Nat} {m x:PV} {K:ι->ASt->R} {σ:ASt} (h:∀ σ,Good fun i=>K i σ):Good fun j=>Rw (X.up (C j) (L j)) a O m p x (K j) σ:=by
 simp only[Rw,XE.up];split
 .split
  .split
   .split
    .exact jY F (h _)
    .exact F.no
   .exact F.no
  .exact F.no
 .exact F.no
include hV in
theorem bVM {b:Option Nat} {m:PV} {K:ι->ASt->R} {σ:ASt} (h:∀ σ,Good fun i=>K i σ):Good fun j=>a2B (X.up (C j) (L j)) b O G m p (K j) σ:=by
 simp only[a2B,XE.up];split
 .split
  .split
   .split
    .split
     .exact aUJ F (fun a=>jD F h) (jD F h) _
     .exact bVN F (fun a=>TN F hV fun p=>jD F h) (jD F h)
    .exact F.no
   .exact F.no
  .exact F.no
 .exact F.no
include hV in
theorem aUE {o:Oper} {K:ι->ASt->R} {σ:ASt} (h:∀ σ,Good fun i=>K i σ):Good fun i=>Ru (X.up (C i) (L i)) o (K i) σ:=by
 have a:=fun {σ:ASt}=>bVK F (X:=X) (C:=C) (L:=L) (o:=o) (σ:=σ) h
 unfold Ru;simp only[XE.up];split
 .split
  .split
   .exact jY F (jD F h)
   .exact F.no
  .exact a
 .split
  .simp only[aBF];split
   .split
    .exact aUI F fun p=>TN F hV fun q=>jD F h
    .exact F.no
   .exact F.no
  .split
   .split
    .split
     .exact jY F (jD F h)
     .exact F.no
    .exact F.no
   .exact a
  .split
   .split
    .exact jY F (jD F h)
    .exact F.no
   .exact a
  .split
   .refine jY F (aUI F fun p=>TN F hV fun q => ?_);split
    .exact jD F h
    .exact F.no
   .exact a
  .exact a
 .split
  .split
   .split
    .split
     .exact jY F (TN F hV fun q=>jD F h)
     .split
      .exact bVO F fun p=>TN F hV fun q=>jD F h
      .exact F.no
    .exact F.no
   .exact F.no
  .split
   .exact jY F (jD F h)
   .exact a
 .split
  .split
   .split
    .split
     .split
      .exact jY F (h _)
      .exact F.no
     .split
      .exact jY F (h _)
      .exact F.no
    .exact F.no
   .exact F.no
  .split
   .split
    .split
     .split
      .exact jY F (h _)
      .exact F.no
     .exact F.no
    .exact F.no
   .exact a
 .split
  .split
   .exact bVG F fun p=>jD F h
   .exact F.no
  .split
   .split
    .refine jY F (aUC F (fun p => ?_) _ _);split
     .exact jD F h
     .exact F.no
    .exact F.no
   .exact a
  .exact a
 .split
  .exact Ia F (aUL F h) (aUL F h)
  .exact F.no
 .split
  .split
   .split
    .exact bVS F h
    .exact F.no
   .exact F.no
  .split
   .exact bVT F h
   .exact F.no
  .exact bVR F h
  .exact a
 .split
  .split
   .split
    .exact jY F (jD F h)
    .exact F.no
   .exact F.no
  .exact F.no
 .split
  .exact bVM F hV h
  .exact F.no
 .split
  .exact aUM F h
  .exact F.no
 .split
  .exact F.no
  .split
   .exact aUM F h
   .exact F.no
 .split
  .split
   .split
    .exact jY F (jD F h)
    .exact F.no
   .exact a
  .exact a
 .split
  .exact jY F (jD F h)
  .exact a
 .split
  .simp only[Rq]; split
   .exact jY F (jD F h)
   .exact F.no
  .simp only[Rq]; split
   .exact jY F (jD F h)
   .exact F.no
  .exact jY F (jD F h)
  .exact jY F (jD F h)
  .exact jY F (jD F h)
  .simp only[Rt]; split
   .exact aUG F fun b=>jD F h
   .exact F.no
  .simp only[Rt]; split
   .exact aUG F fun b=>jD F h
   .exact F.no
  .exact a
 .split
  .split
   .exact bVH F h
   .exact F.no
  .split
   .split
    .exact jY F a
    .exact jY F a
    .exact jY F a
    .split
     .exact jY F a
     .exact F.no
    .exact F.no
   .exact F.no
  .exact a
  .exact F.no
 .exact a
include hW hC in
theorem bVJ {f:Operand} {args:List Operand} {K:ι->ASt->R} {σ:ASt} (h:∀ σ,Good fun i=>K i σ):Good fun i=>OT (X.up (C i) (L i)) G I f args (K i) σ:=by
 have d:∀ {b:Option Nat} {g:FuncId} {a:ai} {c:List Nat},Good fun i=>Aw (X.up (C i) (L i)) b g a c (K i) σ:=fun {b g a c}=>by
  simp only[Aw];split
  .exact a6G F hC fun r h'=>TP F hW fun p q=>jD F h
  .exact F.no
 unfold OT;simp only[XE.up] at d ⊢;have e:∀ {b:Option Nat} {g:FuncId} {a:ai} {c:List Nat},Good fun i=>OU (X.up (C i) (L i)) b g a c (K i) σ:=fun {b g a c}=>by
  simp only[OU];split
  .exact jY F (a6G F hC fun r h'=>TP F hW fun p q=>jY F (jD F h))
  .exact F.no
 simp only[XE.up] at e;split
 .split
  .split
   .exact e
   .exact d
  split
  .refine aCY F hC fun r=>TP F hW fun p q => ?_
   cases (!G&&fB X.E.mu I.dst)
   .cases PV.flat p
    .exact F.no
    .exact jD F h
   .simp only[aBH];split
    .exact jY F (jD F h)
    .exact Ia F (jY F (jD F h)) (jD F h)
    .exact F.no
  .cases G
   .cases fB X.E.ln I.dst
    .cases fB X.E.sy I.dst
     .exact d
     .simp only[OU];split
      .exact jY F (a6G F hC fun r h'=>TP F hW fun p q=>jY F (jD F h))
      .exact F.no
    .simp only[aND];refine jY F (aCY F hC fun r=>TP F hW fun p q => ?_);cases PV.xK p
     .exact F.no
     .exact jD F h
   .dsimp only;split
    .exact d
    .exact F.no
 .exact F.no
include hV hW hC in
theorem aUD {K:ι->ASt->R} {σ:ASt} (h:∀ σ,Good fun i=>K i σ):Good fun i=>KQ (X.up (C i) (L i)) G I (K i) σ:=by
 unfold KQ;split
 .simp only[XE.up];split
  .simp only[a1Z];split
   .refine bVL F fun g a b=>jY F (aCY F hC fun r=>TN F hV fun c => ?_)
    split
    .exact jD F h
    .exact F.no
   .exact F.no
  .exact bVJ F hW hC h
 .cases G
  .simp only[XE.up];split
   .exact bVP F fun b=>jD F h
   .exact aUE F hV h
  .exact aUE F hV h
include hV hW hC in
theorem Xw {a:Bool} {b:Array Oper}:∀ (l:List Oper) {K:ι->ASt->R} {σ:ASt},(∀ σ,Good fun i=>K i σ)->Good fun i=>lI (X.up (C i) (L i)) a b l (K i) σ
 | [],K,σ,h=>h σ
 | o::l,K,σ,h=>by
  have f:∀ σ,Good fun i=>lI (X.up (C i) (L i)) a b l (K i) σ:=fun σ=>Xw l h
  have g:∀ {p:PV} {σ:ASt},Good fun i=>fD X.E o.dst p (lI (X.up (C i) (L i)) a b l (K i)) σ:=jD F f
  have e:∀ (d:Nat) (c v:Bool),Good fun i=>KR (X.up (C i) (L i)) a o d c v (lI (X.up (C i) (L i)) a b l (K i)) σ:=fun d c v=>by
   unfold KR;split
   .exact aUD F hV hW hC f
   .exact g
  simp only[lI];split
  .exact aUD F hV hW hC f
  .split
   .exact g
   .split
    .exact Ia F (e _ _ _) (e _ _ _)
    .exact g
    .exact F.no
omit F in
theorem Xx {k:ι->ASt->R} {K:ι->AX->ASt->R} (h:∀ σ,Good fun i=>k i σ) (h':∀ e σ,Good fun i=>K i e σ) (e:AX) (σ:ASt):Good fun i=>yM (k i) (K i) e σ:=by
 cases e
 .exact h σ
 .exact h' _ _
 .exact h' _ _
omit F in
theorem aCX {id:Nat} {K:ι->AX->ASt->R} (h':∀ e σ,Good fun i=>K i e σ) (e:AX) (σ:ASt):Good fun i=>aS id (K i) e σ:=by
 cases e with
 | normal=>exact h' _ _
 | ret=>exact h' _ _
 | exit j =>
  simp only[aS]; split
  .exact h' _ _
  .exact h' _ _
theorem Ib {k:ι->ASt->R} (h:∀ σ,Good fun i=>k i σ):∀ (b:List Nat) {σ:ASt},Good fun i=>Bv (k i) b σ
 | [],σ=>h σ
 | d::a,σ=>by
  simp only[Bv];split
  .split
   .split
    .exact jY F (Ib h a)
    .exact Ib h a
   .exact Ib h a
  split
  .split
   .split
    .exact jY F (Ib h a)
    .exact Ib h a
   .exact Ib h a
  .exact Ib h a
include hV hW hC in
theorem aUF {a:Array Oper} {K:ι->ASt->R} (h:∀ σ,Good fun i=>K i σ):∀ (fuel:Nat) (B:Array Bool) (σ:ASt),Good fun i=>IJ (X.up (C i) (L i)) a (K i) fuel B σ
 | 0,B,σ=>by
  unfold IJ;cases Region.ready .any a B with
  | nil=>exact h σ
  | cons _ _=>exact F.no
 | fuel+1,B,σ=>by
  unfold IJ;cases Region.ready .any a B with
  | nil=>exact h σ
  | cons j b =>
   refine aUB F (f:=fun i k=>match a[k]? with
    | none=>none
    | some o=>lI (X.up (C i) (L i)) true a [o] (IJ (X.up (C i) (L i)) a (K i) fuel (B.setIfInBounds k true)) σ) (fun k => ?_) (match KU X.E a B (j::b) with | some j => [j] | none=>j::b)
   cases a[k]? with
   | none=>exact F.no
   | some o=>exact Xw F hV hW hC [o] fun σ=>aUF h fuel _ σ
include hV hW hC hL in
theorem GM:∀ (c:Code) {K:ι->AX->ASt->R} {σ:ASt},(∀ e σ,Good fun i=>K i e σ)->Good fun i=>bD (X.up (C i) (L i)) c (K i) σ
 | .skip,K,σ,h=>h _ _
 | .label _,K,σ,h=>h _ _
 | .exit _,K,σ,h=>h _ _
 | .ret,K,σ,h=>h _ _
 | .region _ a b,K,σ,h=>by
  simp only[bD];cases b
  .exact Xw F hV hW hC a.toList (σ:=σ.head X.E) fun σ=>h .normal σ
  .show Good fun i=>match zK X.E a with | true=>lI (X.up (C i) (L i)) true a a.toList (K i .normal) (σ.head X.E) | false=>aN7 (X.up (C i) (L i)) a (K i .normal) (σ.head X.E)
   split
   .exact Xw F hV hW hC a.toList (σ:=σ.head X.E) fun σ=>h .normal σ
   .exact aUF F hV hW hC (fun σ=>h .normal σ) _ _ _
 | .seq x y,K,σ,h=>by
  simp only[bD];refine GM x fun e σ=>Xx (fun σ => ?_) h e σ
  show Good fun i=>y9 X.E X.m0 y (bD (X.up (C i) (L i)) y (K i)) σ
  have d:∀ σ,Good fun i=>GU X.E X.m0 y (bD (X.up (C i) (L i)) y (K i)) σ:=fun σ=>by
   unfold GU;split
   .refine jY F ?_;split
    .exact GM y h
    .exact F.no
   .exact GM y h
  unfold y9;split
  .exact Ib F d _
  .exact d _
 | .cond c x y,K,σ,h=>by
  simp only[bD];split
  .split
   .exact Ia F (GM x h) (GM y h)
   .exact Ia F (GM x h) (GM y h)
  .exact F.no
 | .block id x,K,σ,h=>by simp only[bD]; exact GM x fun e σ=>aCX h e σ
 | .scope x,K,σ,h=>by simp only[bD]; exact GM x h
 | .loop x,K,σ,h=>hL (lS X.E X.m0 x σ).1 (lS X.E X.m0 x σ).2 x K (σ.gc (lS X.E X.m0 x σ).1 (lS X.E X.m0 x σ).2) h
 | .rangeFunc _ _ _ _,K,σ,h=>F.no
 | .goto _,K,σ,h=>F.no
 | .refuse _,K,σ,h=>F.no
end
section
variable {X:XE} {K:ASt->R} {σ:ASt} {v:PV×aH} {o:Oper} {ops:Array Oper}
theorem wU {p:PV} (h:fD A u p K σ=some v):jd A u p σ fun a=>K a=some v:=by grind [fD,jd]
theorem jC {A:R} (h:bJ G A=some v):G=true/\A=some v:=by
 cases G
 .cases h
 .exact ⟨rfl,h⟩
theorem kM {p:PV} {σ1:ASt} (h:dS A o σ=some (p,σ1)) (b:mX A o σ) (c:fD A o.dst p K σ1=some v):AO A o (fun a=>K a=some v) σ:=by grind [AO,wU]
theorem uU (b:mX X.E o σ) (h:qp X o K σ=some v):AO X.E o (fun a=>K a=some v) σ:=by grind [qp,kM]
def a8N (h:σ.rd (.tmp j)=some (.bool G)):σ.lit j G=σ:=by
 have:dF j σ.s=some (.bool G):=by
  simp only[ASt.rd,ASt.ev] at h;cases a:dF j σ.s with
  | none=>rw[a] at h; cases h
  | some p =>
   rw[a] at h;cases p<;>simp[PV.un] at h
   rw[h]
 unfold ASt.lit; rw[aID this]
variable {O:TypeId} {b4:ByteArray} {c0 c1:Option Operand} {a':Operand} {c3:CP} {c2:ai}
theorem Uw {V:TypeId->PV->(PV->R)->R} (a:AV V) {p:PV} {K:PV->R} (h:V O p K=some v):K p=some v:=by
 rcases a O p with e | e
 simp_all;simp_all
theorem Yi {W:FuncId->aH->PV->aH->(PV->aH->R)->R} (c:wJ W) {b h':aH} {a:PV} {K:PV->aH->R} (h:W r b a h' K=some v):K a h'=some v:=by
 rcases c r b a h' with e | e
 simp_all;simp_all
theorem aXW {K:PV->R} (h:dD f b9 K=some v):0<=b9/\∃ e,f[b9.toNat]? = some e/\K e=some v:=by grind [dD]
theorem b_0 {K:PV->R} (h:J3 f j K=some v):∃ e,f[j]? = some e/\K e=some v:=by grind [J3]
theorem b_3 {K:Bool->R} (h:LZ f K=some v):K false=some v/\(f = []->K true=some v):=by grind [LZ,bA1]
theorem aO8 {p:PV} {K:Bool->R} (h:Wi p K=some v):∃ b,K b=some v/\((b=false/\∃ f a c,p = .func f a c)\/(b=true/\p = .raw .nilFunc)):=by unfold Wi at h;grind
theorem bBE {p:PV} {K:FuncId->ai->ai->R} (h:SC p K=some v):∃ g a c,p = .func (.func g) a c/\K g a c=some v:=by unfold SC at h;grind
theorem aLJ {n:Int} {K:PV->R}:∀ {a:ai} {k:Nat},W9 a k n K=some v->∃ j p,n=((k+j:Nat):Int)/\a[j]? = some p/\K p=some v
 | [],_,h=>by cases h
 | p::r,k,h=>by
  rw[W9] at h;cases b:n==(k:Int) with
  | true=>rw[b] at h; exact ⟨0,p,by grind,rfl,h⟩
  | false =>rw[b] at h;obtain ⟨j,q,d,e,c⟩:=aLJ h;exact ⟨j+1,q,by omega,by grind,c⟩
def aO9 {p:PV} (e:Tc D O=true) (g:(G=false/\∃ f a c,p = .func f a c)\/(G=true/\p = .raw .nilFunc)) (d:Bool):Fa D (match d with | true => .eql | false => .neq) O p (.raw .nilFunc)=some (.bool (G==d)):=by rcases g with ⟨rfl,f,a,c,rfl⟩|⟨rfl,rfl⟩<;>cases d<;>simp[e]
theorem b75 {K:Int->R} (h:xx b4 b9 K=some v):0<=b9/\∃ b,b4[b9.toNat]? = some b/\K b.toNat=some v:=by grind [xx]
def aYI {s:Option IntKind} {q:PV} {A:PV->R} {B:R} {v:PV×aH}:∀ {L:ai},U5 s L q A B=some v->(∃ p,yz s L q=some (some p)/\A p=some v)\/(yz s L q=some none/\B=some v)
 | k::x::L,h=>by
  simp only[U5] at h;split at h
  .rename_i b a;cases b with
   | true=>exact .inl ⟨x,by simp only[yz,a],h⟩
   | false =>
    rcases aYI h with ⟨p,c,d⟩|⟨c,d⟩
    .exact .inl ⟨p,by simp only[yz,a]; exact c,d⟩
    .exact .inr ⟨by simp only[yz,a]; exact c,d⟩
  .cases h
 | [],h => .inr ⟨rfl,h⟩
 | [_],h=>by cases h
theorem c6J (a:∀ c,o.op ≠ .call c) (E:AE):mX E o σ:=by simp
theorem c6W {I:TI} (e:nV X.E.P O=some I) (g:I.size=j) (d:σ.rd a'=some (.sl G j f)) (h:OV X u j f c0 c1 K σ=some v) :
 ∃ p,pop X.E.P σ.rd (.slice O a' c0 c1 none)=some p/\fD X.E u p K σ=some v:=by
 have c:(nV X.E.P O).map TI.size=some j:=by rw[e]; simp[g]
 cases c0 with
 | none =>
  cases c1 with
  | none=>exact ⟨_,by simp only[pop,d,yJ]; rw[ay ⟨c,by omega,by omega,by omega⟩]; simp,h⟩
  | some b =>grind [OV,jC,pop,yJ]
 | some a =>
  cases c1 with
  | none =>
   simp only[OV] at h;split at h
   .rename_i k n i;obtain ⟨l,m⟩:=jC h;simp only[bQ,tJ] at l;exact ⟨_,by simp only[pop,d,i,Qb,yJ]; rw[ay ⟨c,by omega,by omega,by omega⟩]; simp,m⟩
   .cases h
  | some b =>grind [OV,jC,pop,yJ]
theorem c6X (c:yj X.E.P O=true) (d:σ.rd a'=some (.str b4)) (h:OW X u b4 c0 c1 K σ=some v) :
 ∃ p,pop X.E.P σ.rd (.slice O a' c0 c1 none)=some p/\fD X.E u p K σ=some v:=by
 cases c0 with
 | none =>grind [pop,yJ,OW,jC]
 | some a =>
  cases c1 with
  | none =>grind [OW,jC,pop,yJ]
  | some b =>grind [OW,jC,pop,yJ]
theorem c6V {b n e:Nat} (m:σ.rd a'=some (.slh j b n e)) (h:WY X u O j b n e c0 c1 K σ=some v) :
 ∃ p,pop X.E.P σ.rd (.slice O a' c0 c1 none)=some p/\fD X.E u p K σ=some v:=by
 unfold WY at h;split at h
 .rename_i I o;split at h
  .rename_i f;simp only[bQ,Qa] at f;have g:=Bc f.1;have q:(nV X.E.P O).map TI.size=some e:=by rw[o]; simp[g]
   split at h
   grind [jC,pop,yJ]
   .split at h
    .rename_i k a r;obtain ⟨l,c⟩:=jC h;simp only[bQ,tJ] at l;simp only[pop,m,r,Qb,yJ];rw[ay ⟨q,l.1,l.2,Int.le_refl _,f.2⟩];by_cases d:a<(n:Int)
     .rw[decide_eq_true d] at c;exact ⟨_,by rw[ay d]; simp,c⟩
     .rw[decide_eq_false d] at c;exact ⟨_,by rw[aX d],c⟩
    .cases h
   .cases h
  .cases h
 .cases h
theorem aLK {e:TypeId} (h:a0V D O=some (j,e)):∃ I,IA D O=some (j,I)/\I.size=1/\I.agg=false:=by unfold a0V at h;grind [IA,Nat.eq_of_beq_eq_true]
theorem aNE (hV:AV X.V) (Z:CJ o=none) (h:Ru X o K σ=some v):AO X.E o (fun b9=>K b9=some v) σ:=by
 obtain ⟨F,op,N,G,O,g⟩:=o;unfold Ru at h;simp only at h;split at h
 .rename_i s d x;have A:mX X.E ⟨F,.convert s d x,N,G,O,g⟩ σ:=trivial;split at h
  .rename_i ow sz es H;split at h
   .rename_i Q;simp only[bQ] at Q;obtain ⟨D,C⟩:=jC h;exact kM (by grind [dS,pop,WO]) A C
   .cases h
  .exact uU A h
 .rename_i t x i;have A:mX X.E ⟨F,.indexAddr t x i,N,G,O,g⟩ σ:=trivial;split at h
  .rename_i ow sz es k n H hi;unfold aBF at h;split at h
   .rename_i e I D C;split at h
    .rename_i T;obtain ⟨hn,p,hp,h⟩:=aXW h;have h:=Uw hV h;exact kM (by grind [dS,pop]) A h
    .cases h
   .cases h
  .rename_i M B m sz k n H hi;split at h
   .split at h
    .rename_i I T;split at h
     .rename_i hz;rw[b_K] at h;obtain ⟨D,C⟩:=jC h;simp only[bQ,tJ] at D;exact kM (p := .ptr M (B+n.toNat*sz)) (by grind [dS,pop,Nat.eq_of_beq_eq_true]) A C
     .cases h
    .cases h
   .exact uU A h
  .rename_i M B k n H hi;split at h
   .split at h
    .rename_i m I T;obtain ⟨D,C⟩:=jC h;simp only[bQ,tJ] at D;exact kM (p := .ptr M (B+n.toNat*I.size)) (by grind [dS,pop]) A C
    .cases h
   .exact uU A h
  .rename_i J k n H hi;split at h
   .rename_i m e Q;obtain ⟨D,C⟩:=jC h;obtain ⟨hn,p,hp,h⟩:=aXW C;have h:=Uw hV h;obtain ⟨I,T,c5,b5⟩:=aLK Q;split at h
    .rename_i ho;refine kM (p := .cst p.un) (by simp only[dS,pop,H,hi,T];rw[ay ⟨hn,by grind⟩];simp_all) A h
    .cases h
   .exact uU A h
  .exact uU A h
 .rename_i t a;have A:mX X.E ⟨F,.load t a,N,G,O,g⟩ σ:=trivial;split at h
  .rename_i a';have c6:fB X.E.ln F=false:=by simp_all
   split at h
   .rename_i I M B T ha;split at h
    .rename_i J S;split at h
     .rename_i b5;obtain ⟨D,C⟩:=jC h;have h:=Uw hV C;exact kM (σ1:=σ) (by grind [dS,qO]) A h
     .rename_i b5;split at h
      .rename_i Z;simp only[F6] at Z;obtain ⟨q,hq,h⟩:=b_0 h;have h:=Uw hV h;exact kM (p:=q.un) (σ1:=σ) (by grind [dS,qO]) A h
      .cases h
    .cases h
   .cases h
  .split at h
   .rename_i e I ha T;obtain ⟨D,C⟩:=jC h;simp only[bQ,tJ] at D;refine kM (p:=e.un) (σ1:=σ) ?_ A C;grind [dS,aZV,qO]
   .exact uU A h
 .rename_i t a x;have A:mX X.E ⟨F,.store t a x,N,G,O,g⟩ σ:=trivial;split at h
  .rename_i a';have b0:∀ r,Uj X.E.mu X.E.ln (iR a) r=true:=fun r=>by simp only[bQ,F6] at a';unfold Uj;rw[a'.2]
   split at h
   .rename_i I M B q T ha H;split at h
    .rename_i J S;have b':(σ.clr x).h=σ.h:=by cases x<;>simp only[ASt.clr]<;>split<;>rfl
     split at h
     .rename_i U;split at h
      .rename_i Z;simp only[bQ] at Z;obtain ⟨D,C⟩:=jC h;have b6:AP I (.ptr M B) (.agg U) (σ.clr x)=some { σ.clr x with h:=(σ.clr x).h.set M (some (J.take B ++ U.map PV.un ++ J.drop (B+I.size))) }:=by simp_all
       exact kM (p := .tuple []) (σ1 := { σ.clr x with h:=(σ.clr x).h.set M (some (J.take B ++ U.map PV.un ++ J.drop (B+I.size))) }) (by grind [dS]) A (by grind [fD,ASt.put])
      .cases h
     .rename_i q' c7;split at h
      .rename_i Z;simp only[bQ] at Z;obtain ⟨D,C⟩:=jC h;have b6:AP I (.ptr M B) q (σ.clr x)=some { σ.clr x with h:=(σ.clr x).h.set M (some (J.set B q)) }:=by simp_all
       exact kM (p := .tuple []) (σ1 := { σ.clr x with h:=(σ.clr x).h.set M (some (J.set B q)) }) (by grind [dS]) A (by grind [fD,ASt.put])
      .cases h
    .cases h
   .cases h
  .split at h
   .rename_i U H;split at h
    .rename_i I M B T ha;split at h
     .rename_i J S;split at h
      .rename_i Z;simp only[bQ,Nat.ble_eq] at Z;obtain ⟨b0,c9,c'⟩:=Z;obtain ⟨D,C⟩:=jC h;have b':(σ.clr x).h=σ.h:=by cases x<;>simp only[ASt.clr]<;>split<;>rfl
       have b6:AP I (.ptr M B) (.agg U) (σ.clr x)=some { σ.clr x with h:=(σ.clr x).h.set M (some (J.take B ++ U.map PV.un ++ J.drop (B+I.size))) }:=by simp_all
       exact kM (p := .tuple []) (σ1 := { σ.clr x with h:=(σ.clr x).h.set M (some (J.take B ++ U.map PV.un ++ J.drop (B+I.size))) }) (by grind [dS]) A (by grind [fD,ASt.put])
      .cases h
     .cases h
    .cases h
   .exact uU A h
 .rename_i t x i;have A:mX X.E ⟨F,.index t x i,N,G,O,g⟩ σ:=trivial;split at h
  .rename_i s k n H hi;split at h
   .rename_i Q;obtain ⟨hn,b,hb,h⟩:=b75 h;exact kM (by grind [dS,pop]) A h
   .cases h
  .rename_i J k n H hi;split at h
   .split at h
    .rename_i m e hm;obtain ⟨c1,h⟩:=jC h;simp only[bQ,tJ] at c1;obtain ⟨I,D,C,h3⟩:=aLK hm;obtain ⟨j,p,e1,e2,h⟩:=aLJ h;split at h
     .rename_i ho;have ej:n.toNat=j:=by omega
      exact kM (p:=p.un) (σ1:=σ) (by grind [dS,pop,zG]) A h
     .cases h
    .cases h
   .exact uU A h
  .exact uU A h
 .rename_i c a b;have A:mX X.E ⟨F,.pick c a b,N,G,O,g⟩ σ:=trivial;split at h
  .rename_i w hw;cases w with
   | true =>
    have h:Yp X.E F (σ.rd a) K σ=some v:=h;cases ha:σ.rd a with
    | none=>rw[ha] at h; cases h
    | some p =>rw[ha] at h;exact kM (by grind [dS,pop]) A h
   | false =>
    have h:Yp X.E F (σ.rd b) K σ=some v:=h;cases ha:σ.rd b with
    | none=>rw[ha] at h; cases h
    | some p =>rw[ha] at h;exact kM (by grind [dS,pop]) A h
  .cases h
 .rename_i t x lo hi;have A:mX X.E ⟨F,.slice t x lo hi none,N,G,O,g⟩ σ:=trivial;split at h
  .rename_i ow sz es H;split at h
   .rename_i I T;split at h
    .rename_i hz;obtain ⟨p,D,C⟩:=c6W T hz H h;exact kM (by grind [dS]) A C
    .cases h
   .cases h
  .rename_i s H;split at h
   .rename_i Q;obtain ⟨p,D,C⟩:=c6X Q H h;exact kM (by grind [dS]) A C
   .cases h
  .rename_i M B m sz H;obtain ⟨p,D,C⟩:=c6V H h;exact kM (by grind [dS]) A C
  .exact uU A h
 .rename_i t x l u m;have A:mX X.E ⟨F,.slice t x (some l) (some u) (some m),N,G,O,g⟩ σ:=trivial;split at h
  .rename_i ow sz es k1 a k2 b k3 c H hl hu hm;split at h
   .rename_i I T;split at h
    .rename_i hz;obtain ⟨D,C⟩:=jC h;simp only[bQ,tJ] at D;obtain ⟨⟨⟨b1,b2⟩,b3⟩,b4⟩:=D;exact kM (σ1:=σ) (by grind [dS,pop,Zp,Nat.eq_of_beq_eq_true]) A C
    .cases h
   .cases h
  .cases h
 .rename_i t m k ok;have A:mX X.E ⟨F,.lookup t m k ok,N,G,O,g⟩ σ:=trivial;split at h
  .rename_i pm q hm hq;unfold a2B at h;split at h
   .rename_i s z i Q;split at h
    .rename_i J S;split at h
     .rename_i b L b7;split at h
      .rename_i b8;split at h
       .rcases aYI h with ⟨p,hg,h⟩|⟨hg,h⟩
        .exact kM (σ1:=σ) (p:=EY ok z (some p)) (by grind [dS]) A h
        .exact kM (σ1:=σ) (p:=EY ok z none) (by grind [dS]) A h
       .unfold LW at h;split at h
        .rename_i p hg;have h:=Uw hV h;exact kM (σ1:=σ) (p:=EY ok z (some p)) (by grind [dS]) A h
        .rename_i hg;exact kM (σ1:=σ) (p:=EY ok z none) (by grind [dS]) A h
        .cases h
      .cases h
     .cases h
    .cases h
   .cases h
  .cases h
 .rename_i t m k x;have A:mX X.E ⟨F,.mapUpdate t m k x,N,G,O,g⟩ σ:=trivial;split at h
  .rename_i pm q y hm hq Y;unfold Rw at h;split at h
   .rename_i s z i Q;split at h
    .rename_i J S;split at h
     .rename_i b L b7;split at h
      .rename_i b8;obtain ⟨D,C⟩:=jC h;exact kM (p := .tuple []) (σ1 := { σ with h:=σ.h.set i (some [qQ b (lJ s L q y)]) }) (by grind [dS]) A (by grind [fD,ASt.put])
      .cases h
     .cases h
    .cases h
   .cases h
  .cases h
 .rename_i t m k x;have A:mX X.E ⟨F,.insert t m k x,N,G,O,g⟩ σ:=trivial;split at h
  .cases h
  rename_i b0;split at h
  .rename_i pm q y hm hq Y;unfold Rw at h;split at h
   .rename_i s z i Q;split at h
    .rename_i J S;split at h
     .rename_i b L b7;split at h
      .rename_i b8;obtain ⟨D,C⟩:=jC h;exact kM (p := .tuple []) (σ1 := { σ with h:=σ.h.set i (some [qQ b (lJ s L q y)]) }) (by rw[hm] at b0; grind [dS]) A (by grind [fD,ASt.put])
      .cases h
     .cases h
    .cases h
   .cases h
  .cases h
 .rename_i s x f;have A:mX X.E ⟨F,.fieldAddr s x f,N,G,O,g⟩ σ:=trivial;split at h
  .rename_i J fs H c0;split at h
   .rename_i B z hf;split at h
    .rename_i p hz hp;obtain ⟨D,C⟩:=jC h;have hz:z≠0:=fun e=>by simp_all
     exact kM (p := .cst p.un) (σ1:=σ) (by simp only[dS,pop,c0,H,hf,Qb,aX hz,ZM,zG,hp,D,FC,V8,if_false,A_]) A C
    .cases h
   .exact uU A h
  .exact uU A h
 .rename_i t x;have A:mX X.E ⟨F,.box t x,N,G,O,g⟩ σ:=trivial;split at h
  .rename_i U hf H;obtain ⟨D,C⟩:=jC h;rw[bQ] at D;exact kM (p := .cst (.agg (U.map PV.un))) (σ1:=σ) (by simp only[dS,hf,H,Qb,FC]; rw[show SB (.agg U)=some (.agg (U.map PV.un)) by grind [SB,PV.newCells,PV.flat]]; rfl) A C
  .exact uU A h
 .rename_i c3 t x y t';have A:mX X.E ⟨F,.binOp c3 t x y t',N,G,O,g⟩ σ:=trivial;split at h
  .rename_i k a k' b H Y;unfold Rq at h;split at h
   .rename_i e;obtain ⟨D,C⟩:=jC h;have D:b≠0:=by grind
    exact kM (by grind [dS,pop,Fa,TW]) A C
   .cases h
  .rename_i k a k' b H Y;unfold Rq at h;split at h
   .rename_i e;obtain ⟨D,C⟩:=jC h;have D:b≠0:=by grind
    exact kM (by grind [dS,pop,Fa,TW]) A C
   .cases h
  .rename_i k a k' b H Y;obtain ⟨D,C⟩:=jC h;have D:¬ b<0:=by grind
   exact kM (by grind [dS,pop,Fa,Ue]) A C
  .rename_i k a k' b H Y;obtain ⟨D,C⟩:=jC h;have D:¬ b<0:=by grind
   exact kM (by grind [dS,pop,Fa,Ue]) A C
  .rename_i a b H Y;obtain ⟨D,C⟩:=jC h;have D:=Qc D;exact kM (by grind [dS,pop,Fa,ZL]) A C
  .rename_i p H Y;unfold Rt at h;split at h
   .rename_i Q;obtain ⟨b,D,C⟩:=aO8 h;exact kM (σ1:=σ) (by simp only[dS,pop,H,Y]; rw[aO9 Q C true]; rfl) A D
   .cases h
  .rename_i p H Y;unfold Rt at h;split at h
   .rename_i Q;obtain ⟨b,D,C⟩:=aO8 h;exact kM (σ1:=σ) (by simp only[dS,pop,H,Y]; rw[aO9 Q C false]; rfl) A D
   .cases h
  .exact uU A h
 .rename_i c;split at h
  .rename_i c4;split at h
   .rename_i x t D C;have A:mX X.E ⟨F,.call c,N,G,O,g⟩ σ:=by simp_all
    unfold WF at h;split at h
    .rename_i I M B m sz hT H;split at h
     .rename_i J S;split at h
      .rename_i hz;obtain ⟨c1,c2⟩:=jC h;exact kM (p := .tuple []) (σ1 := { σ with h:=σ.h.set M (some (J.take B ++ (F5 m I).map PV.un ++ J.drop (B+m*sz))) }) (by grind [dS,Nat.eq_of_beq_eq_true]) A (by grind [fD,ASt.put])
      .cases h
     .cases h
    .rename_i I o' z' hT H;exact kM (p := .tuple []) (σ1:=σ) (by grind [dS]) A (by grind [fD,ASt.put])
    .cases h
   .cases h
  .rename_i c4;split at h
   .rename_i s x d1;split at h
    grind [jC,uU,mX]
    grind [jC,uU,mX]
    grind [jC,uU,mX]
    grind [jC,uU,mX]
    .cases h
   .cases h
  grind [uU,mX]
  .cases h
 grind [uU,c6J]
def qL (P:Program) (C:l7):Prop:=∀ g args h r h',C g args h=some (r,h')->Ev P g args h r h'
theorem Q_ {M:Mem} {B:aT} {P:Program}:∀ {c:List TypeId} {a:ai} {b:List Value},bI M B a b->bI M B (qm P c a) b
 | [],a,b,h=>by cases a<;>exact h
 | t::c,[],b,h=>h
 | t::c,p::a,b,h=>by obtain ⟨u,e,rfl,d,f⟩:=eP.1 h;exact eP.2 ⟨u,e,rfl,by unfold a8T; split<;>first | exact d | exact Yy _ d,Q_ f⟩
theorem a8R {M:Mem} {B:aT}:∀ {e d:ai} {c:List Value},bI M B (e ++ d) c->∃ f g,c=f ++ g/\bI M B e f/\bI M B d g
 | [],d,c,h=>⟨[],c,rfl,gZ.2 rfl,h⟩
 | p::e,d,c,h=>by obtain ⟨u,f,rfl,i,j⟩:=eP.1 h;obtain ⟨a,b,rfl,l,m⟩:=a8R j;exact ⟨u::a,b,rfl,eP.2 ⟨u,a,rfl,i,l⟩,m⟩
def uw.args {P:Program} {d:CP} {g:FuncId} {e a:ai} {h:aH} {r:PV} {h':aH} (k:uw P d g a h r h') (i:∀ (M:Mem) (B:aT) (f:List Value),bI M B e f->bI M B a f):uw P d g e h r h' :=⟨k.1,fun c M B w b j l m n o=>k.2 c M B w b j l m n (i _ _ _ o)⟩
def Ev.args {P:Program} {g:FuncId} {b a:ai} {h:aH} {r:PV} {h':aH} (k:Ev P g a h r h') (d:∀ (M:Mem) (B:aT) (c:List Value),bI M B b c->bI M B a c):Ev P g b h r h':=uw.args k d
def Vz {P:Program}:∀ {e:List TypeId} {b:ai},PV.flats (qm P e b)=PV.flats b
 | [],b=>by cases b<;>rfl
 | t::e,[]=>rfl
 | t::e,p::b=>by
  have f:∀ z (p:PV),(p.Gx z).flat=p.flat:=fun z p=>by
   cases p with
   | sl o s l =>
    rw[PV.Gx];split
    .unfold J5; split<;>rfl
    .rfl
   | _=>rfl
  have g:∀ d (a:ai),PV.flats (Z5 d a)=PV.flats a:=by
   intro d;induction d with
   | nil=>intro a; cases a<;>rfl
   | cons z d h =>
    intro a;cases a with
    | nil=>rfl
    | cons c a=>rw[Z5,PV.flats,PV.flats,f,h]
  have i:(p.BQ (Rh P 8 t)).flat=p.flat:=by
   cases p with
   | agg a=>simp only[PV.BQ,PV.flat,g]
   | _=>simp only[PV.BQ,f]
  have j:(a8T (Rh P 8 t) p).flat=p.flat:=by unfold a8T; split<;>first | rfl | exact i
  rw[qm,PV.flats,PV.flats,j,Vz]
def xA:∀ {a b:ai},PV.flats (a ++ b)=(PV.flats a&&PV.flats b)
 | [],b=>by rfl
 | p::a,b=>by simp[xA,Bool.and_assoc]
theorem aNA (d:VN c3) (n:wJ X.W) (o:∀ r args h a h',X.C r args h=some (a,h')->uw X.E.P c3 r args h a h') (b:∀ (M:Mem) (B:aT) (l:List Value),bI M B c2 l->bI M B f l) (h:Aw X u r f T K σ=some v) :
 ∃ a h',uw X.E.P c3 r c2 σ.h a (zq T σ.h h')/\jd X.E u a { σ with h:=zq T σ.h h' } (fun e=>K e=some v):=by
 simp only[Aw] at h;split at h
 .rename_i c;unfold Bo at h;split at h
  .rename_i a h' p;have h:=Yi n h;simp only[b1S,bQ] at c;obtain ⟨k1,k2,k3,k4⟩:=c;have he:=(uw.sub d (o _ _ _ _ _ p) k1 (fun i m=>by
    simp_all) k3 (fun i q m j=>by
    have:=jq.1 k4 i m;rw[aCW.2 j] at this; exact this)).args b
   grind [wU]
  .cases h
 .cases h
def aN9 (e:wJ X.W) (i:qL X.E.P X.C) (b:∀ (M:Mem) (B:aT) (d:List Value),bI M B c2 d->bI M B f d) (h:Aw X u r f T K σ=some v) :
 ∃ a h',Ev X.E.P r c2 σ.h a (zq T σ.h h')/\jd X.E u a { σ with h:=zq T σ.h h' } (fun c=>K c=some v):=aNA (aA' _) e i b h
theorem aNB (e:wJ X.W) (i:qL X.E.P X.C) (b:∀ (M:Mem) (B:aT) (d:List Value),bI M B c2 d->bI M B f d) (h:Aw X u r f T K σ=some v) :
 WH X.E r c2 u (fun c=>K c=some v) σ:=by
 obtain ⟨a,h',j,l⟩:=aN9 e i b h;exact ⟨a,_,j,l⟩
theorem c4W {H:aH} (h:a_J A.ln T H.length=true) (h':aH):Gy A (zq T H h') H:=by
 intro i f;have b:1000000+i∈A.ln:=by simp_all
 have:=jq.1 h _ b;rw[show Nat.ble 1000000 (1000000+i)=true by rw[Nat.ble_eq]; omega,aJS] at this;simp only[bQ] at this;obtain ⟨g,a⟩:=this;have c:i<H.length:=by simp_all
 have d:i∉T:=fun e=>by rw[a6L.2 e] at a; cases a
 grind [zq,Q4,ZB]
theorem bAK (m:wJ X.W) (n:qL X.E.P X.C) {args:List Operand} (h:OT X true o a' args K σ=some v) :
 ∃ g first a c,σ.rd a'=some (.func (.func g) first a)/\lG (args.map σ.rd)=some c/\aAY X.E g (first ++ c ++ a) o.dst (fun i=>K i=some v) σ:=by
 unfold OT at h;split at h
 .rename_i g first a c p q
  try simp only[ut,DU] at h
  have b:∀ (M:Mem) (B:aT) (j:List Value),bI M B (first ++ c ++ a) j->bI M B (first ++ qm X.E.P (vG X.E o) c ++ a) j:=fun M B j hv=>by grind [a8R,Gw,Q_]
  split at h
  .rename_i e;unfold kE at h;split at h
   .rename_i r t;have h:=Yi m h;split at h
    .rename_i l;exact ⟨g,first,a,c,p,q,aLV ((n _ _ _ _ _ t).args b) l (by rw[xA,xA,Vz] at e; rw[xA,xA]; exact e) (wU h)⟩
    .cases h
   .cases h
  .split at h
   .rename_i d;rw[bQ] at d;obtain ⟨r,h',u,w⟩:=aN9 m n b h;exact ⟨g,first,a,c,p,q,.inr ⟨d.1,r,_,u,c4W d.2 h',w⟩⟩
   .cases h
 .cases h
def a_3 (f:Nat->Nat):∀ {a:ai},a.all oP=true->mJ f a=a
 | [],_=>by simp[mJ]
 | p::a,h=>by rw[DX,bQ] at h;have b:=h.1;unfold oP at b;rw[bQ] at b;rw[mJ,a_2 f p b.2,a_3 f h.2]
def c3Z (f:Nat->Nat) {o:Option (ai)} (h:PX o=true):oG f o=o:=by
 cases o with
 | none=>rfl
 | some a=>simp only[oG]; rw[a_3 f h]
def a8O (f:Nat->Nat):∀ {h:aH},h.all PX=true->h.map (oG f)=h
 | [],_=>rfl
 | o::h,e=>by rw[DX,bQ] at e;rw[zV,c3Z f e.1,a8O f e.2]
def aL9 (D:Nat->Bool):∀ {a:ai},a.all oP=true->PV.qA D a=true
 | [],_=>by rfl
 | p::a,h=>by rw[DX,bQ] at h;have b:=h.1;unfold oP at b;rw[bQ] at b;rw[PV.qA,aLA p b.2,aL9 D h.2]; rfl
def b6U (a:List Nat) (H:aH) {h':aH} (e:h'.all PX=true):zq a H h'=aIB a H h':=by
 unfold zq aIB;have c:(h'.take a.length).all PX=true:=jq.2 fun x b=>jq.1 e x (ED b)
 have d:(h'.drop a.length).all PX=true:=jq.2 fun x b=>jq.1 e x (List.mem_of_mem_drop b)
 rw[a8O _ c,a8O _ d]
theorem aNC (o:wJ X.W) (p:qL X.E.P X.C) (b:∀ (M:Mem) (B:aT) (j:List Value),bI M B c2 j->bI M B f j) (h:OU X u r f T K σ=some v):WH X.E r c2 u (fun d=>K d=some v) σ:=by
 simp only[OU] at h;split at h
 .rename_i c;obtain ⟨l,h⟩:=jC h;unfold Bo at h;split at h
  .rename_i a h' m;have h:=Yi o h;obtain ⟨q,h⟩:=jC h;simp only[bQ] at c;obtain ⟨k1,k2,k3⟩:=c;rw[<- a8O (wQ _) l] at m;have he:=(Ev.sub (p _ _ _ _ _ m) k1 (fun i n=>by
    simp_all) k3 (fun i t n e=>by
    have:=jq.1 l (sD σ.h i) (List.mem_map_of_mem n);rw[aCW.2 e] at this;exact aL9 _ this)).args b
   rw[b6U _ _ q] at he;exact ⟨_,_,he,wU h⟩
  .cases h
 .cases h
theorem bAJ (x:wJ X.W) (m:qL X.E.P X.C) {args:List Operand} (h:OT X false o a' args K σ=some v) :
 ∃ g first a e,σ.rd a'=some (.func (.func g) first a)/\lG (args.map σ.rd)=some e/\WH X.E g (first ++ e ++ a) o.dst (fun q=>K q=some v) σ:=by
 unfold OT at h;split at h
 .rename_i g first a e n p
  have b:∀ (M:Mem) (B:aT) (t:List Value),bI M B (first ++ e ++ a) t->bI M B (first ++ qm X.E.P (vG X.E o) e ++ a) t:=fun M B t hv=>by grind [a8R,Gw,Q_]
  split at h
  grind [aNC,aNB]
  split at h
  .rename_i c;unfold kE at h;split at h
   .rename_i r l;have h:=Yi x h;split at h
    .unfold aBH at h;split at h
     .obtain ⟨j,d⟩:=jC h;simp only[bQ,tJ] at j;exact ⟨g,first,a,e,n,p,_,_,(Ev.thaw (m _ _ _ _ _ l) c j.1 j.2).args b,wU d⟩
     .rename_i A y _ _;by_cases i:0<y.length
      .rw[decide_eq_true i] at h;obtain ⟨j,d⟩:=jC h;exact ⟨g,first,a,e,n,p,_,_,(Ev.c8C (m _ _ _ _ _ l) c i j).args b,wU d⟩
      .have z:y = []:=oK (by omega);subst z;exact ⟨g,first,a,e,n,p,aAZ ((m _ _ _ _ _ l).args b) rfl (by rw[xA,xA,Vz] at c; rw[xA,xA]; exact c) (wU h)⟩
     .cases h
    .split at h
     .rename_i u;exact ⟨g,first,a,e,n,p,aAZ ((m _ _ _ _ _ l).args b) u (by rw[xA,xA,Vz] at c; rw[xA,xA]; exact c) (wU h)⟩
     .cases h
   .cases h
  .split at h
   simp_all
   .split at h
    .obtain ⟨j,d⟩:=jC h;unfold kE at d;split at d
     .rename_i r l;have d:=Yi x d;split at d
      .rename_i w;exact ⟨g,first,a,e,n,p,_,_,(Ev.bZI (m _ _ _ _ _ l) w j).args b,wU d⟩
      .cases d
     .cases d
    grind [aNC,aNB]
 .cases h
theorem aN8 (l:AV X.V) (m:qL X.E.P X.C) {args:List Operand} (h:a1Z X o a' args K σ=some v) :
 ∃ g first a b r,σ.rd a'=some (.func (.func g) first a)/\lG (args.map σ.rd)=some b/\Ev X.E.P g (first ++ b ++ a) [] r []/\r.flat=true/\PV.flats (first ++ b ++ a)=true/\jd X.E o.dst r σ (fun e=>K e=some v):=by
 unfold a1Z at h;split at h
 .rename_i p b n q;obtain ⟨g,first,a,rfl,h⟩:=bBE h;obtain ⟨d,h⟩:=jC h;have c:∀ (M:Mem) (B:aT) (i:List Value),bI M B (first ++ b ++ a) i->bI M B (first ++ qm X.E.P (vG X.E o) b ++ a) i:=fun M B i hv=>by grind [a8R,Gw,Q_]
  unfold kE at h;split at h
  .rename_i r t;have h:=Uw l h;split at h
   .rename_i j;exact ⟨g,first,a,b,r,n,q,(m _ _ _ _ _ t).args c,j,by rw[xA,xA,Vz] at d; rw[xA,xA]; exact d,wU h⟩
   .cases h
  .cases h
 .cases h
theorem aN3 (d:AV X.V) (i:wJ X.W) (j:qL X.E.P X.C) (h:KQ X false o K σ=some v):yY X.E o (fun a=>K a=some v) σ:=by
 unfold KQ at h;split at h
 grind [aN8,aAZ,bAJ,yY]
 .rename_i c;rw[b6C c];simp_all
  .split at h
   .rename_i l e f;refine .inr ?_;unfold YZ;rw[f];intro b m;obtain ⟨g,n⟩:=b_3 h;cases b
    .exact wU g
    grind [wU]
   .exact .inl (aNE d c h)
theorem aN4 (b:AV X.V) (c:wJ X.W) (d:qL X.E.P X.C) (h:KQ X true o K σ=some v):EF X.E o (fun a=>K a=some v) σ:=by grind [KQ,EF,aN8,aLV,bAK,aNE]
theorem aX' (h:dF j σ.s=some (.bool G)):σ.lit j G=σ:=by unfold ASt.lit; rw[aID h]
theorem WV (e:AV X.V) (f:wJ X.W) (g:qL X.E.P X.C):∀ (l:List Oper) {K:ASt->R} {σ:ASt},lI X false ops l K σ=some v->nT X.E ops l (fun a=>K a=some v) σ
 | [],K,σ,h=>h
 | o::l,K,σ,h=>by
  have m:∀ σ,lI X false ops l K σ=some v->nT X.E ops l (fun a=>K a=some v) σ:=fun σ h=>WV e f g l h
  rw[lI] at h;rw[nT];split at h
  grind [a0Z,aN3]
  .rename_i j c n;simp only[CG];split at h
   grind [zI,wU]
   .rename_i d p;split at h
    .rename_i b q;have i:KR X false o d c b (lI X false ops l K) σ=some v:=by
      cases b
      .exact h
      .exact h
     grind [KR,aX',a0Z,aN3,zI,wU]
    grind [zI,wU]
    .cases h
theorem aBG (e:AV X.V) (f:wJ X.W) (g:qL X.E.P X.C):∀ (l:List Oper) {K:ASt->R} {σ:ASt},lI X true ops l K σ=some v->vC X.E ops l (fun a=>K a=some v) σ
 | [],K,σ,h=>h
 | o::l,K,σ,h=>by
  have m:∀ σ,lI X true ops l K σ=some v->vC X.E ops l (fun a=>K a=some v) σ:=fun σ h=>aBG e f g l h
  rw[lI] at h;rw[vC];split at h
  grind [a0Y,aN4]
  .rename_i j c n;simp only[CG];split at h
   grind [zI,wU]
   .rename_i d p;split at h
    .rename_i b q;have i:KR X true o d c b (lI X true ops l K) σ=some v:=by
      cases b
      .exact h
      .exact h
     grind [KR,aX',a0Y,aN4,zI,wU]
    grind [zI,wU]
    .cases h
def LV (X:XE):Prop:=∀ l m x (K:AX->ASt->R) σ v,X.L l m x K (σ.gc l m)=some v->aY7 X.m0 (fH X.E X.m0 x) (fun e a=>K e a=some v) σ
def aNF (g:AV X.V) (j:wJ X.W) (m:qL X.E.P X.C) {K:ASt->R}:∀ (fuel:Nat) {L:Array Bool} {σ:ASt},IJ X ops K fuel L σ=some v->Na X.E ops (fun b=>K b=some v) fuel L σ
 | 0,L,σ,h=>by
  unfold IJ at h;split at h
  .rename_i c; exact ⟨c,h⟩
  .cases h
 | fuel+1,L,σ,h=>by
  unfold IJ at h;split at h
  .rename_i c; exact ⟨fun _=>h,fun i d=>by rw[c] at d; simp[KU] at d⟩
  .rename_i a l c;refine ⟨fun e=>(by rw[c] at e; cases e),fun i d => ?_⟩;rw[c] at d;have f:=aL7 h _ (uu.2 ⟨i,d,rfl⟩);cases n:ops[i]? with
   | none=>rw[n] at f; cases f
   | some o =>rw[n] at f;obtain ⟨b,p,q⟩:=b6D (aBG g j m [o] f);exact ⟨o,rfl,b,p,aNF g j m fuel q⟩
def IM {k:ASt->R}:∀ (q:List Nat) {σ:ASt} {v:PV×aH},Bv k q σ=some v->∃ a,k (KX a σ)=some v
 | [],σ,v,h=>⟨[],h⟩
 | d::b,σ,v,h=>by
  unfold Bv at h;split at h
  .rename_i e;split at h
   .rename_i i f;split at h
    .rename_i p g;obtain ⟨j,l⟩:=jC h;obtain ⟨a,c⟩:=IM b l;refine ⟨d::a,?_⟩;have:KW d σ=⟨kG (d-9000000) (.cst ((qM p.length p 1).headD .nilp)) σ.s,σ.h.set i none⟩:=by simp only[KW,e,a2H,f,g,j]
     rw[KX,this]; exact c
    .exact IM b h
   .exact IM b h
  rename_i m;split at h
  .rename_i e;split at h
   .rename_i i n o f;split at h
    .rename_i r g;obtain ⟨j,l⟩:=jC h;obtain ⟨a,c⟩:=IM b l;refine ⟨d::a,?_⟩;have:KW d σ=⟨kG (d-1000000) (.sl false o (qM o r n)) σ.s,σ.h.set i none⟩:=by simp only[KW,m,e,a2I,f,g,j]
     rw[KX,this]; exact c
    .exact IM b h
   .exact IM b h
  .obtain ⟨a,c⟩:=IM b h;exact ⟨d::a,c⟩
theorem y8 (d:AV X.V) (f:wJ X.W) (g:qL X.E.P X.C) (j:LV X):∀ (c:Code) {K:AX->ASt->R} {σ:ASt},bD X c K σ=some v->fH X.E X.m0 c (fun e a=>K e a=some v) σ
 | .skip,K,σ,h=>h
 | .label _,K,σ,h=>h
 | .exit _,K,σ,h=>h
 | .ret,K,σ,h=>h
 | .region _ ops o,K,σ,h=>by
  simp only[bD] at h;rw[fH];cases o with
  | false=>grind [WV]
  | true =>
   cases n:zK X.E ops with
   | true =>simp only[n] at h;exact .inl ⟨n,aBG d f g _ h⟩
   | false =>simp only[n] at h;exact .inr (aNF d f g _ h)
 | .seq x y,K,σ,h=>by
  refine zo x (fun e a he => ?_) (y8 d f g j x h);cases e with
  | normal =>
   have t:∀ a,GU X.E X.m0 y (bD X y K) a=some v->fH X.E X.m0 y (fun e σ=>K e σ=some v) a\/∃ l m,X.m0<=m/\GK l m a=true/\fH X.E X.m0 y (fun e σ=>K e σ=some v) (a.gc l m):=fun a he=>by
    unfold GU at he;cases u:X.E.jt.lookup (Em y) with
    | none=>rw[u] at he; exact .inl (y8 d f g j y he)
    | some l =>
     rw[u] at he;obtain ⟨p,he⟩:=jC he;split at he
     .rename_i q;simp only[bQ,tJ] at q;exact .inr ⟨l,_,q.1,aCU p q.2,y8 d f g j y he⟩
     .cases he
   unfold y9 at he;split at he
   .obtain ⟨w,he⟩:=IM _ he;exact ⟨w,t _ he⟩
   .exact ⟨[],t _ he⟩
  | ret=>exact he
  | exit i=>exact he
 | .cond c x y,K,σ,h=>by
  simp only[bD] at h;rw[fH];split at h
  .rename_i b r;(try simp only[r]);split at h
   .cases b with
    | true =>rw[a8N r] at h;exact ⟨fun _=>y8 d f g j x h,fun e=>by cases e⟩
    | false =>rw[a8N r] at h;exact ⟨fun e=>(by cases e),fun _=>y8 d f g j y h⟩
   .cases b with
    | true=>exact ⟨fun _=>y8 d f g j x h,fun e=>by cases e⟩
    | false=>exact ⟨fun e=>(by cases e),fun _=>y8 d f g j y h⟩
  .cases h
 | .block id x,K,σ,h=>by
  refine zo x (fun e a he => ?_) (y8 d f g j x h);cases e with
  | normal=>exact he
  | ret=>exact he
  | exit i =>
   simp only[aS] at he;simp only[RV];split at he
   .rename_i e; rw[ay e]; exact he
   .rename_i e; rw[aX e]; exact he
 | .scope x,K,σ,h=>by exact y8 d f g j x h
 | .loop x,K,σ,h=>by exact j _ _ _ _ _ _ h
 | .rangeFunc _ _ _ _,K,σ,h=>by simp[bD] at h
 | .goto _,K,σ,h=>by simp[bD] at h
 | .refuse _,K,σ,h=>by simp[bD] at h
end
structure yR where
 vars:List Nat
 mv:List Nat
 mu:List Nat
 sz:List (Nat×List Nat)
 jt:List (Nat×List Nat)
 lt:List (Nat×List Nat)
 pt:List (Nat×List Nat)
 fz:List Nat
 ro:List (List Nat×Bool)
 ft:List (Nat×List Nat) := []
 sy:List Nat := []
 ln:List Nat := []
 df:Bool:=false
abbrev zg:=AE->Nat->List Nat->Nat->Code->(AX->ASt->R)->ASt->R
structure SE where
 P:Program
 jG:FuncId->yR
 V:TypeId->PV->(PV->R)->R
 W:FuncId->aH->PV->aH->(PV->aH->R)->R
 C0:l7
def SE.ae (S:SE) (g:FuncId) (n:Nat):AE:=⟨S.P,n,(S.jG g).vars,(S.jG g).mv,(S.jG g).mu,(S.jG g).sz,(S.jG g).jt,(S.jG g).lt,(S.jG g).pt,(S.jG g).fz,(S.jG g).ft,(S.jG g).sy,(S.jG g).ln⟩
def SE.xe (S:SE) (C:l7) (L:zg) (E:AE) (a:Nat):XE:=⟨E,C,S.V,S.W,L E a,a⟩
def Q9:PV->Nat
 | .ptr i _=>i+1
 | .tuple a=>PV.JU a
 | _=>0
def a_H (P:Program) (rs:List ResultVar) (a:ASt):Option PV:=match rs with
 | [x]=>resV P a x
 | rs=>(lG (rs.map (resV P a))).map fun b=>PV.tuple (b.map PV.un)
def b0W:PV->List Nat
 | .tuple a=>Fz a
 | _ => []
def JI (P:Program) (d:List ResultVar) (e:List (List Nat×Bool)) (a:Nat) (c:List Nat) (b:ASt):R:=match a_H P d b with
 | some r=>bJ (n_ (b.h.take (Nat.max a (Q9 r))) (yU c (b0W r))) (match decide (Nat.max a (Q9 r)<=b.h.length)&&(r.blw (Nat.max a (Q9 r))&&Bj (Nat.max a (Q9 r)) (MP (yU c (b0W r)) 0 (b.h.take (Nat.max a (Q9 r))))) with
  | true=>some (yg e r,b.h.take (Nat.max a (Q9 r)))
  | false=>none)
 | none=>none
def JH (P:Program) (b:List ResultVar) (c:List (List Nat×Bool)) (d:Nat) (e:List Nat):AX->ASt->R
 | .normal,a=>JI P b c d e a
 | .ret,a=>JI P b c d e a
 | .exit _,_=>none
def bWT (o:Oper):Bool:=match o.op with | .defer _=>true | _=>false
def GN:Code->Bool
 | .region _ b a => !a&&b.toList.any bWT
 | .seq x y=>GN x||GN y
 | .cond _ x y=>GN x||GN y
 | .block _ x=>GN x
 | _=>false
def Z_:List Oper->Option (List Oper×Oper×Call×List Oper)
 | []=>none
 | o::l=>match o.op with
  | .defer c=>some ([],o,c,l)
  | _=>(match Z_ l with | some (a,d,c,b)=>some (o::a,d,c,b) | none=>none)
abbrev Qv:=Nat->FuncId->ai->AX->ASt->R
def M_ (e:Nat) (o:Oper) (c:Call) (K:Nat->FuncId->ai->ASt->R) (d:ASt):R:=match o.guard,o.dst,c.callee with
 | none,none,.value f=>(match d.rd f,lG (c.args.toList.map d.rd) with
  | some (.func (.func g) first a),some b=>(match PV.blws (Nat.max e (PV.JU (first ++ b ++ a))) (first ++ b ++ a) with
   | true=>K (Nat.max e (PV.JU (first ++ b ++ a))) g (first ++ b ++ a) d
   | false=>none)
  | _,_=>none)
 | _,_,_=>none
def SE.vz (S:SE) (C:l7) (L:zg) (E:AE) (a:Nat):Code->(AX->ASt->R)->Qv->ASt->R
 | .seq x y,f,h,e=>(match GN x with
  | true=>S.vz C L E a x (yM (y9 E a y (bD (S.xe C L E a) y f)) f) (fun m g j=>yM (y9 E m y (bD (S.xe C L E m) y (h m g j))) (h m g j)) e
  | false=>bD (S.xe C L E a) x (yM (S.vz C L E a y f h) f) e)
 | .cond c x y,f,h,e=>(match e.rd c with
  | some (.bool b)=>(match c with
   | .tmp d=>aB b (match GN x with | true=>S.vz C L E a x f h (e.lit d true) | false=>bD (S.xe C L E a) x f (e.lit d true)) (match GN y with | true=>S.vz C L E a y f h (e.lit d false) | false=>bD (S.xe C L E a) y f (e.lit d false))
   | _=>none)
  | _=>none)
 | .block id x,f,h,e=>S.vz C L E a x (aS id f) (fun m g j=>aS id (h m g j)) e
 | .region _ i l,_,h,e=>(match l with
  | true=>none
  | false=>(match Z_ i.toList with
   | some (pre,o,c,post)=>lI (S.xe C L E a) false i pre (M_ a o c fun m g j=>lI (S.xe C L E a) false i post (h m g j .normal)) (e.head E)
   | none=>none))
 | _,_,_,_=>none
def SE.CD (S:SE) (C:l7):l7:=fun g args h=>match S.C0 g args h with
 | some _=>none
 | none=>(match (S.jG g).df with | true=>none | false=>C g args h)
def SE.Z7 (S:SE) (C:l7) (L:zg) (E:AE) (d:List ResultVar) (f:List (List Nat×Bool)) (a:Nat) (i:List Nat):Qv:=fun _ g b e c=>match e with
 | .exit _=>none
 | _=>Aw (S.xe (S.CD C) L E a) none g b (KN c.h 3 (yU [] (PV.yh b))) (JI S.P d f a i) c
def SE.run (S:SE) (C:l7) (L:zg) (g:FuncId) (args:ai) (h:aH):R:=match S.P.funcs[g]? with
 | some a=>(match a.body with
  | some c=>(match decide (args.length<=a.ntmps)&&(a.name != "runtime.NumGoroutine") with
   | true=>(match (S.jG g).df with
    | false=>bD (S.xe C L (S.ae g a.ntmps) h.length) c (JH S.P a.results.toList (S.jG g).ro h.length (Fz args)) ⟨oH 0 args,h⟩
    | true=>S.vz C L (S.ae g a.ntmps) h.length c (JH S.P a.results.toList (S.jG g).ro h.length (Fz args)) (S.Z7 C L (S.ae g a.ntmps) a.results.toList (S.jG g).ro h.length (Fz args)) ⟨oH 0 args,h⟩)
   | false=>none)
  | none=>none)
 | none=>none
def SE.wp (S:SE) (E:AE):AE := { E with P:=S.P }
def SE.turn (S:SE) (C:l7) (L:zg):zg:=fun E a l m x K b =>
 bJ (JB l m b) (match decide (a<=m)&&GL l m b with
 | true=>bD (S.xe C L (S.wp E) a) x (yM (fun c=>L E a l m x K (c.gc l m)) K) (b.gc l m)
 | false=>none)
def J7 (a b:R):R:=match a with | some x=>some x | none=>b
def SE.bG (S:SE):Nat->l7×zg
 | 0=>(S.C0,fun _ _ _ _ _ _ _=>none)
 | n+1=>(fun g args h=>J7 (S.C0 g args h) (S.run (S.bG n).1 (S.bG n).2 g args h),S.turn (S.bG n).1 (S.bG n).2)
open Classical in
def lim (f:Nat->R):R:=if h:∃ n v,f n=some v then some (Classical.choose (Classical.choose_spec h)) else none
def SE.CC (S:SE):l7:=fun g args h=>lim fun n=>(S.bG n).1 g args h
def SE.LL (S:SE):zg:=fun E a l m x K b=>lim fun n=>(S.bG n).2 E a l m x K b
structure SE.OK (S:SE):Prop where
 V:AV S.V
 W:wJ S.W
section
variable {S:SE}
theorem aCV (l:List Nat) (m:Nat) (σ:ASt):(σ.gc l m).gc l m=σ.gc l m:=by grind [ASt.gc,List.filter_filter]
def bV9 (l:List Nat) (m:Nat) (σ:ASt):GL l m (σ.gc l m)=GL l m σ:=by unfold GL; rw[aCV]
def c39 (l:List Nat) (m:Nat) (σ:ASt):JB l m (σ.gc l m)=JB l m σ:=by unfold JB; rw[aCV]
def c8T (C:l7) (L:zg) (E:AE) (m0:Nat) (l:List Nat) (m:Nat) (x:Code) (K:AX->ASt->R) (σ:ASt):S.turn C L E m0 l m x K (σ.gc l m)=S.turn C L E m0 l m x K σ:=by unfold SE.turn; rw[bV9,c39,aCV]
variable {ι:Type} {Good:(ι->R)->Prop} (F:Nc Good) (hS:S.OK) {C:ι->l7} {L:ι->zg} (hC:∀ g args h,Good fun i=>C i g args h)
 (hL:∀ (E:AE) (m0:Nat) (l:List Nat) (m:Nat) (x:Code) (K:ι->AX->ASt->R) (σ:ASt),(∀ e σ,Good fun i=>K i e σ)->Good fun i=>L i E m0 l m x (K i) σ)
include F hS hC hL in
theorem Om {E:AE} {m0:Nat} (c:Code) {K:ι->AX->ASt->R} {σ:ASt} (h:∀ e σ,Good fun i=>K i e σ):Good fun i=>bD (S.xe (C i) (L i) E m0) c (K i) σ :=GM F (X:=S.xe (fun _ _ _=>none) (fun _ _ _ _ _ _ _=>none) E m0) (C:=C) (L:=fun i=>L i E m0) hS.V hS.W hC (fun l m x K σ h=>hL E m0 l m x K σ h) c h
include F hS hC hL in
theorem aUK {E:AE} {m0:Nat} (l:List Oper) {K:ι->ASt->R} {σ:ASt} (h:∀ σ,Good fun i=>K i σ):Good fun i=>lI (S.xe (C i) (L i) E m0) false c' l (K i) σ :=Xw F (X:=S.xe (fun _ _ _=>none) (fun _ _ _ _ _ _ _=>none) E m0) (C:=C) (L:=fun i=>L i E m0) hS.V hS.W hC l h
include F hS hC hL in
theorem aUH {E:AE} {m0:Nat} {y:Code} {K:ι->AX->ASt->R} {σ:ASt} (h:∀ e σ,Good fun i=>K i e σ):Good fun i=>y9 E m0 y (bD (S.xe (C i) (L i) E m0) y (K i)) σ:=by
 have a:∀ σ,Good fun i=>GU E m0 y (bD (S.xe (C i) (L i) E m0) y (K i)) σ:=fun σ=>by
  unfold GU;split
  .refine jY F ?_;split
   .exact Om F hS hC hL y h
   .exact F.no
  .exact Om F hS hC hL y h
 unfold y9;split
 .exact Ib F a _
 .exact a _
include F in
theorem bVI {m0:Nat} {c:Call} {K:ι->Nat->FuncId->ai->ASt->R} {σ:ASt} (h:∀ m g a σ,Good fun i=>K i m g a σ):Good fun i=>M_ m0 I c (K i) σ:=by
 unfold M_;split
 .split
  .split
   .exact h _ _ _ _
   .exact F.no
  .exact F.no
 .exact F.no
include F hS hC hL in
theorem TQ {E:AE} {m0:Nat}:∀ (c:Code) {a:ι->AX->ASt->R} {b:ι->Qv} {σ:ASt},(∀ e σ,Good fun i=>a i e σ)->(∀ m g d e σ,Good fun i=>b i m g d e σ)->Good fun i=>S.vz (C i) (L i) E m0 c (a i) (b i) σ
 | .seq x y,a,b,σ,h,h'=>by
  simp only[SE.vz];split
  .exact TQ x (fun e σ=>Xx (fun σ=>aUH F hS hC hL h) h e σ) (fun m g d e σ=>Xx (fun σ=>aUH F hS hC hL (h' m g d)) (h' m g d) e σ)
  .exact Om F hS hC hL x fun e σ=>Xx (fun σ=>TQ y h h') h e σ
 | .cond c x y,a,b,σ,h,h'=>by
  simp only[SE.vz];split
  .split
   .refine Ia F ?_ ?_
    .split
     .exact TQ x h h'
     .exact Om F hS hC hL x h
    .split
     .exact TQ y h h'
     .exact Om F hS hC hL y h
   .exact F.no
  .exact F.no
 | .block id x,a,b,σ,h,h'=>by simp only[SE.vz];exact TQ x (fun e σ=>aCX h e σ) (fun m g d e σ=>aCX (h' m g d) e σ)
 | .region _ j f,a,b,σ,h,h'=>by
  simp only[SE.vz];split
  .exact F.no
  .split
   .exact aUK F hS hC hL _ fun σ=>bVI F fun m g d σ=>aUK F hS hC hL _ fun σ=>h' m g d .normal σ
   .exact F.no
 | .skip,a,b,σ,h,h'=>F.no
 | .label _,a,b,σ,h,h'=>F.no
 | .exit _,a,b,σ,h,h'=>F.no
 | .ret,a,b,σ,h,h'=>F.no
 | .scope _,a,b,σ,h,h'=>F.no
 | .loop _,a,b,σ,h,h'=>F.no
 | .rangeFunc _ _ _ _,a,b,σ,h,h'=>F.no
 | .goto _,a,b,σ,h,h'=>F.no
 | .refuse _,a,b,σ,h,h'=>F.no
include F hS hC in
theorem bVQ {E:AE} {c:List ResultVar} {d:List (List Nat×Bool)} {m0:Nat} {f:List Nat} (m:Nat) (g:FuncId) (a:ai) (e:AX) (σ:ASt):Good fun i=>S.Z7 (C i) (L i) E c d m0 f m g a e σ:=by
 have b:∀ g args h,Good fun i=>S.CD (C i) g args h:=fun g args h=>by
  unfold SE.CD;split
  .exact F.no
  .split
   .exact F.no
   .exact hC _ _ _
 have j:Good fun i=>Aw (S.xe (S.CD (C i)) (L i) E m0) none g a (KN σ.h 3 (yU [] (PV.yh a))) (JI S.P c d m0 f) σ:=by
  simp only[Aw];split
  .exact a6G F b fun r h'=>TP (X:=S.xe (fun _ _ _=>none) (fun _ _ _ _ _ _ _=>none) E m0) F hS.W fun p q=>jD F fun σ=>F.const _
  .exact F.no
 unfold SE.Z7;cases e
 .exact j
 .exact j
 .exact F.no
include F hS hC hL in
theorem aC' {g:FuncId} {args:ai} {h:aH}:Good fun i=>S.run (C i) (L i) g args h:=by
 unfold SE.run;split
 .split
  .split
   .split
    .exact Om F hS hC hL _ fun e σ=>F.const _
    .exact TQ F hS hC hL _ (fun e σ=>F.const _) fun m g a e σ=>bVQ F hS hC m g a e σ
   .exact F.no
  .exact F.no
 .exact F.no
include F hS hC hL in
theorem a6H {E:AE} {m0:Nat} {l:List Nat} {m:Nat} {x:Code} {K:ι->AX->ASt->R} {σ:ASt} (h:∀ e σ,Good fun i=>K i e σ):Good fun i=>S.turn (C i) (L i) E m0 l m x (K i) σ:=by
 unfold SE.turn;refine jY F ?_;split
 .exact Om F hS hC hL _ fun e σ=>Xx (fun σ=>hL _ _ _ _ _ _ _ h) h e σ
 .exact F.no
include F in
theorem aCZ {a:R} {f:ι->R} (h:Good f):Good fun i=>J7 a (f i):=by
 cases a
 .exact h
 .exact F.const _
theorem aD0 (F:Nc Good) (hS:S.OK):∀ (n:Nat) (E:AE) (m0:Nat) (l:List Nat) (m:Nat) (x:Code) (K:ι->AX->ASt->R) (σ:ASt),(∀ e σ,Good fun i=>K i e σ)->Good fun i=>(S.bG n).2 E m0 l m x (K i) σ
 | 0,_,_,_,_,_,_,_,_=>F.no
 | n+1,_,_,_,_,_,_,_,h=>a6H F hS (C:=fun _=>(S.bG n).1) (fun _ _ _=>F.const _) (aD0 F hS n) h
def FH (F:Bool->R):Prop:=∀ v,F false=some v->F true=some v
theorem OY:Nc FH:=⟨fun _ _ h=>h,fun c k b hk v h=>by
 have h:(match c false with | some (r,h)=>k false r h | none=>none)=some v:=h;show (match c true with | some (r,h)=>k true r h | none=>none)=some v;cases a:c false with
 | none=>rw[a] at h; cases h
 | some x =>obtain ⟨r,d⟩:=x;rw[a] at h;rw[b _ a];exact hk r d v h⟩
theorem JL (hS:S.OK):∀ n,(∀ g args h v,(S.bG n).1 g args h=some v->(S.bG (n+1)).1 g args h=some v) /\
 (∀ E m0 l m x (K a:AX->ASt->R) σ v,(∀ e σ v,K e σ=some v->a e σ=some v)->(S.bG n).2 E m0 l m x K σ=some v->(S.bG (n+1)).2 E m0 l m x a σ=some v)
 | 0=>⟨fun g args h v hv=>by show J7 (S.C0 g args h) _=some v; rw[show S.C0 g args h=some v from hv]; rfl,fun _ _ _ _ _ _ _ _ _ _ h=>by cases h⟩
 | n+1=>by
  obtain ⟨b,c⟩:=JL hS n;have hC:∀ g args h,FH fun i=>(bif i then (S.bG (n+1)).1 else (S.bG n).1) g args h:=fun g args h v hv=>b g args h v hv
  have hL:∀ (E:AE) (m0:Nat) (l:List Nat) (m:Nat) (x:Code) (K:Bool->AX->ASt->R) (σ:ASt),(∀ e σ,FH fun i=>K i e σ)->FH fun i=>(bif i then (S.bG (n+1)).2 else (S.bG n).2) E m0 l m x (K i) σ :=fun E m0 l m x K σ d v hv=>c E m0 l m x _ _ σ v (fun e σ v h=>d e σ v h) hv
  refine ⟨fun g args h v hv => ?_,fun E m0 l m x K a σ v d hv => ?_⟩
  .exact aCZ OY (aC' OY hS hC hL) v hv
  .exact a6H OY hS hC hL (K:=fun i=>bif i then a else K) (fun e σ v h=>d e σ v h) v hv
theorem b'0 (hS:S.OK) {E:AE} {m0:Nat} {l:List Nat} {m:Nat} {x:Code} {K:AX->ASt->R} {σ:ASt} {n k:Nat} (hk:n<=k) (hv:(S.bG n).2 E m0 l m x K σ=some U):(S.bG k).2 E m0 l m x K σ=some U:=by
 induction hk with
 | refl=>exact hv
 | step _ a=>exact (JL hS _).2 _ _ _ _ _ _ _ _ _ (fun _ _ _ h=>h) a
theorem aY9 (hS:S.OK) (n:Nat) {E:AE} {m0:Nat} {l:List Nat} {m:Nat} {x:Code} {K a:AX->ASt->R} {σ:ASt} (b:∀ e σ U,K e σ=some U->a e σ=some U) (hv:(S.bG n).2 E m0 l m x K σ=some U):(S.bG n).2 E m0 l m x a σ=some U :=aD0 OY hS n E m0 l m x (fun i=>bif i then a else K) σ (fun e σ U h=>b e σ U h) U hv
theorem aEQ {f:Nat->R} (c:∀ n U,f n=some U->f (n+1)=some U):lim f=some U↔∃ n,f n=some U:=by
 have a:∀ {n k:Nat} {U:PV×aH},n<=k->f n=some U->f k=some U:=fun hk hv=>by
  induction hk with
  | refl=>exact hv
  | step _ d=>grind
 unfold lim;constructor
 .intro h;split at h
  grind
  .cases h
 .intro ⟨n,b⟩;have e:∃ n U,f n=some U:=⟨n,U,b⟩;grind
structure Qk (F:Option Nat->R):Prop where
 mono:∀ n v,F (some n)=some v->F (some (n+1))=some v
 lim:∀ v,F none=some v↔∃ n,F (some n)=some v
theorem Qk.le {F:Option Nat->R} (h:Qk F) {n k:Nat} (hk:n<=k) (hv:F (some n)=some U):F (some k)=some U:=by
 induction hk with
 | refl=>exact hv
 | step _ a=>exact h.mono _ _ a
theorem Rx:Nc Qk:=⟨fun c=>⟨fun _ _ h=>h,fun v=>⟨fun h=>⟨0,h⟩,fun ⟨_,h⟩=>h⟩⟩,fun c k d hk=>by
 refine ⟨fun n v h => ?_,fun v=>⟨fun h => ?_,fun ⟨n,h⟩ => ?_⟩⟩
 .cases a:c (some n) with
  | none=>rw[a] at h; cases h
  | some x =>obtain ⟨r,b⟩:=x;rw[a] at h;rw[d.mono _ _ a];exact (hk r b).mono _ _ h
 .cases a:c none with
  | none=>rw[a] at h; cases h
  | some x =>obtain ⟨r,b⟩:=x;rw[a] at h;obtain ⟨e,g⟩:=(d.lim _).1 a;obtain ⟨f,i⟩:=((hk r b).lim v).1 h;refine ⟨max e f,?_⟩;rw[d.le (Nat.le_max_left e f) g];exact (hk r b).le (Nat.le_max_right e f) i
 .cases a:c (some n) with
  | none=>rw[a] at h; cases h
  | some x =>obtain ⟨r,b⟩:=x;rw[a] at h;rw[(d.lim _).2 ⟨n,a⟩];exact ((hk r b).lim v).2 ⟨n,h⟩⟩
def SE.b7Y (S:SE):Option Nat->l7 | none=>S.CC | some n=>(S.bG n).1
def SE.b'1 (S:SE):Option Nat->zg | none=>S.LL | some n=>(S.bG n).2
theorem WI (hS:S.OK) (g:FuncId) (args:ai) (h:aH):Qk fun i=>S.b7Y i g args h :=⟨fun n v hv=>(JL hS n).1 g args h v hv,fun _=>aEQ fun n v hv=>(JL hS n).1 g args h v hv⟩
theorem aEW (hS:S.OK) (E:AE) (m0:Nat) (l:List Nat) (m:Nat) (x:Code) (K:Option Nat->AX->ASt->R) (σ:ASt) (a:∀ e σ,Qk fun i=>K i e σ):Qk fun i=>S.b'1 i E m0 l m x (K i) σ:=by
 have b:∀ v,S.LL E m0 l m x (K none) σ=some v↔∃ n,(S.bG n).2 E m0 l m x (K none) σ=some v:=fun v=>aEQ fun n v hv=>(JL hS n).2 _ _ _ _ _ _ _ _ _ (fun _ _ _ h=>h) hv
 refine ⟨fun n v hv=>(JL hS n).2 _ _ _ _ _ _ _ _ _ (fun e σ v h=>(a e σ).mono n v h) hv,fun v=>⟨fun h => ?_,fun ⟨n,h⟩ => ?_⟩⟩
 .obtain ⟨n,c⟩:=(b v).1 h;obtain ⟨k,hk⟩:=((aD0 Rx hS n E m0 l m x K σ a).lim v).1 c;refine ⟨max n k,?_⟩;exact b'0 hS (Nat.le_max_left n k) (aY9 hS n (fun e σ v h=>(a e σ).le (Nat.le_max_right n k) h) hk)
 .exact (b v).2 ⟨n,aY9 hS n (fun e σ v h=>((a e σ).lim v).2 ⟨n,h⟩) h⟩
theorem Nb (hS:S.OK) (g:FuncId) (args:ai) (h:aH):S.CC g args h=J7 (S.C0 g args h) (S.run S.CC S.LL g args h):=by
 have c:=aCZ Rx (a:=S.C0 g args h) (aC' Rx hS (WI hS) (aEW hS) (g:=g) (args:=args) (h:=h));refine Option.ext fun v => ?_
 have d:S.CC g args h=some v↔∃ n,(S.bG n).1 g args h=some v:=(WI hS g args h).lim v;have e:J7 (S.C0 g args h) (S.run S.CC S.LL g args h)=some v↔∃ n,(S.bG (n+1)).1 g args h=some v:=c.lim v;rw[d,e];exact ⟨fun ⟨n,b⟩=>⟨n,(JL hS n).1 _ _ _ _ b⟩,fun ⟨n,b⟩=>⟨n+1,b⟩⟩
theorem aKV (hS:S.OK) (E:AE) (m0:Nat) (l:List Nat) (m:Nat) (x:Code) (K:AX->ASt->R) (σ:ASt):S.LL E m0 l m x K σ=S.turn S.CC S.LL E m0 l m x K σ:=by
 have b:=a6H Rx hS (WI hS) (aEW hS) (E:=E) (m0:=m0) (l:=l) (m:=m) (x:=x) (K:=fun _=>K) (σ:=σ) fun e σ=>Rx.const _
 refine Option.ext fun v => ?_
 have c:S.LL E m0 l m x K σ=some v↔∃ n,(S.bG n).2 E m0 l m x K σ=some v:=(aEW hS E m0 l m x (fun _=>K) σ fun e σ=>Rx.const _).lim v;have d:S.turn S.CC S.LL E m0 l m x K σ=some v↔∃ n,(S.bG (n+1)).2 E m0 l m x K σ=some v:=b.lim v;rw[c,d];exact ⟨fun ⟨n,a⟩=>⟨n,(JL hS n).2 _ _ _ _ _ _ _ _ _ (fun _ _ _ h=>h) a⟩,fun ⟨n,a⟩=>⟨n+1,a⟩⟩
theorem FQ (hS:S.OK) {E:AE} {m0:Nat} {l:List Nat} {m:Nat} {x:Code} {K:AX->ASt->R} {σ:ASt} (b:m0<=m) (c:GL l m σ=true) (d:S.wp E=E) :
 S.LL E m0 l m x K σ=bJ (JB l m σ) (bD (S.xe S.CC S.LL E m0) x (yM (fun a=>S.LL E m0 l m x K (a.gc l m)) K) (σ.gc l m)):=by
 rw[aKV hS]; grind [SE.turn]
theorem vg (hS:S.OK) {g:FuncId} {args:ai} {h:aH} (a:S.C0 g args h=none):S.CC g args h=S.run S.CC S.LL g args h:=by rw[Nb hS,a]; rfl
theorem aHS {d:List ResultVar} {e:List (List Nat×Bool)} {m0:Nat} {i:List Nat} {σ:ASt} {h':aH} (h:JI D d e m0 i σ=some (p,h')):∃ f,Po D d m0 f h' σ/\yg e f=p:=by
 unfold JI at h;split at h
 .rename_i q hq;obtain ⟨b,h⟩:=jC h;split at h
  .rename_i g;injection h with h
   injection h with j c
   subst j;simp only[bQ,tJ] at g;obtain ⟨n,l,m⟩:=g;have a:h'.length=Nat.max m0 (Q9 q):=by rw[<- c,ve]; omega
   refine ⟨q,⟨by grind,by rw[a]; exact c,by rw[a]; exact l,by rw[a,<- c]; exact aLQ b m,?_⟩,rfl⟩;grind [a_H]
  .cases h
 .cases h
theorem b1B:∀ {l:List Oper} {a:List Oper} {o:Oper} {c:Call} {b:List Oper},Z_ l=some (a,o,c,b)->l=a ++ o::b/\o.op = .defer c
 | [],_,_,_,_,h=>by cases h
 | x::l,a,o,c,b,h=>by
  unfold Z_ at h;split at h
  .rename_i d; cases h; exact ⟨rfl,d⟩
  .split at h
   .rename_i i j m n e;cases h;obtain ⟨f,g⟩:=b1B e;exact ⟨by rw[f]; rfl,g⟩
   .cases h
def VO (M:Mem) (B:aT) (m:Nat) (g:FuncId) (c:ai) (d:Deferred):Prop:=∃ b a,d.target = .fn (.func g) b/\d.args ++ b=a/\bI M (B.take m) c a.toList
section
variable {n:Nat} {out:Nat->Nat} {m m0:Nat} {M M':Mem} {B B':aT} {σ σ':ASt} {t t':Array Value} {w w':World} {g:FuncId} {ps:ai} {d:Deferred}
theorem VO.mono (h:VO M B m g ps d) (j:fM n out m M B σ t w M' B' σ' t' w'):VO M' B' m g ps d:=by
 obtain ⟨f,a,l,o,p⟩:=h;refine ⟨f,a,l,o,p.mono ⟨j.mem,fun i c e => ?_⟩⟩;rw[qh] at e ⊢;split at e
 .rename_i b; rw[ay b]; exact j.pre i c b e
 .cases e
theorem fM.lessM (h:fM n out m M B σ t w M' B' σ' t' w') (a:m0<=m):fM n out m0 M B σ t w M' B' σ' t' w':=⟨h.inv,h.mem,fun i c b e=>h.pre i c (VF b a) e,h.fr,h.own⟩
end
def YS (E:AE) (b:Nat->Nat) (m0:Nat) (M:Mem) (B:aT) (σ:ASt) (t:Array Value) (w:World) (v:PV×aH) (l:AX->ASt->R) (o:Qv) (e:Exit) (c:Act) (p:World):Prop :=∃ f a h i,e=f.toExit/\fM E.n b m0 M B σ t w h i a c.tmps p/\((l f a=some v/\c.defers = [])\/∃ m g j d,m0<=m/\c.defers = [d]/\VO h i m g j d/\o m g j f a=some v)
variable {b2:Mem} {b3:aT} {b':Array Value} {b7:World}
theorem bZO {E:AE} {a:Nat->Nat} {m0:Nat} {d:Mem} {f:aT} {σ b:ASt} {g:Array Value} {w1:World} {i:AX->ASt->R} {j:Qv} (h:fM E.n a m0 b2 b3 σ b' b7 d f b g w1) {e:Exit} {l:Act} {m:World} (k:YS E a m0 d f b g w1 U i j e l m):YS E a m0 b2 b3 σ b' b7 U i j e l m:=by obtain ⟨o,c,p,q,r,u,x⟩:=k;exact ⟨o,c,p,q,r,h.trans u,x⟩
theorem aW3 {E:AE} {n:Nat} {b:Nat->Nat} {m0:Nat} {σ:ASt} {y:Code} {k:ASt->R} (i:Inv n b2 b3 b σ b' b7) (h:y9 E m0 y k σ=some U) :
 ∃ d e a,fM n b m0 b2 b3 σ b' b7 d e a b' b7/\k a=some U:=by
 have p:∀ {j:Mem} {m:aT} {c:ASt},fM n b m0 b2 b3 σ b' b7 j m c b' b7->GU E m0 y k c=some U->∃ d e a,fM n b m0 b2 b3 σ b' b7 d e a b' b7/\k a=some U:=fun {j m c} o he=>by
  unfold GU at he;cases q:E.jt.lookup (Em y) with
  | none=>grind
  | some l =>
   rw[q] at he;obtain ⟨f,he⟩:=jC he;split at he
   .rename_i g;simp only[bQ,tJ] at g;exact ⟨_,_,_,o.trans (IZ o.inv g.1 (aCU f g.2)),he⟩
   .cases he
 unfold y9 at h;split at h
 .obtain ⟨r,he⟩:=IM _ h;obtain ⟨d,e,u⟩:=a2G (m0:=m0) r i;grind
 .exact p (fM.refl i) h
theorem Ro {C:l7} {L:zg} {E:AE} {F:Nat->Nat} {m0:Nat} {v:PV×aH} (N:E.P.follows .mixedOrders=true) (hS:S.OK) (hC:qL E.P C) (hL:∀ m,LV (S.xe C L E m)):∀ (c:Code) {G:AX->ASt->R} {K:Qv} {M:Mem} {B:aT} {σ:ASt} {a:Act} {w:World},
 S.vz C L E m0 c G K σ=some v->Inv E.n M B F σ a.tmps w->a.defers = []->c.wp E.P (YS E F m0 M B σ a.tmps w v G K) a w
 | .seq x y,G,K,M,B,σ,a,w,h,O,l=>by
  simp only[SE.vz] at h;split at h
  .refine wp_seq (wp_mono (Ro N hS hC hL x h O l) fun e a' w' q => ?_);obtain ⟨X,j,A,D,rfl,p,q⟩:=q;rcases q with ⟨hq,t⟩|⟨m,g,ps,d,Q,t,hD,hq⟩
   .cases X with
    | normal =>
     obtain ⟨M2,B2,U,Y,hk⟩:=aW3 p.inv hq;refine wp_mono (yZ N y Y.inv (y8 hS.V hS.W hC (hL m0) y hk)) fun e a2 w2 r => ?_
     obtain ⟨Z,H,M3,B3,rfl,I,J,z⟩:=r;exact ⟨Z,H,M3,B3,rfl,(p.trans Y).trans z,.inl ⟨I,by rw[J,t]⟩⟩
    | ret=>exact ⟨.ret,j,A,D,rfl,p,.inl ⟨hq,t⟩⟩
    | exit i=>exact ⟨.exit i,j,A,D,rfl,p,.inl ⟨hq,t⟩⟩
   .cases X with
    | normal =>
     obtain ⟨M2,B2,U,Y,hk⟩:=aW3 p.inv hq;refine wp_mono (yZ N y Y.inv (y8 hS.V hS.W hC (hL m) y hk)) fun e a2 w2 r => ?_
     obtain ⟨Z,H,M3,B3,rfl,I,J,z⟩:=r;exact ⟨Z,H,M3,B3,rfl,p.trans ((Y.trans z).lessM Q),.inr ⟨m,g,ps,d,Q,by rw[J,t],hD.mono (Y.trans z),I⟩⟩
    | ret=>exact ⟨.ret,j,A,D,rfl,p,.inr ⟨m,g,ps,d,Q,t,hD,hq⟩⟩
    | exit i=>exact ⟨.exit i,j,A,D,rfl,p,.inr ⟨m,g,ps,d,Q,t,hD,hq⟩⟩
  .refine wp_seq (wp_mono (yZ N x O (y8 hS.V hS.W hC (hL m0) x h)) fun e a' w' q => ?_);obtain ⟨X,j,A,D,rfl,hq,t,p⟩:=q;cases X with
   | normal=>exact wp_mono (Ro N hS hC hL y hq p.inv (by rw[t,l])) fun e a2 w2 r=>bZO p r
   | ret=>exact ⟨.ret,j,A,D,rfl,p,.inl ⟨hq,by rw[t,l]⟩⟩
   | exit i=>exact ⟨.exit i,j,A,D,rfl,p,.inl ⟨hq,by rw[t,l]⟩⟩
 | .cond c x y,G,K,M,B,σ,a,w,h,O,l=>by
  have hx:∀ (x:Code),(∀ {T:ASt},S.vz C L E m0 x G K T=some v->Inv E.n M B F T a.tmps w->x.wp E.P (YS E F m0 M B T a.tmps w v G K) a w)->(match GN x with | true=>S.vz C L E m0 x G K σ | false=>bD (S.xe C L E m0) x G σ)=some v->x.wp E.P (YS E F m0 M B σ a.tmps w v G K) a w:=fun x ih hh=>by
   cases t:GN x with
   | true=>grind
   | false =>
    rw[t] at hh;refine wp_mono (yZ N x O (y8 hS.V hS.W hC (hL m0) x hh)) fun e a2 w2 r => ?_
    obtain ⟨Z,H,M3,B3,rfl,I,J,z⟩:=r;exact ⟨Z,H,M3,B3,rfl,z,.inl ⟨I,by rw[J,l]⟩⟩
  simp only[SE.vz] at h;split at h
  .rename_i b hb;have he:=oh.1 (O.rd _ _ hb).1;split at h
   .cases b with
    | true =>simp only[a8N hb] at h;exact wp_cond_split he (fun _=>hx x (fun k1 k2=>Ro N hS hC hL x k1 k2 l) h) (fun e=>by cases e)
    | false =>simp only[a8N hb] at h;exact wp_cond_split he (fun e=>by cases e) (fun _=>hx y (fun k1 k2=>Ro N hS hC hL y k1 k2 l) h)
   .cases h
  .cases h
 | .block id x,G,K,M,B,σ,a,w,h,O,l=>by
  refine wp_block (wp_mono (Ro N hS hC hL x h O l) fun e a' w' q => ?_);obtain ⟨X,j,A,D,rfl,p,q⟩:=q;cases X with
  | normal=>exact ⟨.normal,j,A,D,rfl,p,q⟩
  | ret=>exact ⟨.ret,j,A,D,rfl,p,q⟩
  | exit i =>
   simp only[AX.toExit,Exit.inBlock];simp only[aS] at q;split
   .rename_i e; simp only[ay e] at q; exact ⟨.normal,j,A,D,rfl,p,q⟩
   .rename_i e; simp only[aX e] at q; exact ⟨.exit i,j,A,D,rfl,p,q⟩
 | .region id b8 b7,G,K,M,B,σ,a,w,h,O,l=>by
  simp only[SE.vz] at h;split at h
  .cases h
  .split at h
   .rename_i pre o c post hs;obtain ⟨q,ho⟩:=b1B hs;have hk:=a6K (E:=E) O;refine wp_region_list ?_;rw[q];refine aAU pre hk.inv (WV hS.V hS.W hC pre h) fun T M1 B1 a1 w1 hq p t => ?_
    unfold M_ at hq;split at hq
    .rename_i f hg b0 b9;split at hq
     .rename_i g first b1 az hf has
      split at hq
      .rename_i b5;obtain ⟨f',c',e1,r1,r2⟩:=DC.1 (p.inv.rd _ _ hf).1;obtain ⟨ra,_⟩:=Pj p.inv.rd has;unfold wpList;rw[ay (by simp[Region.wanted,hg])];refine .inl ?_;unfold Oper.wp;have b2:(execOp a1.eval o).run E.P w1 = .ok (.defer { target := .fn (.func g) c',args:=f' ++ c.args.map a1.eval }) w1:=by grind [execOp,resolve,Deferred.ofValue,Sem.run_pure]
       rw[b2,Oper.upon_defer];have b3:∀ (a:Act) (u:Value),a.put o.dst u=a:=fun a u=>by rw[b0]; rfl
       rw[b3];refine WC post p.inv (WV hS.V hS.W hC post hq) fun U M2 B2 a2 w2 b6 b4 b' => ?_
       refine ⟨.normal,U,M2,B2,rfl,((hk.trans p).trans b4).c,.inr ⟨_,g,_,{ target := .fn (.func g) c',args:=f' ++ c.args.map a1.eval },Nat.le_max_left _ _,by simp_all,VO.mono ?_ b4.c,b6⟩⟩;refine ⟨c',_,rfl,rfl,?_⟩;have hr:bI M1 B1 (first ++ az ++ b1) (f' ++ c.args.map a1.eval ++ c').toList:=by simpa using Gw (Gw r1 ra) r2
       exact hr.blw b5
      .cases hq
     .cases hq
    .cases hq
   .cases h
 | .skip,_,_,_,_,_,_,_,h,_,_=>by cases h
 | .label _,_,_,_,_,_,_,_,h,_,_=>by cases h
 | .exit _,_,_,_,_,_,_,_,h,_,_=>by cases h
 | .ret,_,_,_,_,_,_,_,h,_,_=>by cases h
 | .scope _,_,_,_,_,_,_,_,h,_,_=>by cases h
 | .loop _,_,_,_,_,_,_,_,h,_,_=>by cases h
 | .rangeFunc _ _ _ _,_,_,_,_,_,_,_,h,_,_=>by cases h
 | .goto _,_,_,_,_,_,_,_,h,_,_=>by cases h
 | .refuse _,_,_,_,_,_,_,_,h,_,_=>by cases h
theorem Ev.b_J {C:l7} {L:zg} {g:FuncId} {a:Func} {c:Code} (hm:S.P.follows .mixedOrders=true) (hS:S.OK) (hC:qL S.P C) (V:∀ g args h p h',S.CD C g args h=some (p,h')->uw S.P (CD S.P) g args h p h') (hL:∀ m,LV (S.xe C L (S.ae g a.ntmps) m))
 (hf:S.P.funcs[g]? = some a) (X:a.body=some c) (hn:(a.name != "runtime.NumGoroutine")=true) {args:ai} {h h':aH} (F:args.length<=a.ntmps)
 (hA:S.vz C L (S.ae g a.ntmps) h.length c (JH S.P a.results.toList (S.jG g).ro h.length (Fz args)) (S.Z7 C L (S.ae g a.ntmps) a.results.toList (S.jG g).ro h.length (Fz args)) ⟨oH 0 args,h⟩=some (p,h')):Ev S.P g args h p h':=by
 refine ⟨by grind [j_],fun f M B w t G j H I hv => ?_⟩;have hI:=aVL F G j H I hv;refine calls_of_wp_defers hf X (wp_mono (Ro hm hS hC hL c hA hI rfl) fun e z u Y => ?_);obtain ⟨ax,A,n,o,rfl,Z,Y⟩:=Y;have J:∀ {M2 B2 q w2},fM a.ntmps f h.length M B ⟨oH 0 args,h⟩ (t ++ Array.replicate (a.ntmps-t.size) undef) w M2 B2 q z.tmps w2->JI S.P a.results.toList (S.jG g).ro h.length (Fz args) q=some (p,h')->∃ v,(results a z.tmps).run S.P w2 = .ok v w2/\∃ K n o,Ending.returned v = .returned K/\Post h B f M w p h' K n o w2:=fun {M2 B2 q w2} D hk=>by obtain ⟨r0,N,rfl⟩:=aHS hk;obtain ⟨v,b2,b3,b4,b0⟩:=aNV (ro:=(S.jG g).ro) j D N;grind
 rcases Y with ⟨hk,hd⟩|⟨m,U,ps,d,b5,hd,hD,hk⟩
 .have l:JI S.P a.results.toList (S.jG g).ro h.length (Fz args) A=some (p,h')->Leaves S.P a z.tmps (fun e u=>∃ v n o,e = .returned v/\Post h B f M w p h' v n o u) z.defers .returning u:=fun hk=>by rw[hd]; exact J Z hk
  cases ax with
  | normal=>exact l hk
  | ret=>exact l hk
  | exit i=>cases hk
 .have l:Aw (S.xe (S.CD C) L (S.ae g a.ntmps) h.length) none U ps (KN A.h 3 (yU [] (PV.yh ps))) (JI S.P a.results.toList (S.jG g).ro h.length (Fz args)) A=some (p,h')->Leaves S.P a z.tmps (fun e u=>∃ v n o,e = .returned v/\Post h B f M w p h' v n o u) z.defers .returning u:=fun hk=>by
   obtain ⟨r1,h1,hE,hp⟩:=aNA (aM3 S.P) hS.W V (fun _ _ _ x=>x) hk;unfold jd at hp;split at hp
   .rename_i q O;obtain ⟨b1,vs,y,b6,TT⟩:=hD;have TT:bI n o ps vs.toList:=TT.mono ⟨fun _ _ _ x=>x,fun i c hi=>by rw[qh] at hi;simp_all⟩;have b:=hE.1;unfold j_ at b;split at b
    .rename_i E Q;have T:(invoke d.target d.args).run S.P u = .ok (.enter U vs) u:=by
      rw[y];have b7:S.P.funcs[U]? = some E:=Q;simp only[invoke,callFunc,run_program,oL,yP];have b8:E.body.isNone=false:=by cases X:E.body<;>simp[X] at b ⊢
      grind [Sem.run_pure]
     rw[hd];refine ⟨by simp,_,b1,U,vs,y,T,?_⟩;refine CallsD.mono (aLW (aM3 S.P) Z.inv TT hE O (R:=fun e w2=>∃ v,e = .returned v/\∃ v2,(results a z.tmps).run S.P w2 = .ok v2 w2/\∃ K n o,Ending.returned v2 = .returned K/\Post h B f M w p h' K n o w2) fun v M2 B2 w2 D => ?_) fun e u' w2 hh => ?_
     .exact ⟨v,rfl,J (Z.trans D.c) hp⟩
     .obtain ⟨rfl,v,rfl,hh⟩:=hh;exact hh
    grind
   simp_all
  cases ax with
  | normal=>exact l hk
  | ret=>exact l hk
  | exit i=>cases hk
theorem aIA (B:S.P.follows .mixedOrders=true) (hS:S.OK) (C:qL S.P S.C0):∀ n,(qL S.P (S.bG n).1/\∀ g args h r h',S.CD (S.bG n).1 g args h=some (r,h')->uw S.P (CD S.P) g args h r h') /\
 ∀ E m0 l m x (K:AX->ASt->R) σ v,S.wp E=E->(S.bG n).2 E m0 l m x K (σ.gc l m)=some v->Pv m0 (fH E m0 x) (fun e f=>K e f=some v) n σ
 | 0=>by
  refine ⟨⟨C,fun g args h r h' hv => ?_⟩,fun _ _ _ _ _ _ _ _ _ h=>by cases h⟩;unfold SE.CD at hv;split at hv
  .cases hv
  .rename_i b;split at hv
   .cases hv
   .rw[show (S.bG 0).1 g args h=S.C0 g args h from rfl,b] at hv; cases hv
 | n+1=>by
  obtain ⟨⟨q,D⟩,A⟩:=aIA B hS C n;have t:∀ E m0,S.wp E=E->LV (S.xe (S.bG n).1 (S.bG n).2 E m0):=fun E m0 y l m x K σ v hv=>by refine ⟨n,?_⟩;exact A E m0 l m x K σ v y hv
  have j:∀ {F:CP} (g:FuncId) (args:ai) (h:aH) (r:PV) (h':aH),(∀ (z:Func) (c:Code),S.P.funcs[g]? = some z->z.body=some c->∀ (d:Array Value) (w:World) (R:Ending->World->Prop),c.wp S.P (bodyPost S.P z R) { tmps:=d ++ Array.replicate (z.ntmps-d.size) undef,defers := [] } w->F g d w R) ->
   (S.jG g).df=false->S.run (S.bG n).1 (S.bG n).2 g args h=some (r,h')->uw S.P F g args h r h':=fun {F} g args h r h' G a hv=>by
   unfold SE.run at hv;split at hv
   .rename_i z o;split at hv
    .rename_i c p;split at hv
     .rename_i u;rw[a] at hv;simp only[bQ,tJ] at u;have H:=y8 hS.V hS.W q (t _ _ rfl) c hv;refine uw.aFD (fun k=>G _ _ o p _ _ _ k) B o p u.2 (S.jG g).vars (S.jG g).mv (S.jG g).mu (S.jG g).sz (S.jG g).jt (S.jG g).lt (S.jG g).pt (S.jG g).fz (S.jG g).ro (S.jG g).ft (S.jG g).sy (S.jG g).ln u.1 (zo c (fun e f he => ?_) H);cases e with
      | normal=>exact ⟨trivial,aHS he⟩
      | ret=>exact ⟨trivial,aHS he⟩
      | exit i=>cases he
     .cases hv
    .cases hv
   .cases hv
  refine ⟨⟨fun g args h r h' hv => ?_,fun g args h r h' hv => ?_⟩,fun E m0 l m x K σ v y hv => ?_⟩
  .have hv:J7 (S.C0 g args h) (S.run (S.bG n).1 (S.bG n).2 g args h)=some (r,h'):=hv;cases b:S.C0 g args h with
   | some x=>rw[b] at hv; injection hv with hv; subst hv; exact C _ _ _ _ _ b
   | none =>
    rw[b] at hv;cases a:(S.jG g).df with
    | false=>exact j g args h r h' (fun _ _ o p _ _ _ k=>calls_of_wp o p k) a hv
    | true =>
     unfold SE.run at hv;split at hv
     .rename_i z o;split at hv
      .rename_i c p;split at hv
       .rename_i u;rw[a] at hv;simp only[bQ,tJ] at u;exact Ev.b_J B hS q D (fun m=>t _ _ rfl) o p u.2 u.1 hv
       .cases hv
      .cases hv
     .cases hv
  .unfold SE.CD at hv;split at hv
   .cases hv
   .rename_i b;split at hv
    .cases hv
    .rename_i a;have hv:J7 (S.C0 g args h) (S.run (S.bG n).1 (S.bG n).2 g args h)=some (r,h'):=hv;rw[b] at hv;exact j g args h r h' (fun _ _ o p _ _ _ k=>callsD_of_wp o p k) a hv
  .have hv:S.turn (S.bG n).1 (S.bG n).2 E m0 l m x K (σ.gc l m)=some v:=hv;rw[c8T] at hv;obtain ⟨I,hv⟩:=jC hv;split at hv
   .rename_i b;simp only[bQ,tJ] at b;rw[y] at hv;refine ⟨l,m,b.1,aCU I b.2,zo x (fun e f he => ?_) (y8 hS.V hS.W (by rw[<- y]; exact q) (t _ _ y) x hv)⟩;cases e with
    | normal=>exact A E m0 l m x K f v y he
    | ret=>exact he
    | exit i=>exact he
   .cases hv
theorem a09 (hS:S.OK) (n:Nat) {g:FuncId} {args:ai} {h:aH} (e:(S.bG n).1 g args h=some U):S.CC g args h=some U:=((WI hS g args h).lim U).2 ⟨n,e⟩
theorem Qe (a:S.P.follows .mixedOrders=true) (hS:S.OK) (b:qL S.P S.C0):qL S.P S.CC:=fun g args h r h' hv=>by obtain ⟨n,c⟩:=((WI hS g args h).lim _).1 hv;exact (aIA a hS b n).1.1 g args h r h' c
end
def vI (k:IntKind) (p:PV) (K:Int->R):R:=match p with | .int a n=>(match decide (a=k) with | true=>K n | false=>none) | _=>none
def vB (p:PV) (K:Bool->R):R:=match p with | .bool b=>K b | _=>none
def vS (p:PV) (K:ByteArray->R):R:=match p with | .str b=>K b | _=>none
def vL (o:Bool) (z:Nat) (p:PV) (K:ai->R):R:=match p with | .sl a b c=>(match a==o&&Nat.beq b z with | true=>K c | false=>none) | _=>none
def w0 (p:PV) (K:R):R:=match p with | .tuple []=>K | _=>none
@[simp] theorem vZ (k : IntKind) (n : Int) (K : Int -> R) : vI k (.int k n) K = K n := by simp [vI]
@[simp] theorem BX (b : Bool) (K : Bool -> R) : vB (.bool b) K = K b := rfl
@[simp] def je (b : ByteArray) (K : ByteArray -> R) : vS (.str b) K = K b := rfl
@[simp] def Jz (o : Bool) (z : Nat) (a : ai) (K : ai -> R) : vL o z (.sl o z a) K = K a := by simp [vL]
@[simp] theorem cEL (K : R) : w0 (.tuple []) K = K := rfl
theorem uo (k:IntKind) (p:PV):(∀ K:PV->R,vI k p (fun n=>K (.int k n))=K p)\/(∀ K:PV->R,vI k p (fun n=>K (.int k n))=none):=by unfold vI; grind
theorem N9 (p:PV):(∀ K:PV->R,vB p (fun n=>K (.bool n))=K p)\/(∀ K:PV->R,vB p (fun n=>K (.bool n))=none):=by unfold vB; grind
theorem Zk (p:PV):(∀ K:PV->R,vS p (fun n=>K (.str n))=K p)\/(∀ K:PV->R,vS p (fun n=>K (.str n))=none):=by unfold vS; grind
theorem DJ (o:Bool) (z:Nat) (p:PV):(∀ K:PV->R,vL o z p (fun n=>K (.sl o z n))=K p)\/(∀ K:PV->R,vL o z p (fun n=>K (.sl o z n))=none):=by unfold vL; grind [Nat.eq_of_beq_eq_true]
theorem cAA (p:PV) (h:aH):(∀ K:PV->aH->R,w0 p (K (.tuple []) h)=K p h)\/(∀ K:PV->aH->R,w0 p (K (.tuple []) h)=none):=by grind [w0]
variable {d4:(PV->R)->R} {d5:PV->R}
theorem BM (a:(∀ K:PV->R,d4 K=K p)\/(∀ K:PV->R,d4 K=none)) (h:aH):(∀ K:PV->aH->R,d4 (fun q=>K q h)=K p h)\/(∀ K:PV->aH->R,d4 (fun q=>K q h)=none):=by grind
def mg {g:(PV->R)->R} (a:(∀ K:PV->R,d4 K=K p)\/(∀ K:PV->R,d4 K=none)) (c:(∀ K:PV->R,g K=K p)\/(∀ K:PV->R,g K=none)) :
 (∀ K:PV->R,aB G (d4 K) (g K)=K p)\/(∀ K:PV->R,aB G (d4 K) (g K)=none):=by
 cases G
 .exact c
 .exact a
def vV {f g:(PV->aH->R)->R} (a:(∀ K:PV->aH->R,f K=K p H)\/(∀ K:PV->aH->R,f K=none)) (c:(∀ K:PV->aH->R,g K=K p H)\/(∀ K:PV->aH->R,g K=none)) :
 (∀ K:PV->aH->R,aB G (f K) (g K)=K p H)\/(∀ K:PV->aH->R,aB G (f K) (g K)=none):=by
 cases G
 .exact c
 .exact a
noncomputable def tZ (f:Func):Code:=match f.body with | some c=>c | none => .skip
def Code.sub:List Bool->Code->Code
 | [],c=>c
 | b::p,.seq x y=>match b with | true=>Code.sub p y | false=>Code.sub p x
 | b::p,.cond _ x y=>match b with | true=>Code.sub p y | false=>Code.sub p x
 | b::p,.rangeFunc _ _ x y=>match b with | true=>Code.sub p y | false=>Code.sub p x
 | _::p,.block _ x=>Code.sub p x
 | _::p,.scope x=>Code.sub p x
 | _::p,.loop x=>Code.sub p x
 | _,c=>c
@[simp] theorem aI (A B : R) : aB true A B = A := rfl
@[simp] theorem aF (A B : R) : aB false A B = B := rfl
theorem Rf (b:Bool) (A B:R):aB b A B=if b=true then A else B:=by cases b<;>rfl
theorem aQ {b:Bool} {A:R} (h:b=true):bJ b A=A:=by subst h; rfl
theorem nK {e:PV} (a:0<=b9) (h:f[b9.toNat]? = some e):dD f b9 d5=d5 e:=by grind [dD]
theorem IC {s:ByteArray} {K:Int->R} {b:UInt8} (a:0<=b9) (h:s[b9.toNat]? = some b):xx s b9 K=K b.toNat:=by grind [xx]
theorem rq {C:l7} {args:ai} (h:C r args []=some (p,[])):kE C r args d5=d5 p:=by unfold kE; rw[h]
theorem aZD {K:Bool->R} (a:K false=some U) (b:f = []->K true=some U):LZ f K=some U:=by grind [LZ,bA0]
end Go.Proofs.YtmbehibpfkkjbaaGreatDoor
end

/- A part of the proof. -/
import Derived.Test.YtagkcbgkhgccmaaGreatDoorPq1
import Derived.LoopN
import Derived.Defers
import Derived.Scope
import Derived.Orders
import Derived.IntWalk
set_option linter.unusedVariables false
set_option linter.defProp false
set_option linter.unusedSimpArgs false
set_option linter.unnecessarySimpa false
set_option linter.unusedSectionVars false
noncomputable section
open Go.IntKind (i64)
namespace Go.Proofs.YtagkcbgkhgccmaaGreatDoor
open Go.RowKit
mutual
def PV.blw (m:Nat):PV->Bool
 | .ptr i _=>decide (i<m)
 | .dZ _ i=>decide (i<m)
 | .slh i _ _ _=>decide (i<m)
 | .func _ f c=>PV.blws m f&&PV.blws m c
 | .agg a=>PV.blws m a
 | .tuple a=>PV.blws m a
 | _=>true
def PV.blws (m:Nat):ai->Bool
 | []=>true
 | p::a=>p.blw m&&PV.blws m a
end
section
variable {M:Mem} {B:aS}
mutual
theorem aWY (m:Nat):∀ p:PV,p.blw m=true->bD M B p=bD M (B.take m) p
 | .int _ _,_=>by simp only[bD]
 | .bool _,_=>by simp only[bD]
 | .str _,_=>by simp only[bD]
 | .nilp,_=>by simp only[bD]
 | .raw _,_=>by simp only[bD]
 | .ptr i _,h=>by
  have:(B.take m)[i]? = B[i]? := by rw[nN,ah (by simpa[PV.blw] using h)]
  simp only[bD,this]
 | .dZ _ i,h=>by
  have:(B.take m)[i]? = B[i]? := by rw[nN,ah (by simpa[PV.blw] using h)]
  simp only[bD,this]
 | .slh i _ _ _,h=>by
  have:(B.take m)[i]? = B[i]? := by rw[nN,ah (by simpa[PV.blw] using h)]
  simp only[bD,this]
 | .cst e,_=>by simp only[bD]
 | .dn _,_=>by simp only[bD]
 | .iI _ _ _ _,_=>by simp only[bD]
 | .mp _,_=>by simp only[bD]
 | .sl _ _ b,_=>by simp only[bD]
 | .func _ f c,h=>by simp only[PV.blw,bH] at h;simp only[bD,Rw m f h.1,Rw m c h.2]
 | .agg a,h=>by simp only[bD,Rw m a (by simpa[PV.blw] using h)]
 | .tuple a,h=>by simp only[bD,Rw m a (by simpa[PV.blw] using h)]
theorem Rw (m:Nat):∀ a:ai,PV.blws m a=true->ig M B a=ig M (B.take m) a
 | [],_=>by simp only[ig]
 | p::a,h=>by simp only[PV.blws,bH] at h;simp only[ig,aWY m p h.1,Rw m a h.2]
end
variable {i:Nat}
theorem eU.blw {p:PV} {v:Value} (a:p.blw i=true) (h:eU M B p v):eU M (B.take i) p v:=by grind [eU,aWY]
theorem au.blw {a:ai} {b:List Value} (c:PV.blws i a=true) (h:au M B a b):au M (B.take i) a b:=by grind [au,Rw]
def YZ {m:Nat}:∀ {a:ai},PV.blws m a=true↔∀ p,p∈a->p.blw m=true
 | []=>by simp[PV.blws]
 | p::a=>by simp[PV.blws,YZ]
mutual
theorem aJZ (m:Nat):∀ p:PV,p.flat=true->p.blw m=true
 | .int _ _,_=>rfl
 | .bool _,_=>rfl
 | .str _,_=>rfl
 | .nilp,_=>rfl
 | .raw _,_=>rfl
 | .ptr i _,h=>by simp[PV.flat] at h
 | .dZ _ i,h=>by simp[PV.flat] at h
 | .slh i _ _ _,h=>by simp[PV.flat] at h
 | .cst e,_=>by simp only[PV.blw]
 | .dn _,_=>by simp only[PV.blw]
 | .iI _ _ _ _,_=>by simp only[PV.blw]
 | .mp _,_=>by simp only[PV.blw]
 | .sl _ _ b,_=>by simp only[PV.blw]
 | .func _ f c,h=>by simp only[PV.flat,bH] at h;simp only[PV.blw,Ua m f h.1,Ua m c h.2,LD]
 | .agg a,h=>by simp only[PV.blw]; exact Ua m a (by simpa[PV.flat] using h)
 | .tuple a,h=>by simp only[PV.blw]; exact Ua m a (by simpa[PV.flat] using h)
theorem Ua (m:Nat):∀ a:ai,PV.flats a=true->PV.blws m a=true
 | [],_=>rfl
 | p::a,h=>by simp only[PV.flats,bH] at h;simp only[PV.blws,aJZ m p h.1,Ua m a h.2,LD]
end
end
def BK (m:Nat) (h:aH):Bool:=h.all fun o=>match o with | some a=>PV.blws m a | none=>true
def Ae (M:Mem) (w:World):Prop:=∀ (b o:Nat) (v:Value),M b o=some v->w.cell? ⟨b,o,none⟩=some v/\v.oneCell'=true
structure Post (h:aH) (B:aS) (out:Nat->Nat) (M:Mem) (w:World) (r:PV) (h':aH) (v:Value) (M':Mem) (B':aS) (w':World):Prop where
 mem:Ae M' w'
 le:eH M M' B B'
 fr:Fr (aT w h B) M w M' w'
 heap:rQ M' B' w' h'
 rep:eU M' B' r v
 tl:Tl M' w' r v
 own:∀ b,b<w.heap.size->aT w' h' B' b+bY r v b<=aT w h B b
 cnt:∀ b,aT w' h' B' b+bY r v b+out b<=1
 new:∀ b,w'.heap.size<=b->aT w' h' B' b+bY r v b+out b=0
def m_ (P:Program) (g:FuncId):Bool:=match P.funcs[g]? with | some a=>a.name != "runtime.NumGoroutine" && a.body.isSome | none=>false
abbrev CP:=FuncId->Array Value->World->(Ending->World->Prop)->Prop
def uB (P:Program) (d:CP) (g:FuncId) (args:ai) (h:aH) (r:PV) (h':aH):Prop :=
 m_ P g=true/\∀ (c:Nat->Nat) (M:Mem) (B:aS) (w:World) (a:Array Value),Ae M w->rQ M B w h->(∀ b,aT w h B b+c b<=1)->(∀ b,w.heap.size<=b->aT w h B b+c b=0) ->
  au M B args a.toList->d g a w fun e f=>∃ v i j,e = .returned v/\Post h B c M w r h' v i j f
def Ev (P:Program) (g:FuncId) (args:ai) (h:aH) (r:PV) (h':aH):Prop:=uB P (Calls P) g args h r h'
def TR (b:CP):Prop:=∀ ⦃g:FuncId⦄ ⦃a:Array Value⦄ ⦃w:World⦄ ⦃R c:Ending->World->Prop⦄,b g a w R->(∀ e d,R e d->c e d)->b g a w c
def a7H (P:Program):TR (Calls P):=fun _ _ _ _ _ h k=>h.mono k
def CD (P:Program):CP:=fun g a w R=>CallsD P g a .returning w fun e b c=>b = .returning/\R e c
def aIC (P:Program):TR (CD P):=fun _ _ _ _ _ h k=>CallsD.mono h fun _ _ _ a=>⟨a.1,k _ _ a.2⟩
variable {j:Program} {g:FuncId} {p:PV}
theorem Ev.frame' {args:ai} (h:Ev j g args [] p []) (K:p.flat=true) (V:PV.flats args=true) (n:aH):Ev j g args n p n:=by
 refine ⟨h.1,fun L M B w A C f D E hv => ?_⟩;have y:∀ w b,aT w [] [] b=0:=fun w b=>by simp[aT]
 refine (h.2 (fun b=>L b+aT w n B b) M [] w A C ⟨rfl,fun i q F=>by simp at F⟩ (fun b=>by rw[y]; have:=D b; omega) (fun b m=>by rw[y]; have:=E b m; omega) (au.flat [] V hv)).mono fun e S he => ?_
 obtain ⟨v,N,X,rfl,l⟩:=he;have O:X = []:=qg (by have:=l.heap.1; simp_all);subst O;have t:∀ b,b<w.heap.size->S.heap[b]? = w.heap[b]? /\ ∀ o,N b o=M b o:=fun b m=>l.fr.blk b m (y w b)
 have u:∀ b,1<=aT w n B b->b<w.heap.size:=fun b m=>by grind
 have T:∀ (i:Nat) q c,n[i]? = some (some q)->B[i]? = some c->1<=aT w n B c.1:=fun i q c z G=>by have:=lY (w:=w) c.1 z G;grind
 have H:eH M N B B:=⟨l.le.mem,fun _ _ h=>h⟩;have x:∀ b,aT S n B b=aT w n B b:=fun b=>I7 b fun i q c z G=>Pg (t c.1 (u _ (T i q c z G))).1
 refine ⟨v,N,B,rfl,l.mem,H,l.fr.mono fun b m _=>y w b,⟨f.1,fun i q F => ?_⟩,l.rep.flat B K,l.tl,fun b m => ?_,fun b => ?_,fun b m => ?_⟩
 .obtain ⟨c,Q,Y,Z,z,G,h3,h4,h5⟩:=f.2 i q F;have I:=t c.1 (u _ (T i q c F Q));refine ⟨c,Q,Y,Z,by rw[OB I.1,z],G,h3,fun a d U => ?_,fun o=>by rw[I.2]; exact h5 o⟩;obtain ⟨v,hv,K,hT,J⟩:=h4 a d U;refine ⟨v,hv,K.mono H,hT.kept fun b ho=>t b (u b ?_),J⟩;have e1:=lY (w:=w) b F Q;have e2:=yF b U (by rw[rW z]; grind:(iO w c.1)[a]? = some v);omega
 .have:=l.own b m; rw[y,y] at this; rw[x]; omega
 .have:=l.cnt b; rw[x]; omega
 .have:=l.new b m; rw[x]; omega
def BU (a:Array Oper) (c:ASt) (j:Nat):Option (Option Bool) :=
 match (a[j]?).bind (·.dst) with
 | none=>some none
 | some d=>match cu d c.s with
  | some (.bool b)=>some (some b)
  | some (.tuple [])=>some none
  | _=>none
def jZ (E:AE) (a:Option Nat) (p:PV) (c:ASt) (K:ASt->Prop):Prop:=match ASt.put E a p c with | some b=>K b | none=>False
def zO (E:AE) (o:Oper) (K:ASt->Prop) (b:ASt):Prop :=
 match cO E o b with
 | some (p,a)=>kL E o b/\jZ E o.dst p a K
 | none=>False
def aBO (E:AE) (o:Oper) (b:ASt):Option (ai×Bool):=match o.op with
 | .binOp c t x (.const (.slice none 0 0)) _=>(match E.P.underlying t,b.rd x,c with
  | some (.slice _),some (.sl _ _ a),.eql=>some (a,true)
  | some (.slice _),some (.sl _ _ a),.neq=>some (a,false)
  | _,_,_=>none)
 | _=>none
def WV (E:AE) (o:Oper) (K:ASt->Prop) (c:ASt):Prop:=match aBO E o c with
 | some (d,a)=>∀ b:Bool,(b=true->d = [])->jZ E o.dst (.bool (b==a)) c K
 | none=>False
def SH (E:AE) (o:Oper) (K:ASt->Prop) (a:ASt):Prop:=zO E o K a\/WV E o K a
def UJ (E:AE) (g:FuncId) (args:ai) (a:Option Nat) (K:ASt->Prop) (b:ASt):Prop:=∃ r h',Ev E.P g args b.h r h'/\jZ E a r { b with h:=h' } K
def xk (E:AE) (o:Oper) (K:ASt->Prop) (a:ASt):Prop :=
 match o.op with
 | .call c=>match c.callee with
  | .value f=>(match a.rd f,kQ (c.args.toList.map a.rd) with
   | some (.func (.func g) first b),some d=>UJ E g (first ++ d ++ b) o.dst K a
   | _,_=>False)
  | _=>SH E o K a
 | _=>SH E o K a
def mV (E:AE) (a:Array Oper):List Oper->(ASt->Prop)->ASt->Prop
 | [],Q,d=>Q d
 | o::l,Q,d =>
  match o.guard with
  | none=>xk E o (mV E a l Q) d
  | some (j,c)=>match BU a d j with
   | some none=>jZ E o.dst (.tuple []) d (mV E a l Q)
   | some (some b)=>(b=c->xk E o (mV E a l Q) d)/\(b≠c->jZ E o.dst (.tuple []) d (mV E a l Q))
   | none=>False
section
variable {out:Nat->Nat} {M:Mem} {B:aS} {σ:ASt} {a:Act} {w:World} {E:AE} {o:Oper}
theorem aXP (m:Inv E.n M B out σ a.tmps w) {K:ASt->Prop} (h:zO E o K σ) {g:Act->World->Prop} {Q:Exit->Act->World->Prop}
 (x:∀ v b i j f,K b->Good E.n out M B σ a.tmps w i j b (a.put o.dst v).tmps f->g (a.put o.dst v) f):o.wp E.P a w g Q:=by
 unfold zO at h;split at h
 .rename_i p q r;obtain ⟨c,l⟩:=h;unfold jZ at l;split at l
  .rename_i b d;obtain ⟨v,f,i,j,e,t⟩:=bZY m r c;have y:=t.put d;unfold Oper.wp;rcases e with e | ⟨e,u⟩
   grind [Oper.upon_value]
   .rw[e,Oper.upon_skip];have:a.put o.dst undef=a.put o.dst v:=by rw[u]; rfl
    grind
  simp_all
 simp_all
theorem bTY (J:Inv E.n M B out σ a.tmps w) {K:ASt->Prop} (h:WV E o K σ) {F:Act->World->Prop} {Q:Exit->Act->World->Prop}
 (Y:∀ v j U V L,K j->Good E.n out M B σ a.tmps w U V j (a.put o.dst v).tmps L->F (a.put o.dst v) L):o.wp E.P a w F Q:=by
 obtain ⟨l,Z,g,p,f,guard⟩:=o;unfold WV at h;split at h
 case h_2=>exact h.elim
 rename_i N ps i;unfold aBO at i;simp only at i;split at i
 case h_2=>cases i
 rename_i O t x S;have q:∀ e,E.P.underlying t=some (.slice e)->∀ m z,σ.rd x=some (.sl m z N)->∃ b:Bool,(b=true->N = [])/\(Op.equal t (a.eval x) (.slice none 0 0)).run E.P w = .ok b w/\∃ A n c,a.eval x = .slice A n c:=by
  intro e u m z y;obtain ⟨A,G,hv,X,hs,hz,hA⟩:=jo.1 (J.rd x _ y).1;refine ⟨A.isNone,fun hn => ?_,?_,A,_,G,hv⟩;simp_all
  .rw[hv];refine MP fun d => ?_
   rw[Op.equalIn,nO,gJ u w];cases A<;>rfl
 have C:∀ (r:Bool),(execOp a.eval ⟨l,.binOp O t x (.const (.slice none 0 0)) S,g,p,f,guard⟩).run E.P w = .ok (.value (.bool r)) w->jZ E l (.bool r) σ K->Oper.wp E.P ⟨l,.binOp O t x (.const (.slice none 0 0)) S,g,p,f,guard⟩ a w F Q:=by
  intro r hr T;unfold jZ at T;split at T
  .rename_i j D;have hG:=(Pre.plain J (kw.2 rfl) (fun b=>ed rfl _ _) (gU rfl)).put D;grind [Oper.wp,Oper.upon_value]
  simp_all
 split at i
 .rename_i e m z H u y;cases i;obtain ⟨b,I,he,A,n,c,hv⟩:=q e u m z y;refine C b ?_ (by have:=h b I; simp_all);refine wo (s:=do eqGuard .eql t x (.const (.slice none 0 0)) (a.eval x) (.slice none 0 0); binOp .eql t (a.eval x) (.slice none 0 0)) rfl ?_;rw[nO,hv,Es ⟨by simp,by simp⟩ w];rw[hv] at he;have:binOp .eql t (.slice A n c) (.slice none 0 0)=(do pure (.bool (<- Op.equal t (.slice A n c) (.slice none 0 0)))):=rfl;rw[this]; simp[he]
 .rename_i e m z H u y;cases i;obtain ⟨b,I,he,A,n,c,hv⟩:=q e u m z y;refine C (!b) ?_ (by have:=h b I; simp_all);refine wo (s:=do eqGuard .neq t x (.const (.slice none 0 0)) (a.eval x) (.slice none 0 0); binOp .neq t (a.eval x) (.slice none 0 0)) rfl ?_;rw[nO,hv,Es ⟨by simp,by simp⟩ w];rw[hv] at he;have:binOp .neq t (.slice A n c) (.slice none 0 0)=(do pure (.bool (!(<- Op.equal t (.slice A n c) (.slice none 0 0))))):=rfl;rw[this]; simp[he]
 .cases i
theorem aXR (g:Inv E.n M B out σ a.tmps w) {K:ASt->Prop} (h:SH E o K σ) {c:Act->World->Prop} {Q:Exit->Act->World->Prop}
 (i:∀ v b e f d,K b->Good E.n out M B σ a.tmps w e f b (a.put o.dst v).tmps d->c (a.put o.dst v) d):o.wp E.P a w c Q:=by
 rcases h with h | h
 grind [aXP]
 grind [bTY]
variable {U:Array Value}
theorem aI4 {x:CP} (z:TR x) (f:Inv E.n M B out σ a.tmps w) {args:ai} (hv:au M B args U.toList) {h':aH} (y:uB E.P x g args σ.h p h') {j:Option Nat} {l:ASt} (A:ASt.put E j p { σ with h:=h' }=some l)
 {R:Ending->World->Prop} (C:∀ v q u m,Good E.n out M B σ a.tmps w q u l (a.put j v).tmps m->R (.returned v) m):x g U w R:=by
 obtain ⟨_,y⟩:=y;have D:=y (fun b=>out b+jR σ.s a.tmps b) M B w U f.mem f.heap (fun b=>by have:=f.cnt b; grind [fp]) (fun b i=>by have:=f.new b i; grind [fp]) hv;refine z D fun e m he => ?_
 obtain ⟨v,q,u,rfl,d⟩:=he;refine C v q u m ?_;have o:Pre E.n out M B σ a.tmps w q u { σ with h:=h' } m p v:=by
  refine ⟨⟨f.size,d.mem,f.iQ,fun k c hk => ?_,d.heap,fun b => ?_,fun b i => ?_⟩,d.le,?_,fun b i => ?_,d.rep,d.tl,fun b => ?_,fun b i => ?_⟩
  .obtain ⟨s1,F,G⟩:=f.slots k c hk;refine ⟨s1,F.mono d.le,G.kept fun b i => ?_⟩;have H:=FW (s:=σ.s) (t:=a.tmps) (k:=k) (b:=b);simp only[qQ,hk] at H;have I:=f.cnt b;simp only[fp] at I;exact d.fr.blk b (Ri f (by simp only[fp]; omega)) (by omega)
  .have:=d.cnt b; simp only[fp]; omega
  .have:=d.new b i; simp only[fp]; omega
  .exact d.fr.mono fun b i J=>by grind [fp]
  .have:=d.own b i; simp only[fp]; omega
  .have:=d.cnt b; simp only[fp]; omega
  .have:=d.new b i; omega
 exact o.put A
def b1A (e:Inv E.n M B out σ a.tmps w) {args:ai} (hv:au M B args U.toList) {h':aH} (f:Ev E.P g args σ.h p h') {b:Option Nat} {c:ASt} (i:ASt.put E b p { σ with h:=h' }=some c)
 {R:Ending->World->Prop} (j:∀ v l m d,Good E.n out M B σ a.tmps w l m c (a.put b v).tmps d->R (.returned v) d):Calls E.P g U w R:=aI4 (a7H E.P) e hv f i j
theorem YS (p:Inv E.n M B out σ a.tmps w) {K:ASt->Prop} (h:xk E o K σ) {y:Act->World->Prop} {Q:Exit->Act->World->Prop}
 (D:∀ v d q t l,K d->Good E.n out M B σ a.tmps w q t d (a.put o.dst v).tmps l->y (a.put o.dst v) l):o.wp E.P a w y Q:=by
 unfold xk at h;split at h
 .rename_i c u;split at h
  .rename_i f F;split at h
   .rename_i g first z X e has
    obtain ⟨r,h',A,x⟩:=h;unfold jZ at x;split at x
    .rename_i d i;obtain ⟨G,H,I,J,L⟩:=Am.1 (p.rd _ _ e).1;obtain ⟨N,_⟩:=O0 p.rd has;have b:=A.1;unfold m_ at b;split at b
     .rename_i C O;unfold Oper.wp;have j:(execOp a.eval o).run E.P w = .ok (.enter g (G ++ c.args.map a.eval ++ H)) w:=by
       obtain ⟨m,Y,S⟩:=c;subst F;unfold execOp;rw[u];simp only[resolve,I,Deferred.ofValue,nO,LV,xU,invoke,callFunc,run_program];have T:C.body.isNone=false:=by cases U:C.body<;>simp[U] at b ⊢
       grind [Sem.run_pure]
      rw[j];refine b1A p ?_ A i fun v q t l V=>D v d q t l x V
      simpa using Fa (Fa J N) L
     grind
    simp_all
   simp_all
  grind [aXR]
 grind [aXR]
theorem Qg (e:Inv E.n M B out σ a.tmps w) {c:Array Oper} {j:Nat} {x:Option Bool} (h:BU c σ j=some x):yielded c a.tmps j=x:=by
 unfold BU at h;unfold yielded;split at h
 grind
 .rename_i d m;split at h
  .rename_i b f;obtain ⟨g,i,_⟩:=e.slots _ _ f;have:=kw.1 i;have l:d<a.tmps.size:=by rw[e.size]; exact g
   simp_all
  .rename_i f;obtain ⟨g,i,_⟩:=e.slots _ _ f;obtain ⟨o,p,q⟩:=uU.1 i;have l:d<a.tmps.size:=by rw[e.size]; exact g
   simp_all
  .cases h
def Act.IE (a:Act) (d:Option Nat) (v:Value):(a.put d v).defers=a.defers:=by cases d<;>rfl
def J_ (e:Inv E.n M B out σ a.tmps w) {c:Option Nat} {d:ASt} (h:ASt.put E c (.tuple []) σ=some d):Good E.n out M B σ a.tmps w M B d (a.put c undef).tmps w :=(Pre.plain e (uU.2 ⟨#[],rfl,fA.2 rfl⟩) (fun b=>ed rfl _ _) (gU rfl)).put h
theorem UE {b:Array Oper} {Q:Exit->Act->World->Prop}:∀ (l:List Oper) {M:Mem} {B:aS} {σ:ASt} {a:Act} {w:World} {K:ASt->Prop},Inv E.n M B out σ a.tmps w->mV E b l K σ ->
 (∀ c t u j m,K c->Good E.n out M B σ a.tmps w t u c j.tmps m->j.defers=a.defers->Q .normal j m)->wpList E.P b Q l a w
 | [],M,B,σ,a,w,K,g,h,i=>i σ M B a w h (Good.refl g) rfl
 | o::l,M,B,σ,a,w,K,g,h,i=>by
  have run:xk E o (mV E b l K) σ->o.wp E.P a w (wpList E.P b Q l) Q:=fun h =>YS g h fun v c t u m x f=>UE l f.inv x fun d p q a2 w2 hk e r=>i d p q a2 w2 hk (f.trans e) (by rw[r,Act.IE])
  have skip:jZ E o.dst (.tuple []) σ (mV E b l K)->wpList E.P b Q l (a.put o.dst undef) w:=fun h=>by
   unfold jZ at h;split at h
   .rename_i c y;have f:=J_ g y;exact UE l f.inv h fun d p q a2 w2 hk e r=>i d p q a2 w2 hk (f.trans e) (by rw[r,Act.IE])
   simp_all
  rw[mV] at h;grind [wpList,Region.wanted,Qg]
theorem a7A {b:Array Oper} {Q:Exit->Act->World->Prop} {c:List Oper}:∀ (l:List Oper) {M:Mem} {B:aS} {σ:ASt} {a:Act} {w:World} {K:ASt->Prop},Inv E.n M B out σ a.tmps w->mV E b l K σ ->
 (∀ d u x m p,K d->Good E.n out M B σ a.tmps w u x d m.tmps p->m.defers=a.defers->wpList E.P b Q c m p)->wpList E.P b Q (l ++ c) a w
 | [],M,B,σ,a,w,K,i,h,j=>j σ M B a w h (Good.refl i) rfl
 | o::l,M,B,σ,a,w,K,i,h,j=>by
  have run:xk E o (mV E b l K) σ->o.wp E.P a w (wpList E.P b Q (l ++ c)) Q:=fun h =>YS i h fun v d u x p y g=>a7A l g.inv y fun e q r a2 w2 hk f t=>j e q r a2 w2 hk (g.trans f) (by rw[t,Act.IE])
  have skip:jZ E o.dst (.tuple []) σ (mV E b l K)->wpList E.P b Q (l ++ c) (a.put o.dst undef) w:=fun h=>by
   unfold jZ at h;split at h
   .rename_i d z;have g:=J_ i z;exact a7A l g.inv h fun e q r a2 w2 hk f t=>j e q r a2 w2 hk (g.trans f) (by rw[t,Act.IE])
   simp_all
  rw[mV] at h;grind [wpList,Region.wanted,Qg]
end
def OL:Operand->Option Nat
 | .tmp t=>some t
 | _=>none
def sK (E:AE) (o:Oper):Option Nat :=
 match o.op with
 | .move x=>if dw E.mv o.dst then OL x else none
 | .assign x=>OL x
 | .store _ _ x=>OL x
 | .call c=>match c.callee with
  | .builtin .append=>(match c.args.toList with | [x,_]=>OL x | _=>none)
  | _=>none
 | _=>none
def O5 (E:AE):Bool:=E.ln.any fun k=>Nat.ble 1000000 k
def Fe (E:AE) (H a:aH):Prop:=∀ i,dw E.ln (some (1000000+i))=true->H[i]? = a[i]?
def hk (E:AE) (o:Oper):Nat :=
 match o.op with
 | .load _ _=>if dw E.ln o.dst then (if O5 E then 5 else 0) else if dw E.mv o.dst then 3 else 1
 | .alloc _=>if dw E.ln o.dst then (if O5 E then 6 else 2) else 2
 | .box _ _=>if dw E.fz o.dst then 0 else 2
 | .store _ a _=>if dw E.mu (iK a) then 6 else 2
 | .buildSlice _ _ _=>if dw E.mu o.dst then 2 else 0
 | .makeSlice _ _ _=>if dw E.mu o.dst then 2 else 0
 | .makeMap _ _=>if dw E.ln o.dst then (if O5 E then 6 else 2) else 2
 | .lookup _ _ _ _=>2
 | .mapUpdate _ _ _ _=>2
 | .insert _ m _ _=>if dw E.mu ((iK m).map (6000000 + ·)) then 6 else 2
 | .range _ _=>2
 | .next _ _=>2
 | .call c=>match c.callee with
  | .builtin .clear=>2
  | .builtin .copy=>2
  | .value _=>if dw E.sy o.dst then (if O5 E then 6 else 2) else 0
  | _=>0
 | _=>0
def wY (c:Option Nat) (s:gV):gV :=
 match c with
 | none=>s
 | some t=>match cu t s with | some p=>iy t p.un s | none=>s
theorem En (a:ASt) (x:Operand):(a.clr x).s=wY (OL x) a.s/\(a.clr x).h=a.h:=by
 cases x with
 | tmp t=>grind [ASt.clr,wY,OL]
 | _=>exact ⟨rfl,rfl⟩
def oL (h:aH):aH:=h.map fun o=>o.map fun a=>a.map PV.un
def agree (o:Oper) (s a:gV):Prop:=∀ t,Operand.tmp t∈o.op.operands->cu t a=cu t s
section
variable {E:AE} {o:Oper} {σ σ':ASt} {b4:Operand}
theorem Po (h:agree o σ.s σ'.s) (a:b4∈o.op.operands):σ'.ev b4=σ.ev b4:=by
 cases b4 with
 | tmp t=>exact h t a
 | _=>rfl
theorem mZ (h:agree o σ.s σ'.s) (a:b4∈o.op.operands):σ'.rd b4=σ.rd b4:=by grind [ASt.rd,Po]
theorem YI {rd a:Operand->Option PV} {b:List Operand} (h:∀ x,x∈b->a x=rd x):kQ (b.map a)=kQ (b.map rd):=by rw[List.map_congr_left h]
theorem aCC {rd a:Operand->Option PV}:∀ {b:List (Nat×Operand)},(∀ x,x∈b.map (·.2)->a x=rd x)->uu a b=uu rd b
 | [],_=>rfl
 | (i,x)::l,h=>by rw[uu,uu,h x (by simp),aCC (fun y c=>h y (by simp_all))]
theorem aVK {P:Program} {rd rd':Operand->Option PV} {op:Op} (h:∀ x,x∈op.operands->rd' x=rd x):pop P rd' op=pop P rd op:=by
 cases op with
 | call c =>
  obtain ⟨e,args,n⟩:=c;have o:∀ x,x∈args.toList->rd' x=rd x:=fun x f=>h x (by grind [Op.operands,Call.operands])
  grind [pop,IA,YI]
 | makeFunc p first d =>
  have q:∀ x,x∈first.toList->rd' x=rd x:=fun x f=>h x (by grind [Op.operands])
  have r:∀ x,x∈d.toList->rd' x=rd x:=fun x f=>h x (by grind [Op.operands])
  grind [pop,YI]
 | build t g =>
  have:uu rd' g.toList=uu rd g.toList:=aCC fun x f=>h x (by grind [Op.operands])
  simp only[pop,this]
 | slice t x i j l =>
  cases l with
  | some m =>
   cases i with
   | none=>simp[pop]
   | some a =>
    cases j with
    | none=>simp[pop]
    | some b=>grind [pop,Op.operands]
  | none =>
   cases i with
   | none =>grind [pop,Op.operands]
   | some a =>
    cases j with
    | none=>grind [pop,Op.operands]
    | some b=>grind [pop,Op.operands]
 | _=>simp_all[pop,Op.operands]
variable {H:aH} {i:Nat} {L:ai}
theorem b_S {h':aH} (e:oL h'=oL H) (c:H[i]? = some (some L)):∃ a,h'[i]? = some (some a)/\a.map PV.un=L.map PV.un:=by
 have b:=congrArg (·[i]?) e;simp only[oL,lN,c] at b;cases d:h'[i]? with
 | none=>rw[d] at b; simp at b
 | some x =>simp_all
variable {a':TI} {G:PV}
theorem bSU {a:ASt} (h:pV false a' p σ=some (G,a)) (g:oL σ'.h=oL σ.h):a=σ/\pV false a' p σ'=some (G,σ'):=by
 unfold pV at *;cases p with
 | cst e =>simp_all
 | ptr i b =>
  cases j:σ.h[i]? with
  | none=>grind
  | some x =>
   cases x with
   | none=>grind
   | some d =>
    obtain ⟨c,l,f⟩:=b_S g j;have m:c.length=d.length:=by have:=congrArg List.length f; grind
    simp_all
    .cases n:d[b]? with
     | none=>grind
     | some o =>have r:=congrArg (·[b]?) f;grind
 | _=>simp at h
theorem b_T {a:Nat} (b:H[i]? = some (some L)) (d:L[a]? = some p):oL (H.set i (some (L.set a p.un)))=oL H:=by
 simp only[oL];apply Ol;intro j;rw[lN,lN];by_cases c:i=j
 .subst c;rw[BC (iY.1 b).1,b];simp only[Xt,H_];apply Ol;grind [b_X]
 simp_all
theorem bST {a:ASt} (h:pV true a' p σ=some (G,a)):a.s=σ.s/\(∀ σ':ASt,σ'.h=σ.h->pV true a' p σ'=some (G,⟨σ'.s,a.h⟩))/\oL a.h=oL σ.h:=by
 have b:∀ σ':ASt,σ'.h=σ.h->(⟨σ'.s,σ.h⟩:ASt)=σ':=fun σ' e=>by cases σ'; simp_all
 unfold pV at *;cases p with
 | cst e =>simp_all
 | ptr i c =>
  cases d:σ.h[i]? with
  | none=>grind
  | some x =>
   cases x with
   | none=>grind
   | some f =>grind [b_T]
 | _=>simp at h
theorem bYE {E:AE} (h:dw E.ln (some (1000000+i))=true):O5 E=true:=by grind [O5,dw,Nat.ble_eq]
theorem aSW {σ a:ASt} (h:pV false a' p σ=some (G,a)):a=σ/\∀ c:ASt,(∀ i b,p = .ptr i b->c.h[i]? = σ.h[i]?)->pV false a' p c=some (G,c):=by
 unfold pV at h ⊢;cases p with
 | cst e =>simp_all
 | ptr i b =>
  simp only at h ⊢;cases d:σ.h[i]? with
  | none=>rw[d] at h; cases h
  | some o =>
   rw[d] at h;cases o with
   | none=>cases h
   | some f =>grind
 | _=>cases h
theorem aXT {N:ASt} (h:cO E o σ=some (p,N)) (B:agree o σ.s σ'.s) (H:hk E o=0\/σ'.h=σ.h\/(hk E o=1/\oL σ'.h=oL σ.h)) :
 ∃ M,cO E o σ'=some (p,M)/\N.s=wY (sK E o) σ.s/\M.s=wY (sK E o) σ'.s/\((hk E o=0\/hk E o=1)->N.h=σ.h/\M.h=σ'.h)/\(σ'.h=σ.h->M.h=N.h)/\(hk E o=3->oL N.h=oL σ.h):=by
 obtain ⟨n,op,g,A,a,guard⟩:=o;cases op with
 | move x =>
  have F:σ'.ev x=σ.ev x:=Po B (by simp[Op.operands]);simp only[cO] at h ⊢;split at h
  .rename_i v;cases he:σ.ev x with
   | none=>grind
   | some q =>grind [En,sK]
  .rename_i v;cases he:σ.rd x with
   | none=>grind
   | some q =>
    simp[he] at h; obtain ⟨rfl,rfl⟩:=h;have hr:σ'.rd x=σ.rd x:=mZ B (by simp[Op.operands]);have O:sK E ⟨n,.move x,g,A,a,guard⟩=none:=by simp[sK,v]
    rw[aV v,hr,he,O];exact ⟨_,rfl,rfl,rfl,fun _=>⟨rfl,rfl⟩,fun e=>e,fun _=>rfl⟩
 | assign x =>
  have F:σ'.ev x=σ.ev x:=Po B (by simp[Op.operands]);simp only[cO] at h ⊢;cases he:σ.ev x with
  | none=>grind
  | some q =>grind [En,sK]
 | alloc t =>
  simp only[cO] at h ⊢;have C:hk E ⟨n,.alloc t,g,A,a,guard⟩≠0/\hk E ⟨n,.alloc t,g,A,a,guard⟩≠1/\hk E ⟨n,.alloc t,g,A,a,guard⟩≠3:=by simp only[hk]; grind
  have f:σ'.h=σ.h:=by rcases H with h | h | h<;>first | exact h | omega | omega
  rw[f];split at h
  .cases h
  rename_i Z;cases O:ti E.P t with
  | none=>grind
  | some I =>simp[O] at h; obtain ⟨rfl,rfl⟩:=h;exact ⟨⟨σ'.s,σ.h ++ [some (MJ (dw E.mu n) t σ.h.length I.zero)]⟩,by rfl,rfl,rfl,fun e=>e.elim (fun e=>absurd e C.1) (fun e=>absurd e C.2.1),fun e=>rfl,fun e=>absurd e C.2.2⟩
 | box t x =>
  simp only[cO] at h ⊢;have hr:σ'.rd x=σ.rd x:=mZ B (by simp[Op.operands]);split at h
  .rename_i v;rw[ah v];cases hb:(σ.rd x).bind Q8 with
   | none=>grind
   | some e =>simp[hb] at h; obtain ⟨rfl,rfl⟩:=h;exact ⟨σ',by grind,rfl,rfl,fun _=>⟨rfl,rfl⟩,fun e=>e,fun _=>rfl⟩
  .rename_i v;rw[aV v];have f:σ'.h=σ.h:=by rcases H with h | h | h<;>first | exact h | (simp[hk,v] at h)
   cases hb:(σ.rd x).bind PV.newCells with
   | none=>grind
   | some V =>simp[hb] at h; obtain ⟨rfl,rfl⟩:=h;exact ⟨⟨σ'.s,σ'.h ++ [some V]⟩,by simp_all,rfl,rfl,fun e=>by simp[hk,v] at e,fun e=>by simp[e],fun e=>by simp[hk,v] at e⟩
 | load t x =>
  simp only[cO] at h ⊢;have hr:σ'.rd x=σ.rd x:=mZ B (by simp[Op.operands]);rw[hr];cases hI:ti E.P t with
  | none=>grind
  | some I =>
   cases hq:σ.rd x with
   | none=>simp_all
   | some q =>
    simp only[hI,hq] at h ⊢;cases Q:dw E.ln n with
    | true =>
     rw[Q] at h;simp only at h ⊢;split at h
     .rename_i b7;have U:=aSW h;refine ⟨σ',?_,by rw[U.1]; rfl,rfl,fun _=>⟨by rw[U.1],rfl⟩,fun e=>by rw[U.1]; exact e,fun e=>by simp_all⟩;refine U.2 σ' ?_;cases q with
      | ptr i J =>
       have v:dw E.ln (some (1000000+i))=true:=b7;have Z:O5 E=true:=bYE v;have b8:hk E ⟨n,.load t x,g,A,a,guard⟩=5:=by simp only[hk,Q,CQ,Z]
       simp_all
      | _=>intro j o' e; cases e
     .cases h
    | false =>
    rw[Q] at h;simp only at h ⊢;cases v:dw E.mv n with
    | false =>
     rw[v] at h;have b9:oL σ'.h=oL σ.h:=by
      rcases H with h | h | h
      .simp[hk,Q,v] at h
      .rw[h]
      .exact h.2
     obtain ⟨rfl,h2⟩:=bSU h b9;exact ⟨σ',h2,rfl,rfl,fun _=>⟨rfl,rfl⟩,fun e=>e,fun e=>by rfl⟩
    | true =>
     rw[v] at h;have f:σ'.h=σ.h:=by rcases H with h | h | h<;>first | exact h | (simp[hk,Q,v] at h)
     obtain ⟨k1,k2,k3⟩:=bST h;exact ⟨⟨σ'.s,N.h⟩,k2 σ' f,k1,rfl,fun e=>by simp[hk,Q,v] at e,fun _=>rfl,fun _=>k3⟩
 | store t x y =>
  simp only[cO] at h ⊢;have c4:hk E ⟨n,.store t x y,g,A,a,guard⟩=2\/hk E ⟨n,.store t x y,g,A,a,guard⟩=6:=by simp only[hk];simp
  have f:σ'.h=σ.h:=by rcases H with h | h | h<;>first | exact h | omega | (exfalso; have:=h.1; omega)
  have hr:σ'.rd x=σ.rd x:=mZ B (by simp[Op.operands]);have hy:σ'.ev y=σ.ev y:=Po B (by simp[Op.operands]);have c1:=En σ y;have c2:=En σ' y;have O:sK E ⟨n,.store t x y,g,A,a,guard⟩=OL y:=rfl;rw[hr,hy];cases a':SG E.mu E.ln (iK x) (σ.rd x) with
  | false=>rw[a'] at h; cases h
  | true =>
  rw[a'] at h;simp only at h ⊢;cases hI:ti E.P t with
  | none=>grind
  | some I =>
   cases hq:σ.rd x with
   | none=>simp_all
   | some q =>
    cases U:σ.ev y with
    | none=>simp_all
    | some p' =>
     cases n with
     | some d=>simp_all
     | none =>
      simp only[hI,hq,U] at h ⊢;have b':∀ τ:ASt,τ.h=σ.h->∀ K,zQ I q p' τ=some K->K.s=τ.s/\∀ b0:ASt,b0.h=σ.h->zQ I q p' b0=some ⟨b0.s,K.h⟩:=by
       intro τ c0 K G;unfold zQ at G ⊢;cases q with
       | ptr i J =>
        simp only[c0] at G;split at G
        grind
        .cases G
       | _=>simp at G
      cases b5:zQ I q p' (σ.clr y) with
      | none=>simp_all
      | some K =>simp[b5] at h; obtain ⟨rfl,rfl⟩:=h;obtain ⟨k1,k2⟩:=b' (σ.clr y) c1.2 K b5;have k3:=k2 (σ'.clr y) (by rw[c2.2,f]);refine ⟨⟨(σ'.clr y).s,K.h⟩,by rw[k3]; rfl,by rw[k1,O]; exact c1.1,by rw[O]; exact c2.1,fun e=>by omega,fun _=>rfl,fun e=>by omega⟩
 | buildSlice t c5 ps =>
  have U:∀ zs,uu (σ'.rdT zs) ps.toList=uu (σ.rdT zs) ps.toList:=fun zs=>aCC fun x F=>by grind [ASt.rdT,mZ,Op.operands]
  simp only[cO,U] at h ⊢;cases hT:kR E.P t with
  | none=>grind
  | some I =>
   cases hq:uu (σ.rdT (elT E.P t)) ps.toList with
   | none=>simp_all
   | some qs =>
    simp only[hT,hq] at h ⊢;cases he:Ep I.size 0 qs with
    | none=>grind
    | some es =>
     simp only[he] at h ⊢;split at h
     .rename_i hc;rw[ah hc];split at h
      .rename_i v;have f:σ'.h=σ.h:=by rcases H with h | h | h<;>first | exact h | (simp[hk,v] at h)
       cases h;rw[ah v];exact ⟨⟨σ'.s,σ'.h ++ [some (gG es)]⟩,by simp[f],rfl,rfl,fun e=>by simp[hk,v] at e,fun e=>by simp[e],fun e=>by simp[hk,v] at e⟩
      .rename_i v;rw[aV v];split at h
       .split at h
        .cases h;exact ⟨σ',by simp_all,rfl,rfl,fun _=>⟨rfl,rfl⟩,fun e=>e,fun _=>rfl⟩
        .cases h
       .cases h;exact ⟨σ',by simp_all,rfl,rfl,fun _=>⟨rfl,rfl⟩,fun e=>e,fun _=>rfl⟩
     .cases h
 | makeSlice t l c =>
  have hl:σ'.rd l=σ.rd l:=mZ B (by simp[Op.operands]);have hc:σ'.rd c=σ.rd c:=mZ B (by simp[Op.operands]);simp only[cO] at h ⊢;rw[hl,hc];split at h
  .split at h
   .rename_i b1;rw[ah b1];split at h
    .rename_i v;cases h;have f:σ'.h=σ.h:=by rcases H with h | h | h<;>first | exact h | (simp[hk,v] at h)
     rw[ah v];exact ⟨⟨σ'.s,σ'.h ++ [some (xQ _ _)]⟩,by rw[f],rfl,rfl,fun e=>by simp[hk,v] at e,fun e=>by rw[e],fun e=>by simp[hk,v] at e⟩
    .rename_i v;rw[aV v];split at h
     .rename_i hz;cases h;rw[ah hz];exact ⟨σ',rfl,rfl,rfl,fun _=>⟨rfl,rfl⟩,fun e=>e,fun _=>rfl⟩
     .cases h
   .cases h
  .cases h
 | call c =>
  obtain ⟨w,args,ts⟩:=c;have D:∀ x,x∈args.toList->x∈(Op.call ⟨w,args,ts⟩).operands:=fun x F=>by grind [Op.operands,Call.operands]
  simp only[cO] at h ⊢;split at h
  .have f:σ'.h=σ.h:=by rcases H with h | h | h<;>first | exact h | (simp[hk] at h)
   split at h
   .rename_i x y t u G h2;have F:σ'.rd x=σ.rd x:=mZ B (D x (by rw[G]; simp));have hy:σ'.rd y=σ.rd y:=mZ B (D y (by rw[G]; simp));have S:∀ Y q,Gp σ' Y q=Gp σ Y q:=fun Y q=>by unfold Gp; simp_all
    rw[F,hy];simp only[S,f];split at h
    .rename_i I i J m Y q _ _ _;split at h
     .rename_i V m2 b2 _ _;split at h
      .rename_i hc;cases h;exact ⟨⟨σ'.s,σ.h.set i (some (V.take J ++ b2.take (Nat.min m2 m*Y) ++ V.drop (J+Nat.min m2 m*Y)))⟩,by rw[ah hc,<- f],rfl,rfl,fun e=>by simp[hk] at e,fun e=>rfl,fun e=>by simp[hk] at e⟩
      .cases h
     .cases h
    .cases h
   .cases h
  .have f:σ'.h=σ.h:=by rcases H with h | h | h<;>first | exact h | (simp[hk] at h)
   split at h
   .rename_i x t G h2;have F:σ'.rd x=σ.rd x:=mZ B (D x (by rw[G]; simp));split at h
    .rename_i I j J m Y hT b3;split at h
     .rename_i V S;split at h
      .rename_i hc;cases h;exact ⟨⟨σ'.s,σ'.h.set j (some (V.take J ++ (xQ m I).map PV.un ++ V.drop (J+m*Y)))⟩,by rw[F,b3,f,hT]; simp_all,rfl,rfl,fun e=>by simp[hk] at e,fun e=>by rw[e],fun e=>by simp[hk] at e⟩
      .cases h
     .cases h
    .rename_i I o' z' hT b3;cases h;exact ⟨σ',by rw[F,b3,hT],rfl,rfl,fun e=>by grind,fun e=>e,fun e=>by rfl⟩
    .cases h
   .cases h
  .split at h
   .rename_i s x t u G h2;have hs:σ'.ev s=σ.ev s:=Po B (D s (by rw[G]; simp));have F:σ'.rd x=σ.rd x:=mZ B (D x (by rw[G]; simp));rw[hs,F];split at h
    grind [En,sK]
    grind [En,sK]
    grind [En,sK]
    grind [En,sK]
    grind [En,sK]
    .cases h
   .cases h
  .rename_i b8;have c3:IA E.P σ'.rd ⟨w,args,ts⟩=IA E.P σ.rd ⟨w,args,ts⟩:=by
    have:=aVK (P:=E.P) (rd:=σ.rd) (rd':=σ'.rd) (op := .call ⟨w,args,ts⟩) fun x F=>mZ B F
    grind [pop]
   rw[c3];cases U:IA E.P σ.rd ⟨w,args,ts⟩ with
   | none=>grind
   | some q =>
    simp[U] at h; obtain ⟨rfl,rfl⟩:=h;have O:sK E ⟨n,.call ⟨w,args,ts⟩,g,A,a,guard⟩=none:=by simp only[sK]
    rw[O];exact ⟨σ',rfl,rfl,rfl,fun _=>⟨rfl,rfl⟩,fun e=>e,fun _=>rfl⟩
 | makeMap t r =>
  simp only[cO] at h ⊢;have C:hk E ⟨n,.makeMap t r,g,A,a,guard⟩≠0/\hk E ⟨n,.makeMap t r,g,A,a,guard⟩≠1/\hk E ⟨n,.makeMap t r,g,A,a,guard⟩≠3:=by simp only[hk]; grind
  have f:σ'.h=σ.h:=by rcases H with h | h | h<;>first | exact h | omega | omega
  rw[f];split at h
  .cases h
  rename_i Z;split at h
  .rename_i O;cases h;exact ⟨⟨σ'.s,σ.h ++ [some [pX (dw E.mu n) []]]⟩,by rfl,rfl,rfl,fun e=>e.elim (fun e=>absurd e C.1) (fun e=>absurd e C.2.1),fun e=>rfl,fun e=>absurd e C.2.2⟩
  .cases h
 | lookup t m k ok =>
  have f:σ'.h=σ.h:=by rcases H with h | h | h<;>first | exact h | (simp[hk] at h)
  have v:σ'.rd m=σ.rd m:=mZ B (by simp[Op.operands]);have X:σ'.rd k=σ.rd k:=mZ B (by simp[Op.operands]);simp only[cO] at h ⊢;rw[f,v,X];split at h
  .rename_i s z i q O G h2;split at h
   .rename_i V S;split at h
    .rename_i b L b4;split at h
     .rename_i r b6 hg;cases h;exact ⟨σ',by rfl,rfl,rfl,fun e=>by grind,fun _=>f,fun e=>by rfl⟩
     .cases h
    .cases h
   .cases h
  .cases h
 | mapUpdate t m k x =>
  have f:σ'.h=σ.h:=by rcases H with h | h | h<;>first | exact h | (simp[hk] at h)
  have v:σ'.rd m=σ.rd m:=mZ B (by simp[Op.operands]);have X:σ'.rd k=σ.rd k:=mZ B (by simp[Op.operands]);have F:σ'.rd x=σ.rd x:=mZ B (by simp[Op.operands]);simp only[cO] at h ⊢;rw[f,v,X,F];split at h
  .rename_i s z i q y O G h2 h3;split at h
   .rename_i V S;split at h
    .rename_i b L b4;split at h
     .rename_i b6;cases h;exact ⟨⟨σ'.s,σ.h.set i (some [pX b (kT s L q y)])⟩,by rfl,rfl,rfl,fun e=>by simp[hk] at e,fun _=>rfl,fun e=>by simp[hk] at e⟩
     .cases h
    .cases h
   .cases h
  .cases h
 | insert t m k x =>
  have C:hk E ⟨n,.insert t m k x,g,A,a,guard⟩≠0/\hk E ⟨n,.insert t m k x,g,A,a,guard⟩≠1/\hk E ⟨n,.insert t m k x,g,A,a,guard⟩≠3:=by simp only[hk]; split<;>simp
  have f:σ'.h=σ.h:=by rcases H with h | h | h<;>first | exact h | omega | omega
  have v:σ'.rd m=σ.rd m:=mZ B (by simp[Op.operands]);have X:σ'.rd k=σ.rd k:=mZ B (by simp[Op.operands]);have F:σ'.rd x=σ.rd x:=mZ B (by simp[Op.operands]);simp only[cO] at h ⊢;rw[f,v,X,F];split at h
  .cases h
  rename_i a';split at h
  .rename_i s z i q y O G h2 h3;split at h
   .rename_i V S;split at h
    .rename_i b L b4;split at h
     .rename_i b6;cases h;exact ⟨⟨σ'.s,σ.h.set i (some [pX b (kT s L q y)])⟩,by rfl,rfl,rfl,fun e=>e.elim (fun e=>absurd e C.1) (fun e=>absurd e C.2.1),fun _=>rfl,fun e=>absurd e C.2.2⟩
     .cases h
    .cases h
   .cases h
  .cases h
 | range t x =>
  have f:σ'.h=σ.h:=by rcases H with h | h | h<;>first | exact h | (simp[hk] at h)
  have F:σ'.rd x=σ.rd x:=mZ B (by simp[Op.operands]);simp only[cO] at h ⊢;rw[f,F];split at h
  .rename_i s O hs;cases h;exact ⟨⟨σ'.s,σ.h ++ [some [AQ s 0]]⟩,by rfl,rfl,rfl,fun e=>by simp[hk] at e,fun _=>rfl,fun e=>by simp[hk] at e⟩
  .cases h
 | next x b =>
  have f:σ'.h=σ.h:=by rcases H with h | h | h<;>first | exact h | (simp[hk] at h)
  have F:σ'.rd x=σ.rd x:=mZ B (by simp[Op.operands]);simp only[cO] at h ⊢;rw[f,F];split at h
  .rename_i T i c6;split at h
   .rename_i V S;split at h
    .rename_i s p b4;split at h
     .rename_i hT;split at h
      .rename_i U;cases h;exact ⟨⟨σ'.s,σ.h.set i (some [AQ s (Qq s p)])⟩,by rfl,rfl,rfl,fun e=>by simp[hk] at e,fun _=>rfl,fun e=>by simp[hk] at e⟩
      .rename_i U;cases h;exact ⟨σ',by rfl,rfl,rfl,fun e=>by grind,fun _=>f,fun e=>by rfl⟩
     .cases h
    .cases h
   .cases h
  .cases h
 | _ =>
  simp only[cO] at h ⊢;rw[aVK (P:=E.P) (rd:=σ.rd) (rd':=σ'.rd) fun x F=>mZ B F];generalize pop E.P σ.rd _=r at h ⊢;cases r with
  | none=>simp at h
  | some q =>simp at h; obtain ⟨rfl,rfl⟩:=h;exact ⟨σ',rfl,rfl,rfl,fun _=>⟨rfl,rfl⟩,fun e=>e,fun _=>rfl⟩
end
def aXL:∀ {s c:gV},ji s->ji c->(∀ k,cu k s=cu k c)->s=c
 | [],[],_,_,_=>rfl
 | [],(j,q)::l,_,_,h=>by have:=h j; simp[cu] at this
 | (j,q)::l,[],_,_,h=>by have:=h j; simp[cu] at this
 | (j,q)::l,(d,g)::r,i,m,h=>by
  obtain ⟨a1,a2⟩:=EG.1 i;obtain ⟨f,n⟩:=EG.1 m;have o:j=d:=by
   rcases Nat.lt_trichotomy j d with p | he | hgt
   .have:=h j;rw[cu,ah rfl,cu,aV (by omega),Ry (fun a b=>by have:=f a b; omega)] at this;cases this
   .exact he
   .have:=h d;rw[cu,aV (by omega),Ry (fun a b=>by have:=a1 a b; omega),cu,ah rfl] at this;cases this
  subst o;have hq:q=g:=by have:=h j; simpa[cu] using this
  subst hq;congr 1
  refine aXL a2 n fun k => ?_
  by_cases e:j=k
  .subst e;rw[Ry (fun a b=>by have:=a1 a b; simpa using this),Ry (fun a b=>by have:=f a b; simpa using this)]
  .have:=h k;rwa [cu,aV e,cu,aV e] at this
def uz (d:Option Nat) (p:PV) (s:gV):gV:=match d with | some k=>iy k p s | none=>s
variable {f:Option Nat} {C:gV}
theorem IC (h:ji C):ji (uz f p C):=by cases f<;>first | exact h | exact EF h
theorem JI {c:Option Nat} (h:ji C):ji (wY c C):=by unfold wY; grind [EF]
theorem XH (h:ji C) (k:Nat):cu k (uz f p C)=if f=some k then some p else cu k C:=by
 cases f with
 | none=>simp[uz]
 | some j=>grind [uz,EE]
theorem XG (h:ji C) (k:Nat):cu k (wY f C)=if f=some k then (cu k C).map PV.un else cu k C:=by
 cases f with
 | none=>simp[wY]
 | some j =>grind [wY,EE]
theorem b3C {b d a:Option Nat} {g:PV} (h:ji C) (i:∀ k,f=some k->b≠some k/\a≠some k) (j:∀ k,d=some k->b≠some k/\a≠some k) :
 uz f p (wY d (uz b g (wY a C)))=uz b g (wY a (uz f p (wY d C))):=by
 have s1:=JI (c:=d) h;have e:=JI (c:=a) h;refine aXL (IC (JI (IC e))) (IC (JI (IC s1))) fun k => ?_
 rw[XH (JI (IC e)),XG (IC e),XH e,XG h,XH (JI (IC s1)),XG (IC s1),XH s1,XG h];grind
def sS (b:Array Oper) (c:ASt) (o:Oper):Option Bool :=
 match o.guard with
 | none=>some true
 | some (j,a)=>(BU b c j).map fun x=>x==some a
variable {d:AE} {u:Oper}
theorem hk5 (h:hk d u=5):∃ t x,u.op = .load t x/\dw d.ln u.dst=true:=by unfold hk at h;grind
variable {e b2:ASt}
theorem aXS {b:ASt} (h:cO d u e=some (p,b)) (n:hk d u=5) (r:agree u e.s b2.s) (v:Fe d b2.h e.h):b=e/\cO d u b2=some (p,b2)/\sK d u=none:=by
 obtain ⟨t,x,c,w⟩:=hk5 n;obtain ⟨y,C,l,z,f,guard⟩:=u;subst c;simp only[cO] at h ⊢;have g:b2.rd x=e.rd x:=mZ r (by simp[Op.operands]);rw[g];cases A:ti d.P t with
 | none=>grind
 | some I =>
  cases hq:e.rd x with
  | none=>simp_all
  | some q =>
   simp only[A,hq,w] at h ⊢;split at h
   .rename_i j;have m:=aSW h;refine ⟨m.1,?_,rfl⟩;refine m.2 b2 fun i B a => ?_
    subst a;exact v i j
   .cases h
def F_ (E:AE) (o:Oper) (c b:ASt):Prop:=∃ p a,cO E o c=some (p,a)/\kL E o c/\ASt.put E o.dst p a=some b
def b0Y (E:AE) (o:Oper) (f:Operand) (args:List Operand) (b c:ASt):Prop :=
 ∃ g first a d r,b.rd f=some (.func (.func g) first a)/\kQ (args.map b.rd)=some d /\
  ((Ev E.P g (first ++ d ++ a) [] r []/\r.flat=true/\PV.flats (first ++ d ++ a)=true/\ASt.put E o.dst r b=some c) \/
   (dw E.sy o.dst=true/\∃ h',Ev E.P g (first ++ d ++ a) b.h r h'/\Fe E h' b.h/\ASt.put E o.dst r { b with h:=h' }=some c))
abbrev BV (o:Oper):Option (Operand×List Operand) :=
 match o.op with
 | .call c=>match c.callee with
  | .value f=>some (f,c.args.toList)
  | _=>none
 | _=>none
theorem hk6 (h:hk d u=6):BV u≠none\/(∃ t a x,u.op = .store t a x/\dw d.mu (iK a)=true)\/(∃ t,u.op = .alloc t/\dw d.ln u.dst=true)\/(∃ t r,u.op = .makeMap t r/\dw d.ln u.dst=true)\/∃ t m k x,u.op = .insert t m k x/\dw d.mu ((iK m).map (6000000 + ·))=true:=by
 obtain ⟨j,l,i,n,g,guard⟩:=u;cases l with
 | call c =>
  obtain ⟨e,p,q⟩:=c;cases e with
  | value f=>grind
  | builtin b =>cases b<;>simp[hk] at h
  | _=>simp[hk] at h
 | store t a x =>simp only[hk] at h;grind
 | alloc t =>simp only[hk] at h;grind
 | makeMap t r =>simp only[hk] at h;grind
 | insert t m k x =>simp only[hk] at h;grind
 | load t x =>simp only[hk] at h;grind
 | _=>simp only[hk] at h<;>first | omega | (split at h<;>omega)
theorem bZW (h:cO d u e=some (p,b2)) (h6:hk d u=6) (Y:BV u=none):Fe d b2.h e.h:=by
 have N:∀ {n:Nat},aDY d.ln n=true->∀ i,dw d.ln (some (1000000+i))=true->i<n:=fun {n} D i F=>by
  have G:1000000+i∈d.ln:=by simpa[dw] using F
  have:=ja.1 D _ G;rw[show Nat.ble 1000000 (1000000+i)=true by rw[Nat.ble_eq]; omega] at this;simp_all
 rcases hk6 h6 with h' | ⟨t,a,x,f,B⟩|⟨t,f,B⟩|⟨t,r,f,B⟩|⟨t,m,k,x,f,B⟩
 simp_all;case inr.inr.inr.inl =>
  obtain ⟨w,H,l,A,g,guard⟩:=u;subst f;simp only[cO,B] at h;split at h
  .cases h
  .split at h
   .intro i F;grind
   .cases h
 case inr.inr.inr.inr =>
  obtain ⟨w,H,l,A,g,guard⟩:=u;subst f;simp only[cO] at h;split at h
  .cases h
  rename_i v;unfold a5B at v;split at h
  .rename_i s z i q y O Z h2 h3;split at h
   .split at h
    .split at h
     .cases h;intro j Q;have C:i≠j:=fun b=>by simp_all
      simp_all
     .cases h
    .cases h
   .cases h
  .cases h
 case inr.inr.inl =>
  obtain ⟨w,H,l,A,g,guard⟩:=u;subst f;simp only[cO,B] at h;split at h
  .cases h
  .cases O:ti d.P t with
   | none=>grind
   | some I =>intro i F;grind [dw]
 obtain ⟨w,H,l,A,g,guard⟩:=u;subst f;simp only[cO] at h;split at h
 .cases h
 rename_i v;cases S:ti d.P t with
 | none=>grind
 | some I =>
  cases hq:e.rd a with
  | none=>simp_all
  | some q =>
   cases T:e.ev x with
   | none=>simp_all
   | some U =>
    cases w with
    | some c=>simp_all
    | none =>
     simp only[S,hq,T] at h;cases J:zQ I q U (e.clr x) with
     | none=>simp_all
     | some V =>
      simp[J] at h;obtain ⟨_,rfl⟩:=h;have K:=(En e x).2;unfold SG at v;rw[B,hq] at v;cases q with
      | ptr i X =>
       have L:∃ M,V.h=(e.clr x).h.set i M:=by grind [zQ]
       obtain ⟨M,hk⟩:=L;intro j Q;have C:i≠j:=fun b=>by simp_all
       rw[hk,rO C,K]
      | _=>simp at v
def IL (E:AE) (o:Oper) (b a:ASt):Prop :=
 match BV o with
 | some (f,args)=>b0Y E o f args b a
 | none=>F_ E o b a
def mf (E:AE) (a:Array Oper) (o:Oper) (c b:ASt):Prop :=(sS a c o=some true/\IL E o c b)\/(sS a c o=some false/\ASt.put E o.dst (.tuple []) c=some b)
section
variable {E:AE} {ops:Array Oper} {o:Oper} {σ σ' τ:ASt}
theorem J7 (h:ASt.put E f p σ=some σ'):σ'.s=uz f p σ.s/\σ'.h=σ.h/\∀ k,f=some k->k<E.n:=by
 cases f with
 | none=>simp[ASt.put] at h; subst h; exact ⟨rfl,rfl,by simp⟩
 | some k =>
  simp only[ASt.put] at h;split at h
  .cases h; exact ⟨rfl,rfl,fun j e=>by simp_all⟩
  .cases h
def Wy (h:∀ k,f=some k->k<E.n):ASt.put E f p σ=some ⟨uz f p σ.s,σ.h⟩:=by
 cases f with
 | none=>rfl
 | some k=>simp only[ASt.put,ah (h k rfl)]; rfl
variable {i:Nat}
theorem aBF (h:Operand.tmp i∈o.op.operands):i∈o.looksAt ops:=EI _ (List.mem_filterMap.2 ⟨.tmp i,by grind,rfl⟩)
theorem VX (h:∀ t,t∈o.looksAt ops->cu t τ.s=cu t σ.s):sS ops τ o=sS ops σ o:=by
 unfold sS;cases b:o.guard with
 | none=>rfl
 | some jw =>
  obtain ⟨j,a⟩:=jw;have:BU ops τ j=BU ops σ j:=by
   unfold BU;cases c:(ops[j]?).bind (·.dst) with
   | none=>rfl
   | some d=>simp only[h d (Du _ (by grind))]
  simp_all
theorem aX7 (h:agree o σ.s τ.s) (l:kL E o σ):kL E o τ:=by
 obtain ⟨f,g,e,i,b,guard⟩:=o;cases g with
 | call c =>
  obtain ⟨a,args,j⟩:=c;have d:∀ x,x∈args.toList->x∈(Op.call ⟨a,args,j⟩).operands:=fun x m=>by grind [Op.operands,Call.operands]
  grind [kL,Po,mZ]
 | _=>trivial
theorem a6Y (h:mf E ops o σ σ'):∃ c p,(c=none\/c=sK E o)/\σ'.s=uz o.dst p (wY c σ.s)/\((hk E o=0\/hk E o=1\/hk E o=5)->σ'.h=σ.h)/\(hk E o=3->oL σ'.h=oL σ.h)/\(hk E o=6->Fe E σ'.h σ.h) /\
 ∀ τ:ASt,(∀ t,t∈o.looksAt ops->cu t τ.s=cu t σ.s)->(hk E o=0\/τ.h=σ.h\/(hk E o=1/\oL τ.h=oL σ.h)\/(hk E o=5/\Fe E τ.h σ.h))->∃ j,mf E ops o τ j/\j.s=uz o.dst p (wY c τ.s)/\((hk E o=0\/hk E o=1\/hk E o=5)->j.h=τ.h)/\(τ.h=σ.h->j.h=σ'.h):=by
 rcases h with ⟨C,D⟩|⟨C,U⟩
 .unfold IL at D;cases l:BV o with
  | some V =>
   obtain ⟨f,args⟩:=V;rw[l] at D;obtain ⟨g,first,u,O,r,v,F,y⟩:=D;have m:f∈o.op.operands/\∀ x,x∈args->x∈o.op.operands:=by grind [Op.operands,Call.operands]
   rcases y with ⟨y,X,I,h6⟩|⟨G,h',y,n,h6⟩
   .obtain ⟨z,b,w⟩:=J7 h6;refine ⟨none,r,.inl rfl,z,fun _=>b,fun _=>by rw[b],fun _ i _=>by rw[b],fun τ d _=>⟨⟨uz o.dst r τ.s,τ.h⟩,.inl ⟨by rw[VX d]; exact C,?_⟩,rfl,fun _=>rfl,fun e=>by rw[b]; exact e⟩⟩;unfold IL;rw[l];have a:agree o σ.s τ.s:=fun t h=>d t (aBF h)
    exact ⟨g,first,u,O,r,by rw[mZ a m.1]; exact v,by rw[YI fun x J=>mZ a (m.2 x J)]; exact F,.inl ⟨y,X,I,Wy w⟩⟩
   .obtain ⟨z,b,w⟩:=J7 h6;have Y:hk E o=2\/hk E o=6:=by
     obtain ⟨Z,op,Q,a',K,guard⟩:=o;cases op<;>simp[BV] at l
     rename_i c;obtain ⟨q,Yj,ts⟩:=c;cases q<;>simp at l
     simp only[hk,G];simp
    refine ⟨none,r,.inl rfl,z,fun e=>by omega,fun e=>by omega,fun _=>by rw[b]; exact n,fun τ d S => ?_⟩;have H:τ.h=σ.h:=by grind
    refine ⟨⟨uz o.dst r τ.s,h'⟩,.inl ⟨by rw[VX d]; exact C,?_⟩,rfl,fun e=>by omega,fun _=>by rw[b]⟩;unfold IL;rw[l];have a:agree o σ.s τ.s:=fun t h=>d t (aBF h)
    exact ⟨g,first,u,O,r,by rw[mZ a m.1]; exact v,by rw[YI fun x J=>mZ a (m.2 x J)]; exact F,.inr ⟨G,h',by rw[H]; exact y,by rw[H]; exact n,Wy w⟩⟩
  | none =>
   rw[l] at D;obtain ⟨p,L,v,F,y⟩:=D;obtain ⟨z,b,w⟩:=J7 y;have A:=aXT v (fun _ _=>rfl) (.inr (.inl rfl));obtain ⟨_,_,s1,_,s3,_,s5⟩:=A;have e5:hk E o=5->L.h=σ.h:=fun e=>by rw[(aXS v e (fun _ _=>rfl) (fun _ _=>rfl)).1]
   refine ⟨sK E o,p,.inr rfl,by rw[z,s1],fun e=>by grind,fun e=>by rw[b]; exact s5 e,fun e=>by rw[b]; exact bZW v e l,fun τ d S => ?_⟩;have a:agree o σ.s τ.s:=fun t h=>d t (aBF h)
   by_cases I:hk E o=5
   .have n:Fe E τ.h σ.h:=by
     rcases S with h | h | h | h
     .omega
     .intro i _; rw[h]
     .omega
     .exact h.2
    obtain ⟨l0,M,T⟩:=aXS v I a n;refine ⟨⟨uz o.dst p τ.s,τ.h⟩,.inl ⟨by rw[VX d]; exact C,?_⟩,by rw[T]; rfl,fun _=>rfl,fun e=>by rw[b,e5 I]; exact e⟩;unfold IL;rw[l];exact ⟨p,τ,M,aX7 a F,Wy w⟩
   have N:hk E o=0\/τ.h=σ.h\/(hk E o=1/\oL τ.h=oL σ.h):=by simp_all
   obtain ⟨B,M,T,l3,l4,l5,_⟩:=aXT v a N;refine ⟨⟨uz o.dst p B.s,B.h⟩,.inl ⟨by rw[VX d]; exact C,?_⟩,by grind,fun e=>by simp_all,fun e=>by rw[b]; exact l5 e⟩;unfold IL;rw[l];exact ⟨p,B,M,aX7 a F,Wy w⟩
 .obtain ⟨z,b,w⟩:=J7 U;exact ⟨none,.tuple [],.inl rfl,z,fun _=>b,fun _=>by rw[b],fun _ i _=>by rw[b],fun τ d _=>⟨⟨uz o.dst (.tuple []) τ.s,τ.h⟩,.inr ⟨by rw[VX d]; exact C,Wy w⟩,rfl,fun _=>rfl,fun e=>by rw[b]; exact e⟩⟩
theorem mf.iQ (h:mf E ops o σ σ') (a:ji σ.s):ji σ'.s:=by grind [a6Y,IC,JI]
def qc (E:AE) (o:Oper):List Nat:=o.dst.toList ++ (sK E o).toList
def aPV (a b:Nat):Bool:=a==0||b==0||(a==1&&b==1)||(a==1&&b==3)||(a==3&&b==1)||(a==5&&(b==1||b==5||b==6))||(b==5&&(a==1||a==6))
def Vk (o:Oper):Option ByteArray:=match o.op,o.dst,o.guard with
 | .insert _ _ (.const (.string k)) _,none,none=>some k
 | _,_,_=>none
def aA3 (x y:Oper):Bool:=match Vk x,Vk y with
 | some a,some b => !(a.data.toList==b.data.toList)
 | _,_=>false
def a7N (E:AE) (ops:Array Oper) (x y:Oper):Bool :=(qc E x).all (fun d => !(y.looksAt ops).contains d && !(qc E y).contains d)&&(qc E y).all (fun d => !(x.looksAt ops).contains d)&&aPV (hk E x) (hk E y)
def MM (E:AE) (ops:Array Oper) (x y:Oper):Bool:=a7N E ops x y||aA3 x y
def aHZ:∀ {a b c:f_},Eh a b=true->Eh b c=true->Eh a c=true
 | [],[],_,h,_=>by cases h
 | [],_::_,[],_,h=>by cases h
 | [],_::_,_::_,_,_=>rfl
 | _::_,[],_,h,_=>by cases h
 | _::_,_::_,[],_,h=>by cases h
 | a::i,b::bs,c::j,d,e=>by
  simp only[Eh,EN,bH,EP,LM] at d e ⊢;rcases d with d | ⟨d,f⟩<;>rcases e with e | ⟨e,g⟩
  .omega
  .omega
  .omega
  .right; exact ⟨by omega,aHZ f g⟩
def a7C:∀ {a b:f_},a≠b->Eh b a = !Eh a b
 | [],[],h=>absurd rfl h
 | [],_::_,_=>rfl
 | _::_,[],_=>rfl
 | a::d,b::bs,h=>by
  simp only[Eh];rcases Nat.lt_trichotomy a.toNat b.toNat with f | he | g
  .rw[show Nat.blt a.toNat b.toNat=true by rw[EP]; exact f,show Nat.blt b.toNat a.toNat=false by rw[<- D_,EP]; omega,show Nat.beq b.toNat a.toNat=false by rw[<- D_,LM]; omega]; rfl
  .have c:a=b:=UInt8.toNat_inj.1 he;subst c;have i:d≠bs:=fun e=>h (by rw[e])
   rw[show Nat.blt a.toNat a.toNat=false by rw[<- D_,EP]; omega,show Nat.beq a.toNat a.toNat=true by rw[LM],a7C i]; rfl
  .rw[show Nat.blt a.toNat b.toNat=false by rw[<- D_,EP]; omega,show Nat.blt b.toNat a.toNat=true by rw[EP]; exact g,show Nat.beq a.toNat b.toNat=false by rw[<- D_,LM]; omega]; rfl
section
variable {a b:ByteArray} {x y:PV}
def xh:ai->Prop
 | k::_::L=>(∃ c,k = .str c)/\xh L
 | []=>True
 | [_]=>False
theorem a6W:∀ {L:ai},sZ none L (.str a)=true↔xh L
 | []=>⟨fun _=>trivial,fun _=>rfl⟩
 | [_]=>⟨fun h=>(by simp[sZ] at h),fun h=>h.elim⟩
 | k::v::L=>by rw[sZ,bH,a6W];refine and_congr ⟨fun h => ?_,fun ⟨c,b⟩=>by subst b; rfl⟩ Iff.rfl;cases k<;>first | exact ⟨_,rfl⟩ | (simp[qY] at h)
theorem aPT (e:a.data.toList≠b.data.toList):∀ {L:ai},xh L->uM none (oG none L (.str a) x) (.str b)=uM none L (.str b)
 | [],_=>rfl
 | [_],h=>h.elim
 | k::v::L,⟨⟨c,f⟩,h⟩=>by
  subst f;simp only[oG,qY];by_cases d:a.data.toList=c.data.toList
  .rw[show (a.data.toList==c.data.toList)=true by rw[qG]; exact d];simp only[uM,qY];rw[d]
  .rw[show (a.data.toList==c.data.toList)=false from zn.2 d];simp only[uM];rw[aPT e h]
theorem aPR (d:a.data.toList≠b.data.toList):∀ {L:ai},xh L->uM none (pY L (.str a) x) (.str b)=uM none L (.str b)
 | [],_=>by grind [pY,uM,qY]
 | [_],h=>h.elim
 | k::v::L,⟨⟨c,e⟩,h⟩=>by
  subst e;simp only[pY];cases pW (.str a) (.str c) with
  | true =>simp only[uM,qY];rw[show (b.data.toList==a.data.toList)=false from zn.2 (Ne.symm d)]
  | false =>simp only[uM];rw[aPR d h]
theorem aTQ (d:a.data.toList≠b.data.toList):∀ {L:ai},xh L->oG none (oG none L (.str a) x) (.str b) y=oG none (oG none L (.str b) y) (.str a) x
 | [],_=>rfl
 | [_],h=>h.elim
 | k::v::L,⟨⟨c,n⟩,h⟩=>by
  subst n;by_cases g:a.data.toList=c.data.toList
  .have f:(b.data.toList==c.data.toList)=false:=zn.2 fun e=>d (g.trans e.symm)
   have j:(b.data.toList==a.data.toList)=false:=zn.2 (Ne.symm d);simp only[oG,qY,show (a.data.toList==c.data.toList)=true by rw[qG]; exact g,f,j]
  .have m:(a.data.toList==c.data.toList)=false:=zn.2 g;by_cases f:b.data.toList=c.data.toList
   .have i:(a.data.toList==b.data.toList)=false:=zn.2 d;simp only[oG,qY,m,show (b.data.toList==c.data.toList)=true by rw[qG]; exact f,i]
   .have l:(b.data.toList==c.data.toList)=false:=zn.2 f;simp only[oG,qY,m,l,aTQ d h]
theorem aTO (f:a.data.toList≠b.data.toList):∀ {L:ai},xh L->uM none L (.str a)=true->pY (oG none L (.str a) x) (.str b) y=oG none (pY L (.str b) y) (.str a) x
 | [],_,h=>by cases h
 | [_],h,_=>h.elim
 | k::v::L,⟨⟨c,j⟩,h⟩,i=>by
  subst j;have e:(a.data.toList==b.data.toList)=false:=zn.2 f;by_cases d:a.data.toList=c.data.toList
  .have l:pW (.str b) (.str a)=pW (.str b) (.str c):=by simp only[pW,d]
   simp only[oG,qY,show (a.data.toList==c.data.toList)=true by rw[qG]; exact d,pY,l];cases pW (.str b) (.str c) with
   | true=>simp only[oG,qY,e,show (a.data.toList==c.data.toList)=true by rw[qG]; exact d]
   | false=>simp only[oG,qY,show (a.data.toList==c.data.toList)=true by rw[qG]; exact d]
  .have g:(a.data.toList==c.data.toList)=false:=zn.2 d;simp only[uM,qY,g] at i;simp only[oG,qY,g,pY];cases pW (.str b) (.str c) with
   | true=>simp only[oG,qY,e,g]
   | false=>simp only[oG,qY,g,aTO f h i]
theorem aQA (e:a.data.toList≠b.data.toList):∀ {L:ai},xh L->pY (pY L (.str a) x) (.str b) y=pY (pY L (.str b) y) (.str a) x
 | [],_=>by have j:pW (.str b) (.str a) = !pW (.str a) (.str b):=a7C e;grind [pY]
 | [_],h=>h.elim
 | k::v::L,⟨⟨c,m⟩,h⟩=>by
  subst m;have j:pW (.str b) (.str a) = !pW (.str a) (.str b):=a7C e;have l:∀ {p q r:ByteArray},pW (.str p) (.str q)=true->pW (.str q) (.str r)=true->pW (.str p) (.str r)=true:=fun n o=>aHZ n o
  cases f:pW (.str a) (.str c) with
  | true =>
   cases d:pW (.str b) (.str c) with
   | true =>simp only[pY,f,d,j];cases pW (.str a) (.str b)<;>simp
   | false =>
    have g:pW (.str b) (.str a)=false:=by
     cases i:pW (.str b) (.str a) with
     | false=>rfl
     | true=>rw[l i f] at d; cases d
    simp only[pY,f,d,g]
  | false =>
   cases d:pW (.str b) (.str c) with
   | true =>
    have g:pW (.str a) (.str b)=false:=by
     cases i:pW (.str a) (.str b) with
     | false=>rfl
     | true=>rw[l i d] at f; cases f
    simp only[pY,f,d,g]
   | false=>simp only[pY,f,d,aQA e h]
variable {L:ai}
theorem bXJ (c:a.data.toList≠b.data.toList) (h:xh L):kT none (kT none L (.str a) x) (.str b) y=kT none (kT none L (.str b) y) (.str a) x:=by grind [kT,aPT,aPR,aQA,aTO,aTQ]
theorem aTN:∀ {L:ai},xh L->xh (oG none L (.str a) x)
 | [],_=>trivial
 | [_],h=>h.elim
 | k::v::L,⟨⟨c,b⟩,h⟩=>by
  subst b;simp only[oG];split
  .exact ⟨⟨_,rfl⟩,h⟩
  .exact ⟨⟨_,rfl⟩,aTN h⟩
theorem aQ9:∀ {L:ai},xh L->xh (pY L (.str a) x)
 | [],_=>⟨⟨_,rfl⟩,trivial⟩
 | [_],h=>h.elim
 | k::v::L,⟨⟨c,b⟩,h⟩=>by
  subst b;simp only[pY];cases pW (.str a) (.str c) with
  | true=>exact ⟨⟨_,rfl⟩,⟨_,rfl⟩,h⟩
  | false=>exact ⟨⟨_,rfl⟩,aQ9 h⟩
theorem bXH (h:xh L):xh (kT none L (.str a) x):=by grind [kT,aTN,aQ9]
end
variable {b5:ByteArray}
theorem bPL {o:Oper} (h:Vk o=some b5):∃ t m v,o.op = .insert t m (.const (.string b5)) v/\o.dst=none/\o.guard=none:=by grind [Vk]
theorem Qi {o:Oper} (hk:Vk o=some b5):mf E ops o σ σ'↔∃ t m v,o.op = .insert t m (.const (.string b5)) v/\∃ i q d b L z,a5B E.mu E.ln (iK m) (σ.rd m)=true/\Di E.P t=some (none,z)/\σ.rd m=some (.dZ 0 i)/\σ.rd v=some q/\σ.h[i]? = some (some d)/\Ba d=some (b,L)/\xh L/\(!b||q.flat)=true /\
 σ' = { σ with h:=σ.h.set i (some [pX b (kT none L (.str b5) q)]) }:=by
 obtain ⟨t,m,v,C,D,F⟩:=bPL hk;obtain ⟨G,N,r,H,l,guard⟩:=o;subst C; subst D; subst F;have I:σ.rd (.const (.string b5))=some (.str b5):=rfl;constructor
 .rintro (⟨_,h⟩|⟨h,_⟩)
  .obtain ⟨p,J,a,_,u⟩:=h;simp only[ASt.put,H_] at u;subst u;simp only[cO] at a;split at a
   .cases a
   rename_i f;split at a
   .rename_i s z i q y w x A B O;rw[I] at A;cases A;split at a
    .rename_i d g;split at a
     .rename_i b L j;split at a
      .rename_i c;cases a;simp only[bH] at c;have n:s=none:=by
        cases s with
        | none=>rfl
        | some Q=>have:=c.1; simp[zC] at this
       subst n;exact ⟨t,m,v,rfl,i,y,d,b,L,z,f,w,x,B,g,j,a6W.1 c.2.1,c.2.2,rfl⟩
      .cases a
     .cases a
    .cases a
   .cases a
  .simp[sS] at h
 .rintro ⟨S,T,U,e,i,q,d,b,L,z,f,w,x,B,g,j,K,M,rfl⟩;refine .inl ⟨rfl,?_⟩;refine ⟨.tuple [],{ σ with h:=σ.h.set i (some [pX b (kT none L (.str b5) q)]) },?_,trivial,rfl⟩;grind [cO,zC,a6W]
variable {b6:Bool}
def aTC {L:ai}:Ba [pX b6 L]=some (b6,L):=by cases b6<;>rfl
theorem b34 {x y:Oper} {e f:ASt} (h1:mf E ops x σ e) (h2:mf E ops y e f) (o:aA3 x y=true):∃ τ,mf E ops y σ τ/\mf E ops x τ f:=by
 unfold aA3 at o;split at o
 .rename_i a b p r;obtain ⟨t,m,v,C,i,q,D,g,L,z,s1,F,G,H,I,J,u,K,rfl⟩:=(Qi p).1 h1;obtain ⟨M,N,O,Q,j,d,w,S,T,U,V,X,Y,Z,c,l,u7,u8,rfl⟩:=(Qi r).1 h2;by_cases n:i=j
  .subst n;have A:i<σ.h.length:=(iY.1 I).1;rw[BC A] at c;injection c with c; injection c with c; subst c
   rw[aTC] at l;injection l with l; injection l with B a'
   subst B; refine ⟨{ σ with h:=σ.h.set i (some [pX g (kT none L (.str b) d)]) },(Qi r).2 ⟨M,N,O,Q,i,d,D,g,L,U,V,X,Y,Z,I,J,u,u8,rfl⟩,(Qi p).2 ⟨t,m,v,C,i,q,[pX g (kT none L (.str b) d)],g,kT none L (.str b) d,z,s1,F,G,H,?_,aTC,bXH u,K,?_⟩⟩;simp_all;grind [List.set_set,bXJ]
  .rw[rO n] at c;refine ⟨{ σ with h:=σ.h.set j (some [pX S (kT none T (.str b) d)]) },(Qi r).2 ⟨M,N,O,Q,j,d,w,S,T,U,V,X,Y,Z,c,l,u7,u8,rfl⟩,(Qi p).2 ⟨t,m,v,C,i,q,D,g,L,z,s1,F,G,H,?_,J,u,K,?_⟩⟩;grind
   grind [List.set_comm]
 .cases o
theorem b2Z {x y:Oper} {b a:ASt} (m:ji σ.s) (F:mf E ops x σ b) (u:mf E ops y b a) (v:a7N E ops x y=true):∃ τ,mf E ops y σ τ/\mf E ops x τ a:=by
 unfold a7N at v;simp only[bH,ja,Ij,List.contains_eq_mem,aG2] at v;obtain ⟨⟨d,w⟩,z⟩:=v;obtain ⟨S,T,k1,C,a1,U,G,H⟩:=a6Y F;obtain ⟨V,X,k2,I,a2,Y,Z,J⟩:=a6Y u;have q:∀ {o:Oper} {c:Option Nat} {k:Nat},(c=none\/c=sK E o)->c=some k->k∈qc E o:=fun hk e=>by
  rcases hk with h | h
  simp_all
  .exact Du _ (by rw[<- h,e]; simp)
 have r:∀ {o:Oper} {k:Nat},o.dst=some k->k∈qc E o:=fun e=>EI _ (by rw[e]; simp)
 have f:∀ {o:Oper} {c:Option Nat} {p:PV} {s:gV} {t:Nat},ji s->(c=none\/c=sK E o)->t∉qc E o->cu t (uz o.dst p (wY c s))=cu t s:=fun m hk n=>by rw[XH (JI m),aV (fun e=>n (r e)),XG m,aV (fun e=>n (q hk e))]
 unfold aPV at z;simp only[EN,bH,qG] at z;have j:hk E y=0\/σ.h=b.h\/(hk E y=1/\oL σ.h=oL b.h)\/(hk E y=5/\Fe E σ.h b.h):=by
  rcases z with (((((h | h) | h) | h) | h) | h) | h
  simp_all;omega;simp_all;simp_all;simp_all;simp_all
  .rcases h.2 with u | u
   simp_all
   .exact .inr (.inr (.inr ⟨h.1,fun i K=>(G u i K).symm⟩))
 obtain ⟨τ,L,D,y3,y4⟩:=J σ (fun t n=>by rw[C,f m k1 fun A=>(d t A).1 n]) j;have B:hk E x=0\/τ.h=σ.h\/(hk E x=1/\oL τ.h=oL σ.h)\/(hk E x=5/\Fe E τ.h σ.h):=by grind
 obtain ⟨g,M,N,x3,x4⟩:=H τ (fun t n=>by rw[D,f m k2 fun A=>w t A n]) B;refine ⟨τ,L,?_⟩;have O:g.s=a.s:=by rw[N,D,I,C];exact b3C m (fun k e=>⟨fun l=>(d k (r e)).2 (r l),fun l=>(d k (r e)).2 (q k2 l)⟩) (fun k e=>⟨fun l=>(d k (q k1 e)).2 (r l),fun l=>(d k (q k1 e)).2 (q k2 l)⟩)
 have Q:g.h=a.h:=by grind
 have:g=a:=by cases g; cases a; simp_all
 rw[<- this]; exact M
theorem aIN {x y:Oper} {a b:ASt} (c:ji σ.s) (d:mf E ops x σ a) (e:mf E ops y a b) (f:MM E ops x y=true):∃ τ,mf E ops y σ τ/\mf E ops x τ b:=by grind [MM,b2Z,b34]
def rY (E:AE) (ops:Array Oper):List Nat->ASt->ASt->Prop
 | [],σ,σ'=>σ=σ'
 | i::l,σ,σ'=>∃ o,ops[i]? = some o/\∃ a,mf E ops o σ a/\rY E ops l a σ'
theorem aIE {i:Nat} {b:Oper} (m:ops[i]? = some b):∀ (p q:List Nat) {σ σ':ASt},ji σ.s->rY E ops (p ++ i::q) σ σ'->(∀ k,k∈p->∀ g,ops[k]? = some g->MM E ops g b=true)->∃ a,mf E ops b σ a/\rY E ops (p ++ q) a σ'
 | [],q,σ,σ',c,h,_=>by obtain ⟨o,d,a,e,j⟩:=h;grind
 | k::p,q,σ,σ',c,h,l=>by
  obtain ⟨o,d,a,e,j⟩:=h;obtain ⟨f,n,r⟩:=aIE m p q (e.iQ c) j fun k hk=>l k (by simp[hk])
  obtain ⟨τ,t,u⟩:=aIN c e n (l k (by simp) o d);exact ⟨τ,t,o,d,f,u,r⟩
def aHJ (dC:List Nat) (o:Oper):Nat:=o.after.toList.foldl (fun s e=>if Region.binds .any e then s ||| (2 ^ e.on ||| dC.getD e.on 0) else s) 0
def MC:List Nat->List Oper->List Nat
 | dC,[]=>dC
 | dC,o::l=>MC (dC ++ [aHJ dC o]) l
def yN (ops:Array Oper) (L:Nat->Prop):Prop:=∀ (j:Nat) o,ops[j]? = some o->L j->∀ e,e∈o.after->Region.binds .any e=true->L e.on
theorem a_0 {dC:List Nat} {o:Oper} (h:(aHJ dC o).testBit i=true):∃ e,e∈o.after/\Region.binds .any e=true/\(i=e.on\/(dC.getD e.on 0).testBit i=true):=by
 have a:∀ (l:List Edge) (s:Nat),(l.foldl (fun s e=>if Region.binds .any e then s ||| (2 ^ e.on ||| dC.getD e.on 0) else s) s).testBit i=true->s.testBit i=true\/∃ e,e∈l/\Region.binds .any e=true/\(i=e.on\/(dC.getD e.on 0).testBit i=true):=by
  intro l;induction l with
  | nil=>simp
  | cons e l c =>grind
 rcases a o.after.toList 0 h with b | ⟨e,b,d⟩
 grind
 grind
def a6A (ops:Array Oper) (dC:List Nat):Prop:=∀ (j:Nat) o,j<dC.length->ops[j]? = some o->∀ L,yN ops L->(∀ e,e∈o.after->Region.binds .any e=true->L e.on)->∀ k,(dC.getD j 0).testBit k=true->L k
theorem aHK {ops:Array Oper}:∀ (l:List Oper) (dC:List Nat),a6A ops dC->(∀ j,l[j]? = ops[dC.length+j]?)->a6A ops (MC dC l)
 | [],dC,h,_=>h
 | o::l,dC,h,m=>by
  have n:ops[dC.length]? = some o:=by have:=m 0; simp_all
  refine aHK l _ (fun j t w a L f p k hk => ?_) (fun j=>by have:=m (j+1); grind);rcases zk j dC.length with c | u
  .refine h j t c a L f p k ?_;rwa [aFV,vJ c] at hk
  .have g:j=dC.length:=by grind
   subst g;rw[n] at a; cases a;simp at hk;obtain ⟨e,he,v,d⟩:=a_0 hk;rcases d with rfl | d
   simp_all
   .have i:=p e he v;rcases zk e.on dC.length with q | q
    .cases b:ops[e.on]? with
     | none =>have x:=(zf.1 n).1;rw[Array.getElem?_eq_none_iff] at b; omega
     | some r=>exact h e.on r q b L f (f e.on r b i) k (by omega)
    simp_all
def C_ (E:AE) (ops:Array Oper):Bool :=
 let A:=MC [] ops.toList
 (List.range ops.size).all fun j=>match ops[j]? with
  | some a=>a.after.toList.all (fun e => !Region.binds .any e||decide (e.on<j))&&(List.range j).all fun i=>match ops[i]? with
   | some b=>(A.getD j 0).testBit i||MM E ops b a
   | none=>true
  | none=>true
theorem bUC (h:C_ E ops=true):(∀ (j:Nat) o,ops[j]? = some o->∀ e,e∈o.after->Region.binds .any e=true->e.on<j) /\
 ∀ (i j:Nat) c a,i<j->ops[i]? = some c->ops[j]? = some a->∀ L,yN ops L->(∀ e,e∈a.after->Region.binds .any e=true->L e.on)->¬ L i->MM E ops c a=true:=by
 unfold C_ at h;simp only[ja,E_] at h;have n:a6A ops (MC [] ops.toList):=aHK ops.toList [] (fun j o b=>by simp at b) (fun j=>by simp);have m:∀ (l:List Oper) (dC:List Nat),(MC dC l).length=dC.length+l.length:=by
  intro l;induction l with
  | nil=>simp[MC]
  | cons o l u=>grind [MC]
 constructor;grind
 .intro i j c a d p b L q r t;have f:=(zf.1 b).1;have:=h j f;simp only[b,bH,ja,E_] at this;have:=this.2 i d;simp only[p,EN] at this;rcases this with g | g
  .exact absurd (n j a (by simp_all) b L q r i g) t
  .exact g
variable {m:Nat->Nat} {I:Mem} {J:aS} {O:Act} {S:World}
theorem aPA (c:Inv E.n I J m σ O.tmps S) (h:sS ops σ o=some b6):Region.wanted o (yielded ops O.tmps)=b6:=by unfold sS at h;grind [Region.wanted,BU,Qg]
variable {T:Exit->Act->World->Prop}
theorem aZ2 (f:Inv E.n I J m σ O.tmps S) (F:ops[i]? = some o) (h:mf E ops o σ σ') {K:Act->World->Prop} 
 (G:∀ v t u q,Good E.n m I J σ O.tmps S t u σ' (O.put o.dst v).tmps q->K (O.put o.dst v) q):wpOp E.P ops T i K O S:=by
 unfold wpOp;simp only[F];rcases h with ⟨x,j⟩|⟨x,H⟩
 .rw[ah (aPA f x)];refine .inl ?_;unfold IL at j;cases l:BV o with
  | some fa =>
   rw[l] at j;obtain ⟨g,first,z,az,r,A,C,d⟩:=j;refine YS (K:=fun τ=>τ=σ') f ?_ fun v τ t u q e L=>by grind
   unfold xk;obtain ⟨N,U,D,V,y,guard⟩:=o;cases U<;>simp[BV] at l
   rename_i c;obtain ⟨b,Yj,ts⟩:=c;cases b<;>simp at l
   obtain ⟨rfl,rfl⟩:=l;simp only[A,C];rcases d with ⟨d,X,Y,h6⟩|⟨_,h',d,_,h6⟩
   .refine ⟨r,σ.h,d.frame' X Y _,?_⟩;unfold jZ;simp_all
   .refine ⟨r,h',d,?_⟩;grind [jZ]
  | none =>
   rw[l] at j;obtain ⟨p,Z,A,C,d⟩:=j;refine aXP (K:=fun τ=>τ=σ') f ?_ fun v τ t u q e L=>by grind
   grind [zO,jZ]
 .rw[aV (by rw[aPA f x]; simp)];exact G undef I J S (J_ f H)
def qV (n:Nat) (L:Array Bool):List Nat:=(List.range n).filter fun i => !L.getD i true
variable {A:Nat}
theorem RP {L:Array Bool}:A∈qV i L↔A<i/\L.getD A true=false:=by grind [qV]
theorem b_Z {L:Array Bool} (a:L.size=i) (d:A<i) (e:L.getD A true=false):∃ p q,qV i L=p ++ A::q/\qV i (L.setIfInBounds A true)=p ++ q/\∀ k,k∈p->k<A:=by
 have f:List.range i=List.range A ++ A::(List.range' (A+1) (i-A-1)):=by
  have:i=A+(i-A-1+1):=by omega
  rw[aFZ,aFZ,this,<- List.range'_append_1,aFY];simp
 have b:∀ j,j≠A->(L.setIfInBounds A true).getD j true=L.getD j true:=fun j h=>by simp[aZ6 (Ne.symm h)]
 have c:(L.setIfInBounds A true).getD A true=true:=by simp[a]
 refine ⟨(List.range A).filter fun A => !L.getD A true,(List.range' (A+1) (i-A-1)).filter fun A => !L.getD A true,?_,?_,fun k hk => ?_⟩;grind [qV]
 grind [qV,List.filter_congr]
 simp_all
theorem aHM (A:C_ E ops=true):∀ (b:Nat) (L:Array Bool) {M:Mem} {B:aS} {σ:ASt} {a:Act} {w:World} {K:ASt->Prop} {σ':ASt},L.size=ops.size->(qV ops.size L).length=b->yN ops (fun i=>L.getD i false=true) ->
 Inv E.n M B m σ a.tmps w->rY E ops (qV ops.size L) σ σ'->K σ' ->
 (∀ M' B' C D,K σ'->Good E.n m M B σ a.tmps w M' B' σ' C.tmps D->C.defers=a.defers->T .normal C D)->wpAny E.P .any ops T b L a w:=by
 obtain ⟨g,F⟩:=bUC A;have G:∀ (L:Array Bool),L.size=ops.size->Region.ready .any ops L = []->qV ops.size L = []:=by
  intro L y h;cases hu:qV ops.size L with
  | nil=>rfl
  | cons i l =>
   exfalso;have H:i∈qV ops.size L:=by rw[hu]; simp
   obtain ⟨r,h2⟩:=RP.1 H;have d:ops[i]? = some ops[i]:=Array.getElem?_eq_getElem r;have t:∀ k,k<i->L.getD k true=true:=fun k hk=>by grind [qV,List.filter_sublist,List.pairwise_lt_range]
   have:i∈Region.ready .any ops L:=TL.2 ⟨h2,_,d,fun e he I=>by have J:=g i _ d e he I;have:=t _ J;grind⟩;rw[h] at this; cases this
 intro b;induction b with
 | zero =>
  intro L M B σ a w K σ' y c _ z u hk N;have f:qV ops.size L = []:=qg c;rw[f] at u;have:σ=σ':=u;subst this;refine ⟨?_,N M B a w hk (Good.refl z) rfl⟩;cases hr:Region.ready .any ops L with
  | nil=>rfl
  | cons i l =>
   exfalso;have O:i∈Region.ready .any ops L:=by rw[hr]; simp
   obtain ⟨r,o,d,_⟩:=TL.1 O;have:i∈qV ops.size L:=RP.2 ⟨(zf.1 d).1,r⟩;rw[f] at this; cases this
 | succ b ih =>
  intro L M B σ a w K σ' y c S z u hk N;refine ⟨fun h=>by rw[G L y h] at c; simp at c,fun i O => ?_⟩;obtain ⟨r,o,d,hd⟩:=TL.1 O;have U:=(zf.1 d).1;obtain ⟨p,q,V,u2,u3⟩:=b_Z y U r;rw[V] at u;obtain ⟨b4,s1,s2⟩:=aIE d p q z.iQ u fun k b5 ok b3=>by
   have X:k∈qV ops.size L:=by rw[V]; simp_all
   obtain ⟨k1,k2⟩:=RP.1 X;grind
  refine aZ2 z d s1 fun v M' B' D hG => ?_
  refine ih (L.setIfInBounds i true) (by grind) (by rw[u2]; rw[V] at c; grind) (fun j oj hj Y e he I => ?_) hG.inv (by rw[u2]; exact s2) hk fun M2 B2 a2 w2 Z b0 b1=>N M2 B2 a2 w2 Z (hG.trans b0) (by rw[b1,Act.IE])
  by_cases b2:i=j;grind [getD_set_true]
  .have x:(L.setIfInBounds i true).getD j false=true:=Y;rw[getD_set_ne false b2] at x;exact getD_set_true (S j oj hj x e he I)
def a7F (E:AE) (g:FuncId) (args:ai) (a:Option Nat) (K:ASt->Prop) (σ:ASt):Prop:=(∃ r,Ev E.P g args [] r []/\r.flat=true/\PV.flats args=true/\jZ E a r σ K)\/(dw E.sy a=true/\∃ r h',Ev E.P g args σ.h r h'/\Fe E h' σ.h/\jZ E a r { σ with h:=h' } K)
def DI (E:AE) (o:Oper) (K:ASt->Prop) (σ:ASt):Prop :=
 match BV o with
 | some (f,args)=>(match σ.rd f,kQ (args.map σ.rd) with
  | some (.func (.func g) first a),some b=>a7F E g (first ++ b ++ a) o.dst K σ
  | _,_=>False)
 | none=>zO E o K σ
def uF (E:AE) (ops:Array Oper):List Oper->(ASt->Prop)->ASt->Prop
 | [],Q,σ=>Q σ
 | o::l,Q,σ =>
  match o.guard with
  | none=>DI E o (uF E ops l Q) σ
  | some (j,a)=>match BU ops σ j with
   | some none=>jZ E o.dst (.tuple []) σ (uF E ops l Q)
   | some (some b)=>(b=a->DI E o (uF E ops l Q) σ)/\(b≠a->jZ E o.dst (.tuple []) σ (uF E ops l Q))
   | none=>False
def YP (E:AE) (ops:Array Oper) (K:ASt->Prop) (σ:ASt):Prop:=C_ E ops=true/\uF E ops ops.toList K σ
theorem XP {K:ASt->Prop} (h:jZ E f p σ K):∃ σ',ASt.put E f p σ=some σ'/\K σ':=by grind [jZ]
theorem aHW {K:ASt->Prop} (h:DI E o K σ):∃ σ',IL E o σ σ'/\K σ':=by
 unfold DI at h;unfold IL;split at h
 .rename_i f args l;split at h
  .rename_i g first a e i j
   rcases h with ⟨r,a1,a2,a3,a4⟩|⟨b,r,h',a1,c,a4⟩
   .obtain ⟨σ',a5,a6⟩:=XP a4;exact ⟨σ',⟨g,first,a,e,r,i,j,.inl ⟨a1,a2,a3,a5⟩⟩,a6⟩
   .obtain ⟨σ',a5,a6⟩:=XP a4;exact ⟨σ',⟨g,first,a,e,r,i,j,.inr ⟨b,h',a1,c,a5⟩⟩,a6⟩
  simp_all
 .rename_i l;unfold zO at h;split at h
  .rename_i p d m;obtain ⟨σ',a5,a6⟩:=XP h.2;exact ⟨σ',⟨p,d,m,h.1,a5⟩,a6⟩
  simp_all
theorem a6Z {K:ASt->Prop}:∀ (l:List Oper) (k:Nat) {σ:ASt},(∀ j,l[j]? = ops[k+j]?)->uF E ops l K σ->∃ σ',rY E ops (List.range' k l.length) σ σ'/\K σ'
 | [],k,σ,_,h=>⟨σ,rfl,h⟩
 | o::l,k,σ,g,h=>by
  have n:ops[k]? = some o:=by have:=g 0; simp_all
  have i:∀ a,mf E ops o σ a->uF E ops l K a->∃ σ',rY E ops (List.range' k (o::l).length) σ σ'/\K σ':=fun a c d=>by obtain ⟨σ',p,q⟩:=a6Z l (k+1) (fun j=>by have:=g (j+1); grind) d;exact ⟨σ',by rw[bT,aFY]; exact ⟨o,n,a,c,p⟩,q⟩
  have run:sS ops σ o=some true->DI E o (uF E ops l K) σ->∃ σ',rY E ops (List.range' k (o::l).length) σ σ'/\K σ':=fun e h=>by obtain ⟨a,c,d⟩:=aHW h;exact i a (.inl ⟨e,c⟩) d
  have skip:sS ops σ o=some false->jZ E o.dst (.tuple []) σ (uF E ops l K)->∃ σ',rY E ops (List.range' k (o::l).length) σ σ'/\K σ':=fun e h=>by obtain ⟨a,c,d⟩:=XP h;exact i a (.inr ⟨e,c⟩) d
  rw[uF] at h;split at h
  grind [sS]
  .rename_i j f e;split at h
   grind [sS]
   .rename_i b hv;by_cases m:b=f;grind [sS]
    .exact skip (by simp[sS,e,hv,m]) (h.2 m)
   simp_all
theorem a_D (r:E.P.follows .mixedOrders=true) {id:Nat} {K:ASt->Prop} (t:Inv E.n I J m σ O.tmps S) (h:YP E ops K σ)
 (u:∀ σ' d e b c,K σ'->Good E.n m I J σ O.tmps S d e σ' b.tmps c->b.defers=O.defers->T .normal b c):(Code.region id ops true).wp E.P T O S:=by
 obtain ⟨f,h⟩:=h;obtain ⟨σ',v,hk⟩:=a6Z ops.toList 0 (fun j=>by simp) h;have p:=t.drew;have q:qV ops.size (Array.replicate ops.size false)=List.range' 0 ops.toList.length:=by unfold qV;rw[List.filter_eq_self.2 (fun i x=>by have:=E_.1 x; simp[this]),aFZ]; simp
 refine wp_region_any r ?_;refine aHM f ops.size (Array.replicate ops.size false) (K:=K) (σ':=σ') (by simp) (by rw[q]; simp) (fun j o _ h => ?_) p.1 (by rw[q]; exact v) hk fun d e b c g y l=>u σ' d e b c g (p.2.trans y) l
 have h':(Array.replicate ops.size false).getD j false=true:=h;simp[Array.getElem?_replicate] at h';split at h'<;>simp at h'
end
def TP (E:AE) (a:Array Oper) (d:ASt->Prop):Nat->Array Bool->ASt->Prop
 | 0,L,c=>Region.ready .any a L = []/\d c
 | fuel+1,L,c=>(Region.ready .any a L = []->d c)/\∀ i,i∈Region.ready .any a L->∃ o,a[i]? = some o/\∃ b,mf E a o c b/\TP E a d fuel (L.setIfInBounds i true) b
def aIM (j:Nat) (o:Oper):Bool:=o.after.toList.any fun e=>Region.binds .any e&&e.on==j
def a8G (E:AE) (a:Array Oper) (L:Array Bool) (j:Nat):Bool:=match a[j]? with
 | none=>false
 | some o=>(qV a.size L).all fun k=>k==j||(match a[k]? with | none=>false | some b=>aIM j b||MM E a o b)
def JM (E:AE) (a:Array Oper) (L:Array Bool):List Nat->Option Nat
 | []=>none
 | j::l=>match a8G E a L j with | true=>some j | false=>JM E a L l
def LY (E:AE) (a:Array Oper) (d:ASt->Prop):Nat->Array Bool->ASt->Prop
 | 0,L,c=>Region.ready .any a L = []/\d c
 | fuel+1,L,c=>(Region.ready .any a L = []->d c)/\∀ i,i∈(match JM E a L (Region.ready .any a L) with | some j => [j] | none=>Region.ready .any a L)->∃ o,a[i]? = some o/\∃ b,mf E a o c b/\LY E a d fuel (L.setIfInBounds i true) b
section
variable {E:AE} {ops:Array Oper} {Kp:ASt->Prop}
def aG3 {d:ASt->Prop} (b:∀ a,Kp a->d a):∀ (fuel:Nat) {L:Array Bool} {a:ASt},LY E ops Kp fuel L a->LY E ops d fuel L a
 | 0,L,a,h=>⟨h.1,b a h.2⟩
 | fuel+1,L,a,h=>⟨fun e=>b a (h.1 e),fun i f=>by obtain ⟨o,g,c,j,l⟩:=h.2 i f;exact ⟨o,g,c,j,aG3 b fuel l⟩⟩
def a6U {c:Nat->Nat} {Q:Exit->Act->World->Prop}:∀ (fuel:Nat) (L:Array Bool) {M:Mem} {B:aS} {b:ASt} {a:Act} {w:World},Inv E.n M B c b a.tmps w->TP E ops Kp fuel L b ->
 (∀ d r t j l,Kp d->Good E.n c M B b a.tmps w r t d j.tmps l->j.defers=a.defers->Q .normal j l)->wpAny E.P .any ops Q fuel L a w
 | 0,L,M,B,b,a,w,f,h,g=>⟨h.1,g b M B a w h.2 (Good.refl f) rfl⟩
 | fuel+1,L,M,B,b,a,w,f,h,g=>by
  refine ⟨fun e=>g b M B a w (h.1 e) (Good.refl f) rfl,fun i x => ?_⟩;obtain ⟨o,y,z,A,C⟩:=h.2 i x;refine aZ2 f y A fun v r t l u => ?_
  exact a6U fuel _ u.inv C fun m D F a3 w3 p q G=>g m D F a3 w3 p (u.trans q) (by rw[G,Act.IE])
def aK4 {L:Array Bool} {j:Nat}:∀ {l:List Nat},JM E ops L l=some j->j∈l/\a8G E ops L j=true
 | [],h=>by cases h
 | i::l,h=>by
  unfold JM at h;split at h
  .rename_i a; cases h; exact ⟨by simp,a⟩
  .have:=aK4 h; exact ⟨by simp[this.1],this.2⟩
variable {i A:Nat}
theorem bZB {L:Array Bool}:(L.setIfInBounds i true).setIfInBounds A true=(L.setIfInBounds A true).setIfInBounds i true:=by grind
theorem aDN {L:Array Bool} (b:i∈Region.ready .any ops L) (a:i≠A):i∈Region.ready .any ops (L.setIfInBounds A true):=by obtain ⟨c,o,d,f⟩:=TL.1 b;refine TL.2 ⟨?_,o,d,fun e he g=>getD_set_true (f e he g)⟩;rw[getD_set_ne true (Ne.symm a)]; exact c
theorem b_Y {L:Array Bool} {k:Nat} (h:k∈qV i (L.setIfInBounds A true)):k∈qV i L:=by obtain ⟨a,c⟩:=RP.1 h;refine RP.2 ⟨a,?_⟩;by_cases b:A=k;simp_all;simp_all
theorem b4X {o:Oper} (F:ops[i]? = some o):∀ (b:Nat) {L:Array Bool} {h c:ASt},ji h.s->i∈Region.ready .any ops L->(∀ k,k∈qV ops.size L->k≠i->∀ p,ops[k]? = some p->aIM i p=true\/MM E ops o p=true) ->
 mf E ops o h c->TP E ops Kp b (L.setIfInBounds i true) c->TP E ops Kp (b+1) L h:=by
 intro b;induction b with
 | zero =>
  intro L h c y g w z q;refine ⟨fun e=>(by rw[e] at g; cases g),fun a n => ?_⟩;by_cases d:a=i;grind
  .have l:=aDN n d;rw[q.1] at l; cases l
 | succ b G =>
  intro L h c y g w z q;refine ⟨fun e=>(by rw[e] at g; cases g),fun a n => ?_⟩;by_cases d:a=i;grind
  .obtain ⟨A,f,x,H,I⟩:=q.2 a (aDN n d);obtain ⟨r,B,m,t⟩:=TL.1 n;rw[f] at m; cases m;have u:=(w a (RP.2 ⟨(zf.1 f).1,r⟩) d A f).resolve_left fun C=>by obtain ⟨e,he,v⟩:=List.any_eq_true.1 C;simp only[bH,qG] at v;have D:=t e (by grind) v.1;rw[v.2] at D;have h6:=(TL.1 g).1;grind
   grind [aIN,mf.iQ,aDN,b_Y,bZB]
def YH:∀ (fuel:Nat) {L:Array Bool} {a:ASt},ji a.s->LY E ops Kp fuel L a->TP E ops Kp fuel L a
 | 0,L,a,_,h=>h
 | fuel+1,L,a,e,h=>by
  unfold LY at h;cases f:JM E ops L (Region.ready .any ops L) with
  | some j =>rw[f] at h;obtain ⟨p,c⟩:=aK4 f;obtain ⟨o,d,q,b,g⟩:=h.2 j (by simp);unfold a8G at c;rw[d] at c;simp only[ja,EN,qG] at c;refine b4X d fuel e p (fun k hk l t m => ?_) b (YH fuel (b.iQ e) g);have:=(c k hk).resolve_left l;rw[m] at this;exact (EN _ _).mp this
  | none =>rw[f] at h;refine ⟨h.1,fun i r => ?_⟩;obtain ⟨o,d,n,b,g⟩:=h.2 i r;exact ⟨o,d,n,b,YH fuel (b.iQ e) g⟩
theorem a_F {o:Oper} {d:ASt} (h:uF E ops [o] Kp d):∃ a,mf E ops o d a/\Kp a:=by
 have run:sS ops d o=some true->DI E o Kp d->∃ a,mf E ops o d a/\Kp a:=fun c h=>by obtain ⟨e,i,l⟩:=aHW h;exact ⟨e,.inl ⟨c,i⟩,l⟩
 have skip:sS ops d o=some false->jZ E o.dst (.tuple []) d Kp->∃ a,mf E ops o d a/\Kp a:=fun c h=>by obtain ⟨e,i,l⟩:=XP h;exact ⟨e,.inr ⟨c,i⟩,l⟩
 rw[uF] at h;split at h
 .rename_i c; exact run (by simp[sS,c]) h
 .rename_i j f c;split at h
  .rename_i hv; exact skip (by simp[sS,c,hv]) h
  .rename_i b hv;by_cases g:b=f
   .exact run (by simp[sS,c,hv,g]) (h.1 g)
   .exact skip (by simp[sS,c,hv,g]) (h.2 g)
  simp_all
end
def aHV (E:AE) (a:Array Oper) (K:ASt->Prop) (b:ASt):Prop:=YP E a K b\/LY E a K a.size (Array.replicate a.size false) b
variable {b3:Array Oper} {K:ASt->Prop}
theorem a_B (p:d.P.follows .mixedOrders=true) {b:Nat->Nat} {M:Mem} {B:aS} {a:Act} {w:World} {id:Nat} {Q:Exit->Act->World->Prop} (q:Inv d.n M B b e a.tmps w) (h:aHV d b3 K e)
 (r:∀ c i j f g,K c->Good d.n b M B e a.tmps w i j c f.tmps g->f.defers=a.defers->Q .normal f g):(Code.region id b3 true).wp d.P Q a w:=by
 rcases h with h | h
 grind [a_D]
 .have l:=q.drew;exact wp_region_any p (a6U b3.size _ l.1 (YH _ l.1.iQ h) fun m i j f g hk t o=>r m i j f g hk (l.2.trans t) o)
inductive AX where
 | normal
 | ret
 | exit (id:Nat)
def AX.toExit:AX->Exit
 | .normal => .normal
 | .ret => .ret
 | .exit i => .exit i
def ASt.keep (l:List Nat) (a:ASt):ASt := { a with s:=a.s.filter fun b=>l.contains b.1 }
def wE (a:List (Nat×List Nat)):gV->gV
 | [] => []
 | (k,p)::l=>(match a.lookup k with | some z=>(k,p.Ap z) | none=>(k,p))::wE a l
def aC1 (a:List Nat) (p:PV) (h:aH):aH:=match p with
 | .ptr i 0=>(match h[i]? with | some (some b)=>h.set i (some (zJ a b)) | _=>h)
 | _=>h
def aBY (s:gV):List (Nat×List Nat)->aH->aH
 | [],h=>h
 | (k,a)::l,h=>aBY s l (match cu k s with | some p=>aC1 a p h | none=>h)
def ASt.head (E:AE) (a:ASt):ASt:=⟨wE E.sz (a.keep E.vars).s,aBY (wE E.sz (a.keep E.vars).s) E.pt a.h⟩
def ASt.gc (l:List Nat) (m:Nat) (a:ASt):ASt:=⟨a.s.filter fun b=>l.contains b.1,a.h.take m⟩
def F7 (l:List Nat) (m:Nat) (a:ASt):Bool:=(a.gc l m).s.all (fun b=>b.2.blw m)&&BK m (a.gc l m).h
def Eo (K:ASt->Prop) (Q:AX->ASt->Prop):AX->ASt->Prop
 | .normal,a=>K a
 | e,a=>Q e a
def mX (a:Nat) (b:ai) (n:Nat):ai:=match a with
 | 1=>(b.take n).map PV.un
 | _=>(List.range n).map fun j => .agg (((b.drop (j*a)).take a).map PV.un)
def ZL (k:Nat) (a:ASt):ASt:=match cu k a.s with
 | some (.slh i 0 n b)=>(match a.h[i]? with
  | some (some c)=>(match decide (n*b<=c.length)&&decide (0<b)&&c.all fun p=>p.one&&p.flat with
   | true=>⟨iy k (.sl false b (mX b c n)) a.s,a.h.set i none⟩
   | false=>a)
  | _=>a)
 | _=>a
def a8H (k:Nat) (a:ASt):ASt:=match cu k a.s with
 | some (.slh i 0 n 1)=>(match a.h[i]? with
  | some (some b)=>(match Nat.beq b.length n&&b.all fun p=>p.one&&p.flat with
   | true=>⟨iy k (.sl true 1 (b.map PV.un)) a.s,a.h.set i none⟩
   | false=>a)
  | _=>a)
 | _=>a
def SI (k:Nat) (a:ASt):ASt:=match cu k a.s with
 | some (.iI true n b c)=>(match Nat.ble 1 n with
  | true=>⟨iy k (.slh a.h.length 0 n b) a.s,a.h ++ [some c]⟩
  | false=>⟨iy k (.sl false b []) a.s,a.h⟩)
 | _=>a
def XQ (k j:Nat) (a:ASt):ASt:=match cu k a.s with
 | some (.ptr i 0)=>(match a.h[i]? with
  | some (some b)=>(match b[j]? with
   | some (.iI true n c d)=>(match Nat.ble 1 n with
    | true=>⟨a.s,a.h.set i (some (b.set j (.slh a.h.length 0 n c))) ++ [some d]⟩
    | false=>⟨a.s,a.h.set i (some (b.set j (.sl false c [])))⟩)
   | _=>a)
  | _=>a)
 | _=>a
def ZI (k j:Nat) (a:ASt):ASt:=match cu k a.s with
 | some (.ptr d 0)=>(match a.h[d]? with
  | some (some b)=>(match b[j]? with
   | some (.slh i 0 n c)=>(match a.h[i]? with
    | some (some e)=>(match decide (n*c<=e.length)&&decide (0<c)&&e.all (fun p=>p.one&&p.flat) && !Nat.beq i d with
     | true=>⟨a.s,(a.h.set i none).set d (some (b.set j (.sl false c (mX c e n))))⟩
     | false=>a)
    | _=>a)
   | _=>a)
  | _=>a)
 | _=>a
def ZK (k:Nat) (a:ASt):ASt:=match cu k a.s with
 | some (.ptr i 0)=>(match a.h[i]? with
  | some (some b)=>(match decide (0<b.length)&&b.all fun p=>p.one&&p.flat with
   | true=>⟨iy k (.cst ((mX b.length b 1).headD .nilp)) a.s,a.h.set i none⟩
   | false=>a)
  | _=>a)
 | _=>a
def xy (k:Nat) (a:ASt):ASt:=match Nat.ble 9000000 k with
 | true=>ZK (k-9000000) a
 | false=>match Nat.ble 5000000 k with
 | true=>ZI ((k-5000000) / 100) ((k-5000000) % 100) a
 | false=>match Nat.ble 4000000 k with
 | true=>XQ ((k-4000000) / 100) ((k-4000000) % 100) a
 | false=>match Nat.ble 3000000 k with
 | true=>SI ((k-3000000) % 500000) a
 | false=>match Nat.ble 1000000 k with
  | true=>ZL (k-1000000) a
  | false=>a8H k a
def zA:List Nat->ASt->ASt
 | [],a=>a
 | k::b,a=>zA b (xy k a)
def jA (c:Nat) (K:ASt->Prop) (a:ASt):Prop:=∃ b,K (zA b a)\/∃ l m,c<=m/\F7 l m (zA b a)=true/\K ((zA b a).gc l m)
def PX (id:Nat) (Q:AX->ASt->Prop):AX->ASt->Prop
 | .exit i,a=>if i=id then Q .normal a else Q (.exit i) a
 | e,a=>Q e a
def OA (b:Nat) (a:(AX->ASt->Prop)->ASt->Prop) (Q:AX->ASt->Prop):Nat->ASt->Prop
 | 0,_=>False
 | n+1,c=>∃ l m,b<=m/\F7 l m c=true/\a (Eo (OA b a Q n) Q) (c.gc l m)
def aS' (b:Nat) (a:(AX->ASt->Prop)->ASt->Prop) (Q:AX->ASt->Prop) (c:ASt):Prop:=∃ n,OA b a Q n c
def eu (E:AE) (d:Nat):Code->(AX->ASt->Prop)->ASt->Prop
 | .skip,Q,a=>Q .normal a
 | .region _ e f,Q,a=>if f then aHV E e (Q .normal) (a.head E) else mV E e e.toList (Q .normal) (a.head E)
 | .seq x y,Q,a=>eu E d x (Eo (jA d (eu E d y Q)) Q) a
 | .cond c x y,Q,a=>match a.rd c with
  | some (.bool b)=>(b=true->eu E d x Q a)/\(b=false->eu E d y Q a)
  | _=>False
 | .block id x,Q,a=>eu E d x (PX id Q) a
 | .loop x,Q,a=>aS' d (eu E d x) Q a
 | .exit id,Q,a=>Q (.exit id) a
 | .ret,Q,a=>Q .ret a
 | .scope x,Q,a=>eu E d x Q a
 | .label _,Q,a=>Q .normal a
 | .rangeFunc _ _ _ _,_,_=>False
 | .goto _,_,_=>False
 | .refuse _,_,_=>False
structure dS (n:Nat) (out:Nat->Nat) (m0:Nat) (M:Mem) (B:aS) (σ:ASt) (t:Array Value) (w:World) (M':Mem) (B':aS) (σ':ASt) (t':Array Value) (w':World):Prop where
 inv:Inv n M' B' out σ' t' w'
 mem:∀ (b o:Nat) (v:Value),M b o=some v->M' b o=some v
 pre:∀ (i:Nat) (c:Nat×Nat×TypeId),i<m0->B[i]? = some c->B'[i]? = some c
 fr:Fr (fp B σ t w) M w M' w'
 own:∀ b,b<w.heap.size->fp B' σ' t' w' b<=fp B σ t w b
section
variable {n:Nat} {out:Nat->Nat} {m0:Nat} {M M1 M2:Mem} {B B1 B2:aS} {σ σ1 σ2:ASt} {t t1 t2:Array Value} {w w1 w2:World} {E:AE}
def dS.trans (h:dS n out m0 M B σ t w M1 B1 σ1 t1 w1) (k:dS n out m0 M1 B1 σ1 t1 w1 M2 B2 σ2 t2 w2):dS n out m0 M B σ t w M2 B2 σ2 t2 w2 :=⟨k.inv,fun b o v e=>k.mem b o v (h.mem b o v e),fun i c d e=>k.pre i c d (h.pre i c d e),h.fr.trans k.fr (fun b a f=>by have:=h.own b a; omega),fun b a=>lD (k.own b (TJ a h.fr.size)) (h.own b a)⟩
def Good.c (h:Good n out M B σ t w M1 B1 σ1 t1 w1):dS n out m0 M B σ t w M1 B1 σ1 t1 w1:=⟨h.inv,h.le.mem,fun i c _ e=>h.le.blk i c e,h.fr,h.own⟩
def dS.refl (h:Inv n M B out σ t w):dS n out m0 M B σ t w M B σ t w:=(Good.refl h).c
theorem aC2 (f:Nat×PV->Bool) (b:Nat):∀ s:gV,jR (s.filter f) t b<=jR s t b
 | []=>dG _
 | (k,p)::l=>by have:=aC2 f b l;rw[List.filter_cons];grind [jR]
theorem a4U (f:Nat->Bool) {k:Nat} {p:PV}:∀ {s:gV},cu k (s.filter fun a=>f a.1)=some p->cu k s=some p
 | [],h=>by simp_all
 | (j,q)::l,h=>by
  rw[List.filter_cons] at h;split at h
  .rw[cu] at h ⊢;split at h
   simp_all
   .rename_i e; rw[aV e]; exact a4U f h
  .rename_i c;have:=a4U f h;rw[cu];split
   .rename_i e; subst e;have b:=a4V h;rw[List.mem_filter] at b;simp_all
   omega
def aC0 (m b:Nat):∀ (h:aH) (B:aS),aT w (h.take m) (B.take m) b<=aT w h B b:=by
 induction m with
 | zero=>intro h B; simp[aT]
 | succ m a =>
  intro h B;cases h with
  | nil=>simp[aT]
  | cons x h =>
   cases B with
   | nil=>cases x<;>simp[aT]
   | cons c B =>have:=a h B;cases x<;>simp only[List.take_succ_cons,aT]<;>omega
theorem bRC (a:Inv n M B out σ t w) (l:List Nat):Good n out M B σ t w M B (σ.keep l) t w:=by
 have c:∀ b,fp B (σ.keep l) t w b<=fp B σ t w b:=fun b=>by have:=aC2 (t:=t) (fun d=>l.contains d.1) b σ.s;grind [fp,ASt.keep]
 exact ⟨⟨a.size,a.mem,List.Pairwise.sublist List.filter_sublist a.iQ,fun k p e=>a.slots k p (a4U (fun k=>l.contains k) e),a.heap,fun b=>by have:=c b; have:=a.cnt b; omega,fun b f=>by have:=c b; have:=a.new b f; omega⟩,eH.refl _ _,Fr.refl _ _ _,fun b _=>c b⟩
theorem Wp {k:Nat} {p:PV} {b:Nat} (hk:k<t.size) (c:ji σ.s):jR (iy k p σ.s) t b+qQ σ.s t k b=jR σ.s t b+bY p (t.getD k undef) b:=by
 have a:t.setIfInBounds k (t.getD k undef)=t:=by apply Array.ext (by simp);intro i d e;by_cases h:k=i;simp_all;simp_all
 have:=Wq (p:=p) (v:=t.getD k undef) (b:=b) hk c;rwa [a] at this
theorem FV {b:Nat}:∀ {h:aH} {B:aS} {i:Nat} {cs:ai} {c:Nat×Nat×TypeId},h[i]? = some (some cs)->B[i]? = some c->aT w (h.set i none) B b+((if c.1=b then 1 else 0)+fG cs (iO w c.1) b)=aT w h B b
 | [],_,_,_,_,h,_=>by simp at h
 | _::_,[],_,_,_,_,h=>by simp at h
 | some f::h,d::B,0,cs,c,a,e=>by grind [aT]
 | none::h,d::B,0,cs,c,a,e=>by simp at a
 | some f::h,d::B,i+1,cs,c,a,e=>by have:=FV (b:=b) (h:=h) (B:=B) (i:=i) (cs:=cs) (c:=c) (by grind) (by grind); grind [aT]
 | none::h,d::B,i+1,cs,c,a,e=>by have:=FV (b:=b) (h:=h) (B:=B) (i:=i) (cs:=cs) (c:=c) (by grind) (by grind); grind [aT]
theorem b4Y (a:Inv n M B out σ t w) (k:Nat):∃ g,dS n out m0 M B σ t w g B (a8H k σ) t w:=by
 unfold a8H;split;case h_2=>exact ⟨M,dS.refl a⟩
 rename_i i m hk;split;case h_2=>exact ⟨M,dS.refl a⟩
 rename_i C N;split;case h_2=>exact ⟨M,dS.refl a⟩
 rename_i F;simp only[bH,ja] at F;obtain ⟨S,G⟩:=F;have hm:C.length=m:=pI S;obtain ⟨H,I,_⟩:=a.slots k _ hk;obtain ⟨c,T,⟨O,U⟩,hv,b5,b2⟩:=uT.1 I;obtain ⟨vs,ty,r1,o2,o3,o4,o5⟩:=a.heap.at N O;obtain ⟨ty,rfl,o1⟩:=Ff r1 (by rw[o2.2]; exact U);have V:k<t.size:=by rw[a.size]; exact H
 have b3:1<=aT w σ.h B c.1:=by have:=lY (w:=w) c.1 N O;grind
 obtain ⟨g,r⟩:∃ g:Mem,∀ b o,g b o=if b=c.1 then (if o<m then vs[o]? else none) else M b o:=⟨Dk _ _,FQ (VZ o5)⟩
 have d:eH M g B B:=⟨fun b o v h=>by
  have:b≠c.1:=fun e=>by simp_all
  rw[r]; simp_all,fun _ _ h=>h⟩
 have u:∀ b,b≠c.1->∀ o,g b o=M b o:=fun b h o=>by rw[r]; simp_all
 have D:∀ o,w.cell? ⟨c.1,o,none⟩=vs[o]? := fun o=>by simp[World.cell?,o1]
 have hS:=fun b=>Wp (t:=t) (p := .sl true 1 (C.map PV.un)) (b:=b) V a.iQ
 have hH:=fun b=>FV (w:=w) (b:=b) N O
 have X:∀ b,bY (.sl true 1 (C.map PV.un)) (t.getD k undef) b=if c.1=b then 1 else 0:=fun b=>by rw[hv]; rfl
 have E:∀ b,fp B ⟨iy k (.sl true 1 (C.map PV.un)) σ.s,σ.h.set i none⟩ t w b<=fp B σ t w b:=fun b=>by have Y:=hS b;have h2:=hH b;rw[X] at Y;simp only[fp]; omega
 have Z:∀ b,1<=jR σ.s t b->b≠c.1:=fun b h e=>by subst e;have:=a.cnt c.1;grind [fp]
 have Qh:∀ (j:Nat) e,(C.map PV.un)[j]? = some e->Loc g [] e c.1 (0+j*1):=fun j e he=>by
  rw[lN] at he;cases x:C[j]? with
  | none=>rw[x] at he; cases he
  | some q =>
   rw[x] at he;cases he;obtain ⟨v,b6,hr,_,_⟩:=o4 j q x;have f:j<m:=by rw[<- hm]; grind
   have hq:=G q (qh x);have Y:g c.1 (0+j*1)=some v:=by rw[r]; simp_all
   have z:q.isAgg=false/\∀ ds,q ≠ .tuple ds:=by have:=hq.1;cases q<;>first | (simp[PV.one] at this; done) | exact ⟨rfl,fun ds h=>by cases h⟩
   rw[aBD,Aa z.1 z.2];exact ⟨v,Y,eU.flat [] hq.2 (hr.mono d)⟩
 refine ⟨g,⟨⟨a.size,fun b o v h => ?_,EF a.iQ,fun j p f => ?_,⟨by simp[a.heap.1],fun i' J y => ?_⟩,fun b=>by have:=E b; have:=a.cnt b; omega,fun b F=>by have:=E b; have:=a.new b F; omega⟩,d.mem,fun _ _ _ h=>h,⟨rfl,rfl,rfl,dG _,fun b F h0=>⟨rfl,fun o=>u b (fun e=>by grind [fp]) o⟩⟩,fun b _=>E b⟩⟩
 .by_cases e:b=c.1
  .subst e;rw[r] at h;simp only[CQ] at h;split at h
   .rename_i ho;rw[D];refine ⟨h,?_⟩;obtain ⟨q,hq⟩:∃ q,C[o]? = some q:=⟨_,jq (by omega)⟩;grind
   .cases h
  .rw[u b e] at h; exact a.mem b o v h
 .rw[EE j a.iQ] at f;split at f
  .rename_i e; subst e; injection f with f; subst f
   refine ⟨H,?_,?_⟩
   .rw[hv];refine jo.2 ⟨some ⟨c.1,0,none⟩,T,by simp[hm],by simp_all,fun e he => ?_,(fun h=>by cases h),fun _=>⟨c.1,0,rfl,Ac Qh⟩⟩;obtain ⟨q,hq,rfl⟩:=zh.1 he;have:=(G q hq).1;rw[aFG];cases q<;>first | (simp[PV.one] at this; done) | rfl
   .refine SK (fun l h=>by cases h) ?_;intro sz es A n' b4 e1 e2;rw[hv] at e2;grind
  .rename_i b7;obtain ⟨s1,s2,s3⟩:=a.slots j p f;refine ⟨s1,s2.mono d,s3.kept fun b ho=>⟨rfl,u b (Z b ?_)⟩⟩;have:=FW (s:=σ.s) (t:=t) (k:=j) (b:=b);grind [qQ]
 .have K:i'≠i:=fun e=>by grind
  simp only at y;rw[rO (Ne.symm K)] at y;obtain ⟨Q,L,a',b0,q1,q2,q3,q4,q5⟩:=a.heap.2 i' J y;have b1:∀ b,1<=(if Q.1=b then 1 else 0)+fG J (iO w Q.1) b->b≠c.1:=fun b h e=>by subst e;have h2:=FV (w:=w) (b:=c.1) N O;have h3:=lY (w:=w) (h:=σ.h.set i none) c.1 (by rw[rO (Ne.symm K)]; exact y) L;have:=a.cnt c.1;grind [fp]
  refine ⟨Q,L,a',b0,q1,q2,q3,fun j p f => ?_,fun o => ?_⟩
  .obtain ⟨v,a1,a2,a3,a4⟩:=q4 j p f;refine ⟨v,a1,a2.mono d,a3.kept fun b ho=>⟨rfl,u b (b1 b ?_)⟩,a4⟩;have:=yF b f (by rw[rW q1]; grind:(iO w Q.1)[j]? = some v);omega
  simp_all
variable {L:ai}
theorem Yn {a n:Nat} (x:0<a) (y:n*a<=L.length) (m:∀ p,p∈L->p.one=true):(mX a L n).length=n/\(∀ e,e∈mX a L n->e.size=a) /\
 ∀ (M:Mem) (b:Nat),(∀ (j:Nat) p,L[j]? = some p->j<n*a->Loc M [] p b j)->lS M [] a (mX a L n) b 0:=by
 by_cases h:a=1
 .subst h;have e:mX 1 L n=(L.take n).map PV.un:=rfl;rw[e];refine ⟨by simp; omega,fun e he => ?_,fun M b o=>Ac fun j p c => ?_⟩
  .obtain ⟨q,hq,rfl⟩:=zh.1 he;have:=m q (TD hq);rw[aFG];cases q<;>first | (simp[PV.one] at this; done) | rfl
  grind [aBD]
 .have e:mX a L n=(List.range n).map fun j => .agg (((L.drop (j*a)).take a).map PV.un):=by grind [mX]
  rw[e];have t:∀ j,j<n->j*a+a<=L.length:=fun j c=>by have:(j+1)*a<=n*a:=wO _ c;rw[LQ] at this; omega
  refine ⟨by simp,fun e he => ?_,fun M b o=>Ac fun j p c => ?_⟩;grind [PV.size]
  .rw[lN] at c;cases hq:(List.range n)[j]? with
   | none=>simp_all
   | some q =>
    obtain ⟨d,f⟩:=iY.1 hq;simp at d f;subst f;rw[hq] at c; injection c with c; subst c
    refine zI.2 (Gm fun k r g => ?_);rw[lN] at g;cases i:((L.drop (j*a)).take a)[k]? with
    | none=>simp_all
    | some v =>simp[i] at g; subst g;have hk:=(iY.1 i).1;simp at hk;rw[nN,ah (by omega),Xe] at i;have l:=m v (qh i);have:=o (j*a+k) v i (by have:(j+1)*a<=n*a:=wO _ d;rw[LQ] at this; omega);obtain ⟨u,w,g⟩:=(DZ l).1 this;exact ⟨u,by rw[rP]; exact w,qB.2 g⟩
theorem b52 (a:Inv n M B out σ t w) (k:Nat):∃ u,dS n out m0 M B σ t w u B (ZL k σ) t w:=by
 unfold ZL;split;case h_2=>exact ⟨M,dS.refl a⟩
 rename_i i m z hk;split;case h_2=>exact ⟨M,dS.refl a⟩
 rename_i N J;split;case h_2=>exact ⟨M,dS.refl a⟩
 rename_i A;simp only[bH,ja,pJ] at A;obtain ⟨⟨O,Q⟩,C⟩:=A;obtain ⟨D,E,_⟩:=a.slots k _ hk;obtain ⟨c,S,⟨K,T⟩,hv,U,b0⟩:=uT.1 E;obtain ⟨vs,ty,r1,o2,o3,o4,o5⟩:=a.heap.at J K;obtain ⟨ty,rfl,o1⟩:=Ff r1 (by rw[o2.2]; exact T);have V:k<t.size:=by rw[a.size]; exact D
 have b1:1<=aT w σ.h B c.1:=by have:=lY (w:=w) c.1 J K;grind
 obtain ⟨u,f⟩:∃ u:Mem,∀ b o,u b o=if b=c.1 then (if o<m*z then vs[o]? else none) else M b o:=⟨Dk _ _,FQ (VZ o5)⟩
 have d:eH M u B B:=⟨fun b o v h=>by
  have:b≠c.1:=fun e=>by simp_all
  rw[f]; simp_all,fun _ _ h=>h⟩
 have g:∀ b,b≠c.1->∀ o,u b o=M b o:=fun b h o=>by rw[f]; simp_all
 have x:∀ o,w.cell? ⟨c.1,o,none⟩=vs[o]? := fun o=>by simp[World.cell?,o1]
 obtain ⟨k1,k2,k3⟩:=Yn Q O fun p hp=>(C p hp).1
 have hH:=fun b=>FV (w:=w) (b:=b) J K
 have hS:=fun b=>Wp (t:=t) (p := .sl false z (mX z N m)) (b:=b) V a.iQ
 have y:∀ b,fp B ⟨iy k (.sl false z (mX z N m)) σ.s,σ.h.set i none⟩ t w b<=fp B σ t w b:=fun b=>by have h1:=hS b;have h2:=hH b;rw[ed rfl] at h1;simp only[fp]; omega
 have X:∀ b,1<=jR σ.s t b->b≠c.1:=fun b h e=>by subst e;have:=a.cnt c.1;grind [fp]
 refine ⟨u,⟨⟨a.size,fun b o v h => ?_,EF a.iQ,fun j p l => ?_,⟨by simp[a.heap.1],fun i' F r => ?_⟩,fun b=>by have:=y b; have:=a.cnt b; omega,fun b A=>by have:=y b; have:=a.new b A; omega⟩,d.mem,fun _ _ _ h=>h,⟨rfl,rfl,rfl,dG _,fun b A h0=>⟨rfl,g b (fun e=>by grind [fp])⟩⟩,fun b _=>y b⟩⟩
 .by_cases e:b=c.1
  .subst e;rw[f] at h;simp only[CQ] at h;split at h
   .rename_i ho;rw[x];refine ⟨h,?_⟩;obtain ⟨q,hq⟩:∃ q,N[o]? = some q:=⟨_,jq (by omega)⟩;grind
   .cases h
  .rw[g b e] at h; exact a.mem b o v h
 .rw[EE j a.iQ] at l;split at l
  .rename_i e; subst e; injection l with l; subst l
   refine ⟨D,?_,gU rfl⟩;rw[hv];refine jo.2 ⟨some ⟨c.1,0,none⟩,S,by rw[k1],by rw[k1]; exact U,k2,(fun h=>by omega),fun _=>⟨c.1,0,rfl,k3 u c.1 fun j q hq b2 => ?_⟩⟩;obtain ⟨v,b3,hr,_,_⟩:=o4 j q hq;have G:=C q (qh hq);refine (DZ G.1).2 ⟨v,?_,eU.flat [] G.2 (hr.mono d)⟩;rw[f]; simp_all
  .rename_i b4;obtain ⟨s1,s2,s3⟩:=a.slots j p l;refine ⟨s1,s2.mono d,s3.kept fun b ho=>⟨rfl,g b (X b ?_)⟩⟩;have:=FW (s:=σ.s) (t:=t) (k:=j) (b:=b);grind [qQ]
 .have H:i'≠i:=fun e=>by grind
  simp only at r;rw[rO (Ne.symm H)] at r;obtain ⟨L,I,Y,Z,q1,q2,q3,q4,q5⟩:=a.heap.2 i' F r;have a':∀ b,1<=(if L.1=b then 1 else 0)+fG F (iO w L.1) b->b≠c.1:=fun b h e=>by subst e;have h2:=FV (w:=w) (b:=c.1) J K;have h3:=lY (w:=w) (h:=σ.h.set i none) c.1 (by rw[rO (Ne.symm H)]; exact r) I;have:=a.cnt c.1;grind [fp]
  refine ⟨L,I,Y,Z,q1,q2,q3,fun j p l => ?_,fun o => ?_⟩
  .obtain ⟨v,a1,a2,a3,a4⟩:=q4 j p l;refine ⟨v,a1,a2.mono d,a3.kept fun b ho=>⟨rfl,g b (a' b ?_)⟩,a4⟩;have:=yF b l (by rw[rW q1]; grind:(iO w L.1)[j]? = some v);omega
  simp_all
theorem b4' (a:Inv n M B out σ t w) (k:Nat):∃ f,dS n out m0 M B σ t w f B (ZK k σ) t w:=by
 unfold ZK;split;case h_2=>exact ⟨M,dS.refl a⟩
 rename_i i hk;split;case h_2=>exact ⟨M,dS.refl a⟩
 rename_i z K;split;case h_2=>exact ⟨M,dS.refl a⟩
 rename_i A;simp only[bH,ja,pJ] at A;obtain ⟨C,D⟩:=A;generalize b0:z.length=L at C ⊢;have Q:1*L<=z.length:=by omega
 obtain ⟨E,F,_⟩:=a.slots k _ hk;obtain ⟨c,⟨N,S⟩,hv⟩:=xH.1 F;obtain ⟨Z,ty,r1,o2,o3,o4,o5⟩:=a.heap.at K N;obtain ⟨ty,rfl,o1⟩:=Ff r1 (by rw[o2.2]; exact S);have T:k<t.size:=by rw[a.size]; exact E
 have a':1<=aT w σ.h B c.1:=by have:=lY (w:=w) c.1 K N;grind
 obtain ⟨f,g⟩:∃ f:Mem,∀ b o,f b o=if b=c.1 then (if o<1*L then Z[o]? else none) else M b o:=⟨Dk _ _,FQ (VZ o5)⟩
 have d:eH M f B B:=⟨fun b o v h=>by
  have:b≠c.1:=fun e=>by simp_all
  rw[g]; simp_all,fun _ _ h=>h⟩
 have l:∀ b,b≠c.1->∀ o,f b o=M b o:=fun b h o=>by rw[g]; simp_all
 have u:∀ o,w.cell? ⟨c.1,o,none⟩=Z[o]? := fun o=>by simp[World.cell?,o1]
 obtain ⟨k1,k2,k3⟩:=Yn C Q fun p hp=>(D p hp).1
 obtain ⟨x,hx⟩:∃ x,mX L z 1 = [x]:=by
  match hh:mX L z 1,k1 with
  | [x],_=>simp
 rw[hx] at k3 ⊢;show ∃ f,dS n out m0 M B σ t w f B ⟨iy k (.cst x) σ.s,σ.h.set i none⟩ t w;have hH:=fun b=>FV (w:=w) (b:=b) K N
 have hS:=fun b=>Wp (t:=t) (p := .cst x) (b:=b) T a.iQ
 have y:∀ b,fp B ⟨iy k (.cst x) σ.s,σ.h.set i none⟩ t w b<=fp B σ t w b:=fun b=>by have h1:=hS b;have h2:=hH b;rw[ed rfl] at h1;simp only[fp]; omega
 have U:∀ b,1<=jR σ.s t b->b≠c.1:=fun b h e=>by subst e;have:=a.cnt c.1;grind [fp]
 refine ⟨f,⟨⟨a.size,fun b o v h => ?_,EF a.iQ,fun j p m => ?_,⟨by simp[a.heap.1],fun i' G r => ?_⟩,fun b=>by have:=y b; have:=a.cnt b; omega,fun b A=>by have:=y b; have:=a.new b A; omega⟩,d.mem,fun _ _ _ h=>h,⟨rfl,rfl,rfl,dG _,fun b A h0=>⟨rfl,l b (fun e=>by grind [fp])⟩⟩,fun b _=>y b⟩⟩
 .by_cases e:b=c.1
  .subst e;rw[g] at h;simp only[CQ] at h;split at h
   .rename_i ho;rw[u];refine ⟨h,?_⟩;obtain ⟨q,hq⟩:∃ q,z[o]? = some q:=⟨_,jq (by omega)⟩;grind
   .cases h
  .rw[l b e] at h; exact a.mem b o v h
 .rw[EE j a.iQ] at m;split at m
  .rename_i e; subst e; injection m with m; subst m
   refine ⟨E,?_,gU rfl⟩;rw[hv];refine Bo.2 ⟨c.1,0,rfl,(RH.1 (k3 f c.1 fun j q hq b1 => ?_)).1⟩;obtain ⟨v,b2,hr,_,_⟩:=o4 j q hq;have H:=D q (qh hq);refine (DZ H.1).2 ⟨v,?_,eU.flat [] H.2 (hr.mono d)⟩;rw[g]; simp_all
  .rename_i b3;obtain ⟨s1,s2,s3⟩:=a.slots j p m;refine ⟨s1,s2.mono d,s3.kept fun b ho=>⟨rfl,l b (U b ?_)⟩⟩;have:=FW (s:=σ.s) (t:=t) (k:=j) (b:=b);grind [qQ]
 .have I:i'≠i:=fun e=>by grind
  simp only at r;rw[rO (Ne.symm I)] at r;obtain ⟨O,J,V,X,q1,q2,q3,q4,q5⟩:=a.heap.2 i' G r;have Y:∀ b,1<=(if O.1=b then 1 else 0)+fG G (iO w O.1) b->b≠c.1:=fun b h e=>by subst e;have h2:=FV (w:=w) (b:=c.1) K N;have h3:=lY (w:=w) (h:=σ.h.set i none) c.1 (by rw[rO (Ne.symm I)]; exact r) J;have:=a.cnt c.1;grind [fp]
  refine ⟨O,J,V,X,q1,q2,q3,fun j p m => ?_,fun o => ?_⟩
  .obtain ⟨v,a1,a2,a3,a4⟩:=q4 j p m;refine ⟨v,a1,a2.mono d,a3.kept fun b ho=>⟨rfl,l b (Y b ?_)⟩,a4⟩;have:=yF b m (by rw[rW q1]; grind:(iO w O.1)[j]? = some v);omega
  simp_all
theorem aST (h:p.lit=true):p.own=false:=by cases p<;>first | rfl | (simp[PV.lit] at h)
theorem aUZ {a:List Value} {b:Nat} (h:∀ p,p∈L->p.own=false):fG L a b=0:=by
 induction L generalizing a with
 | nil=>cases a<;>rfl
 | cons p L c =>
  cases a with
  | nil=>rfl
  | cons u a=>rw[fG,ed (h p (by simp)),c fun q hq=>h q (by simp[hq])]
theorem aV2 {q:PV} {v:Value} {b:Nat} (hq:q.own=false):∀ (d:ai) (a:List Value) (j:Nat),d[j]? = some p->a[j]? = some v->fG (d.set j q) a b+bY p v b=fG d a b:=by
 intro d;induction d with
 | nil=>simp
 | cons c d e =>
  intro a j g f;cases a with
  | nil=>simp at f
  | cons u a =>
   cases j with
   | zero=>grind [fG,ed]
   | succ j=>have:=e a j (by grind) (by grind); grind [fG]
theorem aB' {a:ai} {c:Nat×Nat×TypeId} {k b:Nat} (hk:fG a (iO w c.1) b+k=fG L (iO w c.1) b):∀ (h:aH) (B:aS) (i:Nat),h[i]? = some (some L)->B[i]? = some c->aT w (h.set i (some a)) B b+k=aT w h B b:=by
 intro h;induction h with
 | nil=>simp
 | cons x h g =>
  intro B i f e;cases B with
  | nil=>simp at e
  | cons d B =>
   cases i with
   | zero=>grind [aT]
   | succ i =>simp at f e;have:=g B i f e;cases x<;>simp only[List.set_cons_succ,aT]<;>omega
def aXH {M:Mem} {w:World} {k b:Nat} {v:Value} (r:eU M B (.iI true k b L) v) (t:Tl M w (.iI true k b L) v) (hk:1<=k) :
 ∃ g a c d,v = .slice (some ⟨g,0,none⟩) k a/\k<=a/\w.heap[g]? = some (.cells c d (0,0))/\a*b<=c.size/\L.length=k*b/\0<b/\(∀ (j:Nat) p,L[j]? = some p->p.lit=true/\∃ u,c[j]? = some u/\eU Nc [] p u/\u.oneCell'=true)/\∀ o,M g o=none:=by
 obtain ⟨A,a,f,e⟩:=II.1 r;obtain ⟨⟨x,y⟩,z,C⟩:=t.p _ _ _ _ _ _ rfl f;cases A with
 | none=>have:=z rfl; omega
 | some h =>obtain ⟨c,d,i,D,E,l,m,n⟩:=C h rfl;obtain ⟨g,F,q⟩:=h;simp only at i l m n;subst m; subst n;exact ⟨g,a,c,d,f,e,i,D,x,y,E,l⟩
def aXG {M:Mem} {w:World} {k a:Nat} {v:Value} (d:eU M B (.iI true k a L) v) (e:Tl M w (.iI true k a L) v) (hk:k=0):eU M B (.sl false a []) v:=by obtain ⟨A,b,c,f⟩:=II.1 d;obtain ⟨⟨g,i⟩,j,l⟩:=e.p _ _ _ _ _ _ rfl c;subst hk;exact jo.2 ⟨A,b,c,Io _,by simp,fun h=>by omega,by simp⟩
theorem b'P (a:Inv n M B out σ t w) (k:Nat):∃ U,dS n out m0 M B σ t w M U (SI k σ) t w:=by
 unfold SI;split;case h_2=>exact ⟨B,dS.refl a⟩
 rename_i m C Q hk;obtain ⟨r,o,S⟩:=a.slots k _ hk;have y:k<t.size:=by rw[a.size]; exact r
 split
 .rename_i D;have D:=TG D;obtain ⟨g,E,u,x,hv,z,V,X,Y,r4,r5,Z⟩:=aXH o S D;have A:σ.h.length=B.length:=a.heap.1;have l:eH M M B (B ++ [(g,u.size,x+1)]):=⟨fun _ _ _ h=>h,fun i c h=>by rw[vJ (iY.1 h).1]; exact h⟩;have T:∀ p,p∈Q->p.own=false:=fun p hp=>by obtain ⟨j,d⟩:=zg.1 hp;grind [aST]
  have f:∀ b,fp (B ++ [(g,u.size,x+1)]) ⟨iy k (.slh σ.h.length 0 m C) σ.s,σ.h ++ [some Q]⟩ t w b=fp B σ t w b:=fun b=>by have F:=Wp (t:=t) (p := .slh σ.h.length 0 m C) (b:=b) y a.iQ;rw[ed rfl,qQ,hk] at F;grind [bY,PV.own,fp,Rh,aUZ]
  refine ⟨B ++ [(g,u.size,x+1)],⟨⟨a.size,a.mem,EF a.iQ,fun j p d => ?_,⟨by simp[A],fun i G q => ?_⟩,fun b=>by rw[f]; exact a.cnt b,fun b H=>by rw[f]; exact a.new b H⟩,fun _ _ _ h=>h,fun i c _ h=>l.blk i c h,Fr.refl _ _ _,fun b _=>by rw[f]; omega⟩⟩
  .rw[EE j a.iQ] at d;split at d
   .rename_i e; subst e; injection d with d; subst d
    exact ⟨r,by rw[hv]; exact uT.2 ⟨(g,u.size,x+1),E,⟨by rw[A]; simp,by simp⟩,rfl,z,by grind⟩,gU rfl⟩
   .obtain ⟨s1,s2,s3⟩:=a.slots j p d;exact ⟨s1,s2.mono l,s3⟩
  .rcases zk i σ.h.length with I | J
   .simp only at q;rw[vJ I] at q;obtain ⟨c,hc,K,L,q1,q2,q3,q4,q5⟩:=a.heap.2 i G q;exact ⟨c,l.blk _ _ hc,K,L,q1,q2,q3,fun j p d=>by obtain ⟨v,a1,a2,a3,a4⟩:=q4 j p d; exact ⟨v,a1,a2.mono l,a3,a4⟩,q5⟩
   .simp only at q;rw[Il J] at q;have:i-σ.h.length=0:=by grind
    rw[this] at q;simp at q; subst q;have N:i=B.length:=by omega
    subst N;refine ⟨(g,u.size,x+1),by simp,u,x+1,E8 V,⟨rfl,rfl⟩,?_,fun j p d => ?_,Z⟩
    .rw[Y]; exact lD (wO _ z) X
    grind [aSR,gU]
 .rename_i D;have O:m=0:=by grind [Nat.ble_eq_true_of_le]
  have f:∀ b,fp B ⟨iy k (.sl false C []) σ.s,σ.h⟩ t w b<=fp B σ t w b:=fun b=>by have F:=Wp (t:=t) (p := .sl false C []) (b:=b) y a.iQ;rw[ed rfl] at F;simp only[fp]; omega
  refine ⟨B,⟨⟨a.size,a.mem,EF a.iQ,fun j p d => ?_,a.heap,fun b=>by have:=f b; have:=a.cnt b; omega,fun b H=>by have:=f b; have:=a.new b H; omega⟩,fun _ _ _ h=>h,fun i c _ h=>h,Fr.refl _ _ _,fun b _=>f b⟩⟩;rw[EE j a.iQ] at d;split at d
  .rename_i e; subst e; injection d with d; subst d
   exact ⟨r,aXG o S O,gU rfl⟩
  .exact a.slots j p d
theorem b'O (f:Inv n M B out σ t w) (k j:Nat):∃ B',dS n out m0 M B σ t w M B' (XQ k j σ) t w:=by
 unfold XQ;split;case h_2=>exact ⟨B,dS.refl f⟩
 rename_i i hk;split;case h_2=>exact ⟨B,dS.refl f⟩
 rename_i o S;split;case h_2=>exact ⟨B,dS.refl f⟩
 rename_i m I V x;obtain ⟨c,F,J,K,o1,o2,o3,o4,o5⟩:=f.heap.2 i o S;obtain ⟨v,L,z,hT,A⟩:=o4 j _ x;have D:σ.h.length=B.length:=f.heap.1;have N:=(iY.1 S).1;have O:∀ (q:PV) (b:Nat),q.own=false->fG (o.set j q) (iO w c.1) b+bY (.iI true m I V) v b=fG o (iO w c.1) b:=fun q b hq=>by rw[rW o1]; grind [aV2]
 split
 .rename_i T;have T:=TG T;obtain ⟨g,X,G,H,hv,Q,r1,r2,r3,r4,r5,r6⟩:=aXH z hT T;have e:eH M M B (B ++ [(g,G.size,H+1)]):=⟨fun _ _ _ h=>h,fun i c h=>by rw[vJ (iY.1 h).1]; exact h⟩;have b4:∀ p,p∈V->p.own=false:=fun p hp=>by obtain ⟨j,x⟩:=zg.1 hp;grind [aST]
  have l:∀ b,fp (B ++ [(g,G.size,H+1)]) ⟨σ.s,σ.h.set i (some (o.set j (.slh σ.h.length 0 m I))) ++ [some V]⟩ t w b=fp B σ t w b:=fun b=>by have h1:=aB' (O (.slh σ.h.length 0 m I) b rfl) σ.h B i S F;grind [bY,PV.own,fp,Rh,aUZ]
  refine ⟨B ++ [(g,G.size,H+1)],⟨⟨f.size,f.mem,f.iQ,fun j p x => ?_,⟨by simp[D],fun C E a => ?_⟩,fun b=>by rw[l]; exact f.cnt b,fun b Y=>by rw[l]; exact f.new b Y⟩,fun _ _ _ h=>h,fun i c _ h=>e.blk i c h,Fr.refl _ _ _,fun b _=>by rw[l]; omega⟩⟩
  .obtain ⟨s1,s2,s3⟩:=f.slots j p x;exact ⟨s1,s2.mono e,s3⟩
  .simp only at a;rcases zk C σ.h.length with Z | a'
   .rw[vJ (by rw[LJ]; exact Z)] at a;by_cases r:C=i
    .subst r;rw[BC N] at a;injection a with a; injection a with a; subst a
     refine ⟨c,e.blk _ _ F,J,K,o1,o2,by rw[LJ]; exact o3,fun U p d => ?_,o5⟩;by_cases y:j=U
     .subst y;rw[BC (iY.1 x).1] at d;injection d with d; subst d
      exact ⟨v,L,by rw[hv]; exact uT.2 ⟨(g,G.size,H+1),X,⟨by rw[D]; simp,by simp⟩,rfl,Q,by grind⟩,gU rfl,A⟩
     .rw[rO y] at d;obtain ⟨u,a1,a2,a3,a4⟩:=o4 U p d;exact ⟨u,a1,a2.mono e,a3,a4⟩
    .rw[rO (Ne.symm r)] at a;obtain ⟨c,F,b0,b1,q1,q2,q3,q4,q5⟩:=f.heap.2 C E a;exact ⟨c,e.blk _ _ F,b0,b1,q1,q2,q3,fun j p x=>by obtain ⟨v,a1,a2,a3,a4⟩:=q4 j p x; exact ⟨v,a1,a2.mono e,a3,a4⟩,q5⟩
   .rw[Il (by rw[LJ]; exact a'),LJ] at a;have:C-σ.h.length=0:=by grind
    rw[this] at a;simp at a; subst a;have b2:C=B.length:=by omega
    subst b2;refine ⟨(g,G.size,H+1),by simp,G,H+1,E8 r1,⟨rfl,rfl⟩,?_,fun j p x => ?_,r6⟩
    .rw[r3]; exact lD (wO _ Q) r2
    grind [aSR,gU]
 .rename_i T;have b3:m=0:=by grind [Nat.ble_eq_true_of_le]
  have l:∀ b,fp B ⟨σ.s,σ.h.set i (some (o.set j (.sl false I [])))⟩ t w b<=fp B σ t w b:=fun b=>by have h1:=aB' (O (.sl false I []) b rfl) σ.h B i S F;simp only[fp]; omega
  refine ⟨B,⟨⟨f.size,f.mem,f.iQ,f.slots,⟨by simp[D],fun C E a => ?_⟩,fun b=>by have:=l b; have:=f.cnt b; omega,fun b Y=>by have:=l b; have:=f.new b Y; omega⟩,fun _ _ _ h=>h,fun i c _ h=>h,Fr.refl _ _ _,fun b _=>l b⟩⟩;simp only at a;by_cases r:C=i
  .subst r;rw[BC N] at a;injection a with a; injection a with a; subst a
   refine ⟨c,F,J,K,o1,o2,by rw[LJ]; exact o3,fun U p d => ?_,o5⟩;by_cases y:j=U
   .subst y;rw[BC (iY.1 x).1] at d;injection d with d; subst d
    exact ⟨v,L,aXG z hT b3,gU rfl,A⟩
   simp_all
  .rw[rO (Ne.symm r)] at a;exact f.heap.2 C E a
theorem b4Z (d:Inv n M B out σ t w) (k j:Nat):∃ D,dS n out m0 M B σ t w D B (ZI k j σ) t w:=by
 unfold ZI;split;case h_2=>exact ⟨M,dS.refl d⟩
 rename_i O hk;split;case h_2=>exact ⟨M,dS.refl d⟩
 rename_i r I;split;case h_2=>exact ⟨M,dS.refl d⟩
 rename_i i m Q E;split;case h_2=>exact ⟨M,dS.refl d⟩
 rename_i cs hi;split;case h_2=>exact ⟨M,dS.refl d⟩
 rename_i S;simp only[bH,ja,pJ,Ij] at S;obtain ⟨⟨⟨a',b0⟩,T⟩,c3⟩:=S;have F:i≠O:=fun e=>by simp_all
 obtain ⟨c2,J,U,b1,p1,p2,p3,p4,p5⟩:=d.heap.2 O r I;obtain ⟨v,b2,V,_,X⟩:=p4 j _ E;obtain ⟨c,b3,⟨hc,b4⟩,hv,b5,c0⟩:=uT.1 V;obtain ⟨vs,ty,r1,o2,o3,o4,o5⟩:=d.heap.at hi hc;obtain ⟨ty,rfl,o1⟩:=Ff r1 (by rw[o2.2]; exact b4);have c1:1<=aT w σ.h B c.1:=by have:=lY (w:=w) c.1 hi hc;grind
 obtain ⟨D,z⟩:∃ D:Mem,∀ b o,D b o=if b=c.1 then (if o<m*Q then vs[o]? else none) else M b o:=⟨Dk _ _,FQ (VZ o5)⟩
 have f:eH M D B B:=⟨fun b o v h=>by
  have:b≠c.1:=fun e=>by simp_all
  rw[z]; simp_all,fun _ _ h=>h⟩
 have x:∀ b,b≠c.1->∀ o,D b o=M b o:=fun b h o=>by rw[z]; simp_all
 have K:∀ o,w.cell? ⟨c.1,o,none⟩=vs[o]? := fun o=>by simp[World.cell?,o1]
 obtain ⟨k1,k2,k3⟩:=Yn b0 a' fun p hp=>(T p hp).1
 have hH:=fun b=>FV (w:=w) (b:=b) hi hc
 have b6:(σ.h.set i none)[O]? = some (some r):=by rw[rO F]; exact I
 have b7:∀ b,fG (r.set j (.sl false Q (mX Q cs m))) (iO w c2.1) b+bY (.slh i 0 m Q) v b=fG r (iO w c2.1) b:=fun b=>by rw[rW p1]; exact aV2 rfl r U.toList j E (by simp_all)
 have L:∀ b,fp B ⟨σ.s,(σ.h.set i none).set O (some (r.set j (.sl false Q (mX Q cs m))))⟩ t w b<=fp B σ t w b:=fun b=>by have h1:=aB' (b7 b) (σ.h.set i none) B O b6 J;have h2:=hH b;simp only[fp]; omega
 have b8:∀ b,1<=jR σ.s t b->b≠c.1:=fun b h e=>by subst e;have:=d.cnt c.1;grind [fp]
 have l:∀ {G:Nat} {y:ai} {N:Nat×Nat×TypeId} {b:Nat},G≠i->σ.h[G]? = some (some y)->B[G]? = some N->1<=(if N.1=b then 1 else 0)+fG y (iO w N.1) b->b≠c.1:=fun {G y N b} A a C h e=>by subst e;have h2:=FV (w:=w) (b:=c.1) hi hc;have h3:=lY (w:=w) (h:=σ.h.set i none) c.1 (by rw[rO (Ne.symm A)]; exact a) C;have:=d.cnt c.1;grind [fp]
 refine ⟨D,⟨⟨d.size,fun b o v h => ?_,d.iQ,fun j p E => ?_,⟨by simp[d.heap.1],fun G y a => ?_⟩,fun b=>by have:=L b; have:=d.cnt b; omega,fun b S=>by have:=L b; have:=d.new b S; omega⟩,f.mem,fun _ _ _ h=>h,⟨rfl,rfl,rfl,dG _,fun b S h0=>⟨rfl,x b (fun e=>by grind [fp])⟩⟩,fun b _=>L b⟩⟩
 .by_cases e:b=c.1
  .subst e;rw[z] at h;simp only[CQ] at h;split at h
   .rename_i ho;rw[K];refine ⟨h,?_⟩;obtain ⟨q,hq⟩:∃ q,cs[o]? = some q:=⟨_,jq (by omega)⟩;grind
   .cases h
  .rw[x b e] at h; exact d.mem b o v h
 .obtain ⟨s1,s2,s3⟩:=d.slots j p E;refine ⟨s1,s2.mono f,s3.kept fun b ho=>⟨rfl,x b (b8 b ?_)⟩⟩;have:=FW (s:=σ.s) (t:=t) (k:=j) (b:=b);grind [qQ]
 .by_cases H:G=O
  .subst H;simp only at a;rw[BC (by rw[LJ]; grind)] at a;injection a with a; injection a with a; subst a
   refine ⟨c2,J,U,b1,p1,p2,by rw[LJ]; exact p3,fun j' p g => ?_,fun o => ?_⟩
   .by_cases Y:j=j'
    .subst Y;rw[BC (iY.1 E).1] at g;injection g with g; subst g
     refine ⟨v,b2,?_,gU rfl,X⟩;rw[hv];refine jo.2 ⟨some ⟨c.1,0,none⟩,b3,by rw[k1],by rw[k1]; exact b5,k2,(fun h=>by omega),fun _=>⟨c.1,0,rfl,k3 D c.1 fun j q hq c4 => ?_⟩⟩;obtain ⟨v,c5,hr,_,_⟩:=o4 j q hq;have Z:=T q (qh hq);refine (DZ Z.1).2 ⟨v,?_,eU.flat [] Z.2 (hr.mono f)⟩;rw[z]; simp_all
    .rw[rO Y] at g;obtain ⟨u,a1,a2,a3,a4⟩:=p4 j' p g;refine ⟨u,a1,a2.mono f,a3.kept fun b ho=>⟨rfl,x b (l (Ne.symm F) I J ?_)⟩,a4⟩;have:=yF b g (by rw[rW p1]; grind:(iO w c2.1)[j']? = some u);omega
   grind
  .have A:G≠i:=fun e=>by grind
   simp only at a;rw[rO (Ne.symm H),rO (Ne.symm A)] at a;obtain ⟨N,C,b9,b',q1,q2,q3,q4,q5⟩:=d.heap.2 G y a;refine ⟨N,C,b9,b',q1,q2,q3,fun j p E => ?_,fun o => ?_⟩
   .obtain ⟨v,a1,a2,a3,a4⟩:=q4 j p E;refine ⟨v,a1,a2.mono f,a3.kept fun b ho=>⟨rfl,x b (l A a C ?_)⟩,a4⟩;have:=yF b E (by rw[rW q1]; grind:(iO w N.1)[j]? = some v);omega
   grind
theorem b51 (a:Inv n M B out σ t w) (k:Nat):∃ b c,dS n out m0 M B σ t w b c (xy k σ) t w:=by
 unfold xy;split
 .obtain ⟨b,h⟩:=b4' (m0:=m0) a (k-9000000);grind
 split
 .obtain ⟨b,h⟩:=b4Z (m0:=m0) a ((k-5000000) / 100) ((k-5000000) % 100);grind
 split
 .obtain ⟨c,h⟩:=b'O (m0:=m0) a ((k-4000000) / 100) ((k-4000000) % 100);grind
 split
 .obtain ⟨c,h⟩:=b'P (m0:=m0) a ((k-3000000) % 500000);grind
 split
 .obtain ⟨b,h⟩:=b52 (m0:=m0) a (k-1000000);grind
 .obtain ⟨b,h⟩:=b4Y (m0:=m0) a k;grind
def ZJ:∀ (a:List Nat) {M:Mem} {B:aS} {σ:ASt},Inv n M B out σ t w->∃ d e,dS n out m0 M B σ t w d e (zA a σ) t w
 | [],M,B,_,b=>⟨M,B,dS.refl b⟩
 | k::a,M,B,σ,b=>by obtain ⟨M1,B1,c⟩:=b51 (m0:=m0) b k;obtain ⟨M2,B2,f⟩:=ZJ a c.inv;exact ⟨M2,B2,c.trans f⟩
theorem H9 (a:Inv n M B out σ t w) {l:List Nat} {m:Nat} (L:m0<=m) (f:F7 l m σ=true):dS n out m0 M B σ t w M (B.take m) (σ.gc l m) t w:=by
 unfold F7 at f;simp only[bH,ja] at f;obtain ⟨x,y⟩:=f;have d:∀ b,fp (B.take m) (σ.gc l m) t w b<=fp B σ t w b:=fun b=>by have N:=aC2 (t:=t) (fun z=>l.contains z.1) b σ.s;have O:=aC0 (w:=w) m b σ.h B;grind [fp,ASt.gc]
 refine ⟨⟨a.size,a.mem,List.Pairwise.sublist List.filter_sublist a.iQ,fun k p r => ?_,⟨by simp[ASt.gc,a.heap.1],fun i A e => ?_⟩,fun b=>by have:=d b; have:=a.cnt b; omega,fun b C=>by have:=d b; have:=a.new b C; omega⟩,fun _ _ _ h=>h,fun i c e g=>by rw[nN,ah (by omega)]; exact g,Fr.refl _ _ _,fun b _=>d b⟩
 .obtain ⟨s1,D,E⟩:=a.slots k p (a4U (fun k=>l.contains k) r);exact ⟨s1,D.blw (x _ (a4V r)),E⟩
 .have o:=e;simp only[ASt.gc] at e;rw[nN] at e;split at e
  .rename_i q;obtain ⟨c,g,F,G,o1,H,I,J,K⟩:=a.heap.2 i A e;refine ⟨c,by rw[nN,ah q]; exact g,F,G,o1,H,I,fun j p u => ?_,K⟩;obtain ⟨v,a1,a2,a3,a4⟩:=J j p u;refine ⟨v,a1,a2.blw ?_,a3,a4⟩;have:=ja.1 y _ (qh o);exact YZ.1 this p (qh u)
  .cases e
theorem bY2 (d:List (Nat×List Nat)) (h:ji C):ji (wE d C):=by
 induction C with
 | nil=>exact h
 | cons a l e =>
  obtain ⟨k,p⟩:=a;obtain ⟨g,f⟩:=EG.1 h;have i:∀ (l:gV) (b:Nat×PV),b∈wE d l->∃ c,c∈l/\c.1=b.1:=by
   intro l;induction l with
   | nil=>grind [wE]
   | cons a l e =>grind [wE]
  rw[wE];refine EG.2 ⟨fun b j => ?_,e f⟩;grind
def aX3 {a:List (Nat×List Nat)} {k:Nat} {p:PV}:∀ {s:gV},cu k (wE a s)=some p->∃ q,cu k s=some q/\(p=q\/∃ z,p=q.Ap z)
 | [],h=>by simp[wE,cu] at h
 | (j,q)::l,h=>by
  rw[wE] at h;by_cases e:j=k
  .refine ⟨q,by rw[cu,ah e],?_⟩;split at h<;>(rw[cu,ah e] at h; injection h with h)
   .exact .inr ⟨_,h.symm⟩
   .exact .inl h.symm
  .have h':cu k (wE a l)=some p:=by split at h<;>(rw[cu,aV e] at h; exact h)
   obtain ⟨r,b,c⟩:=aX3 h';exact ⟨r,by rw[cu,aV e]; exact b,c⟩
def aV4 {a:List (Nat×List Nat)} {t:Array Value} {b:Nat}:∀ {s:gV},jR (wE a s) t b=jR s t b
 | []=>rfl
 | (j,q)::l=>by rw[wE];split<;>simp only[jR,aV5,aV4]
theorem bY3 (a:Inv n M B out σ t w) (d:List (Nat×List Nat)):Good n out M B σ t w M B { σ with s:=wE d σ.s } t w:=by
 have c:∀ b,fp B { σ with s:=wE d σ.s } t w b=fp B σ t w b:=fun b=>by simp only[fp,aV4]
 refine ⟨⟨a.size,a.mem,bY2 _ a.iQ,fun k p e => ?_,a.heap,fun b=>by have:=c b; have:=a.cnt b; omega,fun b f=>by have:=c b; have:=a.new b f; omega⟩,eH.refl _ _,Fr.refl _ _ _,fun b _=>by rw[c b]; omega⟩;obtain ⟨q,g,h⟩:=aX3 e;obtain ⟨i,j,l⟩:=a.slots k q g;grind [X7,aY6]
theorem aUW:∀ {b:List Nat} {a:ai} {j:Nat} {p:PV},(zJ b a)[j]? = some p->∃ q,a[j]? = some q/\(p=q\/∃ z,p=q.Js z)
 | [],a,j,p,h=>by cases a<;>exact ⟨p,h,.inl rfl⟩
 | z::b,[],j,p,h=>by simp[zJ] at h
 | z::b,c::a,0,p,h=>by grind [zJ]
 | z::b,c::a,j+1,p,h=>by rw[zJ,Dq] at h; simpa using aUW h
def aUX:∀ (b:List Nat) (a:ai),(zJ b a).length=a.length
 | [],a=>by cases a<;>rfl
 | _::_,[]=>rfl
 | z::b,c::a=>by simp[zJ,aUX b a]
theorem aU':∀ {e:List Nat} {a:ai} {d:List Value} {b:Nat},(∀ (j:Nat) p v,a[j]? = some p->d[j]? = some v->eU M B p v)->fG (zJ e a) d b=fG a d b
 | [],a,d,b,_=>by cases a<;>rfl
 | _::_,[],d,b,_=>rfl
 | z::e,c::a,[],b,_=>by rfl
 | z::e,c::a,v::d,b,h=>by rw[zJ,fG,fG,bUP (M:=M) (B:=B) z (h 0 c v rfl rfl),aU' fun j p u f g=>h (j+1) p u (by grind) (by grind)]
theorem bU9 (e:Inv n M B out σ t w) {i:Nat} (z:σ.h[i]? = some (some L)) (q:List Nat):Good n out M B σ t w M B { σ with h:=σ.h.set i (some (zJ q L)) } t w:=by
 obtain ⟨c,D,A,E,o1,F,G,N,H⟩:=e.heap.2 i L z;have l:∀ (j:Nat) p v,L[j]? = some p->A.toList[j]? = some v->eU M B p v:=fun j p v I hv=>by grind
 have m:∀ b,aT w (σ.h.set i (some (zJ q L))) B b=aT w σ.h B b:=fun b=>by
  have J:∀ (h:aH) (g:aS) (i:Nat),h[i]? = some (some L)->g[i]? = some c->aT w (h.set i (some (zJ q L))) g b=aT w h g b:=by
   intro h;induction h with
   | nil=>simp
   | cons x h O =>
    intro g i u r;cases g with
    | nil=>simp at r
    | cons d g =>
     cases i with
     | zero =>simp at u r; subst u; subst r;simp only[List.set_cons_zero,aT];rw[rW o1,aU' l]
     | succ i =>
      simp at u r;cases x with
      | none=>grind [aT]
      | some Q=>grind [aT]
  simp_all
 have f:∀ b,fp B { σ with h:=σ.h.set i (some (zJ q L)) } t w b=fp B σ t w b:=fun b=>by simp only[fp,m]
 refine ⟨⟨e.size,e.mem,e.iQ,e.slots,⟨by simp[e.heap.1],fun C y a => ?_⟩,fun b=>by rw[f]; exact e.cnt b,fun b K=>by rw[f]; exact e.new b K⟩,eH.refl _ _,Fr.refl _ _ _,fun b _=>by rw[f]; omega⟩;by_cases o:C=i
 .subst o;rw[BC (iY.1 z).1] at a;injection a with a; injection a with a; subst a
  refine ⟨c,D,A,E,o1,F,by rw[aUX]; exact G,fun j p I => ?_,H⟩;grind [aUW,bXV,b'Q]
 .rw[rO (Ne.symm o)] at a;exact e.heap.2 C y a
theorem aUY (s:gV):∀ (l:List (Nat×List Nat)) {σ:ASt},Inv n M B out σ t w->Good n out M B σ t w M B { σ with h:=aBY s l σ.h } t w
 | [],σ,a=>Good.refl a
 | (k,c)::l,σ,a=>by
  have b:Good n out M B σ t w M B { σ with h:=match cu k s with | some p=>aC1 c p σ.h | none=>σ.h } t w:=by
   split
   .rename_i p d;unfold aC1;split
    .rename_i i;split;grind [bU9]
     .exact Good.refl a
    .exact Good.refl a
   .exact Good.refl a
  exact b.trans (aUY s l b.inv)
def OD {E:AE} (b:Inv n M B out σ t w):Good n out M B σ t w M B (σ.head E) t w:=by have hk:=bRC b E.vars;have a:=bY3 hk.inv E.sz;exact (hk.trans a).trans (aUY (wE E.sz (σ.keep E.vars).s) E.pt a.inv)
def x_ (E:AE) (out:Nat->Nat) (m0:Nat) (M:Mem) (B:aS) (σ:ASt) (t:Array Value) (w:World) (d:List Deferred) (Q:AX->ASt->Prop) (e:Exit) (b:Act) (f:World):Prop :=∃ c a g h,e=c.toExit/\Q c a/\b.defers=d/\dS E.n out m0 M B σ t w g h a b.tmps f
def S_ {b:List Deferred} {Q:AX->ASt->Prop} (h:dS E.n out m0 M B σ t w M1 B1 σ1 t1 w1) {e:Exit} {c:Act} {d:World} (k:x_ E out m0 M1 B1 σ1 t1 w1 b Q e c d):x_ E out m0 M B σ t w b Q e c d:=by obtain ⟨f,a,g,i,j,l,m,o⟩:=k;exact ⟨f,a,g,i,j,l,m,h.trans o⟩
theorem xm (u:E.P.follows .mixedOrders=true):∀ (c:Code) {M:Mem} {B:aS} {σ:ASt} {a:Act} {w:World} {Q:AX->ASt->Prop},Inv E.n M B out σ a.tmps w->eu E m0 c Q σ->c.wp E.P (x_ E out m0 M B σ a.tmps w a.defers Q) a w
 | .skip,M,B,σ,a,w,Q,j,h=>wp_skip ⟨.normal,σ,M,B,rfl,h,rfl,dS.refl j⟩
 | .label l,M,B,σ,a,w,Q,j,h=>wp_label ⟨.normal,σ,M,B,rfl,h,rfl,dS.refl j⟩
 | .exit id,M,B,σ,a,w,Q,j,h=>wp_exit ⟨.exit id,σ,M,B,rfl,h,rfl,dS.refl j⟩
 | .ret,M,B,σ,a,w,Q,j,h=>wp_ret ⟨.ret,σ,M,B,rfl,h,rfl,dS.refl j⟩
 | .region id N I,M,B,σ,a,w,Q,j,h=>by
  have hk:=OD (E:=E) j;rw[eu] at h;cases I with
  | false =>simp only[TA,if_false] at h;exact wp_region_list (UE _ hk.inv h fun d p q G H hq g o=>⟨.normal,d,p,q,rfl,hq,o,(hk.trans g).c⟩)
  | true =>simp only[CQ] at h;exact a_B u hk.inv h fun d p q G H hq g o=>⟨.normal,d,p,q,rfl,hq,o,(hk.trans g).c⟩
 | .seq x y,M,B,σ,a,w,Q,j,h=>by
  rw[eu] at h;refine wp_seq (wp_mono (xm u x j h) fun e G H v => ?_);obtain ⟨z,d,p,q,rfl,hq,o,g⟩:=v;cases z with
  | normal =>
   obtain ⟨O,hq⟩:=hq;obtain ⟨M2,B2,S⟩:=ZJ (m0:=m0) O g.inv;have g:=g.trans S;rcases hq with hq | ⟨l,m,A,J,hq⟩
   .exact wp_mono (xm u y g.inv hq) fun e a2 w2 r=>by rw[o] at r; exact S_ g r
   .have t:=g.trans (H9 g.inv A J);exact wp_mono (xm u y t.inv hq) fun e a2 w2 r=>by rw[o] at r; exact S_ t r
  | ret=>exact ⟨.ret,d,p,q,rfl,hq,o,g⟩
  | exit i=>exact ⟨.exit i,d,p,q,rfl,hq,o,g⟩
 | .cond c x y,M,B,σ,a,w,Q,j,h=>by
  rw[eu] at h;split at h
  .rename_i b C;have he:=kw.1 (j.rd _ _ C).1;refine wp_cond_split he (fun C=>xm u x j (h.1 C)) (fun C=>xm u y j (h.2 C))
  simp_all
 | .block id x,M,B,σ,a,w,Q,j,h=>by
  rw[eu] at h;refine wp_block (wp_mono (xm u x j h) fun e G H v => ?_);obtain ⟨z,d,p,q,rfl,hq,o,g⟩:=v;cases z with
  | normal=>exact ⟨.normal,d,p,q,rfl,hq,o,g⟩
  | ret=>exact ⟨.ret,d,p,q,rfl,hq,o,g⟩
  | exit i =>
   simp only[AX.toExit,Exit.inBlock];simp only[PX] at hq;split
   .rename_i e; rw[ah e] at hq; exact ⟨.normal,d,p,q,rfl,hq,o,g⟩
   .rename_i e; rw[aV e] at hq; exact ⟨.exit i,d,p,q,rfl,hq,o,g⟩
 | .scope x,M,B,σ,a,w,Q,j,h=>by rw[eu] at h;refine wp_scope_straight (wp_mono (xm u x j h) fun e G H v => ?_);obtain ⟨z,d,p,q,rfl,hq,o,g⟩:=v;cases z<;>exact ⟨_,d,p,q,rfl,hq,o,g⟩
 | .loop x,M,B,σ,a,w,Q,j,h=>by
  rw[eu] at h;obtain ⟨k,hk⟩:=h;refine wp_loop_rounds k ?_;have K:∀ (k:Nat) (M1:Mem) (B1:aS) (σ1:ASt) (a1:Act) (w1:World),dS E.n out m0 M B σ a.tmps w M1 B1 σ1 a1.tmps w1->a1.defers=a.defers->OA m0 (eu E m0 x) Q k σ1->Code.rounds E.P x (x_ E out m0 M B σ a.tmps w a.defers Q) k a1 w1:=by
   intro k;induction k with
   | zero=>intro M1 B1 σ1 a1 w1 _ _ h; exact h.elim
   | succ k T =>
    intro M1 B1 σ1 a1 w1 g o h;obtain ⟨l,m,A,J,C⟩:=h;have t:=H9 g.inv A J;rw[rounds_succ];refine wp_mono (xm u x t.inv C) fun e G H v => ?_
    obtain ⟨z,d,p,q,rfl,hq,D,L⟩:=v;have F:=(g.trans t).trans L;cases z with
    | normal=>exact T p q d G H F (by rw[D,o]) hq
    | ret=>exact ⟨.ret,d,p,q,rfl,hq,by rw[D,o],F⟩
    | exit i=>exact ⟨.exit i,d,p,q,rfl,hq,by rw[D,o],F⟩
  exact K k M B σ a w (dS.refl j) rfl hk
 | .rangeFunc f U V b,_,_,_,_,_,_,_,h=>by rw[eu] at h; exact h.elim
 | .goto l,_,_,_,_,_,_,_,h=>by rw[eu] at h; exact h.elim
 | .refuse l,_,_,_,_,_,_,_,h=>by rw[eu] at h; exact h.elim
end
def nJ:Nat->ai->gV
 | _,[] => []
 | k,p::a=>(k,p.un)::nJ (k+1) a
def resV (P:Program) (a:ASt):ResultVar->Option PV
 | .tmp t=>cu t a.s
 | .cell t b=>match ti P b,cu t a.s with
  | some I,some q=>(pV false I q a).map (·.1)
  | _,_=>none
def O3 (P:Program) (rs:List ResultVar) (b:Nat) (r:PV) (h':aH) (a:ASt):Prop :=
 b<=h'.length/\a.h.take h'.length=h'/\r.blw h'.length=true/\BK h'.length h'=true /\
  match rs with
  | [x]=>resV P a x=some r
  | rs=>(kQ (rs.map (resV P a))).map (fun c=>PV.tuple (c.map PV.un))=some r
section
variable {n:Nat} {out:Nat->Nat} {m0:Nat} {M:Mem} {B:aS} {σ:ASt} {a:Act} {w:World} {P:Program}
def a4Q (b:Array Value):ResultVar->Sem Value
 | .tmp t=>pure (b.getD t undef)
 | .cell a t=>do loadVar t (<- asAddr (b.getD a undef))
def bY5 (c:Func) (a:Array Value):results c a=(do let b<-c.results.mapM (a4Q a); pure (if h:b.size=1 then b[0] else .tuple b)):=by rfl
theorem aW1 (o:Inv n M B out σ a.tmps w) {x:ResultVar} (h:resV P σ x=some p) :
 ∃ v,(a4Q a.tmps x).run P w = .ok v w/\eU M B p v/\Tl M w p v/\∀ b,bY p v b<=jR σ.s a.tmps b:=by
 cases x with
 | tmp t =>obtain ⟨C,m,E⟩:=o.slots t p h;refine ⟨_,rfl,m,E,fun b => ?_⟩;have:=FW (s:=σ.s) (t:=a.tmps) (k:=t) (b:=b);have h':cu t σ.s=some p:=h;grind [qQ]
 | cell c t =>
  simp only[resV] at h;split at h
  .rename_i I q r hq;cases d:pV false I q σ with
   | none=>grind
   | some u =>
    obtain ⟨D,y⟩:=u;simp[d] at h; subst h;have j:σ.rd (.tmp c)=some q.un:=by simp[ASt.rd,ASt.ev,hq]
    have f:pV false I q.un σ=some (D,y):=by
     have:pV false I q.un σ=pV false I q σ:=by cases q<;>rfl
     rw[this,d]
    obtain ⟨v,C,m⟩:=aBC o r j f;have z:D.own=false:=by
     unfold pV at d;split at d
     grind [rH]
     .split at d
      .split at d
       .split at d
        .cases d; rfl
        .cases d
       grind [rH]
      .cases d
     .cases d
    refine ⟨v,?_,m.rep,m.tl,fun b=>by rw[ed z]; omega⟩;show (do loadVar t (<- asAddr (a.tmps.getD c undef)):Sem Value).run P w=_;have he:a.eval (.tmp c)=a.tmps.getD c undef:=rfl;rw[he] at C;have l:=(o.rd _ _ j).1;rw[he] at l;have F:∃ G,a.tmps.getD c undef = .pointer (some G):=by
     unfold pV at f;split at f
     .rename_i e g; rw[g] at l; obtain ⟨b,A,H,_⟩:=Bo.1 l; simp_all
     .rename_i i A g; rw[g] at l; obtain ⟨cc,_,H⟩:=xH.1 l; simp_all
     .cases f
    grind [Instr.loadAt,Instr.sureAddr,asAddr]
  .cases h
def aW2 (d:Inv n M B out σ a.tmps w):∀ {rs:List ResultVar} {ps:ai},kQ (rs.map (resV P σ))=some ps ->
 ∃ b,(rs.mapM (a4Q a.tmps)).run P w = .ok b w/\au M B ps b
 | [],ps,h=>by simp[kQ] at h; subst h; exact ⟨[],by simp,fA.2 rfl⟩
 | x::rs,ps,h=>by
  have h':=YJ h;cases ps with
  | nil=>simp at h'
  | cons p ps =>
   simp only[wM,List.cons.injEq] at h';obtain ⟨v,e,f,_,_⟩:=aW1 d h'.1;have c:∀ ps:ai,kQ (ps.map some)=some ps:=by
    intro ps; induction ps with
    | nil=>rfl
    | cons a l g=>simp[kQ,g]
   obtain ⟨b,i,j⟩:=aW2 d (rs:=rs) (ps:=ps) (by rw[h'.2]; exact c ps);refine ⟨v::b,?_,dO.2 ⟨v,b,rfl,f,j⟩⟩;rw[List.mapM_cons,nO,e,xU,nO,i]; rfl
variable {b0:Func}
theorem aW6 (i:Inv n M B out σ a.tmps w) {m0:Nat} {h':aH} (m:O3 P b0.results.toList m0 p h' σ) :
 ∃ v,(results b0 a.tmps).run P w = .ok v w/\eU M B p v/\Tl M w p v/\∀ b,bY p v b<=jR σ.s a.tmps b:=by
 obtain ⟨_,_,_,_,c⟩:=m;have f:∀ d:List Value,(b0.results.toList.mapM (a4Q a.tmps)).run P w = .ok d w->(results b0 a.tmps).run P w = .ok (if h:d.toArray.size=1 then d.toArray[0] else .tuple d.toArray) w:=fun d h=>by rw[bY5,Array.mapM_eq_mapM_toList,nO,Sem.run_map,h]; rfl
 split at c
 .rename_i x o;obtain ⟨v,j,g,u,z⟩:=aW1 i c;simp_all
 .rename_i o;obtain ⟨A,e,rfl⟩:=LU.1 c;obtain ⟨d,j,g⟩:=aW2 i e;have q:d.length≠1:=by
   have C:=ou g;have t:=congrArg List.length (YJ e);simp only[bM] at t;intro h;generalize b0.results.toList=L at *;match L with
   | []=>simp_all
   | [x]=>grind
   | x::y::l=>simp_all
  refine ⟨.tuple d.toArray,?_,uU.2 ⟨_,rfl,by simpa using KH g⟩,gU rfl,fun b=>by rw[ed rfl]; omega⟩;rw[f d j,dif_neg (by omega)]
theorem aEH:∀ {args:ai} {k j:Nat} {p:PV},cu j (nJ k args)=some p->∃ i q,j=k+i/\args[i]? = some q/\p=q.un
 | [],_,_,_,h=>by simp[nJ,cu] at h
 | q::c,k,j,p,h=>by
  rw[nJ,cu] at h;split at h
  simp_all
  .obtain ⟨i,a,d,e,b⟩:=aEH h;exact ⟨i+1,a,by omega,by grind,b⟩
def aEI:∀ {args:ai} {k:Nat},ji (nJ k args)/\∀ x,x∈nJ k args->k<=x.1
 | [],k=>⟨by simp[nJ,ji],by simp[nJ]⟩
 | q::c,k=>by
  obtain ⟨d,b⟩:=aEI (args:=c) (k:=k+1);rw[nJ];refine ⟨EG.2 ⟨fun x a=>by have:=b x a; show k<x.1; omega,d⟩,fun x a => ?_⟩;rcases jr.1 a with rfl | a
  .exact dG _
  .have:=b x a; omega
theorem XI {t:Array Value} {b:Nat}:∀ {args:ai} {k:Nat},jR (nJ k args) t b=0
 | [],_=>rfl
 | q::a,k=>by rw[nJ,jR,Rk,XI]
def x9 (p:PV) (z:List Nat×Bool):PV:=match z.2 with | true=>p.Ap z.1 | false=>(p.Ap z.1).un
def a88:List (List Nat×Bool)->ai->ai
 | z::b,p::a=>x9 p z::a88 b a
 | _,a=>a
def xx (a:List (List Nat×Bool)) (r:PV):PV:=match a,r with
 | [],r=>r
 | _,.tuple b => .tuple (a88 a b)
 | z::_,r=>x9 r z
variable {r:Value}
def aJK {z:List Nat×Bool} (h:eU M B p r):eU M B (x9 p z) r:=by
 unfold x9; split
 .exact X7 _ h
 .exact qB.2 (X7 _ h)
def aJL:∀ {c:List (List Nat×Bool)} {a:ai} {b:List Value},au M B a b->au M B (a88 c a) b
 | [],a,b,h=>by cases a<;>exact h
 | z::c,[],b,h=>h
 | z::c,p::a,b,h=>by obtain ⟨u,d,rfl,e,f⟩:=dO.1 h;exact dO.2 ⟨u,d,rfl,aJK e,aJL f⟩
def aJN {a:List (List Nat×Bool)} (h:eU M B p r):eU M B (xx a p) r:=by
 unfold xx; split
 .exact h
 .obtain ⟨b,rfl,c⟩:=uU.1 h;exact uU.2 ⟨b,rfl,aJL c⟩
 .exact aJK h
theorem b4J {z:List Nat×Bool} (a:eU M B p r) (h:Tl M w p r):Tl M w (x9 p z) r:=by grind [x9,aY6,gU,rH]
def aJO {a:List (List Nat×Bool)} (b:eU M B p r) (h:Tl M w p r):Tl M w (xx a p) r:=by
 unfold xx; split
 .exact h
 .exact gU rfl
 .exact b4J b h
theorem aJM {ro:List (List Nat×Bool)} {r:PV} {v:Value} {b:Nat}:bY (xx ro r) v b<=bY r v b:=by
 unfold xx; split;omega
 .rw[ed rfl]; omega
 grind [x9,aV5,Rk]
variable {H:aH} {U:Array Value}
theorem aQG {n:Nat} {args:ai} {out:Nat->Nat} {M:Mem} {B:aS} {w:World} (l:args.length<=n) (c:Ae M w) (a:rQ M B w H) (d:∀ b,aT w H B b+out b<=1) (m:∀ b,w.heap.size<=b->aT w H B b+out b=0)
 (hv:au M B args U.toList):Inv n M B out ⟨nJ 0 args,H⟩ (U ++ Array.replicate (n-U.size) undef) w:=by
 have f:=ou hv;simp only[Array.length_toList] at f;have e:∀ t b,fp B ⟨nJ 0 args,H⟩ t w b=aT w H B b:=fun t b=>by grind [fp,XI]
 refine ⟨by simp; omega,c,aEI.1,fun k p hk => ?_,a,fun b=>by rw[e]; exact d b,fun b r=>by rw[e]; simp_all⟩;obtain ⟨i,q,rfl,hq,rfl⟩:=aEH hk;obtain ⟨v,o,g⟩:=wB hv hq;have u:=(iY.1 hq).1;refine ⟨by omega,?_,gU (rH _)⟩;have j:U[i]? = some v:=by simp_all
 have:(U ++ Array.replicate (n-U.size) undef).getD (0+i) undef=v:=by rw[rP,aFR,IZ (by omega),j]; rfl
 rw[this]; exact qB.2 g
theorem aJR {n:Nat} {h':aH} {args:ai} {out:Nat->Nat} {M V:Mem} {B y:aS} {w f:World} {I:Act} {d:ASt} {ro:List (List Nat×Bool)} (q:rQ M B w H)
 (e:dS n out H.length M B ⟨nJ 0 args,H⟩ U w V y d I.tmps f) (g:O3 P b0.results.toList H.length p h' d):∃ v,(results b0 I.tmps).run P f = .ok v f/\∃ J K,Post H B out M w (xx ro p) h' v J K f:=by
 have z:∀ U b,fp B ⟨nJ 0 args,H⟩ U w b=aT w H B b:=fun U b=>by grind [fp,XI]
 obtain ⟨v,X,l,L,A⟩:=aW6 e.inv g;obtain ⟨Z,N,C,O,_⟩:=g;generalize b1:h'.length=m at *;subst N;have Q:Post H B out M w (xx ro p) (d.h.take m) v V (y.take m) f:=by
  have b2:B.length=H.length:=q.1.symm;have x:=fun b=>aC0 (w:=f) m b d.h y
  have o:∀ b,aT f (d.h.take m) (y.take m) b+bY (xx ro p) v b<=fp y d I.tmps f b:=fun b=>by have:=x b; have:=A b; have:=aJM (ro:=ro) (r:=p) (v:=v) (b:=b); simp only[fp]; omega
  refine ⟨e.inv.mem,⟨e.mem,fun i c F => ?_⟩,e.fr.mono fun b G h0=>by rw[z]; exact h0,⟨by simp[e.inv.heap.1],fun i cs D => ?_⟩,aJN (l.blw C),aJO (l.blw C) L,fun b G => ?_,fun b => ?_,fun b G => ?_⟩
  .have E:=(iY.1 F).1;rw[nN,ah (by omega)];exact e.pre i c (by omega) F
  .have S:=D;rw[nN] at D;split at D
   .rename_i E;obtain ⟨c,F,vs,ty,o1,o2,o3,o4,o5⟩:=e.inv.heap.2 i cs D;refine ⟨c,by rw[nN,ah E]; exact F,vs,ty,o1,o2,o3,fun j a Y => ?_,o5⟩;obtain ⟨u,a1,a2,a3,a4⟩:=o4 j a Y;refine ⟨u,a1,a2.blw ?_,a3,a4⟩;have:=ja.1 O _ (qh S);exact YZ.1 this a (qh Y)
   .cases D
  .have T:=e.own b G; rw[z] at T; grind
  .have T:=e.inv.cnt b; have:=o b; omega
  .have T:=e.inv.new b G; have:=o b; omega
 grind
theorem uB.aBV {D:CP} {c:Code} (A:∀ {b:Array Value} {w:World} {R:Ending->World->Prop},c.wp P (bodyPost P b0 R) { tmps:=b ++ Array.replicate (b0.ntmps-b.size) undef,defers := [] } w->D g b w R) (T:P.follows .mixedOrders=true) (hf:P.funcs[g]? = some b0) (hb:b0.body=some c) (hn:(b0.name != "runtime.NumGoroutine")=true) {args:ai} {h':aH} (j F G:List Nat) (I J lt K:List (Nat×List Nat)) (L:List Nat) (ro:List (List Nat×Bool)) (N:List (Nat×List Nat)) (O Q:List Nat) (m:args.length<=b0.ntmps)
 (U:eu ⟨P,b0.ntmps,j,F,G,I,J,lt,K,L,N,O,Q⟩ H.length c (fun e o=>(match e with | .exit _=>False | _=>True)/\∃ C,O3 P b0.results.toList H.length C h' o/\xx ro C=p) ⟨nJ 0 args,H⟩):uB P D g args H p h':=by
 refine ⟨by grind [m_],fun out M B w b q d t u hv => ?_⟩;have V:=aQG (n:=b0.ntmps) m q d t u hv;refine A (wp_mono (xm (E:=⟨P,b0.ntmps,j,F,G,I,J,lt,K,L,N,O,Q⟩) (out:=out) (a := { tmps:=b ++ Array.replicate (b0.ntmps-b.size) undef,defers := [] }) T c V U) fun e a' w' X => ?_);obtain ⟨Y,o,M',B',rfl,⟨Z,C,x,rfl⟩,S,hG⟩:=X;obtain ⟨v,l,y,z,f⟩:=aJR (ro:=ro) d hG x;cases Y with
 | normal=>exact ⟨S,v,l,v,y,z,rfl,f⟩
 | ret=>exact ⟨S,v,l,v,y,z,rfl,f⟩
 | exit i=>grind
end
def Ev.frame {args:ai} (h:Ev j g args [] p []) (b:p.flat=true) (c:PV.flats args=true) (a:aH):Ev j g args a p a:=h.frame' b c a
theorem a7G {args:ai} (h:Ev d.P g args [] p []) (a:p.flat=true) (b:PV.flats args=true) (hk:jZ d f p e K):UJ d g args f K e:=⟨p,e.h,h.frame a b _,hk⟩
theorem wrap64 {n:Int} (a : -9223372036854775808<=n) (b:n<=9223372036854775807):i64.wrap n=n:=IntWalk.i64_in n ⟨a,b⟩
variable {D:ASt->Prop}
theorem yM (hk:∀ e,K e->D e) (h:jZ d f p e K):jZ d f p e D:=by grind [jZ]
theorem aXO (hk:∀ e,K e->D e) (h:zO d u K e):zO d u D e:=by grind [zO,yM]
theorem aXQ (hk:∀ e,K e->D e) (h:SH d u K e):SH d u D e:=by
 rcases h with h | h
 .exact .inl (aXO hk h)
 .refine .inr ?_;unfold WV at *;split at h
  .exact fun b a=>yM hk (h b a)
  omega
theorem YR (hk:∀ e,K e->D e) (h:xk d u K e):xk d u D e:=by
 unfold xk at *;split
 .rename_i c g;simp only[g] at h;split
  .rename_i f i;simp only[i] at h;split at h
   .rename_i j l;obtain ⟨r,h',a,b⟩:=h;exact ⟨r,h',a,yM hk b⟩
   omega
  grind [aXQ]
 grind [aXQ]
theorem Ee {E:AE} {d:Array Oper} {K g:ASt->Prop} (hk:∀ c,K c->g c):∀ (l:List Oper) {c:ASt},mV E d l K c->mV E d l g c
 | [],c,h=>hk c h
 | o::l,c,h=>by
  rw[mV] at h ⊢;split
  .rename_i f;simp only[f] at h;exact YR (fun c a=>Ee hk l a) h
  .rename_i j i f;simp only[f] at h;split
   .rename_i hv;rw[hv] at h;exact yM (fun c a=>Ee hk l a) h
   .rename_i b hv;rw[hv] at h;exact ⟨fun e=>YR (fun c a=>Ee hk l a) (h.1 e),fun e=>yM (fun c a=>Ee hk l a) (h.2 e)⟩
   .rename_i hv;rw[hv] at h;exact h.elim
theorem YQ (hk:∀ e,K e->D e) (h:DI d u K e):DI d u D e:=by
 unfold DI at *;split
 .rename_i f args j;simp only[j] at h;split at h
  .rename_i m n;rcases h with ⟨r,a,b,c,g⟩|⟨i,r,h',a,l,g⟩
   .exact .inl ⟨r,a,b,c,yM hk g⟩
   .exact .inr ⟨i,r,h',a,l,yM hk g⟩
  omega
 grind [aXO]
def UD {E:AE} {d:Array Oper} {K g:ASt->Prop} (hk:∀ c,K c->g c):∀ (l:List Oper) {c:ASt},uF E d l K c->uF E d l g c
 | [],c,h=>hk c h
 | o::l,c,h=>by
  rw[uF] at h ⊢;split
  .rename_i f;simp only[f] at h;exact YQ (fun c a=>UD hk l a) h
  .rename_i j i f;simp only[f] at h;split
   .rename_i hv;rw[hv] at h;exact yM (fun c a=>UD hk l a) h
   .rename_i b hv;rw[hv] at h;exact ⟨fun e=>YQ (fun c a=>UD hk l a) (h.1 e),fun e=>yM (fun c a=>UD hk l a) (h.2 e)⟩
   .rename_i hv;rw[hv] at h;exact h.elim
def a_C (hk:∀ e,K e->D e) (h:YP d b3 K e):YP d b3 D e:=⟨h.1,UD hk _ h.2⟩
def aW8 {d:Nat} {b:(AX->ASt->Prop)->ASt->Prop} {Q c:AX->ASt->Prop} (f:∀ (Q c:AX->ASt->Prop) (a:ASt),(∀ e a,Q e a->c e a)->b Q a->b c a) (hq:∀ e a,Q e a->c e a):∀ (k:Nat) (a:ASt),OA d b Q k a->OA d b c k a
 | 0,_,h=>h.elim
 | k+1,a,⟨l,m,g,j,n⟩=>⟨l,m,g,j,f _ _ _ (fun e a he=>by
  cases e with
  | normal=>exact aW8 f hq k a he
  | ret=>exact hq _ _ he
  | exit i=>exact hq _ _ he) n⟩
theorem yw {E:AE} {g:Nat}:∀ (c:Code) {Q j:AX->ASt->Prop} {a:ASt},(∀ e a,Q e a->j e a)->eu E g c Q a->eu E g c j a
 | .skip,_,_,_,hq,h=>hq _ _ h
 | .label _,_,_,_,hq,h=>hq _ _ h
 | .exit _,_,_,_,hq,h=>hq _ _ h
 | .ret,_,_,_,hq,h=>hq _ _ h
 | .region _ p d,_,_,_,hq,h=>by
  rw[eu] at h ⊢;cases d with
  | false=>grind [Ee]
  | true=>simp only[CQ] at h ⊢; exact h.elim (fun h => .inl (a_C (fun a=>hq _ a) h)) fun h => .inr (aG3 (fun a=>hq _ a) _ h)
 | .seq x y,Q,j,_,hq,h=>by
  rw[eu] at h ⊢;refine yw x (fun e a he => ?_) h;cases e with
  | normal =>
   obtain ⟨o,he⟩:=he;rcases he with he | ⟨l,m,a1,a2,he⟩
   .exact ⟨o,.inl (yw y hq he)⟩
   .exact ⟨o,.inr ⟨l,m,a1,a2,yw y hq he⟩⟩
  | ret=>exact hq _ _ he
  | exit i=>exact hq _ _ he
 | .cond c x y,_,_,_,hq,h=>by
  rw[eu] at h ⊢;split
  .rename_i b f;rw[f] at h;exact ⟨fun e=>yw x hq (h.1 e),fun e=>yw y hq (h.2 e)⟩
  .rename_i f;split at h
   .rename_i b n; exact absurd n (f b)
   .exact h
 | .block id x,_,_,_,hq,h=>by
  rw[eu] at h ⊢;refine yw x (fun e a he => ?_) h;cases e with
  | normal=>exact hq _ _ he
  | ret=>exact hq _ _ he
  | exit i =>grind [PX]
 | .loop x,_,_,_,hq,h=>by rw[eu] at h ⊢;obtain ⟨k,hk⟩:=h;exact ⟨k,aW8 (b:=eu E g x) (fun _ _ _ hq f=>yw x hq f) hq k _ hk⟩
 | .scope x,_,_,_,hq,h=>by rw[eu] at h ⊢; exact yw x hq h
 | .rangeFunc ..,_,_,_,_,h=>by rw[eu] at h; exact h.elim
 | .goto _,_,_,_,_,h=>by rw[eu] at h; exact h.elim
 | .refuse _,_,_,_,_,h=>by rw[eu] at h; exact h.elim
theorem aI3 {args:ai} (h:Ev d.P g args [] p []) (a:p.flat=true) (b:PV.flats args=true) (hk:jZ d f p e K):a7F d g args f K e := .inl ⟨p,h,a,b,hk⟩
section
variable {E:AE} {m0:Nat} {Q:AX->ASt->Prop} {σ:ASt}
end
section
variable {E:AE} {ops:Array Oper} {l:List Oper} {Q:ASt->Prop} {σ:ASt} {o:Oper}
@[simp] def c1G : mV E ops [] Q σ = Q σ := rfl
@[simp] def c1F : uF E ops [] Q σ = Q σ := rfl
theorem a_E (a:BV o=none):xk E o Q σ=SH E o Q σ:=by grind [xk]
end
@[simp] def c55 (k : IntKind) (n : Int) : PV.un (.int k n) = .int k n := rfl
@[simp] def GI (k : IntKind) (n : Int) : PV.size (.int k n) = 1 := rfl
@[simp] def c36 (k : IntKind) (n : Int) : PV.isAgg (.int k n) = false := rfl
@[simp] def c4F (k : IntKind) (n : Int) : PV.one (.int k n) = true := rfl
@[simp] def c3Y (k : IntKind) (n : Int) : PV.okE (.int k n) = true := rfl
@[simp] def c3K (k : IntKind) (n : Int) : PV.newCells (.int k n) = some [.int k n] := rfl
@[simp] def c1M (m : Nat) (k : IntKind) (n : Int) : PV.blw m (.int k n) = true := by rfl
@[simp] def c27 (k : IntKind) (n : Int) : PV.flat (.int k n) = true := by rfl
@[simp] def c50 (b : Bool) : PV.un (.bool b) = .bool b := rfl
@[simp] def D9 (b : Bool) : PV.size (.bool b) = 1 := rfl
@[simp] def c2Z (b : Bool) : PV.isAgg (.bool b) = false := rfl
@[simp] def c4B (b : Bool) : PV.one (.bool b) = true := rfl
@[simp] def c3V (b : Bool) : PV.okE (.bool b) = true := rfl
@[simp] def c3H (b : Bool) : PV.newCells (.bool b) = some [.bool b] := rfl
@[simp] def c1I (m : Nat) (b : Bool) : PV.blw m (.bool b) = true := by rfl
@[simp] def c1Z (b : Bool) : PV.flat (.bool b) = true := by rfl
@[simp] def c5E (s : ByteArray) : PV.un (.str s) = .str s := rfl
@[simp] def c4X (s : ByteArray) : PV.size (.str s) = 1 := rfl
@[simp] def c3E (s : ByteArray) : PV.isAgg (.str s) = false := rfl
@[simp] def c4M (s : ByteArray) : PV.one (.str s) = true := rfl
@[simp] def c47 (s : ByteArray) : PV.okE (.str s) = true := rfl
@[simp] def c3R (s : ByteArray) : PV.newCells (.str s) = some [.str s] := rfl
@[simp] def c1S (m : Nat) (s : ByteArray) : PV.blw m (.str s) = true := by rfl
@[simp] def c2G (s : ByteArray) : PV.flat (.str s) = true := by rfl
@[simp] def c56 : PV.un (.nilp) = .nilp := rfl
@[simp] def c4R : PV.size (.nilp) = 1 := rfl
@[simp] def c38 : PV.isAgg (.nilp) = false := rfl
@[simp] def c4G : PV.one (.nilp) = true := rfl
@[simp] def c3Z : PV.okE (.nilp) = true := rfl
@[simp] def c3M : PV.newCells (.nilp) = some [.nilp] := rfl
@[simp] def c1N (m : Nat) : PV.blw m (.nilp) = true := by rfl
@[simp] def c2A : PV.flat (.nilp) = true := by rfl
@[simp] def c5A (v : Value) : PV.un (.raw v) = .raw v := rfl
@[simp] def c4T (v : Value) : PV.size (.raw v) = 1 := rfl
@[simp] def c3A (v : Value) : PV.isAgg (.raw v) = false := rfl
@[simp] def c4I (v : Value) : PV.one (.raw v) = true := rfl
@[simp] def c42 (v : Value) : PV.okE (.raw v) = true := rfl
@[simp] def c3O (v : Value) : PV.newCells (.raw v) = some [.raw v] := rfl
@[simp] def c1P (m : Nat) (v : Value) : PV.blw m (.raw v) = true := by rfl
@[simp] def c2C (v : Value) : PV.flat (.raw v) = true := by rfl
@[simp] def c58 (i a : Nat) : PV.un (.ptr i a) = .ptr i a := rfl
@[simp] def c4S (i a : Nat) : PV.size (.ptr i a) = 1 := rfl
@[simp] def c39 (i a : Nat) : PV.isAgg (.ptr i a) = false := rfl
@[simp] def c4H (i a : Nat) : PV.one (.ptr i a) = true := rfl
@[simp] def c41 (i a : Nat) : PV.okE (.ptr i a) = false := rfl
@[simp] def c3N (i a : Nat) : PV.newCells (.ptr i a) = some [.ptr i a] := rfl
@[simp] def c1O (m  i a : Nat) : PV.blw m (.ptr i a) = decide (i < m) := by rfl
@[simp] def c2B (i a : Nat) : PV.flat (.ptr i a) = false := by rfl
@[simp] def c52 (e : PV) : PV.un (.cst e) = .cst e := rfl
@[simp] def c4P (e : PV) : PV.size (.cst e) = 1 := rfl
@[simp] def c30 (e : PV) : PV.isAgg (.cst e) = false := rfl
@[simp] def c4C (e : PV) : PV.one (.cst e) = true := rfl
@[simp] def c3W (e : PV) : PV.okE (.cst e) = true := rfl
@[simp] def c3I (e : PV) : PV.newCells (.cst e) = some [.cst e] := rfl
@[simp] def c1J (m : Nat) (e : PV) : PV.blw m (.cst e) = true := by rfl
@[simp] def c22 (e : PV) : PV.flat (.cst e) = true := by rfl
@[simp] def c5B (o : Bool) (z : Nat) (a : ai) : PV.un (.sl o z a) = .sl false z a := rfl
@[simp] def c4V (o : Bool) (z : Nat) (a : ai) : PV.size (.sl o z a) = 1 := rfl
@[simp] def c3B (o : Bool) (z : Nat) (a : ai) : PV.isAgg (.sl o z a) = false := rfl
@[simp] def c4J (o : Bool) (z : Nat) (a : ai) : PV.one (.sl o z a) = true := rfl
@[simp] def c43 (o : Bool) (z : Nat) (a : ai) : PV.okE (.sl o z a) = true := rfl
@[simp] def c3P (o : Bool) (z : Nat) (a : ai) : PV.newCells (.sl o z a) = some [.sl false z a] := rfl
@[simp] def c1Q (m : Nat) (o : Bool) (z : Nat) (a : ai) : PV.blw m (.sl o z a) = true := by rfl
@[simp] def c2E (o : Bool) (z : Nat) (a : ai) : PV.flat (.sl o z a) = true := by rfl
@[simp] def c5C (i a n z : Nat) : PV.un (.slh i a n z) = .slh i a n z := rfl
@[simp] def c4W (i a n z : Nat) : PV.size (.slh i a n z) = 1 := rfl
@[simp] def c3C (i a n z : Nat) : PV.isAgg (.slh i a n z) = false := rfl
@[simp] def c4K (i a n z : Nat) : PV.one (.slh i a n z) = true := rfl
@[simp] def c44 (i a n z : Nat) : PV.okE (.slh i a n z) = false := rfl
@[simp] def c3Q (i a n z : Nat) : PV.newCells (.slh i a n z) = some [.slh i a n z] := rfl
@[simp] def c1R (m  i a n z : Nat) : PV.blw m (.slh i a n z) = decide (i < m) := by rfl
@[simp] def c2F (i a n z : Nat) : PV.flat (.slh i a n z) = false := by rfl
@[simp] def c54 (f : Fn) (a c : ai) : PV.un (.func f a c) = .func f a c := rfl
@[simp] def c4Q (f : Fn) (a c : ai) : PV.size (.func f a c) = 1 := rfl
@[simp] def c35 (f : Fn) (a c : ai) : PV.isAgg (.func f a c) = false := rfl
@[simp] def c4E (f : Fn) (a c : ai) : PV.one (.func f a c) = true := rfl
@[simp] def c3X (f : Fn) (a c : ai) : PV.okE (.func f a c) = (PV.flats a && PV.flats c) := rfl
@[simp] def c3J (f : Fn) (a c : ai) : PV.newCells (.func f a c) = some [.func f a c] := rfl
@[simp] def c1K (m : Nat) (f : Fn) (a c : ai) : PV.blw m (.func f a c) = (PV.blws m a && PV.blws m c) := by rfl
@[simp] def c26 (f : Fn) (a c : ai) : PV.flat (.func f a c) = (PV.flats a && PV.flats c) := by rfl
@[simp] def c4' (a : ai) : PV.un (.agg a) = .agg a := rfl
@[simp] def c4O (a : ai) : PV.size (.agg a) = a.length := rfl
@[simp] def c2Y (a : ai) : PV.isAgg (.agg a) = true := rfl
@[simp] def c4A (a : ai) : PV.one (.agg a) = false := rfl
@[simp] def c3T (a : ai) : PV.okE (.agg a) = (a.all PV.one && PV.flats a) := rfl
@[simp] def c3G (a : ai) : PV.newCells (.agg a) = if a.all PV.one then some (a.map PV.un) else none := rfl
@[simp] def c1H (m : Nat) (a : ai) : PV.blw m (.agg a) = PV.blws m a := by rfl
@[simp] def Dt (a : ai) : PV.flat (.agg a) = PV.flats a := by rfl
@[simp] def c5F (a : ai) : PV.un (.tuple a) = .tuple a := rfl
@[simp] def c4Y (a : ai) : PV.size (.tuple a) = 1 := rfl
@[simp] def c3F (a : ai) : PV.isAgg (.tuple a) = false := rfl
@[simp] def c4N (a : ai) : PV.one (.tuple a) = false := rfl
@[simp] def c48 (a : ai) : PV.okE (.tuple a) = false := rfl
@[simp] def c3S (a : ai) : PV.newCells (.tuple a) = none := rfl
@[simp] def c1T (m : Nat) (a : ai) : PV.blw m (.tuple a) = PV.blws m a := by rfl
@[simp] def c2H (a : ai) : PV.flat (.tuple a) = PV.flats a := by rfl
@[simp] def c1W (m : Nat) : PV.blws m [] = true := rfl
@[simp] def c1V (m : Nat) (p : PV) (a : ai) : PV.blws m (p :: a) = (p.blw m && PV.blws m a) := by rw [PV.blws]
@[simp] theorem c2J : PV.flats [] = true := rfl
@[simp] def c2I (p : PV) (a : ai) : PV.flats (p :: a) = (p.flat && PV.flats a) := by rw [PV.flats]
attribute [simp] ASt.rdT Eo PX ASt.keep zO cO ASt.put jZ iy nJ kL uu pop IA ASt.rd ASt.ev cu Gu Ep a3T nz Value.oneCell' zQ ASt.clr dw O3 resV pV yK XM Qj Rz XL aI0 Hy Eg a5M ZA a3C UN a3K a3J xI kQ F7 ASt.gc BK BV BU gG
mutual
def kV (f:Nat->Nat):PV->PV
 | .ptr i o => .ptr (f i) o
 | .dZ T i => .dZ T (f i)
 | .slh i o n z => .slh (f i) o n z
 | .func g a c => .func g (lL f a) (lL f c)
 | .agg d => .agg (lL f d)
 | .tuple d => .tuple (lL f d)
 | .int k n => .int k n
 | .bool b => .bool b
 | .str s => .str s
 | .nilp => .nilp
 | .raw v => .raw v
 | .cst e => .cst e
 | .dn l => .dn l
 | .iI o n z d => .iI o n z d
 | .mp l => .mp l
 | .sl o z h => .sl o z h
def lL (f:Nat->Nat):ai->ai
 | [] => []
 | p::a=>kV f p::lL f a
end
mutual
def PV.allI (D:Nat->Bool):PV->Bool
 | .ptr i _=>D i
 | .dZ _ i=>D i
 | .slh i _ _ _=>D i
 | .func _ a c=>PV.oQ D a&&PV.oQ D c
 | .agg b=>PV.oQ D b
 | .tuple b=>PV.oQ D b
 | _=>true
def PV.oQ (D:Nat->Bool):ai->Bool
 | []=>true
 | p::a=>p.allI D&&PV.oQ D a
end
def nH (f:Nat->Nat):Option (ai)->Option (ai)
 | some a=>some (lL f a)
 | none=>none
def uy:List Nat->Nat->Nat
 | [],_=>0
 | j::l,i=>bif Nat.beq j i then 0 else uy l i+1
def oD:List Nat->Nat->Bool
 | [],_=>false
 | j::l,i=>Nat.beq j i||oD l i
def sH (a:List Nat) (n m:Nat):Nat:=match a[m]? with | some i=>i | none=>n+(m-a.length)
def uX:List Nat->aH->aH->aH
 | i::a,o::b,H=>uX a b (H.set i o)
 | _,_,H=>H
def p_:List Nat->Bool
 | []=>true
 | i::l => !(oD l i)&&p_ l
def rC (H:aH) (i:Nat):Option (ai):=match H[i]? with | some o=>o | none=>none
def yx (a:List Nat) (H h':aH):aH:=uX a ((h'.take a.length).map (nH (sH a H.length))) H ++ (h'.drop a.length).map (nH (sH a H.length))
variable {Y:List Nat} {i:Nat}
theorem Sz:oD Y i=true↔i∈Y:=by
 induction Y with
 | nil=>simp[oD]
 | cons j Y a =>
  rw[oD,EN,a,jr];constructor;grind [Nat.eq_of_beq_eq_true]
  .rintro (h | h);simp_all;simp_all
theorem bX5 (h:i∈Y):Y[uy Y i]? = some i:=by
 induction Y with
 | nil=>simp at h
 | cons j Y c =>
  rw[uy];cases a:Nat.beq j i with
  | true=>have:=pI a; simp_all
  | false =>
   have b:j≠i:=fun e=>by simp_all
   grind
section
variable {M:Mem} {B B':aS} {w w':World}
mutual
theorem aVX {f:Nat->Nat} {D:Nat->Bool} (d:∀ i c,D i=true->B[i]? = some c->B'[f i]? = some c):∀ p:PV,p.allI D=true->∀ v,(bD M B p).1 v->(bD M B' (kV f p)).1 v
 | .int _ _,_,v,h=>by simpa only[kV,bD] using h
 | .bool _,_,v,h=>by simpa only[kV,bD] using h
 | .str _,_,v,h=>by simpa only[kV,bD] using h
 | .nilp,_,v,h=>by simpa only[kV,bD] using h
 | .raw _,_,v,h=>by simpa only[kV,bD] using h
 | .cst _,_,v,h=>by simpa only[kV,bD] using h
 | .sl _ _ _,_,v,h=>by simpa only[kV,bD] using h
 | .dn _,_,v,h=>by simpa only[kV,bD] using h
 | .iI _ _ _ _,_,v,h=>by simpa only[kV,bD] using h
 | .mp _,_,v,h=>by simpa only[kV,bD] using h
 | .ptr i o,b,v,h=>by simp only[bD,jl] at h;simp only[kV,bD,jl];obtain ⟨c,g,e⟩:=h;exact ⟨c,⟨d i c (by simpa only[PV.allI] using b) g.1,g.2⟩,e⟩
 | .dZ T i,b,v,h=>by simp only[bD,jl] at h;simp only[kV,bD,jl];obtain ⟨c,g,e⟩:=h;exact ⟨c,d i c (by simpa only[PV.allI] using b) g,e⟩
 | .slh i o n z,b,v,h=>by simp only[bD,jl] at h;simp only[kV,bD,jl];obtain ⟨c,l,g,e⟩:=h;exact ⟨c,l,⟨d i c (by simpa only[PV.allI] using b) g.1,g.2⟩,e⟩
 | .func t a c,b,v,h=>by simp only[PV.allI,bH] at b;simp only[bD,jl] at h;simp only[kV,bD,jl];obtain ⟨x,y,e,j,r⟩:=h;exact ⟨x,y,e,Rq d a b.1 _ j,Rq d c b.2 _ r⟩
 | .agg m,b,v,h=>by simp only[bD] at h;simp only[kV,bD];obtain ⟨q,e,j⟩:=h;exact ⟨q,e,Rq d m (by simpa only[PV.allI] using b) _ j⟩
 | .tuple m,b,v,h=>by simp only[bD] at h;simp only[kV,bD];obtain ⟨q,e,j⟩:=h;exact ⟨q,e,Rq d m (by simpa only[PV.allI] using b) _ j⟩
theorem Rq {f:Nat->Nat} {D:Nat->Bool} (e:∀ i c,D i=true->B[i]? = some c->B'[f i]? = some c):∀ b:ai,PV.oQ D b=true->∀ a,pK (ig M B b) a->pK (ig M B' (lL f b)) a
 | [],_,a,h=>by simpa only[lL,ig] using h
 | p::b,d,a,h=>by
  simp only[PV.oQ,bH] at d;cases a with
  | nil=>simp[ig,pK] at h
  | cons v a =>simp only[ig,pK] at h;simp only[lL,ig,pK];exact ⟨aVX e p d.1 v h.1,Rq e b d.2 a h.2⟩
end
variable {m:Nat->Nat} {X:Nat->Bool} {r:Value}
theorem aDS (a:∀ i c,X i=true->B[i]? = some c->B'[m i]? = some c) (b:p.allI X=true) (h:eU M B p r):eU M B' (kV m p) r:=aVX a p b r h
variable {L:ai}
def bY1 (b:∀ i c,X i=true->B[i]? = some c->B'[m i]? = some c) (d:PV.oQ X L=true) {a:List Value} (h:au M B L a):au M B' (lL m L) a:=Rq b L d a h
mutual
theorem a6V:∀ p:PV,p.allI (fun _=>true)=true
 | .func _ a c=>by simp only[PV.allI,U9 a,U9 c,LD]
 | .agg b=>by simp only[PV.allI,U9 b]
 | .tuple b=>by simp only[PV.allI,U9 b]
 | .ptr _ _=>rfl
 | .dZ _ _=>rfl
 | .slh _ _ _ _=>rfl
 | .int _ _=>rfl
 | .bool _=>rfl
 | .str _=>rfl
 | .nilp=>rfl
 | .raw _=>rfl
 | .cst _=>rfl
 | .sl _ _ _=>rfl
 | .dn _=>rfl
 | .iI _ _ _ _=>rfl
 | .mp _=>rfl
theorem U9:∀ a:ai,PV.oQ (fun _=>true) a=true
 | []=>rfl
 | p::a=>by simp only[PV.oQ,a6V p,U9 a,LD]
end
def bXT (f:Nat->Nat) (p:PV):(kV f p).own=p.own:=by cases p<;>rfl
def a3W (f:Nat->Nat) (p:PV) (v:Value) (b:Nat):bY (kV f p) v b=bY p v b:=by unfold bY; rw[bXT]
theorem aEP (h:Tl M w p r):Tl M w (kV m p) r:=by cases p<;>first | exact h | exact gU rfl
def aDO {f:Nat->Nat}:∀ {a:ai} {j:Nat},(lL f a)[j]? =(a[j]?).map (kV f)
 | [],j=>by simp[lL]
 | p::a,0=>by simp[lL]
 | p::a,j+1=>by rw[lL,Dq,Dq]; exact aDO
theorem aDP {f:Nat->Nat}:∀ a:ai,(lL f a).length=a.length
 | []=>rfl
 | p::a=>by simp[lL,aDP a]
def aV1 {f:Nat->Nat} {b:Nat}:∀ (c:ai) (a:List Value),fG (lL f c) a b=fG c a b
 | [],_=>by rfl
 | p::d,[]=>by rfl
 | p::d,v::a=>by rw[lL,fG,fG,a3W,aV1 d a]
def Wn {f:Nat->Nat} {b:Nat}:∀ (h:aH) (B:aS),aT w (h.map (nH f)) B b=aT w h B b
 | [],_=>by simp[aT]
 | some a::h,[]=>by rfl
 | none::h,[]=>by rfl
 | some a::h,c::B=>by simp only[wM,nH,aT,aV1,Wn h B]
 | none::h,c::B=>by simp only[wM,nH,aT,Wn h B]
def o1 (w:World) (b:Nat) (o:Option (ai)) (c:Nat×Nat×TypeId):Nat:=match o with | some a=>(if c.1=b then 1 else 0)+fG a (iO w c.1) b | none=>0
theorem Jt (o:Option (ai)) (h:aH) (c:Nat×Nat×TypeId) (B:aS) (b:Nat):aT w (o::h) (c::B) b=o1 w b o c+aT w h B b:=by
 cases o with
 | none=>grind [aT,o1]
 | some a=>rfl
theorem aV3 {b:Nat} {o:Option (ai)}:∀ {H:aH} {B:aS} {i:Nat} {a:Option (ai)} {c:Nat×Nat×TypeId},H[i]? = some a->B[i]? = some c->aT w (H.set i o) B b+o1 w b a c=aT w H B b+o1 w b o c
 | [],_,_,_,_,h,_=>by simp at h
 | _::_,[],_,_,_,_,h=>by simp at h
 | x::H,d::B,0,a,c,e,f=>by grind [Jt]
 | x::H,d::B,i+1,a,c,e,f=>by have:=aV3 (b:=b) (o:=o) (H:=H) (B:=B) (i:=i) (by simpa using e) (by simpa using f);rw[List.set_cons_succ,Jt,Jt]; omega
theorem aBZ {b:Nat}:∀ {h k:aH} {B C:aS},h.length=B.length->aT w (h ++ k) (B ++ C) b=aT w h B b+aT w k C b
 | [],k,[],C,_=>by simp[aT]
 | o::h,k,c::B,C,e=>by rw[qF,qF,Jt,Jt,aBZ (by grind)]; omega
 | [],_,_::_,_,e=>by simp at e
 | _::_,_,[],_,e=>by simp at e
theorem OG:∀ (b:List Nat) (a H:aH),(uX b a H).length=H.length
 | [],a,H=>by cases a<;>rfl
 | i::b,[],H=>rfl
 | i::b,o::a,H=>by rw[uX,OG]; simp
theorem XF {i:Nat}:∀ {a:List Nat} {b H:aH},i∉a->(uX a b H)[i]? = H[i]?
 | [],b,H,_=>by cases b<;>rfl
 | j::a,[],H,_=>rfl
 | j::a,o::b,H,h=>by rw[uX,XF (fun e=>h (by simp[e])),rO (fun e=>h (by simp[e]))]
theorem aX2:∀ {a:List Nat} {b H:aH} {j i:Nat} {o:Option (ai)},a.Nodup->a[j]? = some i->b[j]? = some o->i<H.length->(uX a b H)[i]? = some o
 | [],_,_,_,_,_,_,h,_,_=>by simp at h
 | _::_,[],_,_,_,_,_,_,h,_=>by simp at h
 | k::a,q::b,H,0,i,o,c,d,e,f=>by grind [uX,XF]
 | k::a,q::b,H,j+1,i,o,c,d,e,f=>by rw[uX]; exact aX2 (List.nodup_cons.1 c).2 (by simpa using d) (by simpa using e) (by simpa using f)
def Vu {b:Nat}:∀ {is:List Nat} {os H:aH},is.Nodup->os.length=is.length->(∀ i,i∈is->i<H.length/\i<B.length) ->
 aT w (uX is os H) B b+aT w (is.map (rC H)) (is.map fun i=>B.getD i (0,0,0)) b=aT w H B b+aT w os (is.map fun i=>B.getD i (0,0,0)) b
 | [],[],H,_,_,_=>by rfl
 | [],_::_,_,_,h,_=>by simp at h
 | _::_,[],_,_,h,_=>by simp at h
 | i::is,o::os,H,g,l,f=>by
  obtain ⟨a,c⟩:=List.nodup_cons.1 g;obtain ⟨m,n⟩:=f i (by simp);have p:=Vu (b:=b) (is:=is) (os:=os) (H:=H.set i o) c (by simpa using l) fun j d=>by simpa using f j (by simp[d])
  have q:is.map (rC (H.set i o))=is.map (rC H):=List.map_congr_left fun j d=>by unfold rC; rw[rO (fun e=>a (by rw[e]; exact d))]
  rw[q] at p;have r:B[i]? = some (B.getD i (0,0,0)):=by rw[aFV,jq n]; rfl
  have t:H[i]? = some (rC H i):=by unfold rC; rw[jq m]
  have u:=aV3 (w:=w) (b:=b) (o:=o) t r;rw[uX,wM,wM,Jt,Jt];omega
theorem bU4 (h:p_ Y=true):Y.Nodup:=by
 induction Y with
 | nil=>simp
 | cons i Y a =>simp only[p_,bH,Ij] at h;refine List.nodup_cons.2 ⟨fun b => ?_,a h.2⟩;rw[Sz.2 b] at h; simp_all
theorem a9Q {H:aH}:rC H i=some L↔H[i]? = some (some L):=by grind [rC]
end
theorem uB.sub {cp:CP} (K:TR cp) {ids:List Nat} {H:aH} {y5:ai} {r:PV} {h':aH}
 (k:uB j cp g (lL (uy ids) y5) ((ids.map (rC H)).map (nH (uy ids))) r h') (x:p_ ids=true) (b':∀ i,i∈ids->i<H.length)
 (b1:PV.oQ (oD ids) y5=true) (c0:∀ i d,i∈ids->H[i]? = some (some d)->PV.oQ (oD ids) d=true):uB j cp g y5 H (kV (sH ids H.length) r) (yx ids H h'):=by
 have x:=bU4 x;refine ⟨k.1,fun c1 M B w b2 b3 h Q b4 hv => ?_⟩;have V:H.length=B.length:=h.1;let y:aS:=ids.map fun i=>B.getD i (0,0,0)
 let A:aH:=uX ids (ids.map fun _=>none) H
 have c':∀ i,i∈ids->B[i]? = some (B.getD i (0,0,0)):=fun i L=>by rw[aFV,jq (by rw[<- V]; grind)]; rfl
 have X:∀ i,i∈ids->i<H.length/\i<B.length:=fun i L=>⟨b' i L,by rw[<- V]; grind⟩
 have b5:∀ i c,oD ids i=true->B[i]? = some c->y[uy ids i]? = some c:=fun i c L S=>by have K:=Sz.1 L;grind [bX5]
 have D:∀ (l:List Nat) (C:aS) (w:World) b,aT w (l.map fun _=>(none:Option (ai))) C b=0:=by
  intro l;induction l with
  | nil=>grind [aT]
  | cons i l ih=>intro C w b; cases C with
   | nil=>simp[aT]
   | cons c C=>rw[wM,Jt,ih]; simp[o1]
 have b6:∀ (w:World) (os:aH),os.length=ids.length->∀ b,aT w (uX ids os H) B b=aT w A B b+aT w os y b:=fun w os hl b=>by have e1:=Vu (w:=w) (b:=b) (is:=ids) (os:=os) x hl X;have e2:=Vu (w:=w) (b:=b) (is:=ids) (os:=ids.map fun _=>none) x (by simp) X;rw[D] at e2;grind
 have E:∀ b,aT w A B b+aT w ((ids.map (rC H)).map (nH (uy ids))) y b=aT w H B b:=fun b=>by have e2:=Vu (w:=w) (b:=b) (is:=ids) (os:=ids.map fun _=>none) x (by simp) X;rw[D] at e2;rw[Wn];omega
 have c2:rQ M y w ((ids.map (rC H)).map (nH (uy ids))):=by
  refine ⟨by simp[y],fun a d1 N => ?_⟩;rw[lN,lN] at N;cases L:ids[a]? with
  | none=>simp_all
  | some i =>
   have K:i∈ids:=qh L;cases ho:rC H i with
   | none=>grind [nH]
   | some d =>
    simp[L,ho,nH] at N; subst N;have b7:=a9Q.1 ho;obtain ⟨c,S,vs,ty,t,I,h3,h4,h5⟩:=h.2 i d b7;refine ⟨c,by grind,vs,ty,t,I,by rw[aDP]; exact h3,fun l p Y => ?_,h5⟩;rw[aDO] at Y;cases hq:d[l]? with
    | none=>simp_all
    | some q =>
     simp[hq] at Y; subst Y;obtain ⟨u,a1,a2,a3,a4⟩:=h4 l q hq;have hd:q.allI (oD ids)=true:=by
      have:=c0 i d K b7;have c3:∀ (d:ai) (l:Nat),PV.oQ (oD ids) d=true->d[l]? = some q->q.allI (oD ids)=true:=by
       intro d;induction d with
       | nil=>simp
       | cons c d ih =>grind [PV.oQ]
      grind
     grind [aDS,aEP]
 refine K (k.2 (fun b=>c1 b+aT w A B b) M y w b2 b3 c2 (fun b=>by have:=E b; have:=Q b; omega) (fun b J=>by have:=E b; have:=b4 b J; omega) (bY1 b5 b1 hv)) fun e Z he => ?_
 obtain ⟨v,M',O,rfl,z⟩:=he;have d2:y.length=ids.length:=by simp[y]
 have c4:∀ (m:Nat) c,y[m]? = some c->O[m]? = some c:=z.le.blk;have d3:h'.length=O.length:=z.heap.1;have hk:ids.length<=O.length:=by
  rcases Nat.eq_zero_or_pos ids.length with h0 | h0
  .omega
  .have:y[ids.length-1]? = some y[ids.length-1]:=jq (by omega);have:=(iY.1 (c4 _ _ this)).1;omega
 have c5:O.take ids.length=y:=by apply Ol;grind
 let B':aS:=B ++ O.drop ids.length
 have F:∀ m c,(fun _=>true) m=true->O[m]? = some c->B'[sH ids H.length m]? = some c:=fun m c _ S=>by unfold sH;grind
 have T:∀ b,1<=aT w A B b->b<w.heap.size/\aT w ((ids.map (rC H)).map (nH (uy ids))) y b=0:=fun b J=>by have t:=E b;have I:=Q b;grind
 have a':∀ b,1<=aT w A B b->Z.heap[b]? = w.heap[b]? /\ ∀ o,M' b o=M b o:=fun b J=>z.fr.blk b (T b J).1 (T b J).2
 have FC:∀ (i:Nat) d c,A[i]? = some (some d)->B[i]? = some c->1<=aT w A B c.1:=fun i d c t I=>by have:=lY (w:=w) c.1 t I;grind
 have c6:∀ b,aT Z A B b=aT w A B b:=fun b=>I7 b fun i d c t I=>Pg (a' c.1 (FC i d c t I)).1
 have b0:eH M M' B B':=⟨z.le.mem,fun i c S=>by grind⟩;have G:∀ b,aT Z (yx ids H h') B' b=aT w A B b+aT Z h' O b:=fun b=>by show aT Z (uX ids ((h'.take ids.length).map (nH (sH ids H.length))) H ++ (h'.drop ids.length).map (nH (sH ids H.length))) (B ++ O.drop ids.length) b=_;rw[aBZ (by rw[OG]; exact V),b6 Z _ (by simp; omega),Wn,Wn,c6];grind [List.take_append_drop,aBZ]
 refine ⟨v,M',B',rfl,z.mem,b0,z.fr.mono fun b J h0=>by have:=E b; omega,⟨?_,fun i d L => ?_⟩,aDS F (a6V r) z.rep,aEP z.tl,fun b J => ?_,fun b => ?_,fun b J => ?_⟩
 .show (uX ids _ H ++ (h'.drop ids.length).map _).length=(B ++ O.drop ids.length).length;grind [OG]
 .have c3:∀ (m:Nat) (n:ai),h'[m]? = some (some n)->d=lL (sH ids H.length) n->i=sH ids H.length m->∃ c,B'[i]? = some c/\a6L M' B' Z d c:=fun m n K e1 e2=>by
   obtain ⟨c,S,vs,ty,t,I,h3,h4,h5⟩:=z.heap.2 m n K;refine ⟨c,by rw[e2]; grind,vs,ty,t,I,by rw[e1,aDP]; exact h3,fun l p Y => ?_,h5⟩;rw[e1,aDO] at Y;cases hq:n[l]? with
   | none=>simp_all
   | some q =>simp[hq] at Y; subst Y;obtain ⟨u,a1,a2,a3,a4⟩:=h4 l q hq;exact ⟨u,a1,aDS F (a6V q) a2,aEP a3,a4⟩
  have f:(uX ids ((h'.take ids.length).map (nH (sH ids H.length))) H ++ (h'.drop ids.length).map (nH (sH ids H.length)))[i]? = some (some d):=L;rcases zk i H.length with U | c8
  .rw[vJ (by rw[OG]; exact U)] at f;by_cases K:i∈ids
   .obtain ⟨a,N⟩:=zg.1 K;have c9:=(iY.1 N).1;have ho:((h'.take ids.length).map (nH (sH ids H.length)))[a]? = some (nH (sH ids H.length) h'[a]):=by rw[lN,nN,ah c9,jq (by omega)]; rfl
    rw[aX2 x N ho U] at f;injection f with f
    cases hx:h'[a] with
    | none=>rw[hx] at f; cases f
    | some n =>rw[hx] at f;grind [nH,sH]
   .rw[XF K] at f;obtain ⟨c,S,vs,ty,t,I,h3,h4,h5⟩:=h.2 i d f;have b8:A[i]? = some (some d):=by grind [XF]
    have b9:=a' c.1 (FC i d c b8 S);refine ⟨c,b0.blk _ _ S,vs,ty,by rw[OB b9.1,t],I,h3,fun a p N => ?_,fun o=>by rw[b9.2]; exact h5 o⟩;obtain ⟨u,a1,a2,a3,a4⟩:=h4 a p N;refine ⟨u,a1,a2.mono b0,a3.kept fun b ho=>a' b ?_,a4⟩;have e1:=lY (w:=w) b b8 S;have e2:=yF b N (by rw[rW t]; grind:(iO w c.1)[a]? = some u);omega
  .rw[Il (by rw[OG]; exact c8),OG,lN,Xe] at f;cases hx:h'[ids.length+(i-H.length)]? with
   | none=>simp_all
   | some o =>
    cases o with
    | none=>simp[hx,nH] at f
    | some n =>grind [nH,sH]
 .have t:=z.own b J; rw[a3W,G]; have:=E b; omega
 .have t:=z.cnt b; rw[a3W,G]; omega
 .have t:=z.new b J; rw[a3W,G]; omega
def Ev.sub {ids:List Nat} {H:aH} {y5:ai} {r:PV} {h':aH}
 (k:Ev j g (lL (uy ids) y5) ((ids.map (rC H)).map (nH (uy ids))) r h') (b:p_ ids=true) (c:∀ i,i∈ids->i<H.length)
 (a:PV.oQ (oD ids) y5=true) (d:∀ i e,i∈ids->H[i]? = some (some e)->PV.oQ (oD ids) e=true):Ev j g y5 H (kV (sH ids H.length) r) (yx ids H h') :=
 uB.sub (a7H j) k b c a d
mutual
def PV.vg:PV->Bool
 | .int _ _=>true
 | .bool _=>true
 | .str _=>true
 | .nilp=>true
 | .raw _=>true
 | .agg a=>WY a
 | .tuple a=>WY a
 | _=>false
def WY:ai->Bool
 | []=>true
 | p::a=>p.vg&&WY a
end
mutual
theorem Ro {M e:Mem} {B f:aS}:∀ (p:PV) {v:Value},p.vg=true->eU M B p v->eU e f p v
 | .int _ _,_,_,h=>fH.2 (fH.1 h)
 | .bool _,_,_,h=>kw.2 (kw.1 h)
 | .str _,_,_,h=>jS.2 (jS.1 h)
 | .nilp,_,_,h=>KE.2 (KE.1 h)
 | .raw _,_,_,h=>Dz.2 (Dz.1 h)
 | .agg b,_,a,h=>by obtain ⟨c,hv,d⟩:=qU.1 h;exact qU.2 ⟨c,hv,aDT b a d⟩
 | .tuple b,_,a,h=>by obtain ⟨c,hv,d⟩:=uU.1 h;exact uU.2 ⟨c,hv,aDT b a d⟩
 | .ptr _ _,_,a,_=>by simp[PV.vg] at a
 | .dZ _ _,_,a,_=>by simp[PV.vg] at a
 | .cst _,_,a,_=>by simp[PV.vg] at a
 | .sl _ _ _,_,a,_=>by simp[PV.vg] at a
 | .slh _ _ _ _,_,a,_=>by simp[PV.vg] at a
 | .func _ _ _,_,a,_=>by simp[PV.vg] at a
theorem aDT {M d:Mem} {B e:aS}:∀ (a:ai) {c:List Value},WY a=true->au M B a c->au d e a c
 | [],_,_,h=>by rw[fA] at h ⊢; exact h
 | p::a,_,b,h=>by simp only[WY,bH] at b;obtain ⟨u,f,rfl,g,i⟩:=dO.1 h;exact dO.2 ⟨u,f,rfl,Ro p b.1 g,aDT a b.2 i⟩
end
theorem Jn (h:p.vg=true):p.own=false:=by cases p<;>first | rfl | (simp[PV.vg] at h)
def uw (p:PV):Bool:=p.one&&p.vg
def Rn (h:uw p=true):p.isAgg=false/\(∀ a,p ≠ .tuple a)/\p.vg=true/\p.size=1:=by unfold uw at h;simp only[bH] at h;obtain ⟨b,c⟩:=h;cases p<;>first | (simp[PV.one] at b; done) | exact ⟨rfl,(fun a h=>by cases h),c,rfl⟩
def Hm (h:aH) (p:PV):PV:=match p with
 | .slh i 0 n 1=>(match h[i]? with | some (some a) => .sl false 1 (a.take n) | _=>p)
 | .slh i 0 n b=>(match h[i]? with | some (some a) => .sl false b (mX b a n) | _=>p)
 | _=>p
def aB7 (h:aH) (p:PV):Bool:=match p with
 | .slh i 0 n 1=>(match h[i]? with | some (some a)=>decide (n<=a.length)&&a.all uw | _=>false)
 | .slh i 0 n b=>(match h[i]? with | some (some a)=>decide (n*b<=a.length)&&decide (0<b)&&a.all uw | _=>false)
 | p=>p.flat
def Kq (h:aH):ai->ai
 | [] => []
 | p::a=>Hm h p::Kq h a
def WG (h:aH):ai->Bool
 | []=>true
 | p::a=>aB7 h p&&WG h a
section
variable {M:Mem} {B:aS} {w:World} {h:aH}
def Qz (h:aH) (B:aS) (b:Nat):Prop:=∃ (i:Nat) (a:ai) (c:Nat×Nat×TypeId),h[i]? = some (some a)/\(B[i]? = some c/\c.2.2≠0)/\c.1=b/\a.all uw=true
open Classical in
def DX (M:Mem) (h:aH) (B:aS) (w:World):Mem:=Dk M.m fun b o=>if ∃ (i:Nat) (a:ai) (c:Nat×Nat×TypeId),h[i]? = some (some a)/\(B[i]? = some c/\c.2.2≠0)/\c.1=b/\a.all uw=true/\o<a.length then w.cell? ⟨b,o,none⟩ else M b o
variable {L:ai} {b7:Nat×Nat×TypeId}
theorem a3E (b:rQ M B w h) (d:h[i]? = some (some L)) (e:B[i]? = some b7/\b7.2.2≠0) (o:Nat):M b7.1 o=none:=by obtain ⟨f,a,_,_,_,_,_,_,g⟩:=b.2 i L d;rw[e.1] at a; simp_all
theorem aB8 (b:rQ M B w h) (d:h[i]? = some (some L)) (e:B[i]? = some b7/\b7.2.2≠0) {o:Nat} (f:L[o]? = some p):∃ v,w.cell? ⟨b7.1,o,none⟩=some v/\eU M B p v/\v.oneCell'=true:=by obtain ⟨g,a,j,l,m,n,q,r,t⟩:=b.2 i L d;rw[e.1] at a; grind [Ff,World.cell?]
open Classical in
def WH (d:rQ M B w h) (b o:Nat):DX M h B w b o=if ∃ (i:Nat) (a:ai) (c:Nat×Nat×TypeId),h[i]? = some (some a)/\(B[i]? = some c/\c.2.2≠0)/\c.1=b/\a.all uw=true/\o<a.length then w.cell? ⟨b,o,none⟩ else M b o:=by
 unfold DX;refine FQ (fun b o v e => ?_) b o;split
 .rename_i f;obtain ⟨i,a,c,j,l,rfl,_⟩:=f;have:=M.g _ _ _ e;rw[a3E d j l] at this; cases this
 .exact M.g _ _ _ e
theorem bSI (a:rQ M B w h):eH M (DX M h B w) B B:=⟨fun b o v e=>by rw[WH a];grind [a3E],fun _ _ e=>e⟩
theorem bSJ (d:Ae M w) (a:rQ M B w h):Ae (DX M h B w) w:=fun b o v e=>by
 rw[WH a] at e;split at e
 .rename_i f;obtain ⟨i,n,c,g,j,rfl,_,l⟩:=f;obtain ⟨p,m,_,q⟩:=aB8 a g j (jq l);rw[m] at e; simp_all
 .exact d b o v e
theorem bSH (o:rQ M B w h) {v:Value} (z:eU M B p v) (b:aB7 h p=true):eU (DX M h B w) [] (Hm h p) v:=by
 have G:p.flat=true->Hm h p=p->eU (DX M h B w) [] (Hm h p) v:=fun H I=>by rw[I]; exact eU.flat [] H (z.mono (bSI o))
 unfold aB7 at b;split at b
 .rename_i i n;split at b
  .rename_i q l;simp only[bH,pJ] at b;obtain ⟨A,m⟩:=b;have e:Hm h (.slh i 0 n 1) = .sl false 1 (q.take n):=by simp only[Hm,l]
   rw[e];obtain ⟨c,g,r,hv,t,x⟩:=uT.1 z;have f:=fun p a=>Rn (ja.1 m p a)
   refine jo.2 ⟨some ⟨c.1,0,none⟩,g,by rw[hv,vK,Nat.min_eq_left A],by rw[vK]; omega,fun e he=>(f e (TD he)).2.2.2,(fun h=>by cases h),fun _=>⟨c.1,0,rfl,Ac fun j p d => ?_⟩⟩;rw[nN] at d;split at d
   .have y:=(iY.1 d).1;obtain ⟨a1,a2,a3,a4⟩:=f p (qh d);obtain ⟨u,C,D,_⟩:=aB8 o l r d;rw[Aa a1 a2];refine ⟨u,?_,Ro p a3 D⟩;rw[WH o,ah ⟨i,q,c,l,r,rfl,m,by omega⟩,show 0+j*1=j by omega]; exact C
   .cases d
  .cases b
 .rename_i i n E F;split at b
  .rename_i q l;simp only[bH,pJ] at b;obtain ⟨⟨A,J⟩,m⟩:=b;have e:Hm h (.slh i 0 n E) = .sl false E (mX E q n):=by grind [Hm]
   rw[e];obtain ⟨c,g,r,hv,t,x⟩:=uT.1 z;have f:=fun p a=>Rn (ja.1 m p a)
   obtain ⟨k1,k2,k3⟩:=Yn J A fun p a=>by have:=ja.1 m p a;grind [uw]
   refine jo.2 ⟨some ⟨c.1,0,none⟩,g,by rw[hv,k1],by rw[k1]; exact t,k2,(fun h=>by omega),fun _=>⟨c.1,0,rfl,k3 _ c.1 fun j p d K => ?_⟩⟩;have y:=(iY.1 d).1;obtain ⟨a1,a2,a3,a4⟩:=f p (qh d);obtain ⟨u,C,D,_⟩:=aB8 o l r d;rw[Aa a1 a2];refine ⟨u,?_,Ro p a3 D⟩;rw[WH o,ah ⟨i,q,c,l,r,rfl,m,y⟩]; exact C
  .cases b
 grind [Hm]
def aSM (d:rQ M B w h):∀ {a:ai} {e:List Value},au M B a e->WG h a=true->au (DX M h B w) [] (Kq h a) e
 | [],_,b,_=>by rw[fA] at b; subst b; exact fA.2 rfl
 | p::a,_,b,c=>by obtain ⟨u,f,rfl,g,i⟩:=dO.1 b;simp only[WG,bH] at c;exact dO.2 ⟨u,f,rfl,bSH d g c.1,aSM d i c.2⟩
end
variable {H:aH}
theorem Ev.bSG {args:ai} (Z:Ev j g (Kq H args) [] p []) (hr:p.vg=true) (hc:WG H args=true):Ev j g args H p H:=by
 classical
 refine ⟨Z.1,fun S M B w F x f G I hv => ?_⟩;have T:∀ w b,aT w [] [] b=0:=fun w b=>by simp[aT]
 refine (Z.2 (fun b=>S b+aT w H B b) (DX M H B w) [] w F (bSJ x f) ⟨rfl,fun i l J=>by simp at J⟩ (fun b=>by rw[T]; have:=G b; omega) (fun b q=>by rw[T]; have:=I b q; omega) (aSM f hv hc)).mono fun e w' he => ?_
 obtain ⟨v,U,B1,rfl,t⟩:=he;have V:B1 = []:=qg (by have:=t.heap.1; simp_all);subst V;have FC:∀ (i:Nat) l c,H[i]? = some (some l)->B[i]? = some c->1<=aT w H B c.1:=fun i l c m n=>by have:=lY (w:=w) c.1 m n;grind
 have y:∀ b,1<=aT w H B b->b<w.heap.size:=fun b q=>by grind
 have z:∀ b,b<w.heap.size->w'.heap[b]? = w.heap[b]? /\ ∀ o,U b o=DX M H B w b o:=fun b q=>t.fr.blk b q (T w b)
 obtain ⟨A,K⟩:∃ A:Mem,∀ b o,A b o=if Qz H B b then none else U b o:=⟨Dk _ _,FQ fun b o v e=>by rw[aV (fun ⟨i,l,c,m,n,E,_⟩=>by subst E; have:=M.g _ _ _ e; rw[a3E f m n] at this; cases this)]; exact t.le.mem _ _ _ ((DX M H B w).g _ _ _ e)⟩
 have hL:∀ b o,Qz H B b->A b o=none:=fun b o L=>by rw[K]; simp_all
 have hN:∀ b o,¬ Qz H B b->A b o=U b o:=fun b o L=>by rw[K]; simp_all
 have a':∀ b o,Qz H B b->M b o=none:=fun b o ⟨i,l,c,m,n,E,_⟩=>by grind [a3E]
 have b0:∀ b o,¬ Qz H B b->DX M H B w b o=M b o:=fun b o L=>by rw[WH f,aV (fun ⟨i,l,c,m,n,E,X,_⟩=>L ⟨i,l,c,m,n,E,X⟩)]
 have C:∀ b o,b<w.heap.size->A b o=M b o:=fun b o q=>by simp_all
 have N:eH M A B B:=⟨fun b o v e=>by have:=zl _ _ (x b o v e).1;rw[C b o this]; exact e,fun _ _ H=>H⟩;have b1:∀ b,aT w' H B b=aT w H B b:=fun b=>I7 b fun i l c m n=>Pg (z c.1 (y _ (FC i l c m n))).1
 refine ⟨v,A,B,rfl,fun b o u e => ?_,N,⟨t.fr.os,t.fr.tape,t.fr.output,t.fr.size,fun b q _=>⟨(z b q).1,fun o=>C b o q⟩⟩,⟨f.1,fun i l J => ?_⟩,Ro p hr t.rep,gU (Jn hr),fun b _ => ?_,fun b => ?_,fun b q => ?_⟩
 .by_cases L:Qz H B b;simp_all
  .rw[hN b o L] at e; exact t.mem b o u e
 .obtain ⟨c,D,vs,ty,m,n,E,X,h5⟩:=f.2 i l J;have O:=y _ (FC i l c J D);refine ⟨c,D,vs,ty,by rw[OB (z c.1 O).1,m],n,E,fun a d hj => ?_,fun o=>by rw[C c.1 o O]; exact h5 o⟩;obtain ⟨u,hu,Y,hT,Q⟩:=X a d hj;refine ⟨u,hu,Y.mono N,hT.kept fun b ho => ?_,Q⟩;have e1:=lY (w:=w) b J D;have e2:=yF b hj (by rw[rW m]; grind:(iO w c.1)[a]? = some u);have b2:=y b (by omega);simp_all
 grind [ed,Jn]
 grind [ed,Jn]
 grind [ed,Jn]
variable {L:ai}
theorem Ev.b'K {args:ai} (Z:Ev j g args [] (.sl true 1 L) []) (z:0<L.length) (K:L.all uw=true):Ev j g args [] (.slh 0 0 L.length 1) [some L]:=by
 refine ⟨Z.1,fun N M B w E n r F G hv => ?_⟩;have hz:∀ w b,aT w [] B b=0:=fun w b=>by simp[aT]
 refine (Z.2 N M B w E n r F G hv).mono fun e w' he => ?_
 obtain ⟨v,M1,B1,rfl,f⟩:=he;have O:B1 = []:=qg (by have:=f.heap.1; simp_all);have Q:B = []:=qg (by have:=r.1; simp_all);subst O;subst Q;have m:∀ w b,aT w [] [] b=0:=fun w b=>by simp[aT]
 obtain ⟨A,S,C,T,hs,_,hA⟩:=jo.1 f.rep;obtain ⟨b,a',rfl,hL⟩:=hA (fun e=>by rw[e] at z; simp at z);obtain ⟨_,_,ht⟩:=f.tl.s 1 L _ _ _ rfl C;obtain ⟨H,I,t1,t2,t3,_,t4⟩:=ht _ rfl;simp only at t1 t2 t3 t4;subst t4;have t:∀ d,bY (.sl true 1 L) v d=if b=d then 1 else 0:=fun d=>by rw[C]; rfl
 have b0:w.heap.size<=b:=by
  rcases zk b w.heap.size with h | h
  .have:=f.own b h;rw[m,m,t,ah rfl] at this;omega
  .exact h
 have J:=fun p hp=>Rn (ja.1 K p hp)
 have U:∀ (x:List Value) d,fG L x d=0:=by
  intro x d;have:∀ (l:ai) (x:List Value),(∀ p,p∈l->p.own=false)->fG l x d=0:=by
   intro l;induction l with
   | nil=>intro x _; cases x<;>rfl
   | cons p l ih =>
    intro x hl;cases x with
    | nil=>rfl
    | cons u x=>rw[fG,ed (hl p (by simp)),ih x fun q hq=>hl q (by simp[hq])]
  grind [Jn]
 have V:∀ d,aT w' [some L] [(b,H.size,I+1)] d=if b=d then 1 else 0:=fun d=>by grind [aT]
 obtain ⟨X,D⟩:∃ X:Mem,∀ d o,X d o=if d=b then none else M1 d o:=⟨Dk _ _,FQ fun d o u e=>by have:=zl _ _ (n d o u (M.g _ _ _ e)).1;simp only at this;rw[aV (by omega)]; exact f.le.mem _ _ _ (M.g _ _ _ e)⟩
 refine ⟨v,X,[(b,H.size,I+1)],rfl,fun d o u e => ?_,⟨fun d o u e => ?_,fun i c e=>by simp at e⟩,⟨f.fr.os,f.fr.tape,f.fr.output,f.fr.size,fun d y _ => ?_⟩,⟨rfl,fun i b1 Y => ?_⟩,uT.2 ⟨(b,H.size,I+1),S,⟨rfl,by simp⟩,C,T,by omega⟩,gU rfl,fun d y => ?_,fun d => ?_,fun d y => ?_⟩
 .rw[D] at e;split at e
  .cases e
  .exact f.mem d o u e
 .have:=zl _ _ (n d o u e).1;simp only at this;rw[D,aV (by omega)]; exact f.le.mem d o u e
 .have h1:=f.fr.blk d y (m w d);grind
 .cases i with
  | succ i=>simp at Y
  | zero =>simp at Y;subst Y;refine ⟨(b,H.size,I+1),rfl,H,I+1,E8 t1,⟨rfl,rfl⟩,by omega,fun a p hj => ?_,fun o=>by rw[D,ah rfl]⟩;obtain ⟨a1,a2,a3,a4⟩:=J p (qh hj);obtain ⟨u,hu,hr⟩:=(Aa a1 a2).1 (FN hL hj);have hc:=(f.mem _ _ _ hu);grind [Ro,gU,Jn,World.cell?]
 .rw[V,m,aV (by omega),ed rfl]; omega
 .have:=f.cnt d;rw[m,t] at this;rw[V,ed rfl]; omega
 .have:=f.new d y;rw[m,t] at this;rw[V,ed rfl]; omega
def zM (b:Nat) (e:PV):Bool:=match e with
 | .agg a=>Nat.beq a.length b&&a.all uw
 | _=>false
def aJU {b:Nat}:∀ {a:ai},a.all (zM b)=true->(gG a).length=a.length*b
 | [],_=>by simp[gG]
 | e::a,h=>by
  simp only[CO,bH] at h;cases e with
  | agg c =>have:=pI (by have:=h.1; simp only[zM,bH] at this; exact this.1);rw[gG,aZ,aJU h.2,bM,this,bT,LQ]; omega
  | _=>simp[zM] at h
theorem a8B {c:Nat}:∀ {a:ai},a.all (zM c)=true->(gG a).all uw=true
 | [],_=>rfl
 | e::a,h=>by
  simp only[CO,bH] at h;cases e with
  | agg f =>
   have b:=h.1;simp only[zM,bH] at b;rw[gG,List.all_append,a8B h.2,Bool.and_true,List.all_map];refine ja.2 fun p d => ?_
   have:=ja.1 b.2 p d;obtain ⟨a1,a2,a3,a4⟩:=Rn this;show uw p.un=true;cases p<;>first | exact this | (simp[PV.vg] at a3; done)
  | _=>simp[zM] at h
theorem aSY {M:Mem} {B:aS} {i b:Nat}:∀ {a:ai} {o:Nat},lS M B i a b o->a.all (zM i)=true->∀ {q:Nat} {p:PV},(gG a)[q]? = some p->∃ u,M b (o+q)=some u/\eU M B p u
 | [],_,_,_,q,p,h=>by simp_all
 | e::a,o,m,c,q,p,h=>by
  simp only[CO,bH] at c;obtain ⟨n,r⟩:=RH.1 m;cases e with
  | agg j =>
   have l:=c.1;simp only[zM,bH] at l;have t:=pI l.1;rw[gG] at h;rcases zk q j.length with hq | hq
   .rw[vJ (by simpa using hq),lN] at h;cases d:j[q]? with
    | none=>simp[d] at h
    | some x =>
     rw[d] at h; injection h with h; subst h
     obtain ⟨u,f,g⟩:=Ph (zI.1 n) d;exact ⟨u,f,qB.2 g⟩
   .rw[Il (by simpa using hq)] at h;simp only[bM] at h;obtain ⟨u,f,g⟩:=aSY r c.2 h;exact ⟨u,by rw[<- f]; congr 1; omega,g⟩
  | _=>have:=c.1; simp[zM] at this
theorem Ev.b'M {args:ai} (h0:Ev j g args [] (.sl true i L) []) (C:0<L.length) (D:L.all (zM i)=true):Ev j g args [] (.slh 0 0 L.length i) [some (gG L)]:=by
 refine ⟨h0.1,fun S M B w H r t I J hv => ?_⟩;have hz:∀ w b,aT w [] B b=0:=fun w b=>by simp[aT]
 refine (h0.2 S M B w H r t I J hv).mono fun e w' he => ?_
 obtain ⟨v,M1,B1,rfl,m⟩:=he;have T:B1 = []:=qg (by have:=m.heap.1; simp_all);have U:B = []:=qg (by have:=t.1; simp_all);subst T;subst U;have n:∀ w b,aT w [] [] b=0:=fun w b=>by simp[aT]
 obtain ⟨A,V,E,K,hs,_,hA⟩:=jo.1 m.rep;obtain ⟨b,a',rfl,hL⟩:=hA (fun e=>by rw[e] at C; simp at C);obtain ⟨_,_,ht⟩:=m.tl.s i L _ _ _ rfl E;obtain ⟨G,N,t1,t2,t3,_,t4⟩:=ht _ rfl;simp only at t1 t2 t3 t4;subst t4;have x:∀ f,bY (.sl true i L) v f=if b=f then 1 else 0:=fun f=>by rw[E]; rfl
 have b0:w.heap.size<=b:=by
  rcases zk b w.heap.size with h | h
  .have:=m.own b h;rw[n,n,x,ah rfl] at this;omega
  .exact h
 have X:=aJU D;have O:=fun p hp=>Rn (ja.1 (a8B D) p hp)
 have Y:∀ (y:List Value) f,fG (gG L) y f=0:=by
  intro y f;have:∀ (l:ai) (y:List Value),(∀ p,p∈l->p.own=false)->fG l y f=0:=by
   intro l;induction l with
   | nil=>intro y _; cases y<;>rfl
   | cons p l ih =>
    intro y hl;cases y with
    | nil=>rfl
    | cons u y=>rw[fG,ed (hl p (by simp)),ih y fun q hq=>hl q (by simp[hq])]
  grind [Jn]
 have Z:∀ f,aT w' [some (gG L)] [(b,G.size,N+1)] f=if b=f then 1 else 0:=fun f=>by grind [aT]
 have Q:L.length*i<=G.size:=lD (wO _ K) (by omega);obtain ⟨M2,F⟩:∃ M2:Mem,∀ f o,M2 f o=if f=b then none else M1 f o:=⟨Dk _ _,FQ fun f o u e=>by have:=zl _ _ (r f o u (M.g _ _ _ e)).1;simp only at this;rw[aV (by omega)]; exact m.le.mem _ _ _ (M.g _ _ _ e)⟩
 refine ⟨v,M2,[(b,G.size,N+1)],rfl,fun f o u e => ?_,⟨fun f o u e => ?_,fun a c e=>by simp at e⟩,⟨m.fr.os,m.fr.tape,m.fr.output,m.fr.size,fun f z _ => ?_⟩,⟨rfl,fun a b1 hi => ?_⟩,uT.2 ⟨(b,G.size,N+1),V,⟨rfl,by simp⟩,E,K,by omega⟩,gU rfl,fun f z => ?_,fun f => ?_,fun f z => ?_⟩
 .rw[F] at e;split at e
  .cases e
  .exact m.mem f o u e
 .have:=zl _ _ (r f o u e).1;simp only at this;rw[F,aV (by omega)]; exact m.le.mem f o u e
 .have h1:=m.fr.blk f z (n w f);grind
 .cases a with
  | succ a=>simp at hi
  | zero =>simp at hi;subst hi;refine ⟨(b,G.size,N+1),rfl,G,N+1,E8 t1,⟨rfl,rfl⟩,by rw[X]; exact Q,fun d p hj => ?_,fun o=>by rw[F,ah rfl]⟩;obtain ⟨a1,a2,a3,a4⟩:=O p (qh hj);obtain ⟨u,hu,hr⟩:=aSY hL D hj;rw[rP] at hu;have hc:=(m.mem _ _ _ hu);grind [Ro,gU,Jn,World.cell?]
 .rw[Z,n,aV (by omega),ed rfl]; omega
 .have:=m.cnt f;rw[n,x] at this;rw[Z,ed rfl]; omega
 .have:=m.new f z;rw[n,x] at this;rw[Z,ed rfl]; omega
theorem bXS (f:Nat->Nat):∀ {p:PV},uw p=true->kV f p=p:=fun {p} h=>by obtain ⟨b,c,a,_⟩:=Rn h;cases p<;>first | rfl | (simp[PV.vg] at a; done) | simp_all | simp_all
theorem aDQ (f:Nat->Nat):∀ {a:ai},a.all uw=true->lL f a=a
 | [],_=>rfl
 | p::a,h=>by simp only[CO,bH] at h;rw[lL,bXS f h.1,aDQ f h.2]
mutual
theorem aVS (f:Nat->Nat):∀ p:PV,p.flat=true->kV f p=p
 | .func _ a c,h=>by simp only[PV.flat,bH] at h; simp only[kV,Nz f a h.1,Nz f c h.2]
 | .agg b,h=>by simp only[PV.flat] at h; simp only[kV,Nz f b h]
 | .tuple b,h=>by simp only[PV.flat] at h; simp only[kV,Nz f b h]
 | .ptr _ _,h=>by simp[PV.flat] at h
 | .dZ _ _,h=>by simp[PV.flat] at h
 | .slh _ _ _ _,h=>by simp[PV.flat] at h
 | .int _ _,_=>rfl
 | .bool _,_=>rfl
 | .str _,_=>rfl
 | .nilp,_=>rfl
 | .raw _,_=>rfl
 | .cst _,_=>rfl
 | .sl _ _ _,_=>rfl
 | .dn _,_=>rfl
 | .iI _ _ _ _,_=>rfl
 | .mp _,_=>rfl
theorem Nz (f:Nat->Nat):∀ a:ai,PV.flats a=true->lL f a=a
 | [],_=>rfl
 | p::a,h=>by simp only[PV.flats,bH] at h;rw[lL,aVS f p h.1,Nz f a h.2]
end
mutual
theorem aHH {D:Nat->Bool}:∀ p:PV,p.flat=true->p.allI D=true
 | .func _ a c,h=>by simp only[PV.flat,bH] at h; simp only[PV.allI,Lu a h.1,Lu c h.2,LD]
 | .agg b,h=>by simp only[PV.flat] at h; simp only[PV.allI,Lu b h]
 | .tuple b,h=>by simp only[PV.flat] at h; simp only[PV.allI,Lu b h]
 | .ptr _ _,h=>by simp[PV.flat] at h
 | .dZ _ _,h=>by simp[PV.flat] at h
 | .slh _ _ _ _,h=>by simp[PV.flat] at h
 | .int _ _,_=>rfl
 | .bool _,_=>rfl
 | .str _,_=>rfl
 | .nilp,_=>rfl
 | .raw _,_=>rfl
 | .cst _,_=>rfl
 | .sl _ _ _,_=>rfl
 | .dn _,_=>rfl
 | .iI _ _ _ _,_=>rfl
 | .mp _,_=>rfl
theorem Lu {D:Nat->Bool}:∀ a:ai,PV.flats a=true->PV.oQ D a=true
 | [],_=>rfl
 | p::a,h=>by simp only[PV.flats,bH] at h;simp only[PV.oQ,aHH p h.1,Lu a h.2,LD]
end
theorem Ev.thaw {args:ai} (e:Ev j g args [] (.sl true 1 L) []) (f:PV.flats args=true) (a:0<L.length) (c:L.all uw=true):Ev j g args H (.slh H.length 0 L.length 1) (H ++ [some L]):=by
 have l:=Ev.b'K e a c;have m:lL (uy []) args=args:=Nz _ _ f;have n:=Ev.sub (ids := []) (H:=H) (y5:=args) (r := .slh 0 0 L.length 1) (h' := [some L]) (by rw[m]; exact l) rfl (fun i d=>by simp at d) (by
  have:∀ b:ai,PV.flats b=true->PV.oQ (oD []) b=true:=fun b h=>Lu b h
  simp_all) (fun i o d=>by simp at d)
 grind [yx,nH,uX,aDQ,kV,sH]
theorem Ev.b'L {args:ai} (f:Ev j g args [] (.sl true i L) []) (l:PV.flats args=true) (b:0<L.length) (d:L.all (zM i)=true):Ev j g args H (.slh H.length 0 L.length i) (H ++ [some (gG L)]):=by
 have m:=Ev.b'M f b d;have n:lL (uy []) args=args:=Nz _ _ l;have o:=Ev.sub (ids := []) (H:=H) (y5:=args) (r := .slh 0 0 L.length i) (h' := [some (gG L)]) (by rw[n]; exact m) rfl (fun a e=>by simp at e) (by
  have:∀ c:ai,PV.flats c=true->PV.oQ (oD []) c=true:=fun c h=>Lu c h
  simp_all) (fun a p e=>by simp at e)
 grind [yx,nH,uX,aDQ,a8B,kV,sH]
end Go.Proofs.YtagkcbgkhgccmaaGreatDoor
end

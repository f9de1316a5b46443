/- A part of the proof. -/
import Derived.Test.YtmbehibpfkkjbaaGreatDoorPs2
import Derived.ProofKit
import Derived.SizedLaws
import Derived.Deep.Slices
import Derived.Deep.Fields
import Derived.ChangeArms
import Derived.OpenShut
import Derived.ChangeOld
import Derived.RangeFuncIn
import Derived.OrdersIn
import Derived.TacticsIn
import Derived.LoopNIn
import Derived.RangeFuncRecord
import Derived.RangeFuncLeaves
set_option linter.unusedVariables false
set_option linter.defProp false
set_option linter.unusedSimpArgs false
set_option linter.unnecessarySimpa false
set_option linter.unusedSectionVars false
noncomputable section
namespace Go.Proofs.YtmbehibpfkkjbaaGreatDoor
open Go.RowKit
section
variable {E:AE} {ops:Array Oper} {K:ASt->Prop}
end
end Go.Proofs.YtmbehibpfkkjbaaGreatDoor
namespace Go.Proofs.YtmbehibpfkkjbaaGreatDoor
open Go.RowKit Go.ChangeShapes Go.WideShapes Go.ChangeAt
def F_ (w:World) (b o:Nat):Option Value:=match w.cell? ⟨b,o,none⟩ with | some v=>if v.oneCell' then some v else none | none=>none
variable {a:World} {b o:Nat} {b2:Value} {y:Program}
theorem aJD:F_ a b o=some b2↔a.cell? ⟨b,o,none⟩=some b2/\b2.oneCell'=true:=by grind [F_]
def GW (w:World):Prop:=∃ m,∀ b o v,Dh m b o=some v->F_ w b o=some v
def whole (w:World) (h:GW w):Mem:=⟨Classical.choose h,F_ w,Classical.choose_spec h⟩
def aJE {c:GW a}:whole a c b o=some b2↔a.cell? ⟨b,o,none⟩=some b2/\b2.oneCell'=true:=aJD
def cAY (w:World) (a:GW w):BH (whole w a) w:=fun _ _ _ h=>aJE.1 h
theorem Ev.top {g:FuncId} {args:ai} {r:PV} {j:GW a} {c:Array Value} (h:Ev y g args [] r []) (o:bI (whole a j) [] args c.toList) :
 Calls y g c a fun e l=>∃ v f,e = .returned v/\dC f [] r v/\BH f l/\Below a.heap.size a l:=by
 have m:∀ a b,aW a [] [] b=0:=fun a b=>by simp[aW]
 refine (h.2 (fun _=>0) (whole a j) [] a c (cAY a j) ⟨rfl,fun i t p=>by simp at p⟩ (fun b=>by rw[m]; omega) (fun b _=>by rw[m]) o).mono fun e l he => ?_
 obtain ⟨v,f,q,rfl,d⟩:=he;have n:q = []:=oK (by have:=d.heap.1; simp_all);subst n;exact ⟨v,f,rfl,d.rep,d.mem,d.fr.os,d.fr.tape,d.fr.output,d.fr.size,fun k hk=>(d.fr.blk k hk (m a k)).1⟩
def I7 (P:Program) (t:TypeId):Bool:=match P.underlying t with | some (.struct _) | some (.array ..)=>true | _=>false
def zt (P:Program) (t:TypeId) (a:ai):PV:=if I7 P t then .agg a else a.headD .nilp
def ed (P:Program) (t:TypeId):List (Nat×TypeId):=match P.underlying t with
 | some (.struct a)=>a.toList.map fun f=>(f.offset,f.type)
 | some (.array n e)=>(List.range n).map fun i=>(i*P.cellsOf e,e)
 | _ => []
def jW (P:Program):Nat->TypeId->ai->Prop
 | 0,_,_=>False
 | fuel+1,t,a=>match P.underlying t with
  | some .bool=>∃ b,a = [.bool b]
  | some (.int k)=>∃ n,a = [.int k n]/\(Lit.int k n).wf=true
  | some .string=>∃ s:ByteArray,a = [.str s]/\s.size<=reachBytes
  | some (.slice e)=>∃ c:ai,a = [.sl false (P.cellsOf e) c]/\c.length*P.bytesOf e<=reachBytes/\∀ p,p∈c->∃ d,jW P fuel e d/\p=zt P e d
  | some (.struct _) | some (.array ..)=>a.length=P.cellsOf t/\∀ x,x∈ed P t->jW P fuel x.2 ((a.drop x.1).take (P.cellsOf x.2))
  | _=>False
def JS (P:Program) (a:Nat):Nat->List (Nat×TypeId)->Bool
 | off,[]=>off==a
 | off,x::l=>x.1==off&&JS P a (off+P.cellsOf x.2) l
def aB4 (P:Program) (l:List TypeId):Bool:=l.all fun t=>match P.underlying t with
 | some .bool=>P.cellsOf t==1
 | some (.int _)=>P.cellsOf t==1
 | some .string=>P.cellsOf t==1
 | some (.slice e)=>l.contains e&&decide (0<P.cellsOf e)&&P.cellsOf t==1
 | some (.struct _)=>(ed P t).all (fun x=>l.contains x.2)&&JS P (P.cellsOf t) 0 (ed P t)
 | some (.array ..)=>(ed P t).all (fun x=>l.contains x.2)&&JS P (P.cellsOf t) 0 (ed P t)
 | _=>false
theorem a_B {M:Mem} {B:aT}:∀ {d b:ai} {c a:List Value},bI M B d c->bI M B b a->bI M B (d ++ b) (c ++ a)
 | [],b,c,a,h,k=>by rw[gZ] at h; simp_all
 | p::d,b,c,a,h,k=>by obtain ⟨u,e,rfl,f,g⟩:=eP.1 h;exact eP.2 ⟨u,e ++ a,rfl,f,a_B g k⟩
theorem b1Y {P:Program} {a:Nat}:∀ {l:List (Nat×TypeId)} {b:Nat},JS P a b l=true->b<=a/\∀ x,x∈l->b<=x.1
 | [],b,h=>by grind [JS]
 | x::l,b,h=>by simp only[JS,bQ,qi] at h;obtain ⟨c,d⟩:=b1Y h.2;grind
theorem aIL {P:Program} {M:Mem} {S:TypeId->ai->Prop} {cs:List Value}:∀ {l:List (Nat×TypeId)} {off:Nat},JS P cs.length off l=true ->
 (∀ x,x∈l->∃ a,S x.2 a/\bI M [] a ((cs.drop x.1).take (P.cellsOf x.2))/\∀ v,v∈(cs.drop x.1).take (P.cellsOf x.2)->v.oneCell'=true)->∃ b,bI M [] b (cs.drop off)/\(∀ v,v∈cs.drop off->v.oneCell'=true)/\∀ x,x∈l->S x.2 ((b.drop (x.1-off)).take (P.cellsOf x.2))
 | [],off,h,_=>by simp[JS] at h; subst h;exact ⟨[],by rw[List.drop_length]; exact gZ.2 rfl,by simp,by simp⟩
 | x::l,off,h,d=>by
  simp only[JS,bQ,qi] at h;obtain ⟨e,f⟩:=h;subst e;obtain ⟨i,j⟩:=b1Y f;obtain ⟨a,hq,m,o⟩:=d x (by simp);obtain ⟨b,p,n,q⟩:=aIL f fun y c=>d y (by simp[c])
  have g:a.length=P.cellsOf x.2:=by rw[sS m,ve,qH]; omega
  refine ⟨a ++ b,?_,fun v hv => ?_,fun y c => ?_⟩;grind [a_B,List.drop_drop,List.take_append_drop]
  grind [List.take_append_drop,List.drop_drop]
  .rcases jy.1 c with rfl | c
   simp_all;grind [List.drop_append,List.drop_eq_nil_of_le]
def aJC {H:Type} {P:Program} {e:TypeId}:∀ {a:List (DataW H)} {d:DataW H} {n:Nat},d∈a->n∈d.weights P e->n∈DataW.weightsAll P e a
 | d0::a,d,n,b,c=>by
  rw[DataW.weightsAll,DZ];rcases jy.1 b with rfl | b
  .exact .inl c
  .exact .inr (aJC b c)
theorem aXY {a:Type} {R:Nat->a->Prop}:∀ n:Nat,(∀ j,j<n->∃ p,R j p)->∃ l:List a,l.length=n/\∀ (j:Nat) p,l[j]? = some p->R j p
 | 0,_=>⟨[],rfl,by simp⟩
 | n+1,h=>by
  obtain ⟨l,b,c⟩:=aXY n fun j d=>h j (by omega)
  obtain ⟨p,e⟩:=h n (by omega);refine ⟨l ++ [p],by simp[b],fun j q hq => ?_⟩;grind
theorem b0N {t:TypeId} {c:ai} (h:jW y b t c) (d:I7 y t=false):∃ q,c = [q]/\q.isAgg=false/\(∀ e,q ≠ .tuple e)/\q.size=1:=by
 cases b with
 | zero=>exact h.elim
 | succ b =>
  unfold jW at h;unfold I7 at d;split at h
  .obtain ⟨a,rfl⟩:=h; simp
  .obtain ⟨a,rfl,_⟩:=h; simp
  .obtain ⟨a,rfl,_⟩:=h; simp
  .obtain ⟨a,rfl,_⟩:=h; simp
  .simp_all
  .simp_all
  simp_all
section
variable {H:Type} {enc:TypeId×Value->H} {W:World} {hW:GW W} {P:Program}
theorem b9R {e:TypeId} {l:ai} {d:List Value} (r:jW P b e l) (m:bI (whole W hW) [] l d) (A:d.length=P.cellsOf e) (o:∀ v,v∈d->v.oneCell'=true) :
 (zt P e l).size=P.cellsOf e/\∀ a c,(∀ i,i<d.length->W.cell? ⟨a,c+i,none⟩=d[i]?)->Loc (whole W hW) [] (zt P e l) a c:=by
 unfold zt;have g:=sS m;cases t:I7 P e with
 | true =>refine ⟨by simp_all,fun a c h=>CZ.2 (OH fun j p w => ?_)⟩;obtain ⟨u,f,n⟩:=yI m w;exact ⟨u,aJE.2 ⟨(h j (jr.1 f).1).trans f,o u (tC f)⟩,n⟩
 | false =>
  obtain ⟨q,rfl,x,y,B⟩:=b0N r t;have z:d.length=1:=by rw[<- g]; rfl
  refine ⟨by simp_all,fun a c h=>(BF x y).2 ?_⟩;obtain ⟨u,f,n⟩:=yI m (j:=0) (p:=q) rfl;exact ⟨u,aJE.2 ⟨(h 0 (by omega)).trans f,o u (tC f)⟩,n⟩
theorem aL6 (b a n:Nat):(⟨b,a,none⟩:Addr).add n=⟨b,a+n,none⟩:=by grind [Addr.add]
theorem uH {l:List TypeId} (hl:aB4 P l=true):∀ (c:Nat) (t:TypeId) (cs:List Value) (x:DataW H×List MemPlace),t∈l->DataW.trod enc P W 0 (fun _=>true) true c t cs=some x->(∀ n,n∈x.1.weights P t->n<=reachBytes) ->
 ∃ U,jW P c t U/\bI (whole W hW) [] U cs/\cs.length=P.cellsOf t/\∀ v,v∈cs->v.oneCell'=true:=by
 intro c;induction c with
 | zero=>intro t cs x _ h; simp[DataW.trod] at h
 | succ c ih =>
  intro t cs x ht h V;have o:=jq.1 hl t ht;simp only[jW];cases d:P.underlying t with
  | none=>rw[d] at o; cases o
  | some ty =>
   cases ty with
   | bool =>simp only[d] at o;obtain ⟨b,rfl,_⟩:=DataW.trod_bool d h;exact ⟨[.bool b],⟨b,rfl⟩,eP.2 ⟨_,_,rfl,oh.2 rfl,gZ.2 rfl⟩,(eq_of_beq o).symm,by simp_all⟩
   | int k =>simp only[d] at o;obtain ⟨n,rfl,_,hn⟩:=DataW.trod_int d h;exact ⟨[.int k n],⟨n,rfl,hn⟩,eP.2 ⟨_,_,rfl,iK.2 rfl,gZ.2 rfl⟩,(eq_of_beq o).symm,by simp_all⟩
   | string =>simp only[d] at o;obtain ⟨s,rfl,rfl,hn⟩:=DataW.trod_string d h;exact ⟨[.str s],⟨s,rfl,by have:=V s.size (by simp[DataW.weights]); exact this⟩,eP.2 ⟨_,_,rfl,kz.2 rfl,gZ.2 rfl⟩,(eq_of_beq o).symm,by simp_all⟩
   | slice e =>
    simp only[d,bQ,tJ,qi,List.contains_iff_mem] at o;obtain ⟨⟨he,J⟩,h1⟩:=o;rcases DataW.trod_slice d h with ⟨rfl,rfl⟩|⟨a,B,K,w,D,n',r,rfl,rfl,_,a',_,b9,E,b0,_⟩
    .exact ⟨[.sl false (P.cellsOf e) []],⟨[],rfl,by simp,by simp⟩,eP.2 ⟨_,_,rfl,lM.2 ⟨none,0,rfl,dO _,by simp,fun _=>⟨rfl,rfl,rfl⟩,by simp⟩,gZ.2 rfl⟩,h1.symm,by simp_all⟩
    .injection r with r; subst r
     have L:∀ k,k∈(DataW.slice (w.map (·.1)) (D.map (·.1)):DataW H).weights P t->k<=reachBytes:=V;have b1:B*P.bytesOf e<=reachBytes:=by have:=L ((w.length+D.length)*P.bytesOf e) (by simp[DataW.weights,d]);grind
     have N:∀ j,j<B->∃ p,(∃ I,jW P c e I/\p=zt P e I)/\p.size=P.cellsOf e/\∀ b off,a=⟨b,off,none⟩->Loc (whole W hW) [] p b (off+j*P.cellsOf e):=by
      intro j hj;have g:=E j hj;rw[kV (by omega)] at g;obtain ⟨u,z,b2⟩:=b3O.1 g;obtain ⟨I,X,q2,q3,q4⟩:=ih e u _ he b2 fun k hk=>L k (by simp only[DataW.weights,d,jy,DZ];exact .inr (.inl (aJC (uu.2 ⟨_,dZ (by omega),rfl⟩) hk)))
      obtain ⟨s1,s2⟩:=b9R X q2 q3 q4;refine ⟨_,⟨I,X,rfl⟩,s1,fun b off b3=>s2 b _ fun i Y => ?_⟩;obtain ⟨_,_,q⟩:=World.cells?_some z;have:=q i (by omega);rw[b3,aL6,aL6] at this;exact this
     have b4:K≠0->∃ b off,a=⟨b,off,none⟩:=fun b7=>by
      have b':∀ k u,k=0->W.cells? 0 (a.add k) (P.cellsOf e)=some u->a.spot=none:=fun k u hk z=>by subst hk;obtain ⟨_,h2,q⟩:=World.cells?_some z;have:=q 0 J;rw[kV (by omega)] at this;grind [Addr.add,World.cell?_spot]
      have:a.spot=none:=by
       by_cases Z:0<B
       .have g:=E 0 Z;rw[kV (by omega)] at g;obtain ⟨u,z,_⟩:=b3O.1 g;simp_all
       .obtain ⟨r1,r2⟩:=b0 rfl;have g:=r2 0 (by omega);rw[kV (by omega)] at g;obtain ⟨u,z,_⟩:=b3O.1 g;grind
      exact ⟨a.block,a.off,by cases a; simp_all⟩
     obtain ⟨es,m,c0⟩:=aXY B N;subst m;refine ⟨[.sl false (P.cellsOf e) es],⟨es,rfl,b1,fun p F => ?_⟩,eP.2 ⟨_,_,rfl,lM.2 ⟨some a,K,rfl,a',fun p F => ?_,fun Z=>by omega,fun b5 => ?_⟩,gZ.2 rfl⟩,h1.symm,by simp_all⟩
     .obtain ⟨j,hj⟩:=Jh.1 F;grind
     .obtain ⟨j,hj⟩:=Jh.1 F;grind
     .have b8:es.length≠0:=fun Z=>b5 (oK Z)
      grind [Cb]
   | struct fs =>
    simp only[d,bQ,jq,List.contains_iff_mem] at o;obtain ⟨hm,O⟩:=o;obtain ⟨xs,n,r,rfl,m,Q,hg⟩:=DataW.trod_struct d h;injection r with r; subst r
    rw[<- m] at O;obtain ⟨U,p1,p2,p3⟩:=aIL (M:=whole W hW) (S:=jW P c) (cs:=cs) (off:=0) O fun y T=>by
     have F:ed P t=fs.toList.map fun f=>(f.offset,f.type):=by unfold ed; rw[d]
     obtain ⟨f,r,G⟩:=uu.1 (F▸T);obtain ⟨i,Y⟩:=Jh.1 r;have b6:fs[i]? = some f:=by grind
     have C:i<xs.length:=by rw[Q]; grind
     have A:=hg i f b6;rw[kV C] at A;subst G;obtain ⟨I,X,q2,q3,q4⟩:=ih f.type _ _ (hm _ T) A fun k hk=>V k (by simp only[DataW.weights,d];exact DataW.weights_mem_each (j:=i) (t:=f.type) (by rw[nP,Y]; rfl) (by rw[nP,kV C]; rfl) k hk)
     grind
    rw[List.drop_zero] at p1 p2;grind [sS]
   | array n e =>
    simp only[d,bQ,jq,List.contains_iff_mem] at o;obtain ⟨hm,O⟩:=o;obtain ⟨xs,n',r,rfl,m,Q,hg⟩:=DataW.trod_array d h;injection r with r; subst r
    rw[<- m] at O;obtain ⟨U,p1,p2,p3⟩:=aIL (M:=whole W hW) (S:=jW P c) (cs:=cs) (off:=0) O fun y T=>by
     have F:ed P t=(List.range n).map fun i=>(i*P.cellsOf e,e):=by unfold ed; rw[d]
     obtain ⟨i,Y,G⟩:=uu.1 (F▸T);have C:i<n:=Aa.1 Y;have A:=hg i C;rw[kV (by omega)] at A;subst G;obtain ⟨I,X,q2,q3,q4⟩:=ih e _ _ (hm _ T) A fun k hk=>V k (by simp only[DataW.weights,d];exact aJC (uu.2 ⟨_,dZ (by omega),rfl⟩) hk)
     grind
    rw[List.drop_zero] at p1 p2;grind [sS]
   | _=>simp only[d] at o; cases o
theorem qB {l:List TypeId} (m:aB4 P l=true) {r:Reach} {t:TypeId} {v:Value} {d:DataW H} {o:List MemPlace} (p:t∈l) (hv:Value.okWide P W r b t v) (h:DataW.Trod enc P W 0 (fun _=>true) true t v d o) (w:∀ n,n∈d.weights P t->n<=reachBytes) :
 ∃ a e,jW P a t e/\dC (whole W hW) [] (zt P t e) v:=by
 obtain ⟨a,x⟩:=h;obtain ⟨e,f,g,y,z⟩:=uH m a t _ _ p x w;refine ⟨a,e,f,?_⟩;unfold zt;cases i:I7 P t with
 | true =>
  have:∃ c,v = .agg c:=by grind [Value.okWide,I7]
  obtain ⟨c,rfl⟩:=this;rw[ay rfl];exact rF.2 ⟨c,rfl,g⟩
 | false =>
  obtain ⟨q,rfl,A,h6,B⟩:=b0N f i;obtain ⟨u,C,D,hq,j⟩:=eP.1 g;rw[gZ] at j; subst j;simp only[V8,if_false,List.headD_cons];have:v.cells.toList = [v]\/∃ c,v = .agg c:=by cases v<;>first | exact .inr ⟨_,rfl⟩ | exact .inl rfl
  rcases this with h | ⟨c,rfl⟩
  simp_all
  .exfalso;unfold Value.okWide at hv;unfold I7 at i;split at hv
   .simp_all
   .simp_all
   .unfold Cell.okWide at hv;split at hv<;>simp_all[Cell.ok]
end
end Go.Proofs.YtmbehibpfkkjbaaGreatDoor
namespace Go.Proofs.YtmbehibpfkkjbaaGreatDoor
open Go.RowKit
abbrev MJ (l:Nat):Fence:=Fence.wide.inRound l
section
variable {P:Program} {l n:Nat} {a:World} {p:Oper}
def b7X {f:FuncId} {args:Array Value} {R:Ending->World->Prop} (h:Calls P f args a R):CallsIn (MJ l) n P f args a R :=callsIn_wide.2 h
theorem c4Z {b:String} {args:Array Value} {R:Value->World->Prop} (h:Rows P b args a R):RowsIn (MJ l) n P b args a R :=fun c d _=>let ⟨v,e,r,s⟩:=h c d; ⟨v,e,r,stepsIn_wide.2 s⟩
theorem a'3 {b:Act} {K:Act->World->Prop} {Q:Exit->Act->World->Prop} (d:∀ c,p.op ≠ .defer c) (h:p.wp P b a K Q):p.wpIn (MJ l) n P b a K Q:=by
 refine ⟨fun _ _=>trivial,?_⟩;rw[show (MJ l).round=some l from rfl,Oper.semAt_some l b.eval p d];unfold Oper.wp at h;generalize (execOp b.eval p).run P a=r at *;cases r with
 | ok x e =>
  cases x<;>simp only[Oper.upon,Oper.uponIn] at h ⊢ <;>
   first
    | exact h
    | exact h.elim
    | exact ⟨fun h=>by simp[Fence.wide,Fence.inRound] at h,b7X h⟩
    | grind [Fence.wide,Fence.inRound,c4Z]
 | halt x e=>cases x<;>simp only[Oper.upon,Oper.uponIn] at h ⊢ <;> exact h
def PL (o:Oper):Bool:=match o.op with | .defer _=>false | _=>true
def aZK (h:PL p=true):∀ c,p.op ≠ .defer c:=fun c a=>by simp[PL,a] at h
theorem aER {c:Array Oper} {Q:Exit->Act->World->Prop} (e:¬ LetsOut Q):∀ (b:List Oper),(b.all PL)=true->∀ (a:Act) (w:World),wpList P c Q b a w->wpListIn (MJ l) n P c Q b a w
 | [],_,a,w,h=>h
 | o::b,d,a,w,h=>by
  simp only[DX,bQ] at d;unfold wpList at h;unfold wpListIn;split at h
  .rename_i f;rw[ay f];rcases h with h | h
   .exact Oper.wpIn_mono (fun a w=>aER e b d.2 a w) (a'3 (aZK d.1) h)
   .exact absurd h.2 e
  .rename_i f;rw[aX f];exact ⟨fun _ _=>trivial,aER e b d.2 _ _ h⟩
theorem Vy {md:Region.Mode} {b:Array Oper} {Q:Exit->Act->World->Prop} (e:¬ LetsOut Q) (d:b.all PL=true):∀ (fuel:Nat) (L:Array Bool) (a:Act) (w:World),wpAny P md b Q fuel L a w->wpAnyIn (MJ l) n P md b Q fuel L a w
 | 0,L,a,w,h=>h
 | fuel+1,L,a,w,h=>by
  refine ⟨h.1,fun i p => ?_⟩;have c:=h.2 i p;unfold wpOp at c;unfold wpOpIn;cases f:b[i]? with
  | none=>rw[f] at c; exact Vy e d fuel _ a w c
  | some o =>
   rw[f] at c;have g:PL o=true:=by obtain ⟨j,he⟩:=DW.1 f;rw[Array.all_eq_true] at d;rw[<- he]; exact d i j
   show if Region.wanted o (yielded b a.tmps)=true then _ else _
   have c:if Region.wanted o (yielded b a.tmps)=true then _ else _:=c
   split at c
   .rename_i m;rw[ay m];rcases c with c | c
    .exact Oper.wpIn_mono (fun a w=>Vy e d fuel _ a w) (a'3 (aZK g) c)
    .exact absurd c.2 e
   .rename_i m;rw[aX m];exact ⟨fun _ _=>trivial,Vy e d fuel _ _ _ c⟩
end
def qU:Code->Bool
 | .region _ a _=>a.all PL
 | .seq x y=>qU x&&qU y
 | .cond _ x y=>qU x&&qU y
 | .block _ x=>qU x
 | .loop x=>qU x
 | .scope _=>false
 | .rangeFunc _ _ _ _=>false
 | _=>true
section
variable {E:AE} {m0 l n:Nat} {out:Nat->Nat}
def aEP {M:Mem} {B:aT} {b:ASt} {t:Array Value} {w:World} {c:List Deferred} {Q:AX->ASt->Prop}:¬ LetsOut (rZ E out m0 M B b t w c Q):=by rintro ⟨a,f,d,e,g,i,h,_⟩;cases d<;>cases h
def IB (D:E.P.follows .mixedOrders=true):∀ (c:Code),qU c=true->∀ {M:Mem} {B:aT} {q:ASt} {a:Act} {w:World} {Q:AX->ASt->Prop},Inv E.n M B out q a.tmps w->fH E m0 c Q q->c.wpIn (MJ l) n E.P (rZ E out m0 M B q a.tmps w a.defers Q) a w
 | .skip,_,M,B,q,a,w,Q,r,h=>wpIn_skip ⟨.normal,q,M,B,rfl,h,rfl,fM.refl r⟩
 | .label _,_,M,B,q,a,w,Q,r,h=>wpIn_label ⟨.normal,q,M,B,rfl,h,rfl,fM.refl r⟩
 | .exit id,_,M,B,q,a,w,Q,r,h=>wpIn_exit ⟨.exit id,q,M,B,rfl,h,rfl,fM.refl r⟩
 | .ret,_,M,B,q,a,w,Q,r,h=>wpIn_ret ⟨.ret,q,M,B,rfl,h,rfl,fM.refl r⟩
 | .region id t N,p,M,B,q,a,w,Q,r,h=>by
  have hk:=a6K (E:=E) r;have p:t.all PL=true:=p;rw[fH] at h;cases N with
  | false =>simp only[V8,if_false] at h;exact wpIn_region_list (aER aEP _ (by rw[Array.all_toList]; exact p) _ _ (WC _ hk.inv h fun σ' u v J L hq d g=>⟨.normal,σ',u,v,rfl,hq,g,(hk.trans d).c⟩))
  | true =>
   simp only[FC] at h;have g:=hk.inv.drew;rcases h with ⟨T,h⟩ | h
   .obtain ⟨σ',hc,hq⟩:=aAT t.toList 0 (fun j=>by simp) h;have hu:rG t.size (Array.replicate t.size false)=List.range' 0 t.toList.length:=by unfold rG;rw[List.filter_eq_self.2 (fun i hi=>by have:=Aa.1 hi; simp[this]),aJQ]; simp
    refine wpIn_region_any D (Vy aEP p _ _ _ _ ?_);refine aLF T t.size (Array.replicate t.size false) (K:=Q .normal) (σ':=σ') (by simp) (by rw[hu]; simp) (fun j o _ h => ?_) g.1 (by rw[hu]; exact hc) hq fun u v J L U d z=>⟨.normal,σ',u,v,rfl,U,z,((hk.trans g.2).trans d).c⟩
    have h':(Array.replicate t.size false).getD j false=true:=h;simp[Array.getElem?_replicate] at h';split at h'<;>simp at h'
   .exact wpIn_region_any D (Vy aEP p _ _ _ _ (aAO t.size _ g.1 (a0P _ g.1.jo h) fun V u v J L hq d z=>⟨.normal,V,u,v,rfl,hq,z,((hk.trans g.2).trans d).c⟩))
 | .seq x y,p,M,B,q,a,w,Q,r,h=>by
  simp only[qU,bQ] at p;rw[fH] at h;refine Qd (wY (IB D x p.1 r h) fun e J L O => ?_);obtain ⟨S,σ',u,v,rfl,hq,g,d⟩:=O;cases S with
  | normal =>
   obtain ⟨ks,hq⟩:=hq;obtain ⟨M2,B2,hz⟩:=a2G (m0:=m0) ks d.inv;have d:=d.trans hz;rcases hq with hq | ⟨l,m,G,X,hq⟩
   .exact wY (IB D y p.2 d.inv hq) fun e a2 w2 A=>by rw[g] at A; exact a7O d A
   .have C:=d.trans (IZ d.inv G X);exact wY (IB D y p.2 C.inv hq) fun e a2 w2 A=>by rw[g] at A; exact a7O C A
  | ret=>exact ⟨.ret,σ',u,v,rfl,hq,g,d⟩
  | exit i=>exact ⟨.exit i,σ',u,v,rfl,hq,g,d⟩
 | .cond c x y,p,M,B,q,a,w,Q,r,h=>by
  simp only[qU,bQ] at p;rw[fH] at h;split at h
  .rename_i b H;have he:=oh.1 (r.rd _ _ H).1;refine wpIn_cond_split he (fun H=>IB D x p.1 r (h.1 H)) (fun H=>IB D y p.2 r (h.2 H))
  .exact h.elim
 | .block id x,p,M,B,q,a,w,Q,r,h=>by
  rw[fH] at h;refine wpIn_block (wY (IB D x (by simpa[qU] using p) r h) fun e J L O => ?_);obtain ⟨S,σ',u,v,rfl,hq,g,d⟩:=O;cases S with
  | normal=>exact ⟨.normal,σ',u,v,rfl,hq,g,d⟩
  | ret=>exact ⟨.ret,σ',u,v,rfl,hq,g,d⟩
  | exit i =>
   simp only[AX.toExit,Exit.inBlock];simp only[RV] at hq;split
   .rename_i e; rw[ay e] at hq; exact ⟨.normal,σ',u,v,rfl,hq,g,d⟩
   .rename_i e; rw[aX e] at hq; exact ⟨.exit i,σ',u,v,rfl,hq,g,d⟩
 | .scope x,p,_,_,_,_,_,_,_,_=>by simp[qU] at p
 | .loop x,p,M,B,q,a,w,Q,r,h=>by
  rw[fH] at h;obtain ⟨k,hk⟩:=h;refine wpIn_loop_rounds k ?_;have Y:∀ (k:Nat) (Z:Mem) (B1:aT) (F:ASt) (a1:Act) (w1:World),fM E.n out m0 M B q a.tmps w Z B1 F a1.tmps w1->a1.defers=a.defers->Pv m0 (fH E m0 x) Q k F->Code.roundsIn (MJ l) n E.P x (rZ E out m0 M B q a.tmps w a.defers Q) k a1 w1:=by
   intro k;induction k with
   | zero=>intro Z B1 F a1 w1 _ _ h; exact h.elim
   | succ k ih =>
    intro Z B1 F a1 w1 d g h;obtain ⟨l,m,G,X,H⟩:=h;have C:=IZ d.inv G X;rw[roundsIn_succ];refine wY (IB D x (by simpa[qU] using p) C.inv H) fun e J L O => ?_
    obtain ⟨S,σ',u,v,rfl,hq,z,b0⟩:=O;have I:=(d.trans C).trans b0;cases S with
    | normal=>exact ih u v σ' J L I (by rw[z,g]) hq
    | ret=>exact ⟨.ret,σ',u,v,rfl,hq,by rw[z,g],I⟩
    | exit i=>exact ⟨.exit i,σ',u,v,rfl,hq,by rw[z,g],I⟩
  exact Y k M B q a w (fM.refl r) rfl hk
 | .rangeFunc f ps az b,_,_,_,_,_,_,_,_,h=>by rw[fH] at h; exact h.elim
 | .goto l,_,_,_,_,_,_,_,_,h=>by rw[fH] at h; exact h.elim
 | .refuse l,_,_,_,_,_,_,_,_,h=>by rw[fH] at h; exact h.elim
end
structure uI (l n:Nat) (out:Nat->Nat) (m0:Nat) (M:Mem) (B:aT) (σ:ASt) (t:Array Value) (w:World) (M':Mem) (B':aT) (σ':ASt) (t':Array Value) (w':World):Prop where
 inv:Inv n M' B' out σ' t' w'
 mem:∀ (b o:Nat) (v:Value),M b o=some v->M' b o=some v
 pre:∀ (i:Nat) (c:Nat×Nat×TypeId),i<m0->B[i]? = some c->B'[i]? = some c
 os:w'.os=w.os
 tape:w'.tape=w.tape
 output:w'.output=w.output
 size:w.heap.size<=w'.heap.size
 blk:∀ b,b<w.heap.size->b≠l->fp B σ t w b=0->w'.heap[b]? = w.heap[b]? /\ ∀ o,M' b o=M b o
 own:∀ b,b<w.heap.size->fp B' σ' t' w' b<=fp B σ t w b
section
variable {n l:Nat} {out:Nat->Nat} {m0:Nat} {M M1 M2:Mem} {B B1 B2:aT} {σ σ1 σ2:ASt} {t t1 t2:Array Value} {w w1 w2:World}
def fM.gl (h:fM n out m0 M B σ t w M1 B1 σ1 t1 w1):uI l n out m0 M B σ t w M1 B1 σ1 t1 w1 :=⟨h.inv,h.mem,h.pre,h.fr.os,h.fr.tape,h.fr.output,h.fr.size,fun b a _ c=>h.fr.blk b a c,h.own⟩
theorem uI.trans (h:uI l n out m0 M B σ t w M1 B1 σ1 t1 w1) (k:uI l n out m0 M1 B1 σ1 t1 w1 M2 B2 σ2 t2 w2):uI l n out m0 M B σ t w M2 B2 σ2 t2 w2 :=
 ⟨k.inv,fun b o v e=>k.mem b o v (h.mem b o v e),fun i c d e=>k.pre i c d (h.pre i c d e),k.os.trans h.os,k.tape.trans h.tape,k.output.trans h.output,jO h.size k.size,
  fun b a f g=>by obtain ⟨j,m⟩:=h.blk b a f g;obtain ⟨k1,k2⟩:=k.blk b (VF a h.size) f (by have:=h.own b a; omega);simp_all,
  fun b a=>jO (k.own b (VF a h.size)) (h.own b a)⟩
def Wj (a:Inv n M B out σ t w) (b:1<=out l):fp B σ t w l=0:=by have:=a.cnt l; omega
variable {r:Loop}
theorem aG3 (a:Inv n M B out σ t w) (e:1<=out l) (g:w.heap[l]? = some (.loop r)) (c:Loop):uI l n out m0 M B σ t w M B σ t (w.putObj l (.loop c)):=by
 have i:=Wj a e;have d:=a.ext (M':=M) (w':=w.putObj l (.loop c)) (gQ.refl _ _) (fun b o v h=>by
  obtain ⟨j,m⟩:=a.mem b o v h;grind [World.cell?,World.putObj_heap_other]) (fun b p=>by
  grind [World.putObj_heap_other]) (by simp)
 exact ⟨d.1,fun _ _ _ h=>h,fun _ _ _ h=>h,rfl,rfl,rfl,by simp,fun b _ f _=>⟨World.putObj_heap_other f,fun _=>rfl⟩,fun b _=>by rw[d.2]; omega⟩
def Yw (b:Inv n M B out σ t w) (c:1<=out l) (a:w.heap[l]? = some (.loop r)) (d:fM n out m0 M B σ t w M1 B1 σ1 t1 w1):w1.heap[l]? = some (.loop r):=by have e:l<w.heap.size:=(DW.1 a).1;rw[(d.fr.blk l e (Wj b c)).1]; exact a
end
def AX.jump:AX->Option Code
 | .normal=>none
 | .ret=>some .ret
 | .exit i=>some (.exit i)
variable {a O:World} {b o J:Nat} {I:Code} {h:Nat->Nat} {e x:Mem} {d i:aT} {g A:ASt} {f L:Array Value} {m:FuncId} {r:Loop} {b8:gp} {U:AE} {p:Oper} {u:Act} {D:Act->World->Prop} {G:Exit->Act->World->Prop} {y:Program} {Z:SE} {C:aH} {T:Type} {a':R}
def Y2 {o o':Obj} (h:a.heap[b]? = some o):(a.putObj b o').heap[b]? = some o':=by have c:b<a.heap.size:=(DW.1 h).1;simp[World.putObj,c]
theorem c4X {E:AE} (L:E.P.follows .mixedOrders=true) {assign b:Code} (O:qU assign=true) (S:qU b=true) {n l m0:Nat} {o:Nat->Nat} {M:Mem} {B:aT} {A:ASt} {t:Array Value} {w:World} {f:FuncId}
 (N:Inv E.n M B o A t w) (z:1<=o l) {r:Loop} (T:w.heap[l]? = some (.loop r)) (C:r.state = .ready) {Q:AX->ASt->Prop}
 (h:fH E m0 assign (Ff (fH E m0 b Q) fun _ _=>False) A) {R:Ending->World->Prop}
 (D:∀ m y U V X F,Q m y->uI l E.n o m0 M B A t w U V y X F->F.heap[l]? = some (.loop { r with state:=if m.jump.isNone then .ready else .done,pending:=m.jump })->R (.returned (.bool m.jump.isNone)) F) :
 RoundIn Fence.wide n E.P l f t assign b w R:=by
 refine roundIn_of_wpIn trivial ?_;refine wY (IB (n:=n) (l:=l) L assign O (a := { tmps:=t,defers := [] }) N h) fun e a1 w1 G => ?_
 obtain ⟨m,Y,M1,B1,rfl,hq,hd,H⟩:=G;cases m with
 | ret=>exact hq.elim
 | exit i=>exact hq.elim
 | normal =>
  have p:=Yw N z T H;have q:=aG3 (m0:=m0) H.inv z p { r with state := .busy };refine ⟨_,run_beginRound p C,?_⟩;have I:=Y2 (o' := .loop { r with state := .busy }) p;refine wY (IB (n:=n) (l:=l) L b S (a:=a1) q.inv hq) fun e a2 w2 G => ?_
  obtain ⟨m,u,J,K,rfl,v,Z,x⟩:=G;have c:=Yw q.inv z I x;have d:=fun j=>run_endRound (P:=E.P) j c
  have g:=fun j=>(((H.gl.trans q).trans x.gl).trans (aG3 (m0:=m0) x.inv z c { ({ r with state := .busy }:Loop) with state:=if Option.isNone j then .ready else .done,pending:=j }))
  cases m with
  | normal=>exact ⟨_,_,d none,D .normal u J K a2.tmps _ v (g none) (Y2 c)⟩
  | ret=>exact ⟨_,_,d (some .ret),D .ret u J K a2.tmps _ v (g (some .ret)) (Y2 c)⟩
  | exit i=>exact ⟨_,_,d (some (.exit i)),D (.exit i) u J K a2.tmps _ v (g (some (.exit i))) (Y2 c)⟩
theorem aFO (h:∀ c,c∈b8->c.2.own=false) (t:Array Value) (b:Nat):jZ b8 t b=0:=by
 induction b8 with
 | nil=>rfl
 | cons a l d =>grind [jZ,gY]
theorem aVM {n':Nat} {tr:Array Value} (l:Inv b e d h g f a) {sr:gp} (m:tr.size=n') (o:kD sr)
 (j:∀ i,i∈sr->i.1<n'/\dC e d i.2 (tr.getD i.1 undef)/\i.2.own=false):Inv n' e d (fun c=>h c+jZ g.s f c) ⟨sr,g.h⟩ tr a:=by
 have r:∀ c,jZ sr tr c=0:=aFO (fun i hk=>(j i hk).2.2) tr;refine ⟨m,l.mem,o,fun k p hk => ?_,l.heap,fun c => ?_,fun c q => ?_⟩
 .obtain ⟨u,v,x⟩:=j _ (a8Z hk);grind [ig]
 .have:=l.cnt c; grind [fp]
 .have:=l.new c q; grind [fp]
theorem c8A (h:∀ (a:Nat) (c:Nat×Nat×TypeId),a<d.length->d[a]? = some c->i[a]? = some c):i.take d.length=d:=by apply QX;grind
theorem b3G {l n F m0:Nat} {f:Nat->Nat} {M v:Mem} {B z:aT} {g σr d:ASt} {t A C:Array Value} {w u:World} (r:Inv n M B f g t w) (Q:1<=f l)
 (S:σr.h=g.h) (G:∀ D,D∈σr.s->D.2.own=false) (H:m0=g.h.length)
 (a:uI l F (fun b=>f b+jZ g.s t b) m0 M B σr A w v z d C u) (i:Bj m0 (d.h.take m0)=true) :
 uI l n f m0 M B g t w v B { g with h:=d.h.take m0 } t u:=by
 have I:m0=B.length:=by rw[H]; exact r.heap.1
 have c:=IZ (m0:=m0) (l := []) a.inv (dO _) (by simp_all);have J:z.take m0=B:=by rw[I] at a ⊢;exact c8A a.pre
 rw[J] at c;have x:gQ M v B B:=⟨a.mem,fun _ _ h=>h⟩;have j:∀ b,fp B σr A w b=aW w g.h B b:=fun b=>by grind [fp,aFO]
 have m:∀ b,fp B (d.gc [] m0) C u b=aW u (d.h.take m0) B b:=fun b=>by grind [fp,ASt.gc,aFO]
 have q:∀ b,1<=jZ g.s t b->u.heap[b]? = w.heap[b]? /\ ∀ o,v b o=M b o:=fun b E=>by have y:=r.cnt b;simp only[fp] at y;refine a.blk b (UL r (by simp only[fp]; omega)) (fun e=>by grind) ?_;rw[j]; omega
 refine ⟨⟨r.size,c.inv.mem,r.jo,fun k p hk => ?_,c.inv.heap,fun b => ?_,fun b i => ?_⟩,a.mem,fun _ _ _ h=>h,a.os,a.tape,a.output,a.size,fun b i K L => ?_,fun b i => ?_⟩
 .obtain ⟨s1,N,O⟩:=r.slots k p hk;refine ⟨s1,N.mono x,O.kept fun b i=>q b ?_⟩;have T:=J9 (s:=g.s) (t:=t) (k:=k) (b:=b);grind [uD]
 .have:=c.inv.cnt b;rw[m] at this;simp only[fp]; omega
 .have:=c.inv.new b i;rw[m] at this;simp only[fp]; omega
 .simp only[fp] at L;exact a.blk b i K (by rw[j]; omega)
 .have E:=a.own b i;have y:=c.own b (VF i a.size);rw[m] at y;rw[j] at E;simp only[fp]; omega
theorem cB6 {E E':AE} (A:E'.P=E.P) (F:E.P.follows .mixedOrders=true) {o:Oper} {c:Call} (G:o.op = .call c) {f:Operand} (C:c.callee = .value f) {n l:Nat} {i:Nat->Nat} {M:Mem} {B:aT} {e:ASt} {a:Act} {w:World}
 (hv:a.eval f = .func (.yield l) #[] #[])
 (D:Inv E.n M B i e a.tmps w) (H:1<=i l) {r:Loop} (I:w.heap[l]? = some (.loop r)) (x:r.state = .ready) (J:qU r.assign=true) (L:qU r.body=true)
 (N:c.args.size=r.params.size) {sr:gp} (O:kD sr)
 (S:((r.params.zip (c.args.map a.eval)).foldl (fun b (t,a)=>b.setIfInBounds t a) r.tmps).size=E'.n)
 (m:∀ j,j∈sr->j.1<E'.n/\dC M B j.2 (((r.params.zip (c.args.map a.eval)).foldl (fun b (t,a)=>b.setIfInBounds t a) r.tmps).getD j.1 undef)/\j.2.own=false)
 {Q:AX->ASt->Prop} (h:fH E' e.h.length r.assign (Ff (fH E' e.h.length r.body Q) fun _ _=>False) ⟨sr,e.h⟩)
 (y:∀ g d,Q g d->Bj e.h.length (d.h.take e.h.length)=true)
 {K:Act->World->Prop} {T:Exit->Act->World->Prop}
 (U:∀ g d z p,Q g d->uI l E.n i e.h.length M B e a.tmps w z B { e with h:=d.h.take e.h.length } a.tmps p ->
  p.heap[l]? = some (.loop { r with state:=if g.jump.isNone then .ready else .done,pending:=g.jump })->K (a.put o.dst (.bool g.jump.isNone)) p) :
 o.wpIn Fence.wide n E.P a w K T:=by
 refine ⟨fun _ _=>trivial,?_⟩;rw[show Fence.wide.round=none from rfl,Oper.semAt_none];have q:(execOp a.eval o).run E.P w = .ok (.round l r.fn ((r.params.zip (c.args.map a.eval)).foldl (fun b (t,a)=>b.setIfInBounds t a) r.tmps) r.assign r.body) w:=by obtain ⟨v,V,X⟩:=c;simp only at C;subst C;grind [execOp,resolve,Deferred.ofValue,invoke,run_yield]
 rw[q,Oper.uponIn_round];refine ⟨fun h=>by simp[Fence.wide] at h,?_⟩;rw[<- A];refine c4X (E:=E') (m0:=e.h.length) (by rw[A]; exact F) J L (aVM D S O m) (by omega) I x h fun g d z Z t' p hq Y u => ?_
 exact U g d z p hq (b3G (σr:=⟨sr,e.h⟩) D H rfl (fun j hk=>(m j hk).2.2) rfl Y (y g _ hq)) u
theorem b_U (h:p.wp y u a D G):p.wpIn Fence.wide b y u a D G:=by
 refine ⟨fun _ _=>trivial,?_⟩;rw[show Fence.wide.round=none from rfl,Oper.semAt_none];unfold Oper.wp at h;generalize (execOp u.eval p).run y a=r at *;cases r with
 | ok x d =>
  cases x<;>simp only[Oper.upon,Oper.uponIn] at h ⊢ <;>
   first
    | exact h
    | exact h.elim
    | exact ⟨fun h=>by simp[Fence.wide] at h,callsIn_wide.2 h⟩
    | exact ⟨fun h=>by simp[Fence.wide] at h,fun c e _=>let ⟨v,d,r,s⟩:=h c e; ⟨v,d,r,stepsIn_wide.2 s⟩⟩
 | halt x d=>cases x<;>simp only[Oper.upon,Oper.uponIn] at h ⊢ <;> exact h
section
variable {E:AE} {out:Nat->Nat}
theorem R_ {n:Nat} {c:Array Oper} {Q:Exit->Act->World->Prop} {rest:List Oper}:∀ (l:List Oper) {M:Mem} {B:aT} {e:ASt} {a:Act} {w:World} {K:ASt->Prop},Inv E.n M B out e a.tmps w->nT E c l K e ->
 (∀ d z A r t,K d->Good E.n out M B e a.tmps w z A d r.tmps t->r.defers=a.defers->wpListIn Fence.wide n E.P c Q rest r t)->wpListIn Fence.wide n E.P c Q (l ++ rest) a w
 | [],M,B,e,a,w,K,p,h,q=>q e M B a w h (Good.refl p) rfl
 | o::l,M,B,e,a,w,K,p,h,q=>by
  have run:yY E o (nT E c l K) e->o.wpIn Fence.wide n E.P a w (wpListIn Fence.wide n E.P c Q (l ++ rest)) Q:=fun h =>b_U (a1A p h fun v d z A t C i=>R_ l i.inv C fun f u x a2 w2 hk g y=>q f u x a2 w2 hk (i.trans g) (by rw[y,Act.JF]))
  have skip:jd E o.dst (.tuple []) e (nT E c l K)->wpListIn Fence.wide n E.P c Q (l ++ rest) (a.put o.dst undef) w:=fun h=>by
   unfold jd at h;split at h
   .rename_i d D;have i:=P_ p D;exact R_ l i.inv h fun f u x a2 w2 hk g y=>q f u x a2 w2 hk (i.trans g) (by rw[y,Act.JF])
   simp_all
  rw[nT] at h;rw[pF];unfold wpListIn;split at h
  grind [Region.wanted]
  .rename_i j m G;split at h
   .rename_i hv;rw[aX (by grind [Region.wanted,TR])];exact ⟨fun _ _=>trivial,skip h⟩
   .rename_i b hv;by_cases F:b=m;grind [Region.wanted,TR]
    .rw[aX (by grind [Region.wanted,TR])];exact ⟨fun _ _=>trivial,skip (h.2 F)⟩
   simp_all
end
open Classical in
def UK (b:AX) (a:ASt):AX->ASt->R:=fun e c=>if e=b/\c=a then some (.nilp,[]) else none
theorem MC {X:XE} (d:AV X.V) (f:wJ X.W) (i:qL X.E.P X.C) (j:LV X) {a:AX} (h:∀ K:AX->ASt->R,bD X I K g=K a A) :
 fH X.E X.m0 I (fun e b=>e=a/\b=A) g:=by
 have l:bD X I (UK a A) g=some (.nilp,[]):=by rw[h]; simp[UK]
 grind [y8,UK]
def a0H (d:Z.P.follows .mixedOrders=true) (a:Z.OK) (e:qL Z.P Z.C0) (g:Z.wp U=U):LV (Z.xe Z.CC Z.LL U b):=fun l m x K c v hv=>by obtain ⟨n,i⟩:=(aEQ (f:=fun n=>(Z.bG n).2 U b l m x K (c.gc l m)) fun n v hv=>(JL a n).2 _ _ _ _ _ _ _ _ _ (fun _ _ _ h=>h) hv).1 hv;exact ⟨n,(aIA d a e n).2 U b l m x K c v g i⟩
def BO (a:Loop) (j:AX):Loop := { a with state:=if j.jump.isNone then .ready else .done,pending:=j.jump }
def U2 (n l:Nat) (g:Loop) (b:Nat->Nat) (h:Nat) (M:Mem) (B:aT) (i:ASt) (t:Array Value) (w:World) (m:List Deferred) (Q:AX->ASt->AX->Prop) (e:Exit) (c:Act) (d:World):Prop :=∃ f a j o p,e=f.toExit/\Q f a j/\c.defers=m/\uI l n b h M B i t w o p a c.tmps d/\d.heap[l]? = some (.loop (BO g j))
def Vj (b:gp) (c d:Nat) (e:Array Value) (M:Mem) (B:aT):Prop:=∀ a,a∈b->a.1<c/\dC M B a.2 (e.getD a.1 undef)/\a.2.own=false/\a.2.blw d=true
theorem Vj.mono (h:Vj b8 b o f e d) (m:∀ (a g:Nat) (v:Value),e a g=some v->x a g=some v)
 (u:∀ (j:Nat) (c:Nat×Nat×TypeId),j<o->d[j]? = some c->i[j]? = some c):Vj b8 b o f x i:=fun n hk=>by
 obtain ⟨p,q,r,l⟩:=h n hk;refine ⟨p,(q.blw l).mono ⟨m,fun j c t => ?_⟩,r,l⟩;rw[qh] at t;grind
structure YC where
 E:AE
 E':AE
 l:Nat
 m0:Nat
 rc:Loop
 out:Nat->Nat
 sO:gp
structure YC.OK (Y:YC):Prop where
 hm:Y.E.P.follows .mixedOrders=true
 hP:Y.E'.P=Y.E.P
 ho:1<=Y.out Y.l
def Tr (Y:YC) (c:Code) (Q:AX->ASt->AX->Prop) (j:AX) (b:ASt):Prop :=
 ∀ (n:Nat) (M:Mem) (B:aT) (a:Act) (w:World),Inv Y.E.n M B Y.out b a.tmps w->w.heap[Y.l]? = some (.loop (BO Y.rc j))->Vj Y.sO Y.E'.n Y.m0 Y.rc.tmps M B ->
  c.wpIn Fence.wide n Y.E.P (U2 Y.E.n Y.l Y.rc Y.out Y.m0 M B b a.tmps w a.defers Q) a w
def b1X (k:ASt->AX->Prop) (Q:AX->ASt->AX->Prop):AX->ASt->AX->Prop
 | .normal,a,j=>k a j
 | e,a,j=>Q e a j
def aLO (id:Nat) (Q:AX->ASt->AX->Prop):AX->ASt->AX->Prop
 | .exit i,a,j=>if i=id then Q .normal a j else Q (.exit i) a j
 | e,a,j=>Q e a j
def aXX {w1:World} {q:List Deferred} {Q:AX->ASt->AX->Prop} (c:uI o b h J e d g f a x i A L w1) {m:Exit} 
 (k:U2 b o r h J x i A L w1 q Q m u O):U2 b o r h J e d g f a q Q m u O:=by
 obtain ⟨v,p,j,y,z,C,D,E,F,G⟩:=k;exact ⟨v,p,j,y,z,C,D,E,c.trans F,G⟩
section
variable {Y:YC} {c:Code} {Q:AX->ASt->AX->Prop} {j:AX} {σ:ASt}
def Tr.mono {d:AX->ASt->AX->Prop} (h:Tr Y c Q j σ) (hq:∀ e σ j,Q e σ j->d e σ j):Tr Y c d j σ:=fun n M B a w f g i=>by
 refine wY (h n M B a w f g i) fun e y z l => ?_
 obtain ⟨m,b,o,p,q,r,t,u,v,x⟩:=l;exact ⟨m,b,o,p,q,r,hq _ _ _ t,u,v,x⟩
def Tr.aFD (f:Y.OK) {g:AX->ASt->Prop} (h:fH Y.E Y.m0 c g σ) (hq:∀ e b,g e b->Q e b j):Tr Y c Q j σ:=fun n M B a w i m u=>by refine wpIn_wide.2 (wp_mono (yZ (out:=Y.out) f.hm c i h) fun e v x o => ?_);obtain ⟨p,b,q,r,rfl,d,t,l⟩:=o;exact ⟨p,b,j,q,r,rfl,hq _ _ d,t,l.gl,Yw i f.ho m l⟩
def Tr.gc {l:List Nat} {m:Nat} (d:Y.m0<=m) (f:GK l m σ=true) (h:Tr Y c Q j (σ.gc l m)):Tr Y c Q j σ:=fun n M B a w g i o=>by have b:=IZ (m0:=Y.m0) g d f;exact wY (h n M _ a w b.inv i (o.mono b.mem b.pre)) fun e q r p=>aXX b.gl p
def Tr.seq {x y:Code} (h:Tr Y x (b1X (fun b g=>Tr Y y Q g b) Q) j σ):Tr Y (.seq x y) Q j σ:=fun n M B a w q r p=>by
 refine Qd (wY (h n M B a w q r p) fun e t u v => ?_);obtain ⟨z,b,g,l,m,rfl,hq,o,d,c⟩:=v;cases z with
 | normal=>exact wY (hq n l m t u d.inv c (p.mono d.mem d.pre)) fun e a2 w2 f=>by rw[o] at f; exact aXX d f
 | ret=>exact ⟨.ret,b,g,l,m,rfl,hq,o,d,c⟩
 | exit i=>exact ⟨.exit i,b,g,l,m,rfl,hq,o,d,c⟩
variable {X:Operand}
def Tr.cond {x y:Code} {b:Bool} (c:σ.rd X=some (.bool b)) (g:b=true->Tr Y x Q j σ) (h:b=false->Tr Y y Q j σ):Tr Y (.cond X x y) Q j σ:=fun n M B a w d e f =>wpIn_cond_split (oh.1 (d.rd _ _ c).1) (fun c=>g c n M B a w d e f) (fun c=>h c n M B a w d e f)
def Tr.block {id:Nat} {x:Code} (h:Tr Y x (aLO id Q) j σ):Tr Y (.block id x) Q j σ:=fun n M B a w o p q=>by
 refine wpIn_block (wY (h n M B a w o p q) fun e u v r => ?_);obtain ⟨t,b,d,f,g,rfl,hq,l,m,c⟩:=r;cases t with
 | normal=>exact ⟨.normal,b,d,f,g,rfl,hq,l,m,c⟩
 | ret=>exact ⟨.ret,b,d,f,g,rfl,hq,l,m,c⟩
 | exit i =>
  simp only[AX.toExit,Exit.inBlock];simp only[aLO] at hq;split
  .rename_i e; rw[ay e] at hq; exact ⟨.normal,b,d,f,g,rfl,hq,l,m,c⟩
  .rename_i e; rw[aX e] at hq; exact ⟨.exit i,b,d,f,g,rfl,hq,l,m,c⟩
def Tr.scope {x:Code} (h:Tr Y x Q j σ):Tr Y (.scope x) Q j σ:=fun n M B a w d f g=>by refine wpIn_wide.2 (wp_scope_straight (wp_mono (wpIn_wide.1 (h n M B a w d f g)) fun e t u i => ?_));obtain ⟨l,b,m,o,p,rfl,hq,q,r,c⟩:=i;cases l<;>exact ⟨_,b,m,o,p,rfl,hq,q,r,c⟩
def Tr.ret (h:Q .ret σ j):Tr Y .ret Q j σ:=fun n M B a w b c d=>wpIn_ret ⟨.ret,σ,j,M,B,rfl,h,rfl,(fM.refl b).gl,c⟩
def Tr.exit (h:Q (.exit b) σ j):Tr Y (.exit b) Q j σ:=fun n M B a w c d e=>wpIn_exit ⟨.exit b,σ,j,M,B,rfl,h,rfl,(fM.refl c).gl,d⟩
def Tr.skip (h:Q .normal σ j):Tr Y .skip Q j σ:=fun n M B a w b c d=>wpIn_skip ⟨.normal,σ,j,M,B,rfl,h,rfl,(fM.refl b).gl,c⟩
def Tr.label (h:Q .normal σ j):Tr Y (.label b) Q j σ:=fun n M B a w c d e=>wpIn_label ⟨.normal,σ,j,M,B,rfl,h,rfl,(fM.refl c).gl,d⟩
def Vt (Y:YC) (x:Code) (Q:AX->ASt->AX->Prop):Nat->AX->ASt->Prop
 | 0,_,_=>False
 | k+1,j,σ=>Tr Y x (b1X (fun a b=>Vt Y x Q k b a) Q) j σ
def Tr.loop {x:Code} (h:Vt Y x Q b j σ):Tr Y (.loop x) Q j σ:=fun n M B a w D F G=>by
 refine wpIn_loop_rounds b ?_;have t:∀ (b:Nat) (o:AX) (p:Mem) (q:aT) (c:ASt) (a1:Act) (w1:World),uI Y.l Y.E.n Y.out Y.m0 M B σ a.tmps w p q c a1.tmps w1->w1.heap[Y.l]? = some (.loop (BO Y.rc o))->a1.defers=a.defers->Vt Y x Q b o c ->
  Code.roundsIn Fence.wide n Y.E.P x (U2 Y.E.n Y.l Y.rc Y.out Y.m0 M B σ a.tmps w a.defers Q) b a1 w1:=by
  intro b;induction b with
  | zero=>intro o p q c a1 w1 _ _ _ h; exact h.elim
  | succ b H =>
   intro o p q c a1 w1 r u v h;rw[roundsIn_succ];refine wY (h n p q a1 w1 r.inv u (G.mono r.mem r.pre)) fun e I J K => ?_
   obtain ⟨L,d,y,z,A,rfl,hq,f,C,g⟩:=K;have m:=r.trans C;cases L with
   | normal=>exact H y z A d I J m g (by rw[f,v]) hq
   | ret=>exact ⟨.ret,d,y,z,A,rfl,hq,by rw[f,v],m,g⟩
   | exit i=>exact ⟨.exit i,d,y,z,A,rfl,hq,by rw[f,v],m,g⟩
 exact t b j M B σ a w (fM.refl D).gl F rfl h
def uI.weak {q:Nat} {σ p:ASt} {w1:World} (g:uI b o h q e d σ f a x i p L w1) (r:J<=q):uI b o h J e d σ f a x i p L w1 :=⟨g.inv,g.mem,fun j c u m=>g.pre j c (by omega) m,g.os,g.tape,g.output,g.size,g.blk,g.own⟩
theorem Tr.yield (J:Y.OK) {id:Nat} {A:Array Oper} {pre post:List Oper} (K:A.toList=pre ++ p::post)
 {I:Call} (a':p.op = .call I) (hg:p.guard=none) {x y:Operand} (hf:I.callee = .value X) (m:I.args = #[x,y]) (hp:Y.rc.params = #[b,o]) (c3:b<o) (c4:o<Y.E'.n)
 (b0:∀ L,L∈Y.sO->L.1<b) (c5:kD Y.sO) (hn:Y.rc.tmps.size=Y.E'.n) (ha:qU Y.rc.assign=true) (hb:qU Y.rc.body=true)
 (h:nT Y.E A pre (fun g=>∃ T U V,g.rd X=some (.func (.yield Y.l) [] [])/\g.rd x=some T/\g.rd y=some U/\Y.m0<=g.h.length /\
  fH Y.E' g.h.length Y.rc.assign (Ff (fH Y.E' g.h.length Y.rc.body V) fun _ _=>False) ⟨Y.sO ++ [(b,T),(o,U)],g.h⟩ /\
  ∀ z i,V z i->Bj g.h.length (i.h.take g.h.length)=true/\jd Y.E p.dst (.bool z.jump.isNone) { g with h:=i.h.take g.h.length } fun F=>nT Y.E A post (fun C=>Q .normal C z) F) (σ.head Y.E)) :
 Tr Y (.region id A false) Q .normal σ:=fun n M B a w hI hr hO=>by
 have hk:=a6K (E:=Y.E) hI;refine wpIn_region_list ?_;rw[K];refine R_ pre hk.inv h fun g M1 Z a1 w1 hh r b1 => ?_
 obtain ⟨T,U,V,b2,hx,hy,b3,G,j⟩:=hh;have D:fM Y.E.n Y.out Y.m0 M B σ a.tmps w M1 Z g a1.tmps w1:=(hk.trans r).c;have b4:=Yw hI J.ho hr D;have b5:=hO.mono D.mem D.pre;unfold wpListIn;rw[ay (by simp[Region.wanted,hg])];have b6:a1.eval X = .func (.yield Y.l) #[] #[]:=by obtain ⟨f',c',e,h1,h2⟩:=DC.1 (r.inv.rd _ _ b2).1;rw[gZ] at h1 h2;rw[e]; congr 1<;>(grind)
 have c6:=r.inv.rd _ _ hx;have c7:=r.inv.rd _ _ hy;have b7:((BO Y.rc .normal).params.zip (I.args.map a1.eval)).foldl (fun u (t,a)=>u.setIfInBounds t a) (BO Y.rc .normal).tmps=(Y.rc.tmps.setIfInBounds b (a1.eval x)).setIfInBounds o (a1.eval y):=by show (Y.rc.params.zip (I.args.map a1.eval)).foldl (fun u (t,a)=>u.setIfInBounds t a) Y.rc.tmps=_;rw[hp,m]; simp
 refine cB6 (E':=Y.E') J.hP J.hm a' hf b6 r.inv J.ho b4 rfl ha hb (by show I.args.size=Y.rc.params.size; rw[m,hp]; rfl) (sr:=Y.sO ++ [(b,T),(o,U)]) ?_ ?_ (fun L hk => ?_) (Q:=V) G (fun z i hq=>(j z i hq).1) fun z i M' w' b8 H N => ?_
 grind [kD]
 grind
 .rw[b7];rcases DZ.1 hk with hk | hk
  .obtain ⟨h1,h2,h3,h4⟩:=b5 L hk;have:=b0 L hk;grind [TM]
  grind [TM,Xv]
 .obtain ⟨_,v⟩:=j z i b8;unfold jd at v;split at v
  .rename_i F b9;have O:Good Y.E.n Y.out M' Z { g with h:=i.h.take g.h.length } a1.tmps w' M' Z F (a1.put p.dst (.bool z.jump.isNone)).tmps w' :=(Pre.plain H.inv (oh.2 rfl) (fun d=>gY rfl _ _) (ig rfl)).put b9;have b':w'.heap[Y.l]? = some (.loop (BO Y.rc z)):=N;have:=R_ (n:=n) (Q:=U2 Y.E.n Y.l Y.rc Y.out Y.m0 M B σ a.tmps w a.defers Q) (rest := []) post O.inv v fun C M3 B3 a3 w3 c0 c1 c2=>by have S:fM Y.E.n Y.out Y.m0 M' Z { g with h:=i.h.take g.h.length } a1.tmps w' M3 B3 C a3.tmps w3:=(O.trans c1).c;show U2 Y.E.n Y.l Y.rc Y.out Y.m0 M B σ a.tmps w a.defers Q .normal a3 w3;exact ⟨.normal,C,z,M3,B3,rfl,c0,by rw[c2,Act.JF,b1],(D.gl.trans (H.weak b3)).trans S.gl,Yw H.inv J.ho b' S⟩
   rwa [DY] at this
  simp_all
end
theorem c3F {P:Program} {n:Nat} {t:Nat->Nat} {h:aH} {M:Mem} {B:aT} {w:World} {x:ASt} {S:Array Value} (l:tK M B w h) (y:∀ b,fp B x S w b=aW w h B b)
 {T:Mem} {z:aT} {a:ASt} {J:Act} {o:World} (d:fM n t h.length M B x S w T z a J.tmps o) {U:Func} {G:PV} {h':aH} (e:Po P U.results.toList h.length G h' a) (ro:List (List Nat×Bool)) :
 ∃ v,(results U J.tmps).run P o = .ok v o/\Post h B t M w (yg ro G) h' v T (z.take h'.length) o:=by
 obtain ⟨v,A,f,K,C⟩:=a_I d.inv e;obtain ⟨X,L,D,N,_⟩:=e;generalize Y:h'.length=m at *;subst L;have Z:B.length=h.length:=l.1.symm;have q:=fun b=>aFK (w:=o) m b a.h z
 have g:∀ b,aW o (a.h.take m) (z.take m) b+cu (yg ro G) v b<=fp z a J.tmps o b:=fun b=>by have:=q b; have:=C b; have:=aNQ (ro:=ro) (r:=G) (v:=v) (b:=b); simp only[fp]; omega
 refine ⟨v,A,d.inv.mem,⟨d.mem,fun i c H => ?_⟩,d.fr.mono fun b I h0=>by rw[y]; exact h0,⟨by simp[d.inv.heap.1],fun i cs E => ?_⟩,aNR (f.blw D),aNS (f.blw D) K,fun b I => ?_,fun b => ?_,fun b I => ?_⟩
 .have F:=(jr.1 H).1;rw[qh,ay (by omega)];exact d.pre i c (by omega) H
 .have O:=E;rw[qh] at E;split at E
  .rename_i F;obtain ⟨c,H,vs,ty,o1,o2,o3,o4,o5⟩:=d.inv.heap.2 i cs E;refine ⟨c,by rw[qh,ay F]; exact H,vs,ty,o1,o2,o3,fun j p V => ?_,o5⟩;obtain ⟨u,a1,a2,a3,a4⟩:=o4 j p V;refine ⟨u,a1,a2.blw ?_,a3,a4⟩;have:=jq.1 N _ (tC O);exact a1F.1 this p (tC V)
  .cases E
 .have Q:=d.own b I; rw[y] at Q; grind
 .have Q:=d.inv.cnt b; have:=g b; omega
 .have Q:=d.inv.new b I; have:=g b; omega
theorem b1F {n:Nat} {args:ai} {vals:Array Value} (r:args.length<=n) (f:BH e a) (c:tK e d a C) (g:∀ b,aW a C d b+h b<=1) (u:∀ b,a.heap.size<=b->aW a C d b+h b=0)
 (hv:bI e d args vals.toList):Inv n e d h ⟨oH 0 args,C⟩ (vals ++ Array.replicate (n-vals.size) undef) a:=by
 have l:=sS hv;simp only[Array.length_toList] at l;have j:∀ t b,fp d ⟨oH 0 args,C⟩ t a b=aW a C d b:=fun t b=>by grind [fp,ZI]
 refine ⟨by simp; omega,f,aIF.1,fun k p hk => ?_,c,fun b=>by rw[j]; exact g b,fun b y=>by rw[j]; simp_all⟩;obtain ⟨i,q,rfl,hq,rfl⟩:=aIE hk;obtain ⟨v,x,m⟩:=yI hv hq;have z:=(jr.1 hq).1;refine ⟨by omega,?_,ig (uG _)⟩;have o:vals[i]? = some v:=by simp_all
 have:(vals ++ Array.replicate (n-vals.size) undef).getD (0+i) undef=v:=by rw[xh,V6,Dz (by omega),o]; rfl
 rw[this]; exact uh.2 m
theorem b0Y {B:aT} {args:ai} {h:aH} (t:Array Value) (w:World) (b:Nat):fp B ⟨oH 0 args,h⟩ t w b=aW w h B b:=by grind [fp,ZI]
def Ap (w:World) (a:Loop):World:=(w.alloc (.deferred (some []))).alloc (.loop a)
def Eh (a:Nat->Nat) (s b:Nat):Nat:=a b+(if b=s\/b=s+1 then 1 else 0)
section
variable {n:Nat} {out:Nat->Nat} {M:Mem} {B:aT} {σ:ASt} {t:Array Value} {w:World}
theorem aBA (a:Loop) {b:Nat} (c:b<w.heap.size):(Ap w a).heap[b]? = w.heap[b]? := by grind [Ap,Below.heap_alloc]
def V3 (a:Loop):(Ap w a).heap.size=w.heap.size+2:=by simp[Ap]
def b9W (a:Loop):(Ap w a).heap[w.heap.size+1]? = some (.loop a):=by have:=World.alloc_heap_new (w.alloc (.deferred (some []))) (.loop a);rwa [World.size_alloc] at this
def b9V (a:Loop):(Ap w a).heap[w.heap.size]? = some (.deferred (some [])) :=(NJ _ _ _ (by simp)).trans (World.alloc_heap_new w _)
theorem aMU (c:Inv n M B out σ t w) (d:Loop):Inv n M B (Eh out w.heap.size) σ t (Ap w d)/\∀ b,fp B σ t (Ap w d) b=fp B σ t w b:=by
 have a:=c.ext (M':=M) (w':=Ap w d) (gQ.refl _ _) (fun b o v h=>by
  obtain ⟨f,g⟩:=c.mem b o v h;have e:=Af _ _ f;grind [World.cell?_of_block,aBA]) (fun b e=>by
  have i:b<w.heap.size:=UL c (by omega);grind [aBA]) (by rw[V3]; omega)
 refine ⟨⟨a.1.size,a.1.mem,a.1.jo,a.1.slots,a.1.heap,fun b => ?_,fun b e => ?_⟩,a.2⟩
 .rw[a.2];have f:=c.cnt b;unfold Eh;split
  .rename_i h;have:=c.new b (by omega);omega
  .omega
 .rw[a.2];rw[V3] at e;have:=c.new b (by omega);grind [Eh]
theorem a'Z {l m0:Nat} (a:Inv n M B out σ t w) (e:1<=out l) {f:Option (List Deferred)} (i:w.heap[l]? = some (.deferred f)) (c:Obj):uI l n out m0 M B σ t w M B σ t (w.putObj l c):=by
 have j:=Wj a e;have d:=a.ext (M':=M) (w':=w.putObj l c) (gQ.refl _ _) (fun b o v h=>by
  obtain ⟨m,p⟩:=a.mem b o v h;grind [World.cell?,World.putObj_heap_other]) (fun b q=>by
  grind [World.putObj_heap_other]) (by simp)
 exact ⟨d.1,fun _ _ _ h=>h,fun _ _ _ h=>h,rfl,rfl,rfl,by simp,fun b _ g _=>⟨World.putObj_heap_other g,fun _=>rfl⟩,fun b _=>by rw[d.2]; omega⟩
theorem aXQ {l:Nat} (F:Inv n M B out σ t w) {p:Mem} {q:aT} {e:ASt} {u:Array Value} {w1:World} (d:uI (w.heap.size+1) n (Eh out w.heap.size) l M B σ t (Ap w r) p q e u w1)
 {x:Mem} {y:aT} {f:ASt} {z:Array Value} {A:World} (a:uI w.heap.size n (Eh out w.heap.size) l p q e u w1 x y f z A):fM n out l M B σ t w x y f z A:=by
 have he:=(aMU F r).2;have I:=V3 (w:=w) r;have g:∀ b,out b<=Eh out w.heap.size b:=fun b=>by unfold Eh; omega
 have G:=d.size;have H:=a.size;refine ⟨⟨a.inv.size,a.inv.mem,a.inv.jo,a.inv.slots,a.inv.heap,fun b => ?_,fun b j => ?_⟩,fun b o v h=>a.mem b o v (d.mem b o v h),fun i c C h=>a.pre i c C (d.pre i c C h),⟨a.os.trans d.os,a.tape.trans d.tape,a.output.trans d.output,by omega,fun b j D => ?_⟩,fun b j => ?_⟩
 .have:=a.inv.cnt b; have:=g b; omega
 .have:=a.inv.new b j; have:=g b; omega
 .have m:=d.blk b (by omega) (by omega) (by rw[he]; exact D);have E:=d.own b (by omega);rw[he,D] at E;have J:=a.blk b (by omega) (by omega) (by omega);rw[aBA r j] at m;simp_all
 .have m:=d.own b (by omega);have E:=a.own b (by omega);rw[he] at m; omega
def b5R {a b:Value} {r:Array Value}:(#[a,b] ++ r).getD 0 undef=a:=by rw[V6,Dz (by simp)]; rfl
def b5S {a b:Value} {r:Array Value}:(#[a,b] ++ r).getD 1 undef=b:=by rw[V6,Dz (by simp)]; rfl
end
inductive Sh where
 | I (k:IntKind)
 | B
 | S
 | L (o:Bool) (z:Nat)
 | Y
 | P
 | H (i j z:Nat)
 | M
 | C
 | pt (i j:Nat)
 | bd (t i:Nat)
 | rf
 | ni
 | fn (n:Nat)
@[reducible] def Sh.V : List Sh -> Type
 | []=>Unit
 | .I _::l=>Int×Sh.V l
 | .B::l=>Bool×Sh.V l
 | .S::l=>ByteArray×Sh.V l
 | .L _ _::l=>ai×Sh.V l
 | .Y::l=>d_×Sh.V l
 | .P::l=>PV×Sh.V l
 | .H _ _ _::l=>Nat×Sh.V l
 | .M::l=>ai×Sh.V l
 | .C::l=>ai×Sh.V l
 | .pt _ _::l=>Sh.V l
 | .bd _ _::l=>Sh.V l
 | .rf::l=>Sh.V l
 | .ni::l=>Sh.V l
 | .fn _::l=>Sh.V l
def l9:(a:List Sh)->Sh.V a->ai
 | [],_ => []
 | .I b::l,v => .int b v.1::l9 l v.2
 | .B::l,v => .bool v.1::l9 l v.2
 | .S::l,v => .str v.1::l9 l v.2
 | .L o z::l,v => .sl o z v.1::l9 l v.2
 | .Y::l,v => .eF v.1::l9 l v.2
 | .P::l,v=>v.1::l9 l v.2
 | .H i j z::l,v => .slh i j v.1 z::l9 l v.2
 | .M::l,v => .mp v.1::l9 l v.2
 | .C::l,v => .func (.yield 4242) v.1 []::l9 l v.2
 | .pt i j::l,v => .ptr i j::l9 l v
 | .bd t i::l,v => .eU t i::l9 l v
 | .rf::l,v => .raw .nilFunc::l9 l v
 | .ni::l,v => .raw .nilIface::l9 l v
 | .fn n::l,v => .func (.func n) [] []::l9 l v
def lV:(b:List Sh)->ai->Option (Sh.V b)
 | [],a=>(match a with | []=>some () | _::_=>none)
 | .I g::b,a=>(match a with | .int e n::a=>(match decide (e=g) with | true=>(lV b a).map fun v=>(n,v) | false=>none) | _=>none)
 | .B::b,a=>(match a with | .bool n::a=>(lV b a).map fun v=>(n,v) | _=>none)
 | .S::b,a=>(match a with | .str n::a=>(lV b a).map fun v=>(n,v) | _=>none)
 | .L o z::b,a=>(match a with | .sl h f n::a=>(match h==o&&Nat.beq f z with | true=>(lV b a).map fun v=>(n,v) | false=>none) | _=>none)
 | .Y::b,a=>(match a with | .eF n::a=>(lV b a).map fun v=>(n,v) | _=>none)
 | .P::b,a=>(match a with | n::a=>(lV b a).map fun v=>(n,v) | _=>none)
 | .H i j z::b,a=>(match a with | .slh c d n f::a=>(match Nat.beq c i&&Nat.beq d j&&Nat.beq f z with | true=>(lV b a).map fun v=>(n,v) | false=>none) | _=>none)
 | .M::b,a=>(match a with | .mp n::a=>(lV b a).map fun v=>(n,v) | _=>none)
 | .C::b,a=>(match a with | .func (.yield m) n []::a=>(match Nat.beq m 4242 with | true=>(lV b a).map fun v=>(n,v) | false=>none) | _=>none)
 | .pt i j::b,a=>(match a with | .ptr c d::a=>(match Nat.beq c i&&Nat.beq d j with | true=>lV b a | false=>none) | _=>none)
 | .bd i j::b,a=>(match a with | .eU c d::a=>(match Nat.beq c i&&Nat.beq d j with | true=>lV b a | false=>none) | _=>none)
 | .rf::b,a=>(match a with | .raw .nilFunc::a=>lV b a | _=>none)
 | .ni::b,a=>(match a with | .raw .nilIface::a=>lV b a | _=>none)
 | .fn m::b,a=>(match a with | .func (.func n) [] []::a=>(match Nat.beq n m with | true=>lV b a | false=>none) | _=>none)
theorem PD {a:Type} {o:Option a} {n:T} {v:T×a} (h:(o.map fun v=>(n,v))=some v):n=v.1/\o=some v.2:=by
 cases o with
 | none=>cases h
 | some w=>grind
theorem zF:∀ (a:List Sh) (b:ai) (v:Sh.V a),lV a b=some v->l9 a v=b
 | [],b,v,h=>by
  unfold lV at h; split at h
  .rfl
  .cases h
 | .I e::a,b,v,h=>by
  unfold lV at h; split at h
  .split at h
   .rename_i hk; have hk:=Qc hk; subst hk;obtain ⟨c,d⟩:=PD h; unfold l9; rw[zF a _ _ d,c]
   .cases h
  .cases h
 | .B::a,b,v,h | .S::a,b,v,h | .Y::a,b,v,h | .P::a,b,v,h | .M::a,b,v,h=>by
  unfold lV at h; split at h
  .obtain ⟨c,d⟩:=PD h; unfold l9; rw[zF a _ _ d,c]
  .cases h
 | .L o z::a,b,v,h=>by
  unfold lV at h; split at h
  .split at h
   .rename_i hk; simp only[bQ,qi,NU] at hk; obtain ⟨rfl,rfl⟩:=hk;obtain ⟨c,d⟩:=PD h; unfold l9; rw[zF a _ _ d,c]
   .cases h
  .cases h
 | .H i j z::a,b,v,h=>by
  unfold lV at h; split at h
  .split at h
   .rename_i hk; simp only[bQ,NU] at hk; obtain ⟨⟨rfl,rfl⟩,rfl⟩:=hk;obtain ⟨c,d⟩:=PD h; unfold l9; rw[zF a _ _ d,c]
   .cases h
  .cases h
 | .C::a,b,v,h=>by
  unfold lV at h; split at h
  .split at h
   .rename_i hk; simp only[NU] at hk; subst hk;obtain ⟨c,d⟩:=PD h; unfold l9; rw[zF a _ _ d,c]
   .cases h
  .cases h
 | .pt i j::a,b,v,h | .bd i j::a,b,v,h=>by
  unfold lV at h; split at h
  .split at h
   .rename_i hk; simp only[bQ,NU] at hk; obtain ⟨rfl,rfl⟩:=hk;unfold l9; rw[zF a _ _ h]
   .cases h
  .cases h
 | .rf::a,b,v,h | .ni::a,b,v,h=>by
  unfold lV at h; split at h
  .unfold l9; rw[zF a _ _ h]
  .cases h
 | .fn m::a,b,v,h=>by
  unfold lV at h; split at h
  .split at h
   .rename_i hk; simp only[NU] at hk; subst hk;unfold l9; rw[zF a _ _ h]
   .cases h
  .cases h
def zS:List Sh->ai
 | [] => []
 | .pt i j::l => .ptr i j::zS l
 | .bd t i::l => .eU t i::zS l
 | .rf::l => .raw .nilFunc::zS l
 | .ni::l => .raw .nilIface::zS l
 | .fn n::l => .func (.func n) [] []::zS l
 | _::l => .nilp::zS l
def Jf:List Sh->Bool
 | []=>true
 | .pt _ _::l | .bd _ _::l | .rf::l | .ni::l | .fn _::l=>Jf l
 | _::_=>false
theorem QS:∀ (l:List Sh) (v:Sh.V l),Jf l=true->l9 l v=zS l
 | [],_,_=>rfl
 | .pt i j::l,v,h=>congrArg (_ :: ·) (QS l v h)
 | .bd i j::l,v,h=>congrArg (_ :: ·) (QS l v h)
 | .rf::l,v,h=>congrArg (_ :: ·) (QS l v h)
 | .ni::l,v,h=>congrArg (_ :: ·) (QS l v h)
 | .fn n::l,v,h=>congrArg (_ :: ·) (QS l v h)
 | .I _::_,_,h | .B::_,_,h | .S::_,_,h | .L _ _::_,_,h | .Y::_,_,h | .P::_,_,h | .H _ _ _::_,_,h | .M::_,_,h | .C::_,_,h=>by cases h
@[reducible] def TV : List (Bool × List Sh) -> Type
 | []=>Unit
 | b::l=>Sh.V b.2×TV l
def LX:(a:List (Bool×List Sh))->TV a->ai
 | [],_ => []
 | b::l,v=>bif b.1 then .agg (l9 b.2 v.1)::LX l v.2 else (l9 b.2 v.1).headD .nilp::LX l v.2
def rdT:(b:List (Bool×List Sh))->ai->Option (TV b)
 | [],a=>(match a with | []=>some () | _::_=>none)
 | (true,l)::b,a=>(match a with | .agg c::a=>(match lV l c with | some v=>(rdT b a).map fun w=>(v,w) | none=>none) | _=>none)
 | (false,l)::b,a=>(match a with | p::a=>(match lV l [p] with | some v=>(rdT b a).map fun w=>(v,w) | none=>none) | _=>none)
theorem aHH:∀ (a:List (Bool×List Sh)) (b:ai) (v:TV a),rdT a b=some v->LX a v=b
 | [],b,v,h=>by
  unfold rdT at h; split at h
  .rfl
  .cases h
 | (true,l)::a,b,v,h=>by
  unfold rdT at h; split at h
  .split at h
   .rename_i e;obtain ⟨c,d⟩:=PD h; unfold LX; rw[aHH a _ _ d,<- c,zF _ _ _ e]; rfl
   .cases h
  .cases h
 | (false,l)::a,b,v,h=>by
  unfold rdT at h; split at h
  .split at h
   .rename_i e;obtain ⟨c,d⟩:=PD h; unfold LX; rw[aHH a _ _ d,<- c,zF _ _ _ e]; rfl
   .cases h
  .cases h
inductive RS where
 | ti (k:IntKind)
 | tb
 | ts
 | tl (o:Bool) (z:Nat)
 | tp
 | z (c:Sh)
 | o (c:Sh)
 | g (l:List Sh)
 | t (l:List (Bool×List Sh))
@[reducible] def RS.F : RS -> Type -> Type
 | .ti _,T=>Int->T
 | .tb,T=>Bool->T
 | .ts,T=>ByteArray->T
 | .tl _ _,T=>ai->T
 | .tp,T=>PV->T
 | .z _,T=>T
 | .o c,T=>Sh.V [c]->T
 | .g l,T=>Sh.V l->T
 | .t l,T=>TV l->T
def CE (a:List Sh) (p:PV) (K:Sh.V a->Option T):Option T:=match p with | .agg b=>(match lV a b with | some v=>K v | none=>none) | _=>none
def tvV (a:List (Bool×List Sh)) (p:PV) (K:TV a->Option T):Option T:=match p with | .tuple b=>(match rdT a b with | some v=>K v | none=>none) | _=>none
def oV (s:Sh) (p:PV) (K:Sh.V [s]->Option T):Option T:=match lV [s] [p] with | some v=>K v | none=>none
def UZ:(a:RS)->PV->RS.F a R->R
 | .ti k,p,K=>vI k p K
 | .tb,p,K=>vB p K
 | .ts,p,K=>vS p K
 | .tl o z,p,K=>vL o z p K
 | .tp,p,K=>K p
 | .z c,p,K=>aB (Jf [c]) (oV c p fun _=>K) none
 | .o c,p,K=>oV c p K
 | .g l,p,K=>CE l p K
 | .t l,p,K=>tvV l p K
def UQ:(a:RS) -> {T:Type}->(PV->T)->RS.F a T
 | .ti k,_,K=>fun n=>K (.int k n)
 | .tb,_,K=>fun n=>K (.bool n)
 | .ts,_,K=>fun n=>K (.str n)
 | .tl o z,_,K=>fun n=>K (.sl o z n)
 | .tp,_,K=>fun p=>K p
 | .z c,_,K=>K ((zS [c]).headD .nilp)
 | .o c,_,K=>fun v=>K ((l9 [c] v).headD .nilp)
 | .g l,_,K=>fun v=>K (.agg (l9 l v))
 | .t l,_,K=>fun v=>K (.tuple (LX l v))
theorem b_H (s:Sh) (p:PV):(∀ K:PV->R,oV s p (fun v=>K ((l9 [s] v).headD .nilp))=K p)\/(∀ K:Sh.V [s]->R,oV s p K=none):=by grind [oV,zF]
theorem bVU (l:List Sh) (p:PV):(∀ K:PV->R,CE l p (fun v=>K (.agg (l9 l v)))=K p)\/(∀ K:PV->R,CE l p (fun v=>K (.agg (l9 l v)))=none):=by unfold CE;grind [zF]
theorem c8U (l:List (Bool×List Sh)) (p:PV):(∀ K:PV->R,tvV l p (fun v=>K (.tuple (LX l v)))=K p)\/(∀ K:PV->R,tvV l p (fun v=>K (.tuple (LX l v)))=none):=by unfold tvV;grind [aHH]
def a_R (a:RS) (p:PV):(∀ K:PV->R,UZ a p (UQ a K)=K p)\/(∀ K:PV->R,UZ a p (UQ a K)=none):=by
 cases a with
 | ti k=>exact uo k p
 | tb=>exact N9 p
 | ts=>exact Zk p
 | tl o z=>exact DJ o z p
 | tp=>exact .inl fun _=>rfl
 | z s =>
  cases b:Jf [s] with
  | false=>exact .inr fun K=>by show aB (Jf [s]) _ _=_; rw[b,aF]
  | true =>
   cases h:lV [s] [p] with
   | none=>exact .inr fun K=>by show aB (Jf [s]) (oV s p _) _=_; rw[b,aI]; unfold oV; rw[h]
   | some v =>have c:=zF _ _ _ h;have d:=QS [s] v b;exact .inl fun K=>by show aB (Jf [s]) (oV s p fun _=>K ((zS [s]).headD .nilp)) _=_;rw[b,aI,<- d,c]; unfold oV; rw[h]; rfl
 | o s =>
  rcases b_H s p with e | e
  .exact .inl e
  .exact .inr fun K=>e _
 | g l=>exact bVU l p
 | t l=>exact c8U l p
inductive OS where
 | c (l:List Sh)
 | z (l:List Sh)
 | a
@[reducible] def cZ : List OS -> Type
 | []=>R
 | .c l::b=>Sh.V l->cZ b
 | .z _::b=>cZ b
 | .a::b=>ai->cZ b
def vU:(b:List OS)->aH->cZ b->R
 | [],h,f=>(match h with | []=>f | _::_=>none)
 | .c l::b,h,f=>(match h with | some d::h=>(match lV l d with | some v=>vU b h (f v) | none=>none) | _=>none)
 | .z l::b,h,f=>(match h with | some d::h=>(match lV l d with | some _=>vU b h f | none=>none) | _=>none)
 | .a::b,h,f=>(match h with | some d::h=>vU b h (f d) | _=>none)
def Lu:(b:List OS)->(aH->R)->cZ b
 | [],K=>K []
 | .c l::b,K=>fun v=>Lu b fun h=>K (some (l9 l v)::h)
 | .z l::b,K=>Lu b fun h=>aB (Jf l) (K (some (zS l)::h)) none
 | .a::b,K=>fun d=>Lu b fun h=>K (some d::h)
theorem G_:∀ (d:List OS) (h:aH),(∀ K:aH->R,vU d h (Lu d K)=K h)\/(∀ K:aH->R,vU d h (Lu d K)=none)
 | [],[] => .inl fun _=>rfl
 | [],_::_ => .inr fun _=>rfl
 | .c l::d,h=>by
  unfold vU;split
  .rename_i f h;cases e:lV l f with
   | none=>simp
   | some v =>
    have:=zF _ _ _ e;subst this;rcases G_ d h with b | b
    .exact .inl fun K=>b _
    .exact .inr fun K=>b _
  simp
 | .z l::d,h=>by
  unfold vU;split
  .rename_i f h;cases e:lV l f with
   | none=>simp
   | some v =>
    have:=zF _ _ _ e;subst this;rcases G_ d h with b | b
    .cases g:Jf l with
     | true =>
      refine .inl fun K=>(b _).trans ?_
      grind [aI,QS]
     | false =>
      refine .inr fun K=>(b _).trans ?_
      simp_all
    .exact .inr fun K=>b _
  simp
 | .a::d,h=>by
  unfold vU;split
  .rename_i f h;rcases G_ d h with b | b
   .exact .inl fun K=>b _
   .exact .inr fun K=>b _
  simp
def hvK:(b:RS)->(a:List OS)->aH->RS.F b (cZ a)->RS.F b R
 | .ti _,a,h,K=>fun n=>vU a h (K n)
 | .tb,a,h,K=>fun n=>vU a h (K n)
 | .ts,a,h,K=>fun n=>vU a h (K n)
 | .tl _ _,a,h,K=>fun n=>vU a h (K n)
 | .tp,a,h,K=>fun n=>vU a h (K n)
 | .z _,a,h,K=>vU a h K
 | .o _,a,h,K=>fun n=>vU a h (K n)
 | .g _,a,h,K=>fun n=>vU a h (K n)
 | .t _,a,h,K=>fun n=>vU a h (K n)
def hv (a:RS) (b:List OS) (p:PV) (h:aH) (K:RS.F a (cZ b)):R:=UZ a p (hvK a b h K)
def u_ (a:RS) (b:List OS) (K:PV->aH->R):RS.F a (cZ b):=UQ a fun p=>Lu b (K p)
def bWI (a:RS) (b:List OS) (h:aH) (K:PV->aH->R):hvK a b h (u_ a b K)=UQ a fun p=>vU b h (Lu b (K p)):=by cases a<;>rfl
theorem bWJ (a:RS) (b:List OS) (p:PV) (h:aH):(∀ K:PV->aH->R,hv a b p h (u_ a b K)=K p h)\/(∀ K:PV->aH->R,hv a b p h (u_ a b K)=none):=by
 have d:∀ K:PV->aH->R,hv a b p h (u_ a b K)=UZ a p (UQ a fun p=>vU b h (Lu b (K p))):=fun K=>by unfold hv; rw[bWI]
 rcases a_R a p with e | e
 .rcases G_ b h with c | c
  simp_all;simp_all
 simp_all
abbrev ak (sh:List Sh) (l:ai) (n:Int) (K:Sh.V sh->R):R:=dD l n fun e=>CE sh e K
def shC:List Sh->ai->Bool
 | [],a=>a.isEmpty
 | s::f,a=>(match a with
  | []=>false
  | p::a=>(match s,p with
   | .I g,.int c _=>decide (c=g)
   | .B,.bool _=>true
   | .S,.str _=>true
   | .L o z,.sl h d _=>h==o&&Nat.beq d z
   | .Y,.eF _=>true
   | .P,_=>true
   | .H i j z,.slh b e _ d=>Nat.beq b i&&Nat.beq e j&&Nat.beq d z
   | .M,.mp _=>true
   | .C,.func (.yield n) _ []=>Nat.beq n 4242
   | .pt i j,.ptr b e=>Nat.beq b i&&Nat.beq e j
   | .bd t i,.eU l b=>Nat.beq l t&&Nat.beq b i
   | .rf,.raw .nilFunc=>true
   | .ni,.raw .nilIface=>true
   | .fn m,.func (.func n) [] []=>Nat.beq n m
   | _,_=>false)&&shC f a)
def shO:List OS->aH->Bool
 | [],h=>h.isEmpty
 | .c l::b,h=>(match h with | some d::h=>shC l d&&shO b h | _=>false)
 | .z l::b,h=>(match h with | some d::h=>shC l d&&shO b h | _=>false)
 | .a::b,h=>(match h with | some _::h=>shO b h | _=>false)
def tl (g k:Nat) (a b:T):T:=bif Nat.blt g k then a else b
def te (g k:Nat) (a b:T):T:=bif Nat.beq g k then a else b
def VVt (t:TypeId->Option RS) (i:TypeId) (p:PV) (K:PV->R):R:=match t i with | some a=>UZ a p (UQ a K) | none=>K p
def b5B (t:TypeId->Option RS):AV (VVt t):=fun i p=>by
 unfold VVt;cases t i with
 | none=>simp
 | some a=>exact a_R a p
abbrev jh:=List OS×RS×List OS
def Xy:List jh->aH->PV->aH->(PV->aH->R)->R
 | [],_,r,h,K=>K r h
 | w::l,a,r,h,K=>aB (shO w.1 a) (hv w.2.1 w.2.2 r h (u_ w.2.1 w.2.2 K)) (Xy l a r h K)
def aKX:∀ (l:List jh) (a:aH) (r:PV) (h:aH),(∀ K:PV->aH->R,Xy l a r h K=K r h)\/(∀ K:PV->aH->R,Xy l a r h K=none)
 | [],_,_,_ => .inl fun _=>rfl
 | w::l,a,r,h=>vV (bWJ w.2.1 w.2.2 r h) (aKX l a r h)
def WWt (t:FuncId->List jh) (g:FuncId):aH->PV->aH->(PV->aH->R)->R:=Xy (t g)
def b5G (t:FuncId->List jh):wJ (WWt t):=fun g h r h'=>aKX (t g) h r h'
def CCk (a:Z.OK) {args:ai} (b:Z.C0 m args C=none) (e:Z.run Z.CC Z.LL m args C=a'):Z.CC m args C=a':=(vg a b).trans e
def LLk (c:Z.OK) {l:List Nat} {K:AX->ASt->R} (d:b<=o) (f:GL l o g=true) (h:Z.wp U=U)
 (e:bJ (JB l o g) (bD (Z.xe Z.CC Z.LL U b) I (yM (fun a=>Z.LL U b l o I K (a.gc l o)) K) (g.gc l o))=a'):Z.LL U b l o I K g=a':=(FQ c d f h).trans e
abbrev KT:=AX->ASt->R
def a'Y:Nat->Nat->List Bool
 | 0,_ => []
 | k+1,n=>match Nat.ble n 1 with | true => [] | false=>Nat.beq (n % 2) 1::a'Y k (n / 2)
def cS (f:Func) (p:Nat):Code:=Code.sub (a'Y 99 p) (tZ f)
def SE.xX (S:SE) (f n m:Nat):XE:=S.xe S.CC S.LL (S.ae f n) m
def SE.rK (S:SE) (f:Func) (g m:Nat) (a:List Nat):KT:=JH S.P f.results.toList (S.jG g).ro m a
def SE.jK (S:SE) (f n m:Nat) (c:Code) (K:KT):KT:=yM (y9 (S.ae f n) m c (bD (S.xX f n m) c K)) K
def SE.lK (S:SE) (f n m:Nat) (l:List Nat) (k:Nat) (c:Code) (K:KT):KT:=yM (fun a=>S.LL (S.ae f n) m l k c K (a.gc l k)) K
def Vw:Nat->R->R
 | 0,a=>a
 | n+1,a=>au a (Vw n a)
def aL8:∀ (n:Nat) (a:R),Vw n a=a
 | 0,_=>rfl
 | n+1,a=>by rw[Vw,aL8 n,tV]
def fV (F:(Nat->R->R)->R):R:=F fun _ a=>a
def pI {F:(Nat->R->R)->R} (h:a'=F Vw):a'=fV F:=by rw[show Vw=fun _ a=>a from funext fun n=>funext fun a=>aL8 n a] at h;exact h
section
variable {S:SE}
def SE.YU (S:SE) (T:l7):Nat->zg
 | 0=>fun _ _ _ _ _ _ _=>none
 | n+1=>S.turn T (S.YU T n)
def SE.stepT (S:SE) (T:l7) (n:Nat) (g:FuncId) (args:ai) (h:aH):R:=J7 (S.C0 g args h) (S.run T (S.YU T n) g args h)
def a1K (T C:l7):Prop:=∀ g args h v,T g args h=some v->C g args h=some v
def aY8 (d:S.OK) {T:l7} (j:a1K T S.CC):∀ (n:Nat) (E:AE) (b:Nat) (l:List Nat) (m:Nat) (x:Code) (K c:AX->ASt->R) (a:ASt) (v:PV×aH),(∀ e a v,K e a=some v->c e a=some v)->S.YU T n E b l m x K a=some v->S.LL E b l m x c a=some v
 | 0,_,_,_,_,_,_,_,_,_,_,h=>by cases h
 | n+1,E,b,l,m,x,K,c,a,v,f,hv=>by
  have o:∀ g args h,FH fun i=>(bif i then S.CC else T) g args h:=fun g args h v hv=>j g args h v hv
  have p:∀ (E:AE) (b:Nat) (l:List Nat) (m:Nat) (x:Code) (K:Bool->AX->ASt->R) (a:ASt),(∀ e a,FH fun i=>K i e a)->FH fun i=>(bif i then S.LL else S.YU T n) E b l m x (K i) a :=fun E b l m x K a f v hv=>aY8 d j n E b l m x _ _ a v (fun e a v h=>f e a v h) hv
  rw[aKV d];exact a6H OY d o p (K:=fun i=>bif i then c else K) (fun e a v h=>f e a v h) v hv
variable {b0:l7}
def b3P (c:S.OK) (f:a1K b0 S.CC) (n:Nat) {args:ai} {v:PV×aH} (e:S.stepT b0 n m args C=some v):S.CC m args C=some v:=by
 have j:∀ m args C,FH fun i=>(bif i then S.CC else b0) m args C:=fun m args C v hv=>f m args C v hv
 have o:∀ (E:AE) (d:Nat) (l:List Nat) (a:Nat) (x:Code) (K:Bool->AX->ASt->R) (b:ASt),(∀ e b,FH fun i=>K i e b)->FH fun i=>(bif i then S.LL else S.YU b0 n) E d l a x (K i) b :=fun E d l a x K b p v hv=>aY8 c f n E d l a x _ _ b v (fun e b v C=>p e b v C) hv
 rw[Nb c];exact aCZ OY (aC' OY c j o) v e
structure Ans where
 g:FuncId
 args:ai
 h:aH
 v:PV×aH
def a9D:List Ans->l7
 | [],_,_,_=>none
 | a::l,g,args,h=>(match Nat.beq a.g g&&(PV.Ar a.args args&&Fq a.h h) with | true=>some a.v | false=>a9D l g args h)
theorem b1V {C:l7}:∀ {l:List Ans},(∀ a,a∈l->C a.g a.args a.h=some a.v)->a1K (a9D l) C
 | [],_,_,_,_,_,h=>by cases h
 | a::l,c,g,args,h,v,hv=>by
  unfold a9D at hv;split at hv
  grind [Nat.eq_of_beq_eq_true,PV.Fp,X_]
  .exact b1V (fun b d=>c b (List.mem_cons_of_mem _ d)) g args h v hv
def iF:∀ a,a∈([]:List Ans)->b0 a.g a.args a.h=some a.v:=fun _ h=>by cases h
variable {b':Ans} {b1:List Ans}
theorem b5Q (h:b0 b'.g b'.args b'.h=some b'.v) (c:∀ b',b'∈b1->b0 b'.g b'.args b'.h=some b'.v):∀ b,b∈b'::b1->b0 b.g b.args b.h=some b.v:=fun b d=>by grind
def SE.memo (S:SE) (l:List Ans) (n:Nat):l7:=fun g args h=>match a9D l g args h with
 | some v=>some v
 | none=>(S.bG n).1 g args h
theorem b'L (d:S.OK) (b:∀ a,a∈b1->S.CC a.g a.args a.h=some a.v) (n:Nat):a1K (S.memo b1 n) S.CC:=fun g args h v hv=>by
 unfold SE.memo at hv;split at hv
 .rename_i w c;injection hv with hv; subst hv
  exact b1V b g args h _ c
 grind [a09]
def b3Q (b:S.OK) (m:Nat) (c:∀ b',b'∈b1->S.CC b'.g b'.args b'.h=some b'.v) (n:Nat) (e:S.stepT (S.memo b1 m) n b'.g b'.args b'.h=some b'.v):S.CC b'.g b'.args b'.h=some b'.v:=b3P b (b'L b c m) n e
end
end Go.Proofs.YtmbehibpfkkjbaaGreatDoor
end

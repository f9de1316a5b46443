/- A part of the proof: AbP, AbQ. -/
import Derived.Test.YtcdceiloganlnaaGreatDoorPc1
import Derived.LoopN
import Derived.Defers
import Derived.Scope
import Derived.Orders
import Derived.IntWalk
set_option linter.unusedVariables false
set_option linter.unusedSimpArgs false
set_option linter.unnecessarySimpa false
set_option linter.unusedSectionVars false
noncomputable section
open Go.IntKind (i64)
namespace Go.Proofs.YtcdceiloganlnaaGreatDoor
open Go.RowKit
mutual
def PV.blw (m:Nat):PV->Bool
 | .ptr i _=>decide (i<m)
 | .bf _ i=>decide (i<m)
 | .slh i _ _ _=>decide (i<m)
 | .func _ f c=>PV.blws m f&&PV.blws m c
 | .agg cs=>PV.blws m cs
 | .tuple cs=>PV.blws m cs
 | _=>true
def PV.blws (m:Nat):List PV->Bool
 | []=>true
 | p::ps=>p.blw m&&PV.blws m ps
end
section
variable {M:Mem} {B:aQ}
mutual
theorem aJ8 (m:Nat):∀ p:PV,p.blw m=true->aW M B p=aW M (B.take m) p
 | .int _ _,_=>by simp only[aW]
 | .bool _,_=>by simp only[aW]
 | .str _,_=>by simp only[aW]
 | .nilp,_=>by simp only[aW]
 | .raw _,_=>by simp only[aW]
 | .ptr i _,h=>by
  have:(B.take m)[i]? = B[i]? := by rw[gY,aH (by simpa[PV.blw] using h)]
  simp only[aW,this]
 | .bf _ i,h=>by
  have:(B.take m)[i]? = B[i]? := by rw[gY,aH (by simpa[PV.blw] using h)]
  simp only[aW,this]
 | .slh i _ _ _,h=>by
  have:(B.take m)[i]? = B[i]? := by rw[gY,aH (by simpa[PV.blw] using h)]
  simp only[aW,this]
 | .cst e,_=>by simp only[aW]
 | .bg _,_=>by simp only[aW]
 | .eH _ _ _ _,_=>by simp only[aW]
 | .mp _,_=>by simp only[aW]
 | .sl _ _ es,_=>by simp only[aW]
 | .func _ f c,h=>by simp only[PV.blw,aY] at h;simp only[aW,Lm m f h.1,Lm m c h.2]
 | .agg cs,h=>by simp only[aW,Lm m cs (by simpa[PV.blw] using h)]
 | .tuple cs,h=>by simp only[aW,Lm m cs (by simpa[PV.blw] using h)]
theorem Lm (m:Nat):∀ ps:List PV,PV.blws m ps=true->gB M B ps=gB M (B.take m) ps
 | [],_=>by simp only[gB]
 | p::ps,h=>by simp only[PV.blws,aY] at h;simp only[gB,aJ8 m p h.1,Lm m ps h.2]
end
theorem Rep.blw {m:Nat} {p:PV} {v:Value} (hf:p.blw m=true) (h:Rep M B p v):Rep M (B.take m) p v:=by unfold Rep at *; rwa [<- aJ8 (B:=B) m p hf]
theorem ag.blw {m:Nat} {ps:List PV} {vs:List Value} (hf:PV.blws m ps=true) (h:ag M B ps vs):ag M (B.take m) ps vs:=by unfold ag at *; rwa [<- Lm (B:=B) m ps hf]
theorem Su {m:Nat}:∀ {ps:List PV},PV.blws m ps=true↔∀ p,p∈ps->p.blw m=true
 | []=>by simp[PV.blws]
 | p::ps=>by simp[PV.blws,Su (ps:=ps)]
mutual
theorem a96 (m:Nat):∀ p:PV,p.flat=true->p.blw m=true
 | .int _ _,_=>rfl
 | .bool _,_=>rfl
 | .str _,_=>rfl
 | .nilp,_=>rfl
 | .raw _,_=>rfl
 | .ptr i _,h=>by simp[PV.flat] at h
 | .bf _ i,h=>by simp[PV.flat] at h
 | .slh i _ _ _,h=>by simp[PV.flat] at h
 | .cst e,_=>by simp only[PV.blw]
 | .bg _,_=>by simp only[PV.blw]
 | .eH _ _ _ _,_=>by simp only[PV.blw]
 | .mp _,_=>by simp only[PV.blw]
 | .sl _ _ es,_=>by simp only[PV.blw]
 | .func _ f c,h=>by simp only[PV.flat,aY] at h;simp only[PV.blw,OT m f h.1,OT m c h.2,wF]
 | .agg cs,h=>by simp only[PV.blw]; exact OT m cs (by simpa[PV.flat] using h)
 | .tuple cs,h=>by simp only[PV.blw]; exact OT m cs (by simpa[PV.flat] using h)
theorem OT (m:Nat):∀ ps:List PV,PV.flats ps=true->PV.blws m ps=true
 | [],_=>rfl
 | p::ps,h=>by simp only[PV.flats,aY] at h;simp only[PV.blws,a96 m p h.1,OT m ps h.2,wF]
end
end
def xZ (m:Nat) (h:aF):Bool:=h.all fun o=>match o with | some cs=>PV.blws m cs | none=>true
def sV (M:Mem) (w:World):Prop:=∀ (b o:Nat) (v:Value),M b o=some v->w.cell? ⟨b,o,none⟩=some v/\v.oneCell'=true
structure Post (h:aF) (B:aQ) (out:Nat->Nat) (M:Mem) (w:World) (r:PV) (h':aF) (v:Value) (M':Mem) (B':aQ) (w':World):Prop where
 mem:sV M' w'
 le:cu M M' B B'
 fr:Fr (aP w h B) M w M' w'
 heap:nV M' B' w' h'
 rep:Rep M' B' r v
 tl:Tl M' w' r v
 own:∀ b,b<w.heap.size->aP w' h' B' b+bC r v b<=aP w h B b
 cnt:∀ b,aP w' h' B' b+bC r v b+out b<=1
 new:∀ b,w'.heap.size<=b->aP w' h' B' b+bC r v b+out b=0
def callable (P:Program) (g:FuncId):Bool:=match P.funcs[g]? with | some fn=>fn.name != "runtime.NumGoroutine" && fn.body.isSome | none=>false
abbrev CP:=FuncId->Array Value->World->(Ending->World->Prop)->Prop
def oq (P:Program) (cp:CP) (g:FuncId) (args:List PV) (h:aF) (r:PV) (h':aF):Prop :=
 callable P g=true/\∀ (out:Nat->Nat) (M:Mem) (B:aQ) (w:World) (vals:Array Value),sV M w->nV M B w h->(∀ b,aP w h B b+out b<=1)->(∀ b,w.heap.size<=b->aP w h B b+out b=0) ->
  ag M B args vals.toList->cp g vals w fun e w'=>∃ v M' B',e = .returned v/\Post h B out M w r h' v M' B' w'
def Ev (P:Program) (g:FuncId) (args:List PV) (h:aF) (r:PV) (h':aF):Prop:=oq P (Calls P) g args h r h'
def NR (cp:CP):Prop:=∀ ⦃g:FuncId⦄ ⦃vals:Array Value⦄ ⦃w:World⦄ ⦃R R':Ending->World->Prop⦄,cp g vals w R->(∀ e w',R e w'->R' e w')->cp g vals w R'
theorem Xx (P:Program):NR (Calls P):=fun _ _ _ _ _ h k=>h.mono k
def CD (P:Program):CP:=fun g vals w R=>CallsD P g vals .returning w fun e u' w'=>u' = .returning/\R e w'
theorem a7I (P:Program):NR (CD P):=fun _ _ _ _ _ h k=>CallsD.mono h fun _ _ _ hh=>⟨hh.1,k _ _ hh.2⟩
theorem Ev.frame' {P:Program} {g:FuncId} {args:List PV} {r:PV} (h:Ev P g args [] r []) (hr:r.flat=true) (ha:PV.flats args=true) (hh:aF):Ev P g args hh r hh:=by
 refine ⟨h.1,fun out M B w vals hmem hheap hcnt hnew hv => ?_⟩;have h0:∀ w b,aP w [] [] b=0:=fun w b=>by simp[aP]
 refine (h.2 (fun b=>out b+aP w hh B b) M [] w vals hmem ⟨rfl,fun i cs hi=>by simp at hi⟩ (fun b=>by rw[h0]; have:=hcnt b; omega) (fun b hb=>by rw[h0]; have:=hnew b hb; omega) (ag.flat [] ha hv)).mono fun e w' he => ?_
 obtain ⟨v,M',B',rfl,hP⟩:=he;have hB':B' = []:=iU (by have:=hP.heap.1; simpa using this.symm);subst hB';have hun:∀ b,b<w.heap.size->w'.heap[b]? = w.heap[b]? /\ ∀ o,M' b o=M b o:=fun b hb=>hP.fr.blk b hb (h0 w b)
 have hlt:∀ b,1<=aP w hh B b->b<w.heap.size:=fun b hb=>by
  rcases je b w.heap.size with h' | h'
  .exact h'
  .have:=hnew b h'; omega
 have yz:∀ (i:Nat) cs c,hh[i]? = some (some cs)->B[i]? = some c->1<=aP w hh B c.1:=fun i cs c h1 h2=>by have:=jJ (w:=w) c.1 h1 h2;simp only[fD] at this;omega
 have hle:cu M M' B B:=⟨hP.le.mem,fun _ _ h=>h⟩;have hfp:∀ b,aP w' hh B b=aP w hh B b:=fun b=>D8 b fun i cs c h1 h2=>JZ (hun c.1 (hlt _ (yz i cs c h1 h2))).1
 refine ⟨v,M',B,rfl,hP.mem,hle,hP.fr.mono fun b hb _=>h0 w b,⟨hheap.1,fun i cs hi => ?_⟩,hP.rep.flat B hr,hP.tl,fun b hb => ?_,fun b => ?_,fun b hb => ?_⟩
 .obtain ⟨c,hc,vs,ty,h1,h2,h3,h4,h5⟩:=hheap.2 i cs hi;have hcb:=hun c.1 (hlt _ (yz i cs c hi hc));refine ⟨c,hc,vs,ty,by rw[IW hcb.1,h1],h2,h3,fun j p hj => ?_,fun o=>by rw[hcb.2]; exact h5 o⟩;obtain ⟨v,hv,hr,hT,hone⟩:=h4 j p hj;refine ⟨v,hv,hr.mono hle,hT.kept fun b ho=>hun b (hlt b ?_),hone⟩;have e1:=jJ (w:=w) b hi hc;have e2:=ug b hj (by rw[mD h1]; simpa using hv:(fV w c.1)[j]? = some v);omega
 .have:=hP.own b hb; rw[h0,h0] at this; rw[hfp]; omega
 .have:=hP.cnt b; rw[h0] at this; rw[hfp]; omega
 .have:=hP.new b hb; rw[h0] at this; rw[hfp]; omega
def xq (ops:Array Oper) (Z:ASt) (j:Nat):Option (Option Bool) :=
 match (ops[j]?).bind (·.dst) with
 | none=>some none
 | some d=>match bK d Z.s with
  | some (.bool b)=>some (some b)
  | some (.tuple [])=>some none
  | _=>none
def gz (E:AE) (dst:Option Nat) (p:PV) (Z:ASt) (K:ASt->Prop):Prop:=match ASt.put E dst p Z with | some Z'=>K Z' | none=>False
def vg (E:AE) (o:Oper) (K:ASt->Prop) (Z:ASt):Prop :=
 match bP E o Z with
 | some (p,Z1)=>iM E o Z/\gz E o.dst p Z1 K
 | none=>False
def a0H (E:AE) (o:Oper) (Z:ASt):Option (List PV×Bool):=match o.op with
 | .binOp op t x (.const (.slice none 0 0)) _=>(match E.P.underlying t,Z.rd x,op with
  | some (.slice _),some (.sl _ _ es),.eql=>some (es,true)
  | some (.slice _),some (.sl _ _ es),.neq=>some (es,false)
  | _,_,_=>none)
 | _=>none
def Q8 (E:AE) (o:Oper) (K:ASt->Prop) (Z:ASt):Prop:=match a0H E o Z with
 | some (es,pos)=>∀ b:Bool,(b=true->es = [])->gz E o.dst (.bool (b==pos)) Z K
 | none=>False
def MI (E:AE) (o:Oper) (K:ASt->Prop) (Z:ASt):Prop:=vg E o K Z\/Q8 E o K Z
def JX (E:AE) (g:FuncId) (args:List PV) (dst:Option Nat) (K:ASt->Prop) (Z:ASt):Prop:=∃ r h',Ev E.P g args Z.h r h'/\gz E dst r { Z with h:=h' } K
def uK (E:AE) (o:Oper) (K:ASt->Prop) (Z:ASt):Prop :=
 match o.op with
 | .call c=>match c.callee with
  | .value f=>(match Z.rd f,iJ (c.args.toList.map Z.rd) with
   | some (.func (.func g) first caps),some az=>JX E g (first ++ az ++ caps) o.dst K Z
   | _,_=>False)
  | _=>MI E o K Z
 | _=>MI E o K Z
def jY (E:AE) (ops:Array Oper):List Oper->(ASt->Prop)->ASt->Prop
 | [],Q,Z=>Q Z
 | o::l,Q,Z =>
  match o.guard with
  | none=>uK E o (jY E ops l Q) Z
  | some (j,want)=>match xq ops Z j with
   | some none=>gz E o.dst (.tuple []) Z (jY E ops l Q)
   | some (some b)=>(b=want->uK E o (jY E ops l Q) Z)/\(b≠want->gz E o.dst (.tuple []) Z (jY E ops l Q))
   | none=>False
section
variable {out:Nat->Nat} {M:Mem} {B:aQ} {Z:ASt} {a:Act} {w:World} {E:AE} {o:Oper}
theorem aK8 (hI:Inv E.n M B out Z a.tmps w) {K:ASt->Prop} (h:vg E o K Z) {K':Act->World->Prop} {Q:Exit->Act->World->Prop}
 (hK:∀ v Z' M' B' w',K Z'->Good E.n out M B Z a.tmps w M' B' Z' (a.put o.dst v).tmps w'->K' (a.put o.dst v) w'):o.wp E.P a w K' Q:=by
 unfold vg at h;split at h
 .rename_i p Z1 hs;obtain ⟨hside,hp⟩:=h;unfold gz at hp;split at hp
  .rename_i Z' hput;obtain ⟨v,w',M',B',h1,h2⟩:=bCZ hI hs hside;have hG:=h2.put hput;unfold Oper.wp;rcases h1 with h1 | ⟨h1,hd⟩
   .rw[h1,XA]; exact hK v Z' M' B' w' hp hG
   .rw[h1,Oper.upon_skip];have:a.put o.dst undef=a.put o.dst v:=by rw[hd]; rfl
    rw[this]; exact hK v Z' M' B' w' hp hG
  .exact hp.elim
 .exact h.elim
theorem b74 (hI:Inv E.n M B out Z a.tmps w) {K:ASt->Prop} (h:Q8 E o K Z) {K':Act->World->Prop} {Q:Exit->Act->World->Prop}
 (hK:∀ v Z' M' B' w',K Z'->Good E.n out M B Z a.tmps w M' B' Z' (a.put o.dst v).tmps w'->K' (a.put o.dst v) w'):o.wp E.P a w K' Q:=by
 obtain ⟨dst,op,type,pos,after,guard⟩:=o;unfold Q8 at h;split at h
 case h_2=>exact h.elim
 rename_i es ps hc;unfold a0H at hc;simp only at hc;split at hc
 case h_2=>cases hc
 rename_i Sz t x yt;have key:∀ e,E.P.underlying t=some (.slice e)->∀ ow z,Z.rd x=some (.sl ow z es)->∃ b:Bool,(b=true->es = [])/\(Op.equal t (a.eval x) (.slice none 0 0)).run E.P w = .ok b w/\∃ A n c,a.eval x = .slice A n c:=by
  intro e hu ow z hx;obtain ⟨A,cap,hv,hle,hs,hz,hA⟩:=iF.1 (hI.rd x _ hx).1;refine ⟨A.isNone,fun hn => ?_,?_,A,_,cap,hv⟩
  .apply Classical.byContradiction;intro hne;obtain ⟨b,off,rfl,_⟩:=hA hne;cases hn
  .rw[hv];refine Gh fun d => ?_
   rw[Op.equalIn,jO,dm hu w];cases A<;>rfl
 have fin:∀ (r:Bool),(execOp a.eval ⟨dst,.binOp Sz t x (.const (.slice none 0 0)) yt,type,pos,after,guard⟩).run E.P w = .ok (.value (.bool r)) w->gz E dst (.bool r) Z K->Oper.wp E.P ⟨dst,.binOp Sz t x (.const (.slice none 0 0)) yt,type,pos,after,guard⟩ a w K' Q:=by
  intro r hr hp;unfold gz at hp;split at hp
  .rename_i Z' hput;have hG:=(Pre.plain (v := .bool r) hI (iZ.2 rfl) (fun b=>bu rfl _ _) (dn rfl)).put hput;unfold Oper.wp;rw[hr,XA];exact hK (.bool r) Z' M B w hp hG
  .exact hp.elim
 split at hc
 .rename_i e ow z es' hu hx;cases hc;obtain ⟨b,hb,he,A,n,c,hv⟩:=key e hu ow z hx;refine fin b ?_ (by have:=h b hb; simpa using this);refine sQ (s:=do eqGuard .eql t x (.const (.slice none 0 0)) (a.eval x) (.slice none 0 0); binOp .eql t (a.eval x) (.slice none 0 0)) rfl ?_;rw[jO,hv,Ae ⟨by simp,by simp⟩ w];rw[hv] at he;show (binOp .eql t (.slice A n c) (.slice none 0 0)).run E.P w=_;have:binOp .eql t (.slice A n c) (.slice none 0 0)=(do pure (.bool (<- Op.equal t (.slice A n c) (.slice none 0 0)))):=rfl;rw[this]; simp[he]
 .rename_i e ow z es' hu hx;cases hc;obtain ⟨b,hb,he,A,n,c,hv⟩:=key e hu ow z hx;refine fin (!b) ?_ (by have:=h b hb; simpa using this);refine sQ (s:=do eqGuard .neq t x (.const (.slice none 0 0)) (a.eval x) (.slice none 0 0); binOp .neq t (a.eval x) (.slice none 0 0)) rfl ?_;rw[jO,hv,Ae ⟨by simp,by simp⟩ w];rw[hv] at he;show (binOp .neq t (.slice A n c) (.slice none 0 0)).run E.P w=_;have:binOp .neq t (.slice A n c) (.slice none 0 0)=(do pure (.bool (!(<- Op.equal t (.slice A n c) (.slice none 0 0))))):=rfl;rw[this]; simp[he]
 .cases hc
theorem aKA (hI:Inv E.n M B out Z a.tmps w) {K:ASt->Prop} (h:MI E o K Z) {K':Act->World->Prop} {Q:Exit->Act->World->Prop}
 (hK:∀ v Z' M' B' w',K Z'->Good E.n out M B Z a.tmps w M' B' Z' (a.put o.dst v).tmps w'->K' (a.put o.dst v) w'):o.wp E.P a w K' Q:=by
 rcases h with h | h
 .exact aK8 hI h hK
 .exact b74 hI h hK
theorem a7B {cp:CP} (hm:NR cp) (hI:Inv E.n M B out Z a.tmps w) {g:FuncId} {args:List PV} {vals:Array Value} (hv:ag M B args vals.toList) {r:PV} {h':aF} (hE:oq E.P cp g args Z.h r h') {dst:Option Nat} {Z':ASt} (hp:ASt.put E dst r { Z with h:=h' }=some Z')
 {R:Ending->World->Prop} (hK:∀ v M' B' w',Good E.n out M B Z a.tmps w M' B' Z' (a.put dst v).tmps w'->R (.returned v) w'):cp g vals w R:=by
 obtain ⟨_,hE⟩:=hE;have hc:=hE (fun b=>out b+gI Z.s a.tmps b) M B w vals hI.mem hI.heap (fun b=>by have:=hI.cnt b; simp only[fp] at this; omega) (fun b hb=>by have:=hI.new b hb; simp only[fp] at this; omega) hv;refine hm hc fun e w' he => ?_
 obtain ⟨v,M',B',rfl,hP⟩:=he;refine hK v M' B' w' ?_;have hpre:Pre E.n out M B Z a.tmps w M' B' { Z with h:=h' } w' r v:=by
  refine ⟨⟨hI.size,hP.mem,hI.gG,fun k p hk => ?_,hP.heap,fun b => ?_,fun b hb => ?_⟩,hP.le,?_,fun b hb => ?_,hP.rep,hP.tl,fun b => ?_,fun b hb => ?_⟩
  .obtain ⟨s1,s2,s3⟩:=hI.slots k p hk;refine ⟨s1,s2.mono hP.le,s3.kept fun b hb => ?_⟩;have e1:=BL (s:=Z.s) (t:=a.tmps) (k:=k) (b:=b);simp only[kK,hk] at e1;have e2:=hI.cnt b;simp only[fp] at e2;exact hP.fr.blk b (LX hI (by simp only[fp]; omega)) (by omega)
  .have:=hP.cnt b; simp only[fp]; omega
  .have:=hP.new b hb; simp only[fp]; omega
  .exact hP.fr.mono fun b hb h0=>by simp only[fp] at h0; omega
  .have:=hP.own b hb; simp only[fp]; omega
  .have:=hP.cnt b; simp only[fp]; omega
  .have:=hP.new b hb; omega
 exact hpre.put hp
theorem aNP (hI:Inv E.n M B out Z a.tmps w) {g:FuncId} {args:List PV} {vals:Array Value} (hv:ag M B args vals.toList) {r:PV} {h':aF} (hE:Ev E.P g args Z.h r h') {dst:Option Nat} {Z':ASt} (hp:ASt.put E dst r { Z with h:=h' }=some Z')
 {R:Ending->World->Prop} (hK:∀ v M' B' w',Good E.n out M B Z a.tmps w M' B' Z' (a.put dst v).tmps w'->R (.returned v) w'):Calls E.P g vals w R:=a7B (Xx E.P) hI hv hE hp hK
theorem Si (hI:Inv E.n M B out Z a.tmps w) {K:ASt->Prop} (h:uK E o K Z) {K':Act->World->Prop} {Q:Exit->Act->World->Prop}
 (hK:∀ v Z' M' B' w',K Z'->Good E.n out M B Z a.tmps w M' B' Z' (a.put o.dst v).tmps w'->K' (a.put o.dst v) w'):o.wp E.P a w K' Q:=by
 unfold uK at h;split at h
 .rename_i c hop;split at h
  .rename_i f hf;split at h
   .rename_i g first caps az hfun has
    obtain ⟨r,h',hE,hp⟩:=h;unfold gz at hp;split at hp
    .rename_i Z' hput;obtain ⟨f',c',e1,r1,r2⟩:=xG.1 (hI.rd _ _ hfun).1;obtain ⟨ra,_⟩:=IP hI.rd has;have hcall:=hE.1;unfold callable at hcall;split at hcall
     .rename_i fn hfn;simp only[aY,bne_iff_ne,ne_eq] at hcall;unfold Oper.wp;have hrun:(execOp a.eval o).run E.P w = .ok (.enter g (f' ++ c.args.map a.eval ++ c')) w:=by
       obtain ⟨callee,GY,cts⟩:=c;simp only at hf;subst hf;unfold execOp;rw[hop];simp only[resolve,e1,Deferred.ofValue,jO,zu,nU,invoke,callFunc,run_program,hfn];have hnb:fn.body.isNone=false:=by cases hb:fn.body<;>simp[hb] at hcall ⊢
       have hnn:(fn.name == "runtime.NumGoroutine")=false:=by simpa using hcall.1
       simp only[hnn,hnb,rJ,qV,zu]
      rw[hrun,Oper.upon_enter];refine aNP hI (args:=first ++ az ++ caps) ?_ hE hput fun v M' B' w' hG=>hK v Z' M' B' w' hp hG
      simpa using xH (xH r1 ra) r2
     .cases hcall
    .exact hp.elim
   .exact h.elim
  .exact aKA hI h hK
 .exact aKA hI h hK
theorem Ar (hI:Inv E.n M B out Z a.tmps w) {ops:Array Oper} {j:Nat} {x:Option Bool} (h:xq ops Z j=some x):yielded ops a.tmps j=x:=by
 unfold xq at h;unfold yielded;split at h
 .rename_i hd; cases h; rw[hd]; rfl
 .rename_i d hd;rw[hd];split at h
  .rename_i b hb;cases h;obtain ⟨h1,h2,_⟩:=hI.slots _ _ hb;have:=iZ.1 h2;have hlt:d<a.tmps.size:=by rw[hI.size]; exact h1
   have hg:a.tmps[d]? = some (.bool b):=by simpa[hlt] using this
   simp[hg]
  .rename_i hb;cases h;obtain ⟨h1,h2,_⟩:=hI.slots _ _ hb;obtain ⟨vs,h3,h4⟩:=pW.1 h2;have hlt:d<a.tmps.size:=by rw[hI.size]; exact h1
   have hg:a.tmps[d]? = some (.tuple vs):=by simpa[hlt] using h3
   simp[hg]
  .cases h
theorem Act.DL (a:Act) (d:Option Nat) (v:Value):(a.put d v).defers=a.defers:=by cases d<;>rfl
theorem WP (hI:Inv E.n M B out Z a.tmps w) {dst:Option Nat} {Z':ASt} (h:ASt.put E dst (.tuple []) Z=some Z'):Good E.n out M B Z a.tmps w M B Z' (a.put dst undef).tmps w :=(Pre.plain hI (pW.2 ⟨#[],rfl,dC.2 rfl⟩) (fun b=>bu rfl _ _) (dn rfl)).put h
theorem Nu {ops:Array Oper} {Q:Exit->Act->World->Prop}:∀ (l:List Oper) {M:Mem} {B:aQ} {Z:ASt} {a:Act} {w:World} {K:ASt->Prop},Inv E.n M B out Z a.tmps w->jY E ops l K Z ->
 (∀ Z' M' B' a' w',K Z'->Good E.n out M B Z a.tmps w M' B' Z' a'.tmps w'->a'.defers=a.defers->Q .normal a' w')->wpList E.P ops Q l a w
 | [],M,B,Z,a,w,K,hI,h,hQ=>hQ Z M B a w h (Good.refl hI) rfl
 | o::l,M,B,Z,a,w,K,hI,h,hQ=>by
  have run:uK E o (jY E ops l K) Z->o.wp E.P a w (wpList E.P ops Q l) Q:=fun h =>Si hI h fun v Z' M' B' w' hK hG=>Nu l hG.inv hK fun Z2 M2 B2 a2 w2 hk hG2 hd=>hQ Z2 M2 B2 a2 w2 hk (hG.trans hG2) (by rw[hd,Act.DL])
  have skip:gz E o.dst (.tuple []) Z (jY E ops l K)->wpList E.P ops Q l (a.put o.dst undef) w:=fun h=>by
   unfold gz at h;split at h
   .rename_i Z' hp;have hG:=WP hI hp;exact Nu l hG.inv h fun Z2 M2 B2 a2 w2 hk hG2 hd=>hQ Z2 M2 B2 a2 w2 hk (hG.trans hG2) (by rw[hd,Act.DL])
   .exact h.elim
  rw[jY] at h;unfold wpList;split at h
  .rename_i hg;rw[aH (by simp[Region.wanted,hg])];exact .inl (run h)
  .rename_i j want hg;split at h
   .rename_i hv;rw[aI (by simp[Region.wanted,hg,Ar hI hv])];exact skip h
   .rename_i b hv;by_cases hb:b=want
    .rw[aH (by simp[Region.wanted,hg,Ar hI hv,hb])];exact .inl (run (h.1 hb))
    .rw[aI (by simp[Region.wanted,hg,Ar hI hv,hb])];exact skip (h.2 hb)
   .exact h.elim
theorem Xn {ops:Array Oper} {Q:Exit->Act->World->Prop} {rest:List Oper}:∀ (l:List Oper) {M:Mem} {B:aQ} {Z:ASt} {a:Act} {w:World} {K:ASt->Prop},Inv E.n M B out Z a.tmps w->jY E ops l K Z ->
 (∀ Z' M' B' a' w',K Z'->Good E.n out M B Z a.tmps w M' B' Z' a'.tmps w'->a'.defers=a.defers->wpList E.P ops Q rest a' w')->wpList E.P ops Q (l ++ rest) a w
 | [],M,B,Z,a,w,K,hI,h,hQ=>hQ Z M B a w h (Good.refl hI) rfl
 | o::l,M,B,Z,a,w,K,hI,h,hQ=>by
  have run:uK E o (jY E ops l K) Z->o.wp E.P a w (wpList E.P ops Q (l ++ rest)) Q:=fun h =>Si hI h fun v Z' M' B' w' hK hG=>Xn l hG.inv hK fun Z2 M2 B2 a2 w2 hk hG2 hd=>hQ Z2 M2 B2 a2 w2 hk (hG.trans hG2) (by rw[hd,Act.DL])
  have skip:gz E o.dst (.tuple []) Z (jY E ops l K)->wpList E.P ops Q (l ++ rest) (a.put o.dst undef) w:=fun h=>by
   unfold gz at h;split at h
   .rename_i Z' hp;have hG:=WP hI hp;exact Xn l hG.inv h fun Z2 M2 B2 a2 w2 hk hG2 hd=>hQ Z2 M2 B2 a2 w2 hk (hG.trans hG2) (by rw[hd,Act.DL])
   .exact h.elim
  rw[jY] at h;rw[og];unfold wpList;split at h
  .rename_i hg;rw[aH (by simp[Region.wanted,hg])];exact .inl (run h)
  .rename_i j want hg;split at h
   .rename_i hv;rw[aI (by simp[Region.wanted,hg,Ar hI hv])];exact skip h
   .rename_i b hv;by_cases hb:b=want
    .rw[aH (by simp[Region.wanted,hg,Ar hI hv,hb])];exact .inl (run (h.1 hb))
    .rw[aI (by simp[Region.wanted,hg,Ar hI hv,hb])];exact skip (h.2 hb)
   .exact h.elim
end
def vk:Operand->Option Nat
 | .tmp t=>some t
 | _=>none
def kU (E:AE) (o:Oper):Option Nat :=
 match o.op with
 | .move x=>if bn E.mv o.dst then vk x else none
 | .assign x=>vk x
 | .store _ _ x=>vk x
 | .call c=>match c.callee with
  | .builtin .append=>(match c.args.toList with | [x,_]=>vk x | _=>none)
  | _=>none
 | _=>none
def IU (E:AE):Bool:=E.ln.any fun k=>Nat.ble 1000000 k
def BO (E:AE) (H H':aF):Prop:=∀ i,bn E.ln (some (1000000+i))=true->H[i]? = H'[i]?
def hk (E:AE) (o:Oper):Nat :=
 match o.op with
 | .load _ _=>if bn E.ln o.dst then (if IU E then 5 else 0) else if bn E.mv o.dst then 3 else 1
 | .alloc _=>if bn E.ln o.dst then (if IU E then 6 else 2) else 2
 | .box _ _=>if bn E.fz o.dst then 0 else 2
 | .store _ a _=>if bn E.mu (xB a) then 6 else 2
 | .buildSlice _ _ _=>if bn E.mu o.dst then 2 else 0
 | .makeSlice _ _ _=>if bn E.mu o.dst then 2 else 0
 | .makeMap _ _=>if bn E.ln o.dst then (if IU E then 6 else 2) else 2
 | .lookup _ _ _ _=>2
 | .mapUpdate _ _ _ _=>2
 | .insert _ m _ _=>if bn E.mu ((xB m).map (6000000 + ·)) then 6 else 2
 | .range _ _=>2
 | .next _ _=>2
 | .call c=>match c.callee with
  | .builtin .clear=>2
  | .builtin .copy=>2
  | .value _=>if bn E.sy o.dst then (if IU E then 6 else 2) else 0
  | _=>0
 | _=>0
def sG (c:Option Nat) (s:dw):dw :=
 match c with
 | none=>s
 | some t=>match bK t s with | some p=>gK t p.un s | none=>s
theorem qc (Z:ASt) (x:Operand):(Z.clr x).s=sG (vk x) Z.s/\(Z.clr x).h=Z.h:=by
 cases x with
 | tmp t=>simp only[ASt.clr,sG,vk]; cases bK t Z.s<;>exact ⟨rfl,rfl⟩
 | _=>exact ⟨rfl,rfl⟩
def kZ (h:aF):aF:=h.map fun o=>o.map fun cs=>cs.map PV.un
def agree (o:Oper) (s s':dw):Prop:=∀ t,Operand.tmp t∈o.op.operands->bK t s'=bK t s
section
variable {E:AE} {o:Oper} {Z Z':ASt}
theorem Jg (h:agree o Z.s Z'.s) {x:Operand} (hx:x∈o.op.operands):Z'.ev x=Z.ev x:=by
 cases x with
 | tmp t=>exact h t hx
 | _=>rfl
theorem jb (h:agree o Z.s Z'.s) {x:Operand} (hx:x∈o.op.operands):Z'.rd x=Z.rd x:=by unfold ASt.rd; rw[Jg h hx]
theorem JU {rd rd':Operand->Option PV} {xs:List Operand} (h:∀ x,x∈xs->rd' x=rd x):iJ (xs.map rd')=iJ (xs.map rd):=by rw[List.map_congr_left h]
theorem a1D {rd rd':Operand->Option PV}:∀ {xs:List (Nat×Operand)},(∀ x,x∈xs.map (·.2)->rd' x=rd x)->qI rd' xs=qI rd xs
 | [],_=>rfl
 | (i,x)::l,h=>by rw[qI,qI,h x (by simp),a1D (xs:=l) (fun y hy=>h y (by simp at hy ⊢; exact .inr hy))]
theorem aI1 {P:Program} {rd rd':Operand->Option PV} {op:Op} (h:∀ x,x∈op.operands->rd' x=rd x):pop P rd' op=pop P rd op:=by
 cases op with
 | call c =>
  obtain ⟨callee,args,ts⟩:=c;have ha:∀ x,x∈args.toList->rd' x=rd x:=fun x hx=>h x (by simp only[Op.operands,Call.operands]; exact Bf.2 (.inr (by simpa using hx)))
  simp only[pop,DI];split
  .split
   .rename_i x t h1 h2;rw[ha x (by rw[h1]; simp)]
   .rfl
  .rw[JU ha]
  .rw[JU ha]
  .rfl
 | makeFunc fn first caps =>
  have h1:∀ x,x∈first.toList->rd' x=rd x:=fun x hx=>h x (by simp only[Op.operands]; exact Bf.2 (.inl (by simpa using hx)))
  have h2:∀ x,x∈caps.toList->rd' x=rd x:=fun x hx=>h x (by simp only[Op.operands]; exact Bf.2 (.inr (by simpa using hx)))
  simp only[pop,JU h1,JU h2]
 | build t ps =>
  have:qI rd' ps.toList=qI rd ps.toList:=a1D fun x hx=>h x (by simpa[Op.operands] using hx)
  simp only[pop,this]
 | slice t x lo hi mx =>
  cases mx with
  | some m =>
   cases lo with
   | none=>simp[pop]
   | some a =>
    cases hi with
    | none=>simp[pop]
    | some b=>simp only[pop,h x (by simp[Op.operands]),h a (by simp[Op.operands]),h b (by simp[Op.operands]),h m (by simp[Op.operands])]
  | none =>
   have hx:rd' x=rd x:=h x (by simp[Op.operands]);cases lo with
   | none =>
    cases hi with
    | none=>simp only[pop,hx]
    | some b=>simp only[pop,hx,h b (by simp[Op.operands])]
   | some a =>
    cases hi with
    | none=>simp only[pop,hx,h a (by simp[Op.operands])]
    | some b=>simp only[pop,hx,h a (by simp[Op.operands]),h b (by simp[Op.operands])]
 | _=>simp_all[pop,Op.operands]
theorem bEK {h h':aF} (e:kZ h'=kZ h) {i:Nat} {cs:List PV} (hi:h[i]? = some (some cs)):∃ cs',h'[i]? = some (some cs')/\cs'.map PV.un=cs.map PV.un:=by
 have h1:=congrArg (·[i]?) e;simp only[kZ,gV,hi,o9] at h1;cases hh:h'[i]? with
 | none=>rw[hh] at h1; simp at h1
 | some x =>
  rw[hh] at h1;cases x with
  | none=>simp at h1
  | some cs'=>simp at h1; exact ⟨cs',rfl,h1⟩
theorem b5' {I:TI} {q p:PV} {Z1:ASt} (h:lF false I q Z=some (p,Z1)) (hh:kZ Z'.h=kZ Z.h):Z1=Z/\lF false I q Z'=some (p,Z'):=by
 unfold lF at *;cases q with
 | cst e =>
  simp only at h ⊢;split at h
  .rename_i hc; cases h; exact ⟨rfl,by rw[aH hc]⟩
  .cases h
 | ptr i off =>
  simp only at h ⊢;cases hi:Z.h[i]? with
  | none=>simp[hi] at h
  | some x =>
   cases x with
   | none=>simp[hi] at h
   | some cs =>
    obtain ⟨cs',h1,h2⟩:=bEK hh hi;have hl:cs'.length=cs.length:=by have:=congrArg List.length h2; simpa using this
    simp only[hi] at h;simp only[h1,hl];split at h
    .rename_i hg;rw[aH hg];split at h
     .rename_i hf;cases h;refine ⟨rfl,?_⟩;rw[aH hf];congr 3
      rw[X5,List.map_drop,h2,X5,List.map_drop]
     .cases h
    .rename_i hg;rw[aI hg];cases hp:cs[off]? with
     | none=>simp[hp] at h
     | some p0 =>
      simp[hp] at h;obtain ⟨rfl,rfl⟩:=h;have h3:=congrArg (·[off]?) h2;simp only[gV,hp,o9] at h3;cases hp':cs'[off]? with
      | none=>rw[hp'] at h3; simp at h3
      | some p1=>rw[hp'] at h3; simp at h3; exact ⟨rfl,by simp[h3]⟩
 | _=>simp at h
theorem bEL {h:aF} {i off:Nat} {cs:List PV} {p0:PV} (hi:h[i]? = some (some cs)) (hp:cs[off]? = some p0):kZ (h.set i (some (cs.set off p0.un)))=kZ h:=by
 simp only[kZ];apply J4;intro j;rw[gV,gV];by_cases hj:i=j
 .subst hj;rw[o7 (dQ.1 hi).1,hi];simp only[o9,wJ];apply J4;intro k;rw[gV,gV];by_cases hkk:off=k
  .subst hkk;rw[o7 (dQ.1 hp).1,hp]; simp[bEO]
  .rw[jd hkk]
 .rw[jd hj]
theorem b5Z {I:TI} {q p:PV} {Z1:ASt} (h:lF true I q Z=some (p,Z1)):Z1.s=Z.s/\(∀ Z':ASt,Z'.h=Z.h->lF true I q Z'=some (p,⟨Z'.s,Z1.h⟩))/\kZ Z1.h=kZ Z.h:=by
 have same:∀ Z':ASt,Z'.h=Z.h->(⟨Z'.s,Z.h⟩:ASt)=Z':=fun Z' e=>by cases Z'; simp only at e; rw[e]
 unfold lF at *;cases q with
 | cst e =>
  simp only at h ⊢;split at h
  .rename_i hc; cases h; exact ⟨rfl,fun Z' e=>by rw[aH hc,same Z' e],rfl⟩
  .cases h
 | ptr i off =>
  simp only at h ⊢;cases hi:Z.h[i]? with
  | none=>simp[hi] at h
  | some x =>
   cases x with
   | none=>simp[hi] at h
   | some cs =>
    simp only[hi] at h;split at h
    .rename_i hg;split at h
     .rename_i hf;cases h;exact ⟨rfl,fun Z' e=>by simp only[e,hi]; rw[aH hg,aH hf,same Z' e],rfl⟩
     .cases h
    .rename_i hg;cases hp:cs[off]? with
     | none=>simp[hp] at h
     | some p0 =>simp[hp] at h;obtain ⟨rfl,rfl⟩:=h;exact ⟨rfl,fun Z' e=>by simp only[e,hi]; rw[aI hg]; simp[hp],bEL hi hp⟩
 | _=>simp at h
theorem bB5 {E:AE} {i:Nat} (h:bn E.ln (some (1000000+i))=true):IU E=true:=by unfold IU;rw[a4O];exact ⟨1000000+i,by simpa[bn] using h,by rw[NI]; omega⟩
theorem aG4 {I:TI} {q:PV} {Z Z1:ASt} {p:PV} (h:lF false I q Z=some (p,Z1)):Z1=Z/\∀ τ:ASt,(∀ i off,q = .ptr i off->τ.h[i]? = Z.h[i]?)->lF false I q τ=some (p,τ):=by
 unfold lF at h ⊢;cases q with
 | cst e =>
  simp only at h ⊢;split at h
  .rename_i hc;cases h;exact ⟨rfl,fun τ _=>by rw[aH hc]⟩
  .cases h
 | ptr i off =>
  simp only at h ⊢;cases hc:Z.h[i]? with
  | none=>rw[hc] at h; cases h
  | some o =>
   rw[hc] at h;cases o with
   | none=>cases h
   | some cs =>
    simp only at h;split at h
    .rename_i hg;split at h
     .rename_i hl;cases h;exact ⟨rfl,fun τ ht=>by rw[ht i off rfl,hc]; simp only; rw[aH hg,aH hl]⟩
     .cases h
    .rename_i hg;cases hp:cs[off]? with
     | none=>rw[hp] at h; cases h
     | some p0 =>rw[hp] at h;simp only[rJ,qV] at h;cases h;exact ⟨rfl,fun τ ht=>by rw[ht i off rfl,hc]; simp only; rw[aI hg,hp]; simp only[rJ,qV]⟩
 | _=>cases h
theorem aKC {p:PV} {Z1:ASt} (h:bP E o Z=some (p,Z1)) (ha:agree o Z.s Z'.s) (hh:hk E o=0\/Z'.h=Z.h\/(hk E o=1/\kZ Z'.h=kZ Z.h)) :
 ∃ Wu,bP E o Z'=some (p,Wu)/\Z1.s=sG (kU E o) Z.s/\Wu.s=sG (kU E o) Z'.s/\((hk E o=0\/hk E o=1)->Z1.h=Z.h/\Wu.h=Z'.h)/\(Z'.h=Z.h->Wu.h=Z1.h)/\(hk E o=3->kZ Z1.h=kZ Z.h):=by
 obtain ⟨dst,op,type,pos,after,guard⟩:=o;cases op with
 | move x =>
  have hx:Z'.ev x=Z.ev x:=Jg ha (by simp[Op.operands]);simp only[bP] at h ⊢;split at h
  .rename_i hm;cases he:Z.ev x with
   | none=>simp[he] at h
   | some q =>
    simp[he] at h; obtain ⟨rfl,rfl⟩:=h;have c1:=qc Z x;have c2:=qc Z' x;have ht:kU E ⟨dst,.move x,type,pos,after,guard⟩=vk x:=by simp[kU,hm]
    rw[aH hm,hx,he,ht];exact ⟨_,rfl,c1.1,c2.1,fun _=>⟨c1.2,c2.2⟩,fun e=>by rw[c1.2,c2.2,e],fun e=>by simp[hk] at e⟩
  .rename_i hm;cases he:Z.rd x with
   | none=>simp[he] at h
   | some q =>
    simp[he] at h; obtain ⟨rfl,rfl⟩:=h;have hr:Z'.rd x=Z.rd x:=jb ha (by simp[Op.operands]);have ht:kU E ⟨dst,.move x,type,pos,after,guard⟩=none:=by simp[kU,hm]
    rw[aI hm,hr,he,ht];exact ⟨_,rfl,rfl,rfl,fun _=>⟨rfl,rfl⟩,fun e=>e,fun _=>rfl⟩
 | assign x =>
  have hx:Z'.ev x=Z.ev x:=Jg ha (by simp[Op.operands]);simp only[bP] at h ⊢;cases he:Z.ev x with
  | none=>simp[he] at h
  | some q =>simp[he] at h; obtain ⟨rfl,rfl⟩:=h;have c1:=qc Z x;have c2:=qc Z' x;have ht:kU E ⟨dst,.assign x,type,pos,after,guard⟩=vk x:=rfl;rw[hx,he,ht];exact ⟨_,rfl,c1.1,c2.1,fun _=>⟨c1.2,c2.2⟩,fun e=>by rw[c1.2,c2.2,e],fun e=>by simp[hk] at e⟩
 | alloc t =>
  simp only[bP] at h ⊢;have hkn:hk E ⟨dst,.alloc t,type,pos,after,guard⟩≠0/\hk E ⟨dst,.alloc t,type,pos,after,guard⟩≠1/\hk E ⟨dst,.alloc t,type,pos,after,guard⟩≠3:=by
   simp only[hk]; split
   .split<;>simp
   .simp
  have hh':Z'.h=Z.h:=by rcases hh with h | h | h<;>first | exact h | exact absurd h hkn.1 | exact absurd h.1 hkn.2.1
  rw[hh'];split at h
  .cases h
  rename_i hro;cases ht:ti E.P t with
  | none=>simp[ht] at h
  | some I =>simp[ht] at h; obtain ⟨rfl,rfl⟩:=h;exact ⟨⟨Z'.s,Z.h ++ [some (GV (bn E.mu dst) t Z.h.length I.zero)]⟩,by simp[hro,hh'],rfl,rfl,fun e=>e.elim (fun e=>absurd e hkn.1) (fun e=>absurd e hkn.2.1),fun e=>rfl,fun e=>absurd e hkn.2.2⟩
 | box t x =>
  simp only[bP] at h ⊢;have hr:Z'.rd x=Z.rd x:=jb ha (by simp[Op.operands]);split at h
  .rename_i hm;rw[aH hm];cases hb:(Z.rd x).bind Jo with
   | none=>simp[hb] at h
   | some e =>simp[hb] at h; obtain ⟨rfl,rfl⟩:=h;exact ⟨Z',by simp[hr,hb],rfl,rfl,fun _=>⟨rfl,rfl⟩,fun e=>e,fun _=>rfl⟩
  .rename_i hm;rw[aI hm];have hh':Z'.h=Z.h:=by rcases hh with h | h | h<;>first | exact h | (simp[hk,hm] at h)
   cases hb:(Z.rd x).bind PV.newCells with
   | none=>simp[hb] at h
   | some cs =>simp[hb] at h; obtain ⟨rfl,rfl⟩:=h;exact ⟨⟨Z'.s,Z'.h ++ [some cs]⟩,by simp[hr,hb,hh'],rfl,rfl,fun e=>by simp[hk,hm] at e,fun e=>by simp[e],fun e=>by simp[hk,hm] at e⟩
 | load t x =>
  simp only[bP] at h ⊢;have hr:Z'.rd x=Z.rd x:=jb ha (by simp[Op.operands]);rw[hr];cases hI:ti E.P t with
  | none=>simp[hI] at h
  | some I =>
   cases hq:Z.rd x with
   | none=>simp[hI,hq] at h
   | some q =>
    simp only[hI,hq] at h ⊢;cases hln:bn E.ln dst with
    | true =>
     rw[hln] at h;simp only at h ⊢;split at h
     .rename_i hok;have hp:=aG4 h;refine ⟨Z',?_,by rw[hp.1]; rfl,rfl,fun _=>⟨by rw[hp.1],rfl⟩,fun e=>by rw[hp.1]; exact e,fun e=>by simp only[hk,hln,fD] at e; split at e<;>omega⟩;refine hp.2 Z' ?_;cases q with
      | ptr i off =>
       have hm:bn E.ln (some (1000000+i))=true:=hok;have hro:IU E=true:=bB5 hm;have hne:hk E ⟨dst,.load t x,type,pos,after,guard⟩=5:=by simp only[hk,hln,fD,hro]
       rcases hh with h' | h' | h'
       .rw[hne] at h'; omega
       .intro j o' e; cases e; rw[h']
       .rw[hne] at h'; omega
      | _=>intro j o' e; cases e
     .cases h
    | false =>
    rw[hln] at h;simp only at h ⊢;cases hm:bn E.mv dst with
    | false =>
     rw[hm] at h;have hun:kZ Z'.h=kZ Z.h:=by
      rcases hh with h | h | h
      .simp[hk,hln,hm] at h
      .rw[h]
      .exact h.2
     obtain ⟨rfl,h2⟩:=b5' h hun;exact ⟨Z',h2,rfl,rfl,fun _=>⟨rfl,rfl⟩,fun e=>e,fun e=>by simp[hk,hln,hm] at e⟩
    | true =>
     rw[hm] at h;have hh':Z'.h=Z.h:=by rcases hh with h | h | h<;>first | exact h | (simp[hk,hln,hm] at h)
     obtain ⟨k1,k2,k3⟩:=b5Z h;exact ⟨⟨Z'.s,Z1.h⟩,k2 Z' hh',k1,rfl,fun e=>by simp[hk,hln,hm] at e,fun _=>rfl,fun _=>k3⟩
 | store t x y =>
  simp only[bP] at h ⊢;have bGK:hk E ⟨dst,.store t x y,type,pos,after,guard⟩=2\/hk E ⟨dst,.store t x y,type,pos,after,guard⟩=6:=by
   simp only[hk];split
   .exact .inr rfl
   .exact .inl rfl
  have hh':Z'.h=Z.h:=by rcases hh with h | h | h<;>first | exact h | (exfalso; omega) | (exfalso; have:=h.1; omega)
  have hr:Z'.rd x=Z.rd x:=jb ha (by simp[Op.operands]);have hy:Z'.ev y=Z.ev y:=Jg ha (by simp[Op.operands]);have c1:=qc Z y;have c2:=qc Z' y;have ht:kU E ⟨dst,.store t x y,type,pos,after,guard⟩=vk y:=rfl;rw[hr,hy];cases hso:MH E.mu E.ln (xB x) (Z.rd x) with
  | false=>rw[hso] at h; cases h
  | true =>
  rw[hso] at h;simp only at h ⊢;cases hI:ti E.P t with
  | none=>simp[hI] at h
  | some I =>
   cases hq:Z.rd x with
   | none=>simp[hI,hq] at h
   | some q =>
    cases hp:Z.ev y with
    | none=>simp[hI,hq,hp] at h
    | some p' =>
     cases dst with
     | some d=>simp[hI,hq,hp] at h
     | none =>
      simp only[hI,hq,hp] at h ⊢;have key:∀ τ:ASt,τ.h=Z.h->∀ τ1,rC I q p' τ=some τ1->τ1.s=τ.s/\∀ τ':ASt,τ'.h=Z.h->rC I q p' τ'=some ⟨τ'.s,τ1.h⟩:=by
       intro τ hτ τ1 h1;unfold rC at h1 ⊢;cases q with
       | ptr i off =>
        simp only[hτ] at h1;split at h1
        .rename_i cs hcs;split at h1
         .split at h1
          .rename_i hc; cases h1; exact ⟨rfl,fun τ' e=>by simp only[e,hcs]; rw[aH hc]⟩
          .cases h1
         .rename_i hna;split at h1
          .rename_i hc; cases h1;refine ⟨rfl,fun τ' e => ?_⟩;simp only[e,hcs];cases p' with
           | agg ds=>exact absurd rfl (hna ds)
           | _=>rw[aH hc]
          .cases h1
        .cases h1
       | _=>simp at h1
      cases hst:rC I q p' (Z.clr y) with
      | none=>simp[hst] at h
      | some τ1 =>simp[hst] at h; obtain ⟨rfl,rfl⟩:=h;obtain ⟨k1,k2⟩:=key (Z.clr y) c1.2 τ1 hst;have k3:=k2 (Z'.clr y) (by rw[c2.2,hh']);refine ⟨⟨(Z'.clr y).s,τ1.h⟩,by rw[k3]; rfl,by rw[k1,ht]; exact c1.1,by rw[ht]; exact c2.1,fun e=>by exfalso; omega,fun _=>rfl,fun e=>by exfalso; omega⟩
 | buildSlice t len ps =>
  have hp:∀ zs,qI (Z'.rdT zs) ps.toList=qI (Z.rdT zs) ps.toList:=fun zs=>a1D fun x hx=>by unfold ASt.rdT; rw[jb ha (by simpa[Op.operands] using hx)]
  simp only[bP,hp] at h ⊢;cases hT:iq E.P t with
  | none=>simp[hT] at h
  | some I =>
   cases hq:qI (Z.rdT (elT E.P t)) ps.toList with
   | none=>simp[hT,hq] at h
   | some qs =>
    simp only[hT,hq] at h ⊢;cases he:Ad I.size 0 qs with
    | none=>simp[he] at h
    | some es =>
     simp only[he] at h ⊢;split at h
     .rename_i hc;rw[aH hc];split at h
      .rename_i hm;have hh':Z'.h=Z.h:=by rcases hh with h | h | h<;>first | exact h | (simp[hk,hm] at h)
       cases h;rw[aH hm];exact ⟨⟨Z'.s,Z'.h ++ [some (dG es)]⟩,by simp[hh'],rfl,rfl,fun e=>by simp[hk,hm] at e,fun e=>by simp[e],fun e=>by simp[hk,hm] at e⟩
      .rename_i hm;rw[aI hm];split at h
       .split at h
        .cases h;exact ⟨Z',by simp_all,rfl,rfl,fun _=>⟨rfl,rfl⟩,fun e=>e,fun _=>rfl⟩
        .cases h
       .cases h;exact ⟨Z',by simp_all,rfl,rfl,fun _=>⟨rfl,rfl⟩,fun e=>e,fun _=>rfl⟩
     .cases h
 | makeSlice t l c =>
  have hl:Z'.rd l=Z.rd l:=jb ha (by simp[Op.operands]);have hc:Z'.rd c=Z.rd c:=jb ha (by simp[Op.operands]);simp only[bP] at h ⊢;rw[hl,hc];split at h
  .split at h
   .rename_i hcond;rw[aH hcond];split at h
    .rename_i hm;cases h;have hh':Z'.h=Z.h:=by rcases hh with h | h | h<;>first | exact h | (simp[hk,hm] at h)
     rw[aH hm];exact ⟨⟨Z'.s,Z'.h ++ [some (tV _ _)]⟩,by rw[hh'],rfl,rfl,fun e=>by simp[hk,hm] at e,fun e=>by rw[e],fun e=>by simp[hk,hm] at e⟩
    .rename_i hm;rw[aI hm];split at h
     .rename_i hz;cases h;rw[aH hz];exact ⟨Z',rfl,rfl,rfl,fun _=>⟨rfl,rfl⟩,fun e=>e,fun _=>rfl⟩
     .cases h
   .cases h
  .cases h
 | call c =>
  obtain ⟨callee,args,ts⟩:=c;have hargs:∀ x,x∈args.toList->x∈(Op.call ⟨callee,args,ts⟩).operands:=fun x hx=>by simp only[Op.operands,Call.operands]; exact Bf.2 (.inr (by simpa using hx))
  simp only[bP] at h ⊢;split at h
  .have hh':Z'.h=Z.h:=by rcases hh with h | h | h<;>first | exact h | (simp[hk] at h)
   split at h
   .rename_i x y t u h1 h2;have hx:Z'.rd x=Z.rd x:=jb ha (hargs x (by rw[h1]; simp));have hy:Z'.rd y=Z.rd y:=jb ha (hargs y (by rw[h1]; simp));have hcs:∀ sz q,Ac Z' sz q=Ac Z sz q:=fun sz q=>by unfold Ac; simp only[hh']
    rw[hx,hy];simp only[hcs,hh'];split at h
    .rename_i I i off m sz q _ _ _;split at h
     .rename_i cs m2 cells _ _;split at h
      .rename_i hc;cases h;exact ⟨⟨Z'.s,Z.h.set i (some (cs.take off ++ cells.take (Nat.min m2 m*sz) ++ cs.drop (off+Nat.min m2 m*sz)))⟩,by rw[aH hc,<- hh'],rfl,rfl,fun e=>by simp[hk] at e,fun e=>rfl,fun e=>by simp[hk] at e⟩
      .cases h
     .cases h
    .cases h
   .cases h
  .have hh':Z'.h=Z.h:=by rcases hh with h | h | h<;>first | exact h | (simp[hk] at h)
   split at h
   .rename_i x t h1 h2;have hx:Z'.rd x=Z.rd x:=jb ha (hargs x (by rw[h1]; simp));split at h
    .rename_i I j off m sz hT hx1;split at h
     .rename_i cs hcs;split at h
      .rename_i hc;cases h;exact ⟨⟨Z'.s,Z'.h.set j (some (cs.take off ++ (tV m I).map PV.un ++ cs.drop (off+m*sz)))⟩,by rw[hx,hx1,hh',hT]; simp only[hcs]; rw[aH hc],rfl,rfl,fun e=>by simp[hk] at e,fun e=>by rw[e],fun e=>by simp[hk] at e⟩
      .cases h
     .cases h
    .rename_i I o' z' hT hx1;cases h;exact ⟨Z',by rw[hx,hx1,hT],rfl,rfl,fun e=>by simp[hk] at e,fun e=>e,fun e=>by simp[hk] at e⟩
    .cases h
   .cases h
  .split at h
   .rename_i s x t u h1 h2;have hs:Z'.ev s=Z.ev s:=Jg ha (hargs s (by rw[h1]; simp));have hx:Z'.rd x=Z.rd x:=jb ha (hargs x (by rw[h1]; simp));rw[hs,hx];split at h
    .rename_i I sz es o' sz' es' hT hs' hx';split at h
     .rename_i hc;cases h;have c1:=qc Z s;have c2:=qc Z' s;have ht:kU E ⟨dst,.call ⟨.builtin .append,args,ts⟩,type,pos,after,guard⟩=vk s:=by simp only[kU,h1]
      rw[ht];refine ⟨Z'.clr s,?_,c1.1,c2.1,fun _=>⟨c1.2,c2.2⟩,fun e=>by rw[c1.2,c2.2,e],fun e=>by simp[hk] at e⟩;rw[aH hc]
     .cases h
    .rename_i I sz es b hT hs' hx';split at h
     .rename_i hc;cases h;have c1:=qc Z s;have c2:=qc Z' s;have ht:kU E ⟨dst,.call ⟨.builtin .append,args,ts⟩,type,pos,after,guard⟩=vk s:=by simp only[kU,h1]
      rw[ht];refine ⟨Z'.clr s,?_,c1.1,c2.1,fun _=>⟨c1.2,c2.2⟩,fun e=>by rw[c1.2,c2.2,e],fun e=>by simp[hk] at e⟩;rw[aH hc]
     .cases h
    .rename_i I k sz cs o' sz' es' hT hs' hx';split at h
     .rename_i hc;cases h;have c1:=qc Z s;have c2:=qc Z' s;have ht:kU E ⟨dst,.call ⟨.builtin .append,args,ts⟩,type,pos,after,guard⟩=vk s:=by simp only[kU,h1]
      rw[ht];refine ⟨Z'.clr s,?_,c1.1,c2.1,fun _=>⟨c1.2,c2.2⟩,fun e=>by rw[c1.2,c2.2,e],fun e=>by simp[hk] at e⟩;rw[aH hc]
     .cases h
    .rename_i I l b hT hs' hx';split at h
     .rename_i hc;cases h;have c1:=qc Z s;have c2:=qc Z' s;have ht:kU E ⟨dst,.call ⟨.builtin .append,args,ts⟩,type,pos,after,guard⟩=vk s:=by simp only[kU,h1]
      rw[ht];refine ⟨Z'.clr s,?_,c1.1,c2.1,fun _=>⟨c1.2,c2.2⟩,fun e=>by rw[c1.2,c2.2,e],fun e=>by simp[hk] at e⟩;rw[aH hc]
     .cases h
    .rename_i I l o' sz' es' hT hs' hx';split at h
     .rename_i c hob;split at h
      .rename_i hc;cases h;have c1:=qc Z s;have c2:=qc Z' s;have ht:kU E ⟨dst,.call ⟨.builtin .append,args,ts⟩,type,pos,after,guard⟩=vk s:=by simp only[kU,h1]
       rw[ht];refine ⟨Z'.clr s,?_,c1.1,c2.1,fun _=>⟨c1.2,c2.2⟩,fun e=>by rw[c1.2,c2.2,e],fun e=>by simp[hk] at e⟩;first | rw[aH hc] | (rw[hob]; rw[aH hc]) | (simp only[hob]; exact aH hc)
      .cases h
     .cases h
    .cases h
   .cases h
  .rename_i hne;have hpc:DI E.P Z'.rd ⟨callee,args,ts⟩=DI E.P Z.rd ⟨callee,args,ts⟩:=by
    have:=aI1 (P:=E.P) (rd:=Z.rd) (rd':=Z'.rd) (op := .call ⟨callee,args,ts⟩) fun x hx=>jb ha hx
    simpa only[pop] using this
   rw[hpc];cases hp:DI E.P Z.rd ⟨callee,args,ts⟩ with
   | none=>simp[hp] at h
   | some q =>
    simp[hp] at h; obtain ⟨rfl,rfl⟩:=h;have ht:kU E ⟨dst,.call ⟨callee,args,ts⟩,type,pos,after,guard⟩=none:=by simp only[kU]
    rw[ht];exact ⟨Z',rfl,rfl,rfl,fun _=>⟨rfl,rfl⟩,fun e=>e,fun _=>rfl⟩
 | makeMap t r =>
  simp only[bP] at h ⊢;have hkn:hk E ⟨dst,.makeMap t r,type,pos,after,guard⟩≠0/\hk E ⟨dst,.makeMap t r,type,pos,after,guard⟩≠1/\hk E ⟨dst,.makeMap t r,type,pos,after,guard⟩≠3:=by
   simp only[hk]; split
   .split<;>simp
   .simp
  have hh':Z'.h=Z.h:=by rcases hh with h | h | h<;>first | exact h | exact absurd h hkn.1 | exact absurd h.1 hkn.2.1
  rw[hh'];split at h
  .cases h
  rename_i hro;split at h
  .rename_i ht;cases h;exact ⟨⟨Z'.s,Z.h ++ [some [lI (bn E.mu dst) []]]⟩,by simp[hro,hh'],rfl,rfl,fun e=>e.elim (fun e=>absurd e hkn.1) (fun e=>absurd e hkn.2.1),fun e=>rfl,fun e=>absurd e hkn.2.2⟩
  .cases h
 | lookup t m k ok =>
  have hh':Z'.h=Z.h:=by rcases hh with h | h | h<;>first | exact h | (simp[hk] at h)
  have hm:Z'.rd m=Z.rd m:=jb ha (by simp[Op.operands]);have hkk:Z'.rd k=Z.rd k:=jb ha (by simp[Op.operands]);simp only[bP] at h ⊢;rw[hh',hm,hkk];split at h
  .rename_i s z i q ht h1 h2;split at h
   .rename_i cs hcs;split at h
    .rename_i b L hin;split at h
     .rename_i r hik hg;cases h;exact ⟨Z',by simp only[hcs,hin,hik,hg],rfl,rfl,fun e=>by simp[hk] at e,fun _=>hh',fun e=>by simp[hk] at e⟩
     .cases h
    .cases h
   .cases h
  .cases h
 | mapUpdate t m k x =>
  have hh':Z'.h=Z.h:=by rcases hh with h | h | h<;>first | exact h | (simp[hk] at h)
  have hm:Z'.rd m=Z.rd m:=jb ha (by simp[Op.operands]);have hkk:Z'.rd k=Z.rd k:=jb ha (by simp[Op.operands]);have hx:Z'.rd x=Z.rd x:=jb ha (by simp[Op.operands]);simp only[bP] at h ⊢;rw[hh',hm,hkk,hx];split at h
  .rename_i s z i q y ht h1 h2 h3;split at h
   .rename_i cs hcs;split at h
    .rename_i b L hin;split at h
     .rename_i hik;cases h;exact ⟨⟨Z'.s,Z.h.set i (some [lI b (iL s L q y)])⟩,by simp only[hcs,hin,hik],rfl,rfl,fun e=>by simp[hk] at e,fun _=>rfl,fun e=>by simp[hk] at e⟩
     .cases h
    .cases h
   .cases h
  .cases h
 | insert t m k x =>
  have hkn:hk E ⟨dst,.insert t m k x,type,pos,after,guard⟩≠0/\hk E ⟨dst,.insert t m k x,type,pos,after,guard⟩≠1/\hk E ⟨dst,.insert t m k x,type,pos,after,guard⟩≠3:=by simp only[hk]; split<;>simp
  have hh':Z'.h=Z.h:=by rcases hh with h | h | h<;>first | exact h | exact absurd h hkn.1 | exact absurd h.1 hkn.2.1
  have hm:Z'.rd m=Z.rd m:=jb ha (by simp[Op.operands]);have hkk:Z'.rd k=Z.rd k:=jb ha (by simp[Op.operands]);have hx:Z'.rd x=Z.rd x:=jb ha (by simp[Op.operands]);simp only[bP] at h ⊢;rw[hh',hm,hkk,hx];split at h
  .cases h
  rename_i hso;split at h
  .rename_i s z i q y ht h1 h2 h3;split at h
   .rename_i cs hcs;split at h
    .rename_i b L hin;split at h
     .rename_i hik;cases h;exact ⟨⟨Z'.s,Z.h.set i (some [lI b (iL s L q y)])⟩,by simp only[hso,hcs,hin,hik],rfl,rfl,fun e=>e.elim (fun e=>absurd e hkn.1) (fun e=>absurd e hkn.2.1),fun _=>rfl,fun e=>absurd e hkn.2.2⟩
     .cases h
    .cases h
   .cases h
  .cases h
 | range t x =>
  have hh':Z'.h=Z.h:=by rcases hh with h | h | h<;>first | exact h | (simp[hk] at h)
  have hx:Z'.rd x=Z.rd x:=jb ha (by simp[Op.operands]);simp only[bP] at h ⊢;rw[hh',hx];split at h
  .rename_i s ht hs;cases h;exact ⟨⟨Z'.s,Z.h ++ [some [wY s 0]]⟩,by simp only[ht,hs],rfl,rfl,fun e=>by simp[hk] at e,fun _=>rfl,fun e=>by simp[hk] at e⟩
  .cases h
 | next x b =>
  have hh':Z'.h=Z.h:=by rcases hh with h | h | h<;>first | exact h | (simp[hk] at h)
  have hx:Z'.rd x=Z.rd x:=jb ha (by simp[Op.operands]);simp only[bP] at h ⊢;rw[hh',hx];split at h
  .rename_i T i hx2;split at h
   .rename_i cs hcs;split at h
    .rename_i s p hin;split at h
     .rename_i hT;split at h
      .rename_i hp;cases h;exact ⟨⟨Z'.s,Z.h.set i (some [wY s (KW s p)])⟩,by simp only[hx2,hcs,hin,hT,hp],rfl,rfl,fun e=>by simp[hk] at e,fun _=>rfl,fun e=>by simp[hk] at e⟩
      .rename_i hp;cases h;exact ⟨Z',by simp only[hx2,hcs,hin,hT,hp],rfl,rfl,fun e=>by simp[hk] at e,fun _=>hh',fun e=>by simp[hk] at e⟩
     .cases h
    .cases h
   .cases h
  .cases h
 | _ =>
  simp only[bP] at h ⊢;rw[aI1 (P:=E.P) (rd:=Z.rd) (rd':=Z'.rd) fun x hx=>jb ha hx];generalize pop E.P Z.rd _=r at h ⊢;cases r with
  | none=>simp at h
  | some q =>simp at h; obtain ⟨rfl,rfl⟩:=h;exact ⟨Z',rfl,rfl,rfl,fun _=>⟨rfl,rfl⟩,fun e=>e,fun _=>rfl⟩
end
theorem aK4:∀ {s s':dw},iH s->iH s'->(∀ k,bK k s=bK k s')->s=s'
 | [],[],_,_,_=>rfl
 | [],(j,q)::l,_,_,h=>by have:=h j; simp[bK] at this
 | (j,q)::l,[],_,_,h=>by have:=h j; simp[bK] at this
 | (j,q)::l,(j',q')::l',h1,h2,h=>by
  obtain ⟨a1,a2⟩:=zg.1 h1;obtain ⟨b1,b2⟩:=zg.1 h2;have hj:j=j':=by
   rcases Nat.lt_trichotomy j j' with hlt | he | hgt
   .have:=h j;rw[bK,aH rfl,bK,aI (by omega),Lr (fun a ha=>by have:=b1 a ha; simp at this; omega)] at this;cases this
   .exact he
   .have:=h j';rw[bK,aI (by omega),Lr (fun a ha=>by have:=a1 a ha; simp at this; omega),bK,aH rfl] at this;cases this
  subst hj;have hq:q=q':=by have:=h j; simpa[bK] using this
  subst hq;congr 1
  refine aK4 a2 b2 fun k => ?_
  by_cases e:j=k
  .subst e;rw[Lr (fun a ha=>by have:=a1 a ha; simpa using this),Lr (fun a ha=>by have:=b1 a ha; simpa using this)]
  .have:=h k;rwa [bK,aI e,bK,aI e] at this
def qK (d:Option Nat) (p:PV) (s:dw):dw:=match d with | some k=>gK k p s | none=>s
theorem DK {d:Option Nat} {p:PV} {s:dw} (h:iH s):iH (qK d p s):=by cases d<;>first | exact h | exact zf h
theorem EL {c:Option Nat} {s:dw} (h:iH s):iH (sG c s):=by
 unfold sG; split
 .exact h
 .split
  .exact zf h
  .exact h
theorem Qe {d:Option Nat} {p:PV} {s:dw} (h:iH s) (k:Nat):bK k (qK d p s)=if d=some k then some p else bK k s:=by
 cases d with
 | none=>simp[qK]
 | some j=>simp only[qK,zY k h,wJ]
theorem Qd {c:Option Nat} {s:dw} (h:iH s) (k:Nat):bK k (sG c s)=if c=some k then (bK k s).map PV.un else bK k s:=by
 cases c with
 | none=>simp[sG]
 | some j =>
  simp only[sG,wJ];cases hj:bK j s with
  | none =>
   simp only;split
   .rename_i e; subst e; rw[hj]; rfl
   .rfl
  | some q =>
   simp only[zY k h];split
   .rename_i e; subst e; rw[hj]; rfl
   .rfl
theorem aPF {d1 d2 c1 c2:Option Nat} {p1 p2:PV} {s:dw} (h:iH s) (e1:∀ k,d1=some k->d2≠some k/\c2≠some k) (e2:∀ k,c1=some k->d2≠some k/\c2≠some k) :
 qK d1 p1 (sG c1 (qK d2 p2 (sG c2 s)))=qK d2 p2 (sG c2 (qK d1 p1 (sG c1 s))):=by
 have s1:=EL (c:=c1) h;have s2:=EL (c:=c2) h;refine aK4 (DK (EL (DK s2))) (DK (EL (DK s1))) fun k => ?_
 rw[Qe (EL (DK s2)),Qd (DK s2),Qe s2,Qd h,Qe (EL (DK s1)),Qd (DK s1),Qe s1,Qd h];by_cases a1:d1=some k
 .obtain ⟨x1,x2⟩:=e1 k a1;rw[aH a1,aI x1,aI x2,aH a1]
 .rw[aI a1,aI a1];by_cases a2:c1=some k
  .obtain ⟨x1,x2⟩:=e2 k a2;rw[aH a2,aI x1,aI x2,aI x1,aI x2,aH a2]
  .rw[aI a2,aI a2]
def oO (ops:Array Oper) (Z:ASt) (o:Oper):Option Bool :=
 match o.guard with
 | none=>some true
 | some (j,want)=>(xq ops Z j).map fun x=>x==some want
theorem hk5 {E:AE} {o:Oper} (h:hk E o=5):∃ t x,o.op = .load t x/\bn E.ln o.dst=true:=by
 unfold hk at h;split at h
 .rename_i t x hop;split at h
  .rename_i hl; exact ⟨t,x,hop,hl⟩
  .split at h<;>omega
 all_goals first | omega | (split at h<;>omega) | skip
 all_goals (split at h<;>first | omega | (split at h<;>first | omega | (split at h<;>omega)))
theorem aKB {E:AE} {o:Oper} {Z Z' Z1:ASt} {p:PV} (h:bP E o Z=some (p,Z1)) (h5:hk E o=5) (ha:agree o Z.s Z'.s) (hr:BO E Z'.h Z.h):Z1=Z/\bP E o Z'=some (p,Z')/\kU E o=none:=by
 obtain ⟨t,x,hop,hl⟩:=hk5 h5;obtain ⟨dst,op,type,pos,after,guard⟩:=o;simp only at hop hl;subst hop;simp only[bP] at h ⊢;have hrd:Z'.rd x=Z.rd x:=jb ha (by simp[Op.operands]);rw[hrd];cases hI:ti E.P t with
 | none=>simp[hI] at h
 | some I =>
  cases hq:Z.rd x with
  | none=>simp[hI,hq] at h
  | some q =>
   simp only[hI,hq,hl] at h ⊢;split at h
   .rename_i hok;have hp:=aG4 h;refine ⟨hp.1,?_,rfl⟩;refine hp.2 Z' fun i off e => ?_
    subst e;exact hr i hok
   .cases h
def stepD (E:AE) (o:Oper) (Z Z':ASt):Prop:=∃ p Z1,bP E o Z=some (p,Z1)/\iM E o Z/\ASt.put E o.dst p Z1=some Z'
def aNN (E:AE) (o:Oper) (f:Operand) (args:List Operand) (Z Z':ASt):Prop :=
 ∃ g first caps az r,Z.rd f=some (.func (.func g) first caps)/\iJ (args.map Z.rd)=some az /\
  ((Ev E.P g (first ++ az ++ caps) [] r []/\r.flat=true/\PV.flats (first ++ az ++ caps)=true/\ASt.put E o.dst r Z=some Z') \/
   (bn E.sy o.dst=true/\∃ h',Ev E.P g (first ++ az ++ caps) Z.h r h'/\BO E h' Z.h/\ASt.put E o.dst r { Z with h:=h' }=some Z'))
abbrev qi (o:Oper):Option (Operand×List Operand) :=
 match o.op with
 | .call c=>match c.callee with
  | .value f=>some (f,c.args.toList)
  | _=>none
 | _=>none
theorem hk6 {E:AE} {o:Oper} (h:hk E o=6):qi o≠none\/(∃ t a x,o.op = .store t a x/\bn E.mu (xB a)=true)\/(∃ t,o.op = .alloc t/\bn E.ln o.dst=true)\/(∃ t r,o.op = .makeMap t r/\bn E.ln o.dst=true)\/∃ t m k x,o.op = .insert t m k x/\bn E.mu ((xB m).map (6000000 + ·))=true:=by
 obtain ⟨dst,op,type,pos,after,guard⟩:=o;cases op with
 | call c =>
  left;obtain ⟨callee,GY,ts⟩:=c;cases callee with
  | value f=>simp[qi]
  | builtin b =>cases b<;>simp[hk] at h
  | _=>simp[hk] at h
 | store t a x =>
  right; left;simp only[hk] at h;split at h
  .rename_i hm; exact ⟨t,a,x,rfl,hm⟩
  .omega
 | alloc t =>
  right; right; left;simp only[hk] at h;split at h
  .rename_i hm; exact ⟨t,rfl,hm⟩
  .omega
 | makeMap t r =>
  right; right; right; left;simp only[hk] at h;split at h
  .rename_i hm; exact ⟨t,r,rfl,hm⟩
  .omega
 | insert t m k x =>
  right; right; right; right;simp only[hk] at h;split at h
  .rename_i hm; exact ⟨t,m,k,x,rfl,hm⟩
  .omega
 | load t x =>
  exfalso;simp only[hk] at h;split at h
  .split at h<;>omega
  .split at h<;>omega
 | _=>exfalso; simp only[hk] at h<;>first | omega | (split at h<;>omega)
theorem bCX {E:AE} {o:Oper} {Z Z1:ASt} {p:PV} (h:bP E o Z=some (p,Z1)) (h6:hk E o=6) (hc:qi o=none):BO E Z1.h Z.h:=by
 have far:∀ {n:Nat},WF E.ln n=true->∀ i,bn E.ln (some (1000000+i))=true->i<n:=fun {n} hro i hi=>by
  have ZI:1000000+i∈E.ln:=by simpa[bn] using hi
  have:=fH.1 hro _ ZI;rw[show Nat.ble 1000000 (1000000+i)=true by rw[NI]; omega,NH] at this;simpa[tu] using this
 rcases hk6 h6 with h' | ⟨t,a,x,hop,hm⟩ | ⟨t,hop,hm⟩ | ⟨t,r,hop,hm⟩ | ⟨t,m,k,x,hop,hm⟩
 .exact absurd hc h'
 case inr.inr.inr.inl =>
  obtain ⟨dst,op,type,pos,after,guard⟩:=o;simp only at hop hm;subst hop;simp only[bP,hm,Bg] at h;split at h
  .cases h
  .rename_i hro;split at h
   .cases h;intro i hi;exact jM (far (by simpa using hro) i hi)
   .cases h
 case inr.inr.inr.inr =>
  obtain ⟨dst,op,type,pos,after,guard⟩:=o;simp only at hop hm;subst hop;simp only[bP] at h;split at h
  .cases h
  rename_i hso;unfold Qh at hso;rw[hm] at hso;split at h
  .rename_i s z i q y ht h1 h2 h3;rw[h1] at hso;simp only[tX] at hso;split at h
   .split at h
    .split at h
     .cases h;intro j hj;have hne:i≠j:=fun e=>by subst e; rw[hj] at hso; cases hso
      exact jd hne
     .cases h
    .cases h
   .cases h
  .cases h
 case inr.inr.inl =>
  obtain ⟨dst,op,type,pos,after,guard⟩:=o;simp only at hop hm;subst hop;simp only[bP,hm,Bg] at h;split at h
  .cases h
  .rename_i hro;cases ht:ti E.P t with
   | none=>simp[ht] at h
   | some I =>
    simp[ht] at h; obtain ⟨_,rfl⟩:=h;intro i hi;have ZI:1000000+i∈E.ln:=by simpa[bn] using hi
    have hro:WF E.ln Z.h.length=true:=by simpa using hro
    have:=fH.1 hro _ ZI;rw[show Nat.ble 1000000 (1000000+i)=true by rw[NI]; omega,NH] at this;have hlt:i<Z.h.length:=by simpa[tu] using this
    exact jM hlt
 obtain ⟨dst,op,type,pos,after,guard⟩:=o;simp only at hop;subst hop;simp only[bP] at h;split at h
 .cases h
 rename_i hso;cases hI:ti E.P t with
 | none=>simp[hI] at h
 | some I =>
  cases hq:Z.rd a with
  | none=>simp[hI,hq] at h
  | some q =>
   cases hp:Z.ev x with
   | none=>simp[hI,hq,hp] at h
   | some p' =>
    cases dst with
    | some d=>simp[hI,hq,hp] at h
    | none =>
     simp only[hI,hq,hp] at h;cases hst:rC I q p' (Z.clr x) with
     | none=>simp[hst] at h
     | some τ =>
      simp[hst] at h;obtain ⟨_,rfl⟩:=h;have hcl:=(qc Z x).2;unfold MH at hso;rw[hm,hq] at hso;cases q with
      | ptr i off =>
       simp only[tX] at hso;have key:∃ cs,τ.h=(Z.clr x).h.set i cs:=by
        unfold rC at hst;simp only at hst;split at hst
        .split at hst
         .split at hst
          .cases hst; exact ⟨_,rfl⟩
          .cases hst
         .split at hst
          .cases hst; exact ⟨_,rfl⟩
          .cases hst
        .cases hst
       obtain ⟨cs,hk⟩:=key;intro j hj;have hne:i≠j:=fun e=>by subst e; rw[hj] at hso; cases hso
       rw[hk,jd hne,hcl]
      | _=>simp at hso
def zW (E:AE) (o:Oper) (Z Z':ASt):Prop :=
 match qi o with
 | some (f,args)=>aNN E o f args Z Z'
 | none=>stepD E o Z Z'
def jg (E:AE) (ops:Array Oper) (o:Oper) (Z Z':ASt):Prop :=(oO ops Z o=some true/\zW E o Z Z')\/(oO ops Z o=some false/\ASt.put E o.dst (.tuple []) Z=some Z')
section
variable {E:AE} {ops:Array Oper} {o:Oper} {Z Z' τ:ASt}
theorem Vw {d:Option Nat} {p:PV} (h:ASt.put E d p Z=some Z'):Z'.s=qK d p Z.s/\Z'.h=Z.h/\∀ k,d=some k->k<E.n:=by
 cases d with
 | none=>simp[ASt.put] at h; subst h; exact ⟨rfl,rfl,by simp⟩
 | some k =>
  simp only[ASt.put] at h;split at h
  .rename_i hk; cases h; exact ⟨rfl,rfl,fun j e=>by cases e; exact hk⟩
  .cases h
theorem QO {d:Option Nat} {p:PV} (h:∀ k,d=some k->k<E.n):ASt.put E d p Z=some ⟨qK d p Z.s,Z.h⟩:=by
 cases d with
 | none=>rfl
 | some k=>simp only[ASt.put,aH (h k rfl)]; rfl
theorem a0A {t:Nat} (h:Operand.tmp t∈o.op.operands):t∈o.looksAt ops:=RQ _ (List.mem_filterMap.2 ⟨.tmp t,by simpa using h,rfl⟩)
theorem PD (h:∀ t,t∈o.looksAt ops->bK t τ.s=bK t Z.s):oO ops τ o=oO ops Z o:=by
 unfold oO;cases hg:o.guard with
 | none=>rfl
 | some jw =>
  obtain ⟨j,want⟩:=jw;have:xq ops τ j=xq ops Z j:=by
   unfold xq;cases hd:(ops[j]?).bind (·.dst) with
   | none=>rfl
   | some d=>simp only[h d (X6 _ (by simp[hg,hd]))]
  simp only[this]
theorem aJM (h:agree o Z.s τ.s) (hs:iM E o Z):iM E o τ:=by
 obtain ⟨dst,op,type,pos,after,guard⟩:=o;cases op with
 | call c =>
  obtain ⟨callee,args,ts⟩:=c;have hargs:∀ x,x∈args.toList->x∈(Op.call ⟨callee,args,ts⟩).operands:=fun x hx=>by simp only[Op.operands,Call.operands]; exact Bf.2 (.inr (by simpa using hx))
  simp only[iM] at hs ⊢;split
  .split
   .rename_i s x h1;rw[Jg h (hargs s (by rw[h1]; simp)),jb h (hargs x (by rw[h1]; simp))];simpa only[h1] using hs
   .trivial
  .trivial
 | _=>trivial
theorem SQ (h:jg E ops o Z Z'):∃ c p,(c=none\/c=kU E o)/\Z'.s=qK o.dst p (sG c Z.s)/\((hk E o=0\/hk E o=1\/hk E o=5)->Z'.h=Z.h)/\(hk E o=3->kZ Z'.h=kZ Z.h)/\(hk E o=6->BO E Z'.h Z.h) /\
 ∀ τ:ASt,(∀ t,t∈o.looksAt ops->bK t τ.s=bK t Z.s)->(hk E o=0\/τ.h=Z.h\/(hk E o=1/\kZ τ.h=kZ Z.h)\/(hk E o=5/\BO E τ.h Z.h))->∃ τ',jg E ops o τ τ'/\τ'.s=qK o.dst p (sG c τ.s)/\((hk E o=0\/hk E o=1\/hk E o=5)->τ'.h=τ.h)/\(τ.h=Z.h->τ'.h=Z'.h):=by
 rcases h with ⟨hg,hr⟩ | ⟨hg,hp⟩
 .unfold zW at hr;cases hc:qi o with
  | some fa =>
   obtain ⟨f,args⟩:=fa;rw[hc] at hr;obtain ⟨g,first,caps,az,r,h1,h2,h3⟩:=hr;have hop:f∈o.op.operands/\∀ x,x∈args->x∈o.op.operands:=by
    obtain ⟨dst,op,type,pos,after,guard⟩:=o;cases op<;>simp[qi] at hc
    rename_i c;obtain ⟨callee,GY,ts⟩:=c;cases callee<;>simp at hc
    obtain ⟨rfl,rfl⟩:=hc;simp only[Op.operands,Call.operands];exact ⟨Bf.2 (.inl (by simp)),fun x hx=>Bf.2 (.inr (by simpa using hx))⟩
   rcases h3 with ⟨h3,h4,h5,h6⟩ | ⟨hsy,h',h3,hro,h6⟩
   .obtain ⟨p1,p2,p3⟩:=Vw h6;refine ⟨none,r,.inl rfl,p1,fun _=>p2,fun _=>by rw[p2],fun _ i _=>by rw[p2],fun τ ht _=>⟨⟨qK o.dst r τ.s,τ.h⟩,.inl ⟨by rw[PD ht]; exact hg,?_⟩,rfl,fun _=>rfl,fun e=>by rw[p2]; exact e⟩⟩;unfold zW;rw[hc];have hag:agree o Z.s τ.s:=fun t h=>ht t (a0A h)
    exact ⟨g,first,caps,az,r,by rw[jb hag hop.1]; exact h1,by rw[JU fun x hx=>jb hag (hop.2 x hx)]; exact h2,.inl ⟨h3,h4,h5,QO p3⟩⟩
   .obtain ⟨p1,p2,p3⟩:=Vw h6;have hk2:hk E o=2\/hk E o=6:=by
     obtain ⟨dst,op,type,pos,after,guard⟩:=o;cases op<;>simp[qi] at hc
     rename_i c;obtain ⟨callee,GY,ts⟩:=c;cases callee<;>simp at hc
     simp only at hsy;simp only[hk,hsy,fD];split
     .exact .inr rfl
     .exact .inl rfl
    refine ⟨none,r,.inl rfl,p1,fun e=>by omega,fun e=>by omega,fun _=>by rw[p2]; exact hro,fun τ ht hh => ?_⟩;have hh':τ.h=Z.h:=by
     rcases hh with h | h | h | h
     .omega
     .exact h
     .omega
     .omega
    refine ⟨⟨qK o.dst r τ.s,h'⟩,.inl ⟨by rw[PD ht]; exact hg,?_⟩,rfl,fun e=>by omega,fun _=>by rw[p2]⟩;unfold zW;rw[hc];have hag:agree o Z.s τ.s:=fun t h=>ht t (a0A h)
    exact ⟨g,first,caps,az,r,by rw[jb hag hop.1]; exact h1,by rw[JU fun x hx=>jb hag (hop.2 x hx)]; exact h2,.inr ⟨hsy,h',by rw[hh']; exact h3,by rw[hh']; exact hro,QO (Z := { τ with h:=h' }) p3⟩⟩
  | none =>
   rw[hc] at hr;obtain ⟨p,Z1,h1,h2,h3⟩:=hr;obtain ⟨p1,p2,p3⟩:=Vw h3;have hself:=aKC (Z':=Z) h1 (fun _ _=>rfl) (.inr (.inl rfl));obtain ⟨_,_,s1,_,s3,_,s5⟩:=hself;have e5:hk E o=5->Z1.h=Z.h:=fun e=>by rw[(aKB h1 e (Z':=Z) (fun _ _=>rfl) (fun _ _=>rfl)).1]
   refine ⟨kU E o,p,.inr rfl,by rw[p1,s1],fun e=>by
    rw[p2];rcases e with e | e | e
    .exact (s3 (.inl e)).1
    .exact (s3 (.inr e)).1
    .exact e5 e,fun e=>by rw[p2]; exact s5 e,fun e=>by rw[p2]; exact bCX h1 e hc,fun τ ht hh => ?_⟩
   have hag:agree o Z.s τ.s:=fun t h=>ht t (a0A h)
   by_cases h5:hk E o=5
   .have hro:BO E τ.h Z.h:=by
     rcases hh with h | h | h | h
     .omega
     .intro i _; rw[h]
     .omega
     .exact h.2
    obtain ⟨l0,l1,l2⟩:=aKB h1 h5 hag hro;refine ⟨⟨qK o.dst p τ.s,τ.h⟩,.inl ⟨by rw[PD ht]; exact hg,?_⟩,by rw[l2]; rfl,fun _=>rfl,fun e=>by rw[p2,e5 h5]; exact e⟩;unfold zW;rw[hc];exact ⟨p,τ,l1,aJM hag h2,QO p3⟩
   have hh3:hk E o=0\/τ.h=Z.h\/(hk E o=1/\kZ τ.h=kZ Z.h):=by
    rcases hh with h | h | h | h
    .exact .inl h
    .exact .inr (.inl h)
    .exact .inr (.inr h)
    .exact absurd h.1 h5
   obtain ⟨τ1,l1,l2,l3,l4,l5,_⟩:=aKC h1 hag hh3;refine ⟨⟨qK o.dst p τ1.s,τ1.h⟩,.inl ⟨by rw[PD ht]; exact hg,?_⟩,by simp only[l3],fun e=>by
    rcases e with e | e | e
    .exact (l4 (.inl e)).2
    .exact (l4 (.inr e)).2
    .exact absurd e h5,fun e=>by rw[p2]; exact l5 e⟩
   unfold zW;rw[hc];exact ⟨p,τ1,l1,aJM hag h2,QO p3⟩
 .obtain ⟨p1,p2,p3⟩:=Vw hp;exact ⟨none,.tuple [],.inl rfl,p1,fun _=>p2,fun _=>by rw[p2],fun _ i _=>by rw[p2],fun τ ht _=>⟨⟨qK o.dst (.tuple []) τ.s,τ.h⟩,.inr ⟨by rw[PD ht]; exact hg,QO p3⟩,rfl,fun _=>rfl,fun e=>by rw[p2]; exact e⟩⟩
theorem jg.gG (h:jg E ops o Z Z') (hs:iH Z.s):iH Z'.s:=by obtain ⟨c,p,_,e,_⟩:=SQ h;rw[e]; exact DK (EL hs)
def writes (E:AE) (o:Oper):List Nat:=o.dst.toList ++ (kU E o).toList
def aDM (a b:Nat):Bool:=a==0||b==0||(a==1&&b==1)||(a==1&&b==3)||(a==3&&b==1)||(a==5&&(b==1||b==5||b==6))||(b==5&&(a==1||a==6))
def PQ (o:Oper):Option ByteArray:=match o.op,o.dst,o.guard with
 | .insert _ _ (.const (.string k)) _,none,none=>some k
 | _,_,_=>none
def ZO (x y:Oper):Bool:=match PQ x,PQ y with
 | some a,some b => !(a.data.toList==b.data.toList)
 | _,_=>false
def Y5 (E:AE) (ops:Array Oper) (x y:Oper):Bool :=(writes E x).all (fun d => !(y.looksAt ops).contains d && !(writes E y).contains d)&&(writes E y).all (fun d => !(x.looksAt ops).contains d)&&aDM (hk E x) (hk E y)
def GZ (E:AE) (ops:Array Oper) (x y:Oper):Bool:=Y5 E ops x y||ZO x y
theorem a6V:∀ {a b c:List UInt8},AV a b=true->AV b c=true->AV a c=true
 | [],[],_,h,_=>by cases h
 | [],_::_,[],_,h=>by cases h
 | [],_::_,_::_,_,_=>rfl
 | _::_,[],_,h,_=>by cases h
 | _::_,_::_,[],_,h=>by cases h
 | a::az,b::bs,c::cs,h1,h2=>by
  simp only[AV,ut,aY,tu,G5] at h1 h2 ⊢;rcases h1 with h1 | ⟨h1,h1'⟩<;>rcases h2 with h2 | ⟨h2,h2'⟩
  .left; omega
  .left; omega
  .left; omega
  .right; exact ⟨by omega,a6V h1' h2'⟩
theorem Xq:∀ {a b:List UInt8},a≠b->AV b a = !AV a b
 | [],[],h=>absurd rfl h
 | [],_::_,_=>rfl
 | _::_,[],_=>rfl
 | a::az,b::bs,h=>by
  simp only[AV];rcases Nat.lt_trichotomy a.toNat b.toNat with hl | he | hg
  .rw[show Nat.blt a.toNat b.toNat=true by rw[tu]; exact hl,show Nat.blt b.toNat a.toNat=false by rw[<- Wx,tu]; omega,show Nat.beq b.toNat a.toNat=false by rw[<- Wx,G5]; omega]; rfl
  .have hab:a=b:=UInt8.toNat_inj.1 he;subst hab;have hn:az≠bs:=fun e=>h (by rw[e])
   rw[show Nat.blt a.toNat a.toNat=false by rw[<- Wx,tu]; omega,show Nat.beq a.toNat a.toNat=true by rw[G5],Xq hn]; rfl
  .rw[show Nat.blt a.toNat b.toNat=false by rw[<- Wx,tu]; omega,show Nat.blt b.toNat a.toNat=true by rw[tu]; exact hg,show Nat.beq a.toNat b.toNat=false by rw[<- Wx,G5]; omega]; rfl
section
variable {a b:ByteArray} {x y:PV}
def rY:List PV->Prop
 | k::_::L=>(∃ c,k = .str c)/\rY L
 | []=>True
 | [_]=>False
theorem Xk:∀ {L:List PV},nP none L (.str a)=true↔rY L
 | []=>⟨fun _=>trivial,fun _=>rfl⟩
 | [_]=>⟨fun h=>(by simp[nP] at h),fun h=>h.elim⟩
 | k::v::L=>by rw[nP,aY,rY,Xk (L:=L)];refine and_congr ⟨fun h => ?_,fun ⟨c,hc⟩=>by subst hc; rfl⟩ Iff.rfl;cases k<;>first | exact ⟨_,rfl⟩ | (simp[eqK] at h)
theorem ZB (hab:a.data.toList≠b.data.toList):∀ {L:List PV},rY L->ng none (kX none L (.str a) x) (.str b)=ng none L (.str b)
 | [],_=>rfl
 | [_],h=>h.elim
 | k::v::L,⟨⟨c,hc⟩,h⟩=>by
  subst hc;simp only[kX,eqK];by_cases hac:a.data.toList=c.data.toList
  .rw[show (a.data.toList==c.data.toList)=true by rw[kF]; exact hac];simp only[ng,eqK];rw[hac]
  .rw[show (a.data.toList==c.data.toList)=false from rU.2 hac];simp only[ng,eqK];rw[ZB hab h]
theorem ZA (hab:a.data.toList≠b.data.toList):∀ {L:List PV},rY L->ng none (lX L (.str a) x) (.str b)=ng none L (.str b)
 | [],_=>by simp only[lX,ng,eqK];rw[show (b.data.toList==a.data.toList)=false from rU.2 (Ne.symm hab)]
 | [_],h=>h.elim
 | k::v::L,⟨⟨c,hc⟩,h⟩=>by
  subst hc;simp only[lX];cases lH (.str a) (.str c) with
  | true =>simp only[ng,eqK];rw[show (b.data.toList==a.data.toList)=false from rU.2 (Ne.symm hab)]
  | false =>simp only[ng];rw[ZA hab h]
theorem aGR (hab:a.data.toList≠b.data.toList):∀ {L:List PV},rY L->kX none (kX none L (.str a) x) (.str b) y=kX none (kX none L (.str b) y) (.str a) x
 | [],_=>rfl
 | [_],h=>h.elim
 | k::v::L,⟨⟨c,hc⟩,h⟩=>by
  subst hc;by_cases hac:a.data.toList=c.data.toList
  .have hbc:(b.data.toList==c.data.toList)=false:=rU.2 fun e=>hab (hac.trans e.symm)
   have hba:(b.data.toList==a.data.toList)=false:=rU.2 (Ne.symm hab);simp only[kX,eqK,show (a.data.toList==c.data.toList)=true by rw[kF]; exact hac,hbc,hba]
  .have HY:(a.data.toList==c.data.toList)=false:=rU.2 hac;by_cases hbc:b.data.toList=c.data.toList
   .have hab':(a.data.toList==b.data.toList)=false:=rU.2 hab;simp only[kX,eqK,HY,show (b.data.toList==c.data.toList)=true by rw[kF]; exact hbc,hab']
   .have b2G:(b.data.toList==c.data.toList)=false:=rU.2 hbc;simp only[kX,eqK,HY,b2G,aGR hab h]
theorem a0G (hab:a.data.toList≠b.data.toList):∀ {L:List PV},rY L->ng none L (.str a)=true->lX (kX none L (.str a) x) (.str b) y=kX none (lX L (.str b) y) (.str a) x
 | [],_,h=>by cases h
 | [_],h,_=>h.elim
 | k::v::L,⟨⟨c,hc⟩,h⟩,hh=>by
  subst hc;have hab':(a.data.toList==b.data.toList)=false:=rU.2 hab;by_cases hac:a.data.toList=c.data.toList
  .have hl:lH (.str b) (.str a)=lH (.str b) (.str c):=by simp only[lH,hac]
   simp only[kX,eqK,show (a.data.toList==c.data.toList)=true by rw[kF]; exact hac,lX,hl];cases lH (.str b) (.str c) with
   | true=>simp only[kX,eqK,hab',show (a.data.toList==c.data.toList)=true by rw[kF]; exact hac]
   | false=>simp only[kX,eqK,show (a.data.toList==c.data.toList)=true by rw[kF]; exact hac]
  .have HY:(a.data.toList==c.data.toList)=false:=rU.2 hac;simp only[ng,eqK,HY] at hh;simp only[kX,eqK,HY,lX];cases lH (.str b) (.str c) with
   | true=>simp only[kX,eqK,hab',HY]
   | false=>simp only[kX,eqK,HY,a0G hab h hh]
theorem aD' (hab:a.data.toList≠b.data.toList):∀ {L:List PV},rY L->lX (lX L (.str a) x) (.str b) y=lX (lX L (.str b) y) (.str a) x
 | [],_=>by have ht:lH (.str b) (.str a) = !lH (.str a) (.str b):=Xq hab;simp only[lX,ht];cases lH (.str a) (.str b)<;>rfl
 | [_],h=>h.elim
 | k::v::L,⟨⟨c,hc⟩,h⟩=>by
  subst hc;have ht:lH (.str b) (.str a) = !lH (.str a) (.str b):=Xq hab;have tr:∀ {p q r:ByteArray},lH (.str p) (.str q)=true->lH (.str q) (.str r)=true->lH (.str p) (.str r)=true:=fun h1 h2=>a6V h1 h2
  cases ha:lH (.str a) (.str c) with
  | true =>
   cases hb:lH (.str b) (.str c) with
   | true =>simp only[lX,ha,hb,ht];cases lH (.str a) (.str b)<;>simp
   | false =>
    have hn:lH (.str b) (.str a)=false:=by
     cases hh:lH (.str b) (.str a) with
     | false=>rfl
     | true=>rw[tr hh ha] at hb; cases hb
    simp only[lX,ha,hb,hn]
  | false =>
   cases hb:lH (.str b) (.str c) with
   | true =>
    have hn:lH (.str a) (.str b)=false:=by
     cases hh:lH (.str a) (.str b) with
     | false=>rfl
     | true=>rw[tr hh hb] at ha; cases ha
    simp only[lX,ha,hb,hn]
   | false=>simp only[lX,ha,hb,aD' hab h]
theorem bAE (hab:a.data.toList≠b.data.toList) {L:List PV} (h:rY L):iL none (iL none L (.str a) x) (.str b) y=iL none (iL none L (.str b) y) (.str a) x:=by
 unfold iL;cases ha:ng none L (.str a)<;>cases hb:ng none L (.str b)<;>simp only[ZB hab h,ZA hab h,ZB (Ne.symm hab) h,ZA (Ne.symm hab) h,ha,hb]
 .exact aD' hab h
 .exact (a0G (Ne.symm hab) h hb).symm
 .exact a0G hab h ha
 .exact aGR hab h
theorem aGP:∀ {L:List PV},rY L->rY (kX none L (.str a) x)
 | [],_=>trivial
 | [_],h=>h.elim
 | k::v::L,⟨⟨c,hc⟩,h⟩=>by
  subst hc;simp only[kX,eqK];split
  .exact ⟨⟨_,rfl⟩,h⟩
  .exact ⟨⟨_,rfl⟩,aGP h⟩
theorem aDZ:∀ {L:List PV},rY L->rY (lX L (.str a) x)
 | [],_=>⟨⟨_,rfl⟩,trivial⟩
 | [_],h=>h.elim
 | k::v::L,⟨⟨c,hc⟩,h⟩=>by
  subst hc;simp only[lX];cases lH (.str a) (.str c) with
  | true=>exact ⟨⟨_,rfl⟩,⟨_,rfl⟩,h⟩
  | false=>exact ⟨⟨_,rfl⟩,aDZ h⟩
theorem bAC {L:List PV} (h:rY L):rY (iL none L (.str a) x):=by
 unfold iL;split
 .exact aGP h
 .exact aDZ h
end
theorem b39 {o:Oper} {k:ByteArray} (h:PQ o=some k):∃ t m v,o.op = .insert t m (.const (.string k)) v/\o.dst=none/\o.guard=none:=by
 unfold PQ at h;split at h
 .rename_i t m k' v h1 h2 h3; cases h; exact ⟨t,m,v,h1,h2,h3⟩
 .cases h
theorem KO {o:Oper} {k:ByteArray} (hk:PQ o=some k):jg E ops o Z Z'↔∃ t m v,o.op = .insert t m (.const (.string k)) v/\∃ i q cs b L z,Qh E.mu E.ln (xB m) (Z.rd m)=true/\zK E.P t=some (none,z)/\Z.rd m=some (.bf 0 i)/\Z.rd v=some q/\Z.h[i]? = some (some cs)/\xw cs=some (b,L)/\rY L/\(!b||q.flat)=true /\
 Z' = { Z with h:=Z.h.set i (some [lI b (iL none L (.str k) q)]) }:=by
 obtain ⟨t,m,v,h1,h2,h3⟩:=b39 hk;obtain ⟨dst,op,type,pos,after,guard⟩:=o;simp only at h1 h2 h3;subst h1; subst h2; subst h3;have hc:qi ⟨none,Op.insert t m (.const (.string k)) v,type,pos,after,none⟩=none:=rfl;have hr:Z.rd (.const (.string k))=some (.str k):=rfl;constructor
 .rintro (⟨_,h⟩ | ⟨h,_⟩)
  .unfold zW at h;rw[hc] at h;obtain ⟨p,Z1,hs,_,hp⟩:=h;simp only[ASt.put,wJ] at hp;subst hp;simp only[bP] at hs;split at hs
   .cases hs
   rename_i hso;split at hs
   .rename_i s z i q y ht g1 gk g3 gd;rw[hr] at gk;cases gk;split at hs
    .rename_i cs hcs;split at hs
     .rename_i b L hin;split at hs
      .rename_i hik;cases hs;simp only[aY] at hik;have hsn:s=none:=by
        cases s with
        | none=>rfl
        | some kd=>have:=hik.1; simp[vO] at this
       subst hsn;exact ⟨t,m,v,rfl,i,y,cs,b,L,z,hso,ht,g1,g3,hcs,hin,Xk.1 hik.2.1,hik.2.2,rfl⟩
      .cases hs
     .cases hs
    .cases hs
   .cases hs
  .simp[oO] at h
 .rintro ⟨t',m',v',e,i,q,cs,b,L,z,hso,ht,g1,g3,hcs,hin,hal,hfl,rfl⟩;cases e;refine .inl ⟨rfl,?_⟩;unfold zW;rw[hc];refine ⟨.tuple [],{ Z with h:=Z.h.set i (some [lI b (iL none L (.str k) q)]) },?_,trivial,rfl⟩;rw[g1] at hso;simp only[bP,hso,ht,g1,hr,g3,hcs,hin,vO,(Xk (a:=k)).2 hal,hfl,wF]
theorem aGG {b:Bool} {L:List PV}:xw [lI b L]=some (b,L):=by cases b<;>rfl
theorem aPB {x y:Oper} {Z1 Z2:ASt} (h1:jg E ops x Z Z1) (h2:jg E ops y Z1 Z2) (hc:ZO x y=true):∃ τ,jg E ops y Z τ/\jg E ops x τ Z2:=by
 unfold ZO at hc;split at hc
 .rename_i a b hx hy;have hab:a.data.toList≠b.data.toList:=by simpa using hc
  obtain ⟨t,m,v,e1,i,q,cs,b1,L,z,s1,s2,s3,s4,s5,s6,s7,s8,rfl⟩:=(KO hx).1 h1;obtain ⟨t',m',v',e2,j,q',cs',b2,L',z',u1,u2,u3,u4,u5,u6,u7,u8,rfl⟩:=(KO hy).1 h2;have u1:Qh E.mu E.ln (xB m') (Z.rd m')=true:=u1;have u3:Z.rd m'=some (.bf 0 j):=u3;have u4:Z.rd v'=some q':=u4;have u5:(Z.h.set i (some [lI b1 (iL none L (.str a) q)]))[j]? = some (some cs'):=u5;by_cases hij:i=j
  .subst hij;have hlt:i<Z.h.length:=(dQ.1 s5).1;rw[o7 hlt] at u5;injection u5 with u5; injection u5 with u5; subst u5
   rw[aGG] at u6;injection u6 with u6; injection u6 with u6a u6b
   subst u6a; subst u6b;refine ⟨{ Z with h:=Z.h.set i (some [lI b1 (iL none L (.str b) q')]) },(KO hy).2 ⟨t',m',v',e2,i,q',cs,b1,L,z',u1,u2,u3,u4,s5,s6,s7,u8,rfl⟩,(KO hx).2 ⟨t,m,v,e1,i,q,[lI b1 (iL none L (.str b) q')],b1,iL none L (.str b) q',z,s1,s2,s3,s4,?_,aGG,bAC s7,s8,?_⟩⟩
   .exact o7 hlt
   .show ASt.mk Z.s ((Z.h.set i _).set i _)=ASt.mk Z.s ((Z.h.set i _).set i _);rw[List.set_set,List.set_set,bAE hab s7]
  .rw[jd hij] at u5;refine ⟨{ Z with h:=Z.h.set j (some [lI b2 (iL none L' (.str b) q')]) },(KO hy).2 ⟨t',m',v',e2,j,q',cs',b2,L',z',u1,u2,u3,u4,u5,u6,u7,u8,rfl⟩,(KO hx).2 ⟨t,m,v,e1,i,q,cs,b1,L,z,s1,s2,s3,s4,?_,s6,s7,s8,?_⟩⟩
   .show (Z.h.set j _)[i]? = _;rw[jd (Ne.symm hij)]; exact s5
   .show ASt.mk Z.s ((Z.h.set i _).set j _)=ASt.mk Z.s ((Z.h.set j _).set i _);rw[List.set_comm _ _ hij]
 .cases hc
theorem aPA {x y:Oper} {Z1 Z2:ASt} (hs:iH Z.s) (h1:jg E ops x Z Z1) (h2:jg E ops y Z1 Z2) (hc:Y5 E ops x y=true):∃ τ,jg E ops y Z τ/\jg E ops x τ Z2:=by
 unfold Y5 at hc;simp only[aY,fH,tX,List.contains_eq_mem,NK] at hc;obtain ⟨⟨hw1,hw2⟩,hh⟩:=hc;obtain ⟨c1,p1,k1,e1,a1,b1,r1,t1⟩:=SQ h1;obtain ⟨c2,p2,k2,e2,a2,b2,r2,t2⟩:=SQ h2;have wr:∀ {o:Oper} {c:Option Nat} {k:Nat},(c=none\/c=kU E o)->c=some k->k∈writes E o:=fun hk e=>by
  rcases hk with h | h
  .rw[h] at e; cases e
  .exact X6 _ (by rw[<- h,e]; simp)
 have wd:∀ {o:Oper} {k:Nat},o.dst=some k->k∈writes E o:=fun e=>RQ _ (by rw[e]; simp)
 have hsame:∀ {o:Oper} {c:Option Nat} {p:PV} {s:dw} {t:Nat},iH s->(c=none\/c=kU E o)->t∉writes E o->bK t (qK o.dst p (sG c s))=bK t s:=fun hs hk ht=>by rw[Qe (EL hs),aI (fun e=>ht (wd e)),Qd hs,aI (fun e=>ht (wr hk e))]
 unfold aDM at hh;simp only[ut,aY,kF] at hh;have hheap:hk E y=0\/Z.h=Z1.h\/(hk E y=1/\kZ Z.h=kZ Z1.h)\/(hk E y=5/\BO E Z.h Z1.h):=by
  rcases hh with (((((h | h) | h) | h) | h) | h) | h
  .exact .inr (.inl (a1 (.inl h)).symm)
  .exact .inl h
  .exact .inr (.inl (a1 (.inr (.inl h.1))).symm)
  .exact .inr (.inl (a1 (.inr (.inl h.1))).symm)
  .exact .inr (.inr (.inl ⟨h.2,(b1 h.1).symm⟩))
  .exact .inr (.inl (a1 (.inr (.inr h.1))).symm)
  .rcases h.2 with h2 | h2
   .exact .inr (.inl (a1 (.inr (.inl h2))).symm)
   .exact .inr (.inr (.inr ⟨h.1,fun i hi=>(r1 h2 i hi).symm⟩))
 obtain ⟨τ,y1,y2,y3,y4⟩:=t2 Z (fun t ht=>by rw[e1,hsame hs k1 fun hw=>(hw1 t hw).1 ht]) hheap;have hy:=SQ y1;obtain ⟨_,_,_,_,ya,yb,yr,_⟩:=hy;have b2M:hk E x=0\/τ.h=Z.h\/(hk E x=1/\kZ τ.h=kZ Z.h)\/(hk E x=5/\BO E τ.h Z.h):=by
  rcases hh with (((((h | h) | h) | h) | h) | h) | h
  .exact .inl h
  .exact .inr (.inl (ya (.inl h)))
  .exact .inr (.inl (ya (.inr (.inl h.2))))
  .exact .inr (.inr (.inl ⟨h.1,yb h.2⟩))
  .exact .inr (.inl (ya (.inr (.inl h.2))))
  .rcases h.2 with (h2 | h2) | h2
   .exact .inr (.inl (ya (.inr (.inl h2))))
   .exact .inr (.inl (ya (.inr (.inr h2))))
   .exact .inr (.inr (.inr ⟨h.1,yr h2⟩))
  .exact .inr (.inl (ya (.inr (.inr h.1))))
 obtain ⟨τ',x1,x2,x3,x4⟩:=t1 τ (fun t ht=>by rw[y2,hsame hs k2 fun hw=>hw2 t hw ht]) b2M;refine ⟨τ,y1,?_⟩;have aDR:τ'.s=Z2.s:=by rw[x2,y2,e2,e1];exact aPF hs (fun k e=>⟨fun e'=>(hw1 k (wd e)).2 (wd e'),fun e'=>(hw1 k (wd e)).2 (wr k2 e')⟩) (fun k e=>⟨fun e'=>(hw1 k (wr k1 e)).2 (wd e'),fun e'=>(hw1 k (wr k1 e)).2 (wr k2 e')⟩)
 have aDL:τ'.h=Z2.h:=by
  rcases hh with (((((h | h) | h) | h) | h) | h) | h
  .rw[x3 (.inl h)]; exact y4 (a1 (.inl h)).symm
  .rw[x4 (ya (.inl h)),a2 (.inl h)]
  .rw[x4 (ya (.inr (.inl h.2))),a2 (.inr (.inl h.2))]
  .rw[x3 (.inr (.inl h.1))]; exact y4 (a1 (.inr (.inl h.1))).symm
  .rw[x4 (ya (.inr (.inl h.2))),a2 (.inr (.inl h.2))]
  .rw[x3 (.inr (.inr h.1))]; exact y4 (a1 (.inr (.inr h.1))).symm
  .rw[x4 (ya (.inr (.inr h.1))),a2 (.inr (.inr h.1))]
 have:τ'=Z2:=by cases τ'; cases Z2; simp only at aDR aDL; rw[aDR,aDL]
 rw[<- this]; exact x1
theorem a7S {x y:Oper} {Z1 Z2:ASt} (hs:iH Z.s) (h1:jg E ops x Z Z1) (h2:jg E ops y Z1 Z2) (hc:GZ E ops x y=true):∃ τ,jg E ops y Z τ/\jg E ops x τ Z2:=by
 unfold GZ at hc;rcases Bool.or_eq_true_iff.1 hc with hc | hc
 .exact aPA hs h1 h2 hc
 .exact aPB h1 h2 hc
def Chain (E:AE) (ops:Array Oper):List Nat->ASt->ASt->Prop
 | [],Z,Z'=>Z=Z'
 | i::l,Z,Z'=>∃ o,ops[i]? = some o/\∃ Z1,jg E ops o Z Z1/\Chain E ops l Z1 Z'
theorem a7K {i:Nat} {oi:Oper} (hi:ops[i]? = some oi):∀ (p q:List Nat) {Z Z':ASt},iH Z.s->Chain E ops (p ++ i::q) Z Z'->(∀ k,k∈p->∀ ok,ops[k]? = some ok->GZ E ops ok oi=true)->∃ Z1,jg E ops oi Z Z1/\Chain E ops (p ++ q) Z1 Z'
 | [],q,Z,Z',hs,h,_=>by obtain ⟨o,ho,Z1,h1,h2⟩:=h;rw[hi] at ho; cases ho;exact ⟨Z1,h1,h2⟩
 | k::p,q,Z,Z',hs,h,hc=>by
  obtain ⟨o,ho,Z1,h1,h2⟩:=h;obtain ⟨Z2,h3,h4⟩:=a7K hi p q (h1.gG hs) h2 fun k hk=>hc k (by simp[hk])
  obtain ⟨τ,d1,d2⟩:=a7S hs h1 h3 (hc k (by simp) o ho);exact ⟨τ,d1,o,ho,Z2,d2,h4⟩
def a6E (acc:List Nat) (o:Oper):Nat:=o.after.toList.foldl (fun s e=>if Region.binds .any e then s ||| (2 ^ e.on ||| acc.getD e.on 0) else s) 0
def ED:List Nat->List Oper->List Nat
 | acc,[]=>acc
 | acc,o::l=>ED (acc ++ [a6E acc o]) l
def Closed (ops:Array Oper) (L:Nat->Prop):Prop:=∀ (j:Nat) o,ops[j]? = some o->L j->∀ e,e∈o.after->Region.binds .any e=true->L e.on
theorem aM8 {acc:List Nat} {o:Oper} {k:Nat} (h:(a6E acc o).testBit k=true):∃ e,e∈o.after/\Region.binds .any e=true/\(k=e.on\/(acc.getD e.on 0).testBit k=true):=by
 have key:∀ (l:List Edge) (s:Nat),(l.foldl (fun s e=>if Region.binds .any e then s ||| (2 ^ e.on ||| acc.getD e.on 0) else s) s).testBit k=true->s.testBit k=true\/∃ e,e∈l/\Region.binds .any e=true/\(k=e.on\/(acc.getD e.on 0).testBit k=true):=by
  intro l;induction l with
  | nil=>intro s h; exact .inl h
  | cons e l ih =>
   intro s h;rw[List.foldl_cons] at h;rcases ih _ h with h1 | ⟨e',h1,h2⟩
   .split at h1
    .rename_i hb;rw[Nat.testBit_or,Nat.testBit_or] at h1;simp only[ut] at h1;rcases h1 with h1 | h1 | h1
     .exact .inl h1
     .refine .inr ⟨e,by simp,hb,.inl ?_⟩;rw[Nat.testBit_two_pow] at h1; exact (jP h1).symm
     .exact .inr ⟨e,by simp,hb,.inr h1⟩
    .exact .inl h1
   .exact .inr ⟨e',by simp[h1],h2⟩
 rcases key o.after.toList 0 h with h1 | ⟨e,h1,h2⟩
 .simp at h1
 .exact ⟨e,by simpa using h1,h2⟩
def XC (ops:Array Oper) (acc:List Nat):Prop:=∀ (j:Nat) o,j<acc.length->ops[j]? = some o->∀ L,Closed ops L->(∀ e,e∈o.after->Region.binds .any e=true->L e.on)->∀ k,(acc.getD j 0).testBit k=true->L k
theorem a6F {ops:Array Oper}:∀ (l:List Oper) (acc:List Nat),XC ops acc->(∀ j,l[j]? = ops[acc.length+j]?)->XC ops (ED acc l)
 | [],acc,h,_=>h
 | o::l,acc,h,hl=>by
  rw[ED];have ho:ops[acc.length]? = some o:=by have:=hl 0; simpa using this.symm
  refine a6F l _ (fun j o' hj ho' L hL hd k hk => ?_) (fun j=>by have:=hl (j+1); simpa[Nat.add_assoc,Nat.add_comm 1 j] using this);rcases je j acc.length with hlt | hge
  .refine h j o' hlt ho' L hL hd k ?_;rwa [NE,jM hlt,<- NE] at hk
  .have hje:j=acc.length:=by simp at hj; omega
   subst hje;rw[ho] at ho'; cases ho';rw[NE,qQ (bQ _)] at hk;simp at hk;obtain ⟨e,he,hb,hkk⟩:=aM8 hk;rcases hkk with rfl | hkk
   .exact hd e he hb
   .have hle:=hd e he hb;rcases je e.on acc.length with h1 | h1
    .cases hoe:ops[e.on]? with
     | none =>have h2:=(rH.1 ho).1;rw[Array.getElem?_eq_none_iff] at hoe; omega
     | some oe=>exact h e.on oe h1 hoe L hL (hL e.on oe hoe hle) k (by simpa using hkk)
    .rw[NE,rO h1] at hkk; simp at hkk
def okD (E:AE) (ops:Array Oper):Bool :=
 let A:=ED [] ops.toList
 (List.range ops.size).all fun j=>match ops[j]? with
  | some oj=>oj.after.toList.all (fun e => !Region.binds .any e||decide (e.on<j))&&(List.range j).all fun i=>match ops[i]? with
   | some oi=>(A.getD j 0).testBit i||GZ E ops oi oj
   | none=>true
  | none=>true
theorem b7G (h:okD E ops=true):(∀ (j:Nat) o,ops[j]? = some o->∀ e,e∈o.after->Region.binds .any e=true->e.on<j) /\
 ∀ (i j:Nat) oi oj,i<j->ops[i]? = some oi->ops[j]? = some oj->∀ L,Closed ops L->(∀ e,e∈oj.after->Region.binds .any e=true->L e.on)->¬ L i->GZ E ops oi oj=true:=by
 unfold okD at h;simp only[fH,Fv] at h;have hA:XC ops (ED [] ops.toList):=a6F ops.toList [] (fun j o hj=>by simp at hj) (fun j=>by simp);have hlen:∀ (l:List Oper) (acc:List Nat),(ED acc l).length=acc.length+l.length:=by
  intro l;induction l with
  | nil=>intro acc; simp[ED]
  | cons o l ih=>intro acc; rw[ED,ih]; simp; omega
 constructor
 .intro j o ho e he hb;have:=h j (rH.1 ho).1;simp only[ho,aY,fH] at this;have:=this.1 e (by simpa using he);simpa[hb] using this
 .intro i j oi oj hij hi hj L hL hd hn;have hjs:=(rH.1 hj).1;have:=h j hjs;simp only[hj,aY,fH,Fv] at this;have:=this.2 i hij;simp only[hi,ut] at this;rcases this with h1 | h1
  .exact absurd (hA j oj (by rw[hlen]; simpa using hjs) hj L hL hd i h1) hn
  .exact h1
theorem aD1 {out:Nat->Nat} {M:Mem} {B:aQ} {a:Act} {w:World} (hI:Inv E.n M B out Z a.tmps w) {b:Bool} (h:oO ops Z o=some b):Region.wanted o (yielded ops a.tmps)=b:=by
 unfold oO at h;unfold Region.wanted;cases hg:o.guard with
 | none=>rw[hg] at h; simpa using h
 | some jw =>
  obtain ⟨j,want⟩:=jw;rw[hg] at h;cases hv:xq ops Z j with
  | none=>simp[hv] at h
  | some x=>simp[hv] at h; simp only; rw[Ar hI hv]; exact h
theorem aL4 {out:Nat->Nat} {M:Mem} {B:aQ} {a:Act} {w:World} (hI:Inv E.n M B out Z a.tmps w) {i:Nat} (hi:ops[i]? = some o) (h:jg E ops o Z Z') {K:Act->World->Prop} {Q:Exit->Act->World->Prop}
 (hK:∀ v M' B' w',Good E.n out M B Z a.tmps w M' B' Z' (a.put o.dst v).tmps w'->K (a.put o.dst v) w'):wpOp E.P ops Q i K a w:=by
 unfold wpOp;simp only[hi];rcases h with ⟨hg,hr⟩ | ⟨hg,hp⟩
 .rw[aH (aD1 hI hg)];refine .inl ?_;unfold zW at hr;cases hc:qi o with
  | some fa =>
   obtain ⟨f,args⟩:=fa;rw[hc] at hr;obtain ⟨g,first,caps,az,r,h1,h2,h3⟩:=hr;refine Si (K:=fun τ=>τ=Z') hI ?_ fun v τ M' B' w' e hG=>by subst e; exact hK v M' B' w' hG
   unfold uK;obtain ⟨dst,op,type,pos,after,guard⟩:=o;cases op<;>simp[qi] at hc
   rename_i c;obtain ⟨callee,GY,ts⟩:=c;cases callee<;>simp at hc
   obtain ⟨rfl,rfl⟩:=hc;simp only[h1,h2];rcases h3 with ⟨h3,h4,h5,h6⟩ | ⟨_,h',h3,_,h6⟩
   .refine ⟨r,Z.h,h3.frame' h4 h5 _,?_⟩;unfold gz;simp only at h6;simp only[h6]
   .refine ⟨r,h',h3,?_⟩;unfold gz;simp only at h6;simp only[h6]
  | none =>
   rw[hc] at hr;obtain ⟨p,Z1,h1,h2,h3⟩:=hr;refine aK8 (K:=fun τ=>τ=Z') hI ?_ fun v τ M' B' w' e hG=>by subst e; exact hK v M' B' w' hG
   unfold vg;rw[h1];refine ⟨h2,?_⟩;unfold gz;rw[h3]
 .rw[aI (by rw[aD1 hI hg]; simp)];exact hK undef M B w (WP hI hp)
def lh (n:Nat) (L:Array Bool):List Nat:=(List.range n).filter fun i => !L.getD i true
theorem I9 {n:Nat} {L:Array Bool} {i:Nat}:i∈lh n L↔i<n/\L.getD i true=false:=by unfold lh; rw[List.mem_filter,Fv]; simp
theorem bEQ {n:Nat} {L:Array Bool} {i:Nat} (hL:L.size=n) (hi:i<n) (hu:L.getD i true=false):∃ p q,lh n L=p ++ i::q/\lh n (L.setIfInBounds i true)=p ++ q/\∀ k,k∈p->k<i:=by
 have hr:List.range n=List.range i ++ i::(List.range' (i+1) (n-i-1)):=by
  have:n=i+(n-i-1+1):=by omega
  rw[a4T,a4T,this,<- List.range'_append_1,X7];simp
 have hne:∀ j,j≠i->(L.setIfInBounds i true).getD j true=L.getD j true:=fun j h=>by simp[aL9 (Ne.symm h)]
 have heq:(L.setIfInBounds i true).getD i true=true:=by simp[hL,hi]
 refine ⟨(List.range i).filter fun i => !L.getD i true,(List.range' (i+1) (n-i-1)).filter fun i => !L.getD i true,?_,?_,fun k hk => ?_⟩
 .unfold lh; rw[hr,List.filter_append,a4Q,hu]; simp
 .unfold lh; rw[hr,List.filter_append,a4Q,heq];simp only[uq,rJ,qV];congr 1
  .exact List.filter_congr fun j hj=>by rw[hne j (by have:=Fv.1 hj; omega)]
  .exact List.filter_congr fun j hj=>by rw[hne j (by have:=(List.mem_range'_1.1 hj).1; omega)]
 .rw[List.mem_filter,Fv] at hk; exact hk.1
theorem a6H (hok:okD E ops=true) {out:Nat->Nat} {Q:Exit->Act->World->Prop}:∀ (fuel:Nat) (L:Array Bool) {M:Mem} {B:aQ} {Z:ASt} {a:Act} {w:World} {K:ASt->Prop} {Z':ASt},L.size=ops.size->(lh ops.size L).length=fuel->Closed ops (fun i=>L.getD i false=true) ->
 Inv E.n M B out Z a.tmps w->Chain E ops (lh ops.size L) Z Z'->K Z' ->
 (∀ M' B' a' w',K Z'->Good E.n out M B Z a.tmps w M' B' Z' a'.tmps w'->a'.defers=a.defers->Q .normal a' w')->wpAny E.P .any ops Q fuel L a w:=by
 obtain ⟨hback,hcomm⟩:=b7G hok;have b2U:∀ (L:Array Bool),L.size=ops.size->Region.ready .any ops L = []->lh ops.size L = []:=by
  intro L hL h;cases hu:lh ops.size L with
  | nil=>rfl
  | cons i l =>
   exfalso;have him:i∈lh ops.size L:=by rw[hu]; simp
   obtain ⟨h1,h2⟩:=I9.1 him;have ho:ops[i]? = some ops[i]:=Array.getElem?_eq_getElem h1;have hmin:∀ k,k<i->L.getD k true=true:=fun k hk=>by
    cases hv:L.getD k true with
    | true=>rfl
    | false =>
     have V6:k∈lh ops.size L:=I9.2 ⟨by omega,hv⟩;have hsrt:(lh ops.size L).Pairwise (· < ·):=List.Pairwise.sublist List.filter_sublist List.pairwise_lt_range;rw[hu] at V6 hsrt;rcases fQ.1 V6 with e | hk2
     .omega
     .have:=(List.pairwise_cons.1 hsrt).1 k hk2; omega
   have:i∈Region.ready .any ops L:=NM.2 ⟨h2,_,ho,fun e he hb=>by
    have hlt:=hback i _ ho e he hb;have:=hmin _ hlt;have hsz:e.on<L.size:=by omega
    simpa[hsz] using this⟩
   rw[h] at this; cases this
 intro fuel;induction fuel with
 | zero =>
  intro L M B Z a w K Z' hL hlen _ hI hc hk hQ;have hnil:lh ops.size L = []:=iU hlen;rw[hnil] at hc;have:Z=Z':=hc;subst this;refine ⟨?_,hQ M B a w hk (Good.refl hI) rfl⟩;cases hr:Region.ready .any ops L with
  | nil=>rfl
  | cons i l =>
   exfalso;have hi:i∈Region.ready .any ops L:=by rw[hr]; simp
   obtain ⟨h1,o,ho,_⟩:=NM.1 hi;have:i∈lh ops.size L:=I9.2 ⟨(rH.1 ho).1,h1⟩;rw[hnil] at this; cases this
 | succ fuel ih =>
  intro L M B Z a w K Z' hL hlen hcl hI hc hk hQ;refine ⟨fun h=>by rw[b2U L hL h] at hlen; simp at hlen,fun i hi => ?_⟩;obtain ⟨h1,o,ho,hd⟩:=NM.1 hi;have his:=(rH.1 ho).1;obtain ⟨p,q,u1,u2,u3⟩:=bEQ hL his h1;rw[u1] at hc;obtain ⟨Z1,s1,s2⟩:=a7K ho p q hI.gG hc fun k hkp ok hok'=>by
   have V6:k∈lh ops.size L:=by rw[u1]; exact RQ _ hkp
   obtain ⟨k1,k2⟩:=I9.1 V6;refine hcomm k i ok o (u3 k hkp) hok' ho _ hcl (fun e he hb=>hd e he hb) fun hl => ?_
   have:k<L.size:=by omega
   simp[this] at k2 hl;rw[k2] at hl; cases hl
  refine aL4 hI ho s1 fun v M' B' w' hG => ?_
  refine ih (L.setIfInBounds i true) (by simpa using hL) (by rw[u2]; rw[u1] at hlen; simp at hlen ⊢; omega) (fun j oj hj hlj e he hb => ?_) hG.inv (by rw[u2]; exact s2) hk fun M2 B2 a2 w2 hk2 hG2 hd2=>hQ M2 B2 a2 w2 hk2 (hG.trans hG2) (by rw[hd2,Act.DL])
  by_cases hij:i=j
  .subst hij;rw[ho] at hj; cases hj;exact getD_set_true (hd e he hb)
  .have aDN:(L.setIfInBounds i true).getD j false=true:=hlj;rw[getD_set_ne false hij] at aDN;exact getD_set_true (hcl j oj hj aDN e he hb)
def TF (E:AE) (g:FuncId) (args:List PV) (dst:Option Nat) (K:ASt->Prop) (Z:ASt):Prop:=(∃ r,Ev E.P g args [] r []/\r.flat=true/\PV.flats args=true/\gz E dst r Z K)\/(bn E.sy dst=true/\∃ r h',Ev E.P g args Z.h r h'/\BO E h' Z.h/\gz E dst r { Z with h:=h' } K)
def yf (E:AE) (o:Oper) (K:ASt->Prop) (Z:ASt):Prop :=
 match qi o with
 | some (f,args)=>(match Z.rd f,iJ (args.map Z.rd) with
  | some (.func (.func g) first caps),some az=>TF E g (first ++ az ++ caps) o.dst K Z
  | _,_=>False)
 | none=>vg E o K Z
def pG (E:AE) (ops:Array Oper):List Oper->(ASt->Prop)->ASt->Prop
 | [],Q,Z=>Q Z
 | o::l,Q,Z =>
  match o.guard with
  | none=>yf E o (pG E ops l Q) Z
  | some (j,want)=>match xq ops Z j with
   | some none=>gz E o.dst (.tuple []) Z (pG E ops l Q)
   | some (some b)=>(b=want->yf E o (pG E ops l Q) Z)/\(b≠want->gz E o.dst (.tuple []) Z (pG E ops l Q))
   | none=>False
def SV (E:AE) (ops:Array Oper) (K:ASt->Prop) (Z:ASt):Prop:=okD E ops=true/\pG E ops ops.toList K Z
theorem Qm {d:Option Nat} {p:PV} {K:ASt->Prop} (h:gz E d p Z K):∃ Z',ASt.put E d p Z=some Z'/\K Z':=by
 unfold gz at h; split at h
 .rename_i Z' hs; exact ⟨Z',hs,h⟩
 .exact h.elim
theorem a6R {K:ASt->Prop} (h:yf E o K Z):∃ Z',zW E o Z Z'/\K Z':=by
 unfold yf at h;unfold zW;split at h
 .rename_i f args hc;split at h
  .rename_i g first caps az h1 h2
   rcases h with ⟨r,a1,a2,a3,a4⟩ | ⟨hsy,r,h',a1,aro,a4⟩
   .obtain ⟨Z',a5,a6⟩:=Qm a4;exact ⟨Z',⟨g,first,caps,az,r,h1,h2,.inl ⟨a1,a2,a3,a5⟩⟩,a6⟩
   .obtain ⟨Z',a5,a6⟩:=Qm a4;exact ⟨Z',⟨g,first,caps,az,r,h1,h2,.inr ⟨hsy,h',a1,aro,a5⟩⟩,a6⟩
  .exact h.elim
 .rename_i hc;unfold vg at h;split at h
  .rename_i p Z1 hs;obtain ⟨Z',a5,a6⟩:=Qm h.2;exact ⟨Z',⟨p,Z1,hs,h.1,a5⟩,a6⟩
  .exact h.elim
theorem Xm {K:ASt->Prop}:∀ (l:List Oper) (k:Nat) {Z:ASt},(∀ j,l[j]? = ops[k+j]?)->pG E ops l K Z->∃ Z',Chain E ops (List.range' k l.length) Z Z'/\K Z'
 | [],k,Z,_,h=>⟨Z,rfl,h⟩
 | o::l,k,Z,hl,h=>by
  have ho:ops[k]? = some o:=by have:=hl 0; simpa using this.symm
  have go:∀ Z1,jg E ops o Z Z1->pG E ops l K Z1->∃ Z',Chain E ops (List.range' k (o::l).length) Z Z'/\K Z':=fun Z1 h1 h2=>by obtain ⟨Z',h3,h4⟩:=Xm l (k+1) (fun j=>by have:=hl (j+1); simpa[Nat.add_assoc,Nat.add_comm 1 j] using this) h2;exact ⟨Z',by rw[aU,X7]; exact ⟨o,ho,Z1,h1,h3⟩,h4⟩
  have run:oO ops Z o=some true->yf E o (pG E ops l K) Z->∃ Z',Chain E ops (List.range' k (o::l).length) Z Z'/\K Z':=fun hg h=>by obtain ⟨Z1,h1,h2⟩:=a6R h;exact go Z1 (.inl ⟨hg,h1⟩) h2
  have skip:oO ops Z o=some false->gz E o.dst (.tuple []) Z (pG E ops l K)->∃ Z',Chain E ops (List.range' k (o::l).length) Z Z'/\K Z':=fun hg h=>by obtain ⟨Z1,h1,h2⟩:=Qm h;exact go Z1 (.inr ⟨hg,h1⟩) h2
  rw[pG] at h;split at h
  .rename_i hg; exact run (by simp[oO,hg]) h
  .rename_i j want hg;split at h
   .rename_i hv; exact skip (by simp[oO,hg,hv]) h
   .rename_i b hv;by_cases hb:b=want
    .exact run (by simp[oO,hg,hv,hb]) (h.1 hb)
    .exact skip (by simp[oO,hg,hv,hb]) (h.2 hb)
   .exact h.elim
theorem aML (hm:E.P.follows .mixedOrders=true) {out:Nat->Nat} {M:Mem} {B:aQ} {a:Act} {w:World} {id:Nat} {Q:Exit->Act->World->Prop} {K:ASt->Prop} (hI:Inv E.n M B out Z a.tmps w) (h:SV E ops K Z)
 (hQ:∀ Z' M' B' a' w',K Z'->Good E.n out M B Z a.tmps w M' B' Z' a'.tmps w'->a'.defers=a.defers->Q .normal a' w'):(Code.region id ops true).wp E.P Q a w:=by
 obtain ⟨hok,h⟩:=h;obtain ⟨Z',hc,hk⟩:=Xm ops.toList 0 (fun j=>by simp) h;have hd:=hI.drew;have hu:lh ops.size (Array.replicate ops.size false)=List.range' 0 ops.toList.length:=by unfold lh;rw[List.filter_eq_self.2 (fun i hi=>by have:=Fv.1 hi; simp[this]),a4T]; simp
 refine wp_region_any hm ?_;refine a6H hok ops.size (Array.replicate ops.size false) (K:=K) (Z':=Z') (by simp) (by rw[hu]; simp) (fun j o _ h => ?_) hd.1 (by rw[hu]; exact hc) hk fun M' B' a' w' hk' hG hd'=>hQ Z' M' B' a' w' hk' (hd.2.trans hG) hd'
 have h':(Array.replicate ops.size false).getD j false=true:=h;simp[Array.getElem?_replicate] at h';split at h'<;>simp at h'
end
def NQ (E:AE) (ops:Array Oper) (Kp:ASt->Prop):Nat->Array Bool->ASt->Prop
 | 0,L,Z=>Region.ready .any ops L = []/\Kp Z
 | fuel+1,L,Z=>(Region.ready .any ops L = []->Kp Z)/\∀ i,i∈Region.ready .any ops L->∃ o,ops[i]? = some o/\∃ Z',jg E ops o Z Z'/\NQ E ops Kp fuel (L.setIfInBounds i true) Z'
def a7R (j:Nat) (o:Oper):Bool:=o.after.toList.any fun e=>Region.binds .any e&&e.on==j
def YV (E:AE) (ops:Array Oper) (L:Array Bool) (j:Nat):Bool:=match ops[j]? with
 | none=>false
 | some o=>(lh ops.size L).all fun k=>k==j||(match ops[k]? with | none=>false | some ok=>a7R j ok||GZ E ops o ok)
def EQ (E:AE) (ops:Array Oper) (L:Array Bool):List Nat->Option Nat
 | []=>none
 | j::l=>match YV E ops L j with | true=>some j | false=>EQ E ops L l
def GI (E:AE) (ops:Array Oper) (Kp:ASt->Prop):Nat->Array Bool->ASt->Prop
 | 0,L,Z=>Region.ready .any ops L = []/\Kp Z
 | fuel+1,L,Z=>(Region.ready .any ops L = []->Kp Z)/\∀ i,i∈(match EQ E ops L (Region.ready .any ops L) with | some j => [j] | none=>Region.ready .any ops L)->∃ o,ops[i]? = some o/\∃ Z',jg E ops o Z Z'/\GI E ops Kp fuel (L.setIfInBounds i true) Z'
section
variable {E:AE} {ops:Array Oper} {Kp:ASt->Prop}
theorem a4X {Kq:ASt->Prop} (hm:∀ Z,Kp Z->Kq Z):∀ (fuel:Nat) {L:Array Bool} {Z:ASt},GI E ops Kp fuel L Z->GI E ops Kq fuel L Z
 | 0,L,Z,h=>⟨h.1,hm Z h.2⟩
 | fuel+1,L,Z,h=>⟨fun e=>hm Z (h.1 e),fun i hi=>by obtain ⟨o,ho,Z',h1,h2⟩:=h.2 i hi;exact ⟨o,ho,Z',h1,a4X hm fuel h2⟩⟩
theorem Xi {out:Nat->Nat} {Q:Exit->Act->World->Prop}:∀ (fuel:Nat) (L:Array Bool) {M:Mem} {B:aQ} {Z:ASt} {a:Act} {w:World},Inv E.n M B out Z a.tmps w->NQ E ops Kp fuel L Z ->
 (∀ Zt M' B' a' w',Kp Zt->Good E.n out M B Z a.tmps w M' B' Zt a'.tmps w'->a'.defers=a.defers->Q .normal a' w')->wpAny E.P .any ops Q fuel L a w
 | 0,L,M,B,Z,a,w,hI,h,hQ=>⟨h.1,hQ Z M B a w h.2 (Good.refl hI) rfl⟩
 | fuel+1,L,M,B,Z,a,w,hI,h,hQ=>by
  refine ⟨fun e=>hQ Z M B a w (h.1 e) (Good.refl hI) rfl,fun i hi => ?_⟩;obtain ⟨o,ho,Z',h1,h2⟩:=h.2 i hi;refine aL4 hI ho h1 fun v M' B' w' hG => ?_
  exact Xi fuel _ hG.inv h2 fun Z3 M3 B3 a3 w3 hk3 hG3 hd=>hQ Z3 M3 B3 a3 w3 hk3 (hG.trans hG3) (by rw[hd,Act.DL])
theorem a9C {L:Array Bool} {j:Nat}:∀ {l:List Nat},EQ E ops L l=some j->j∈l/\YV E ops L j=true
 | [],h=>by cases h
 | i::l,h=>by
  unfold EQ at h;split at h
  .rename_i hc; cases h; exact ⟨by simp,hc⟩
  .have:=a9C h; exact ⟨by simp[this.1],this.2⟩
theorem bBX {L:Array Bool} {i j:Nat}:(L.setIfInBounds i true).setIfInBounds j true=(L.setIfInBounds j true).setIfInBounds i true:=by
 apply Array.ext
 .simp
 .intro k h1 h2;rw[N7 (by simpa using h1),N7 (by simpa using h1),N7 (by simpa using h1),N7 (by simpa using h1)];split<;>split<;>rfl
theorem a1L {L:Array Bool} {i j:Nat} (hi:i∈Region.ready .any ops L) (hne:i≠j):i∈Region.ready .any ops (L.setIfInBounds j true):=by obtain ⟨h1,o,ho,hd⟩:=NM.1 hi;refine NM.2 ⟨?_,o,ho,fun e he hb=>getD_set_true (hd e he hb)⟩;rw[getD_set_ne true (Ne.symm hne)]; exact h1
theorem bEP {n:Nat} {L:Array Bool} {i k:Nat} (h:k∈lh n (L.setIfInBounds i true)):k∈lh n L:=by
 obtain ⟨h1,h2⟩:=I9.1 h;refine I9.2 ⟨h1,?_⟩;by_cases hik:i=k
 .subst hik;by_cases hs:i<L.size
  .simp[hs] at h2
  .simp[hs] at h2
 .rwa [getD_set_ne true hik] at h2
theorem aQR {j:Nat} {o:Oper} (ho:ops[j]? = some o):∀ (fuel:Nat) {L:Array Bool} {Z Zj:ASt},iH Z.s->j∈Region.ready .any ops L->(∀ k,k∈lh ops.size L->k≠j->∀ ok,ops[k]? = some ok->a7R j ok=true\/GZ E ops o ok=true) ->
 jg E ops o Z Zj->NQ E ops Kp fuel (L.setIfInBounds j true) Zj->NQ E ops Kp (fuel+1) L Z:=by
 intro fuel;induction fuel with
 | zero =>
  intro L Z Zj hs hj hc h1 h2;refine ⟨fun e=>(by rw[e] at hj; cases hj),fun i hi => ?_⟩;by_cases hij:i=j
  .subst hij; exact ⟨o,ho,Zj,h1,h2⟩
  .have hi':=a1L hi hij;rw[h2.1] at hi'; cases hi'
 | succ fuel ih =>
  intro L Z Zj hs hj hc h1 h2;refine ⟨fun e=>(by rw[e] at hj; cases hj),fun i hi => ?_⟩;by_cases hij:i=j
  .subst hij; exact ⟨o,ho,Zj,h1,h2⟩
  .obtain ⟨oi,hoi,Zji,h3,h4⟩:=h2.2 i (a1L hi hij);obtain ⟨hi1,oi2,aDP,b2H⟩:=NM.1 hi;rw[hoi] at aDP; cases aDP;have hcomm:=(hc i (I9.2 ⟨(rH.1 hoi).1,hi1⟩) hij oi hoi).resolve_left fun hd=>by
    obtain ⟨e,he,hb⟩:=a4O.1 hd;simp only[aY,kF] at hb;have h5:=b2H e (by simpa using he) hb.1;rw[hb.2] at h5;have h6:=(NM.1 hj).1;have hz:j<L.size:=by
     by_cases hz:j<L.size
     .exact hz
     .simp[hz] at h6
    simp[hz] at h5 h6;rw[h5] at h6; cases h6
   obtain ⟨τ,t1,t2⟩:=a7S hs h1 h3 hcomm;refine ⟨oi,hoi,τ,t1,ih (jg.gG t1 hs) (a1L hj (Ne.symm hij)) (fun k hk hkj ok hok=>hc k (bEP hk) hkj ok hok) t2 ?_⟩;rw[bBX]; exact h4
theorem SB:∀ (fuel:Nat) {L:Array Bool} {Z:ASt},iH Z.s->GI E ops Kp fuel L Z->NQ E ops Kp fuel L Z
 | 0,L,Z,_,h=>h
 | fuel+1,L,Z,hs,h=>by
  unfold GI at h;cases hf:EQ E ops L (Region.ready .any ops L) with
  | some j =>rw[hf] at h;obtain ⟨hm,hc⟩:=a9C hf;obtain ⟨o,ho,Zj,h1,h2⟩:=h.2 j (by simp);unfold YV at hc;rw[ho] at hc;simp only[fH,ut,kF] at hc;refine aQR ho fuel hs hm (fun k hk hkj ok hok => ?_) h1 (SB fuel (h1.gG hs) h2);have:=(hc k hk).resolve_left hkj;rw[hok] at this;exact (ut _ _).mp this
  | none =>rw[hf] at h;refine ⟨h.1,fun i hi => ?_⟩;obtain ⟨o,ho,Z',h1,h2⟩:=h.2 i hi;exact ⟨o,ho,Z',h1,SB fuel (h1.gG hs) h2⟩
theorem aMN {o:Oper} {Z:ASt} (h:pG E ops [o] Kp Z):∃ Z',jg E ops o Z Z'/\Kp Z':=by
 have run:oO ops Z o=some true->yf E o Kp Z->∃ Z',jg E ops o Z Z'/\Kp Z':=fun hg h=>by obtain ⟨Z1,h1,h2⟩:=a6R h;exact ⟨Z1,.inl ⟨hg,h1⟩,h2⟩
 have skip:oO ops Z o=some false->gz E o.dst (.tuple []) Z Kp->∃ Z',jg E ops o Z Z'/\Kp Z':=fun hg h=>by obtain ⟨Z1,h1,h2⟩:=Qm h;exact ⟨Z1,.inr ⟨hg,h1⟩,h2⟩
 rw[pG] at h;split at h
 .rename_i hg; exact run (by simp[oO,hg]) h
 .rename_i j want hg;split at h
  .rename_i hv; exact skip (by simp[oO,hg,hv]) h
  .rename_i b hv;by_cases hb:b=want
   .exact run (by simp[oO,hg,hv,hb]) (h.1 hb)
   .exact skip (by simp[oO,hg,hv,hb]) (h.2 hb)
  .exact h.elim
end
def a6Q (E:AE) (ops:Array Oper) (K:ASt->Prop) (Z:ASt):Prop:=SV E ops K Z\/GI E ops K ops.size (Array.replicate ops.size false) Z
theorem aMJ {E:AE} (hm:E.P.follows .mixedOrders=true) {out:Nat->Nat} {M:Mem} {B:aQ} {Z:ASt} {a:Act} {w:World} {id:Nat} {ops:Array Oper} {Q:Exit->Act->World->Prop} {K:ASt->Prop} (hI:Inv E.n M B out Z a.tmps w) (h:a6Q E ops K Z)
 (hQ:∀ Z' M' B' a' w',K Z'->Good E.n out M B Z a.tmps w M' B' Z' a'.tmps w'->a'.defers=a.defers->Q .normal a' w'):(Code.region id ops true).wp E.P Q a w:=by
 rcases h with h | h
 .exact aML hm hI h hQ
 .have hd:=hI.drew;exact wp_region_any hm (Xi ops.size _ hd.1 (SB _ hd.1.gG h) fun Zt M' B' a' w' hk hG hdf=>hQ Zt M' B' a' w' hk (hd.2.trans hG) hdf)
inductive AX where
 | normal
 | ret
 | exit (id:Nat)
def AX.toExit:AX->Exit
 | .normal => .normal
 | .ret => .ret
 | .exit i => .exit i
def ASt.keep (l:List Nat) (Z:ASt):ASt := { Z with s:=Z.s.filter fun kp=>l.contains kp.1 }
def qx (sz:List (Nat×List Nat)):dw->dw
 | [] => []
 | (k,p)::l=>(match sz.lookup k with | some z=>(k,p.xI z) | none=>(k,p))::qx sz l
def a0S (zs:List Nat) (p:PV) (h:aF):aF:=match p with
 | .ptr i 0=>(match h[i]? with | some (some cs)=>h.set i (some (uf zs cs)) | _=>h)
 | _=>h
def a0O (s:dw):List (Nat×List Nat)->aF->aF
 | [],h=>h
 | (k,zs)::l,h=>a0O s l (match bK k s with | some p=>a0S zs p h | none=>h)
def ASt.head (E:AE) (Z:ASt):ASt:=⟨qx E.sz (Z.keep E.vars).s,a0O (qx E.sz (Z.keep E.vars).s) E.pt Z.h⟩
def ASt.gc (l:List Nat) (m:Nat) (Z:ASt):ASt:=⟨Z.s.filter fun kp=>l.contains kp.1,Z.h.take m⟩
def yw (l:List Nat) (m:Nat) (Z:ASt):Bool:=(Z.gc l m).s.all (fun kp=>kp.2.blw m)&&xZ m (Z.gc l m).h
def Aa (K:ASt->Prop) (Q:AX->ASt->Prop):AX->ASt->Prop
 | .normal,Z=>K Z
 | e,Z=>Q e Z
def kT (sz:Nat) (cs:List PV) (n:Nat):List PV:=match sz with
 | 1=>(cs.take n).map PV.un
 | _=>(List.range n).map fun j => .agg (((cs.drop (j*sz)).take sz).map PV.un)
def UB (k:Nat) (Z:ASt):ASt:=match bK k Z.s with
 | some (.slh i 0 n sz)=>(match Z.h[i]? with
  | some (some cs)=>(match decide (n*sz<=cs.length)&&decide (0<sz)&&cs.all fun p=>p.one&&p.flat with
   | true=>⟨gK k (.sl false sz (kT sz cs n)) Z.s,Z.h.set i none⟩
   | false=>Z)
  | _=>Z)
 | _=>Z
def YW (k:Nat) (Z:ASt):ASt:=match bK k Z.s with
 | some (.slh i 0 n 1)=>(match Z.h[i]? with
  | some (some cs)=>(match Nat.beq cs.length n&&cs.all fun p=>p.one&&p.flat with
   | true=>⟨gK k (.sl true 1 (cs.map PV.un)) Z.s,Z.h.set i none⟩
   | false=>Z)
  | _=>Z)
 | _=>Z
def MJ (k:Nat) (Z:ASt):ASt:=match bK k Z.s with
 | some (.eH true n sz cs)=>(match Nat.ble 1 n with
  | true=>⟨gK k (.slh Z.h.length 0 n sz) Z.s,Z.h ++ [some cs]⟩
  | false=>⟨gK k (.sl false sz []) Z.s,Z.h⟩)
 | _=>Z
def Qn (k j:Nat) (Z:ASt):ASt:=match bK k Z.s with
 | some (.ptr i 0)=>(match Z.h[i]? with
  | some (some cs0)=>(match cs0[j]? with
   | some (.eH true n sz cs)=>(match Nat.ble 1 n with
    | true=>⟨Z.s,Z.h.set i (some (cs0.set j (.slh Z.h.length 0 n sz))) ++ [some cs]⟩
    | false=>⟨Z.s,Z.h.set i (some (cs0.set j (.sl false sz [])))⟩)
   | _=>Z)
  | _=>Z)
 | _=>Z
def U8 (k j:Nat) (Z:ASt):ASt:=match bK k Z.s with
 | some (.ptr i2 0)=>(match Z.h[i2]? with
  | some (some cs0)=>(match cs0[j]? with
   | some (.slh i 0 n sz)=>(match Z.h[i]? with
    | some (some cs)=>(match decide (n*sz<=cs.length)&&decide (0<sz)&&cs.all (fun p=>p.one&&p.flat) && !Nat.beq i i2 with
     | true=>⟨Z.s,(Z.h.set i none).set i2 (some (cs0.set j (.sl false sz (kT sz cs n))))⟩
     | false=>Z)
    | _=>Z)
   | _=>Z)
  | _=>Z)
 | _=>Z
def UA (k:Nat) (Z:ASt):ASt:=match bK k Z.s with
 | some (.ptr i 0)=>(match Z.h[i]? with
  | some (some cs)=>(match decide (0<cs.length)&&cs.all fun p=>p.one&&p.flat with
   | true=>⟨gK k (.cst ((kT cs.length cs 1).headD .nilp)) Z.s,Z.h.set i none⟩
   | false=>Z)
  | _=>Z)
 | _=>Z
def uS (k:Nat) (Z:ASt):ASt:=match Nat.ble 9000000 k with
 | true=>UA (k-9000000) Z
 | false=>match Nat.ble 5000000 k with
 | true=>U8 ((k-5000000) / 100) ((k-5000000) % 100) Z
 | false=>match Nat.ble 4000000 k with
 | true=>Qn ((k-4000000) / 100) ((k-4000000) % 100) Z
 | false=>match Nat.ble 3000000 k with
 | true=>MJ ((k-3000000) % 500000) Z
 | false=>match Nat.ble 1000000 k with
  | true=>UB (k-1000000) Z
  | false=>YW k Z
def vN:List Nat->ASt->ASt
 | [],Z=>Z
 | k::ks,Z=>vN ks (uS k Z)
def jA (m0:Nat) (K:ASt->Prop) (Z:ASt):Prop:=∃ ks,K (vN ks Z)\/∃ l m,m0<=m/\yw l m (vN ks Z)=true/\K ((vN ks Z).gc l m)
def JV (id:Nat) (Q:AX->ASt->Prop):AX->ASt->Prop
 | .exit i,Z=>if i=id then Q .normal Z else Q (.exit i) Z
 | e,Z=>Q e Z
def IV (m0:Nat) (body:(AX->ASt->Prop)->ASt->Prop) (Q:AX->ASt->Prop):Nat->ASt->Prop
 | 0,_=>False
 | n+1,Z=>∃ l m,m0<=m/\yw l m Z=true/\body (Aa (IV m0 body Q n) Q) (Z.gc l m)
def aG8 (m0:Nat) (body:(AX->ASt->Prop)->ASt->Prop) (Q:AX->ASt->Prop) (Z:ASt):Prop:=∃ n,IV m0 body Q n Z
def cO (E:AE) (m0:Nat):Code->(AX->ASt->Prop)->ASt->Prop
 | .skip,Q,Z=>Q .normal Z
 | .region _ ops draw,Q,Z=>if draw then a6Q E ops (Q .normal) (Z.head E) else jY E ops ops.toList (Q .normal) (Z.head E)
 | .seq x y,Q,Z=>cO E m0 x (Aa (jA m0 (cO E m0 y Q)) Q) Z
 | .cond c x y,Q,Z=>match Z.rd c with
  | some (.bool b)=>(b=true->cO E m0 x Q Z)/\(b=false->cO E m0 y Q Z)
  | _=>False
 | .block id x,Q,Z=>cO E m0 x (JV id Q) Z
 | .loop x,Q,Z=>aG8 m0 (cO E m0 x) Q Z
 | .exit id,Q,Z=>Q (.exit id) Z
 | .ret,Q,Z=>Q .ret Z
 | .scope x,Q,Z=>cO E m0 x Q Z
 | .label _,Q,Z=>Q .normal Z
 | .rangeFunc _ _ _ _,_,_=>False
 | .goto _,_,_=>False
 | .refuse _,_,_=>False
structure bZ (n:Nat) (out:Nat->Nat) (m0:Nat) (M:Mem) (B:aQ) (Z:ASt) (t:Array Value) (w:World) (M':Mem) (B':aQ) (Z':ASt) (t':Array Value) (w':World):Prop where
 inv:Inv n M' B' out Z' t' w'
 mem:∀ (b o:Nat) (v:Value),M b o=some v->M' b o=some v
 pre:∀ (i:Nat) (c:Nat×Nat×TypeId),i<m0->B[i]? = some c->B'[i]? = some c
 fr:Fr (fp B Z t w) M w M' w'
 own:∀ b,b<w.heap.size->fp B' Z' t' w' b<=fp B Z t w b
section
variable {n:Nat} {out:Nat->Nat} {m0:Nat} {M M1 M2:Mem} {B B1 B2:aQ} {Z Z1 Z2:ASt} {t t1 t2:Array Value} {w w1 w2:World} {E:AE}
theorem bZ.trans (h:bZ n out m0 M B Z t w M1 B1 Z1 t1 w1) (k:bZ n out m0 M1 B1 Z1 t1 w1 M2 B2 Z2 t2 w2):bZ n out m0 M B Z t w M2 B2 Z2 t2 w2 :=⟨k.inv,fun b o v e=>k.mem b o v (h.mem b o v e),fun i c hi e=>k.pre i c hi (h.pre i c hi e),h.fr.trans k.fr (fun b hb h0=>by have:=h.own b hb; omega),fun b hb=>iC (k.own b (NJ hb h.fr.size)) (h.own b hb)⟩
theorem Good.c (h:Good n out M B Z t w M1 B1 Z1 t1 w1):bZ n out m0 M B Z t w M1 B1 Z1 t1 w1:=⟨h.inv,h.le.mem,fun i c _ e=>h.le.blk i c e,h.fr,h.own⟩
theorem bZ.refl (h:Inv n M B out Z t w):bZ n out m0 M B Z t w M B Z t w:=(Good.refl h).c
theorem a0T (f:Nat×PV->Bool) (b:Nat):∀ s:dw,gI (s.filter f) t b<=gI s t b
 | []=>bQ _
 | (k,p)::l=>by
  have:=a0T f b l;rw[a4Q];split
  .rw[gI,gI]; omega
  .rw[gI]; omega
theorem WL (f:Nat->Bool) {k:Nat} {p:PV}:∀ {s:dw},bK k (s.filter fun kp=>f kp.1)=some p->bK k s=some p
 | [],h=>by simp[bK] at h
 | (j,q)::l,h=>by
  rw[a4Q] at h;split at h
  .rw[bK] at h ⊢;split at h
   .rename_i e; rw[aH e]; exact h
   .rename_i e; rw[aI e]; exact WL f h
  .rename_i hf;have:=WL f h;rw[bK];split
   .rename_i e; subst e;have hm:=WM h;rw[List.mem_filter] at hm;exact absurd hm.2 hf
   .exact this
theorem a0R (m:Nat) (b:Nat):∀ (h:aF) (B:aQ),aP w (h.take m) (B.take m) b<=aP w h B b:=by
 induction m with
 | zero=>intro h B; simp[aP]
 | succ m ih =>
  intro h B;cases h with
  | nil=>simp[aP]
  | cons x h =>
   cases B with
   | nil=>cases x<;>simp[aP]
   | cons c B =>have:=ih h B;cases x<;>simp only[RX,aP]<;>omega
theorem b52 (hI:Inv n M B out Z t w) (l:List Nat):Good n out M B Z t w M B (Z.keep l) t w:=by
 have hle:∀ b,fp B (Z.keep l) t w b<=fp B Z t w b:=fun b=>by have:=a0T (t:=t) (fun kp=>l.contains kp.1) b Z.s;simp only[fp,ASt.keep]; omega
 exact ⟨⟨hI.size,hI.mem,List.Pairwise.sublist List.filter_sublist hI.gG,fun k p hp=>hI.slots k p (WL (fun k=>l.contains k) hp),hI.heap,fun b=>by have:=hle b; have:=hI.cnt b; omega,fun b hb=>by have:=hle b; have:=hI.new b hb; omega⟩,cu.refl _ _,Fr.refl _ _ _,fun b _=>hle b⟩
theorem QG {k:Nat} {p:PV} {b:Nat} (hk:k<t.size) (hs:iH Z.s):gI (gK k p Z.s) t b+kK Z.s t k b=gI Z.s t b+bC p (t.getD k undef) b:=by
 have hset:t.setIfInBounds k (t.getD k undef)=t:=by
  apply Array.ext (by simp);intro i h1 h2;by_cases h:k=i
  .subst h; simp[hk]
  .rw[N7 (by simpa using h1),aI h]
 have:=QH (p:=p) (v:=t.getD k undef) (b:=b) hk hs;rwa [hset] at this
theorem BJ {b:Nat}:∀ {h:aF} {B:aQ} {i:Nat} {cs:List PV} {c:Nat×Nat×TypeId},h[i]? = some (some cs)->B[i]? = some c->aP w (h.set i none) B b+((if c.1=b then 1 else 0)+dA cs (fV w c.1) b)=aP w h B b
 | [],_,_,_,_,h,_=>by simp at h
 | _::_,[],_,_,_,_,h=>by simp at h
 | some ds::h,d::B,0,cs,c,h1,h2=>by simp at h1 h2; subst h1; subst h2; simp only[Bl,aP]; omega
 | none::h,d::B,0,cs,c,h1,h2=>by simp at h1
 | some ds::h,d::B,i+1,cs,c,h1,h2=>by have:=BJ (b:=b) (h:=h) (B:=B) (i:=i) (cs:=cs) (c:=c) (by simpa using h1) (by simpa using h2); simp only[wI,aP]; omega
 | none::h,d::B,i+1,cs,c,h1,h2=>by have:=BJ (b:=b) (h:=h) (B:=B) (i:=i) (cs:=cs) (c:=c) (by simpa using h1) (by simpa using h2); simp only[wI,aP]; omega
theorem aQS (hI:Inv n M B out Z t w) (k:Nat):∃ M',bZ n out m0 M B Z t w M' B (YW k Z) t w:=by
 unfold YW;split;case h_2=>exact ⟨M,bZ.refl hI⟩
 rename_i i m hk;split;case h_2=>exact ⟨M,bZ.refl hI⟩
 rename_i cs hi;split;case h_2=>exact ⟨M,bZ.refl hI⟩
 rename_i hb;simp only[aY,fH] at hb;obtain ⟨hb1,hb2⟩:=hb;have hm:cs.length=m:=kE hb1;obtain ⟨hkn,hrep,_⟩:=hI.slots k _ hk;obtain ⟨c,cap,⟨hc,hcm⟩,hv,hle,hcap⟩:=pV.1 hrep;obtain ⟨vs,ty,r1,o2,o3,o4,o5⟩:=hI.heap.at hi hc;obtain ⟨ty,rfl,o1⟩:=BP r1 (by rw[o2.2]; exact hcm);have hkt:k<t.size:=by rw[hI.size]; exact hkn
 have hown:1<=aP w Z.h B c.1:=by have:=jJ (w:=w) c.1 hi hc;simp only[fD] at this; omega
 obtain ⟨M',hM'⟩:∃ M':Mem,∀ b o,M' b o=if b=c.1 then (if o<m then vs[o]? else none) else M b o:=⟨xx _ _,zM (PE o5)⟩
 have hmem:cu M M' B B:=⟨fun b o v h=>by
  have:b≠c.1:=fun e=>by subst e; rw[o5] at h; cases h
  rw[hM']; simp only[aI this]; exact h,fun _ _ h=>h⟩
 have hne:∀ b,b≠c.1->∀ o,M' b o=M b o:=fun b h o=>by rw[hM']; simp only[aI h]
 have hcell:∀ o,w.cell? ⟨c.1,o,none⟩=vs[o]? := fun o=>by simp[World.cell?,o1]
 have hS:=fun b=>QG (t:=t) (p := .sl true 1 (cs.map PV.un)) (b:=b) hkt hI.gG
 have hH:=fun b=>BJ (w:=w) (b:=b) hi hc
 have hvo:∀ b,bC (.sl true 1 (cs.map PV.un)) (t.getD k undef) b=if c.1=b then 1 else 0:=fun b=>by rw[hv]; simp[bC,PV.own]
 have hfp:∀ b,fp B ⟨gK k (.sl true 1 (cs.map PV.un)) Z.s,Z.h.set i none⟩ t w b<=fp B Z t w b:=fun b=>by have h1:=hS b;have h2:=hH b;rw[hvo] at h1;simp only[fp]; omega
 have hfc:∀ b,1<=gI Z.s t b->b≠c.1:=fun b h e=>by subst e;have:=hI.cnt c.1;simp only[fp] at this; omega
 have Hl:∀ (j:Nat) e,(cs.map PV.un)[j]? = some e->Loc M' [] e c.1 (0+j*1):=fun j e he=>by
  rw[gV] at he;cases hcj:cs[j]? with
  | none=>rw[hcj] at he; cases he
  | some q =>
   rw[hcj] at he;cases he;obtain ⟨v,hv',hr,_,_⟩:=o4 j q hcj;have hj:j<m:=by rw[<- hm]; exact (dQ.1 hcj).1
   have hq:=hb2 q (iV hcj);have h1:M' c.1 (0+j*1)=some v:=by rw[hM']; simp only[fD]; rw[aH (by omega),show 0+j*1=j by omega]; exact hv'
   have hone:q.isAgg=false/\∀ ds,q ≠ .tuple ds:=by have:=hq.1;cases q<;>first | (simp[PV.one] at this; done) | exact ⟨rfl,fun ds h=>by cases h⟩
   rw[a08,sS hone.1 hone.2];exact ⟨v,h1,Rep.flat [] hq.2 (hr.mono hmem)⟩
 refine ⟨M',⟨⟨hI.size,fun b o v h => ?_,zf hI.gG,fun j p hj => ?_,⟨by simp[hI.heap.1],fun i' cs' hi' => ?_⟩,fun b=>by have:=hfp b; have:=hI.cnt b; omega,fun b hb=>by have:=hfp b; have:=hI.new b hb; omega⟩,hmem.mem,fun _ _ _ h=>h,⟨rfl,rfl,rfl,bQ _,fun b hb h0=>⟨rfl,fun o=>hne b (fun e=>by subst e; simp only[fp] at h0; omega) o⟩⟩,fun b _=>hfp b⟩⟩
 .by_cases e:b=c.1
  .subst e;rw[hM'] at h;simp only[fD] at h;split at h
   .rename_i ho;rw[hcell];refine ⟨h,?_⟩;obtain ⟨q,hq⟩:∃ q,cs[o]? = some q:=⟨_,fJ (by omega)⟩;obtain ⟨v',hv',_,_,h1⟩:=o4 o q hq;rw[hv'] at h; cases h; exact h1
   .cases h
  .rw[hne b e] at h; exact hI.mem b o v h
 .rw[zY j hI.gG] at hj;split at hj
  .rename_i e; subst e; injection hj with hj; subst hj
   refine ⟨hkn,?_,?_⟩
   .rw[hv];refine iF.2 ⟨some ⟨c.1,0,none⟩,cap,by simp[hm],by simpa[hm] using hle,fun e he => ?_,(fun h=>by cases h),fun _=>⟨c.1,0,rfl,wo Hl⟩⟩;obtain ⟨q,hq,rfl⟩:=kP.1 he;have:=(hb2 q hq).1;rw[a4D];cases q<;>first | (simp[PV.one] at this; done) | rfl
   .refine MK (fun l h=>by cases h) ?_;intro sz es A n' cap' e1 e2;rw[hv] at e2;injection e1 with _ e1 e3
    subst e1; subst e3;injection e2 with e2 e4 e5
    subst e2; subst e4; subst e5;refine ⟨(fun h=>by cases h),(fun h=>by cases h),fun a ha => ?_⟩;cases ha;refine ⟨vs,ty,o1,by rw[o2.1]; simpa using hcap,fun o ho => ?_,rfl,rfl⟩;rw[hM']; simp only[fD];rw[aI (by simp at ho; omega)]
  .rename_i hjk;obtain ⟨s1,s2,s3⟩:=hI.slots j p hj;refine ⟨s1,s2.mono hmem,s3.kept fun b ho=>⟨rfl,hne b (hfc b ?_)⟩⟩;have:=BL (s:=Z.s) (t:=t) (k:=j) (b:=b);simp only[kK,hj] at this;omega
 .have hii:i'≠i:=fun e=>by subst e;rw[o7 (dQ.1 hi).1] at hi';cases hi'
  simp only at hi';rw[jd (Ne.symm hii)] at hi';obtain ⟨c',hc',vs',ty',q1,q2,q3,q4,q5⟩:=hI.heap.2 i' cs' hi';have hoc:∀ b,1<=(if c'.1=b then 1 else 0)+dA cs' (fV w c'.1) b->b≠c.1:=fun b h e=>by subst e;have h2:=BJ (w:=w) (b:=c.1) hi hc;have h3:=jJ (w:=w) (h:=Z.h.set i none) c.1 (by rw[jd (Ne.symm hii)]; exact hi') hc';have:=hI.cnt c.1;simp only[fD] at h2;simp only[fp] at this; omega
  refine ⟨c',hc',vs',ty',q1,q2,q3,fun j p hj => ?_,fun o => ?_⟩
  .obtain ⟨v,a1,a2,a3,a4⟩:=q4 j p hj;refine ⟨v,a1,a2.mono hmem,a3.kept fun b ho=>⟨rfl,hne b (hoc b ?_)⟩,a4⟩;have:=ug b hj (by rw[mD q1]; simpa using a1:(fV w c'.1)[j]? = some v);omega
  .rw[hne c'.1 (hoc c'.1 (by simp))]; exact q5 o
theorem TM {sz:Nat} {cs:List PV} {n:Nat} (h0:0<sz) (hn:n*sz<=cs.length) (h1:∀ p,p∈cs->p.one=true):(kT sz cs n).length=n/\(∀ e,e∈kT sz cs n->e.size=sz) /\
 ∀ (M:Mem) (b:Nat),(∀ (j:Nat) p,cs[j]? = some p->j<n*sz->Loc M [] p b j)->ig M [] sz (kT sz cs n) b 0:=by
 by_cases h:sz=1
 .subst h;have e:kT 1 cs n=(cs.take n).map PV.un:=rfl;rw[e];refine ⟨by simp; omega,fun e he => ?_,fun M b hc=>wo fun j p hj => ?_⟩
  .obtain ⟨q,hq,rfl⟩:=kP.1 he;have:=h1 q (NG hq);rw[a4D];cases q<;>first | (simp[PV.one] at this; done) | rfl
  .rw[gV] at hj;cases hq:(cs.take n)[j]? with
   | none=>simp[hq] at hj
   | some q =>simp[hq] at hj; subst hj;have hlt:=(dQ.1 hq).1;simp at hlt;rw[gY,aH (by omega)] at hq;rw[a08];have:=hc j q hq (by omega);rwa [show 0+j*1=j by omega]
 .have e:kT sz cs n=(List.range n).map fun j => .agg (((cs.drop (j*sz)).take sz).map PV.un):=by
   unfold kT; split
   .exact absurd rfl h
   .rfl
  rw[e];have hfit:∀ j,j<n->j*sz+sz<=cs.length:=fun j hj=>by have:(j+1)*sz<=n*sz:=qU _ hj;rw[Bq] at this; omega
  refine ⟨by simp,fun e he => ?_,fun M b hc=>wo fun j p hj => ?_⟩
  .obtain ⟨j,hj,rfl⟩:=kP.1 he;have:=hfit j (Fv.1 hj);simp[PV.size]; omega
  .rw[gV] at hj;cases hq:(List.range n)[j]? with
   | none=>simp[hq] at hj
   | some q =>
    obtain ⟨hlt,hq'⟩:=dQ.1 hq;simp at hlt hq';subst hq';rw[hq] at hj; injection hj with hj; subst hj
    refine vX.2 (CG fun k r hr => ?_);rw[gV] at hr;cases hd:((cs.drop (j*sz)).take sz)[k]? with
    | none=>simp[hd] at hr
    | some r' =>simp[hd] at hr; subst hr;have hk:=(dQ.1 hd).1;simp at hk;rw[gY,aH (by omega),Dt] at hd;have hone:=h1 r' (iV hd);have:=hc (j*sz+k) r' hd (by have:(j+1)*sz<=n*sz:=qU _ hlt;rw[Bq] at this; omega);obtain ⟨u,hu,hr⟩:=(zG hone).1 this;exact ⟨u,by rw[jW]; exact hu,lM.2 hr⟩
theorem aQW (hI:Inv n M B out Z t w) (k:Nat):∃ M',bZ n out m0 M B Z t w M' B (UB k Z) t w:=by
 unfold UB;split;case h_2=>exact ⟨M,bZ.refl hI⟩
 rename_i i m sz hk;split;case h_2=>exact ⟨M,bZ.refl hI⟩
 rename_i cs hi;split;case h_2=>exact ⟨M,bZ.refl hI⟩
 rename_i hb;simp only[aY,fH,gu] at hb;obtain ⟨⟨hb1,hb0⟩,hb2⟩:=hb;obtain ⟨hkn,hrep,_⟩:=hI.slots k _ hk;obtain ⟨c,cap,⟨hc,hcm⟩,hv,hle,hcap⟩:=pV.1 hrep;obtain ⟨vs,ty,r1,o2,o3,o4,o5⟩:=hI.heap.at hi hc;obtain ⟨ty,rfl,o1⟩:=BP r1 (by rw[o2.2]; exact hcm);have hkt:k<t.size:=by rw[hI.size]; exact hkn
 have hown:1<=aP w Z.h B c.1:=by have:=jJ (w:=w) c.1 hi hc;simp only[fD] at this; omega
 obtain ⟨M',hM'⟩:∃ M':Mem,∀ b o,M' b o=if b=c.1 then (if o<m*sz then vs[o]? else none) else M b o:=⟨xx _ _,zM (PE o5)⟩
 have hmem:cu M M' B B:=⟨fun b o v h=>by
  have:b≠c.1:=fun e=>by subst e; rw[o5] at h; cases h
  rw[hM']; simp only[aI this]; exact h,fun _ _ h=>h⟩
 have hne:∀ b,b≠c.1->∀ o,M' b o=M b o:=fun b h o=>by rw[hM']; simp only[aI h]
 have hcell:∀ o,w.cell? ⟨c.1,o,none⟩=vs[o]? := fun o=>by simp[World.cell?,o1]
 obtain ⟨k1,k2,k3⟩:=TM hb0 hb1 fun p hp=>(hb2 p hp).1
 have hH:=fun b=>BJ (w:=w) (b:=b) hi hc
 have hS:=fun b=>QG (t:=t) (p := .sl false sz (kT sz cs m)) (b:=b) hkt hI.gG
 have hfp:∀ b,fp B ⟨gK k (.sl false sz (kT sz cs m)) Z.s,Z.h.set i none⟩ t w b<=fp B Z t w b:=fun b=>by have h1:=hS b;have h2:=hH b;rw[bu rfl] at h1;simp only[fp]; omega
 have hfc:∀ b,1<=gI Z.s t b->b≠c.1:=fun b h e=>by subst e;have:=hI.cnt c.1;simp only[fp] at this; omega
 refine ⟨M',⟨⟨hI.size,fun b o v h => ?_,zf hI.gG,fun j p hj => ?_,⟨by simp[hI.heap.1],fun i' cs' hi' => ?_⟩,fun b=>by have:=hfp b; have:=hI.cnt b; omega,fun b hb=>by have:=hfp b; have:=hI.new b hb; omega⟩,hmem.mem,fun _ _ _ h=>h,⟨rfl,rfl,rfl,bQ _,fun b hb h0=>⟨rfl,hne b (fun e=>by subst e; simp only[fp] at h0; omega)⟩⟩,fun b _=>hfp b⟩⟩
 .by_cases e:b=c.1
  .subst e;rw[hM'] at h;simp only[fD] at h;split at h
   .rename_i ho;rw[hcell];refine ⟨h,?_⟩;obtain ⟨q,hq⟩:∃ q,cs[o]? = some q:=⟨_,fJ (by omega)⟩;obtain ⟨v',hv',_,_,h1⟩:=o4 o q hq;rw[hv'] at h; cases h; exact h1
   .cases h
  .rw[hne b e] at h; exact hI.mem b o v h
 .rw[zY j hI.gG] at hj;split at hj
  .rename_i e; subst e; injection hj with hj; subst hj
   refine ⟨hkn,?_,dn rfl⟩;rw[hv];refine iF.2 ⟨some ⟨c.1,0,none⟩,cap,by rw[k1],by rw[k1]; exact hle,k2,(fun h=>by omega),fun _=>⟨c.1,0,rfl,k3 M' c.1 fun j q hq hlt => ?_⟩⟩;obtain ⟨v,hv',hr,_,_⟩:=o4 j q hq;have hq':=hb2 q (iV hq);refine (zG hq'.1).2 ⟨v,?_,Rep.flat [] hq'.2 (hr.mono hmem)⟩;rw[hM']; simp only[fD]; rw[aH hlt]; exact hv'
  .rename_i hjk;obtain ⟨s1,s2,s3⟩:=hI.slots j p hj;refine ⟨s1,s2.mono hmem,s3.kept fun b ho=>⟨rfl,hne b (hfc b ?_)⟩⟩;have:=BL (s:=Z.s) (t:=t) (k:=j) (b:=b);simp only[kK,hj] at this;omega
 .have hii:i'≠i:=fun e=>by subst e;rw[o7 (dQ.1 hi).1] at hi';cases hi'
  simp only at hi';rw[jd (Ne.symm hii)] at hi';obtain ⟨c',hc',vs',ty',q1,q2,q3,q4,q5⟩:=hI.heap.2 i' cs' hi';have hoc:∀ b,1<=(if c'.1=b then 1 else 0)+dA cs' (fV w c'.1) b->b≠c.1:=fun b h e=>by subst e;have h2:=BJ (w:=w) (b:=c.1) hi hc;have h3:=jJ (w:=w) (h:=Z.h.set i none) c.1 (by rw[jd (Ne.symm hii)]; exact hi') hc';have:=hI.cnt c.1;simp only[fD] at h2;simp only[fp] at this; omega
  refine ⟨c',hc',vs',ty',q1,q2,q3,fun j p hj => ?_,fun o => ?_⟩
  .obtain ⟨v,a1,a2,a3,a4⟩:=q4 j p hj;refine ⟨v,a1,a2.mono hmem,a3.kept fun b ho=>⟨rfl,hne b (hoc b ?_)⟩,a4⟩;have:=ug b hj (by rw[mD q1]; simpa using a1:(fV w c'.1)[j]? = some v);omega
  .rw[hne c'.1 (hoc c'.1 (by simp))]; exact q5 o
theorem aQU (hI:Inv n M B out Z t w) (k:Nat):∃ M',bZ n out m0 M B Z t w M' B (UA k Z) t w:=by
 unfold UA;split;case h_2=>exact ⟨M,bZ.refl hI⟩
 rename_i i hk;split;case h_2=>exact ⟨M,bZ.refl hI⟩
 rename_i cs hi;split;case h_2=>exact ⟨M,bZ.refl hI⟩
 rename_i hb;simp only[aY,fH,gu] at hb;obtain ⟨hb0,hb2⟩:=hb;generalize hsz:cs.length=sz at hb0 ⊢;have hb1:1*sz<=cs.length:=by omega
 obtain ⟨hkn,hrep,_⟩:=hI.slots k _ hk;obtain ⟨c,⟨hc,hcm⟩,hv⟩:=tC.1 hrep;obtain ⟨vs,ty,r1,o2,o3,o4,o5⟩:=hI.heap.at hi hc;obtain ⟨ty,rfl,o1⟩:=BP r1 (by rw[o2.2]; exact hcm);have hkt:k<t.size:=by rw[hI.size]; exact hkn
 have hown:1<=aP w Z.h B c.1:=by have:=jJ (w:=w) c.1 hi hc;simp only[fD] at this; omega
 obtain ⟨M',hM'⟩:∃ M':Mem,∀ b o,M' b o=if b=c.1 then (if o<1*sz then vs[o]? else none) else M b o:=⟨xx _ _,zM (PE o5)⟩
 have hmem:cu M M' B B:=⟨fun b o v h=>by
  have:b≠c.1:=fun e=>by subst e; rw[o5] at h; cases h
  rw[hM']; simp only[aI this]; exact h,fun _ _ h=>h⟩
 have hne:∀ b,b≠c.1->∀ o,M' b o=M b o:=fun b h o=>by rw[hM']; simp only[aI h]
 have hcell:∀ o,w.cell? ⟨c.1,o,none⟩=vs[o]? := fun o=>by simp[World.cell?,o1]
 obtain ⟨k1,k2,k3⟩:=TM hb0 hb1 fun p hp=>(hb2 p hp).1
 obtain ⟨x,hx⟩:∃ x,kT sz cs 1 = [x]:=by
  match hh:kT sz cs 1,k1 with
  | [x],_=>exact ⟨x,rfl⟩
 rw[hx] at k3 ⊢;show ∃ M',bZ n out m0 M B Z t w M' B ⟨gK k (.cst x) Z.s,Z.h.set i none⟩ t w;have hH:=fun b=>BJ (w:=w) (b:=b) hi hc
 have hS:=fun b=>QG (t:=t) (p := .cst x) (b:=b) hkt hI.gG
 have hfp:∀ b,fp B ⟨gK k (.cst x) Z.s,Z.h.set i none⟩ t w b<=fp B Z t w b:=fun b=>by have h1:=hS b;have h2:=hH b;rw[bu rfl] at h1;simp only[fp]; omega
 have hfc:∀ b,1<=gI Z.s t b->b≠c.1:=fun b h e=>by subst e;have:=hI.cnt c.1;simp only[fp] at this; omega
 refine ⟨M',⟨⟨hI.size,fun b o v h => ?_,zf hI.gG,fun j p hj => ?_,⟨by simp[hI.heap.1],fun i' cs' hi' => ?_⟩,fun b=>by have:=hfp b; have:=hI.cnt b; omega,fun b hb=>by have:=hfp b; have:=hI.new b hb; omega⟩,hmem.mem,fun _ _ _ h=>h,⟨rfl,rfl,rfl,bQ _,fun b hb h0=>⟨rfl,hne b (fun e=>by subst e; simp only[fp] at h0; omega)⟩⟩,fun b _=>hfp b⟩⟩
 .by_cases e:b=c.1
  .subst e;rw[hM'] at h;simp only[fD] at h;split at h
   .rename_i ho;rw[hcell];refine ⟨h,?_⟩;obtain ⟨q,hq⟩:∃ q,cs[o]? = some q:=⟨_,fJ (by omega)⟩;obtain ⟨v',hv',_,_,h1⟩:=o4 o q hq;rw[hv'] at h; cases h; exact h1
   .cases h
  .rw[hne b e] at h; exact hI.mem b o v h
 .rw[zY j hI.gG] at hj;split at hj
  .rename_i e; subst e; injection hj with hj; subst hj
   refine ⟨hkn,?_,dn rfl⟩;rw[hv];refine yB.2 ⟨c.1,0,rfl,(Et.1 (k3 M' c.1 fun j q hq hlt => ?_)).1⟩;obtain ⟨v,hv',hr,_,_⟩:=o4 j q hq;have hq':=hb2 q (iV hq);refine (zG hq'.1).2 ⟨v,?_,Rep.flat [] hq'.2 (hr.mono hmem)⟩;rw[hM']; simp only[fD]; rw[aH hlt]; exact hv'
  .rename_i hjk;obtain ⟨s1,s2,s3⟩:=hI.slots j p hj;refine ⟨s1,s2.mono hmem,s3.kept fun b ho=>⟨rfl,hne b (hfc b ?_)⟩⟩;have:=BL (s:=Z.s) (t:=t) (k:=j) (b:=b);simp only[kK,hj] at this;omega
 .have hii:i'≠i:=fun e=>by subst e;rw[o7 (dQ.1 hi).1] at hi';cases hi'
  simp only at hi';rw[jd (Ne.symm hii)] at hi';obtain ⟨c',hc',vs',ty',q1,q2,q3,q4,q5⟩:=hI.heap.2 i' cs' hi';have hoc:∀ b,1<=(if c'.1=b then 1 else 0)+dA cs' (fV w c'.1) b->b≠c.1:=fun b h e=>by subst e;have h2:=BJ (w:=w) (b:=c.1) hi hc;have h3:=jJ (w:=w) (h:=Z.h.set i none) c.1 (by rw[jd (Ne.symm hii)]; exact hi') hc';have:=hI.cnt c.1;simp only[fD] at h2;simp only[fp] at this; omega
  refine ⟨c',hc',vs',ty',q1,q2,q3,fun j p hj => ?_,fun o => ?_⟩
  .obtain ⟨v,a1,a2,a3,a4⟩:=q4 j p hj;refine ⟨v,a1,a2.mono hmem,a3.kept fun b ho=>⟨rfl,hne b (hoc b ?_)⟩,a4⟩;have:=ug b hj (by rw[mD q1]; simpa using a1:(fV w c'.1)[j]? = some v);omega
  .rw[hne c'.1 (hoc c'.1 (by simp))]; exact q5 o
theorem Va {p:PV} (h:p.lit=true):p.own=false:=by cases p<;>first | rfl | (simp[PV.lit] at h)
theorem aHI {cs:List PV} {us:List Value} {b:Nat} (h:∀ p,p∈cs->p.own=false):dA cs us b=0:=by
 induction cs generalizing us with
 | nil=>cases us<;>rfl
 | cons p cs ih =>
  cases us with
  | nil=>rfl
  | cons u us=>rw[dA,bu (h p (by simp)),ih fun q hq=>h q (by simp[hq])]
theorem aHL {p0 q:PV} {v:Value} {b:Nat} (hq:q.own=false):∀ (cs:List PV) (us:List Value) (j:Nat),cs[j]? = some p0->us[j]? = some v->dA (cs.set j q) us b+bC p0 v b=dA cs us b:=by
 intro cs;induction cs with
 | nil=>intro us j h1; simp at h1
 | cons c cs ih =>
  intro us j h1 h2;cases us with
  | nil=>simp at h2
  | cons u us =>
   cases j with
   | zero=>simp at h1 h2; subst h1; subst h2; simp only[Bl,dA,bu hq]; omega
   | succ j=>have:=ih us j (by simpa using h1) (by simpa using h2); simp only[wI,dA]; omega
theorem a0Q {cs cs':List PV} {c:Nat×Nat×TypeId} {k b:Nat} (hk:dA cs' (fV w c.1) b+k=dA cs (fV w c.1) b):∀ (h:aF) (B:aQ) (i:Nat),h[i]? = some (some cs)->B[i]? = some c->aP w (h.set i (some cs')) B b+k=aP w h B b:=by
 intro h;induction h with
 | nil=>intro B i h1; simp at h1
 | cons x h ih =>
  intro B i h1 h2;cases B with
  | nil=>simp at h2
  | cons d B =>
   cases i with
   | zero=>simp at h1 h2; subst h1; subst h2; simp only[Bl,aP]; omega
   | succ i =>simp at h1 h2;have:=ih B i h1 h2;cases x<;>simp only[wI,aP]<;>omega
theorem aJV {M:Mem} {w:World} {k sz:Nat} {cs:List PV} {v:Value} (hr:Rep M B (.eH true k sz cs) v) (hT:Tl M w (.eH true k sz cs) v) (hk:1<=k) :
 ∃ g cap vs ty,v = .slice (some ⟨g,0,none⟩) k cap/\k<=cap/\w.heap[g]? = some (.cells vs ty (0,0))/\cap*sz<=vs.size/\cs.length=k*sz/\0<sz/\(∀ (j:Nat) p,cs[j]? = some p->p.lit=true/\∃ u,vs[j]? = some u/\Rep IG [] p u/\u.oneCell'=true)/\∀ o,M g o=none:=by
 obtain ⟨A,cap,e1,hle⟩:=BM.1 hr;obtain ⟨⟨h1,h2⟩,h3,h4⟩:=hT.p _ _ _ _ _ _ rfl e1;cases A with
 | none=>have:=h3 rfl; omega
 | some ad =>obtain ⟨vs,ty,g1,g2,g3,g4,g5,g6⟩:=h4 ad rfl;obtain ⟨g,off,spot⟩:=ad;simp only at g1 g4 g5 g6;subst g5; subst g6;exact ⟨g,cap,vs,ty,e1,hle,g1,g2,h1,h2,g3,g4⟩
theorem aJU {M:Mem} {w:World} {k sz:Nat} {cs:List PV} {v:Value} (hr:Rep M B (.eH true k sz cs) v) (hT:Tl M w (.eH true k sz cs) v) (hk:k=0):Rep M B (.sl false sz []) v:=by obtain ⟨A,cap,e1,hle⟩:=BM.1 hr;obtain ⟨⟨h1,h2⟩,h3,h4⟩:=hT.p _ _ _ _ _ _ rfl e1;subst hk;exact iF.2 ⟨A,cap,e1,uA _,by simp,fun h=>by omega,by simp⟩
theorem bDN (hI:Inv n M B out Z t w) (k:Nat):∃ B',bZ n out m0 M B Z t w M B' (MJ k Z) t w:=by
 unfold MJ;split;case h_2=>exact ⟨B,bZ.refl hI⟩
 rename_i m sz cs hk;obtain ⟨hkn,hrep,hT⟩:=hI.slots k _ hk;have hkt:k<t.size:=by rw[hI.size]; exact hkn
 split
 .rename_i hm;have hm:=J9 hm;obtain ⟨g,cap,vs,ty,hv,hle,r1,r2,r3,r4,r5,r6⟩:=aJV hrep hT hm;have hBl:Z.h.length=B.length:=hI.heap.1;have hle2:cu M M B (B ++ [(g,vs.size,ty+1)]):=⟨fun _ _ _ h=>h,fun i c h=>by rw[jM (dQ.1 h).1]; exact h⟩;have hown:∀ p,p∈cs->p.own=false:=fun p hp=>by obtain ⟨j,hj⟩:=wH.1 hp;exact Va (r5 j p hj).1
  have hfp:∀ b,fp (B ++ [(g,vs.size,ty+1)]) ⟨gK k (.slh Z.h.length 0 m sz) Z.s,Z.h ++ [some cs]⟩ t w b=fp B Z t w b:=fun b=>by
   have h1:=QG (t:=t) (p := .slh Z.h.length 0 m sz) (b:=b) hkt hI.gG;rw[bu rfl,kK,hk] at h1;have h2:bC (.eH true m sz cs) (t.getD k undef) b=if g=b then 1 else 0:=by rw[hv]; simp[bC,PV.own]
   simp only at h1;rw[h2] at h1;simp only[fp];rw[LW b hBl,aHI hown];simp only;omega
  refine ⟨B ++ [(g,vs.size,ty+1)],⟨⟨hI.size,hI.mem,zf hI.gG,fun j p hj => ?_,⟨by simp[hBl],fun i cs' hi => ?_⟩,fun b=>by rw[hfp]; exact hI.cnt b,fun b hb=>by rw[hfp]; exact hI.new b hb⟩,fun _ _ _ h=>h,fun i c _ h=>hle2.blk i c h,Fr.refl _ _ _,fun b _=>by rw[hfp]; exact bQ _⟩⟩
  .rw[zY j hI.gG] at hj;split at hj
   .rename_i e; subst e; injection hj with hj; subst hj
    exact ⟨hkn,by rw[hv]; exact pV.2 ⟨(g,vs.size,ty+1),cap,⟨by rw[hBl]; simp,by simp⟩,rfl,hle,by simpa using r2⟩,dn rfl⟩
   .obtain ⟨s1,s2,s3⟩:=hI.slots j p hj;exact ⟨s1,s2.mono hle2,s3⟩
  .rcases je i Z.h.length with hlt | hge
   .simp only at hi;rw[jM hlt] at hi;obtain ⟨c,hc,vs',ty',q1,q2,q3,q4,q5⟩:=hI.heap.2 i cs' hi;exact ⟨c,hle2.blk _ _ hc,vs',ty',q1,q2,q3,fun j p hj=>by obtain ⟨v,a1,a2,a3,a4⟩:=q4 j p hj; exact ⟨v,a1,a2.mono hle2,a3,a4⟩,q5⟩
   .simp only at hi;rw[qQ hge] at hi;have:i-Z.h.length=0:=by
     rcases Bo (i-Z.h.length) with h0 | h0
     .exact h0
     .rw[rO (by simp; omega)] at hi; cases hi
    rw[this] at hi;simp at hi; subst hi;have hi':i=B.length:=by omega
    subst hi';refine ⟨(g,vs.size,ty+1),by simp,vs,ty+1,zV r1,⟨rfl,rfl⟩,?_,fun j p hj => ?_,r6⟩
    .rw[r3]; exact iC (qU _ hle) r2
    .obtain ⟨p1,u,p2,p3,p4⟩:=r5 j p hj;exact ⟨u,p2,aG1 p1 p3,dn (Va p1),p4⟩
 .rename_i hm;have hm0:m=0:=by
   rcases Bo m with h | h
   .exact h
   .have:=J8 h; rw[show Nat.ble 1 m=Nat.ble (Nat.succ 0) m from rfl] at hm; rw[this] at hm; cases hm
  have hfp:∀ b,fp B ⟨gK k (.sl false sz []) Z.s,Z.h⟩ t w b<=fp B Z t w b:=fun b=>by have h1:=QG (t:=t) (p := .sl false sz []) (b:=b) hkt hI.gG;rw[bu rfl] at h1;simp only[fp]; omega
  refine ⟨B,⟨⟨hI.size,hI.mem,zf hI.gG,fun j p hj => ?_,hI.heap,fun b=>by have:=hfp b; have:=hI.cnt b; omega,fun b hb=>by have:=hfp b; have:=hI.new b hb; omega⟩,fun _ _ _ h=>h,fun i c _ h=>h,Fr.refl _ _ _,fun b _=>hfp b⟩⟩;rw[zY j hI.gG] at hj;split at hj
  .rename_i e; subst e; injection hj with hj; subst hj
   exact ⟨hkn,aJU hrep hT hm0,dn rfl⟩
  .exact hI.slots j p hj
theorem bDM (hI:Inv n M B out Z t w) (k j:Nat):∃ B',bZ n out m0 M B Z t w M B' (Qn k j Z) t w:=by
 unfold Qn;split;case h_2=>exact ⟨B,bZ.refl hI⟩
 rename_i i hk;split;case h_2=>exact ⟨B,bZ.refl hI⟩
 rename_i cs0 hi;split;case h_2=>exact ⟨B,bZ.refl hI⟩
 rename_i m sz cs hj;obtain ⟨c,hc,vs0,ty0,o1,o2,o3,o4,o5⟩:=hI.heap.2 i cs0 hi;obtain ⟨v,hv0,hrep,hT,hone⟩:=o4 j _ hj;have hBl:Z.h.length=B.length:=hI.heap.1;have hil:=(dQ.1 hi).1;have hcs:∀ (q:PV) (b:Nat),q.own=false->dA (cs0.set j q) (fV w c.1) b+bC (.eH true m sz cs) v b=dA cs0 (fV w c.1) b:=fun q b hq=>by rw[mD o1]; exact aHL hq cs0 vs0.toList j hj (by simpa using hv0)
 split
 .rename_i hm;have hm:=J9 hm;obtain ⟨g,cap,vs,ty,hv,hle,r1,r2,r3,r4,r5,r6⟩:=aJV hrep hT hm;have hle2:cu M M B (B ++ [(g,vs.size,ty+1)]):=⟨fun _ _ _ h=>h,fun i c h=>by rw[jM (dQ.1 h).1]; exact h⟩;have hown:∀ p,p∈cs->p.own=false:=fun p hp=>by obtain ⟨j,hj⟩:=wH.1 hp;exact Va (r5 j p hj).1
  have hfp:∀ b,fp (B ++ [(g,vs.size,ty+1)]) ⟨Z.s,Z.h.set i (some (cs0.set j (.slh Z.h.length 0 m sz))) ++ [some cs]⟩ t w b=fp B Z t w b:=fun b=>by
   have h1:=a0Q (hcs (.slh Z.h.length 0 m sz) b rfl) Z.h B i hi hc;have h2:bC (.eH true m sz cs) v b=if g=b then 1 else 0:=by rw[hv]; simp[bC,PV.own]
   rw[h2] at h1;simp only[fp];rw[LW b (by rw[Bh]; exact hBl),aHI hown];simp only;omega
  refine ⟨B ++ [(g,vs.size,ty+1)],⟨⟨hI.size,hI.mem,hI.gG,fun j p hj => ?_,⟨by simp[hBl],fun i' cs' hi' => ?_⟩,fun b=>by rw[hfp]; exact hI.cnt b,fun b hb=>by rw[hfp]; exact hI.new b hb⟩,fun _ _ _ h=>h,fun i c _ h=>hle2.blk i c h,Fr.refl _ _ _,fun b _=>by rw[hfp]; exact bQ _⟩⟩
  .obtain ⟨s1,s2,s3⟩:=hI.slots j p hj;exact ⟨s1,s2.mono hle2,s3⟩
  .simp only at hi';rcases je i' Z.h.length with hlt | hge
   .rw[jM (by rw[Bh]; exact hlt)] at hi';by_cases hii:i'=i
    .subst hii;rw[o7 hil] at hi';injection hi' with hi'; injection hi' with hi'; subst hi'
     refine ⟨c,hle2.blk _ _ hc,vs0,ty0,o1,o2,by rw[Bh]; exact o3,fun j' p hj' => ?_,o5⟩;by_cases hjj:j=j'
     .subst hjj;rw[o7 (dQ.1 hj).1] at hj';injection hj' with hj'; subst hj'
      exact ⟨v,hv0,by rw[hv]; exact pV.2 ⟨(g,vs.size,ty+1),cap,⟨by rw[hBl]; simp,by simp⟩,rfl,hle,by simpa using r2⟩,dn rfl,hone⟩
     .rw[jd hjj] at hj';obtain ⟨u,a1,a2,a3,a4⟩:=o4 j' p hj';exact ⟨u,a1,a2.mono hle2,a3,a4⟩
    .rw[jd (Ne.symm hii)] at hi';obtain ⟨c,hc,vs',ty',q1,q2,q3,q4,q5⟩:=hI.heap.2 i' cs' hi';exact ⟨c,hle2.blk _ _ hc,vs',ty',q1,q2,q3,fun j p hj=>by obtain ⟨v,a1,a2,a3,a4⟩:=q4 j p hj; exact ⟨v,a1,a2.mono hle2,a3,a4⟩,q5⟩
   .rw[qQ (by rw[Bh]; exact hge),Bh] at hi';have:i'-Z.h.length=0:=by
     rcases Bo (i'-Z.h.length) with h0 | h0
     .exact h0
     .rw[rO (by simp; omega)] at hi'; cases hi'
    rw[this] at hi';simp at hi'; subst hi';have hi2:i'=B.length:=by omega
    subst hi2;refine ⟨(g,vs.size,ty+1),by simp,vs,ty+1,zV r1,⟨rfl,rfl⟩,?_,fun j p hj => ?_,r6⟩
    .rw[r3]; exact iC (qU _ hle) r2
    .obtain ⟨p1,u,p2,p3,p4⟩:=r5 j p hj;exact ⟨u,p2,aG1 p1 p3,dn (Va p1),p4⟩
 .rename_i hm;have hm0:m=0:=by
   rcases Bo m with h | h
   .exact h
   .have:=J8 h; rw[show Nat.ble 1 m=Nat.ble (Nat.succ 0) m from rfl] at hm; rw[this] at hm; cases hm
  have hfp:∀ b,fp B ⟨Z.s,Z.h.set i (some (cs0.set j (.sl false sz [])))⟩ t w b<=fp B Z t w b:=fun b=>by have h1:=a0Q (hcs (.sl false sz []) b rfl) Z.h B i hi hc;simp only[fp]; omega
  refine ⟨B,⟨⟨hI.size,hI.mem,hI.gG,hI.slots,⟨by simp[hBl],fun i' cs' hi' => ?_⟩,fun b=>by have:=hfp b; have:=hI.cnt b; omega,fun b hb=>by have:=hfp b; have:=hI.new b hb; omega⟩,fun _ _ _ h=>h,fun i c _ h=>h,Fr.refl _ _ _,fun b _=>hfp b⟩⟩;simp only at hi';by_cases hii:i'=i
  .subst hii;rw[o7 hil] at hi';injection hi' with hi'; injection hi' with hi'; subst hi'
   refine ⟨c,hc,vs0,ty0,o1,o2,by rw[Bh]; exact o3,fun j' p hj' => ?_,o5⟩;by_cases hjj:j=j'
   .subst hjj;rw[o7 (dQ.1 hj).1] at hj';injection hj' with hj'; subst hj'
    exact ⟨v,hv0,aJU hrep hT hm0,dn rfl,hone⟩
   .rw[jd hjj] at hj';exact o4 j' p hj'
  .rw[jd (Ne.symm hii)] at hi';exact hI.heap.2 i' cs' hi'
theorem aQT (hI:Inv n M B out Z t w) (k j:Nat):∃ M',bZ n out m0 M B Z t w M' B (U8 k j Z) t w:=by
 unfold U8;split;case h_2=>exact ⟨M,bZ.refl hI⟩
 rename_i i2 hk;split;case h_2=>exact ⟨M,bZ.refl hI⟩
 rename_i cs0 hi2;split;case h_2=>exact ⟨M,bZ.refl hI⟩
 rename_i i m sz hj;split;case h_2=>exact ⟨M,bZ.refl hI⟩
 rename_i cs hi;split;case h_2=>exact ⟨M,bZ.refl hI⟩
 rename_i hb;simp only[aY,fH,gu,tX] at hb;obtain ⟨⟨⟨hb1,hb0⟩,hb2⟩,hbn⟩:=hb;have hii2:i≠i2:=fun e=>by subst e; rw[Nat.beq_refl] at hbn; cases hbn
 obtain ⟨c2,hc2,vs2,ty2,p1,p2,p3,p4,p5⟩:=hI.heap.2 i2 cs0 hi2;obtain ⟨v,hv0,hrep,_,hone⟩:=p4 j _ hj;obtain ⟨c,cap,⟨hc,hcm⟩,hv,hle,hcap⟩:=pV.1 hrep;obtain ⟨vs,ty,r1,o2,o3,o4,o5⟩:=hI.heap.at hi hc;obtain ⟨ty,rfl,o1⟩:=BP r1 (by rw[o2.2]; exact hcm);have hown:1<=aP w Z.h B c.1:=by have:=jJ (w:=w) c.1 hi hc;simp only[fD] at this; omega
 obtain ⟨M',hM'⟩:∃ M':Mem,∀ b o,M' b o=if b=c.1 then (if o<m*sz then vs[o]? else none) else M b o:=⟨xx _ _,zM (PE o5)⟩
 have hmem:cu M M' B B:=⟨fun b o v h=>by
  have:b≠c.1:=fun e=>by subst e; rw[o5] at h; cases h
  rw[hM']; simp only[aI this]; exact h,fun _ _ h=>h⟩
 have hne:∀ b,b≠c.1->∀ o,M' b o=M b o:=fun b h o=>by rw[hM']; simp only[aI h]
 have hcell:∀ o,w.cell? ⟨c.1,o,none⟩=vs[o]? := fun o=>by simp[World.cell?,o1]
 obtain ⟨k1,k2,k3⟩:=TM hb0 hb1 fun p hp=>(hb2 p hp).1
 have hH:=fun b=>BJ (w:=w) (b:=b) hi hc
 have b2O:(Z.h.set i none)[i2]? = some (some cs0):=by rw[jd hii2]; exact hi2
 have hcs:∀ b,dA (cs0.set j (.sl false sz (kT sz cs m))) (fV w c2.1) b+bC (.slh i 0 m sz) v b=dA cs0 (fV w c2.1) b:=fun b=>by rw[mD p1]; exact aHL rfl cs0 vs2.toList j hj (by simpa using hv0)
 have hfp:∀ b,fp B ⟨Z.s,(Z.h.set i none).set i2 (some (cs0.set j (.sl false sz (kT sz cs m))))⟩ t w b<=fp B Z t w b:=fun b=>by have h1:=a0Q (hcs b) (Z.h.set i none) B i2 b2O hc2;have h2:=hH b;simp only[fp]; omega
 have hfc:∀ b,1<=gI Z.s t b->b≠c.1:=fun b h e=>by subst e;have:=hI.cnt c.1;simp only[fp] at this; omega
 have hother:∀ {i':Nat} {cs':List PV} {c':Nat×Nat×TypeId} {b:Nat},i'≠i->Z.h[i']? = some (some cs')->B[i']? = some c'->1<=(if c'.1=b then 1 else 0)+dA cs' (fV w c'.1) b->b≠c.1:=fun {i' cs' c' b} hii hi' hc' h e=>by subst e;have h2:=BJ (w:=w) (b:=c.1) hi hc;have h3:=jJ (w:=w) (h:=Z.h.set i none) c.1 (by rw[jd (Ne.symm hii)]; exact hi') hc';have:=hI.cnt c.1;simp only[fD] at h2;simp only[fp] at this; omega
 refine ⟨M',⟨⟨hI.size,fun b o v h => ?_,hI.gG,fun j p hj => ?_,⟨by simp[hI.heap.1],fun i' cs' hi' => ?_⟩,fun b=>by have:=hfp b; have:=hI.cnt b; omega,fun b hb=>by have:=hfp b; have:=hI.new b hb; omega⟩,hmem.mem,fun _ _ _ h=>h,⟨rfl,rfl,rfl,bQ _,fun b hb h0=>⟨rfl,hne b (fun e=>by subst e; simp only[fp] at h0; omega)⟩⟩,fun b _=>hfp b⟩⟩
 .by_cases e:b=c.1
  .subst e;rw[hM'] at h;simp only[fD] at h;split at h
   .rename_i ho;rw[hcell];refine ⟨h,?_⟩;obtain ⟨q,hq⟩:∃ q,cs[o]? = some q:=⟨_,fJ (by omega)⟩;obtain ⟨v',hv',_,_,h1⟩:=o4 o q hq;rw[hv'] at h; cases h; exact h1
   .cases h
  .rw[hne b e] at h; exact hI.mem b o v h
 .obtain ⟨s1,s2,s3⟩:=hI.slots j p hj;refine ⟨s1,s2.mono hmem,s3.kept fun b ho=>⟨rfl,hne b (hfc b ?_)⟩⟩;have:=BL (s:=Z.s) (t:=t) (k:=j) (b:=b);simp only[kK,hj] at this;omega
 .by_cases hi22:i'=i2
  .subst hi22;simp only at hi';rw[o7 (by rw[Bh]; exact (dQ.1 hi2).1)] at hi';injection hi' with hi'; injection hi' with hi'; subst hi'
   refine ⟨c2,hc2,vs2,ty2,p1,p2,by rw[Bh]; exact p3,fun j' p hj' => ?_,fun o => ?_⟩
   .by_cases hjj:j=j'
    .subst hjj;rw[o7 (dQ.1 hj).1] at hj';injection hj' with hj'; subst hj'
     refine ⟨v,hv0,?_,dn rfl,hone⟩;rw[hv];refine iF.2 ⟨some ⟨c.1,0,none⟩,cap,by rw[k1],by rw[k1]; exact hle,k2,(fun h=>by omega),fun _=>⟨c.1,0,rfl,k3 M' c.1 fun j q hq hlt => ?_⟩⟩;obtain ⟨v,hv',hr,_,_⟩:=o4 j q hq;have hq':=hb2 q (iV hq);refine (zG hq'.1).2 ⟨v,?_,Rep.flat [] hq'.2 (hr.mono hmem)⟩;rw[hM']; simp only[fD]; rw[aH hlt]; exact hv'
    .rw[jd hjj] at hj';obtain ⟨u,a1,a2,a3,a4⟩:=p4 j' p hj';refine ⟨u,a1,a2.mono hmem,a3.kept fun b ho=>⟨rfl,hne b (hother (Ne.symm hii2) hi2 hc2 ?_)⟩,a4⟩;have:=ug b hj' (by rw[mD p1]; simpa using a1:(fV w c2.1)[j']? = some u);omega
   .rw[hne c2.1 (hother (Ne.symm hii2) hi2 hc2 (by simp))]; exact p5 o
  .have hii:i'≠i:=fun e=>by subst e;simp only at hi';rw[jd (Ne.symm hi22),o7 (dQ.1 hi).1] at hi';cases hi'
   simp only at hi';rw[jd (Ne.symm hi22),jd (Ne.symm hii)] at hi';obtain ⟨c',hc',vs',ty',q1,q2,q3,q4,q5⟩:=hI.heap.2 i' cs' hi';refine ⟨c',hc',vs',ty',q1,q2,q3,fun j p hj => ?_,fun o => ?_⟩
   .obtain ⟨v,a1,a2,a3,a4⟩:=q4 j p hj;refine ⟨v,a1,a2.mono hmem,a3.kept fun b ho=>⟨rfl,hne b (hother hii hi' hc' ?_)⟩,a4⟩;have:=ug b hj (by rw[mD q1]; simpa using a1:(fV w c'.1)[j]? = some v);omega
   .rw[hne c'.1 (hother hii hi' hc' (by simp))]; exact q5 o
theorem aQV (hI:Inv n M B out Z t w) (k:Nat):∃ M' B',bZ n out m0 M B Z t w M' B' (uS k Z) t w:=by
 unfold uS;split
 .obtain ⟨M',h⟩:=aQU (m0:=m0) hI (k-9000000);exact ⟨M',B,h⟩
 split
 .obtain ⟨M',h⟩:=aQT (m0:=m0) hI ((k-5000000) / 100) ((k-5000000) % 100);exact ⟨M',B,h⟩
 split
 .obtain ⟨B',h⟩:=bDM (m0:=m0) hI ((k-4000000) / 100) ((k-4000000) % 100);exact ⟨M,B',h⟩
 split
 .obtain ⟨B',h⟩:=bDN (m0:=m0) hI ((k-3000000) % 500000);exact ⟨M,B',h⟩
 split
 .obtain ⟨M',h⟩:=aQW (m0:=m0) hI (k-1000000);exact ⟨M',B,h⟩
 .obtain ⟨M',h⟩:=aQS (m0:=m0) hI k;exact ⟨M',B,h⟩
theorem U9:∀ (ks:List Nat) {M:Mem} {B:aQ} {Z:ASt},Inv n M B out Z t w->∃ M' B',bZ n out m0 M B Z t w M' B' (vN ks Z) t w
 | [],M,B,_,hI=>⟨M,B,bZ.refl hI⟩
 | k::ks,M,B,Z,hI=>by obtain ⟨M1,B1,h1⟩:=aQV (m0:=m0) hI k;obtain ⟨M2,B2,h2⟩:=U9 ks h1.inv;exact ⟨M2,B2,h1.trans h2⟩
theorem CZ (hI:Inv n M B out Z t w) {l:List Nat} {m:Nat} (hm:m0<=m) (hg:yw l m Z=true):bZ n out m0 M B Z t w M (B.take m) (Z.gc l m) t w:=by
 unfold yw at hg;simp only[aY,fH] at hg;obtain ⟨g1,g2⟩:=hg;have hle:∀ b,fp (B.take m) (Z.gc l m) t w b<=fp B Z t w b:=fun b=>by have h1:=a0T (t:=t) (fun kp=>l.contains kp.1) b Z.s;have h2:=a0R (w:=w) m b Z.h B;simp only[fp,ASt.gc]; omega
 refine ⟨⟨hI.size,hI.mem,List.Pairwise.sublist List.filter_sublist hI.gG,fun k p hp => ?_,⟨by simp[ASt.gc,hI.heap.1],fun i cs hi => ?_⟩,fun b=>by have:=hle b; have:=hI.cnt b; omega,fun b hb=>by have:=hle b; have:=hI.new b hb; omega⟩,fun _ _ _ h=>h,fun i c hi hc=>by rw[gY,aH (by omega)]; exact hc,Fr.refl _ _ _,fun b _=>hle b⟩
 .obtain ⟨s1,s2,s3⟩:=hI.slots k p (WL (fun k=>l.contains k) hp);exact ⟨s1,s2.blw (g1 _ (WM hp)),s3⟩
 .have hi0:=hi;simp only[ASt.gc] at hi;rw[gY] at hi;split at hi
  .rename_i hlt;obtain ⟨c,hc,vs,ty,o1,o2,o3,o4,o5⟩:=hI.heap.2 i cs hi;refine ⟨c,by rw[gY,aH hlt]; exact hc,vs,ty,o1,o2,o3,fun j p hj => ?_,o5⟩;obtain ⟨v,a1,a2,a3,a4⟩:=o4 j p hj;refine ⟨v,a1,a2.blw ?_,a3,a4⟩;have:=fH.1 g2 _ (iV hi0);exact Su.1 this p (iV hj)
  .cases hi
theorem bAV (sz:List (Nat×List Nat)) {s:dw} (h:iH s):iH (qx sz s):=by
 induction s with
 | nil=>exact h
 | cons a l ih =>
  obtain ⟨k,p⟩:=a;obtain ⟨h1,h2⟩:=zg.1 h;have hm:∀ (l:dw) (b:Nat×PV),b∈qx sz l->∃ c,c∈l/\c.1=b.1:=by
   intro l;induction l with
   | nil=>intro b hb; simp[qx] at hb
   | cons a l ih =>
    intro b hb;obtain ⟨k,p⟩:=a;rw[qx] at hb;rcases fQ.1 hb with hb | hb
    .refine ⟨(k,p),by simp,?_⟩;rw[hb]; split<;>rfl
    .obtain ⟨c,hc,e⟩:=ih b hb;exact ⟨c,by simp[hc],e⟩
  rw[qx];refine zg.2 ⟨fun b hb => ?_,ih h2⟩;obtain ⟨c,hc,e⟩:=hm l b hb;have:=h1 c hc;rw[<- e];split<;>exact this
theorem aJF {sz:List (Nat×List Nat)} {k:Nat} {p:PV}:∀ {s:dw},bK k (qx sz s)=some p->∃ q,bK k s=some q/\(p=q\/∃ z,p=q.xI z)
 | [],h=>by simp[qx,bK] at h
 | (j,q)::l,h=>by
  rw[qx] at h;by_cases e:j=k
  .refine ⟨q,by rw[bK,aH e],?_⟩;split at h<;>(rw[bK,aH e] at h; injection h with h)
   .exact .inr ⟨_,h.symm⟩
   .exact .inl h.symm
  .have h':bK k (qx sz l)=some p:=by split at h<;>(rw[bK,aI e] at h; exact h)
   obtain ⟨r,h1,h2⟩:=aJF h';exact ⟨r,by rw[bK,aI e]; exact h1,h2⟩
theorem aHN {sz:List (Nat×List Nat)} {t:Array Value} {b:Nat}:∀ {s:dw},gI (qx sz s) t b=gI s t b
 | []=>rfl
 | (j,q)::l=>by rw[qx];split<;>simp only[gI,aHO,aHN]
theorem bAW (hI:Inv n M B out Z t w) (sz:List (Nat×List Nat)):Good n out M B Z t w M B { Z with s:=qx sz Z.s } t w:=by
 have hle:∀ b,fp B { Z with s:=qx sz Z.s } t w b=fp B Z t w b:=fun b=>by simp only[fp,aHN]
 refine ⟨⟨hI.size,hI.mem,bAV _ hI.gG,fun k p hp => ?_,hI.heap,fun b=>by have:=hle b; have:=hI.cnt b; omega,fun b hb=>by have:=hle b; have:=hI.new b hb; omega⟩,cu.refl _ _,Fr.refl _ _ _,fun b _=>by rw[hle b]; exact bQ _⟩;obtain ⟨q,h1,h2⟩:=aJF hp;obtain ⟨g1,g2,g3⟩:=hI.slots k q h1;rcases h2 with rfl | ⟨z,rfl⟩
 .exact ⟨g1,g2,g3⟩
 .exact ⟨g1,QS z g2,aKP z g2 g3⟩
theorem aHF:∀ {zs:List Nat} {cs:List PV} {j:Nat} {p:PV},(uf zs cs)[j]? = some p->∃ q,cs[j]? = some q/\(p=q\/∃ z,p=q.FB z)
 | [],cs,j,p,h=>by cases cs<;>exact ⟨p,h,.inl rfl⟩
 | z::zs,[],j,p,h=>by simp[uf] at h
 | z::zs,c::cs,0,p,h=>by simp[uf] at h; exact ⟨c,rfl,.inr ⟨z,h.symm⟩⟩
 | z::zs,c::cs,j+1,p,h=>by rw[uf,X3] at h; simpa using aHF h
theorem aHG:∀ (zs:List Nat) (cs:List PV),(uf zs cs).length=cs.length
 | [],cs=>by cases cs<;>rfl
 | _::_,[]=>rfl
 | z::zs,c::cs=>by simp[uf,aHG zs cs]
theorem aHJ:∀ {zs:List Nat} {cs:List PV} {vs:List Value} {b:Nat},(∀ (j:Nat) p v,cs[j]? = some p->vs[j]? = some v->Rep M B p v)->dA (uf zs cs) vs b=dA cs vs b
 | [],cs,vs,b,_=>by cases cs<;>rfl
 | _::_,[],vs,b,_=>rfl
 | z::zs,c::cs,[],b,_=>by simp[uf,dA]
 | z::zs,c::cs,v::vs,b,h=>by rw[uf,dA,dA,b7T (M:=M) (B:=B) z (h 0 c v rfl rfl),aHJ fun j p u hp hu=>h (j+1) p u (by simpa using hp) (by simpa using hu)]
theorem b7C (hI:Inv n M B out Z t w) {i:Nat} {cs:List PV} (hi:Z.h[i]? = some (some cs)) (zs:List Nat):Good n out M B Z t w M B { Z with h:=Z.h.set i (some (uf zs cs)) } t w:=by
 obtain ⟨c,hc,vs,ty,o1,o2,o3,o4,o5⟩:=hI.heap.2 i cs hi;have hrep:∀ (j:Nat) p v,cs[j]? = some p->vs.toList[j]? = some v->Rep M B p v:=fun j p v hp hv=>by obtain ⟨u,a1,a2,_⟩:=o4 j p hp;rw[show vs[j]? = some v by simpa using hv] at a1; injection a1 with a1; subst a1; exact a2
 have hown:∀ b,aP w (Z.h.set i (some (uf zs cs))) B b=aP w Z.h B b:=fun b=>by
  have key:∀ (h:aF) (B':aQ) (i:Nat),h[i]? = some (some cs)->B'[i]? = some c->aP w (h.set i (some (uf zs cs))) B' b=aP w h B' b:=by
   intro h;induction h with
   | nil=>intro B' i h1; simp at h1
   | cons x h ih =>
    intro B' i h1 h2;cases B' with
    | nil=>simp at h2
    | cons d B' =>
     cases i with
     | zero =>simp at h1 h2; subst h1; subst h2;simp only[Bl,aP];rw[mD o1,aHJ hrep]
     | succ i =>
      simp at h1 h2;cases x with
      | none=>simp only[wI,aP]; exact ih B' i h1 h2
      | some ds=>simp only[wI,aP]; rw[ih B' i h1 h2]
  exact key Z.h B i hi hc
 have hfp:∀ b,fp B { Z with h:=Z.h.set i (some (uf zs cs)) } t w b=fp B Z t w b:=fun b=>by simp only[fp,hown]
 refine ⟨⟨hI.size,hI.mem,hI.gG,hI.slots,⟨by simp[hI.heap.1],fun i' cs' hi' => ?_⟩,fun b=>by rw[hfp]; exact hI.cnt b,fun b hb=>by rw[hfp]; exact hI.new b hb⟩,cu.refl _ _,Fr.refl _ _ _,fun b _=>by rw[hfp]; exact bQ _⟩;by_cases hii:i'=i
 .subst hii;rw[o7 (dQ.1 hi).1] at hi';injection hi' with hi'; injection hi' with hi'; subst hi'
  refine ⟨c,hc,vs,ty,o1,o2,by rw[aHG]; exact o3,fun j p hp => ?_,o5⟩;obtain ⟨q,hq,h⟩:=aHF hp;obtain ⟨u,a1,a2,a3,a4⟩:=o4 j q hq;rcases h with rfl | ⟨z,rfl⟩
  .exact ⟨u,a1,a2,a3,a4⟩
  .exact ⟨u,a1,bAN z a2,bDO z a2 a3,a4⟩
 .rw[jd (Ne.symm hii)] at hi';exact hI.heap.2 i' cs' hi'
theorem aHH (s:dw):∀ (l:List (Nat×List Nat)) {Z:ASt},Inv n M B out Z t w->Good n out M B Z t w M B { Z with h:=a0O s l Z.h } t w
 | [],Z,hI=>Good.refl hI
 | (k,zs)::l,Z,hI=>by
  have h1:Good n out M B Z t w M B { Z with h:=match bK k s with | some p=>a0S zs p Z.h | none=>Z.h } t w:=by
   split
   .rename_i p hp;unfold a0S;split
    .rename_i i;split
     .rename_i cs hcs; exact b7C hI hcs zs
     .exact Good.refl hI
    .exact Good.refl hI
   .exact Good.refl hI
  exact h1.trans (aHH s l h1.inv)
theorem V5 {E:AE} (hI:Inv n M B out Z t w):Good n out M B Z t w M B (Z.head E) t w:=by have hk:=b52 hI E.vars;have h2:=bAW hk.inv E.sz;exact (hk.trans h2).trans (aHH (qx E.sz (Z.keep E.vars).s) E.pt h2.inv)
def lift (E:AE) (out:Nat->Nat) (m0:Nat) (M:Mem) (B:aQ) (Z:ASt) (t:Array Value) (w:World) (ds:List Deferred) (Q:AX->ASt->Prop) (e:Exit) (a':Act) (w':World):Prop :=∃ ax Z' M' B',e=ax.toExit/\Q ax Z'/\a'.defers=ds/\bZ E.n out m0 M B Z t w M' B' Z' a'.tmps w'
theorem VY {ds:List Deferred} {Q:AX->ASt->Prop} (h:bZ E.n out m0 M B Z t w M1 B1 Z1 t1 w1) {e:Exit} {a':Act} {w':World} (k:lift E out m0 M1 B1 Z1 t1 w1 ds Q e a' w'):lift E out m0 M B Z t w ds Q e a' w':=by obtain ⟨ax,Z',M',B',h1,h2,h3,h4⟩:=k;exact ⟨ax,Z',M',B',h1,h2,h3,h.trans h4⟩
theorem uN (hm:E.P.follows .mixedOrders=true):∀ (c:Code) {M:Mem} {B:aQ} {Z:ASt} {a:Act} {w:World} {Q:AX->ASt->Prop},Inv E.n M B out Z a.tmps w->cO E m0 c Q Z->c.wp E.P (lift E out m0 M B Z a.tmps w a.defers Q) a w
 | .skip,M,B,Z,a,w,Q,hI,h=>wp_skip ⟨.normal,Z,M,B,rfl,h,rfl,bZ.refl hI⟩
 | .label l,M,B,Z,a,w,Q,hI,h=>wp_label ⟨.normal,Z,M,B,rfl,h,rfl,bZ.refl hI⟩
 | .exit id,M,B,Z,a,w,Q,hI,h=>wp_exit ⟨.exit id,Z,M,B,rfl,h,rfl,bZ.refl hI⟩
 | .ret,M,B,Z,a,w,Q,hI,h=>wp_ret ⟨.ret,Z,M,B,rfl,h,rfl,bZ.refl hI⟩
 | .region id ops draw,M,B,Z,a,w,Q,hI,h=>by
  have hk:=V5 (E:=E) hI;rw[cO] at h;cases draw with
  | false =>simp only[rJ,qV] at h;exact wp_region_list (Nu _ hk.inv h fun Z' M' B' a' w' hq hG hd=>⟨.normal,Z',M',B',rfl,hq,hd,(hk.trans hG).c⟩)
  | true =>simp only[fD] at h;exact aMJ hm hk.inv h fun Z' M' B' a' w' hq hG hd=>⟨.normal,Z',M',B',rfl,hq,hd,(hk.trans hG).c⟩
 | .seq x y,M,B,Z,a,w,Q,hI,h=>by
  rw[cO] at h;refine wp_seq (rV (uN hm x hI h) fun e a' w' hl => ?_);obtain ⟨ax,Z',M',B',rfl,hq,hd,hG⟩:=hl;cases ax with
  | normal =>
   obtain ⟨ks,hq⟩:=hq;obtain ⟨M2,B2,hz⟩:=U9 (m0:=m0) ks hG.inv;have hG:=hG.trans hz;rcases hq with hq | ⟨l,m,hm0,hg,hq⟩
   .exact rV (uN hm y hG.inv hq) fun e a2 w2 hl2=>by rw[hd] at hl2; exact VY hG hl2
   .have hgc:=hG.trans (CZ hG.inv hm0 hg);exact rV (uN hm y hgc.inv hq) fun e a2 w2 hl2=>by rw[hd] at hl2; exact VY hgc hl2
  | ret=>exact ⟨.ret,Z',M',B',rfl,hq,hd,hG⟩
  | exit i=>exact ⟨.exit i,Z',M',B',rfl,hq,hd,hG⟩
 | .cond c x y,M,B,Z,a,w,Q,hI,h=>by
  rw[cO] at h;split at h
  .rename_i b hb;have he:=iZ.1 (hI.rd _ _ hb).1;refine wp_cond_split he (fun hb=>uN hm x hI (h.1 hb)) (fun hb=>uN hm y hI (h.2 hb))
  .exact h.elim
 | .block id x,M,B,Z,a,w,Q,hI,h=>by
  rw[cO] at h;refine wp_block (rV (uN hm x hI h) fun e a' w' hl => ?_);obtain ⟨ax,Z',M',B',rfl,hq,hd,hG⟩:=hl;cases ax with
  | normal=>exact ⟨.normal,Z',M',B',rfl,hq,hd,hG⟩
  | ret=>exact ⟨.ret,Z',M',B',rfl,hq,hd,hG⟩
  | exit i =>
   simp only[AX.toExit,Exit.inBlock];simp only[JV] at hq;split
   .rename_i e; rw[aH e] at hq; exact ⟨.normal,Z',M',B',rfl,hq,hd,hG⟩
   .rename_i e; rw[aI e] at hq; exact ⟨.exit i,Z',M',B',rfl,hq,hd,hG⟩
 | .scope x,M,B,Z,a,w,Q,hI,h=>by rw[cO] at h;refine wp_scope_straight (rV (uN hm x hI h) fun e a' w' hl => ?_);obtain ⟨ax,Z',M',B',rfl,hq,hd,hG⟩:=hl;cases ax<;>exact ⟨_,Z',M',B',rfl,hq,hd,hG⟩
 | .loop x,M,B,Z,a,w,Q,hI,h=>by
  rw[cO] at h;obtain ⟨k,hk⟩:=h;refine wp_loop_rounds k ?_;have key:∀ (k:Nat) (M1:Mem) (B1:aQ) (Z1:ASt) (a1:Act) (w1:World),bZ E.n out m0 M B Z a.tmps w M1 B1 Z1 a1.tmps w1->a1.defers=a.defers->IV m0 (cO E m0 x) Q k Z1->Code.rounds E.P x (lift E out m0 M B Z a.tmps w a.defers Q) k a1 w1:=by
   intro k;induction k with
   | zero=>intro M1 B1 Z1 a1 w1 _ _ h; exact h.elim
   | succ k ih =>
    intro M1 B1 Z1 a1 w1 hG hd h;obtain ⟨l,m,hm0,hg,hb⟩:=h;have hgc:=CZ hG.inv hm0 hg;rw[rounds_succ];refine rV (uN hm x hgc.inv hb) fun e a' w' hl => ?_
    obtain ⟨ax,Z',M',B',rfl,hq,hd',hG'⟩:=hl;have hG2:=(hG.trans hgc).trans hG';cases ax with
    | normal=>exact ih M' B' Z' a' w' hG2 (by rw[hd',hd]) hq
    | ret=>exact ⟨.ret,Z',M',B',rfl,hq,by rw[hd',hd],hG2⟩
    | exit i=>exact ⟨.exit i,Z',M',B',rfl,hq,by rw[hd',hd],hG2⟩
  exact key k M B Z a w (bZ.refl hI) rfl hk
 | .rangeFunc f ps az b,_,_,_,_,_,_,_,h=>by rw[cO] at h; exact h.elim
 | .goto l,_,_,_,_,_,_,_,h=>by rw[cO] at h; exact h.elim
 | .refuse l,_,_,_,_,_,_,_,h=>by rw[cO] at h; exact h.elim
end
def jr:Nat->List PV->dw
 | _,[] => []
 | k,p::ps=>(k,p.un)::jr (k+1) ps
def resV (P:Program) (Z:ASt):ResultVar->Option PV
 | .tmp t=>bK t Z.s
 | .cell t ty=>match ti P ty,bK t Z.s with
  | some I,some q=>(lF false I q Z).map (·.1)
  | _,_=>none
def IR (P:Program) (rs:List ResultVar) (m0:Nat) (r:PV) (h':aF) (Z:ASt):Prop :=
 m0<=h'.length/\Z.h.take h'.length=h'/\r.blw h'.length=true/\xZ h'.length h'=true /\
  match rs with
  | [x]=>resV P Z x=some r
  | rs=>(iJ (rs.map (resV P Z))).map (fun ps=>PV.tuple (ps.map PV.un))=some r
section
variable {n:Nat} {out:Nat->Nat} {m0:Nat} {M:Mem} {B:aQ} {Z:ASt} {a:Act} {w:World} {P:Program}
def WE (tmps:Array Value):ResultVar->Sem Value
 | .tmp t=>pure (tmps.getD t undef)
 | .cell a t=>do loadVar t (<- asAddr (tmps.getD a undef))
theorem bAY (fn:Func) (tmps:Array Value):results fn tmps=(do let vs<-fn.results.mapM (WE tmps); pure (if h:vs.size=1 then vs[0] else .tuple vs)):=by unfold results;congr 1
theorem aII (hI:Inv n M B out Z a.tmps w) {x:ResultVar} {p:PV} (h:resV P Z x=some p) :
 ∃ v,(WE a.tmps x).run P w = .ok v w/\Rep M B p v/\Tl M w p v/\∀ b,bC p v b<=gI Z.s a.tmps b:=by
 cases x with
 | tmp t =>obtain ⟨h1,h2,h3⟩:=hI.slots t p h;refine ⟨_,rfl,h2,h3,fun b => ?_⟩;have:=BL (s:=Z.s) (t:=a.tmps) (k:=t) (b:=b);have h':bK t Z.s=some p:=h;simpa only[kK,h'] using this
 | cell c t =>
  simp only[resV] at h;split at h
  .rename_i I q hI' hq;cases hl:lF false I q Z with
   | none=>simp[hl] at h
   | some pZ =>
    obtain ⟨p',Z1⟩:=pZ;simp[hl] at h; subst h;have hrd:Z.rd (.tmp c)=some q.un:=by simp[ASt.rd,ASt.ev,hq]
    have hl':lF false I q.un Z=some (p',Z1):=by
     have:lF false I q.un Z=lF false I q Z:=by cases q<;>rfl
     rw[this,hl]
    obtain ⟨v,h1,h2⟩:=a07 hI hI' hrd hl';have b2T:p'.own=false:=by
     unfold lF at hl;split at hl
     .split at hl
      .cases hl; exact nS _
      .cases hl
     .split at hl
      .split at hl
       .split at hl
        .cases hl; rfl
        .cases hl
       .split at hl
        .simp at hl; rw[<- hl.1]; exact nS _
        .cases hl
      .cases hl
     .cases hl
    refine ⟨v,?_,h2.rep,h2.tl,fun b=>by rw[bu b2T]; exact uA _⟩;show (do loadVar t (<- asAddr (a.tmps.getD c undef)):Sem Value).run P w=_;have he:a.eval (.tmp c)=a.tmps.getD c undef:=rfl;rw[he] at h1;have hr:=(hI.rd _ _ hrd).1;rw[he] at hr;have b2S:∃ ad,a.tmps.getD c undef = .pointer (some ad):=by
     unfold lF at hl';split at hl'
     .rename_i e hq'; rw[hq'] at hr; obtain ⟨b,off,e1,_⟩:=yB.1 hr; exact ⟨_,e1⟩
     .rename_i i off hq'; rw[hq'] at hr; obtain ⟨cc,_,e1⟩:=tC.1 hr; exact ⟨_,e1⟩
     .cases hl'
    obtain ⟨ad,had⟩:=b2S;rw[had] at h1 ⊢;simpa[Instr.loadAt,Instr.sureAddr,asAddr] using h1
  .cases h
theorem aIJ (hI:Inv n M B out Z a.tmps w):∀ {rs:List ResultVar} {ps:List PV},iJ (rs.map (resV P Z))=some ps ->
 ∃ vs,(rs.mapM (WE a.tmps)).run P w = .ok vs w/\ag M B ps vs
 | [],ps,h=>by simp[iJ] at h; subst h; exact ⟨[],by simp,dC.2 rfl⟩
 | x::rs,ps,h=>by
  have h':=SC h;cases ps with
  | nil=>simp at h'
  | cons p ps =>
   simp only[o8,List.cons.injEq] at h';obtain ⟨v,h1,h2,_,_⟩:=aII hI h'.1;have hall:∀ ps:List PV,iJ (ps.map some)=some ps:=by
    intro ps; induction ps with
    | nil=>rfl
    | cons a l ih=>simp[iJ,ih]
   obtain ⟨vs,h3,h4⟩:=aIJ hI (rs:=rs) (ps:=ps) (by rw[h'.2]; exact hall ps);refine ⟨v::vs,?_,bY.2 ⟨v,vs,rfl,h2,h4⟩⟩;rw[List.mapM_cons,jO,h1,nU,jO,h3]; rfl
theorem aIN (hI:Inv n M B out Z a.tmps w) {fn:Func} {m0:Nat} {r:PV} {h':aF} (hr:IR P fn.results.toList m0 r h' Z) :
 ∃ v,(results fn a.tmps).run P w = .ok v w/\Rep M B r v/\Tl M w r v/\∀ b,bC r v b<=gI Z.s a.tmps b:=by
 obtain ⟨_,_,_,_,hres⟩:=hr;have hst:∀ vs:List Value,(fn.results.toList.mapM (WE a.tmps)).run P w = .ok vs w->(results fn a.tmps).run P w = .ok (if h:vs.toArray.size=1 then vs.toArray[0] else .tuple vs.toArray) w:=fun vs h=>by rw[bAY,Array.mapM_eq_mapM_toList,jO,Sem.run_map,h]; rfl
 split at hres
 .rename_i x hx;obtain ⟨v,h1,h2,h3,h4⟩:=aII hI hres;refine ⟨v,?_,h2,h3,h4⟩;rw[hst [v] (by rw[hx,List.mapM_cons,jO,h1]; rfl)];rfl
 .rename_i hx;obtain ⟨ps,hps,rfl⟩:=G8.1 hres;obtain ⟨vs,h1,h2⟩:=aIJ hI hps;have hne:vs.length≠1:=by
   have e1:=kY h2;have e2:=congrArg List.length (SC hps);simp only[bW] at e2;intro h;generalize fn.results.toList=L at *;match L with
   | []=>simp at e2; omega
   | [x]=>exact hx x rfl
   | x::y::l=>simp at e2; omega
  refine ⟨.tuple vs.toArray,?_,pW.2 ⟨_,rfl,by simpa using FN h2⟩,dn rfl,fun b=>by rw[bu rfl]; exact uA _⟩;rw[hst vs h1,dif_neg (by simpa using hne)]
theorem a2S:∀ {args:List PV} {k j:Nat} {p:PV},bK j (jr k args)=some p->∃ i q,j=k+i/\args[i]? = some q/\p=q.un
 | [],_,_,_,h=>by simp[jr,bK] at h
 | q::qs,k,j,p,h=>by
  rw[jr,bK] at h;split at h
  .rename_i e; subst e; cases h; exact ⟨0,q,rfl,rfl,rfl⟩
  .obtain ⟨i,q',h1,h2,h3⟩:=a2S h;exact ⟨i+1,q',by omega,by simpa using h2,h3⟩
theorem a2T:∀ {args:List PV} {k:Nat},iH (jr k args)/\∀ x,x∈jr k args->k<=x.1
 | [],k=>⟨by simp[jr,iH],by simp[jr]⟩
 | q::qs,k=>by
  obtain ⟨h1,h2⟩:=a2T (args:=qs) (k:=k+1);rw[jr];refine ⟨zg.2 ⟨fun x hx=>by have:=h2 x hx; show k<x.1; omega,h1⟩,fun x hx => ?_⟩;rcases fQ.1 hx with rfl | hx
  .exact bQ _
  .have:=h2 x hx; omega
theorem Qg {t:Array Value} {b:Nat}:∀ {args:List PV} {k:Nat},gI (jr k args) t b=0
 | [],_=>rfl
 | q::qs,k=>by rw[jr,gI,II,Qg]
def fin1 (p:PV) (z:List Nat×Bool):PV:=match z.2 with | true=>p.xI z.1 | false=>(p.xI z.1).un
def YN:List (List Nat×Bool)->List PV->List PV
 | z::zs,p::ps=>fin1 p z::YN zs ps
 | _,ps=>ps
def uQ (ro:List (List Nat×Bool)) (r:PV):PV:=match ro,r with
 | [],r=>r
 | _,.tuple ps => .tuple (YN ro ps)
 | z::_,r=>fin1 r z
theorem a8Q {p:PV} {z:List Nat×Bool} {v:Value} (h:Rep M B p v):Rep M B (fin1 p z) v:=by
 unfold fin1; split
 .exact QS _ h
 .exact lM.2 (QS _ h)
theorem a8R:∀ {zs:List (List Nat×Bool)} {ps:List PV} {vs:List Value},ag M B ps vs->ag M B (YN zs ps) vs
 | [],ps,vs,h=>by cases ps<;>exact h
 | z::zs,[],vs,h=>h
 | z::zs,p::ps,vs,h=>by obtain ⟨u,us,rfl,h1,h2⟩:=bY.1 h;exact bY.2 ⟨u,us,rfl,a8Q h1,a8R h2⟩
theorem a8T {ro:List (List Nat×Bool)} {r:PV} {v:Value} (h:Rep M B r v):Rep M B (uQ ro r) v:=by
 unfold uQ; split
 .exact h
 .obtain ⟨vs,rfl,hr⟩:=pW.1 h;exact pW.2 ⟨vs,rfl,a8R hr⟩
 .exact a8Q h
theorem aQG {p:PV} {z:List Nat×Bool} {v:Value} (hr:Rep M B p v) (h:Tl M w p v):Tl M w (fin1 p z) v:=by
 unfold fin1; split
 .exact aKP _ hr h
 .exact dn (nS _)
theorem a8U {ro:List (List Nat×Bool)} {r:PV} {v:Value} (hr:Rep M B r v) (h:Tl M w r v):Tl M w (uQ ro r) v:=by
 unfold uQ; split
 .exact h
 .exact dn rfl
 .exact aQG hr h
theorem a8S {ro:List (List Nat×Bool)} {r:PV} {v:Value} {b:Nat}:bC (uQ ro r) v b<=bC r v b:=by
 unfold uQ; split
 .exact bQ _
 .rw[bu rfl]; omega
 .unfold fin1; split
  .rw[aHO]; exact bQ _
  .rw[II]; omega
theorem aE4 {n:Nat} {h:aF} {args:List PV} {vals:Array Value} {out:Nat->Nat} {M:Mem} {B:aQ} {w:World} (hlen:args.length<=n) (hmem:sV M w) (hheap:nV M B w h) (hcnt:∀ b,aP w h B b+out b<=1) (hnew:∀ b,w.heap.size<=b->aP w h B b+out b=0)
 (hv:ag M B args vals.toList):Inv n M B out ⟨jr 0 args,h⟩ (vals ++ Array.replicate (n-vals.size) undef) w:=by
 have hvl:=kY hv;simp only[Array.length_toList] at hvl;have hfp:∀ t b,fp B ⟨jr 0 args,h⟩ t w b=aP w h B b:=fun t b=>by simp only[fp,Qg]; omega
 refine ⟨by simp; omega,hmem,a2T.1,fun k p hk => ?_,hheap,fun b=>by rw[hfp]; exact hcnt b,fun b hb=>by rw[hfp]; exact hnew b hb⟩;obtain ⟨i,q,rfl,hq,rfl⟩:=a2S hk;obtain ⟨v,hv1,hv2⟩:=qM hv hq;have hi:=(dQ.1 hq).1;refine ⟨by omega,?_,dn (nS _)⟩;have ZL:vals[i]? = some v:=by simpa using hv1
 have:(vals ++ Array.replicate (n-vals.size) undef).getD (0+i) undef=v:=by rw[jW,a4M,Iw (by omega),ZL]; rfl
 rw[this]; exact lM.2 hv2
theorem a8V {n:Nat} {fn:Func} {h h':aF} {args:List PV} {out:Nat->Nat} {M M':Mem} {B B':aQ} {w w':World} {t:Array Value} {a':Act} {Z':ASt} {r0:PV} {ro:List (List Nat×Bool)} (hheap:nV M B w h)
 (hG:bZ n out h.length M B ⟨jr 0 args,h⟩ t w M' B' Z' a'.tmps w') (hret:IR P fn.results.toList h.length r0 h' Z'):∃ v,(results fn a'.tmps).run P w' = .ok v w'/\∃ M'' B'',Post h B out M w (uQ ro r0) h' v M'' B'' w':=by
 have hfp:∀ t b,fp B ⟨jr 0 args,h⟩ t w b=aP w h B b:=fun t b=>by simp only[fp,Qg]; omega
 obtain ⟨v,hrun,hrep,htl,hown⟩:=aIN hG.inv hret;obtain ⟨hm0,hht,hb1,hb2,_⟩:=hret;generalize hm':h'.length=m at *;subst hht;have hpost:Post h B out M w (uQ ro r0) (Z'.h.take m) v M' (B'.take m) w':=by
  have hBl:B.length=h.length:=hheap.1.symm;have htake:=fun b=>a0R (w:=w') m b Z'.h B'
  have hfin:∀ b,aP w' (Z'.h.take m) (B'.take m) b+bC (uQ ro r0) v b<=fp B' Z' a'.tmps w' b:=fun b=>by have:=htake b; have:=hown b; have:=a8S (ro:=ro) (r:=r0) (v:=v) (b:=b); simp only[fp]; omega
  refine ⟨hG.inv.mem,⟨hG.mem,fun i c hc => ?_⟩,hG.fr.mono fun b hb h0=>by rw[hfp]; exact h0,⟨by simp[hG.inv.heap.1],fun i cs hi => ?_⟩,a8T (hrep.blw hb1),a8U (hrep.blw hb1) htl,fun b hb => ?_,fun b => ?_,fun b hb => ?_⟩
  .have hlt:=(dQ.1 hc).1;rw[gY,aH (by omega)];exact hG.pre i c (by omega) hc
  .have hi0:=hi;rw[gY] at hi;split at hi
   .rename_i hlt;obtain ⟨c,hc,vs,ty,o1,o2,o3,o4,o5⟩:=hG.inv.heap.2 i cs hi;refine ⟨c,by rw[gY,aH hlt]; exact hc,vs,ty,o1,o2,o3,fun j p hj => ?_,o5⟩;obtain ⟨u,a1,a2,a3,a4⟩:=o4 j p hj;refine ⟨u,a1,a2.blw ?_,a3,a4⟩;have:=fH.1 hb2 _ (iV hi0);exact Su.1 this p (iV hj)
   .cases hi
  .have h1:=hG.own b hb; rw[hfp] at h1; exact iC (hfin b) h1
  .have h1:=hG.inv.cnt b; have:=hfin b; omega
  .have h1:=hG.inv.new b hb; have:=hfin b; omega
 exact ⟨v,hrun,M',_,hpost⟩
theorem oq.a0M {cp:CP} {g:FuncId} {fn:Func} {c:Code} (hcp:∀ {vals:Array Value} {w:World} {R:Ending->World->Prop},c.wp P (bodyPost P fn R) { tmps:=vals ++ Array.replicate (fn.ntmps-vals.size) undef,defers := [] } w->cp g vals w R) (hm:P.follows .mixedOrders=true) (hf:P.funcs[g]? = some fn) (hb:fn.body=some c) (hn:(fn.name != "runtime.NumGoroutine")=true) {args:List PV} {h:aF} {r:PV} {h':aF} (vars mv mu:List Nat) (sz jt lt pt:List (Nat×List Nat)) (fz:List Nat) (ro:List (List Nat×Bool)) (ft:List (Nat×List Nat)) (sy ln:List Nat) (hlen:args.length<=fn.ntmps)
 (hA:cO ⟨P,fn.ntmps,vars,mv,mu,sz,jt,lt,pt,fz,ft,sy,ln⟩ h.length c (fun e Z'=>(match e with | .exit _=>False | _=>True)/\∃ r0,IR P fn.results.toList h.length r0 h' Z'/\uQ ro r0=r) ⟨jr 0 args,h⟩):oq P cp g args h r h':=by
 refine ⟨by simp[callable,hf,hb]; simpa using hn,fun out M B w vals hmem hheap hcnt hnew hv => ?_⟩;have hI:=aE4 (n:=fn.ntmps) hlen hmem hheap hcnt hnew hv;refine hcp (rV (uN (E:=⟨P,fn.ntmps,vars,mv,mu,sz,jt,lt,pt,fz,ft,sy,ln⟩) (out:=out) (a := { tmps:=vals ++ Array.replicate (fn.ntmps-vals.size) undef,defers := [] }) hm c hI hA) fun e a' w' hl => ?_);obtain ⟨ax,Z',M',B',rfl,⟨hax,r0,hret,rfl⟩,hd,hG⟩:=hl;obtain ⟨v,hrun,M'',B'',hpost⟩:=a8V (ro:=ro) hheap hG hret;cases ax with
 | normal=>exact ⟨hd,v,hrun,v,M'',B'',rfl,hpost⟩
 | ret=>exact ⟨hd,v,hrun,v,M'',B'',rfl,hpost⟩
 | exit i=>exact hax.elim
end
theorem Ev.frame {P:Program} {g:FuncId} {args:List PV} {r:PV} (h:Ev P g args [] r []) (hr:r.flat=true) (ha:PV.flats args=true) (hh:aF):Ev P g args hh r hh:=h.frame' hr ha hh
theorem Xw {E:AE} {g:FuncId} {args:List PV} {dst:Option Nat} {K:ASt->Prop} {Z:ASt} {r:PV} (h:Ev E.P g args [] r []) (hr:r.flat=true) (ha:PV.flats args=true) (hk:gz E dst r Z K):JX E g args dst K Z:=⟨r,Z.h,h.frame hr ha _,hk⟩
theorem wrap64 {n:Int} (h1 : -9223372036854775808<=n) (h2:n<=9223372036854775807):i64.wrap n=n:=IntWalk.i64_in n ⟨h1,h2⟩
theorem uj {E:AE} {dst:Option Nat} {p:PV} {Z:ASt} {K K':ASt->Prop} (hk:∀ Z,K Z->K' Z) (h:gz E dst p Z K):gz E dst p Z K':=by
 unfold gz at *;split at h
 .exact hk _ h
 .exact h.elim
theorem aK7 {E:AE} {o:Oper} {Z:ASt} {K K':ASt->Prop} (hk:∀ Z,K Z->K' Z) (h:vg E o K Z):vg E o K' Z:=by
 unfold vg at *;split at h
 .exact ⟨h.1,uj hk h.2⟩
 .exact h.elim
theorem aK9 {E:AE} {o:Oper} {Z:ASt} {K K':ASt->Prop} (hk:∀ Z,K Z->K' Z) (h:MI E o K Z):MI E o K' Z:=by
 rcases h with h | h
 .exact .inl (aK7 hk h)
 .refine .inr ?_;unfold Q8 at *;split at h
  .exact fun b hb=>uj hk (h b hb)
  .exact h.elim
theorem SY {E:AE} {o:Oper} {Z:ASt} {K K':ASt->Prop} (hk:∀ Z,K Z->K' Z) (h:uK E o K Z):uK E o K' Z:=by
 unfold uK at *;split
 .rename_i c hc;simp only[hc] at h;split
  .rename_i f hf;simp only[hf] at h;split at h
   .rename_i h1 h2;obtain ⟨r,h',a,b⟩:=h;exact ⟨r,h',a,uj hk b⟩
   .exact h.elim
  .rename_i hf;split at h
   .rename_i f hf'; exact absurd hf' (hf f)
   .exact aK9 hk h
 .rename_i hc;split at h
  .rename_i c hc'; exact absurd hc' (hc c)
  .exact aK9 hk h
theorem AQ {E:AE} {ops:Array Oper} {K K':ASt->Prop} (hk:∀ Z,K Z->K' Z):∀ (l:List Oper) {Z:ASt},jY E ops l K Z->jY E ops l K' Z
 | [],Z,h=>hk Z h
 | o::l,Z,h=>by
  rw[jY] at h ⊢;split
  .rename_i hg;simp only[hg] at h;exact SY (fun Z hZ=>AQ hk l hZ) h
  .rename_i j want hg;simp only[hg] at h;split
   .rename_i hv;rw[hv] at h;exact uj (fun Z hZ=>AQ hk l hZ) h
   .rename_i b hv;rw[hv] at h;exact ⟨fun e=>SY (fun Z hZ=>AQ hk l hZ) (h.1 e),fun e=>uj (fun Z hZ=>AQ hk l hZ) (h.2 e)⟩
   .rename_i hv;rw[hv] at h;exact h.elim
theorem SX {E:AE} {o:Oper} {Z:ASt} {K K':ASt->Prop} (hk:∀ Z,K Z->K' Z) (h:yf E o K Z):yf E o K' Z:=by
 unfold yf at *;split
 .rename_i f args hc;simp only[hc] at h;split at h
  .rename_i h1 h2;rcases h with ⟨r,a,b,c,d⟩ | ⟨hsy,r,h',a,ro,d⟩
   .exact .inl ⟨r,a,b,c,uj hk d⟩
   .exact .inr ⟨hsy,r,h',a,ro,uj hk d⟩
  .exact h.elim
 .rename_i hc;simp only[hc] at h;exact aK7 hk h
theorem Ns {E:AE} {ops:Array Oper} {K K':ASt->Prop} (hk:∀ Z,K Z->K' Z):∀ (l:List Oper) {Z:ASt},pG E ops l K Z->pG E ops l K' Z
 | [],Z,h=>hk Z h
 | o::l,Z,h=>by
  rw[pG] at h ⊢;split
  .rename_i hg;simp only[hg] at h;exact SX (fun Z hZ=>Ns hk l hZ) h
  .rename_i j want hg;simp only[hg] at h;split
   .rename_i hv;rw[hv] at h;exact uj (fun Z hZ=>Ns hk l hZ) h
   .rename_i b hv;rw[hv] at h;exact ⟨fun e=>SX (fun Z hZ=>Ns hk l hZ) (h.1 e),fun e=>uj (fun Z hZ=>Ns hk l hZ) (h.2 e)⟩
   .rename_i hv;rw[hv] at h;exact h.elim
theorem aMK {E:AE} {ops:Array Oper} {Z:ASt} {K K':ASt->Prop} (hk:∀ Z,K Z->K' Z) (h:SV E ops K Z):SV E ops K' Z:=⟨h.1,Ns hk _ h.2⟩
theorem aIP {m0:Nat} {b:(AX->ASt->Prop)->ASt->Prop} {Q Q':AX->ASt->Prop} (hb:∀ (Q Q':AX->ASt->Prop) (Z:ASt),(∀ e Z,Q e Z->Q' e Z)->b Q Z->b Q' Z) (hq:∀ e Z,Q e Z->Q' e Z):∀ (k:Nat) (Z:ASt),IV m0 b Q k Z->IV m0 b Q' k Z
 | 0,_,h=>h.elim
 | k+1,Z,⟨l,m,h1,h2,h3⟩=>⟨l,m,h1,h2,hb _ _ _ (fun e Z he=>by
  cases e with
  | normal=>exact aIP hb hq k Z he
  | ret=>exact hq _ _ he
  | exit i=>exact hq _ _ he) h3⟩
theorem uM {E:AE} {m0:Nat}:∀ (c:Code) {Q Q':AX->ASt->Prop} {Z:ASt},(∀ e Z,Q e Z->Q' e Z)->cO E m0 c Q Z->cO E m0 c Q' Z
 | .skip,_,_,_,hq,h=>hq _ _ h
 | .label _,_,_,_,hq,h=>hq _ _ h
 | .exit _,_,_,_,hq,h=>hq _ _ h
 | .ret,_,_,_,hq,h=>hq _ _ h
 | .region _ ops draw,_,_,_,hq,h=>by
  rw[cO] at h ⊢;cases draw with
  | false=>simp only[rJ,qV] at h ⊢; exact AQ (fun Z=>hq _ Z) _ h
  | true=>simp only[fD] at h ⊢; exact h.elim (fun h => .inl (aMK (fun Z=>hq _ Z) h)) fun h => .inr (a4X (fun Z=>hq _ Z) _ h)
 | .seq x y,Q,Q',_,hq,h=>by
  rw[cO] at h ⊢;refine uM x (fun e Z he => ?_) h;cases e with
  | normal =>
   obtain ⟨ks,he⟩:=he;rcases he with he | ⟨l,m,a1,a2,he⟩
   .exact ⟨ks,.inl (uM y hq he)⟩
   .exact ⟨ks,.inr ⟨l,m,a1,a2,uM y hq he⟩⟩
  | ret=>exact hq _ _ he
  | exit i=>exact hq _ _ he
 | .cond c x y,_,_,_,hq,h=>by
  rw[cO] at h ⊢;split
  .rename_i b hb;rw[hb] at h;exact ⟨fun e=>uM x hq (h.1 e),fun e=>uM y hq (h.2 e)⟩
  .rename_i hb;split at h
   .rename_i b hb'; exact absurd hb' (hb b)
   .exact h
 | .block id x,_,_,_,hq,h=>by
  rw[cO] at h ⊢;refine uM x (fun e Z he => ?_) h;cases e with
  | normal=>exact hq _ _ he
  | ret=>exact hq _ _ he
  | exit i =>
   simp only[JV] at he ⊢;split
   .rename_i e; rw[aH e] at he; exact hq _ _ he
   .rename_i e; rw[aI e] at he; exact hq _ _ he
 | .loop x,_,_,_,hq,h=>by rw[cO] at h ⊢;obtain ⟨k,hk⟩:=h;exact ⟨k,aIP (b:=cO E m0 x) (fun _ _ _ hq hb=>uM x hq hb) hq k _ hk⟩
 | .scope x,_,_,_,hq,h=>by rw[cO] at h ⊢; exact uM x hq h
 | .rangeFunc ..,_,_,_,_,h=>by rw[cO] at h; exact h.elim
 | .goto _,_,_,_,_,h=>by rw[cO] at h; exact h.elim
 | .refuse _,_,_,_,_,h=>by rw[cO] at h; exact h.elim
theorem a7A {E:AE} {g:FuncId} {args:List PV} {dst:Option Nat} {K:ASt->Prop} {Z:ASt} {r:PV} (h:Ev E.P g args [] r []) (hr:r.flat=true) (ha:PV.flats args=true) (hk:gz E dst r Z K):TF E g args dst K Z := .inl ⟨r,h,hr,ha,hk⟩
section
variable {E:AE} {m0:Nat} {Q:AX->ASt->Prop} {Z:ASt}
end
section
variable {E:AE} {ops:Array Oper} {l:List Oper} {Q:ASt->Prop} {Z:ASt} {o:Oper}
@[simp] theorem bFP : jY E ops [] Q Z = Q Z := rfl
@[simp] theorem bFO : pG E ops [] Q Z = Q Z := rfl
theorem aMM (hc:qi o=none):uK E o Q Z=MI E o Q Z:=by
 unfold qi at hc;unfold uK;split
 .rename_i c hop;simp only[hop] at hc;split
  .rename_i f hf; simp only[hf] at hc; cases hc
  .rfl
 .rfl
end
@[simp] theorem bIA (k : IntKind) (n : Int) : PV.un (.int k n) = .int k n := rfl
@[simp] theorem size_int (k : IntKind) (n : Int) : PV.size (.int k n) = 1 := rfl
@[simp] theorem bGQ (k : IntKind) (n : Int) : PV.isAgg (.int k n) = false := rfl
@[simp] theorem bHP (k : IntKind) (n : Int) : PV.one (.int k n) = true := rfl
@[simp] theorem bHD (k : IntKind) (n : Int) : PV.okE (.int k n) = true := rfl
@[simp] theorem bH1 (k : IntKind) (n : Int) : PV.newCells (.int k n) = some [.int k n] := rfl
@[simp] theorem bFU (m : Nat) (k : IntKind) (n : Int) : PV.blw m (.int k n) = true := by simp [PV.blw]
@[simp] theorem bG8 (k : IntKind) (n : Int) : PV.flat (.int k n) = true := by simp [PV.flat]
@[simp] theorem bI7 (b : Bool) : PV.un (.bool b) = .bool b := rfl
@[simp] theorem size_bool (b : Bool) : PV.size (.bool b) = 1 := rfl
@[simp] theorem bGN (b : Bool) : PV.isAgg (.bool b) = false := rfl
@[simp] theorem bHM (b : Bool) : PV.one (.bool b) = true := rfl
@[simp] theorem bHA (b : Bool) : PV.okE (.bool b) = true := rfl
@[simp] theorem bGZ (b : Bool) : PV.newCells (.bool b) = some [.bool b] := rfl
@[simp] theorem bFR (m : Nat) (b : Bool) : PV.blw m (.bool b) = true := by simp [PV.blw]
@[simp] theorem bG5 (b : Bool) : PV.flat (.bool b) = true := by simp [PV.flat]
@[simp] theorem bIG (s : ByteArray) : PV.un (.str s) = .str s := rfl
@[simp] theorem bI4 (s : ByteArray) : PV.size (.str s) = 1 := rfl
@[simp] theorem bGW (s : ByteArray) : PV.isAgg (.str s) = false := rfl
@[simp] theorem bHV (s : ByteArray) : PV.one (.str s) = true := rfl
@[simp] theorem bHJ (s : ByteArray) : PV.okE (.str s) = true := rfl
@[simp] theorem bH7 (s : ByteArray) : PV.newCells (.str s) = some [.str s] := rfl
@[simp] theorem bF' (m : Nat) (s : ByteArray) : PV.blw m (.str s) = true := by simp [PV.blw]
@[simp] theorem bGE (s : ByteArray) : PV.flat (.str s) = true := by simp [PV.flat]
@[simp] theorem bIB : PV.un (.nilp) = .nilp := rfl
@[simp] theorem bH' : PV.size (.nilp) = 1 := rfl
@[simp] theorem bGR : PV.isAgg (.nilp) = false := rfl
@[simp] theorem bHQ : PV.one (.nilp) = true := rfl
@[simp] theorem bHE : PV.okE (.nilp) = true := rfl
@[simp] theorem bH2 : PV.newCells (.nilp) = some [.nilp] := rfl
@[simp] theorem bFV (m : Nat) : PV.blw m (.nilp) = true := by simp [PV.blw]
@[simp] theorem bG9 : PV.flat (.nilp) = true := by simp [PV.flat]
@[simp] theorem bID (v : Value) : PV.un (.raw v) = .raw v := rfl
@[simp] theorem bI1 (v : Value) : PV.size (.raw v) = 1 := rfl
@[simp] theorem bGT (v : Value) : PV.isAgg (.raw v) = false := rfl
@[simp] theorem bHS (v : Value) : PV.one (.raw v) = true := rfl
@[simp] theorem bHG (v : Value) : PV.okE (.raw v) = true := rfl
@[simp] theorem bH4 (v : Value) : PV.newCells (.raw v) = some [.raw v] := rfl
@[simp] theorem bFX (m : Nat) (v : Value) : PV.blw m (.raw v) = true := by simp [PV.blw]
@[simp] theorem bGB (v : Value) : PV.flat (.raw v) = true := by simp [PV.flat]
@[simp] theorem bIC (i off : Nat) : PV.un (.ptr i off) = .ptr i off := rfl
@[simp] theorem bI0 (i off : Nat) : PV.size (.ptr i off) = 1 := rfl
@[simp] theorem bGS (i off : Nat) : PV.isAgg (.ptr i off) = false := rfl
@[simp] theorem bHR (i off : Nat) : PV.one (.ptr i off) = true := rfl
@[simp] theorem bHF (i off : Nat) : PV.okE (.ptr i off) = false := rfl
@[simp] theorem bH3 (i off : Nat) : PV.newCells (.ptr i off) = some [.ptr i off] := rfl
@[simp] theorem bFW (m : Nat) (i off : Nat) : PV.blw m (.ptr i off) = decide (i < m) := by simp [PV.blw]
@[simp] theorem bGA (i off : Nat) : PV.flat (.ptr i off) = false := by simp [PV.flat]
@[simp] theorem bI8 (e : PV) : PV.un (.cst e) = .cst e := rfl
@[simp] theorem bHY (e : PV) : PV.size (.cst e) = 1 := rfl
@[simp] theorem bGO (e : PV) : PV.isAgg (.cst e) = false := rfl
@[simp] theorem bHN (e : PV) : PV.one (.cst e) = true := rfl
@[simp] theorem bHB (e : PV) : PV.okE (.cst e) = true := rfl
@[simp] theorem bG' (e : PV) : PV.newCells (.cst e) = some [.cst e] := rfl
@[simp] theorem bFS (m : Nat) (e : PV) : PV.blw m (.cst e) = true := by simp [PV.blw]
@[simp] theorem bG6 (e : PV) : PV.flat (.cst e) = true := by simp [PV.flat]
@[simp] theorem bIE (o : Bool) (z : Nat) (es : List PV) : PV.un (.sl o z es) = .sl false z es := rfl
@[simp] theorem bI2 (o : Bool) (z : Nat) (es : List PV) : PV.size (.sl o z es) = 1 := rfl
@[simp] theorem bGU (o : Bool) (z : Nat) (es : List PV) : PV.isAgg (.sl o z es) = false := rfl
@[simp] theorem bHT (o : Bool) (z : Nat) (es : List PV) : PV.one (.sl o z es) = true := rfl
@[simp] theorem bHH (o : Bool) (z : Nat) (es : List PV) : PV.okE (.sl o z es) = true := rfl
@[simp] theorem bH5 (o : Bool) (z : Nat) (es : List PV) : PV.newCells (.sl o z es) = some [.sl false z es] := rfl
@[simp] theorem bFY (m : Nat) (o : Bool) (z : Nat) (es : List PV) : PV.blw m (.sl o z es) = true := by simp [PV.blw]
@[simp] theorem bGC (o : Bool) (z : Nat) (es : List PV) : PV.flat (.sl o z es) = true := by simp [PV.flat]
@[simp] theorem bIF (i off n z : Nat) : PV.un (.slh i off n z) = .slh i off n z := rfl
@[simp] theorem bI3 (i off n z : Nat) : PV.size (.slh i off n z) = 1 := rfl
@[simp] theorem bGV (i off n z : Nat) : PV.isAgg (.slh i off n z) = false := rfl
@[simp] theorem bHU (i off n z : Nat) : PV.one (.slh i off n z) = true := rfl
@[simp] theorem bHI (i off n z : Nat) : PV.okE (.slh i off n z) = false := rfl
@[simp] theorem bH6 (i off n z : Nat) : PV.newCells (.slh i off n z) = some [.slh i off n z] := rfl
@[simp] theorem bFZ (m : Nat) (i off n z : Nat) : PV.blw m (.slh i off n z) = decide (i < m) := by simp [PV.blw]
@[simp] theorem bGD (i off n z : Nat) : PV.flat (.slh i off n z) = false := by simp [PV.flat]
@[simp] theorem bI9 (f : Fn) (a c : List PV) : PV.un (.func f a c) = .func f a c := rfl
@[simp] theorem bHZ (f : Fn) (a c : List PV) : PV.size (.func f a c) = 1 := rfl
@[simp] theorem bGP (f : Fn) (a c : List PV) : PV.isAgg (.func f a c) = false := rfl
@[simp] theorem bHO (f : Fn) (a c : List PV) : PV.one (.func f a c) = true := rfl
@[simp] theorem bHC (f : Fn) (a c : List PV) : PV.okE (.func f a c) = (PV.flats a && PV.flats c) := rfl
@[simp] theorem bH0 (f : Fn) (a c : List PV) : PV.newCells (.func f a c) = some [.func f a c] := rfl
@[simp] theorem bFT (m : Nat) (f : Fn) (a c : List PV) : PV.blw m (.func f a c) = (PV.blws m a && PV.blws m c) := by simp [PV.blw]
@[simp] theorem bG7 (f : Fn) (a c : List PV) : PV.flat (.func f a c) = (PV.flats a && PV.flats c) := by simp [PV.flat]
@[simp] theorem bI6 (cs : List PV) : PV.un (.agg cs) = .agg cs := rfl
@[simp] theorem bHX (cs : List PV) : PV.size (.agg cs) = cs.length := rfl
@[simp] theorem bGM (cs : List PV) : PV.isAgg (.agg cs) = true := rfl
@[simp] theorem bHL (cs : List PV) : PV.one (.agg cs) = false := rfl
@[simp] theorem bH9 (cs : List PV) : PV.okE (.agg cs) = (cs.all PV.one && PV.flats cs) := rfl
@[simp] theorem bGY (cs : List PV) : PV.newCells (.agg cs) = if cs.all PV.one then some (cs.map PV.un) else none := rfl
@[simp] theorem bFQ (m : Nat) (cs : List PV) : PV.blw m (.agg cs) = PV.blws m cs := by simp [PV.blw]
@[simp] theorem flat_agg (cs : List PV) : PV.flat (.agg cs) = PV.flats cs := by simp [PV.flat]
@[simp] theorem bIH (cs : List PV) : PV.un (.tuple cs) = .tuple cs := rfl
@[simp] theorem bI5 (cs : List PV) : PV.size (.tuple cs) = 1 := rfl
@[simp] theorem bGX (cs : List PV) : PV.isAgg (.tuple cs) = false := rfl
@[simp] theorem bHW (cs : List PV) : PV.one (.tuple cs) = false := rfl
@[simp] theorem bHK (cs : List PV) : PV.okE (.tuple cs) = false := rfl
@[simp] theorem bH8 (cs : List PV) : PV.newCells (.tuple cs) = none := rfl
@[simp] theorem bG0 (m : Nat) (cs : List PV) : PV.blw m (.tuple cs) = PV.blws m cs := by simp [PV.blw]
@[simp] theorem bGF (cs : List PV) : PV.flat (.tuple cs) = PV.flats cs := by simp [PV.flat]
@[simp] theorem bG2 (m : Nat) : PV.blws m [] = true := rfl
@[simp] theorem bG1 (m : Nat) (p : PV) (ps : List PV) : PV.blws m (p :: ps) = (p.blw m && PV.blws m ps) := by rw [PV.blws]
@[simp] theorem bGH : PV.flats [] = true := rfl
@[simp] theorem bGG (p : PV) (ps : List PV) : PV.flats (p :: ps) = (p.flat && PV.flats ps) := by rw [PV.flats]
attribute [simp] ASt.rdT Aa JV ASt.keep vg bP ASt.put gz gK jr iM qI pop DI ASt.rd ASt.ev bK CQ Ad Vo kM Value.oneCell' rC ASt.clr bn IR resV lF tJ Qk KP Ls Qj Xr zN yg Wj U0 VT O3 Vf Ve qy iJ yw ASt.gc xZ qi xq dG
mutual
def iQ (f:Nat->Nat):PV->PV
 | .ptr i o => .ptr (f i) o
 | .bf T i => .bf T (f i)
 | .slh i o n z => .slh (f i) o n z
 | .func fn a c => .func fn (jC f a) (jC f c)
 | .agg cs => .agg (jC f cs)
 | .tuple cs => .tuple (jC f cs)
 | .int k n => .int k n
 | .bool b => .bool b
 | .str s => .str s
 | .nilp => .nilp
 | .raw v => .raw v
 | .cst e => .cst e
 | .bg l => .bg l
 | .eH o n z cs => .eH o n z cs
 | .mp l => .mp l
 | .sl o z es => .sl o z es
def jC (f:Nat->Nat):List PV->List PV
 | [] => []
 | p::ps=>iQ f p::jC f ps
end
mutual
def PV.allI (D:Nat->Bool):PV->Bool
 | .ptr i _=>D i
 | .bf _ i=>D i
 | .slh i _ _ _=>D i
 | .func _ a c=>PV.kR D a&&PV.kR D c
 | .agg cs=>PV.kR D cs
 | .tuple cs=>PV.kR D cs
 | _=>true
def PV.kR (D:Nat->Bool):List PV->Bool
 | []=>true
 | p::ps=>p.allI D&&PV.kR D ps
end
def jV (f:Nat->Nat):Option (List PV)->Option (List PV)
 | some cs=>some (jC f cs)
 | none=>none
def oQ:List Nat->Nat->Nat
 | [],_=>0
 | j::l,i=>bif Nat.beq j i then 0 else oQ l i+1
def kW:List Nat->Nat->Bool
 | [],_=>false
 | j::l,i=>Nat.beq j i||kW l i
def nK (ids:List Nat) (n m:Nat):Nat:=match ids[m]? with | some i=>i | none=>n+(m-ids.length)
def lZ:List Nat->aF->aF->aF
 | i::is,o::os,H=>lZ is os (H.set i o)
 | _,_,H=>H
def nodupB:List Nat->Bool
 | []=>true
 | i::l => !(kW l i)&&nodupB l
def mO (H:aF) (i:Nat):Option (List PV):=match H[i]? with | some o=>o | none=>none
def rq (ids:List Nat) (H h':aF):aF:=lZ ids ((h'.take ids.length).map (jV (nK ids H.length))) H ++ (h'.drop ids.length).map (jV (nK ids H.length))
theorem VA {l:List Nat} {i:Nat}:kW l i=true↔i∈l:=by
 induction l with
 | nil=>simp[kW]
 | cons j l ih =>
  rw[kW,ut,ih,fQ];constructor
  .rintro (h | h)
   .exact .inl (kE h).symm
   .exact .inr h
  .rintro (h | h)
   .subst h; exact .inl (by simp)
   .exact .inr h
theorem b9' {l:List Nat} {i:Nat} (h:i∈l):l[oQ l i]? = some i:=by
 induction l with
 | nil=>simp at h
 | cons j l ih =>
  rw[oQ];cases hb:Nat.beq j i with
  | true=>have:=kE hb; subst this; rfl
  | false =>
   have hne:j≠i:=fun e=>by subst e; simp at hb
   show (j::l)[oQ l i+1]? = some i;rw[X3];exact ih (by rcases fQ.1 h with e | e; exact absurd e.symm hne; exact e)
section
variable {M:Mem} {B B':aQ} {w w':World}
mutual
theorem aID {f:Nat->Nat} {D:Nat->Bool} (hf:∀ i c,D i=true->B[i]? = some c->B'[f i]? = some c):∀ p:PV,p.allI D=true->∀ v,(aW M B p).1 v->(aW M B' (iQ f p)).1 v
 | .int _ _,_,v,h=>by simpa only[iQ,aW] using h
 | .bool _,_,v,h=>by simpa only[iQ,aW] using h
 | .str _,_,v,h=>by simpa only[iQ,aW] using h
 | .nilp,_,v,h=>by simpa only[iQ,aW] using h
 | .raw _,_,v,h=>by simpa only[iQ,aW] using h
 | .cst _,_,v,h=>by simpa only[iQ,aW] using h
 | .sl _ _ _,_,v,h=>by simpa only[iQ,aW] using h
 | .bg _,_,v,h=>by simpa only[iQ,aW] using h
 | .eH _ _ _ _,_,v,h=>by simpa only[iQ,aW] using h
 | .mp _,_,v,h=>by simpa only[iQ,aW] using h
 | .ptr i o,hd,v,h=>by simp only[aW,eY] at h;simp only[iQ,aW,eY];obtain ⟨c,hc,e⟩:=h;exact ⟨c,⟨hf i c (by simpa only[PV.allI] using hd) hc.1,hc.2⟩,e⟩
 | .bf T i,hd,v,h=>by simp only[aW,eY] at h;simp only[iQ,aW,eY];obtain ⟨c,hc,e⟩:=h;exact ⟨c,hf i c (by simpa only[PV.allI] using hd) hc,e⟩
 | .slh i o n z,hd,v,h=>by simp only[aW,eY] at h;simp only[iQ,aW,eY];obtain ⟨c,cap,hc,e⟩:=h;exact ⟨c,cap,⟨hf i c (by simpa only[PV.allI] using hd) hc.1,hc.2⟩,e⟩
 | .func fn a c,hd,v,h=>by simp only[PV.allI,aY] at hd;simp only[aW,eY] at h;simp only[iQ,aW,eY];obtain ⟨x,y,e,h1,h2⟩:=h;exact ⟨x,y,e,Lh hf a hd.1 _ h1,Lh hf c hd.2 _ h2⟩
 | .agg cs,hd,v,h=>by simp only[aW] at h;simp only[iQ,aW];obtain ⟨vs,e,h1⟩:=h;exact ⟨vs,e,Lh hf cs (by simpa only[PV.allI] using hd) _ h1⟩
 | .tuple cs,hd,v,h=>by simp only[aW] at h;simp only[iQ,aW];obtain ⟨vs,e,h1⟩:=h;exact ⟨vs,e,Lh hf cs (by simpa only[PV.allI] using hd) _ h1⟩
theorem Lh {f:Nat->Nat} {D:Nat->Bool} (hf:∀ i c,D i=true->B[i]? = some c->B'[f i]? = some c):∀ ps:List PV,PV.kR D ps=true->∀ vs,lQ (gB M B ps) vs->lQ (gB M B' (jC f ps)) vs
 | [],_,vs,h=>by simpa only[jC,gB] using h
 | p::ps,hd,vs,h=>by
  simp only[PV.kR,aY] at hd;cases vs with
  | nil=>simp[gB,lQ] at h
  | cons v vs =>simp only[gB,lQ] at h;simp only[jC,gB,lQ];exact ⟨aID hf p hd.1 v h.1,Lh hf ps hd.2 vs h.2⟩
end
theorem a1Q {f:Nat->Nat} {D:Nat->Bool} (hf:∀ i c,D i=true->B[i]? = some c->B'[f i]? = some c) {p:PV} (hd:p.allI D=true) {v:Value} (h:Rep M B p v):Rep M B' (iQ f p) v:=aID hf p hd v h
theorem bAU {f:Nat->Nat} {D:Nat->Bool} (hf:∀ i c,D i=true->B[i]? = some c->B'[f i]? = some c) {ps:List PV} (hd:PV.kR D ps=true) {vs:List Value} (h:ag M B ps vs):ag M B' (jC f ps) vs:=Lh hf ps hd vs h
mutual
theorem Xj:∀ p:PV,p.allI (fun _=>true)=true
 | .func _ a c=>by simp only[PV.allI,Nl a,Nl c,wF]
 | .agg cs=>by simp only[PV.allI,Nl cs]
 | .tuple cs=>by simp only[PV.allI,Nl cs]
 | .ptr _ _=>rfl
 | .bf _ _=>rfl
 | .slh _ _ _ _=>rfl
 | .int _ _=>rfl
 | .bool _=>rfl
 | .str _=>rfl
 | .nilp=>rfl
 | .raw _=>rfl
 | .cst _=>rfl
 | .sl _ _ _=>rfl
 | .bg _=>rfl
 | .eH _ _ _ _=>rfl
 | .mp _=>rfl
theorem Nl:∀ ps:List PV,PV.kR (fun _=>true) ps=true
 | []=>rfl
 | p::ps=>by simp only[PV.kR,Xj p,Nl ps,wF]
end
theorem bAL (f:Nat->Nat) (p:PV):(iQ f p).own=p.own:=by cases p<;>rfl
theorem Vq (f:Nat->Nat) (p:PV) (v:Value) (b:Nat):bC (iQ f p) v b=bC p v b:=by unfold bC; rw[bAL]
theorem a3C {f:Nat->Nat} {p:PV} {v:Value} (h:Tl M w p v):Tl M w (iQ f p) v:=by cases p<;>first | exact h | exact dn rfl
theorem a1M {f:Nat->Nat}:∀ {ps:List PV} {j:Nat},(jC f ps)[j]? =(ps[j]?).map (iQ f)
 | [],j=>by simp[jC]
 | p::ps,0=>by simp[jC]
 | p::ps,j+1=>by rw[jC,X3,X3]; exact a1M
theorem a1N {f:Nat->Nat}:∀ ps:List PV,(jC f ps).length=ps.length
 | []=>rfl
 | p::ps=>by simp[jC,a1N ps]
theorem aHK {f:Nat->Nat} {b:Nat}:∀ (cs:List PV) (vs:List Value),dA (jC f cs) vs b=dA cs vs b
 | [],_=>by simp[jC,dA]
 | p::ps,[]=>by simp[jC,dA]
 | p::ps,v::vs=>by rw[jC,dA,dA,Vq,aHK ps vs]
theorem QF {f:Nat->Nat} {b:Nat}:∀ (h:aF) (B:aQ),aP w (h.map (jV f)) B b=aP w h B b
 | [],_=>by simp[aP]
 | some cs::h,[]=>by simp[jV,aP]
 | none::h,[]=>by simp[jV,aP]
 | some cs::h,c::B=>by simp only[o8,jV,aP,aHK,QF h B]
 | none::h,c::B=>by simp only[o8,jV,aP,QF h B]
def o1 (w:World) (b:Nat) (o:Option (List PV)) (c:Nat×Nat×TypeId):Nat:=match o with | some cs=>(if c.1=b then 1 else 0)+dA cs (fV w c.1) b | none=>0
theorem D9 (o:Option (List PV)) (h:aF) (c:Nat×Nat×TypeId) (B:aQ) (b:Nat):aP w (o::h) (c::B) b=o1 w b o c+aP w h B b:=by
 cases o with
 | none=>simp only[aP,o1]; omega
 | some cs=>simp only[aP,o1]
theorem aHM {b:Nat} {o:Option (List PV)}:∀ {H:aF} {B:aQ} {i:Nat} {old:Option (List PV)} {c:Nat×Nat×TypeId},H[i]? = some old->B[i]? = some c->aP w (H.set i o) B b+o1 w b old c=aP w H B b+o1 w b o c
 | [],_,_,_,_,h,_=>by simp at h
 | _::_,[],_,_,_,_,h=>by simp at h
 | x::H,d::B,0,old,c,h1,h2=>by simp at h1 h2; subst h1; subst h2;rw[Bl,D9,D9]; omega
 | x::H,d::B,i+1,old,c,h1,h2=>by have:=aHM (b:=b) (o:=o) (H:=H) (B:=B) (i:=i) (by simpa using h1) (by simpa using h2);rw[wI,D9,D9]; omega
theorem a0P {b:Nat}:∀ {h k:aF} {B C:aQ},h.length=B.length->aP w (h ++ k) (B ++ C) b=aP w h B b+aP w k C b
 | [],k,[],C,_=>by simp[aP]
 | o::h,k,c::B,C,e=>by rw[og,og,D9,D9,a0P (by simpa using e)]; omega
 | [],_,_::_,_,e=>by simp at e
 | _::_,_,[],_,e=>by simp at e
theorem IZ:∀ (is:List Nat) (os H:aF),(lZ is os H).length=H.length
 | [],os,H=>by cases os<;>rfl
 | i::is,[],H=>rfl
 | i::is,o::os,H=>by rw[lZ,IZ]; simp
theorem Qb {i:Nat}:∀ {is:List Nat} {os H:aF},i∉is->(lZ is os H)[i]? = H[i]?
 | [],os,H,_=>by cases os<;>rfl
 | j::is,[],H,_=>rfl
 | j::is,o::os,H,h=>by rw[lZ,Qb (fun e=>h (by simp[e])),jd (fun e=>h (by simp[e]))]
theorem aJE:∀ {is:List Nat} {os H:aF} {j i:Nat} {o:Option (List PV)},is.Nodup->is[j]? = some i->os[j]? = some o->i<H.length->(lZ is os H)[i]? = some o
 | [],_,_,_,_,_,_,h,_,_=>by simp at h
 | _::_,[],_,_,_,_,_,_,h,_=>by simp at h
 | k::is,q::os,H,0,i,o,hn,h1,h2,hi=>by simp at h1 h2; subst h1; subst h2;rw[lZ,Qb (List.nodup_cons.1 hn).1,o7 hi]
 | k::is,q::os,H,j+1,i,o,hn,h1,h2,hi=>by rw[lZ]; exact aJE (List.nodup_cons.1 hn).2 (by simpa using h1) (by simpa using h2) (by simpa using hi)
theorem WJ {b:Nat}:∀ {is:List Nat} {os H:aF},is.Nodup->os.length=is.length->(∀ i,i∈is->i<H.length/\i<B.length) ->
 aP w (lZ is os H) B b+aP w (is.map (mO H)) (is.map fun i=>B.getD i (0,0,0)) b=aP w H B b+aP w os (is.map fun i=>B.getD i (0,0,0)) b
 | [],[],H,_,_,_=>by simp[lZ,aP]
 | [],_::_,_,_,h,_=>by simp at h
 | _::_,[],_,_,h,_=>by simp at h
 | i::is,o::os,H,hn,hl,hb=>by
  obtain ⟨hn1,hn2⟩:=List.nodup_cons.1 hn;obtain ⟨b1,b2⟩:=hb i (by simp);have ih:=WJ (b:=b) (is:=is) (os:=os) (H:=H.set i o) hn2 (by simpa using hl) fun j hj=>by simpa using hb j (by simp[hj])
  have e1:is.map (mO (H.set i o))=is.map (mO H):=List.map_congr_left fun j hj=>by unfold mO; rw[jd (fun e=>hn1 (by rw[e]; exact hj))]
  rw[e1] at ih;have hB:B[i]? = some (B.getD i (0,0,0)):=by rw[NE,fJ b2]; rfl
  have hH:H[i]? = some (mO H i):=by unfold mO; rw[fJ b1]
  have e2:=aHM (w:=w) (b:=b) (o:=o) hH hB;rw[lZ,o8,o8,D9,D9];omega
theorem b79 {l:List Nat} (h:nodupB l=true):l.Nodup:=by
 induction l with
 | nil=>exact List.nodup_nil
 | cons i l ih =>simp only[nodupB,aY,tX] at h;refine List.nodup_cons.2 ⟨fun hm => ?_,ih h.2⟩;rw[VA.2 hm] at h; exact absurd h.1 (by simp)
theorem Yr {H:aF} {i:Nat} {cs:List PV}:mO H i=some cs↔H[i]? = some (some cs):=by
 unfold mO;cases h:H[i]? with
 | none=>simp
 | some o=>simp
end
theorem oq.sub {P:Program} {cp:CP} (hm:NR cp) {g:FuncId} {ids:List Nat} {H:aF} {big:List PV} {r:PV} {h':aF}
 (k:oq P cp g (jC (oQ ids) big) ((ids.map (mO H)).map (jV (oQ ids))) r h') (hnd:nodupB ids=true) (hlt:∀ i,i∈ids->i<H.length)
 (hbig:PV.kR (kW ids) big=true) (hcs:∀ i cs,i∈ids->H[i]? = some (some cs)->PV.kR (kW ids) cs=true):oq P cp g big H (iQ (nK ids H.length) r) (rq ids H h'):=by
 have hnd:=b79 hnd;refine ⟨k.1,fun out M B w vals hmem hheap hcnt hnew hv => ?_⟩;have Z4:H.length=B.length:=hheap.1;let Bs:aQ:=ids.map fun i=>B.getD i (0,0,0)
 let Hc:aF:=lZ ids (ids.map fun _=>none) H
 have Z5:∀ i,i∈ids->B[i]? = some (B.getD i (0,0,0)):=fun i hi=>by rw[NE,fJ (by rw[<- Z4]; exact hlt i hi)]; rfl
 have hin:∀ i,i∈ids->i<H.length/\i<B.length:=fun i hi=>⟨hlt i hi,by rw[<- Z4]; exact hlt i hi⟩
 have hpos:∀ i c,kW ids i=true->B[i]? = some c->Bs[oQ ids i]? = some c:=fun i c hi hc=>by have hm:=VA.1 hi;show (ids.map fun i=>B.getD i (0,0,0))[oQ ids i]? = some c;rw[gV,b9' hm,<- hc,Z5 i hm]; rfl
 have hnone:∀ (l:List Nat) (C:aQ) (w:World) b,aP w (l.map fun _=>(none:Option (List PV))) C b=0:=by
  intro l;induction l with
  | nil=>intro C w b; simp[aP]
  | cons i l ih=>intro C w b; cases C with
   | nil=>simp[aP]
   | cons c C=>rw[o8,D9,ih]; simp[o1]
 have hsum:∀ (w:World) (os:aF),os.length=ids.length->∀ b,aP w (lZ ids os H) B b=aP w Hc B b+aP w os Bs b:=fun w os hl b=>by have e1:=WJ (w:=w) (b:=b) (is:=ids) (os:=os) hnd hl hin;have e2:=WJ (w:=w) (b:=b) (is:=ids) (os:=ids.map fun _=>none) hnd (by simp) hin;rw[hnone] at e2;show aP w (lZ ids os H) B b=aP w (lZ ids (ids.map fun _=>none) H) B b+aP w os (ids.map fun i=>B.getD i (0,0,0)) b;omega
 have hs1:∀ b,aP w Hc B b+aP w ((ids.map (mO H)).map (jV (oQ ids))) Bs b=aP w H B b:=fun b=>by have e2:=WJ (w:=w) (b:=b) (is:=ids) (os:=ids.map fun _=>none) hnd (by simp) hin;rw[hnone] at e2;rw[QF];show aP w (lZ ids (ids.map fun _=>none) H) B b+aP w (ids.map (mO H)) (ids.map fun i=>B.getD i (0,0,0)) b=_;omega
 have b2N:nV M Bs w ((ids.map (mO H)).map (jV (oQ ids))):=by
  refine ⟨by simp[Bs],fun j cs' hj => ?_⟩;rw[gV,gV] at hj;cases hi:ids[j]? with
  | none=>simp[hi] at hj
  | some i =>
   have hm:i∈ids:=iV hi;cases ho:mO H i with
   | none=>simp[hi,ho,jV] at hj
   | some cs =>
    simp[hi,ho,jV] at hj; subst hj;have hHi:=Yr.1 ho;obtain ⟨c,hc,vs,ty,h1,h2,h3,h4,h5⟩:=hheap.2 i cs hHi;refine ⟨c,by show (ids.map fun i=>B.getD i (0,0,0))[j]? = some c; rw[gV,hi,<- hc,Z5 i hm]; rfl,vs,ty,h1,h2,by rw[a1N]; exact h3,fun l p hp => ?_,h5⟩;rw[a1M] at hp;cases hq:cs[l]? with
    | none=>simp[hq] at hp
    | some q =>
     simp[hq] at hp; subst hp;obtain ⟨u,a1,a2,a3,a4⟩:=h4 l q hq;have hd:q.allI (kW ids)=true:=by
      have:=hcs i cs hm hHi;have key:∀ (cs:List PV) (l:Nat),PV.kR (kW ids) cs=true->cs[l]? = some q->q.allI (kW ids)=true:=by
       intro cs;induction cs with
       | nil=>intro l _ h; simp at h
       | cons c cs ih =>
        intro l h1 h2;simp only[PV.kR,aY] at h1;cases l with
        | zero=>simp at h2; subst h2; exact h1.1
        | succ l=>exact ih l h1.2 (by simpa using h2)
      exact key cs l this hq
     exact ⟨u,a1,a1Q hpos hd a2,a3C a3,a4⟩
 refine hm (k.2 (fun b=>out b+aP w Hc B b) M Bs w vals hmem b2N (fun b=>by have:=hs1 b; have:=hcnt b; omega) (fun b hb=>by have:=hs1 b; have:=hnew b hb; omega) (bAU hpos hbig hv)) fun e w' he => ?_
 obtain ⟨v,M',uD,rfl,hP⟩:=he;have bGJ:Bs.length=ids.length:=by simp[Bs]
 have Z7:∀ (m:Nat) c,Bs[m]? = some c->uD[m]? = some c:=hP.le.blk;have hl':h'.length=uD.length:=hP.heap.1;have hk:ids.length<=uD.length:=by
  rcases Bo ids.length with h0 | h0
  .omega
  .have:Bs[ids.length-1]? = some Bs[ids.length-1]:=fJ (by omega);have:=(dQ.1 (Z7 _ _ this)).1;omega
 have htake:uD.take ids.length=Bs:=by
  apply J4;intro m;rw[gY];split
  .rename_i hm;have:Bs[m]? = some Bs[m]:=fJ (by omega);rw[this,Z7 _ _ this]
  .rw[rO (by omega)]
 let B':aQ:=B ++ uD.drop ids.length
 have hback:∀ m c,(fun _=>true) m=true->uD[m]? = some c->B'[nK ids H.length m]? = some c:=fun m c _ hc=>by
  unfold nK;rcases je m ids.length with hm | hm
  .have hi:ids[m]? = some ids[m]:=fJ hm;have hmem:ids[m]∈ids:=dD hm;rw[hi];have hb:Bs[m]? = some (B.getD ids[m] (0,0,0)):=by show (ids.map fun i=>B.getD i (0,0,0))[m]? = _; rw[gV,hi]; rfl
   have:=Z7 _ _ hb;rw[hc] at this; injection this with this
   show (B ++ uD.drop ids.length)[ids[m]]? = some c;rw[jM (hin _ hmem).2,Z5 _ hmem,this]
  .rw[rO hm];show (B ++ uD.drop ids.length)[H.length+(m-ids.length)]? = some c;rw[qQ (by omega),Dt,<- hc];congr 1; omega
 have hlt':∀ b,1<=aP w Hc B b->b<w.heap.size/\aP w ((ids.map (mO H)).map (jV (oQ ids))) Bs b=0:=fun b hb=>by
  have h1:=hs1 b;have h2:=hcnt b;refine ⟨?_,by omega⟩;rcases je b w.heap.size with h' | h'
  .exact h'
  .have:=hnew b h'; omega
 have hun:∀ b,1<=aP w Hc B b->w'.heap[b]? = w.heap[b]? /\ ∀ o,M' b o=M b o:=fun b hb=>hP.fr.blk b (hlt' b hb).1 (hlt' b hb).2
 have yz:∀ (i:Nat) cs c,Hc[i]? = some (some cs)->B[i]? = some c->1<=aP w Hc B c.1:=fun i cs c h1 h2=>by have:=jJ (w:=w) c.1 h1 h2;simp only[fD] at this;omega
 have b2D:∀ b,aP w' Hc B b=aP w Hc B b:=fun b=>D8 b fun i cs c h1 h2=>JZ (hun c.1 (yz i cs c h1 h2)).1
 have hle:cu M M' B B':=⟨hP.le.mem,fun i c hc=>by show (B ++ uD.drop ids.length)[i]? = some c;rw[jM (dQ.1 hc).1]; exact hc⟩;have hfin:∀ b,aP w' (rq ids H h') B' b=aP w Hc B b+aP w' h' uD b:=fun b=>by
  show aP w' (lZ ids ((h'.take ids.length).map (jV (nK ids H.length))) H ++ (h'.drop ids.length).map (jV (nK ids H.length))) (B ++ uD.drop ids.length) b=_;rw[a0P (by rw[IZ]; exact Z4),hsum w' _ (by simp; omega),QF,QF,b2D];have:aP w' h' uD b=aP w' (h'.take ids.length) Bs b+aP w' (h'.drop ids.length) (uD.drop ids.length) b:=by
   rw[<- htake];conv=>lhs; rw[<- J6 ids.length h',<- J6 ids.length uD]
   rw[a0P (by simp; omega)]
  omega
 refine ⟨v,M',B',rfl,hP.mem,hle,hP.fr.mono fun b hb h0=>by have:=hs1 b; omega,⟨?_,fun i cs hi => ?_⟩,a1Q hback (Xj r) hP.rep,a3C hP.tl,fun b hb => ?_,fun b => ?_,fun b hb => ?_⟩
 .show (lZ ids _ H ++ (h'.drop ids.length).map _).length=(B ++ uD.drop ids.length).length;simp only[aK,IZ,bW,qR]; omega
 .have key:∀ (m:Nat) (cs0:List PV),h'[m]? = some (some cs0)->cs=jC (nK ids H.length) cs0->i=nK ids H.length m->∃ c,B'[i]? = some c/\XW M' B' w' cs c:=fun m cs0 hm e1 e2=>by
   obtain ⟨c,hc,vs,ty,h1,h2,h3,h4,h5⟩:=hP.heap.2 m cs0 hm;refine ⟨c,by rw[e2]; exact hback m c rfl hc,vs,ty,h1,h2,by rw[e1,a1N]; exact h3,fun l p hp => ?_,h5⟩;rw[e1,a1M] at hp;cases hq:cs0[l]? with
   | none=>simp[hq] at hp
   | some q =>simp[hq] at hp; subst hp;obtain ⟨u,a1,a2,a3,a4⟩:=h4 l q hq;exact ⟨u,a1,a1Q hback (Xj q) a2,a3C a3,a4⟩
  have hi0:(lZ ids ((h'.take ids.length).map (jV (nK ids H.length))) H ++ (h'.drop ids.length).map (jV (nK ids H.length)))[i]? = some (some cs):=hi;rcases je i H.length with hlt1 | hge
  .rw[jM (by rw[IZ]; exact hlt1)] at hi0;by_cases hm:i∈ids
   .obtain ⟨j,hj⟩:=wH.1 hm;have hjl:=(dQ.1 hj).1;have ho:((h'.take ids.length).map (jV (nK ids H.length)))[j]? = some (jV (nK ids H.length) h'[j]):=by rw[gV,gY,aH hjl,fJ (by omega)]; rfl
    rw[aJE hnd hj ho hlt1] at hi0;injection hi0 with hi0
    cases hx:h'[j] with
    | none=>rw[hx] at hi0; cases hi0
    | some cs0 =>
     rw[hx] at hi0;simp only[jV] at hi0;injection hi0 with hi0
     exact key j cs0 (by rw[fJ (by omega),hx]) hi0.symm (by unfold nK; rw[hj])
   .rw[Qb hm] at hi0;obtain ⟨c,hc,vs,ty,h1,h2,h3,h4,h5⟩:=hheap.2 i cs hi0;have aDH:Hc[i]? = some (some cs):=by show (lZ ids _ H)[i]? = _; rw[Qb hm]; exact hi0
    have hcb:=hun c.1 (yz i cs c aDH hc);refine ⟨c,hle.blk _ _ hc,vs,ty,by rw[IW hcb.1,h1],h2,h3,fun j p hj => ?_,fun o=>by rw[hcb.2]; exact h5 o⟩;obtain ⟨u,a1,a2,a3,a4⟩:=h4 j p hj;refine ⟨u,a1,a2.mono hle,a3.kept fun b ho=>hun b ?_,a4⟩;have e1:=jJ (w:=w) b aDH hc;have e2:=ug b hj (by rw[mD h1]; simpa using a1:(fV w c.1)[j]? = some u);omega
  .rw[qQ (by rw[IZ]; exact hge),IZ,gV,Dt] at hi0;cases hx:h'[ids.length+(i-H.length)]? with
   | none=>simp[hx] at hi0
   | some o =>
    cases o with
    | none=>simp[hx,jV] at hi0
    | some cs0 =>simp[hx,jV] at hi0;exact key _ cs0 hx hi0.symm (by unfold nK; rw[rO (by omega)]; simp; omega)
 .have h1:=hP.own b hb; rw[Vq,hfin]; have:=hs1 b; omega
 .have h1:=hP.cnt b; rw[Vq,hfin]; omega
 .have h1:=hP.new b hb; rw[Vq,hfin]; omega
theorem Ev.sub {P:Program} {g:FuncId} {ids:List Nat} {H:aF} {big:List PV} {r:PV} {h':aF}
 (k:Ev P g (jC (oQ ids) big) ((ids.map (mO H)).map (jV (oQ ids))) r h') (hnd:nodupB ids=true) (hlt:∀ i,i∈ids->i<H.length)
 (hbig:PV.kR (kW ids) big=true) (hcs:∀ i cs,i∈ids->H[i]? = some (some cs)->PV.kR (kW ids) cs=true):Ev P g big H (iQ (nK ids H.length) r) (rq ids H h') :=
 oq.sub (Xx P) k hnd hlt hbig hcs
mutual
def PV.qp:PV->Bool
 | .int _ _=>true
 | .bool _=>true
 | .str _=>true
 | .nilp=>true
 | .raw _=>true
 | .agg cs=>QA cs
 | .tuple cs=>QA cs
 | _=>false
def QA:List PV->Bool
 | []=>true
 | p::ps=>p.qp&&QA ps
end
mutual
theorem Ld {M M':Mem} {B B':aQ}:∀ (p:PV) {v:Value},p.qp=true->Rep M B p v->Rep M' B' p v
 | .int _ _,_,_,h=>dF.2 (dF.1 h)
 | .bool _,_,_,h=>iZ.2 (iZ.1 h)
 | .str _,_,_,h=>gJ.2 (gJ.1 h)
 | .nilp,_,_,h=>DR.2 (DR.1 h)
 | .raw _,_,_,h=>zT.2 (zT.1 h)
 | .agg cs,_,hn,h=>by obtain ⟨vs,hv,hr⟩:=mX.1 h;exact mX.2 ⟨vs,hv,a1R cs hn hr⟩
 | .tuple cs,_,hn,h=>by obtain ⟨vs,hv,hr⟩:=pW.1 h;exact pW.2 ⟨vs,hv,a1R cs hn hr⟩
 | .ptr _ _,_,hn,_=>by simp[PV.qp] at hn
 | .bf _ _,_,hn,_=>by simp[PV.qp] at hn
 | .cst _,_,hn,_=>by simp[PV.qp] at hn
 | .sl _ _ _,_,hn,_=>by simp[PV.qp] at hn
 | .slh _ _ _ _,_,hn,_=>by simp[PV.qp] at hn
 | .func _ _ _,_,hn,_=>by simp[PV.qp] at hn
theorem a1R {M M':Mem} {B B':aQ}:∀ (ps:List PV) {vs:List Value},QA ps=true->ag M B ps vs->ag M' B' ps vs
 | [],_,_,h=>by rw[dC] at h ⊢; exact h
 | p::ps,_,hn,h=>by simp only[QA,aY] at hn;obtain ⟨u,us,rfl,h1,h2⟩:=bY.1 h;exact bY.2 ⟨u,us,rfl,Ld p hn.1 h1,a1R ps hn.2 h2⟩
end
theorem F6 {p:PV} (h:p.qp=true):p.own=false:=by cases p<;>first | rfl | (simp[PV.qp] at h)
def qJ (p:PV):Bool:=p.one&&p.qp
theorem Lc {p:PV} (h:qJ p=true):p.isAgg=false/\(∀ ds,p ≠ .tuple ds)/\p.qp=true/\p.size=1:=by unfold qJ at h;simp only[aY] at h;obtain ⟨h1,h2⟩:=h;cases p<;>first | (simp[PV.one] at h1; done) | exact ⟨rfl,(fun ds h=>by cases h),h2,rfl⟩
def Cj (h:aF) (p:PV):PV:=match p with
 | .slh i 0 n 1=>(match h[i]? with | some (some cs) => .sl false 1 (cs.take n) | _=>p)
 | .slh i 0 n sz=>(match h[i]? with | some (some cs) => .sl false sz (kT sz cs n) | _=>p)
 | _=>p
def a01 (h:aF) (p:PV):Bool:=match p with
 | .slh i 0 n 1=>(match h[i]? with | some (some cs)=>decide (n<=cs.length)&&cs.all qJ | _=>false)
 | .slh i 0 n sz=>(match h[i]? with | some (some cs)=>decide (n*sz<=cs.length)&&decide (0<sz)&&cs.all qJ | _=>false)
 | p=>p.flat
def VU (h:aF):List PV->List PV
 | [] => []
 | p::ps=>Cj h p::VU h ps
def Pj (h:aF):List PV->Bool
 | []=>true
 | p::ps=>a01 h p&&Pj h ps
section
variable {M:Mem} {B:aQ} {w:World} {h:aF}
def Hz (h:aF) (B:aQ) (b:Nat):Prop:=∃ (i:Nat) (cs:List PV) (c:Nat×Nat×TypeId),h[i]? = some (some cs)/\(B[i]? = some c/\c.2.2≠0)/\c.1=b/\cs.all qJ=true
open Classical in
def zC (M:Mem) (h:aF) (B:aQ) (w:World):Mem:=xx M.m fun b o=>if ∃ (i:Nat) (cs:List PV) (c:Nat×Nat×TypeId),h[i]? = some (some cs)/\(B[i]? = some c/\c.2.2≠0)/\c.1=b/\cs.all qJ=true/\o<cs.length then w.cell? ⟨b,o,none⟩ else M b o
theorem VW (hh:nV M B w h) {i:Nat} {cs:List PV} {c:Nat×Nat×TypeId} (hi:h[i]? = some (some cs)) (hc:B[i]? = some c/\c.2.2≠0) (o:Nat):M c.1 o=none:=by obtain ⟨c',hc',_,_,_,_,_,_,h5⟩:=hh.2 i cs hi;rw[hc.1] at hc'; cases hc'; exact h5 o
theorem a02 (hh:nV M B w h) {i:Nat} {cs:List PV} {c:Nat×Nat×TypeId} (hi:h[i]? = some (some cs)) (hc:B[i]? = some c/\c.2.2≠0) {o:Nat} {p:PV} (ho:cs[o]? = some p):∃ v,w.cell? ⟨c.1,o,none⟩=some v/\Rep M B p v/\v.oneCell'=true:=by obtain ⟨c',hc',vs,ty,r1,h2,h3,h4,h5⟩:=hh.2 i cs hi;rw[hc.1] at hc'; cases hc';obtain ⟨ty,rfl,h1⟩:=BP r1 (by rw[h2.2]; exact hc.2);obtain ⟨v,hv,hr,_,h1'⟩:=h4 o p ho;exact ⟨v,by simp[World.cell?,h1,hv],hr,h1'⟩
open Classical in
theorem Pm (hh:nV M B w h) (b o:Nat):zC M h B w b o=if ∃ (i:Nat) (cs:List PV) (c:Nat×Nat×TypeId),h[i]? = some (some cs)/\(B[i]? = some c/\c.2.2≠0)/\c.1=b/\cs.all qJ=true/\o<cs.length then w.cell? ⟨b,o,none⟩ else M b o:=by
 unfold zC;refine zM (fun b o v e => ?_) b o;split
 .rename_i hx;obtain ⟨i,cs,c,h1,h2,rfl,_⟩:=hx;have:=M.g _ _ _ e;rw[VW hh h1 h2] at this; cases this
 .exact M.g _ _ _ e
theorem b5R (hh:nV M B w h):cu M (zC M h B w) B B:=⟨fun b o v e=>by
 rw[Pm hh];split
 .rename_i hx;obtain ⟨i,cs,c,h1,h2,rfl,_⟩:=hx;rw[VW hh h1 h2] at e; cases e
 .exact e,fun _ _ e=>e⟩
theorem b5S (hm:sV M w) (hh:nV M B w h):sV (zC M h B w) w:=fun b o v e=>by
 rw[Pm hh] at e;split at e
 .rename_i hx;obtain ⟨i,cs,c,h1,h2,rfl,_,ho⟩:=hx;obtain ⟨v',q1,_,q3⟩:=a02 hh h1 h2 (fJ ho);rw[q1] at e; cases e;exact ⟨q1,q3⟩
 .exact hm b o v e
theorem b5Q (hh:nV M B w h) {p:PV} {v:Value} (hr:Rep M B p v) (hc:a01 h p=true):Rep (zC M h B w) [] (Cj h p) v:=by
 have b2K:p.flat=true->Cj h p=p->Rep (zC M h B w) [] (Cj h p) v:=fun h1 h2=>by rw[h2]; exact Rep.flat [] h1 (hr.mono (b5R hh))
 unfold a01 at hc;split at hc
 .rename_i i n;split at hc
  .rename_i cs hi;simp only[aY,gu] at hc;obtain ⟨hn,hp⟩:=hc;have e:Cj h (.slh i 0 n 1) = .sl false 1 (cs.take n):=by simp only[Cj,hi]
   rw[e];obtain ⟨c,cap,hB,hv,hle,hcap⟩:=pV.1 hr;have hpl:=fun p hp'=>Lc (fH.1 hp p hp')
   refine iF.2 ⟨some ⟨c.1,0,none⟩,cap,by rw[hv,kz,RZ hn],by rw[kz]; omega,fun e he=>(hpl e (NG he)).2.2.2,(fun h=>by cases h),fun _=>⟨c.1,0,rfl,wo fun j p hj => ?_⟩⟩;rw[gY] at hj;split at hj
   .have hjl:=(dQ.1 hj).1;obtain ⟨a1,a2,a3,a4⟩:=hpl p (iV hj);obtain ⟨u,q1,q2,_⟩:=a02 hh hi hB hj;rw[sS a1 a2];refine ⟨u,?_,Ld p a3 q2⟩;rw[Pm hh,aH ⟨i,cs,c,hi,hB,rfl,hp,by omega⟩,show 0+j*1=j by omega]; exact q1
   .cases hj
  .cases hc
 .rename_i i n sz hne1;split at hc
  .rename_i cs hi;simp only[aY,gu] at hc;obtain ⟨⟨hn,h0⟩,hp⟩:=hc;have e:Cj h (.slh i 0 n sz) = .sl false sz (kT sz cs n):=by
    unfold Cj;split
    .rename_i e; injection e with _ _ _ e; subst e; first | exact absurd rfl (hne1 i n) | exact (hne1 rfl).elim
    .rename_i e1; injection e1 with e1 _ e2 e3; subst e1; subst e2; subst e3; rw[hi]
    .rename_i h1 h2; first | exact absurd rfl (h2 i n sz) | exact (h2 _ _ _ rfl).elim
   rw[e];obtain ⟨c,cap,hB,hv,hle,hcap⟩:=pV.1 hr;have hpl:=fun p hp'=>Lc (fH.1 hp p hp')
   obtain ⟨k1,k2,k3⟩:=TM h0 hn fun p hp'=>by have:=fH.1 hp p hp';unfold qJ at this; simp only[aY] at this; exact this.1
   refine iF.2 ⟨some ⟨c.1,0,none⟩,cap,by rw[hv,k1],by rw[k1]; exact hle,k2,(fun h=>by omega),fun _=>⟨c.1,0,rfl,k3 _ c.1 fun j p hj hlt => ?_⟩⟩;have hjl:=(dQ.1 hj).1;obtain ⟨a1,a2,a3,a4⟩:=hpl p (iV hj);obtain ⟨u,q1,q2,_⟩:=a02 hh hi hB hj;rw[sS a1 a2];refine ⟨u,?_,Ld p a3 q2⟩;rw[Pm hh,aH ⟨i,cs,c,hi,hB,rfl,hp,hjl⟩]; exact q1
  .cases hc
 .rename_i hne1 hne2;refine b2K hc ?_;unfold Cj;split
  .rename_i i n; exact absurd rfl (hne1 i n)
  .rename_i i n sz _; exact absurd rfl (hne2 i n sz)
  .rfl
theorem aFW (hh:nV M B w h):∀ {ps:List PV} {vs:List Value},ag M B ps vs->Pj h ps=true->ag (zC M h B w) [] (VU h ps) vs
 | [],_,hr,_=>by rw[dC] at hr; subst hr; exact dC.2 rfl
 | p::ps,_,hr,hc=>by obtain ⟨u,us,rfl,h1,h2⟩:=bY.1 hr;simp only[Pj,aY] at hc;exact bY.2 ⟨u,us,rfl,b5Q hh h1 hc.1,aFW hh h2 hc.2⟩
end
theorem Ev.b5P {P:Program} {g:FuncId} {args:List PV} {r:PV} {h:aF} (h0:Ev P g (VU h args) [] r []) (hr:r.qp=true) (hc:Pj h args=true):Ev P g args h r h:=by
 classical
 refine ⟨h0.1,fun out M B w vals hmem hheap hcnt hnew hv => ?_⟩;have hz:∀ w b,aP w [] [] b=0:=fun w b=>by simp[aP]
 refine (h0.2 (fun b=>out b+aP w h B b) (zC M h B w) [] w vals (b5S hmem hheap) ⟨rfl,fun i cs hi=>by simp at hi⟩ (fun b=>by rw[hz]; have:=hcnt b; omega) (fun b hb=>by rw[hz]; have:=hnew b hb; omega) (aFW hheap hv hc)).mono fun e w' he => ?_
 obtain ⟨v,M1,B1,rfl,hP⟩:=he;have hB1:B1 = []:=iU (by have:=hP.heap.1; simpa using this.symm);subst hB1;have yz:∀ (i:Nat) cs c,h[i]? = some (some cs)->B[i]? = some c->1<=aP w h B c.1:=fun i cs c h1 h2=>by have:=jJ (w:=w) c.1 h1 h2;simp only[fD] at this;omega
 have hlt:∀ b,1<=aP w h B b->b<w.heap.size:=fun b hb=>by
  rcases je b w.heap.size with h' | h'
  .exact h'
  .have:=hnew b h'; omega
 have hun:∀ b,b<w.heap.size->w'.heap[b]? = w.heap[b]? /\ ∀ o,M1 b o=zC M h B w b o:=fun b hb=>hP.fr.blk b hb (hz w b)
 obtain ⟨M',hM'⟩:∃ M':Mem,∀ b o,M' b o=if Hz h B b then none else M1 b o:=⟨xx _ _,zM fun b o v e=>by rw[aI (fun ⟨i,cs,c,h1,h2,h3,_⟩=>by subst h3; have:=M.g _ _ _ e; rw[VW hheap h1 h2] at this; cases this)]; exact hP.le.mem _ _ _ ((zC M h B w).g _ _ _ e)⟩
 have hL:∀ b o,Hz h B b->M' b o=none:=fun b o hl=>by rw[hM']; simp only[aH hl]
 have hN:∀ b o,¬ Hz h B b->M' b o=M1 b o:=fun b o hl=>by rw[hM']; simp only[aI hl]
 have hLn:∀ b o,Hz h B b->M b o=none:=fun b o ⟨i,cs,c,h1,h2,h3,_⟩=>by subst h3; exact VW hheap h1 h2 o
 have hNM:∀ b o,¬ Hz h B b->zC M h B w b o=M b o:=fun b o hl=>by rw[Pm hheap,aI (fun ⟨i,cs,c,h1,h2,h3,h4,_⟩=>hl ⟨i,cs,c,h1,h2,h3,h4⟩)]
 have heq:∀ b o,b<w.heap.size->M' b o=M b o:=fun b o hb=>by
  by_cases hl:Hz h B b
  .rw[hL b o hl,hLn b o hl]
  .rw[hN b o hl,(hun b hb).2,hNM b o hl]
 have hle:cu M M' B B:=⟨fun b o v e=>by have:=rQ _ _ (hmem b o v e).1;rw[heq b o this]; exact e,fun _ _ h=>h⟩;have hfp:∀ b,aP w' h B b=aP w h B b:=fun b=>D8 b fun i cs c h1 h2=>JZ (hun c.1 (hlt _ (yz i cs c h1 h2))).1
 refine ⟨v,M',B,rfl,fun b o u e => ?_,hle,⟨hP.fr.os,hP.fr.tape,hP.fr.output,hP.fr.size,fun b hb _=>⟨(hun b hb).1,fun o=>heq b o hb⟩⟩,⟨hheap.1,fun i cs hi => ?_⟩,Ld r hr hP.rep,dn (F6 hr),fun b _ => ?_,fun b => ?_,fun b hb => ?_⟩
 .by_cases hl:Hz h B b
  .rw[hL b o hl] at e; cases e
  .rw[hN b o hl] at e; exact hP.mem b o u e
 .obtain ⟨c,hc',vs,ty,h1,h2,h3,h4,h5⟩:=hheap.2 i cs hi;have hcl:=hlt _ (yz i cs c hi hc');refine ⟨c,hc',vs,ty,by rw[IW (hun c.1 hcl).1,h1],h2,h3,fun j p hj => ?_,fun o=>by rw[heq c.1 o hcl]; exact h5 o⟩;obtain ⟨u,hu,hur,hT,hone⟩:=h4 j p hj;refine ⟨u,hu,hur.mono hle,hT.kept fun b ho => ?_,hone⟩;have e1:=jJ (w:=w) b hi hc';have e2:=ug b hj (by rw[mD h1]; simpa using hu:(fV w c.1)[j]? = some u);have hbl:=hlt b (by omega);exact ⟨(hun b hbl).1,fun o=>heq b o hbl⟩
 .rw[bu (F6 hr),hfp]; omega
 .rw[bu (F6 hr),hfp]; have:=hcnt b; omega
 .rw[bu (F6 hr),hfp]; have:=hnew b (iC hP.fr.size hb); omega
theorem Ev.bDI {P:Program} {g:FuncId} {args:List PV} {es:List PV} (h0:Ev P g args [] (.sl true 1 es) []) (hpos:0<es.length) (hpl:es.all qJ=true):Ev P g args [] (.slh 0 0 es.length 1) [some es]:=by
 refine ⟨h0.1,fun out M B w vals hmem hheap hcnt hnew hv => ?_⟩;have hz:∀ w b,aP w [] B b=0:=fun w b=>by simp[aP]
 refine (h0.2 out M B w vals hmem hheap hcnt hnew hv).mono fun e w' he => ?_
 obtain ⟨v,M1,B1,rfl,hP⟩:=he;have hB1:B1 = []:=iU (by have:=hP.heap.1; simpa using this.symm);have hB0:B = []:=iU (by have:=hheap.1; simpa using this.symm);subst hB1;subst hB0;have hz':∀ w b,aP w [] [] b=0:=fun w b=>by simp[aP]
 obtain ⟨A,cap,hv1,hle,hs,_,hA⟩:=iF.1 hP.rep;obtain ⟨b,off,rfl,hL⟩:=hA (fun e=>by rw[e] at hpos; simp at hpos);obtain ⟨_,_,ht⟩:=hP.tl.s 1 es _ _ _ rfl hv1;obtain ⟨cs,ty,t1,t2,t3,_,t4⟩:=ht _ rfl;simp only at t1 t2 t3 t4;subst t4;have hown:∀ b',bC (.sl true 1 es) v b'=if b=b' then 1 else 0:=fun b'=>by rw[hv1]; simp[bC,PV.own]
 have hnb:w.heap.size<=b:=by
  rcases je b w.heap.size with h | h
  .have:=hP.own b h;rw[hz',hz',hown,aH rfl] at this;omega
  .exact h
 have hpl':=fun p hp=>Lc (fH.1 hpl p hp)
 have hown0:∀ (vs:List Value) b',dA es vs b'=0:=by
  intro vs b';have:∀ (l:List PV) (vs:List Value),(∀ p,p∈l->p.own=false)->dA l vs b'=0:=by
   intro l;induction l with
   | nil=>intro vs _; cases vs<;>rfl
   | cons p l ih =>
    intro vs hl;cases vs with
    | nil=>rfl
    | cons u vs=>rw[dA,bu (hl p (by simp)),ih vs fun q hq=>hl q (by simp[hq])]
  exact this es vs fun p hp=>F6 (hpl' p hp).2.2.1
 have hH:∀ b',aP w' [some es] [(b,cs.size,ty+1)] b'=if b=b' then 1 else 0:=fun b'=>by simp only[aP,hown0]; omega
 obtain ⟨M2,hM2⟩:∃ M2:Mem,∀ b' o,M2 b' o=if b'=b then none else M1 b' o:=⟨xx _ _,zM fun b' o u e=>by have:=rQ _ _ (hmem b' o u (M.g _ _ _ e)).1;simp only at this;rw[aI (by omega)]; exact hP.le.mem _ _ _ (M.g _ _ _ e)⟩
 refine ⟨v,M2,[(b,cs.size,ty+1)],rfl,fun b' o u e => ?_,⟨fun b' o u e => ?_,fun i c e=>by simp at e⟩,⟨hP.fr.os,hP.fr.tape,hP.fr.output,hP.fr.size,fun b' hb' _ => ?_⟩,⟨rfl,fun i cs' hi => ?_⟩,pV.2 ⟨(b,cs.size,ty+1),cap,⟨rfl,by simp⟩,hv1,hle,by simpa using t2⟩,dn rfl,fun b' hb' => ?_,fun b' => ?_,fun b' hb' => ?_⟩
 .rw[hM2] at e;split at e
  .cases e
  .exact hP.mem b' o u e
 .have:=rQ _ _ (hmem b' o u e).1;simp only at this;rw[hM2,aI (by omega)]; exact hP.le.mem b' o u e
 .have h1:=hP.fr.blk b' hb' (hz' w b');exact ⟨h1.1,fun o=>by rw[hM2,aI (by omega)]; exact h1.2 o⟩
 .cases i with
  | succ i=>simp at hi
  | zero =>simp at hi;subst hi;refine ⟨(b,cs.size,ty+1),rfl,cs,ty+1,zV t1,⟨rfl,rfl⟩,by omega,fun j p hj => ?_,fun o=>by rw[hM2,aH rfl]⟩;obtain ⟨a1,a2,a3,a4⟩:=hpl' p (iV hj);obtain ⟨u,hu,hr⟩:=(sS a1 a2).1 (BC hL hj);have hc:=(hP.mem _ _ _ hu);refine ⟨u,?_,Ld p a3 hr,dn (F6 a3),hc.2⟩;have:=hc.1;simpa[World.cell?,t1] using this
 .rw[hH,hz',aI (by omega),bu rfl]; omega
 .have:=hP.cnt b';rw[hz',hown] at this;rw[hH,bu rfl]; omega
 .have:=hP.new b' hb';rw[hz',hown] at this;rw[hH,bu rfl]; omega
def vY (sz:Nat) (e:PV):Bool:=match e with
 | .agg ds=>Nat.beq ds.length sz&&ds.all qJ
 | _=>false
theorem a8X {sz:Nat}:∀ {es:List PV},es.all (vY sz)=true->(dG es).length=es.length*sz
 | [],_=>by simp[dG]
 | e::es,h=>by
  simp only[rM,aY] at h;cases e with
  | agg ds =>have:=kE (by have:=h.1; simp only[vY,aY] at this; exact this.1);rw[dG,aK,a8X h.2,bW,this,aU,Bq]; omega
  | _=>simp[vY] at h
theorem YP {sz:Nat}:∀ {es:List PV},es.all (vY sz)=true->(dG es).all qJ=true
 | [],_=>rfl
 | e::es,h=>by
  simp only[rM,aY] at h;cases e with
  | agg ds =>
   have h1:=h.1;simp only[vY,aY] at h1;rw[dG,List.all_append,YP h.2,Bool.and_true,List.all_map];refine fH.2 fun p hp => ?_
   have:=fH.1 h1.2 p hp;obtain ⟨a1,a2,a3,a4⟩:=Lc this;show qJ p.un=true;cases p<;>first | exact this | (simp[PV.qp] at a3; done)
  | _=>simp[vY] at h
theorem aG6 {M:Mem} {B:aQ} {sz b:Nat}:∀ {es:List PV} {o:Nat},ig M B sz es b o->es.all (vY sz)=true->∀ {q:Nat} {p:PV},(dG es)[q]? = some p->∃ u,M b (o+q)=some u/\Rep M B p u
 | [],_,_,_,q,p,h=>by simp[dG] at h
 | e::es,o,hl,ha,q,p,h=>by
  simp only[rM,aY] at ha;obtain ⟨h1,h2⟩:=Et.1 hl;cases e with
  | agg ds =>
   have hp:=ha.1;simp only[vY,aY] at hp;have hd:=kE hp.1;rw[dG] at h;rcases je q ds.length with hq | hq
   .rw[jM (by simpa using hq),gV] at h;cases hx:ds[q]? with
    | none=>simp[hx] at h
    | some x =>
     rw[hx] at h; injection h with h; subst h
     obtain ⟨u,hu,hr⟩:=Ja (vX.1 h1) hx;exact ⟨u,hu,lM.2 hr⟩
   .rw[qQ (by simpa using hq)] at h;simp only[bW] at h;obtain ⟨u,hu,hr⟩:=aG6 h2 ha.2 h;exact ⟨u,by rw[<- hu]; congr 1; omega,hr⟩
  | _=>have:=ha.1; simp[vY] at this
theorem Ev.bDK {P:Program} {g:FuncId} {args:List PV} {sz:Nat} {es:List PV} (h0:Ev P g args [] (.sl true sz es) []) (hpos:0<es.length) (hpl:es.all (vY sz)=true):Ev P g args [] (.slh 0 0 es.length sz) [some (dG es)]:=by
 refine ⟨h0.1,fun out M B w vals hmem hheap hcnt hnew hv => ?_⟩;have hz:∀ w b,aP w [] B b=0:=fun w b=>by simp[aP]
 refine (h0.2 out M B w vals hmem hheap hcnt hnew hv).mono fun e w' he => ?_
 obtain ⟨v,M1,B1,rfl,hP⟩:=he;have hB1:B1 = []:=iU (by have:=hP.heap.1; simpa using this.symm);have hB0:B = []:=iU (by have:=hheap.1; simpa using this.symm);subst hB1;subst hB0;have hz':∀ w b,aP w [] [] b=0:=fun w b=>by simp[aP]
 obtain ⟨A,cap,hv1,hle,hs,_,hA⟩:=iF.1 hP.rep;obtain ⟨b,off,rfl,hL⟩:=hA (fun e=>by rw[e] at hpos; simp at hpos);obtain ⟨_,_,ht⟩:=hP.tl.s sz es _ _ _ rfl hv1;obtain ⟨cs,ty,t1,t2,t3,_,t4⟩:=ht _ rfl;simp only at t1 t2 t3 t4;subst t4;have hown:∀ b',bC (.sl true sz es) v b'=if b=b' then 1 else 0:=fun b'=>by rw[hv1]; simp[bC,PV.own]
 have hnb:w.heap.size<=b:=by
  rcases je b w.heap.size with h | h
  .have:=hP.own b h;rw[hz',hz',hown,aH rfl] at this;omega
  .exact h
 have hfl:=a8X hpl;have hpl':=fun p hp=>Lc (fH.1 (YP hpl) p hp)
 have hown0:∀ (vs:List Value) b',dA (dG es) vs b'=0:=by
  intro vs b';have:∀ (l:List PV) (vs:List Value),(∀ p,p∈l->p.own=false)->dA l vs b'=0:=by
   intro l;induction l with
   | nil=>intro vs _; cases vs<;>rfl
   | cons p l ih =>
    intro vs hl;cases vs with
    | nil=>rfl
    | cons u vs=>rw[dA,bu (hl p (by simp)),ih vs fun q hq=>hl q (by simp[hq])]
  exact this _ vs fun p hp=>F6 (hpl' p hp).2.2.1
 have hH:∀ b',aP w' [some (dG es)] [(b,cs.size,ty+1)] b'=if b=b' then 1 else 0:=fun b'=>by simp only[aP,hown0]; omega
 have hcap:es.length*sz<=cs.size:=iC (qU _ hle) (by omega);obtain ⟨M2,hM2⟩:∃ M2:Mem,∀ b' o,M2 b' o=if b'=b then none else M1 b' o:=⟨xx _ _,zM fun b' o u e=>by have:=rQ _ _ (hmem b' o u (M.g _ _ _ e)).1;simp only at this;rw[aI (by omega)]; exact hP.le.mem _ _ _ (M.g _ _ _ e)⟩
 refine ⟨v,M2,[(b,cs.size,ty+1)],rfl,fun b' o u e => ?_,⟨fun b' o u e => ?_,fun i c e=>by simp at e⟩,⟨hP.fr.os,hP.fr.tape,hP.fr.output,hP.fr.size,fun b' hb' _ => ?_⟩,⟨rfl,fun i cs' hi => ?_⟩,pV.2 ⟨(b,cs.size,ty+1),cap,⟨rfl,by simp⟩,hv1,hle,by simpa using t2⟩,dn rfl,fun b' hb' => ?_,fun b' => ?_,fun b' hb' => ?_⟩
 .rw[hM2] at e;split at e
  .cases e
  .exact hP.mem b' o u e
 .have:=rQ _ _ (hmem b' o u e).1;simp only at this;rw[hM2,aI (by omega)]; exact hP.le.mem b' o u e
 .have h1:=hP.fr.blk b' hb' (hz' w b');exact ⟨h1.1,fun o=>by rw[hM2,aI (by omega)]; exact h1.2 o⟩
 .cases i with
  | succ i=>simp at hi
  | zero =>simp at hi;subst hi;refine ⟨(b,cs.size,ty+1),rfl,cs,ty+1,zV t1,⟨rfl,rfl⟩,by rw[hfl]; exact hcap,fun j p hj => ?_,fun o=>by rw[hM2,aH rfl]⟩;obtain ⟨a1,a2,a3,a4⟩:=hpl' p (iV hj);obtain ⟨u,hu,hr⟩:=aG6 hL hpl hj;rw[jW] at hu;have hc:=(hP.mem _ _ _ hu);refine ⟨u,?_,Ld p a3 hr,dn (F6 a3),hc.2⟩;have:=hc.1;simpa[World.cell?,t1] using this
 .rw[hH,hz',aI (by omega),bu rfl]; omega
 .have:=hP.cnt b';rw[hz',hown] at this;rw[hH,bu rfl]; omega
 .have:=hP.new b' hb';rw[hz',hown] at this;rw[hH,bu rfl]; omega
theorem bAK (f:Nat->Nat):∀ {p:PV},qJ p=true->iQ f p=p:=fun {p} h=>by obtain ⟨h1,h2,h3,_⟩:=Lc h;cases p<;>first | rfl | (simp[PV.qp] at h3; done) | (simp[PV.isAgg] at h1; done) | exact absurd rfl (h2 _)
theorem a1O (f:Nat->Nat):∀ {ps:List PV},ps.all qJ=true->jC f ps=ps
 | [],_=>rfl
 | p::ps,h=>by simp only[rM,aY] at h;rw[jC,bAK f h.1,a1O f h.2]
mutual
theorem aI8 (f:Nat->Nat):∀ p:PV,p.flat=true->iQ f p=p
 | .func _ a c,h=>by simp only[PV.flat,aY] at h; simp only[iQ,IM f a h.1,IM f c h.2]
 | .agg cs,h=>by simp only[PV.flat] at h; simp only[iQ,IM f cs h]
 | .tuple cs,h=>by simp only[PV.flat] at h; simp only[iQ,IM f cs h]
 | .ptr _ _,h=>by simp[PV.flat] at h
 | .bf _ _,h=>by simp[PV.flat] at h
 | .slh _ _ _ _,h=>by simp[PV.flat] at h
 | .int _ _,_=>rfl
 | .bool _,_=>rfl
 | .str _,_=>rfl
 | .nilp,_=>rfl
 | .raw _,_=>rfl
 | .cst _,_=>rfl
 | .sl _ _ _,_=>rfl
 | .bg _,_=>rfl
 | .eH _ _ _ _,_=>rfl
 | .mp _,_=>rfl
theorem IM (f:Nat->Nat):∀ ps:List PV,PV.flats ps=true->jC f ps=ps
 | [],_=>rfl
 | p::ps,h=>by simp only[PV.flats,aY] at h;rw[jC,aI8 f p h.1,IM f ps h.2]
end
mutual
theorem a6C {D:Nat->Bool}:∀ p:PV,p.flat=true->p.allI D=true
 | .func _ a c,h=>by simp only[PV.flat,aY] at h; simp only[PV.allI,GN a h.1,GN c h.2,wF]
 | .agg cs,h=>by simp only[PV.flat] at h; simp only[PV.allI,GN cs h]
 | .tuple cs,h=>by simp only[PV.flat] at h; simp only[PV.allI,GN cs h]
 | .ptr _ _,h=>by simp[PV.flat] at h
 | .bf _ _,h=>by simp[PV.flat] at h
 | .slh _ _ _ _,h=>by simp[PV.flat] at h
 | .int _ _,_=>rfl
 | .bool _,_=>rfl
 | .str _,_=>rfl
 | .nilp,_=>rfl
 | .raw _,_=>rfl
 | .cst _,_=>rfl
 | .sl _ _ _,_=>rfl
 | .bg _,_=>rfl
 | .eH _ _ _ _,_=>rfl
 | .mp _,_=>rfl
theorem GN {D:Nat->Bool}:∀ ps:List PV,PV.flats ps=true->PV.kR D ps=true
 | [],_=>rfl
 | p::ps,h=>by simp only[PV.flats,aY] at h;simp only[PV.kR,a6C p h.1,GN ps h.2,wF]
end
theorem Ev.thaw {P:Program} {g:FuncId} {args:List PV} {es:List PV} {H:aF} (h0:Ev P g args [] (.sl true 1 es) []) (ha:PV.flats args=true) (hpos:0<es.length) (hpl:es.all qJ=true):Ev P g args H (.slh H.length 0 es.length 1) (H ++ [some es]):=by
 have h1:=Ev.bDI h0 hpos hpl;have e1:jC (oQ []) args=args:=IM _ _ ha;have h2:=Ev.sub (ids := []) (H:=H) (big:=args) (r := .slh 0 0 es.length 1) (h' := [some es]) (by rw[e1]; exact h1) rfl (fun i hi=>by simp at hi) (by
  have:∀ ps:List PV,PV.flats ps=true->PV.kR (kW []) ps=true:=fun ps h=>GN ps h
  exact this args ha) (fun i cs hi=>by simp at hi)
 have e2:rq [] H [some es]=H ++ [some es]:=by simp only[rq,aj,NF,ND,o8,jV,lZ];rw[a1O _ hpl]
 have e3:iQ (nK [] H.length) (.slh 0 0 es.length 1) = .slh H.length 0 es.length 1:=by simp[iQ,nK]
 rw[e2,e3] at h2;exact h2
theorem Ev.bDJ {P:Program} {g:FuncId} {args:List PV} {sz:Nat} {es:List PV} {H:aF} (h0:Ev P g args [] (.sl true sz es) []) (ha:PV.flats args=true) (hpos:0<es.length) (hpl:es.all (vY sz)=true):Ev P g args H (.slh H.length 0 es.length sz) (H ++ [some (dG es)]):=by
 have h1:=Ev.bDK h0 hpos hpl;have e1:jC (oQ []) args=args:=IM _ _ ha;have h2:=Ev.sub (ids := []) (H:=H) (big:=args) (r := .slh 0 0 es.length sz) (h' := [some (dG es)]) (by rw[e1]; exact h1) rfl (fun i hi=>by simp at hi) (by
  have:∀ ps:List PV,PV.flats ps=true->PV.kR (kW []) ps=true:=fun ps h=>GN ps h
  exact this args ha) (fun i cs hi=>by simp at hi)
 have e2:rq [] H [some (dG es)]=H ++ [some (dG es)]:=by simp only[rq,aj,NF,ND,o8,jV,lZ];rw[a1O _ (YP hpl)]
 have e3:iQ (nK [] H.length) (.slh 0 0 es.length sz) = .slh H.length 0 es.length sz:=by simp[iQ,nK]
 rw[e2,e3] at h2;exact h2
end Go.Proofs.YtcdceiloganlnaaGreatDoor
end
